/- Blocks sorted by their series and numbers, as Join of the rings does it. For all lists of blocks of at most 12. -/
import Derived.Test.YtlbhighbhchdmaaQx0
import Derived.Test.YtlbhighbhchdmaaShelf
import Derived.Test.YtlbhighbhchdmaaLeq
import Derived.Shelf.SlSortCmp.SmallK
import Derived.OwnWalk
import Derived.Handy
import Derived.Deep.DeepMust
import Derived.Deep.RegionWith
namespace Go.Proofs.Ytlbhighbhchdmaa.Q
open Go.RowKit Go.Proofs.YtlbhighbhchdmaaW.PrintWords Go.Proofs.YtlbhighbhchdmaaW.PrintLast Go.Proofs.YtlbhighbhchdmaaW.PrintMore
set_option linter.unusedVariables false
set_option linter.unusedSimpArgs false
instance : Inhabited S79 := ⟨z79⟩
def encBk (x : S79) : List Value := [.string x.f0, .int .i64 x.f1, .int .i64 x.f2]
def cmpStr (a b : ByteArray) : Int := if Op.bytesLess a.toList b.toList = true then -1 else if Op.bytesLess b.toList a.toList = true then 1 else 0
def cmpInt (a b : Int) : Int := if a < b then -1 else if b < a then 1 else 0
def cmpB (x y : S79) : Int := if cmpStr x.f0 y.f0 ≠ 0 then cmpStr x.f0 y.f0 else cmpInt x.f1 y.f1
def sortB (l : List S79) : List S79 := (Go.Sort.insertionSort (Go.Proofs.ltOf cmpB) l.toArray 0 l.length).toList
set_option maxHeartbeats 1600000 in
theorem cmpStr_calls (a b : ByteArray) (w : World) : Calls Try.prog 92 #[.string a, .string b] w fun e w' => e = .returned (.int .i64 (cmpStr a b)) ∧ w' = w := by
  have hgt := put_gtr
  have hne : ∀ (x : ByteArray), (x.toList != x.toList) = false := fun x => by simp
  by_cases h1 : Op.bytesLess a.toList b.toList = true
  · have Hr := Lib.hid (show cmpStr a b = -1 by unfold cmpStr; rw [if_pos h1])
    rw [Hr.out]
    go_enter Try.func92, Try.ntmps92
    go_wp2
    all_goals (first | go_end0 | go_returns | go_ret)
    all_goals exact ⟨rfl, rfl⟩
  · have h1' := Bool.eq_false_iff.mpr h1
    by_cases h2 : Op.bytesLess b.toList a.toList = true
    · have Hr := Lib.hid (show cmpStr a b = 1 by unfold cmpStr; rw [if_neg h1, if_pos h2])
      rw [Hr.out]
      clear h1
      go_enter Try.func92, Try.ntmps92
      go_wp2
      all_goals (first | go_end0 | go_returns | go_ret)
      all_goals exact ⟨rfl, rfl⟩
    · have h2' := Bool.eq_false_iff.mpr h2
      have Hr := Lib.hid (show cmpStr a b = 0 by unfold cmpStr; rw [if_neg h1, if_neg h2])
      rw [Hr.out]
      clear h1 h2
      go_enter Try.func92, Try.ntmps92
      go_wp2
      all_goals (first | go_end0 | go_returns | go_ret)
      all_goals exact ⟨rfl, rfl⟩
set_option maxHeartbeats 1600000 in
theorem cmpInt_calls (a b : Int) (w : World) : Calls Try.prog 93 #[.int .i64 a, .int .i64 b] w fun e w' => e = .returned (.int .i64 (cmpInt a b)) ∧ w' = w := by
  have hne : ∀ (x : Int), (x != x) = false := fun x => by simp
  by_cases h1 : a < b
  · have Hr := Lib.hid (show cmpInt a b = -1 by unfold cmpInt; rw [if_pos h1])
    rw [Hr.out]
    have h1' := decide_eq_true h1
    go_enter Try.func93, Try.ntmps93
    go_wp2
    all_goals (first | go_end0 | go_returns | go_ret)
    all_goals exact ⟨rfl, rfl⟩
  · have h1' : decide (a < b) = false := decide_eq_false h1
    by_cases h2 : b < a
    · have Hr := Lib.hid (show cmpInt a b = 1 by unfold cmpInt; rw [if_neg h1, if_pos h2])
      rw [Hr.out]
      have h2' := decide_eq_true h2
      go_enter Try.func93, Try.ntmps93
      go_wp2
      all_goals (first | go_end0 | go_returns | go_ret)
      all_goals exact ⟨rfl, rfl⟩
    · have h2' : decide (b < a) = false := decide_eq_false h2
      have Hr := Lib.hid (show cmpInt a b = 0 by unfold cmpInt; rw [if_neg h1, if_neg h2])
      rw [Hr.out]
      go_enter Try.func93, Try.ntmps93
      go_wp2
      all_goals (first | go_end0 | go_returns | go_ret)
      all_goals exact ⟨rfl, rfl⟩
set_option maxHeartbeats 1600000 in
/-- cmp.Or of two numbers: the first one that is not 0. -/
theorem or_calls (x y : Int) (g cap : Nat) (w : World) (hx : w.cell? ⟨g, 0, none⟩ = some (.int .i64 x)) (hy : w.cell? ⟨g, 1, none⟩ = some (.int .i64 y)) :
    Calls Try.prog 91 #[.slice (some ⟨g, 0, none⟩) 2 cap] w fun e w' => e = .returned (.int .i64 (if x ≠ 0 then x else y)) ∧ w' = w := by
  by_cases h1 : x = 0
  · have Hr := Lib.hid (show (if x ≠ 0 then x else y) = y from if_neg (fun h => h h1))
    rw [Hr.out]
    subst h1
    by_cases h2 : y = 0
    · subst h2
      go_enter Try.func91, Try.ntmps91
      go_wp2
      go_loop [8] (fun v => ∃ k : Nat, k ≤ 2 ∧ v = .int .i64 (k : Int)) (fun v => 2 - (intOf v).toNat)
      case atStart => exact ⟨0, by omega, rfl⟩
      case round =>
        obtain ⟨k, hk, rfl⟩ := hrel
        rcases (by omega : k = 0 ∨ k = 1 ∨ k = 2) with rfl | rfl | rfl
        · go_wp2
          exact ⟨⟨1, by omega, by go_num⟩, by simp [intOf]⟩
        · go_wp2
          exact ⟨⟨2, by omega, by go_num⟩, by simp [intOf]⟩
        · go_wp2
          first | go_end0 | go_returns | go_ret
          exact ⟨rfl, rfl⟩
    · have hb : (y != 0) = true := by simpa using h2
      clear h2
      go_enter Try.func91, Try.ntmps91
      go_wp2
      go_loop [8] (fun v => ∃ k : Nat, k ≤ 1 ∧ v = .int .i64 (k : Int)) (fun v => 2 - (intOf v).toNat)
      case atStart => exact ⟨0, by omega, rfl⟩
      case round =>
        obtain ⟨k, hk, rfl⟩ := hrel
        rcases (by omega : k = 0 ∨ k = 1) with rfl | rfl
        · go_wp2
          exact ⟨⟨1, by omega, by go_num⟩, by simp [intOf]⟩
        · go_wp2
          first | go_end0 | go_returns | go_ret
          exact ⟨rfl, rfl⟩
  · have Hr := Lib.hid (show (if x ≠ 0 then x else y) = x from if_pos h1)
    rw [Hr.out]
    have hb : (x != 0) = true := by simpa using h1
    clear h1
    go_enter Try.func91, Try.ntmps91
    go_wp2
    go_loop [8] (fun v => ∃ k : Nat, k ≤ 0 ∧ v = .int .i64 (k : Int)) (fun v => 2 - (intOf v).toNat)
    case atStart => exact ⟨0, by omega, rfl⟩
    case round =>
      obtain ⟨k, hk, rfl⟩ := hrel
      obtain rfl : k = 0 := by omega
      go_wp2
      first | go_end0 | go_returns | go_ret
      exact ⟨rfl, rfl⟩
end Go.Proofs.Ytlbhighbhchdmaa.Q
