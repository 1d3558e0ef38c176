/- Small tests of the whistle, and where lists lie. For all lists. -/
import Derived.Test.YtpkafcoflgbnaaaWLast
import Derived.Test.YtpkafcoflgbnaaaWMore
import Derived.Test.YtpkafcoflgbnaaaProg
import Derived.Test.YtpkafcoflgbnaaaShelf
import Derived.OwnWalk
import Derived.Handy
import Derived.Deep.DeepMust
import Derived.Lib.Hide
import Derived.Outline
import Derived.IntWalk
import Derived.Deep.RegionWith
namespace Go.Proofs.Ytpkafcoflgbnaaa.Q
open Go.RowKit Go.Proofs.YtpkafcoflgbnaaaW.PrintWords Go.Proofs.YtpkafcoflgbnaaaW.PrintLast Go.Proofs.YtpkafcoflgbnaaaW.PrintMore 
set_option linter.unusedVariables false
set_option linter.unusedSimpArgs false
/-! The tests of lengths and weights; cells of lists that came in. -/
theorem int_cells {w : World} {ad : Addr} {l : List Int} (h : Kd.C (Kd.int .i64) w (some ad) l.length l) : ∀ j, j < l.length → w.cell? (ad.add j) = some (.int .i64 l[j]!) := by
  intro j hj
  obtain ⟨ad2, e, hc⟩ := Kd.at_int h (j : Int) (by omega) (by omega)
  cases e
  rw [Int.toNat_natCast] at hc
  rw [hc]
  congr 2
  unfold rd
  rw [Int.toNat_natCast, List.getD_eq_getElem?_getD, List.getElem?_eq_getElem hj, getElem!_pos l j hj]
  rfl
theorem str_cells {w : World} {ad : Addr} {l : List ByteArray} (h : Kd.C Kd.string w (some ad) l.length l) : ∀ j, j < l.length → w.cell? (ad.add j) = some (.string (l.getD j ByteArray.empty)) := by
  intro j hj
  obtain ⟨ad2, e, hc⟩ := Kd.at_string h (j : Int) (by omega) (by omega)
  cases e
  rw [Int.toNat_natCast] at hc
  rw [hc]
  congr 2
theorem add_none (b off j : Nat) : (⟨b, off, none⟩ : Addr).add j = ⟨b, off + j, none⟩ := by
  unfold Addr.add
  by_cases h : j = 0
  · rw [if_pos h, h]; rfl
  · rw [if_neg h]
theorem spot_none {w : World} {b off : Nat} {v : Option Nat} {x : Value} (h0 : w.cell? ((⟨b, off, v⟩ : Addr).add 0) = some x) : v = none := by
  unfold World.cell? at h0
  cases v with
  | none => rfl
  | some q =>
    exfalso
    have e : ((⟨b, off, some q⟩ : Addr).add 0).spot = some q := rfl
    rw [e] at h0
    split at h0
    · simp at h0
    · cases h0
/-- Where a list that came in lies. -/
theorem int_at {w : World} {A : Option Addr} {l : List Int} (h : Kd.C (Kd.int .i64) w A l.length l) : l = [] ∨ ∃ b off, A = some ⟨b, off, none⟩ ∧ ∀ j, j < l.length → w.cell? ⟨b, off + j, none⟩ = some (.int .i64 l[j]!) := by
  by_cases hz : l.length = 0
  · exact .inl (List.eq_nil_of_length_eq_zero hz)
  · right
    obtain ⟨ad, e, _⟩ := h.2.2 (by omega)
    subst e
    have hc := int_cells h
    obtain ⟨b, off, v⟩ := ad
    have hv := spot_none (hc 0 (by omega))
    subst hv
    exact ⟨b, off, rfl, fun j hj => by have := hc j hj; rw [add_none] at this; exact this⟩
theorem str_at {w : World} {A : Option Addr} {l : List ByteArray} (h : Kd.C Kd.string w A l.length l) : l = [] ∨ ∃ b off, A = some ⟨b, off, none⟩ ∧ ∀ j, j < l.length → w.cell? ⟨b, off + j, none⟩ = some (.string (l.getD j ByteArray.empty)) := by
  by_cases hz : l.length = 0
  · exact .inl (List.eq_nil_of_length_eq_zero hz)
  · right
    obtain ⟨ad, e, _⟩ := h.2.2 (by omega)
    subst e
    have hc := str_cells h
    obtain ⟨b, off, v⟩ := ad
    have hv := spot_none (hc 0 (by omega))
    subst hv
    exact ⟨b, off, rfl, fun j hj => by have := hc j hj; rw [add_none] at this; exact this⟩
def outW (lo hi : Int) (x : Int) : Bool := decide (x < lo) || decide (x > hi)
theorem lenW_calls (x : Int) (w : World) : Calls Try.prog 104 #[.int .i64 x] w fun e w' => e = .returned (.bool (outW 1 12 x)) ∧ ∃ q, w' = w.drewN q := by
  by_cases h : x < 1
  · have Hr := Lib.hid (show outW 1 12 x = true by unfold outW; rw [decide_eq_true h]; rfl)
    rw [Hr.out]
    have h1 := decide_eq_true h
    go_enter Try.func104, Try.ntmps104
    go_wp2
    first | go_end0 | go_returns | go_ret
    exact ⟨rfl, 0, rfl⟩
  · have Hr := Lib.hid (show outW 1 12 x = decide (x > 12) by unfold outW; rw [decide_eq_false h]; rfl)
    rw [Hr.out]
    have h1 : decide (x < 1) = false := decide_eq_false h
    clear h
    go_enter Try.func104, Try.ntmps104
    go_wp2
    first | go_end0 | go_returns | go_ret
    exact ⟨rfl, 0, rfl⟩
theorem wgtW_calls (x : Int) (w : World) : Calls Try.prog 109 #[.int .i64 x] w fun e w' => e = .returned (.bool (outW 0 1000 x)) ∧ ∃ q, w' = w.drewN q := by
  by_cases h : x < 0
  · have Hr := Lib.hid (show outW 0 1000 x = true by unfold outW; rw [decide_eq_true h]; rfl)
    rw [Hr.out]
    have h1 := decide_eq_true h
    go_enter Try.func109, Try.ntmps109
    go_wp2
    first | go_end0 | go_returns | go_ret
    exact ⟨rfl, 0, rfl⟩
  · have Hr := Lib.hid (show outW 0 1000 x = decide (x > 1000) by unfold outW; rw [decide_eq_false h]; rfl)
    rw [Hr.out]
    have h1 : decide (x < 0) = false := decide_eq_false h
    clear h
    go_enter Try.func109, Try.ntmps109
    go_wp2
    first | go_end0 | go_returns | go_ret
    exact ⟨rfl, 0, rfl⟩
/-- ContainsFunc over a list of numbers that came in. -/
theorem anyI_calls (p : Int → Bool) (g : Nat) (eg : ∀ args w, (callFunc g args).run Try.prog w = .ok (.enter g args) w) (hp : ∀ x w, Calls Try.prog g #[.int .i64 x] w fun e w' => e = .returned (.bool (p x)) ∧ ∃ q, w' = w.drewN q)
    (A0 : Option Addr) (c0 : Nat) (l0 : List Int) (w : World) (hr0 : Kd.C (Kd.int .i64) w A0 l0.length l0) :
    Calls Try.prog 103 #[.slice A0 l0.length c0, .func (.func g) #[] #[]] w fun e w' => e = .returned (.bool (l0.any p)) ∧ ∃ q, w' = w.drewN q := by
  rcases int_at hr0 with e | ⟨b, off, e, hc⟩
  · subst e
    refine (Try.slices_ContainsFunc_empty_f103 (α := Int) A0 c0 (.func (.func g) #[] #[]) w).mono ?_
    rintro e w' ⟨rfl, rfl⟩
    exact ⟨rfl, 0, rfl⟩
  · subst e
    refine (Try.slices_ContainsFunc_f103 (Value.int .i64) p g #[] eg b off l0.length c0 l0 w (fun W x _ => hp x W) (Nat.le_refl _) hr0.2.1 hc).mono ?_
    rintro e w' ⟨rfl, q, rfl⟩
    rw [List.take_length]
    exact ⟨rfl, q, rfl⟩
def oneTo (lo hi : Int) (l : List Int) : Bool := !(decide (l.length < 1) || decide (12 < l.length) || l.any (outW lo hi))
def errB (b : Bool) : Int := if b = true then 0 else 1
theorem isLengths_calls (A0 : Option Addr) (c0 : Nat) (l0 : List Int) (w : World) (hr0 : Kd.C (Kd.int .i64) w A0 l0.length l0) :
    Calls Try.prog 70 #[.slice A0 l0.length c0] w fun e w' => e = .returned (.int .i64 (errB (oneTo 1 12 l0))) ∧ Below w.heap.size w w' := by
  have hm := hr0.2.1
  have hany := anyI_calls (outW 1 12) 104 (enters_of Try.func104 (by kernel_rfl) rfl) lenW_calls A0 c0 l0 w hr0
  by_cases h1 : l0.length < 1
  · have Hr := Lib.hid (show oneTo 1 12 l0 = false by unfold oneTo; simp [h1])
    have h1' := decide_eq_true h1
    have h1z : decide ((l0.length : Int) < 1) = true := decide_eq_true (by omega)
    clear h1 hr0
    go_enter Try.func70, Try.ntmps70
    go_wp2
    first | go_end0 | go_returns | go_ret
    exact ⟨by rw [Hr.out]; rfl, Below.refl _ _⟩
  · have h1' := decide_eq_false h1
    have h1z : decide ((l0.length : Int) < 1) = false := decide_eq_false (by omega)
    by_cases h2 : 12 < l0.length
    · have Hr := Lib.hid (show oneTo 1 12 l0 = false by unfold oneTo; simp [h2])
      have h2' := decide_eq_true h2
      have h2z : decide ((l0.length : Int) > 12) = true := decide_eq_true (by omega)
      clear h1 h2 hr0
      go_enter Try.func70, Try.ntmps70
      go_wp2
      first | go_end0 | go_returns | go_ret
      exact ⟨by rw [Hr.out]; rfl, Below.refl _ _⟩
    · have h2' := decide_eq_false h2
      have h2z : decide ((l0.length : Int) > 12) = false := decide_eq_false (by omega)
      have Hr := Lib.hid (show oneTo 1 12 l0 = !(l0.any (outW 1 12)) by unfold oneTo; simp [h1, h2])
      clear h1 h2 hr0
      cases hb : l0.any (outW 1 12)
      all_goals
        rw [hb] at hany
        rw [hb] at Hr
        go_enter Try.func70, Try.ntmps70
        go_wp2_with (first | (go_at_call 103; go_must (with_reducible refine hany.mono ?_); rintro e w' ⟨rfl, q, rfl⟩))
        first | go_end0 | go_returns | go_ret
        exact ⟨by rw [Hr.out]; rfl, pw_below_drewN (Below.refl _ _) q⟩
theorem weighed_calls (A0 : Option Addr) (c0 : Nat) (l0 : List Int) (w : World) (hr0 : Kd.C (Kd.int .i64) w A0 l0.length l0) :
    Calls Try.prog 88 #[.slice A0 l0.length c0] w fun e w' => e = .returned (.int .i64 (errB (oneTo 0 1000 l0))) ∧ Below w.heap.size w w' := by
  have hm := hr0.2.1
  have hany := anyI_calls (outW 0 1000) 109 (enters_of Try.func109 (by kernel_rfl) rfl) wgtW_calls A0 c0 l0 w hr0
  by_cases h1 : l0.length < 1
  · have Hr := Lib.hid (show oneTo 0 1000 l0 = false by unfold oneTo; simp [h1])
    have h1' := decide_eq_true h1
    have h1z : decide ((l0.length : Int) < 1) = true := decide_eq_true (by omega)
    clear h1 hr0
    go_enter Try.func88, Try.ntmps88
    go_wp2
    first | go_end0 | go_returns | go_ret
    exact ⟨by rw [Hr.out]; rfl, Below.refl _ _⟩
  · have h1' := decide_eq_false h1
    have h1z : decide ((l0.length : Int) < 1) = false := decide_eq_false (by omega)
    by_cases h2 : 12 < l0.length
    · have Hr := Lib.hid (show oneTo 0 1000 l0 = false by unfold oneTo; simp [h2])
      have h2' := decide_eq_true h2
      have h2z : decide ((l0.length : Int) > 12) = true := decide_eq_true (by omega)
      clear h1 h2 hr0
      go_enter Try.func88, Try.ntmps88
      go_wp2
      first | go_end0 | go_returns | go_ret
      exact ⟨by rw [Hr.out]; rfl, Below.refl _ _⟩
    · have h2' := decide_eq_false h2
      have h2z : decide ((l0.length : Int) > 12) = false := decide_eq_false (by omega)
      have Hr := Lib.hid (show oneTo 0 1000 l0 = !(l0.any (outW 0 1000)) by unfold oneTo; simp [h1, h2])
      clear h1 h2 hr0
      cases hb : l0.any (outW 0 1000)
      all_goals
        rw [hb] at hany
        rw [hb] at Hr
        go_enter Try.func88, Try.ntmps88
        go_wp2_with (first | (go_at_call 103; go_must (with_reducible refine hany.mono ?_); rintro e w' ⟨rfl, q, rfl⟩))
        first | go_end0 | go_returns | go_ret
        exact ⟨by rw [Hr.out]; rfl, pw_below_drewN (Below.refl _ _) q⟩
end Go.Proofs.Ytpkafcoflgbnaaa.Q
