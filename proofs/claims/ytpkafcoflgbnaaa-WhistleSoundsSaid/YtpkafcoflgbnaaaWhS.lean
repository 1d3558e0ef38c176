/- The reference's leftover, and its Sound. -/
import Derived.Test.YtpkafcoflgbnaaaWLast
import Derived.Test.YtpkafcoflgbnaaaWMore
import Derived.Test.YtpkafcoflgbnaaaProg
import Derived.Test.YtpkafcoflgbnaaaShelf
import Derived.OwnWalk
import Derived.Handy
import Derived.Deep.DeepMust
import Derived.Lib.Hide
import Derived.Outline
import Derived.IntWalk
import Derived.Deep.RegionWith
import Derived.Test.YtpkafcoflgbnaaaWhD
import Derived.Test.YtpkafcoflgbnaaaWhH
import Derived.BigQuiet
import Derived.Deep.QuietTactic
namespace Go.Proofs.Ytpkafcoflgbnaaa.Q
open Go.RowKit Go.Proofs.YtpkafcoflgbnaaaW.PrintWords Go.Proofs.YtpkafcoflgbnaaaW.PrintLast Go.Proofs.YtpkafcoflgbnaaaW.PrintMore 
set_option linter.unusedVariables false
set_option linter.unusedSimpArgs false
/-! The reference's leftover; its Sound and CheckAlike over lists of messages. -/
def leftP (x y : ByteArray) : ByteArray × Bool := if y.size < x.size then (x.extract y.size x.size, headB x y) else (y.extract x.size y.size, decide (x.size < y.size) && headB y x)
theorem left_walk (x y : ByteArray) (w : World) (hx : x.size ≤ 9223372036854775807) (hy : y.size ≤ 9223372036854775807) (hbeg : ∀ a b W, Calls Try.prog 59 #[.string a, .string b] W fun e w' => e = .returned (.bool (headB a b)) ∧ ∃ q, w' = W.drewN q) :
    Calls Try.prog 99 #[.string x, .string y] w fun e w' => e = .returned (.tuple #[.string (leftP x y).1, .bool (leftP x y).2]) ∧ Below w.heap.size w w' := by
  by_cases h : y.size < x.size
  · have Hl := Lib.hid (show leftP x y = (x.extract y.size x.size, headB x y) by unfold leftP; rw [if_pos h])
    rw [Hl.out]
    have h1 : decide ((x.size : Int) > (y.size : Int)) = true := decide_eq_true (by omega)
    have h1' : decide (x.size > y.size) = true := decide_eq_true h
    have h2 : decide ((y.size : Int) < (x.size : Int)) = true := decide_eq_true (by omega)
    have h2' : decide (y.size < x.size) = true := decide_eq_true h
    have h3 : ¬ x.size < y.size := by omega
    have hb := fun W => hbeg x y W
    clear hbeg
    go_enter Try.func99, Try.ntmps99
    go_wp2
    go_quiet ((go_at_call 59; exact Calls.quiet_of (hb _)))
    go_wp2
    go_ret2
    refine ⟨?_, pw_below_drewN (Below.refl _ _) _⟩
    show Ending.returned (.tuple #[.string (x.extract (min (y.size : Int) (x.size : Int)).toNat x.size), .bool (headB x y)]) = _
    rw [show (min (y.size : Int) (x.size : Int)).toNat = y.size by omega]
  · by_cases h0 : x.size < y.size
    · have Hl := Lib.hid (show leftP x y = (y.extract x.size y.size, headB y x) by unfold leftP; rw [if_neg h, decide_eq_true h0]; rfl)
      rw [Hl.out]
      have h1 : decide ((x.size : Int) > (y.size : Int)) = false := decide_eq_false (by omega)
      have h1' : decide (x.size > y.size) = false := decide_eq_false h
      have h2 : decide ((x.size : Int) < (y.size : Int)) = true := decide_eq_true (by omega)
      have h2' : decide (x.size < y.size) = true := decide_eq_true h0
      have hb := fun W => hbeg y x W
      clear hbeg
      go_enter Try.func99, Try.ntmps99
      go_wp2
      go_quiet ((go_at_call 59; exact Calls.quiet_of (hb _)))
      go_wp2
      go_ret2
      refine ⟨?_, pw_below_drewN (Below.refl _ _) _⟩
      show Ending.returned (.tuple #[.string (y.extract (min (x.size : Int) (y.size : Int)).toNat y.size), .bool (headB y x)]) = _
      rw [show (min (x.size : Int) (y.size : Int)).toNat = x.size by omega]
    · have Hl := Lib.hid (show leftP x y = (y.extract x.size y.size, false) by unfold leftP; rw [if_neg h, decide_eq_false h0]; rfl)
      rw [Hl.out]
      have e : x.size = y.size := by omega
      have h1 : decide ((x.size : Int) > (y.size : Int)) = false := decide_eq_false (by omega)
      have h1' : decide (x.size > y.size) = false := decide_eq_false h
      have h2 : decide ((x.size : Int) < (y.size : Int)) = false := decide_eq_false (by omega)
      have h2' : decide (x.size < y.size) = false := decide_eq_false h0
      have hle : x.size ≤ y.size := by omega
      clear hbeg e
      go_enter Try.func99, Try.ntmps99
      go_wp2
      go_quiet (fail)
      go_wp2
      go_ret2
      refine ⟨?_, pw_below_drewN (Below.refl _ _) _⟩
      show Ending.returned (.tuple #[.string (y.extract (min (x.size : Int) (y.size : Int)).toNat y.size), .bool (false)]) = _
      rw [show (min (x.size : Int) (y.size : Int)).toNat = x.size by omega]
/-- A list of messages that the call has just laid out. -/
theorem rows_at {W : World} {b : Nat} {L : List (List Int)} (hn : L.length ≤ 9223372036854775807) (h : ∀ j, j < L.length → ∃ A c, W.cell? ⟨b, j, none⟩ = some (.slice A (L.getD j []).length c) ∧ (L.getD j []).length ≤ c ∧ Kd.C (Kd.int .i64) W A (L.getD j []).length (L.getD j [])) :
    Kd.C (Kd.slice 3 (Kd.int .i64)) W (some ⟨b, 0, none⟩) L.length L := by
  refine ⟨rfl, hn, fun _ => ⟨_, rfl, fun j p hj => ?_⟩⟩
  obtain ⟨hlt, hp⟩ := List.getElem?_eq_some_iff.1 hj
  obtain ⟨A, c, h1, h2, h3⟩ := h j hlt
  have e : L.getD j [] = p := by rw [List.getD_eq_getElem?_getD, hj]; rfl
  rw [e] at h1 h2 h3
  refine ⟨[.slice A p.length c], rfl, ⟨A, c, rfl, h2, h3⟩, fun i u hu => ?_⟩
  have hi : i = 0 := by
    have := (List.getElem?_eq_some_iff.1 hu).1
    simp at this; omega
  subst hi
  simp at hu
  subst hu
  rw [show j * (Kd.slice 3 (Kd.int .i64)).sz + 0 = j from Nat.mul_one j, add_none, Nat.zero_add]
  exact h1
def Msgs (A0 : Option Addr) (n0 c0 : Nat) (n : Nat) (L : World → Option Addr → Prop) (r : Int) (w : World) : Prop := ∀ W b, Below w.heap.size w W → L W (some ⟨b, 0, none⟩) → Calls Try.prog 66 #[.slice A0 n0 c0, .slice (some ⟨b, 0, none⟩) n n] W fun e w' => e = .returned (.int .i64 r) ∧ Below W.heap.size W w'
theorem rsound_e0 (A0 : Option Addr) (n0 c0 : Nat) (A1 : Option Addr) (n1 c1 : Nat) (e0 : Int) (w : World) (hne : e0 ≠ 0) (hv : RetI 33 #[.slice A0 n0 c0] e0 w) :
    Calls Try.prog 31 #[.slice A0 n0 c0, .slice A1 n1 c1] w fun e w' => e = .returned (.tuple #[.string ⟨#[]⟩, .int .i64 e0]) ∧ Below w.heap.size w w' := by
  have h1 : (e0 == 0) = false := by simpa using hne
  have h2 : (e0 != 0) = true := by simpa using hne
  clear hne
  unfold RetI at hv
  go_enter Try.func31, Try.ntmps31
  go_wp2_with (first | (go_at_call 33; go_must (with_reducible refine hv.mono ?_); rintro e w' ⟨rfl, hb⟩))
  go_ret2
  exact ⟨rfl, hb⟩
set_option maxHeartbeats 2000000 in
theorem rsound_e1 (A0 : Option Addr) (n0 c0 : Nat) (A1 : Option Addr) (n1 c1 : Nat) (e1 : Int) (w : World) (hne : e1 ≠ 0) (hv : RetI 33 #[.slice A0 n0 c0] 0 w) (hm : ∀ W, Below w.heap.size w W → RetI 66 #[.slice A0 n0 c0, .slice (some ⟨W.heap.size, 0, none⟩) 1 1] e1 (W.alloc (.cells #[.slice A1 n1 c1] 35))) :
    Calls Try.prog 31 #[.slice A0 n0 c0, .slice A1 n1 c1] w fun e w' => e = .returned (.tuple #[.string ⟨#[]⟩, .int .i64 e1]) ∧ Below w.heap.size w w' := by
  have h1 : (e1 == 0) = false := by simpa using hne
  have h2 : (e1 != 0) = true := by simpa using hne
  clear hne
  have HM := Lib.hid hm
  clear hm
  unfold RetI at hv
  go_enter Try.func31, Try.ntmps31
  go_wp2_with (first | (go_at_call 33; go_must (with_reducible refine hv.mono ?_); rintro _ w1 ⟨rfl, hb⟩; have hm1 := HM.out _ hb; unfold RetI at hm1) | (go_at_call 66; go_must (with_reducible refine hm1.mono ?_); rintro _ w2 ⟨rfl, hb2⟩))
  go_ret2
  exact ⟨rfl, (hb.alloc hb.size _).trans (hb2.mono (hb.alloc hb.size _).size)⟩
set_option maxHeartbeats 2000000 in
theorem rsound_ok (A0 : Option Addr) (n0 c0 : Nat) (A1 : Option Addr) (n1 c1 : Nat) (s : ByteArray) (w : World) (hv : RetI 33 #[.slice A0 n0 c0] 0 w) (hm : ∀ W, Below w.heap.size w W → RetI 66 #[.slice A0 n0 c0, .slice (some ⟨W.heap.size, 0, none⟩) 1 1] 0 (W.alloc (.cells #[.slice A1 n1 c1] 35)))
    (hs : AtLater w (RetS 67 #[.slice A0 n0 c0, .slice A1 n1 c1] s)) :
    Calls Try.prog 31 #[.slice A0 n0 c0, .slice A1 n1 c1] w fun e w' => e = .returned (.tuple #[.string s, .int .i64 0]) ∧ Below w.heap.size w w' := by
  have HM := Lib.hid hm
  have HS := hs.hid
  clear hm hs
  unfold RetI at hv
  go_enter Try.func31, Try.ntmps31
  go_wp2_with (first | (go_at_call 33; go_must (with_reducible refine hv.mono ?_); rintro _ w1 ⟨rfl, hb⟩; have hm1 := HM.out _ hb; unfold RetI at hm1; have hb1 := hb.alloc hb.size (.cells #[.slice A1 n1 c1] 35)) | (go_at_call 66; go_must (with_reducible refine hm1.mono ?_); rintro _ w2 ⟨rfl, hb2⟩; have hb3 := hb1.trans (hb2.mono hb1.size); have hs1 := HS.out _ hb3; unfold RetS at hs1) | (go_at_call 67; go_must (with_reducible refine hs1.mono ?_); rintro _ w3 ⟨rfl, hb4⟩))
  go_ret2
  exact ⟨rfl, hb3.trans (hb4.mono hb3.size)⟩
end Go.Proofs.Ytpkafcoflgbnaaa.Q
