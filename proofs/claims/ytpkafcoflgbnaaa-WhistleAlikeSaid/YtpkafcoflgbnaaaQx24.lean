-- Written by a program of this session (wip/tools/gprint.py, over the kit's print); Lean checks it.
import Derived.Test.YtpkafcoflgbnaaaWh3
import Derived.Test.YtpkafcoflgbnaaaQx0
import Derived.Test.YtpkafcoflgbnaaaQx2
import Derived.Test.YtpkafcoflgbnaaaQx11
import Derived.Test.YtpkafcoflgbnaaaQx22
namespace Go.Proofs.Ytpkafcoflgbnaaa.Q
open Go.RowKit Go.Proofs.YtpkafcoflgbnaaaW.PrintWords Go.Proofs.YtpkafcoflgbnaaaW.PrintLast Go.Proofs.YtpkafcoflgbnaaaW.PrintMore
attribute [local go_sem] max2_int min2_int max_two min_two max_three min_three max_four min_four   -- for this text's walks alone
set_option linter.unusedVariables false
set_option linter.unusedSimpArgs false

/-! ### wigeonref05_SameInts: function 51 -/
def wigeonref05_SameInts.l0 : Nat → List Int → List Int → Int → Option (Bool)
 | 0, _, _, _ => none
 | k + 1, x0, x1, x5 => if x5 < (x0.length : Int) then (if 0 ≤ x5 then (if x5 < (x1.length : Int) then (if (rd x0 x5) = (rd x1 x5) then (wigeonref05_SameInts.l0 k x0 x1 (wrap64 (x5 + 1))) else (some false)) else (none)) else (none)) else (some true)
def wigeonref05_SameInts.f (k : Nat) (l0 : List Int) (l1 : List Int) : Option (Bool) := if (l0.length : Int) = (l1.length : Int) then (wigeonref05_SameInts.l0 k l0 l1 0) else (some false)
theorem wigeonref05_SameInts.mono_l : ∀ k, (∀ y0 y1 y2, LeO (wigeonref05_SameInts.l0 k y0 y1 y2) (wigeonref05_SameInts.l0 (k + 1) y0 y1 y2))
 | 0 => fun _ _ _ r h => by simp [wigeonref05_SameInts.l0] at h
 | k + 1 => by
  have ih0 := wigeonref05_SameInts.mono_l k
  ·intro y0 y1 y2
   unfold wigeonref05_SameInts.l0
   repeat' first
   | (with_reducible exact ih0 _ _ _)
   | (with_reducible exact LeO.refl _)
   | (with_reducible exact LeO.none _)
   | (with_reducible refine LeO.ite ?_ ?_)
   | (with_reducible refine LeO.bind ?_ (fun _ => ?_))
   | exact ih0 _ _ _
   | exact LeO.none _
   | refine LeO.ite ?_ ?_
   | refine LeO.bind ?_ (fun _ => ?_)
theorem wigeonref05_SameInts.mono : ∀ a0 a1 k, LeO (wigeonref05_SameInts.f k a0 a1) (wigeonref05_SameInts.f (k + 1) a0 a1) := by
 intro a0 a1 k
 have ih0 := wigeonref05_SameInts.mono_l k
 unfold wigeonref05_SameInts.f
 repeat' first
   | (with_reducible exact ih0 _ _ _)
   | (with_reducible exact LeO.refl _)
   | (with_reducible exact LeO.none _)
   | (with_reducible refine LeO.ite ?_ ?_)
   | (with_reducible refine LeO.bind ?_ (fun _ => ?_))
   | exact ih0 _ _ _
   | exact LeO.none _
   | refine LeO.ite ?_ ?_
   | refine LeO.bind ?_ (fun _ => ?_)
set_option maxHeartbeats 8000000 in
set_option maxRecDepth 100000 in
theorem wigeonref05_SameInts.calls (k : Nat) (A0 : Option Addr) (c0 : Nat) (l0 : List Int) (A1 : Option Addr) (c1 : Nat) (l1 : List Int) (r : Bool) (w : World) (hr0 : Kd.C (Kd.int .i64) w A0 l0.length l0) (hc0 : l0.length ≤ c0) (hr1 : Kd.C (Kd.int .i64) w A1 l1.length l1) (hc1 : l1.length ≤ c1) (h : wigeonref05_SameInts.f k l0 l1 = some r) :
  Calls Try.prog 51 #[.slice A0 l0.length c0, .slice A1 l1.length c1] w fun e w' => e = .returned (.bool r) ∧ Drawn0 w w' := by
 have HR0 := Aside0.mk hr0
 have HC0 := Aside0.mk hc0
 clear hr0 hc0
 have HR1 := Aside0.mk hr1
 have HC1 := Aside0.mk hc1
 clear hr1 hc1
 have H : (if (l0.length : Int) = (l1.length : Int) then (wigeonref05_SameInts.l0 k l0 l1 0) else (some false)) = some r := h
 clear h
 by_cases c3 : (l0.length : Int) = (l1.length : Int)
 ·rw [if_pos c3] at H
  have c3b0 : ((l0.length : Int) == (l1.length : Int)) = true := beq_iff_eq.mpr c3
  have c3b1 : ((l0.length : Int) != (l1.length : Int)) = false := bne_eq_false_iff_eq.mpr c3
  have c3b2 : (l0.length == l1.length) = true := by first | simpa using c3 | (simp at c3 ⊢; omega)
  clear c3
  have H' := Aside0.mk H
  clear H
  go_enter Try.func51, Try.ntmps51
  go_wp2
  repeat (go_quiet (fail); try go_wp2)
  go_loopg [5] k (fun kq v5 w' => ∃ (x5_1 : Int), v5 = .int .i64 x5_1 ∧ Aside0 (wigeonref05_SameInts.l0 kq l0 l1 x5_1 = some r) ∧ Aside0 (kq ≤ k) ∧ Drawn0 w w')
  case atStart => exact ⟨(0), (by first | rfl | (simp; done) | (simp [*]; done)), H', ⟨Nat.le_refl _⟩, by repeat (first | exact Drawn0.refl _ | apply Drawn0.step)⟩
  case round =>
   clear H'
   try clear c1
   try clear p2
   try clear c3
   try clear c3b0
   try clear c3b1
   try clear c3b2
   obtain ⟨x5_1, rfl, HA, HK1, ⟨m1, rfl⟩⟩ := hrel
   cases gk with
   | zero => exact absurd HA.out (by simp [wigeonref05_SameInts.l0])
   | succ k1 =>
    have H := HA.out
    clear HA
    simp only [wigeonref05_SameInts.l0] at H
    by_cases c4 : x5_1 < (l0.length : Int)
    ·rw [if_pos c4] at H
     have c4b0 : decide (x5_1 < (l0.length : Int)) = true := decide_eq_true c4
     clear c4
     by_cases c5 : 0 ≤ x5_1
     ·rw [if_pos c5] at H
      have c5b0 : decide (0 ≤ x5_1) = true := decide_eq_true c5
      clear c5
      by_cases c6 : x5_1 < (l1.length : Int)
      ·rw [if_pos c6] at H
       have c6b0 : decide (x5_1 < (l1.length : Int)) = true := decide_eq_true c6
       clear c6
       by_cases c7 : (rd l0 x5_1) = (rd l1 x5_1)
       ·rw [if_pos c7] at H
        have c7b0 : ((rd l0 x5_1) == (rd l1 x5_1)) = true := beq_iff_eq.mpr c7
        have c7b1 : ((rd l0 x5_1) != (rd l1 x5_1)) = false := bne_eq_false_iff_eq.mpr c7
        clear c7
        have H' := Aside0.mk H
        clear H
        have p470 : 0 ≤ (x5_1 : Int) := of_decide_eq_true (by first | (with_reducible assumption) | assumption)
        have q470 : x5_1 < (l0.length : Int) := of_decide_eq_true (by first | (with_reducible assumption) | assumption)
        obtain ⟨ad470, e470, hx470_0⟩ := Kd.at_int HR0.out x5_1 p470 q470
        cases e470
        replace p470 := eq_true p470
        replace q470 := eq_true q470
        have p471 : 0 ≤ (x5_1 : Int) := of_decide_eq_true (by first | (with_reducible assumption) | assumption)
        have q471 : x5_1 < (l1.length : Int) := of_decide_eq_true (by first | (with_reducible assumption) | assumption)
        obtain ⟨ad471, e471, hx471_0⟩ := Kd.at_int HR1.out x5_1 p471 q471
        cases e471
        replace p471 := eq_true p471
        replace q471 := eq_true q471
        go_wp2
        repeat (go_quiet (fail); try go_wp2)
        go_roundg k1
        case measure => have := HK1.out; omega
        case rel => exact ⟨(wrap64 (x5_1 + 1)), (by first | rfl | (simp; done) | (simp [*]; done)), H', ⟨by have := HK1.out; omega⟩, by repeat (first | exact Drawn0.refl _ | apply Drawn0.step)⟩
       ·rw [if_neg c7] at H
        have c7b0 : ((rd l0 x5_1) == (rd l1 x5_1)) = false := beq_eq_false_iff_ne.mpr c7
        have c7b1 : ((rd l0 x5_1) != (rd l1 x5_1)) = true := bne_iff_ne.mpr c7
        obtain rfl := Option.some.inj H
        have p470 : 0 ≤ (x5_1 : Int) := of_decide_eq_true (by first | (with_reducible assumption) | assumption)
        have q470 : x5_1 < (l0.length : Int) := of_decide_eq_true (by first | (with_reducible assumption) | assumption)
        obtain ⟨ad470, e470, hx470_0⟩ := Kd.at_int HR0.out x5_1 p470 q470
        cases e470
        replace p470 := eq_true p470
        replace q470 := eq_true q470
        have p471 : 0 ≤ (x5_1 : Int) := of_decide_eq_true (by first | (with_reducible assumption) | assumption)
        have q471 : x5_1 < (l1.length : Int) := of_decide_eq_true (by first | (with_reducible assumption) | assumption)
        obtain ⟨ad471, e471, hx471_0⟩ := Kd.at_int HR1.out x5_1 p471 q471
        cases e471
        replace p471 := eq_true p471
        replace q471 := eq_true q471
        go_wp2
        repeat (go_quiet (fail); try go_wp2)
        go_ret
        exact ⟨by first | rfl | (simp; done) | (simp [*]; done), by repeat (first | exact Drawn0.refl _ | apply Drawn0.step)⟩
      ·rw [if_neg c6] at H
       exact absurd H (by simp)
     ·rw [if_neg c5] at H
      exact absurd H (by simp)
    ·rw [if_neg c4] at H
     have c4b0 : decide (x5_1 < (l0.length : Int)) = false := decide_eq_false c4
     clear c4
     obtain rfl := Option.some.inj H
     go_wp2
     repeat (go_quiet (fail); try go_wp2)
     go_ret
     exact ⟨by first | rfl | (simp; done) | (simp [*]; done), by repeat (first | exact Drawn0.refl _ | apply Drawn0.step)⟩
 ·rw [if_neg c3] at H
  have c3b0 : ((l0.length : Int) == (l1.length : Int)) = false := beq_eq_false_iff_ne.mpr c3
  have c3b1 : ((l0.length : Int) != (l1.length : Int)) = true := bne_iff_ne.mpr c3
  have c3b2 : (l0.length == l1.length) = false := by first | simpa using c3 | (simp at c3 ⊢; omega)
  obtain rfl := Option.some.inj H
  go_enter Try.func51, Try.ntmps51
  go_wp2
  repeat (go_quiet (fail); try go_wp2)
  go_ret
  exact ⟨by first | rfl | (simp; done) | (simp [*]; done), by repeat (first | exact Drawn0.refl _ | apply Drawn0.step)⟩

/-! ### wigeonref05_CheckAlike: function 39 -/
-- GIVEN wigeon/wigeonref05.CheckAlike rounds=1 making=1
def wigeonref05_CheckAlike.f (k : Nat) (l0 : List ByteArray) (l1 l2 : List Int) : Option Int :=
 (wigeonref05_Validate.f k l0).bind fun e0 => if e0 ≠ 0 then some e0 else (wigeonref05_messageOK.f k l0 [l1, l2]).bind fun e1 => if e1 ≠ 0 then some e1 else
 (wigeonref05_SameInts.f k l1 l2).bind fun q => if q = true then some 7 else (wigeonref05_sound.f k l0 l1).bind fun sa => (wigeonref05_sound.f k l0 l2).bind fun sb => if sa.toList = sb.toList then some 0 else some 7
theorem wigeonref05_CheckAlike.mono : ∀ a0 a1 a2 k, LeO (wigeonref05_CheckAlike.f k a0 a1 a2) (wigeonref05_CheckAlike.f (k + 1) a0 a1 a2) := by
 intro a0 a1 a2 k
 unfold wigeonref05_CheckAlike.f
 exact LeO.bind (wigeonref05_Validate.mono _ _) fun e0 => LeO.ite (LeO.refl _) (LeO.bind (wigeonref05_messageOK.mono _ _ _) fun e1 => LeO.ite (LeO.refl _) (LeO.bind (wigeonref05_SameInts.mono _ _ _) fun q => LeO.ite (LeO.refl _) (LeO.bind (wigeonref05_sound.mono _ _ _) fun sa => LeO.bind (wigeonref05_sound.mono _ _ _) fun sb => LeO.refl _)))
theorem wigeonref05_CheckAlike.rows2 (w W : World) (A1 A2 : Option Addr) (c1 c2 : Nat) (l1 l2 : List Int) (hB : Below w.heap.size w W) (hr1 : Kd.C (Kd.int .i64) w A1 l1.length l1) (hc1 : l1.length ≤ c1) (hr2 : Kd.C (Kd.int .i64) w A2 l2.length l2) (hc2 : l2.length ≤ c2) : Kd.C (Kd.slice 3 (Kd.int .i64)) (W.alloc (.cells #[.slice A1 l1.length c1, .slice A2 l2.length c2] 35)) (some ⟨W.heap.size, 0, none⟩) 2 [l1, l2] := by
 refine rows_at (L := [l1, l2]) (by simp) fun j hj => ?_
 have hj2 : j < 2 := hj
 match j, hj2 with
 | 0, _ => exact ⟨A1, c1, by simp, hc1, Kd.C_below hr1 (hB.alloc hB.size _)⟩
 | 1, _ => exact ⟨A2, c2, by simp, hc2, Kd.C_below hr2 (hB.alloc hB.size _)⟩
theorem wigeonref05_CheckAlike.calls (k : Nat) (A0 : Option Addr) (c0 : Nat) (l0 : List ByteArray) (A1 : Option Addr) (c1 : Nat) (l1 : List Int) (A2 : Option Addr) (c2 : Nat) (l2 : List Int) (r : Int) (w : World) (hr0 : Kd.C Kd.string w A0 l0.length l0) (hc0 : l0.length ≤ c0) (hr1 : Kd.C (Kd.int .i64) w A1 l1.length l1) (hc1 : l1.length ≤ c1) (hr2 : Kd.C (Kd.int .i64) w A2 l2.length l2) (hc2 : l2.length ≤ c2) (h : wigeonref05_CheckAlike.f k l0 l1 l2 = some r) :
  Calls Try.prog 39 #[.slice A0 l0.length c0, .slice A1 l1.length c1, .slice A2 l2.length c2] w fun e w' => e = .returned (.int .i64 r) ∧ Below w.heap.size w w' := by
 unfold wigeonref05_CheckAlike.f at h
 obtain ⟨e0, h0, h⟩ := Option.bind_eq_some_iff.1 h
 have hv : RetI 33 #[.slice A0 l0.length c0] e0 w := (wigeonref05_Validate.calls k A0 c0 l0 e0 w hr0 hc0 h0).mono fun e w' ⟨h1, nd, h2⟩ => ⟨h1, by rw [h2]; exact pw_below_drewN (Below.refl _ _) nd⟩
 split at h
 ·rename_i hne
  obtain rfl := Option.some.inj h
  exact ralike_e0 A0 l0.length c0 A1 l1.length c1 A2 l2.length c2 w _ hne hv
 rename_i hne
 obtain rfl : e0 = 0 := by simpa using hne
 obtain ⟨e1, h1, h⟩ := Option.bind_eq_some_iff.1 h
 have hm : ∀ W, Below w.heap.size w W → RetI 66 #[.slice A0 l0.length c0, .slice (some ⟨W.heap.size, 0, none⟩) 2 2] e1 (W.alloc (.cells #[.slice A1 l1.length c1, .slice A2 l2.length c2] 35)) := fun W hB => (wigeonref05_messageOK.calls k A0 c0 l0 _ 2 [l1, l2] e1 _ (Kd.C_below hr0 (hB.alloc hB.size _)) hc0 (wigeonref05_CheckAlike.rows2 w W A1 A2 c1 c2 l1 l2 hB hr1 hc1 hr2 hc2) (Nat.le_refl _) h1).mono fun e w' ⟨h1, nd, h2⟩ => ⟨h1, by rw [h2]; exact pw_below_drewN (Below.refl _ _) nd⟩
 split at h
 ·rename_i hne1
  obtain rfl := Option.some.inj h
  exact ralike_e1 A0 l0.length c0 A1 l1.length c1 A2 l2.length c2 w _ hne1 hv hm
 rename_i hne1
 obtain rfl : e1 = 0 := by simpa using hne1
 obtain ⟨q, hq, h⟩ := Option.bind_eq_some_iff.1 h
 have heq : AtLater w (RetB 51 #[.slice A1 l1.length c1, .slice A2 l2.length c2] q) := fun W hB => (wigeonref05_SameInts.calls k A1 c1 l1 A2 c2 l2 q W (Kd.C_below hr1 hB) hc1 (Kd.C_below hr2 hB) hc2 hq).mono fun e w' ⟨h1, nd, h2⟩ => ⟨h1, by rw [h2]; exact pw_below_drewN (Below.refl _ _) nd⟩
 split at h
 ·rename_i hqt
  subst hqt
  obtain rfl := Option.some.inj h
  exact ralike_eq A0 l0.length c0 A1 l1.length c1 A2 l2.length c2 w hv hm heq
 rename_i hqf
 obtain rfl : q = false := by simpa using hqf
 obtain ⟨sa, hsa, h⟩ := Option.bind_eq_some_iff.1 h
 obtain ⟨sb, hsb, h⟩ := Option.bind_eq_some_iff.1 h
 have ha : AtLater w (RetS 67 #[.slice A0 l0.length c0, .slice A1 l1.length c1] sa) := fun W hB => (wigeonref05_sound.calls k A0 c0 l0 A1 c1 l1 sa W (Kd.C_below hr0 hB) hc0 (Kd.C_below hr1 hB) hc1 hsa).mono fun e w' ⟨h1, nd, h2⟩ => ⟨h1, by rw [h2]; exact pw_below_drewN (Below.refl _ _) nd⟩
 have hb : AtLater w (RetS 67 #[.slice A0 l0.length c0, .slice A2 l2.length c2] sb) := fun W hB => (wigeonref05_sound.calls k A0 c0 l0 A2 c2 l2 sb W (Kd.C_below hr0 hB) hc0 (Kd.C_below hr2 hB) hc2 hsb).mono fun e w' ⟨h1, nd, h2⟩ => ⟨h1, by rw [h2]; exact pw_below_drewN (Below.refl _ _) nd⟩
 split at h
 ·rename_i hs
  obtain rfl := Option.some.inj h
  exact ralike_ok A0 l0.length c0 A1 l1.length c1 A2 l2.length c2 w hv hm heq sa sb ha hb (by simpa using hs)
 ·rename_i hs
  obtain rfl := Option.some.inj h
  exact ralike_ne A0 l0.length c0 A1 l1.length c1 A2 l2.length c2 w hv hm heq sa sb ha hb (by simpa using hs)

/-! ### slices_Equal_int_int: function 82 -/
def slices_Equal_int_int.l0 : Nat → List Int → List Int → Int → Int → Option (Bool)
 | 0, _, _, _, _ => none
 | k + 1, x0, x1, x12, x13 => if x13 < x12 then (if 0 ≤ x13 then (if x13 < (x0.length : Int) then (if x13 < (x1.length : Int) then (if (rd x0 x13) = (rd x1 x13) then (slices_Equal_int_int.l0 k x0 x1 x12 (wrap64 (x13 + 1))) else (some false)) else (none)) else (none)) else (none)) else (some true)
def slices_Equal_int_int.f (k : Nat) (l0 : List Int) (l1 : List Int) : Option (Bool) := if (l0.length : Int) = (l1.length : Int) then (slices_Equal_int_int.l0 k l0 l1 (l0.length : Int) 0) else (some false)
theorem slices_Equal_int_int.mono_l : ∀ k, (∀ y0 y1 y2 y3, LeO (slices_Equal_int_int.l0 k y0 y1 y2 y3) (slices_Equal_int_int.l0 (k + 1) y0 y1 y2 y3))
 | 0 => fun _ _ _ _ r h => by simp [slices_Equal_int_int.l0] at h
 | k + 1 => by
  have ih0 := slices_Equal_int_int.mono_l k
  ·intro y0 y1 y2 y3
   unfold slices_Equal_int_int.l0
   repeat' first
   | (with_reducible exact ih0 _ _ _ _)
   | (with_reducible exact LeO.refl _)
   | (with_reducible exact LeO.none _)
   | (with_reducible refine LeO.ite ?_ ?_)
   | (with_reducible refine LeO.bind ?_ (fun _ => ?_))
   | exact ih0 _ _ _ _
   | exact LeO.none _
   | refine LeO.ite ?_ ?_
   | refine LeO.bind ?_ (fun _ => ?_)
theorem slices_Equal_int_int.mono : ∀ a0 a1 k, LeO (slices_Equal_int_int.f k a0 a1) (slices_Equal_int_int.f (k + 1) a0 a1) := by
 intro a0 a1 k
 have ih0 := slices_Equal_int_int.mono_l k
 unfold slices_Equal_int_int.f
 repeat' first
   | (with_reducible exact ih0 _ _ _ _)
   | (with_reducible exact LeO.refl _)
   | (with_reducible exact LeO.none _)
   | (with_reducible refine LeO.ite ?_ ?_)
   | (with_reducible refine LeO.bind ?_ (fun _ => ?_))
   | exact ih0 _ _ _ _
   | exact LeO.none _
   | refine LeO.ite ?_ ?_
   | refine LeO.bind ?_ (fun _ => ?_)
set_option maxHeartbeats 8000000 in
set_option maxRecDepth 100000 in
theorem slices_Equal_int_int.calls (k : Nat) (A0 : Option Addr) (c0 : Nat) (l0 : List Int) (A1 : Option Addr) (c1 : Nat) (l1 : List Int) (r : Bool) (w : World) (hr0 : Kd.C (Kd.int .i64) w A0 l0.length l0) (hc0 : l0.length ≤ c0) (hr1 : Kd.C (Kd.int .i64) w A1 l1.length l1) (hc1 : l1.length ≤ c1) (h : slices_Equal_int_int.f k l0 l1 = some r) :
  Calls Try.prog 82 #[.slice A0 l0.length c0, .slice A1 l1.length c1] w fun e w' => e = .returned (.bool r) ∧ Drawn0 w w' := by
 have HR0 := Aside0.mk hr0
 have HC0 := Aside0.mk hc0
 clear hr0 hc0
 have HR1 := Aside0.mk hr1
 have HC1 := Aside0.mk hc1
 clear hr1 hc1
 have H : (if (l0.length : Int) = (l1.length : Int) then (slices_Equal_int_int.l0 k l0 l1 (l0.length : Int) 0) else (some false)) = some r := h
 clear h
 by_cases c3 : (l0.length : Int) = (l1.length : Int)
 ·rw [if_pos c3] at H
  have c3b0 : ((l0.length : Int) == (l1.length : Int)) = true := beq_iff_eq.mpr c3
  have c3b1 : ((l0.length : Int) != (l1.length : Int)) = false := bne_eq_false_iff_eq.mpr c3
  have c3b2 : (l0.length == l1.length) = true := by first | simpa using c3 | (simp at c3 ⊢; omega)
  clear c3
  have H' := Aside0.mk H
  clear H
  go_enter Try.func82, Try.ntmps82
  go_wp2
  repeat (go_quiet (fail); try go_wp2)
  go_loopg [13] k (fun kq v13 w' => ∃ (x13_1 : Int), v13 = .int .i64 x13_1 ∧ Aside0 (slices_Equal_int_int.l0 kq l0 l1 (l0.length : Int) x13_1 = some r) ∧ Aside0 (kq ≤ k) ∧ Drawn0 w w')
  case atStart => exact ⟨(0), (by first | rfl | (simp; done) | (simp [*]; done)), H', ⟨Nat.le_refl _⟩, by repeat (first | exact Drawn0.refl _ | apply Drawn0.step)⟩
  case round =>
   clear H'
   try clear c1
   try clear p2
   try clear c3
   try clear c3b0
   try clear c3b1
   try clear c3b2
   obtain ⟨x13_1, rfl, HA, HK1, ⟨m1, rfl⟩⟩ := hrel
   cases gk with
   | zero => exact absurd HA.out (by simp [slices_Equal_int_int.l0])
   | succ k1 =>
    have H := HA.out
    clear HA
    simp only [slices_Equal_int_int.l0] at H
    by_cases c4 : x13_1 < (l0.length : Int)
    ·rw [if_pos c4] at H
     have c4b0 : decide (x13_1 < (l0.length : Int)) = true := decide_eq_true c4
     clear c4
     by_cases c5 : 0 ≤ x13_1
     ·rw [if_pos c5] at H
      have c5b0 : decide (0 ≤ x13_1) = true := decide_eq_true c5
      clear c5
      by_cases c6 : x13_1 < (l0.length : Int)
      ·rw [if_pos c6] at H
       have c6b0 : decide (x13_1 < (l0.length : Int)) = true := decide_eq_true c6
       clear c6
       by_cases c7 : x13_1 < (l1.length : Int)
       ·rw [if_pos c7] at H
        have c7b0 : decide (x13_1 < (l1.length : Int)) = true := decide_eq_true c7
        clear c7
        by_cases c8 : (rd l0 x13_1) = (rd l1 x13_1)
        ·rw [if_pos c8] at H
         have c8b0 : ((rd l0 x13_1) == (rd l1 x13_1)) = true := beq_iff_eq.mpr c8
         have c8b1 : ((rd l0 x13_1) != (rd l1 x13_1)) = false := bne_eq_false_iff_eq.mpr c8
         clear c8
         have H' := Aside0.mk H
         clear H
         have p472 : 0 ≤ (x13_1 : Int) := of_decide_eq_true (by first | (with_reducible assumption) | assumption)
         have q472 : x13_1 < (l0.length : Int) := of_decide_eq_true (by first | (with_reducible assumption) | assumption)
         obtain ⟨ad472, e472, hx472_0⟩ := Kd.at_int HR0.out x13_1 p472 q472
         cases e472
         replace p472 := eq_true p472
         replace q472 := eq_true q472
         have p473 : 0 ≤ (x13_1 : Int) := of_decide_eq_true (by first | (with_reducible assumption) | assumption)
         have q473 : x13_1 < (l1.length : Int) := of_decide_eq_true (by first | (with_reducible assumption) | assumption)
         obtain ⟨ad473, e473, hx473_0⟩ := Kd.at_int HR1.out x13_1 p473 q473
         cases e473
         replace p473 := eq_true p473
         replace q473 := eq_true q473
         go_wp2
         repeat (go_quiet (fail); try go_wp2)
         go_roundg k1
         case measure => have := HK1.out; omega
         case rel => exact ⟨(wrap64 (x13_1 + 1)), (by first | rfl | (simp; done) | (simp [*]; done)), H', ⟨by have := HK1.out; omega⟩, by repeat (first | exact Drawn0.refl _ | apply Drawn0.step)⟩
        ·rw [if_neg c8] at H
         have c8b0 : ((rd l0 x13_1) == (rd l1 x13_1)) = false := beq_eq_false_iff_ne.mpr c8
         have c8b1 : ((rd l0 x13_1) != (rd l1 x13_1)) = true := bne_iff_ne.mpr c8
         obtain rfl := Option.some.inj H
         have p472 : 0 ≤ (x13_1 : Int) := of_decide_eq_true (by first | (with_reducible assumption) | assumption)
         have q472 : x13_1 < (l0.length : Int) := of_decide_eq_true (by first | (with_reducible assumption) | assumption)
         obtain ⟨ad472, e472, hx472_0⟩ := Kd.at_int HR0.out x13_1 p472 q472
         cases e472
         replace p472 := eq_true p472
         replace q472 := eq_true q472
         have p473 : 0 ≤ (x13_1 : Int) := of_decide_eq_true (by first | (with_reducible assumption) | assumption)
         have q473 : x13_1 < (l1.length : Int) := of_decide_eq_true (by first | (with_reducible assumption) | assumption)
         obtain ⟨ad473, e473, hx473_0⟩ := Kd.at_int HR1.out x13_1 p473 q473
         cases e473
         replace p473 := eq_true p473
         replace q473 := eq_true q473
         go_wp2
         repeat (go_quiet (fail); try go_wp2)
         go_ret
         exact ⟨by first | rfl | (simp; done) | (simp [*]; done), by repeat (first | exact Drawn0.refl _ | apply Drawn0.step)⟩
       ·rw [if_neg c7] at H
        exact absurd H (by simp)
      ·rw [if_neg c6] at H
       exact absurd H (by simp)
     ·rw [if_neg c5] at H
      exact absurd H (by simp)
    ·rw [if_neg c4] at H
     have c4b0 : decide (x13_1 < (l0.length : Int)) = false := decide_eq_false c4
     clear c4
     obtain rfl := Option.some.inj H
     go_wp2
     repeat (go_quiet (fail); try go_wp2)
     go_ret
     exact ⟨by first | rfl | (simp; done) | (simp [*]; done), by repeat (first | exact Drawn0.refl _ | apply Drawn0.step)⟩
 ·rw [if_neg c3] at H
  have c3b0 : ((l0.length : Int) == (l1.length : Int)) = false := beq_eq_false_iff_ne.mpr c3
  have c3b1 : ((l0.length : Int) != (l1.length : Int)) = true := bne_iff_ne.mpr c3
  have c3b2 : (l0.length == l1.length) = false := by first | simpa using c3 | (simp at c3 ⊢; omega)
  obtain rfl := Option.some.inj H
  go_enter Try.func82, Try.ntmps82
  go_wp2
  repeat (go_quiet (fail); try go_wp2)
  go_ret
  exact ⟨by first | rfl | (simp; done) | (simp [*]; done), by repeat (first | exact Drawn0.refl _ | apply Drawn0.step)⟩

/-! ### whistle_CheckAlike: function 40 -/
-- GIVEN wigeon/whistle.CheckAlike rounds=1 making=1
def whistle_CheckAlike.f (k : Nat) (l0 : List ByteArray) (l1 l2 : List Int) : Option Int :=
 (whistle_Validate.f k l0).bind fun e0 => if e0 ≠ 0 then some e0 else if 400 < l1.length then some 3 else if 400 < l2.length then some 3 else
 (whistle_isMessage.f k l0 l1).bind fun ea => if ea ≠ 0 then some ea else (whistle_isMessage.f k l0 l2).bind fun eb => if eb ≠ 0 then some eb else
 (slices_Equal_int_int.f k l1 l2).bind fun q => if q = true then some 7 else if (okM l0 l1 && okM l0 l2) = true then (if (soundB l0 l1).toList = (soundB l0 l2).toList then some 0 else some 7) else none
theorem whistle_CheckAlike.mono : ∀ a0 a1 a2 k, LeO (whistle_CheckAlike.f k a0 a1 a2) (whistle_CheckAlike.f (k + 1) a0 a1 a2) := by
 intro a0 a1 a2 k
 unfold whistle_CheckAlike.f
 refine LeO.bind (whistle_Validate.mono _ _) fun e0 => LeO.ite (LeO.refl _) (LeO.ite (LeO.refl _) (LeO.ite (LeO.refl _) (LeO.bind (whistle_isMessage.mono _ _ _) fun ea => LeO.ite (LeO.refl _) (LeO.bind (whistle_isMessage.mono _ _ _) fun eb => LeO.ite (LeO.refl _) (LeO.bind (slices_Equal_int_int.mono _ _ _) fun q => LeO.refl _)))))
theorem whistle_CheckAlike.calls (k : Nat) (A0 : Option Addr) (c0 : Nat) (l0 : List ByteArray) (A1 : Option Addr) (c1 : Nat) (l1 : List Int) (A2 : Option Addr) (c2 : Nat) (l2 : List Int) (r : Int) (w : World) (hr0 : Kd.C Kd.string w A0 l0.length l0) (hc0 : l0.length ≤ c0) (hr1 : Kd.C (Kd.int .i64) w A1 l1.length l1) (hc1 : l1.length ≤ c1) (hr2 : Kd.C (Kd.int .i64) w A2 l2.length l2) (hc2 : l2.length ≤ c2) (h : whistle_CheckAlike.f k l0 l1 l2 = some r) :
  Calls Try.prog 40 #[.slice A0 l0.length c0, .slice A1 l1.length c1, .slice A2 l2.length c2] w fun e w' => e = .returned (.int .i64 r) ∧ Below w.heap.size w w' := by
 unfold whistle_CheckAlike.f at h
 obtain ⟨e0, h0, h⟩ := Option.bind_eq_some_iff.1 h
 have hv := whistle_Validate.calls k A0 c0 l0 e0 w hr0 hc0 h0
 split at h
 ·rename_i hne
  obtain rfl := Option.some.inj h
  exact alike_e0 A0 l0.length c0 A1 l1.length c1 A2 l2.length c2 _ w hne hv
 rename_i hne
 obtain rfl : e0 = 0 := by simpa using hne
 have hm1 := hr1.2.1
 have hm2 := hr2.2.1
 split at h
 ·rename_i hl
  obtain rfl := Option.some.inj h
  exact alike_l1 A0 l0.length c0 A1 l1.length c1 A2 l2.length c2 w hv (by omega) hm1
 rename_i hl1
 split at h
 ·rename_i hl
  obtain rfl := Option.some.inj h
  exact alike_l2 A0 l0.length c0 A1 l1.length c1 A2 l2.length c2 w hv (by omega) (by omega) hm2
 rename_i hl2
 obtain ⟨ea, ha, h⟩ := Option.bind_eq_some_iff.1 h
 have hma : AtLater w (RetI 64 #[.slice A0 l0.length c0, .slice A1 l1.length c1] ea) := fun W hB => (whistle_isMessage.calls k A0 c0 l0 A1 c1 l1 ea W (Kd.C_below hr0 hB) hc0 (Kd.C_below hr1 hB) hc1 ha).mono fun e w' ⟨h1, nd, h2⟩ => ⟨h1, by rw [h2]; exact pw_below_drewN (Below.refl _ _) nd⟩
 split at h
 ·rename_i hne2
  obtain rfl := Option.some.inj h
  exact alike_e1 A0 l0.length c0 A1 l1.length c1 A2 l2.length c2 w hv (by omega) (by omega) _ hne2 hma
 rename_i hne2
 obtain rfl : ea = 0 := by simpa using hne2
 obtain ⟨eb, hb, h⟩ := Option.bind_eq_some_iff.1 h
 have hmb : AtLater w (RetI 64 #[.slice A0 l0.length c0, .slice A2 l2.length c2] eb) := fun W hB => (whistle_isMessage.calls k A0 c0 l0 A2 c2 l2 eb W (Kd.C_below hr0 hB) hc0 (Kd.C_below hr2 hB) hc2 hb).mono fun e w' ⟨h1, nd, h2⟩ => ⟨h1, by rw [h2]; exact pw_below_drewN (Below.refl _ _) nd⟩
 split at h
 ·rename_i hne3
  obtain rfl := Option.some.inj h
  exact alike_e2 A0 l0.length c0 A1 l1.length c1 A2 l2.length c2 w hv (by omega) (by omega) hma _ hne3 hmb
 rename_i hne3
 obtain rfl : eb = 0 := by simpa using hne3
 obtain ⟨q, hq, h⟩ := Option.bind_eq_some_iff.1 h
 have heq : AtLater w (RetB 82 #[.slice A1 l1.length c1, .slice A2 l2.length c2] q) := fun W hB => (slices_Equal_int_int.calls k A1 c1 l1 A2 c2 l2 q W (Kd.C_below hr1 hB) hc1 (Kd.C_below hr2 hB) hc2 hq).mono fun e w' ⟨h1, nd, h2⟩ => ⟨h1, by rw [h2]; exact pw_below_drewN (Below.refl _ _) nd⟩
 split at h
 ·rename_i hqt
  subst hqt
  obtain rfl := Option.some.inj h
  exact alike_eq A0 l0.length c0 A1 l1.length c1 A2 l2.length c2 w hv (by omega) (by omega) hma hmb heq
 rename_i hqf
 obtain rfl : q = false := by simpa using hqf
 split at h
 ·rename_i hok
  rw [Bool.and_eq_true] at hok
  have hsa : AtLater w (RetS 65 #[.slice A0 l0.length c0, .slice A1 l1.length c1] (soundB l0 l1)) := fun W hB => sound_walk A0 c0 l0 A1 c1 l1 W (Kd.C_below hr0 hB) (Kd.C_below hr1 hB) hok.1
  have hsb : AtLater w (RetS 65 #[.slice A0 l0.length c0, .slice A2 l2.length c2] (soundB l0 l2)) := fun W hB => sound_walk A0 c0 l0 A2 c2 l2 W (Kd.C_below hr0 hB) (Kd.C_below hr2 hB) hok.2
  split at h
  ·rename_i hs
   obtain rfl := Option.some.inj h
   exact alike_ok A0 l0.length c0 A1 l1.length c1 A2 l2.length c2 w hv (by omega) (by omega) hma hmb heq _ _ hsa hsb (by simpa using hs)
  ·rename_i hs
   obtain rfl := Option.some.inj h
   exact alike_ne A0 l0.length c0 A1 l1.length c1 A2 l2.length c2 w hv (by omega) (by omega) hma hmb heq _ _ hsa hsb (by simpa using hs)
 ·cases h

end Go.Proofs.Ytpkafcoflgbnaaa.Q
