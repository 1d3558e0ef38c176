-- Written by a program of this session (wip/tools/gprint.py, over the kit's print); Lean checks it.
import Derived.Test.YtpkafcoflgbnaaaQx0
import Derived.Test.YtpkafcoflgbnaaaQx11
import Derived.Test.YtpkafcoflgbnaaaQx28
import Derived.Test.YtpkafcoflgbnaaaQx37
namespace Go.Proofs.Ytpkafcoflgbnaaa.Q
open Go.RowKit Go.Proofs.YtpkafcoflgbnaaaW.PrintWords Go.Proofs.YtpkafcoflgbnaaaW.PrintLast Go.Proofs.YtpkafcoflgbnaaaW.PrintMore
attribute [local go_sem] max2_int min2_int max_two min_two max_three min_three max_four min_four   -- for this text's walks alone
set_option linter.unusedVariables false
set_option linter.unusedSimpArgs false

/-! ### wigeonref05_Decode: function 50 -/
mutual
def wigeonref05_Decode.l0 : Nat → List ByteArray → ByteArray → List Int → List Int → Int → Option (List Int × Bool × Int)
 | 0, _, _, _, _, _ => none
 | k + 1, x0, x1, x8, x9, x10 => if x10 < (x1.size : Int) then (wigeonref05_Decode.l1 k x0 x1 x8 x9 x10 0) else (some (x9, true, 0))
def wigeonref05_Decode.l1 : Nat → List ByteArray → ByteArray → List Int → List Int → Int → Int → Option (List Int × Bool × Int)
 | 0, _, _, _, _, _, _ => none
 | k + 1, x0, x1, x8, x9, x10, x11 => if 0 ≤ x10 then (if x10 ≤ (x1.size : Int) then (if 0 ≤ x11 then (if x11 < (x0.length : Int) then ((wigeonref05_begins.f (x1.extract (x10 : Int).toNat x1.size) (rdOf ByteArray.empty x0 x11)).bind fun t645 => (if t645 = true then (if 0 ≤ (wrap64 (x10 + ((rdOf ByteArray.empty x0 x11).size : Int))) then (if (wrap64 (x10 + ((rdOf ByteArray.empty x0 x11).size : Int))) < (x8.length : Int) then (if (rd x8 (wrap64 (x10 + ((rdOf ByteArray.empty x0 x11).size : Int)))) = 0 then (wigeonref05_Decode.l1 k x0 x1 x8 x9 x10 (wrap64 (x11 + 1))) else (if x9.length < 17592186044416 then (wigeonref05_Decode.l0 k x0 x1 x8 (x9 ++ [x11]) (wrap64 (x10 + ((rdOf ByteArray.empty x0 x11).size : Int)))) else (none))) else (none)) else (none)) else (wigeonref05_Decode.l1 k x0 x1 x8 x9 x10 (wrap64 (x11 + 1))))) else (none)) else (none)) else (none)) else (none)
end
def wigeonref05_Decode.f (k : Nat) (l0 : List ByteArray) (a1 : ByteArray) : Option (List Int × Bool × Int) := (wigeonref05_textOK.f k l0 a1).bind fun t639 => (if t639 = 0 then ((wigeonref05_heard.f k l0 a1).bind fun t640 => (if 0 < (t640.length : Int) then (if (rd t640 0) = 0 then (some (([] : List Int), false, 0)) else (wigeonref05_Decode.l0 k l0 a1 t640 ([] : List Int) 0)) else (none))) else (some (([] : List Int), false, t639)))
theorem wigeonref05_Decode.mono_l : ∀ k, (∀ y0 y1 y2 y3 y4, LeO (wigeonref05_Decode.l0 k y0 y1 y2 y3 y4) (wigeonref05_Decode.l0 (k + 1) y0 y1 y2 y3 y4)) ∧ (∀ y0 y1 y2 y3 y4 y5, LeO (wigeonref05_Decode.l1 k y0 y1 y2 y3 y4 y5) (wigeonref05_Decode.l1 (k + 1) y0 y1 y2 y3 y4 y5))
 | 0 => ⟨fun _ _ _ _ _ r h => by simp [wigeonref05_Decode.l0] at h, fun _ _ _ _ _ _ r h => by simp [wigeonref05_Decode.l1] at h⟩
 | k + 1 => by
  obtain ⟨ih0, ih1⟩ := wigeonref05_Decode.mono_l k
  refine ⟨?_, ?_⟩
  ·intro y0 y1 y2 y3 y4
   unfold wigeonref05_Decode.l0
   repeat' first
   | (with_reducible exact ih0 _ _ _ _ _)
   | (with_reducible exact ih1 _ _ _ _ _ _)
   | (with_reducible exact wigeonref05_heard.mono _ _ _)
   | (with_reducible exact wigeonref05_textOK.mono _ _ _)
   | (with_reducible exact LeO.refl _)
   | (with_reducible exact LeO.none _)
   | (with_reducible refine LeO.ite ?_ ?_)
   | (with_reducible refine LeO.bind ?_ (fun _ => ?_))
   | exact ih0 _ _ _ _ _
   | exact ih1 _ _ _ _ _ _
   | exact wigeonref05_heard.mono _ _ _
   | exact wigeonref05_textOK.mono _ _ _
   | exact LeO.none _
   | refine LeO.ite ?_ ?_
   | refine LeO.bind ?_ (fun _ => ?_)
  ·intro y0 y1 y2 y3 y4 y5
   unfold wigeonref05_Decode.l1
   repeat' first
   | (with_reducible exact ih0 _ _ _ _ _)
   | (with_reducible exact ih1 _ _ _ _ _ _)
   | (with_reducible exact wigeonref05_heard.mono _ _ _)
   | (with_reducible exact wigeonref05_textOK.mono _ _ _)
   | (with_reducible exact LeO.refl _)
   | (with_reducible exact LeO.none _)
   | (with_reducible refine LeO.ite ?_ ?_)
   | (with_reducible refine LeO.bind ?_ (fun _ => ?_))
   | exact ih0 _ _ _ _ _
   | exact ih1 _ _ _ _ _ _
   | exact wigeonref05_heard.mono _ _ _
   | exact wigeonref05_textOK.mono _ _ _
   | exact LeO.none _
   | refine LeO.ite ?_ ?_
   | refine LeO.bind ?_ (fun _ => ?_)
theorem wigeonref05_Decode.mono : ∀ a0 a1 k, LeO (wigeonref05_Decode.f k a0 a1) (wigeonref05_Decode.f (k + 1) a0 a1) := by
 intro a0 a1 k
 obtain ⟨ih0, ih1⟩ := wigeonref05_Decode.mono_l k
 unfold wigeonref05_Decode.f
 repeat' first
   | (with_reducible exact ih0 _ _ _ _ _)
   | (with_reducible exact ih1 _ _ _ _ _ _)
   | (with_reducible exact wigeonref05_heard.mono _ _ _)
   | (with_reducible exact wigeonref05_textOK.mono _ _ _)
   | (with_reducible exact LeO.refl _)
   | (with_reducible exact LeO.none _)
   | (with_reducible refine LeO.ite ?_ ?_)
   | (with_reducible refine LeO.bind ?_ (fun _ => ?_))
   | exact ih0 _ _ _ _ _
   | exact ih1 _ _ _ _ _ _
   | exact wigeonref05_heard.mono _ _ _
   | exact wigeonref05_textOK.mono _ _ _
   | exact LeO.none _
   | refine LeO.ite ?_ ?_
   | refine LeO.bind ?_ (fun _ => ?_)
set_option maxHeartbeats 8000000 in
set_option maxRecDepth 100000 in
theorem wigeonref05_Decode.calls (k : Nat) (A0 : Option Addr) (c0 : Nat) (l0 : List ByteArray) (a1 : ByteArray) (r1 : List Int) (r2 : Bool) (r3 : Int) (w : World) (hr0 : Kd.C Kd.string w A0 l0.length l0) (hc0 : l0.length ≤ c0) (h : wigeonref05_Decode.f k l0 a1 = some (r1, r2, r3)) :
  Calls Try.prog 50 #[.slice A0 l0.length c0, .string a1] w fun e w' => ∃ v0_ : Value, e = .returned (.tuple #[v0_, .bool r2, .int .i64 r3]) ∧ Kd.R (Kd.int .i64) 3 w' w.heap.size (fun _ => True) v0_ r1 ∧ Below w.heap.size w w' := by
 have HR0 := Aside0.mk hr0
 have HC0 := Aside0.mk hc0
 clear hr0 hc0
 have HB := Aside0.mk (Below.refl w.heap.size w)
 have H : ((wigeonref05_textOK.f k l0 a1).bind fun t639 => (if t639 = 0 then ((wigeonref05_heard.f k l0 a1).bind fun t640 => (if 0 < (t640.length : Int) then (if (rd t640 0) = 0 then (some (([] : List Int), false, 0)) else (wigeonref05_Decode.l0 k l0 a1 t640 ([] : List Int) 0)) else (none))) else (some (([] : List Int), false, t639)))) = some (r1, r2, r3) := h
 clear h
 replace H := Option.bind_eq_some_iff.mp H
 obtain ⟨t639, A30, H⟩ := H
 replace H : (if t639 = 0 then ((wigeonref05_heard.f k l0 a1).bind fun t640 => (if 0 < (t640.length : Int) then (if (rd t640 0) = 0 then (some (([] : List Int), false, 0)) else (wigeonref05_Decode.l0 k l0 a1 t640 ([] : List Int) 0)) else (none))) else (some (([] : List Int), false, t639))) = some (r1, r2, r3) := H
 have A3 := Aside0.mk A30
 clear A30
 by_cases c4 : t639 = 0
 ·rw [if_pos c4] at H
  have c4b0 : (t639 == 0) = true := beq_iff_eq.mpr c4
  have c4b1 : (t639 != 0) = false := bne_eq_false_iff_eq.mpr c4
  clear c4
  replace H := Option.bind_eq_some_iff.mp H
  obtain ⟨t640, A50, H⟩ := H
  replace H : (if 0 < (t640.length : Int) then (if (rd t640 0) = 0 then (some (([] : List Int), false, 0)) else (wigeonref05_Decode.l0 k l0 a1 t640 ([] : List Int) 0)) else (none)) = some (r1, r2, r3) := H
  have A5 := Aside0.mk A50
  clear A50
  by_cases c6 : 0 < (t640.length : Int)
  ·rw [if_pos c6] at H
   have c6b0 : decide (0 < (t640.length : Int)) = true := decide_eq_true c6
   have c6b1 : decide (0 < t640.length) = true := decide_eq_true (by omega)
   clear c6
   by_cases c7 : (rd t640 0) = 0
   ·rw [if_pos c7] at H
    have c7b0 : ((rd t640 0) == 0) = true := beq_iff_eq.mpr c7
    have c7b1 : ((rd t640 0) != 0) = false := bne_eq_false_iff_eq.mpr c7
    clear c7
    simp only [Option.some.injEq, Prod.mk.injEq] at H
    obtain ⟨rfl, rfl, rfl⟩ := H
    go_enter Try.func50, Try.ntmps50
    go_wp2_with (first | (go_at_call 86; (with_reducible refine (wigeonref05_textOK.calls k _ _ l0 a1 t639 _ ?side1 ?side2 A3.out).mono ?_); (case side1 => repeat (first | exact HR0.out | (with_reducible refine Kd.C_alloc ?_ _) | (with_reducible refine Kd.C_drewN ?_ _) | (with_reducible refine Kd.C_drew ?_))); (case side2 => exact HC0.out); rintro e w' ⟨rfl, ⟨nd, rfl⟩⟩; (try first | exact ⟨rfl, _, World.drewN_drewN _ _ _⟩ | exact ⟨rfl, _, Eq.trans (World.drewN_drewN _ _ _) (congrArg (World.drewN _) (Nat.add_assoc _ _ _))⟩)) | (go_at_call 95; (with_reducible refine (wigeonref05_heard.calls k _ _ l0 a1 t640 _ ?side1 ?side2 A5.out).mono ?_); (case side1 => repeat (first | exact HR0.out | (with_reducible refine Kd.C_alloc ?_ _) | (with_reducible refine Kd.C_drewN ?_ _) | (with_reducible refine Kd.C_drew ?_))); (case side2 => exact HC0.out); rintro e w8 ⟨v641, rfl, ho0, hb⟩; have n0_ := Aside0.mk (Kd.R_lower ho0 (below_size (by repeat (first | (with_reducible first | exact HB.out | apply below_alloc | apply pw_below_drewN | apply below_drew1) | exact HB.out)))); have n1_ := Aside0.mk (below_step (by repeat (first | (with_reducible first | exact HB.out | apply below_alloc | apply pw_below_drewN | apply below_drew1) | exact HB.out)) hb); clear HB; have HO642 := n0_; have HB := n1_; clear n0_ n1_; (try clear hb); (try clear hb2); (try clear hk); (try clear hi); (try clear ho0); obtain ⟨Ao9, co9, eo9⟩ := Kd.R_slice HO642.out; subst eo9; have p643 : 0 ≤ (0 : Int) := (by omega); have q643 : 0 < (t640.length : Int) := of_decide_eq_true (by first | (with_reducible assumption) | assumption); obtain ⟨ad643, e643, hx643_0⟩ := Kd.at_int (Kd.R_reads' HO642.out).2.2 0 p643 q643; cases e643; have qi643 : (0 < t640.length) = True := eq_true (by omega); (try rw [show ((0 : Int)).toNat = 0 from rfl] at hx643_0); (try rw [Addr.add_zero'] at hx643_0); replace p643 := eq_true p643; replace q643 := eq_true q643))
    repeat (go_quiet (first | (go_at_call 86; (with_reducible refine (wigeonref05_textOK.calls k _ _ l0 a1 t639 _ ?side1 ?side2 A3.out).mono ?_); (case side1 => repeat (first | exact HR0.out | (with_reducible refine Kd.C_alloc ?_ _) | (with_reducible refine Kd.C_drewN ?_ _) | (with_reducible refine Kd.C_drew ?_))); (case side2 => exact HC0.out); rintro e w' ⟨rfl, ⟨nd, rfl⟩⟩; (try first | exact ⟨rfl, _, World.drewN_drewN _ _ _⟩ | exact ⟨rfl, _, Eq.trans (World.drewN_drewN _ _ _) (congrArg (World.drewN _) (Nat.add_assoc _ _ _))⟩)) | (go_at_call 95; (with_reducible refine (wigeonref05_heard.calls k _ _ l0 a1 t640 _ ?side1 ?side2 A5.out).mono ?_); (case side1 => repeat (first | exact HR0.out | (with_reducible refine Kd.C_alloc ?_ _) | (with_reducible refine Kd.C_drewN ?_ _) | (with_reducible refine Kd.C_drew ?_))); (case side2 => exact HC0.out); rintro e w8 ⟨v641, rfl, ho0, hb⟩; have n0_ := Aside0.mk (Kd.R_lower ho0 (below_size (by repeat (first | (with_reducible first | exact HB.out | apply below_alloc | apply pw_below_drewN | apply below_drew1) | exact HB.out)))); have n1_ := Aside0.mk (below_step (by repeat (first | (with_reducible first | exact HB.out | apply below_alloc | apply pw_below_drewN | apply below_drew1) | exact HB.out)) hb); clear HB; have HO642 := n0_; have HB := n1_; clear n0_ n1_; (try clear hb); (try clear hb2); (try clear hk); (try clear hi); (try clear ho0); obtain ⟨Ao9, co9, eo9⟩ := Kd.R_slice HO642.out; subst eo9; have p643 : 0 ≤ (0 : Int) := (by omega); have q643 : 0 < (t640.length : Int) := of_decide_eq_true (by first | (with_reducible assumption) | assumption); obtain ⟨ad643, e643, hx643_0⟩ := Kd.at_int (Kd.R_reads' HO642.out).2.2 0 p643 q643; cases e643; have qi643 : (0 < t640.length) = True := eq_true (by omega); (try rw [show ((0 : Int)).toNat = 0 from rfl] at hx643_0); (try rw [Addr.add_zero'] at hx643_0); replace p643 := eq_true p643; replace q643 := eq_true q643)); try go_wp2_with (first | (go_at_call 86; (with_reducible refine (wigeonref05_textOK.calls k _ _ l0 a1 t639 _ ?side1 ?side2 A3.out).mono ?_); (case side1 => repeat (first | exact HR0.out | (with_reducible refine Kd.C_alloc ?_ _) | (with_reducible refine Kd.C_drewN ?_ _) | (with_reducible refine Kd.C_drew ?_))); (case side2 => exact HC0.out); rintro e w' ⟨rfl, ⟨nd, rfl⟩⟩; (try first | exact ⟨rfl, _, World.drewN_drewN _ _ _⟩ | exact ⟨rfl, _, Eq.trans (World.drewN_drewN _ _ _) (congrArg (World.drewN _) (Nat.add_assoc _ _ _))⟩)) | (go_at_call 95; (with_reducible refine (wigeonref05_heard.calls k _ _ l0 a1 t640 _ ?side1 ?side2 A5.out).mono ?_); (case side1 => repeat (first | exact HR0.out | (with_reducible refine Kd.C_alloc ?_ _) | (with_reducible refine Kd.C_drewN ?_ _) | (with_reducible refine Kd.C_drew ?_))); (case side2 => exact HC0.out); rintro e w8 ⟨v641, rfl, ho0, hb⟩; have n0_ := Aside0.mk (Kd.R_lower ho0 (below_size (by repeat (first | (with_reducible first | exact HB.out | apply below_alloc | apply pw_below_drewN | apply below_drew1) | exact HB.out)))); have n1_ := Aside0.mk (below_step (by repeat (first | (with_reducible first | exact HB.out | apply below_alloc | apply pw_below_drewN | apply below_drew1) | exact HB.out)) hb); clear HB; have HO642 := n0_; have HB := n1_; clear n0_ n1_; (try clear hb); (try clear hb2); (try clear hk); (try clear hi); (try clear ho0); obtain ⟨Ao9, co9, eo9⟩ := Kd.R_slice HO642.out; subst eo9; have p643 : 0 ≤ (0 : Int) := (by omega); have q643 : 0 < (t640.length : Int) := of_decide_eq_true (by first | (with_reducible assumption) | assumption); obtain ⟨ad643, e643, hx643_0⟩ := Kd.at_int (Kd.R_reads' HO642.out).2.2 0 p643 q643; cases e643; have qi643 : (0 < t640.length) = True := eq_true (by omega); (try rw [show ((0 : Int)).toNat = 0 from rfl] at hx643_0); (try rw [Addr.add_zero'] at hx643_0); replace p643 := eq_true p643; replace q643 := eq_true q643)))
    go_ret3
    exact ⟨_, by first | rfl | (simp [errW_none, errW_some] <;> rfl) | (simp [*, errW_none, errW_some] <;> rfl), by first | exact Kd.R_nil _ _ _ _ _ | exact Kd.N_nil _ _ _ _ _ | exact Kd.V_nil _ _ _ _ _ | exact Kd.Q_nil _ _ _ _ _ | exact Kd.S_nil _ _ _ _ _, by repeat (first | (with_reducible first | exact HB.out | apply below_alloc | apply pw_below_drewN | apply below_drew1) | exact HB.out)⟩
   ·rw [if_neg c7] at H
    have c7b0 : ((rd t640 0) == 0) = false := beq_eq_false_iff_ne.mpr c7
    have c7b1 : ((rd t640 0) != 0) = true := bne_iff_ne.mpr c7
    have H' := Aside0.mk H
    clear H
    go_enter Try.func50, Try.ntmps50
    go_wp2_with (first | (go_at_call 86; (with_reducible refine (wigeonref05_textOK.calls k _ _ l0 a1 t639 _ ?side1 ?side2 A3.out).mono ?_); (case side1 => repeat (first | exact HR0.out | (with_reducible refine Kd.C_alloc ?_ _) | (with_reducible refine Kd.C_drewN ?_ _) | (with_reducible refine Kd.C_drew ?_))); (case side2 => exact HC0.out); rintro e w' ⟨rfl, ⟨nd, rfl⟩⟩; (try first | exact ⟨rfl, _, World.drewN_drewN _ _ _⟩ | exact ⟨rfl, _, Eq.trans (World.drewN_drewN _ _ _) (congrArg (World.drewN _) (Nat.add_assoc _ _ _))⟩)) | (go_at_call 95; (with_reducible refine (wigeonref05_heard.calls k _ _ l0 a1 t640 _ ?side1 ?side2 A5.out).mono ?_); (case side1 => repeat (first | exact HR0.out | (with_reducible refine Kd.C_alloc ?_ _) | (with_reducible refine Kd.C_drewN ?_ _) | (with_reducible refine Kd.C_drew ?_))); (case side2 => exact HC0.out); rintro e w10 ⟨v641, rfl, ho0, hb⟩; have n0_ := Aside0.mk (Kd.R_lower ho0 (below_size (by repeat (first | (with_reducible first | exact HB.out | apply below_alloc | apply pw_below_drewN | apply below_drew1) | exact HB.out)))); have n1_ := Aside0.mk (below_step (by repeat (first | (with_reducible first | exact HB.out | apply below_alloc | apply pw_below_drewN | apply below_drew1) | exact HB.out)) hb); clear HB; have HO642 := n0_; have HB := n1_; clear n0_ n1_; (try clear hb); (try clear hb2); (try clear hk); (try clear hi); (try clear ho0); obtain ⟨Ao11, co11, eo11⟩ := Kd.R_slice HO642.out; subst eo11; have p643 : 0 ≤ (0 : Int) := (by omega); have q643 : 0 < (t640.length : Int) := of_decide_eq_true (by first | (with_reducible assumption) | assumption); obtain ⟨ad643, e643, hx643_0⟩ := Kd.at_int (Kd.R_reads' HO642.out).2.2 0 p643 q643; cases e643; have qi643 : (0 < t640.length) = True := eq_true (by omega); (try rw [show ((0 : Int)).toNat = 0 from rfl] at hx643_0); (try rw [Addr.add_zero'] at hx643_0); replace p643 := eq_true p643; replace q643 := eq_true q643))
    repeat (go_quiet (first | (go_at_call 86; (with_reducible refine (wigeonref05_textOK.calls k _ _ l0 a1 t639 _ ?side1 ?side2 A3.out).mono ?_); (case side1 => repeat (first | exact HR0.out | (with_reducible refine Kd.C_alloc ?_ _) | (with_reducible refine Kd.C_drewN ?_ _) | (with_reducible refine Kd.C_drew ?_))); (case side2 => exact HC0.out); rintro e w' ⟨rfl, ⟨nd, rfl⟩⟩; (try first | exact ⟨rfl, _, World.drewN_drewN _ _ _⟩ | exact ⟨rfl, _, Eq.trans (World.drewN_drewN _ _ _) (congrArg (World.drewN _) (Nat.add_assoc _ _ _))⟩)) | (go_at_call 95; (with_reducible refine (wigeonref05_heard.calls k _ _ l0 a1 t640 _ ?side1 ?side2 A5.out).mono ?_); (case side1 => repeat (first | exact HR0.out | (with_reducible refine Kd.C_alloc ?_ _) | (with_reducible refine Kd.C_drewN ?_ _) | (with_reducible refine Kd.C_drew ?_))); (case side2 => exact HC0.out); rintro e w10 ⟨v641, rfl, ho0, hb⟩; have n0_ := Aside0.mk (Kd.R_lower ho0 (below_size (by repeat (first | (with_reducible first | exact HB.out | apply below_alloc | apply pw_below_drewN | apply below_drew1) | exact HB.out)))); have n1_ := Aside0.mk (below_step (by repeat (first | (with_reducible first | exact HB.out | apply below_alloc | apply pw_below_drewN | apply below_drew1) | exact HB.out)) hb); clear HB; have HO642 := n0_; have HB := n1_; clear n0_ n1_; (try clear hb); (try clear hb2); (try clear hk); (try clear hi); (try clear ho0); obtain ⟨Ao11, co11, eo11⟩ := Kd.R_slice HO642.out; subst eo11; have p643 : 0 ≤ (0 : Int) := (by omega); have q643 : 0 < (t640.length : Int) := of_decide_eq_true (by first | (with_reducible assumption) | assumption); obtain ⟨ad643, e643, hx643_0⟩ := Kd.at_int (Kd.R_reads' HO642.out).2.2 0 p643 q643; cases e643; have qi643 : (0 < t640.length) = True := eq_true (by omega); (try rw [show ((0 : Int)).toNat = 0 from rfl] at hx643_0); (try rw [Addr.add_zero'] at hx643_0); replace p643 := eq_true p643; replace q643 := eq_true q643)); try go_wp2_with (first | (go_at_call 86; (with_reducible refine (wigeonref05_textOK.calls k _ _ l0 a1 t639 _ ?side1 ?side2 A3.out).mono ?_); (case side1 => repeat (first | exact HR0.out | (with_reducible refine Kd.C_alloc ?_ _) | (with_reducible refine Kd.C_drewN ?_ _) | (with_reducible refine Kd.C_drew ?_))); (case side2 => exact HC0.out); rintro e w' ⟨rfl, ⟨nd, rfl⟩⟩; (try first | exact ⟨rfl, _, World.drewN_drewN _ _ _⟩ | exact ⟨rfl, _, Eq.trans (World.drewN_drewN _ _ _) (congrArg (World.drewN _) (Nat.add_assoc _ _ _))⟩)) | (go_at_call 95; (with_reducible refine (wigeonref05_heard.calls k _ _ l0 a1 t640 _ ?side1 ?side2 A5.out).mono ?_); (case side1 => repeat (first | exact HR0.out | (with_reducible refine Kd.C_alloc ?_ _) | (with_reducible refine Kd.C_drewN ?_ _) | (with_reducible refine Kd.C_drew ?_))); (case side2 => exact HC0.out); rintro e w10 ⟨v641, rfl, ho0, hb⟩; have n0_ := Aside0.mk (Kd.R_lower ho0 (below_size (by repeat (first | (with_reducible first | exact HB.out | apply below_alloc | apply pw_below_drewN | apply below_drew1) | exact HB.out)))); have n1_ := Aside0.mk (below_step (by repeat (first | (with_reducible first | exact HB.out | apply below_alloc | apply pw_below_drewN | apply below_drew1) | exact HB.out)) hb); clear HB; have HO642 := n0_; have HB := n1_; clear n0_ n1_; (try clear hb); (try clear hb2); (try clear hk); (try clear hi); (try clear ho0); obtain ⟨Ao11, co11, eo11⟩ := Kd.R_slice HO642.out; subst eo11; have p643 : 0 ≤ (0 : Int) := (by omega); have q643 : 0 < (t640.length : Int) := of_decide_eq_true (by first | (with_reducible assumption) | assumption); obtain ⟨ad643, e643, hx643_0⟩ := Kd.at_int (Kd.R_reads' HO642.out).2.2 0 p643 q643; cases e643; have qi643 : (0 < t640.length) = True := eq_true (by omega); (try rw [show ((0 : Int)).toNat = 0 from rfl] at hx643_0); (try rw [Addr.add_zero'] at hx643_0); replace p643 := eq_true p643; replace q643 := eq_true q643)))
    go_loopg [9, 10] k (fun kq v9 v10 w' => ∃ (x9_1 : List Int) (x10_1 : Int), v10 = .int .i64 x10_1 ∧ Aside0 (wigeonref05_Decode.l0 kq l0 a1 t640 x9_1 x10_1 = some (r1, r2, r3)) ∧ Aside0 (kq ≤ k) ∧ Aside0 (Kd.R (Kd.int .i64) 3 w' w.heap.size (fun k_ => some k_ ≠ (v9 : Value).ownBlock) (.slice (some ad643) t640.length co11) t640) ∧ Aside0 (Kd.R (Kd.int .i64) 3 w' w.heap.size (fun k_ => some k_ ≠ ((.slice (some ad643) t640.length co11) : Value).ownBlock) v9 x9_1) ∧ Aside0 (Below w.heap.size w w'))
    case atStart => exact ⟨(([] : List Int)), (0), (by first | rfl | (simp; done) | (simp [*]; done)), H', ⟨Nat.le_refl _⟩, ⟨by (with_reducible repeat (first | apply Kd.R_alloc | apply Kd.R_drewN | apply Kd.R_drew)); exact Kd.R_mono HO642.out (fun _ hk => (by simp [Value.ownBlock]))⟩, ⟨by first | exact Kd.R_nil _ _ _ _ _ | exact Kd.N_nil _ _ _ _ _ | exact Kd.V_nil _ _ _ _ _ | exact Kd.Q_nil _ _ _ _ _ | exact Kd.S_nil _ _ _ _ _⟩, ⟨by repeat (first | (with_reducible first | exact HB.out | apply below_alloc | apply pw_below_drewN | apply below_drew1) | exact HB.out)⟩⟩
    case round =>
     clear H'
     try clear p2
     try clear c4
     try clear c4b0
     try clear c4b1
     try clear c5
     try clear c6
     try clear c6b0
     try clear c6b1
     try clear p6
     try clear q6
     try clear hx6
     try clear qi6
     try clear c7
     try clear c7b0
     try clear c7b1
     try clear hx643_0
     try clear p643
     try clear q643
     obtain ⟨x9_1, x10_1, rfl, HA, HK1, HO_8, HO_9, HB⟩ := hrel
     cases gk with
     | zero => exact absurd HA.out (by simp [wigeonref05_Decode.l0])
     | succ k1 =>
      have H := HA.out
      clear HA
      simp only [wigeonref05_Decode.l0] at H
      by_cases c12 : x10_1 < (a1.size : Int)
      ·rw [if_pos c12] at H
       have c12b0 : decide (x10_1 < (a1.size : Int)) = true := decide_eq_true c12
       clear c12
       have H' := Aside0.mk H
       clear H
       go_wp2
       repeat (go_quiet (fail); try go_wp2)
       go_loopg [11] k1 (fun kq v11 w' => ∃ (x11_2 : Int), v11 = .int .i64 x11_2 ∧ Aside0 (wigeonref05_Decode.l1 kq l0 a1 t640 x9_1 x10_1 x11_2 = some (r1, r2, r3)) ∧ Aside0 (kq ≤ k1) ∧ Aside0 (Kd.R (Kd.int .i64) 3 w' w.heap.size (fun k_ => some k_ ≠ (u9 : Value).ownBlock) (.slice (some ad643) t640.length co11) t640) ∧ Aside0 (Kd.R (Kd.int .i64) 3 w' w.heap.size (fun k_ => some k_ ≠ ((.slice (some ad643) t640.length co11) : Value).ownBlock) u9 x9_1) ∧ Aside0 (Below w.heap.size w w'))
       case atStart => exact ⟨(0), (by first | rfl | (simp; done) | (simp [*]; done)), H', ⟨Nat.le_refl _⟩, ⟨by (with_reducible repeat (first | apply Kd.R_alloc | apply Kd.R_drewN | apply Kd.R_drew)); exact HO_8.out⟩, ⟨by (with_reducible repeat (first | apply Kd.R_alloc | apply Kd.R_drewN | apply Kd.R_drew)); exact HO_9.out⟩, ⟨by repeat (first | (with_reducible first | exact HB.out | apply below_alloc | apply pw_below_drewN | apply below_drew1) | exact HB.out)⟩⟩
       case round =>
        clear H'
        try clear c1
        try clear p2
        try clear c4
        try clear c4b0
        try clear c4b1
        try clear c5
        try clear c6
        try clear c6b0
        try clear c6b1
        try clear p6
        try clear q6
        try clear hx6
        try clear qi6
        try clear c7
        try clear c7b0
        try clear c7b1
        try clear c12
        try clear c12b0
        try clear hx643_0
        try clear p2
        try clear p6
        try clear p643
        try clear q6
        try clear q643
        obtain ⟨x11_2, rfl, HA, HK2, HO_8, HO_9, HB⟩ := hrel
        cases gk with
        | zero => exact absurd HA.out (by simp [wigeonref05_Decode.l1])
        | succ k2 =>
         have H := HA.out
         clear HA
         simp only [wigeonref05_Decode.l1] at H
         by_cases c13 : 0 ≤ x10_1
         ·rw [if_pos c13] at H
          have c13b0 := eq_true c13
          have c13b1 : decide (0 ≤ x10_1) = true := decide_eq_true c13
          clear c13
          by_cases c14 : x10_1 ≤ (a1.size : Int)
          ·rw [if_pos c14] at H
           have c14b0 := eq_true c14
           have c14b1 : decide (x10_1 ≤ (a1.size : Int)) = true := decide_eq_true c14
           clear c14
           by_cases c15 : 0 ≤ x11_2
           ·rw [if_pos c15] at H
            have c15b0 : decide (0 ≤ x11_2) = true := decide_eq_true c15
            clear c15
            by_cases c16 : x11_2 < (l0.length : Int)
            ·rw [if_pos c16] at H
             have c16b0 : decide (x11_2 < (l0.length : Int)) = true := decide_eq_true c16
             clear c16
             replace H := Option.bind_eq_some_iff.mp H
             obtain ⟨t645, A170, H⟩ := H
             replace H : (if t645 = true then (if 0 ≤ (wrap64 (x10_1 + ((rdOf ByteArray.empty l0 x11_2).size : Int))) then (if (wrap64 (x10_1 + ((rdOf ByteArray.empty l0 x11_2).size : Int))) < (t640.length : Int) then (if (rd t640 (wrap64 (x10_1 + ((rdOf ByteArray.empty l0 x11_2).size : Int)))) = 0 then (wigeonref05_Decode.l1 k2 l0 a1 t640 x9_1 x10_1 (wrap64 (x11_2 + 1))) else (if x9_1.length < 17592186044416 then (wigeonref05_Decode.l0 k2 l0 a1 t640 (x9_1 ++ [x11_2]) (wrap64 (x10_1 + ((rdOf ByteArray.empty l0 x11_2).size : Int)))) else (none))) else (none)) else (none)) else (wigeonref05_Decode.l1 k2 l0 a1 t640 x9_1 x10_1 (wrap64 (x11_2 + 1)))) = some (r1, r2, r3) := H
             have A17 := Aside0.mk A170
             clear A170
             by_cases c18 : t645 = true
             ·subst c18
              have H1 : (if 0 ≤ (wrap64 (x10_1 + ((rdOf ByteArray.empty l0 x11_2).size : Int))) then (if (wrap64 (x10_1 + ((rdOf ByteArray.empty l0 x11_2).size : Int))) < (t640.length : Int) then (if (rd t640 (wrap64 (x10_1 + ((rdOf ByteArray.empty l0 x11_2).size : Int)))) = 0 then (wigeonref05_Decode.l1 k2 l0 a1 t640 x9_1 x10_1 (wrap64 (x11_2 + 1))) else (if x9_1.length < 17592186044416 then (wigeonref05_Decode.l0 k2 l0 a1 t640 (x9_1 ++ [x11_2]) (wrap64 (x10_1 + ((rdOf ByteArray.empty l0 x11_2).size : Int)))) else (none))) else (none)) else (none)) = some (r1, r2, r3) := by rw [if_pos rfl] at H; exact H
              clear H
              have H := H1
              clear H1
              obtain ⟨ji19, hji19⟩ : ∃ j_ : Int, (wrap64 (x10_1 + ((rdOf ByteArray.empty l0 x11_2).size : Int))) = j_ := ⟨_, rfl⟩
              replace H : (if 0 ≤ (ji19) then (if (ji19) < (t640.length : Int) then (if (rd t640 (ji19)) = 0 then (wigeonref05_Decode.l1 k2 l0 a1 t640 x9_1 x10_1 (wrap64 (x11_2 + 1))) else (if x9_1.length < 17592186044416 then (wigeonref05_Decode.l0 k2 l0 a1 t640 (x9_1 ++ [x11_2]) ji19) else (none))) else (none)) else (none)) = some (r1, r2, r3) := by first | (rw [hji19] at H; exact H) | (simp only [hji19] at H ⊢; exact H)
              (try rw [hji19] at A17)
              have hji19w : (IntKind.i64.wrap (x10_1 + ((rdOf ByteArray.empty l0 x11_2).size : Int))) = ji19 := (i64_w _).trans hji19
              by_cases c20 : 0 ≤ (ji19)
              ·rw [if_pos c20] at H
               have c20b0 : decide (0 ≤ (ji19)) = true := decide_eq_true c20
               clear c20
               by_cases c21 : (ji19) < (t640.length : Int)
               ·rw [if_pos c21] at H
                have c21b0 : decide ((ji19) < (t640.length : Int)) = true := decide_eq_true c21
                clear c21
                by_cases c22 : (rd t640 (ji19)) = 0
                ·rw [if_pos c22] at H
                 have c22b0 : ((rd t640 (ji19)) == 0) = true := beq_iff_eq.mpr c22
                 have c22b1 : ((rd t640 (ji19)) != 0) = false := bne_eq_false_iff_eq.mpr c22
                 clear c22
                 have H' := Aside0.mk H
                 clear H
                 have p644 : 0 ≤ (x11_2 : Int) := of_decide_eq_true (by first | (with_reducible assumption) | assumption)
                 have q644 : x11_2 < (l0.length : Int) := of_decide_eq_true (by first | (with_reducible assumption) | assumption)
                 obtain ⟨ad644, e644, hx644_0⟩ := Kd.at_string HR0.out x11_2 p644 q644
                 cases e644
                 replace hx644_0 := (HB.out.cell (World.block_lt_of_cell? w _ hx644_0)).trans hx644_0
                 replace p644 := eq_true p644
                 replace q644 := eq_true q644
                 go_wp2_with (first | (go_at_call 59; (with_reducible refine (wigeonref05_begins.calls (a1.extract (x10_1 : Int).toNat a1.size) (rdOf ByteArray.empty l0 x11_2) true _ A17.out).mono ?_); rintro e w' ⟨rfl, ⟨nd, rfl⟩⟩; (try first | exact ⟨rfl, _, World.drewN_drewN _ _ _⟩ | exact ⟨rfl, _, Eq.trans (World.drewN_drewN _ _ _) (congrArg (World.drewN _) (Nat.add_assoc _ _ _))⟩); have p646 : 0 ≤ (x11_2 : Int) := of_decide_eq_true (by first | (with_reducible assumption) | assumption); have q646 : x11_2 < (l0.length : Int) := of_decide_eq_true (by first | (with_reducible assumption) | assumption); obtain ⟨ad646, e646, hx646_0⟩ := Kd.at_string HR0.out x11_2 p646 q646; obtain rfl : ad644 = ad646 := (by injection e646); replace hx646_0 := (HB.out.cell (World.block_lt_of_cell? w _ hx646_0)).trans hx646_0; replace p646 := eq_true p646; replace q646 := eq_true q646; have p647 : 0 ≤ ((ji19) : Int) := of_decide_eq_true (by first | (with_reducible assumption) | assumption); have q647 : (ji19) < (t640.length : Int) := of_decide_eq_true (by first | (with_reducible assumption) | assumption); obtain ⟨ad647, e647, hx647_0⟩ := Kd.at_int (Kd.R_reads' HO_8.out).2.2 (ji19) p647 q647; obtain rfl : ad643 = ad647 := (by injection e647); replace p647 := eq_true p647; replace q647 := eq_true q647))
                 repeat (go_quiet (first | (go_at_call 59; (with_reducible refine (wigeonref05_begins.calls (a1.extract (x10_1 : Int).toNat a1.size) (rdOf ByteArray.empty l0 x11_2) true _ A17.out).mono ?_); rintro e w' ⟨rfl, ⟨nd, rfl⟩⟩; (try first | exact ⟨rfl, _, World.drewN_drewN _ _ _⟩ | exact ⟨rfl, _, Eq.trans (World.drewN_drewN _ _ _) (congrArg (World.drewN _) (Nat.add_assoc _ _ _))⟩); have p646 : 0 ≤ (x11_2 : Int) := of_decide_eq_true (by first | (with_reducible assumption) | assumption); have q646 : x11_2 < (l0.length : Int) := of_decide_eq_true (by first | (with_reducible assumption) | assumption); obtain ⟨ad646, e646, hx646_0⟩ := Kd.at_string HR0.out x11_2 p646 q646; obtain rfl : ad644 = ad646 := (by injection e646); replace hx646_0 := (HB.out.cell (World.block_lt_of_cell? w _ hx646_0)).trans hx646_0; replace p646 := eq_true p646; replace q646 := eq_true q646; have p647 : 0 ≤ ((ji19) : Int) := of_decide_eq_true (by first | (with_reducible assumption) | assumption); have q647 : (ji19) < (t640.length : Int) := of_decide_eq_true (by first | (with_reducible assumption) | assumption); obtain ⟨ad647, e647, hx647_0⟩ := Kd.at_int (Kd.R_reads' HO_8.out).2.2 (ji19) p647 q647; obtain rfl : ad643 = ad647 := (by injection e647); replace p647 := eq_true p647; replace q647 := eq_true q647)); try go_wp2_with (first | (go_at_call 59; (with_reducible refine (wigeonref05_begins.calls (a1.extract (x10_1 : Int).toNat a1.size) (rdOf ByteArray.empty l0 x11_2) true _ A17.out).mono ?_); rintro e w' ⟨rfl, ⟨nd, rfl⟩⟩; (try first | exact ⟨rfl, _, World.drewN_drewN _ _ _⟩ | exact ⟨rfl, _, Eq.trans (World.drewN_drewN _ _ _) (congrArg (World.drewN _) (Nat.add_assoc _ _ _))⟩); have p646 : 0 ≤ (x11_2 : Int) := of_decide_eq_true (by first | (with_reducible assumption) | assumption); have q646 : x11_2 < (l0.length : Int) := of_decide_eq_true (by first | (with_reducible assumption) | assumption); obtain ⟨ad646, e646, hx646_0⟩ := Kd.at_string HR0.out x11_2 p646 q646; obtain rfl : ad644 = ad646 := (by injection e646); replace hx646_0 := (HB.out.cell (World.block_lt_of_cell? w _ hx646_0)).trans hx646_0; replace p646 := eq_true p646; replace q646 := eq_true q646; have p647 : 0 ≤ ((ji19) : Int) := of_decide_eq_true (by first | (with_reducible assumption) | assumption); have q647 : (ji19) < (t640.length : Int) := of_decide_eq_true (by first | (with_reducible assumption) | assumption); obtain ⟨ad647, e647, hx647_0⟩ := Kd.at_int (Kd.R_reads' HO_8.out).2.2 (ji19) p647 q647; obtain rfl : ad643 = ad647 := (by injection e647); replace p647 := eq_true p647; replace q647 := eq_true q647)))
                 go_roundg k2
                 case measure => have := HK1.out; have := HK2.out; omega
                 case rel => exact ⟨(wrap64 (x11_2 + 1)), (by first | rfl | (simp; done) | (simp [*]; done)), H', ⟨by have := HK1.out; have := HK2.out; omega⟩, ⟨by (with_reducible repeat (first | apply Kd.R_alloc | apply Kd.R_drewN | apply Kd.R_drew)); exact HO_8.out⟩, ⟨by (with_reducible repeat (first | apply Kd.R_alloc | apply Kd.R_drewN | apply Kd.R_drew)); exact HO_9.out⟩, ⟨by repeat (first | (with_reducible first | exact HB.out | apply below_alloc | apply pw_below_drewN | apply below_drew1) | exact HB.out)⟩⟩
                ·rw [if_neg c22] at H
                 have c22b0 : ((rd t640 (ji19)) == 0) = false := beq_eq_false_iff_ne.mpr c22
                 have c22b1 : ((rd t640 (ji19)) != 0) = true := bne_iff_ne.mpr c22
                 by_cases c23 : x9_1.length < 17592186044416
                 ·rw [if_pos c23] at H
                  have LMc23 := Aside0.mk c23
                  clear c23
                  obtain ⟨y648, hy648⟩ : ∃ y_ : List Int, y_ = (x9_1 ++ [x11_2]) := ⟨_, rfl⟩
                  replace H : (wigeonref05_Decode.l0 k2 l0 a1 t640 y648 ji19) = some (r1, r2, r3) := by first | (rw [hy648]; with_reducible exact H) | (have H2_ := (Option.bind_some _ _).symm.trans H; rw [hy648]; with_reducible exact H2_) | (have H2_ := (Option.bind_some _ _).symm.trans H; with_reducible exact H2_) | with_reducible exact H | (rw [hy648]; exact H) | exact H
                  have Ny648 := Aside0.mk hy648
                  clear hy648
                  have H' := Aside0.mk H
                  clear H
                  have p644 : 0 ≤ (x11_2 : Int) := of_decide_eq_true (by first | (with_reducible assumption) | assumption)
                  have q644 : x11_2 < (l0.length : Int) := of_decide_eq_true (by first | (with_reducible assumption) | assumption)
                  obtain ⟨ad644, e644, hx644_0⟩ := Kd.at_string HR0.out x11_2 p644 q644
                  cases e644
                  replace hx644_0 := (HB.out.cell (World.block_lt_of_cell? w _ hx644_0)).trans hx644_0
                  replace p644 := eq_true p644
                  replace q644 := eq_true q644
                  go_wp2_with (first | (go_at_call 59; (with_reducible refine (wigeonref05_begins.calls (a1.extract (x10_1 : Int).toNat a1.size) (rdOf ByteArray.empty l0 x11_2) true _ A17.out).mono ?_); rintro e w' ⟨rfl, ⟨nd, rfl⟩⟩; (try first | exact ⟨rfl, _, World.drewN_drewN _ _ _⟩ | exact ⟨rfl, _, Eq.trans (World.drewN_drewN _ _ _) (congrArg (World.drewN _) (Nat.add_assoc _ _ _))⟩); have p646 : 0 ≤ (x11_2 : Int) := of_decide_eq_true (by first | (with_reducible assumption) | assumption); have q646 : x11_2 < (l0.length : Int) := of_decide_eq_true (by first | (with_reducible assumption) | assumption); obtain ⟨ad646, e646, hx646_0⟩ := Kd.at_string HR0.out x11_2 p646 q646; obtain rfl : ad644 = ad646 := (by injection e646); replace hx646_0 := (HB.out.cell (World.block_lt_of_cell? w _ hx646_0)).trans hx646_0; replace p646 := eq_true p646; replace q646 := eq_true q646; have p647 : 0 ≤ ((ji19) : Int) := of_decide_eq_true (by first | (with_reducible assumption) | assumption); have q647 : (ji19) < (t640.length : Int) := of_decide_eq_true (by first | (with_reducible assumption) | assumption); obtain ⟨ad647, e647, hx647_0⟩ := Kd.at_int (Kd.R_reads' HO_8.out).2.2 (ji19) p647 q647; obtain rfl : ad643 = ad647 := (by injection e647); replace p647 := eq_true p647; replace q647 := eq_true q647) | ((with_reducible refine gate_builtin (b := .append) (xs := #[.tmp 53, .tmp 55]) rfl ?_); (try (refine gate_guard (by rfl) ?_; dsimp only)); at_builtin; refine Kd.R_append (Kd.int .i64) (w0 := w) w.heap.size rfl (.tmp 53) (.tmp 55) 35 3 (.int .i64 0) 8 rfl Try.underlying35 info3 rfl (by decide) (by omega) u9 x9_1 x11_2 [.int .i64 x11_2] (fun k_ => some k_ ≠ (.slice (some ad643) t640.length co11 : Value).ownBlock) (fun _ => False) rfl rfl ?aP (fun _ hk => hk.elim) ?aF ?aO ?aB ?aS ?aL ?_; (case aP => exact rfl); (case aB => exact (by repeat (first | (with_reducible first | exact HB.out | apply below_alloc | apply pw_below_drewN | apply below_drew1) | exact HB.out))); (case aF => exact (fun k_ hk => Kd.fresh' (Kd.R_lt (by (with_reducible repeat (first | apply Kd.R_alloc | apply Kd.R_drewN | apply Kd.R_drew)); exact HO_8.out)) k_ hk)); (case aO => exact (by (with_reducible repeat (first | apply Kd.R_alloc | apply Kd.R_drewN | apply Kd.R_drew)); exact HO_9.out)); (case aS => exact (below_size (by repeat (first | (with_reducible first | exact HB.out | apply below_alloc | apply pw_below_drewN | apply below_drew1) | exact HB.out)))); (case aL => have := LMc23.out; omega); intro v649 w24 ho hb hg hat; rw [← Ny648.out] at ho; have n0_ := Aside0.mk (Kd.R_after (ok := (fun _ => True)) (by (with_reducible repeat (first | apply Kd.R_alloc | apply Kd.R_drewN | apply Kd.R_drew)); exact Kd.R_mono HO_8.out (fun _ hk => ⟨trivial, hk⟩)) hg hat); have n1_ := Aside0.mk (hb); have n2_ := Aside0.mk (ho); clear HO_8; clear HB; clear HO_9; have HO_8 := n0_; have HB := n1_; have HO650 := n2_; clear n0_ n1_ n2_; clear ho hb hg hat; have p651 : 0 ≤ (x11_2 : Int) := of_decide_eq_true (by first | (with_reducible assumption) | assumption); have q651 : x11_2 < (l0.length : Int) := of_decide_eq_true (by first | (with_reducible assumption) | assumption); obtain ⟨ad651, e651, hx651_0⟩ := Kd.at_string HR0.out x11_2 p651 q651; obtain rfl : ad644 = ad651 := (by injection e651); replace hx651_0 := (HB.out.cell (World.block_lt_of_cell? w _ hx651_0)).trans hx651_0; replace p651 := eq_true p651; replace q651 := eq_true q651))
                  repeat (go_quiet (first | (go_at_call 59; (with_reducible refine (wigeonref05_begins.calls (a1.extract (x10_1 : Int).toNat a1.size) (rdOf ByteArray.empty l0 x11_2) true _ A17.out).mono ?_); rintro e w' ⟨rfl, ⟨nd, rfl⟩⟩; (try first | exact ⟨rfl, _, World.drewN_drewN _ _ _⟩ | exact ⟨rfl, _, Eq.trans (World.drewN_drewN _ _ _) (congrArg (World.drewN _) (Nat.add_assoc _ _ _))⟩); have p646 : 0 ≤ (x11_2 : Int) := of_decide_eq_true (by first | (with_reducible assumption) | assumption); have q646 : x11_2 < (l0.length : Int) := of_decide_eq_true (by first | (with_reducible assumption) | assumption); obtain ⟨ad646, e646, hx646_0⟩ := Kd.at_string HR0.out x11_2 p646 q646; obtain rfl : ad644 = ad646 := (by injection e646); replace hx646_0 := (HB.out.cell (World.block_lt_of_cell? w _ hx646_0)).trans hx646_0; replace p646 := eq_true p646; replace q646 := eq_true q646; have p647 : 0 ≤ ((ji19) : Int) := of_decide_eq_true (by first | (with_reducible assumption) | assumption); have q647 : (ji19) < (t640.length : Int) := of_decide_eq_true (by first | (with_reducible assumption) | assumption); obtain ⟨ad647, e647, hx647_0⟩ := Kd.at_int (Kd.R_reads' HO_8.out).2.2 (ji19) p647 q647; obtain rfl : ad643 = ad647 := (by injection e647); replace p647 := eq_true p647; replace q647 := eq_true q647) | ((with_reducible refine gate_builtin (b := .append) (xs := #[.tmp 53, .tmp 55]) rfl ?_); (try (refine gate_guard (by rfl) ?_; dsimp only)); at_builtin; refine Kd.R_append (Kd.int .i64) (w0 := w) w.heap.size rfl (.tmp 53) (.tmp 55) 35 3 (.int .i64 0) 8 rfl Try.underlying35 info3 rfl (by decide) (by omega) u9 x9_1 x11_2 [.int .i64 x11_2] (fun k_ => some k_ ≠ (.slice (some ad643) t640.length co11 : Value).ownBlock) (fun _ => False) rfl rfl ?aP (fun _ hk => hk.elim) ?aF ?aO ?aB ?aS ?aL ?_; (case aP => exact rfl); (case aB => exact (by repeat (first | (with_reducible first | exact HB.out | apply below_alloc | apply pw_below_drewN | apply below_drew1) | exact HB.out))); (case aF => exact (fun k_ hk => Kd.fresh' (Kd.R_lt (by (with_reducible repeat (first | apply Kd.R_alloc | apply Kd.R_drewN | apply Kd.R_drew)); exact HO_8.out)) k_ hk)); (case aO => exact (by (with_reducible repeat (first | apply Kd.R_alloc | apply Kd.R_drewN | apply Kd.R_drew)); exact HO_9.out)); (case aS => exact (below_size (by repeat (first | (with_reducible first | exact HB.out | apply below_alloc | apply pw_below_drewN | apply below_drew1) | exact HB.out)))); (case aL => have := LMc23.out; omega); intro v649 w24 ho hb hg hat; rw [← Ny648.out] at ho; have n0_ := Aside0.mk (Kd.R_after (ok := (fun _ => True)) (by (with_reducible repeat (first | apply Kd.R_alloc | apply Kd.R_drewN | apply Kd.R_drew)); exact Kd.R_mono HO_8.out (fun _ hk => ⟨trivial, hk⟩)) hg hat); have n1_ := Aside0.mk (hb); have n2_ := Aside0.mk (ho); clear HO_8; clear HB; clear HO_9; have HO_8 := n0_; have HB := n1_; have HO650 := n2_; clear n0_ n1_ n2_; clear ho hb hg hat; have p651 : 0 ≤ (x11_2 : Int) := of_decide_eq_true (by first | (with_reducible assumption) | assumption); have q651 : x11_2 < (l0.length : Int) := of_decide_eq_true (by first | (with_reducible assumption) | assumption); obtain ⟨ad651, e651, hx651_0⟩ := Kd.at_string HR0.out x11_2 p651 q651; obtain rfl : ad644 = ad651 := (by injection e651); replace hx651_0 := (HB.out.cell (World.block_lt_of_cell? w _ hx651_0)).trans hx651_0; replace p651 := eq_true p651; replace q651 := eq_true q651)); try go_wp2_with (first | (go_at_call 59; (with_reducible refine (wigeonref05_begins.calls (a1.extract (x10_1 : Int).toNat a1.size) (rdOf ByteArray.empty l0 x11_2) true _ A17.out).mono ?_); rintro e w' ⟨rfl, ⟨nd, rfl⟩⟩; (try first | exact ⟨rfl, _, World.drewN_drewN _ _ _⟩ | exact ⟨rfl, _, Eq.trans (World.drewN_drewN _ _ _) (congrArg (World.drewN _) (Nat.add_assoc _ _ _))⟩); have p646 : 0 ≤ (x11_2 : Int) := of_decide_eq_true (by first | (with_reducible assumption) | assumption); have q646 : x11_2 < (l0.length : Int) := of_decide_eq_true (by first | (with_reducible assumption) | assumption); obtain ⟨ad646, e646, hx646_0⟩ := Kd.at_string HR0.out x11_2 p646 q646; obtain rfl : ad644 = ad646 := (by injection e646); replace hx646_0 := (HB.out.cell (World.block_lt_of_cell? w _ hx646_0)).trans hx646_0; replace p646 := eq_true p646; replace q646 := eq_true q646; have p647 : 0 ≤ ((ji19) : Int) := of_decide_eq_true (by first | (with_reducible assumption) | assumption); have q647 : (ji19) < (t640.length : Int) := of_decide_eq_true (by first | (with_reducible assumption) | assumption); obtain ⟨ad647, e647, hx647_0⟩ := Kd.at_int (Kd.R_reads' HO_8.out).2.2 (ji19) p647 q647; obtain rfl : ad643 = ad647 := (by injection e647); replace p647 := eq_true p647; replace q647 := eq_true q647) | ((with_reducible refine gate_builtin (b := .append) (xs := #[.tmp 53, .tmp 55]) rfl ?_); (try (refine gate_guard (by rfl) ?_; dsimp only)); at_builtin; refine Kd.R_append (Kd.int .i64) (w0 := w) w.heap.size rfl (.tmp 53) (.tmp 55) 35 3 (.int .i64 0) 8 rfl Try.underlying35 info3 rfl (by decide) (by omega) u9 x9_1 x11_2 [.int .i64 x11_2] (fun k_ => some k_ ≠ (.slice (some ad643) t640.length co11 : Value).ownBlock) (fun _ => False) rfl rfl ?aP (fun _ hk => hk.elim) ?aF ?aO ?aB ?aS ?aL ?_; (case aP => exact rfl); (case aB => exact (by repeat (first | (with_reducible first | exact HB.out | apply below_alloc | apply pw_below_drewN | apply below_drew1) | exact HB.out))); (case aF => exact (fun k_ hk => Kd.fresh' (Kd.R_lt (by (with_reducible repeat (first | apply Kd.R_alloc | apply Kd.R_drewN | apply Kd.R_drew)); exact HO_8.out)) k_ hk)); (case aO => exact (by (with_reducible repeat (first | apply Kd.R_alloc | apply Kd.R_drewN | apply Kd.R_drew)); exact HO_9.out)); (case aS => exact (below_size (by repeat (first | (with_reducible first | exact HB.out | apply below_alloc | apply pw_below_drewN | apply below_drew1) | exact HB.out)))); (case aL => have := LMc23.out; omega); intro v649 w24 ho hb hg hat; rw [← Ny648.out] at ho; have n0_ := Aside0.mk (Kd.R_after (ok := (fun _ => True)) (by (with_reducible repeat (first | apply Kd.R_alloc | apply Kd.R_drewN | apply Kd.R_drew)); exact Kd.R_mono HO_8.out (fun _ hk => ⟨trivial, hk⟩)) hg hat); have n1_ := Aside0.mk (hb); have n2_ := Aside0.mk (ho); clear HO_8; clear HB; clear HO_9; have HO_8 := n0_; have HB := n1_; have HO650 := n2_; clear n0_ n1_ n2_; clear ho hb hg hat; have p651 : 0 ≤ (x11_2 : Int) := of_decide_eq_true (by first | (with_reducible assumption) | assumption); have q651 : x11_2 < (l0.length : Int) := of_decide_eq_true (by first | (with_reducible assumption) | assumption); obtain ⟨ad651, e651, hx651_0⟩ := Kd.at_string HR0.out x11_2 p651 q651; obtain rfl : ad644 = ad651 := (by injection e651); replace hx651_0 := (HB.out.cell (World.block_lt_of_cell? w _ hx651_0)).trans hx651_0; replace p651 := eq_true p651; replace q651 := eq_true q651)))
                  go_roundg k2
                  case measure => have := HK1.out; have := HK2.out; omega
                  case rel => exact ⟨(y648), (ji19), (by first | rfl | (simp; done) | (simp only [← hji19] <;> (first | rfl | simp)) | (simp [*]; done)), H', ⟨by have := HK1.out; have := HK2.out; omega⟩, ⟨by (with_reducible repeat (first | apply Kd.R_alloc | apply Kd.R_drewN | apply Kd.R_drew)); exact Kd.R_mono HO_8.out (fun _ hk => hk.2)⟩, ⟨by (with_reducible repeat (first | apply Kd.R_alloc | apply Kd.R_drewN | apply Kd.R_drew)); exact HO650.out⟩, ⟨by repeat (first | (with_reducible first | exact HB.out | apply below_alloc | apply pw_below_drewN | apply below_drew1) | exact HB.out)⟩⟩
                 ·rw [if_neg c23] at H
                  exact absurd H (by simp)
               ·rw [if_neg c21] at H
                exact absurd H (by simp)
              ·rw [if_neg c20] at H
               exact absurd H (by simp)
             ·replace c18 := Bool.eq_false_iff.mpr c18
              subst c18
              have H1 : (wigeonref05_Decode.l1 k2 l0 a1 t640 x9_1 x10_1 (wrap64 (x11_2 + 1))) = some (r1, r2, r3) := by rw [if_neg (show ¬ (false = true) by decide)] at H; exact H
              clear H
              have H := H1
              clear H1
              have H' := Aside0.mk H
              clear H
              have p644 : 0 ≤ (x11_2 : Int) := of_decide_eq_true (by first | (with_reducible assumption) | assumption)
              have q644 : x11_2 < (l0.length : Int) := of_decide_eq_true (by first | (with_reducible assumption) | assumption)
              obtain ⟨ad644, e644, hx644_0⟩ := Kd.at_string HR0.out x11_2 p644 q644
              cases e644
              replace hx644_0 := (HB.out.cell (World.block_lt_of_cell? w _ hx644_0)).trans hx644_0
              replace p644 := eq_true p644
              replace q644 := eq_true q644
              go_wp2_with (first | (go_at_call 59; (with_reducible refine (wigeonref05_begins.calls (a1.extract (x10_1 : Int).toNat a1.size) (rdOf ByteArray.empty l0 x11_2) false _ A17.out).mono ?_); rintro e w' ⟨rfl, ⟨nd, rfl⟩⟩; (try first | exact ⟨rfl, _, World.drewN_drewN _ _ _⟩ | exact ⟨rfl, _, Eq.trans (World.drewN_drewN _ _ _) (congrArg (World.drewN _) (Nat.add_assoc _ _ _))⟩)))
              repeat (go_quiet (first | (go_at_call 59; (with_reducible refine (wigeonref05_begins.calls (a1.extract (x10_1 : Int).toNat a1.size) (rdOf ByteArray.empty l0 x11_2) false _ A17.out).mono ?_); rintro e w' ⟨rfl, ⟨nd, rfl⟩⟩; (try first | exact ⟨rfl, _, World.drewN_drewN _ _ _⟩ | exact ⟨rfl, _, Eq.trans (World.drewN_drewN _ _ _) (congrArg (World.drewN _) (Nat.add_assoc _ _ _))⟩))); try go_wp2_with (first | (go_at_call 59; (with_reducible refine (wigeonref05_begins.calls (a1.extract (x10_1 : Int).toNat a1.size) (rdOf ByteArray.empty l0 x11_2) false _ A17.out).mono ?_); rintro e w' ⟨rfl, ⟨nd, rfl⟩⟩; (try first | exact ⟨rfl, _, World.drewN_drewN _ _ _⟩ | exact ⟨rfl, _, Eq.trans (World.drewN_drewN _ _ _) (congrArg (World.drewN _) (Nat.add_assoc _ _ _))⟩))))
              go_roundg k2
              case measure => have := HK1.out; have := HK2.out; omega
              case rel => exact ⟨(wrap64 (x11_2 + 1)), (by first | rfl | (simp; done) | (simp [*]; done)), H', ⟨by have := HK1.out; have := HK2.out; omega⟩, ⟨by (with_reducible repeat (first | apply Kd.R_alloc | apply Kd.R_drewN | apply Kd.R_drew)); exact HO_8.out⟩, ⟨by (with_reducible repeat (first | apply Kd.R_alloc | apply Kd.R_drewN | apply Kd.R_drew)); exact HO_9.out⟩, ⟨by repeat (first | (with_reducible first | exact HB.out | apply below_alloc | apply pw_below_drewN | apply below_drew1) | exact HB.out)⟩⟩
            ·rw [if_neg c16] at H
             exact absurd H (by simp)
           ·rw [if_neg c15] at H
            exact absurd H (by simp)
          ·rw [if_neg c14] at H
           exact absurd H (by simp)
         ·rw [if_neg c13] at H
          exact absurd H (by simp)
      ·rw [if_neg c12] at H
       have c12b0 : decide (x10_1 < (a1.size : Int)) = false := decide_eq_false c12
       clear c12
       simp only [Option.some.injEq, Prod.mk.injEq] at H
       obtain ⟨rfl, rfl, rfl⟩ := H
       go_wp2
       repeat (go_quiet (fail); try go_wp2)
       go_ret3
       exact ⟨_, by first | rfl | (simp [errW_none, errW_some] <;> rfl) | (simp [*, errW_none, errW_some] <;> rfl), by (with_reducible repeat (first | apply Kd.R_alloc | apply Kd.R_drewN | apply Kd.R_drew)); exact Kd.R_mono HO_9.out (fun _ hk => trivial), by repeat (first | (with_reducible first | exact HB.out | apply below_alloc | apply pw_below_drewN | apply below_drew1) | exact HB.out)⟩
  ·rw [if_neg c6] at H
   exact absurd H (by simp)
 ·rw [if_neg c4] at H
  have c4b0 : (t639 == 0) = false := beq_eq_false_iff_ne.mpr c4
  have c4b1 : (t639 != 0) = true := bne_iff_ne.mpr c4
  simp only [Option.some.injEq, Prod.mk.injEq] at H
  obtain ⟨rfl, rfl, rfl⟩ := H
  go_enter Try.func50, Try.ntmps50
  go_wp2_with (first | (go_at_call 86; (with_reducible refine (wigeonref05_textOK.calls k _ _ l0 a1 t639 _ ?side1 ?side2 A3.out).mono ?_); (case side1 => repeat (first | exact HR0.out | (with_reducible refine Kd.C_alloc ?_ _) | (with_reducible refine Kd.C_drewN ?_ _) | (with_reducible refine Kd.C_drew ?_))); (case side2 => exact HC0.out); rintro e w' ⟨rfl, ⟨nd, rfl⟩⟩; (try first | exact ⟨rfl, _, World.drewN_drewN _ _ _⟩ | exact ⟨rfl, _, Eq.trans (World.drewN_drewN _ _ _) (congrArg (World.drewN _) (Nat.add_assoc _ _ _))⟩)))
  repeat (go_quiet (first | (go_at_call 86; (with_reducible refine (wigeonref05_textOK.calls k _ _ l0 a1 t639 _ ?side1 ?side2 A3.out).mono ?_); (case side1 => repeat (first | exact HR0.out | (with_reducible refine Kd.C_alloc ?_ _) | (with_reducible refine Kd.C_drewN ?_ _) | (with_reducible refine Kd.C_drew ?_))); (case side2 => exact HC0.out); rintro e w' ⟨rfl, ⟨nd, rfl⟩⟩; (try first | exact ⟨rfl, _, World.drewN_drewN _ _ _⟩ | exact ⟨rfl, _, Eq.trans (World.drewN_drewN _ _ _) (congrArg (World.drewN _) (Nat.add_assoc _ _ _))⟩))); try go_wp2_with (first | (go_at_call 86; (with_reducible refine (wigeonref05_textOK.calls k _ _ l0 a1 t639 _ ?side1 ?side2 A3.out).mono ?_); (case side1 => repeat (first | exact HR0.out | (with_reducible refine Kd.C_alloc ?_ _) | (with_reducible refine Kd.C_drewN ?_ _) | (with_reducible refine Kd.C_drew ?_))); (case side2 => exact HC0.out); rintro e w' ⟨rfl, ⟨nd, rfl⟩⟩; (try first | exact ⟨rfl, _, World.drewN_drewN _ _ _⟩ | exact ⟨rfl, _, Eq.trans (World.drewN_drewN _ _ _) (congrArg (World.drewN _) (Nat.add_assoc _ _ _))⟩))))
  go_ret3
  exact ⟨_, by first | rfl | (simp [errW_none, errW_some] <;> rfl) | (simp [*, errW_none, errW_some] <;> rfl), by first | exact Kd.R_nil _ _ _ _ _ | exact Kd.N_nil _ _ _ _ _ | exact Kd.V_nil _ _ _ _ _ | exact Kd.Q_nil _ _ _ _ _ | exact Kd.S_nil _ _ _ _ _, by repeat (first | (with_reducible first | exact HB.out | apply below_alloc | apply pw_below_drewN | apply below_drew1) | exact HB.out)⟩

end Go.Proofs.Ytpkafcoflgbnaaa.Q
