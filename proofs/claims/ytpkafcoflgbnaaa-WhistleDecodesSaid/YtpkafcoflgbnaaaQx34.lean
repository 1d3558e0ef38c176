-- Written by a program of this session (wip/tools/gprint.py, over the kit's print); Lean checks it.
import Derived.Test.YtpkafcoflgbnaaaQx0
import Derived.Test.YtpkafcoflgbnaaaQx2
import Derived.Test.YtpkafcoflgbnaaaQx10
import Derived.Test.YtpkafcoflgbnaaaQx22
import Derived.Test.YtpkafcoflgbnaaaQx24
import Derived.Test.YtpkafcoflgbnaaaQx27
import Derived.Test.YtpkafcoflgbnaaaQx31
namespace Go.Proofs.Ytpkafcoflgbnaaa.Q
open Go.RowKit Go.Proofs.YtpkafcoflgbnaaaW.PrintWords Go.Proofs.YtpkafcoflgbnaaaW.PrintLast Go.Proofs.YtpkafcoflgbnaaaW.PrintMore
attribute [local go_sem] max2_int min2_int max_two min_two max_three min_three max_four min_four   -- for this text's walks alone
set_option linter.unusedVariables false
set_option linter.unusedSimpArgs false

/-! ### wigeonlaw05_WhistleDecodes: function 14 -/
mutual
def wigeonlaw05_WhistleDecodes.j0 : Nat → List ByteArray → List Int → Bool → Option (Bool)
 | 0, _, _, _ => none
 | k + 1, x0, x1, x19 => if x19 = true then ((wigeonlaw05_known.f k).bind fun t652 => (some t652)) else ((whistle_Sound.f k x0 x1).bind fun bt653 => (if bt653.2 = 0 then (wigeonlaw05_WhistleDecodes.j1 k x0 x1 bt653.1 (decide ((bt653.1.size : Int) > 60))) else (wigeonlaw05_WhistleDecodes.j1 k x0 x1 bt653.1 true)))
def wigeonlaw05_WhistleDecodes.j1 : Nat → List ByteArray → List Int → ByteArray → Bool → Option (Bool)
 | 0, _, _, _, _ => none
 | k + 1, x0, x1, x5, x33 => if x33 = true then ((wigeonlaw05_known.f k).bind fun t655 => (some t655)) else ((whistle_Heard.f k x0 x5).bind fun bt656 => ((whistle_Decode.f k x0 x5).bind fun bt658 => ((whistle_IsSafe.f k x0).bind fun bt663 => (if bt656.2 = 0 then (if bt658.2.2 = 0 then (if bt663.2 = 0 then (if bt658.2.1 = true then (wigeonlaw05_WhistleDecodes.j2 k x1 bt656.1 bt658.1 bt663.1 (decide (bt656.1 < 1))) else (wigeonlaw05_WhistleDecodes.j2 k x1 bt656.1 bt658.1 bt663.1 true)) else (wigeonlaw05_WhistleDecodes.j2 k x1 bt656.1 bt658.1 bt663.1 true)) else (wigeonlaw05_WhistleDecodes.j2 k x1 bt656.1 bt658.1 bt663.1 true)) else (wigeonlaw05_WhistleDecodes.j2 k x1 bt656.1 bt658.1 bt663.1 true)))))
def wigeonlaw05_WhistleDecodes.j2 : Nat → List Int → Int → List Int → Bool → Bool → Option (Bool)
 | 0, _, _, _, _, _ => none
 | k + 1, x1, x7, x9, x12, x70 => if x70 = true then (none) else (if x12 = true then (if x7 = 1 then ((wigeonref05_SameInts.f k x9 x1).bind fun t665 => (if t665 = true then ((wigeonlaw05_known.f k).bind fun t666 => (some t666)) else (none))) else (none)) else ((wigeonlaw05_known.f k).bind fun t667 => (some t667)))
end
def wigeonlaw05_WhistleDecodes.f (k : Nat) (l0 : List ByteArray) (l1 : List Int) : Option (Bool) := (wigeonlaw05_Long.f k l0).bind fun t650 => (if t650 = true then (wigeonlaw05_WhistleDecodes.j0 k l0 l1 true) else ((wigeonlaw05_many.f l1).bind fun t651 => (wigeonlaw05_WhistleDecodes.j0 k l0 l1 t651)))
theorem wigeonlaw05_WhistleDecodes.j2.dead {k x0 x1 x2 x3} : wigeonlaw05_WhistleDecodes.j2 k x0 x1 x2 x3 true = none := by cases k <;> simp [wigeonlaw05_WhistleDecodes.j2]
theorem wigeonlaw05_WhistleDecodes.mono_l : ∀ k, (∀ y0 y1 y2, LeO (wigeonlaw05_WhistleDecodes.j0 k y0 y1 y2) (wigeonlaw05_WhistleDecodes.j0 (k + 1) y0 y1 y2)) ∧ (∀ y0 y1 y2 y3, LeO (wigeonlaw05_WhistleDecodes.j1 k y0 y1 y2 y3) (wigeonlaw05_WhistleDecodes.j1 (k + 1) y0 y1 y2 y3)) ∧ (∀ y0 y1 y2 y3 y4, LeO (wigeonlaw05_WhistleDecodes.j2 k y0 y1 y2 y3 y4) (wigeonlaw05_WhistleDecodes.j2 (k + 1) y0 y1 y2 y3 y4))
 | 0 => ⟨fun _ _ _ r h => by simp [wigeonlaw05_WhistleDecodes.j0] at h, fun _ _ _ _ r h => by simp [wigeonlaw05_WhistleDecodes.j1] at h, fun _ _ _ _ _ r h => by simp [wigeonlaw05_WhistleDecodes.j2] at h⟩
 | k + 1 => by
  obtain ⟨ih0, ih1, ih2⟩ := wigeonlaw05_WhistleDecodes.mono_l k
  refine ⟨?_, ?_, ?_⟩
  ·intro y0 y1 y2
   unfold wigeonlaw05_WhistleDecodes.j0
   repeat' first
   | (with_reducible exact ih0 _ _ _)
   | (with_reducible exact ih1 _ _ _ _)
   | (with_reducible exact ih2 _ _ _ _ _)
   | (with_reducible exact whistle_Decode.mono _ _ _)
   | (with_reducible exact whistle_Heard.mono _ _ _)
   | (with_reducible exact whistle_IsSafe.mono _ _)
   | (with_reducible exact whistle_Sound.mono _ _ _)
   | (with_reducible exact wigeonlaw05_Long.mono _ _)
   | (with_reducible exact wigeonlaw05_known.mono _)
   | (with_reducible exact wigeonref05_SameInts.mono _ _ _)
   | (with_reducible exact LeO.refl _)
   | (with_reducible exact LeO.none _)
   | (with_reducible refine LeO.ite ?_ ?_)
   | (with_reducible refine LeO.bind ?_ (fun _ => ?_))
   | exact ih0 _ _ _
   | exact ih1 _ _ _ _
   | exact ih2 _ _ _ _ _
   | exact whistle_Decode.mono _ _ _
   | exact whistle_Heard.mono _ _ _
   | exact whistle_IsSafe.mono _ _
   | exact whistle_Sound.mono _ _ _
   | exact wigeonlaw05_Long.mono _ _
   | exact wigeonlaw05_known.mono _
   | exact wigeonref05_SameInts.mono _ _ _
   | exact LeO.none _
   | refine LeO.ite ?_ ?_
   | refine LeO.bind ?_ (fun _ => ?_)
  ·intro y0 y1 y2 y3
   unfold wigeonlaw05_WhistleDecodes.j1
   repeat' first
   | (with_reducible exact ih0 _ _ _)
   | (with_reducible exact ih1 _ _ _ _)
   | (with_reducible exact ih2 _ _ _ _ _)
   | (with_reducible exact whistle_Decode.mono _ _ _)
   | (with_reducible exact whistle_Heard.mono _ _ _)
   | (with_reducible exact whistle_IsSafe.mono _ _)
   | (with_reducible exact whistle_Sound.mono _ _ _)
   | (with_reducible exact wigeonlaw05_Long.mono _ _)
   | (with_reducible exact wigeonlaw05_known.mono _)
   | (with_reducible exact wigeonref05_SameInts.mono _ _ _)
   | (with_reducible exact LeO.refl _)
   | (with_reducible exact LeO.none _)
   | (with_reducible refine LeO.ite ?_ ?_)
   | (with_reducible refine LeO.bind ?_ (fun _ => ?_))
   | exact ih0 _ _ _
   | exact ih1 _ _ _ _
   | exact ih2 _ _ _ _ _
   | exact whistle_Decode.mono _ _ _
   | exact whistle_Heard.mono _ _ _
   | exact whistle_IsSafe.mono _ _
   | exact whistle_Sound.mono _ _ _
   | exact wigeonlaw05_Long.mono _ _
   | exact wigeonlaw05_known.mono _
   | exact wigeonref05_SameInts.mono _ _ _
   | exact LeO.none _
   | refine LeO.ite ?_ ?_
   | refine LeO.bind ?_ (fun _ => ?_)
  ·intro y0 y1 y2 y3 y4
   unfold wigeonlaw05_WhistleDecodes.j2
   repeat' first
   | (with_reducible exact ih0 _ _ _)
   | (with_reducible exact ih1 _ _ _ _)
   | (with_reducible exact ih2 _ _ _ _ _)
   | (with_reducible exact whistle_Decode.mono _ _ _)
   | (with_reducible exact whistle_Heard.mono _ _ _)
   | (with_reducible exact whistle_IsSafe.mono _ _)
   | (with_reducible exact whistle_Sound.mono _ _ _)
   | (with_reducible exact wigeonlaw05_Long.mono _ _)
   | (with_reducible exact wigeonlaw05_known.mono _)
   | (with_reducible exact wigeonref05_SameInts.mono _ _ _)
   | (with_reducible exact LeO.refl _)
   | (with_reducible exact LeO.none _)
   | (with_reducible refine LeO.ite ?_ ?_)
   | (with_reducible refine LeO.bind ?_ (fun _ => ?_))
   | exact ih0 _ _ _
   | exact ih1 _ _ _ _
   | exact ih2 _ _ _ _ _
   | exact whistle_Decode.mono _ _ _
   | exact whistle_Heard.mono _ _ _
   | exact whistle_IsSafe.mono _ _
   | exact whistle_Sound.mono _ _ _
   | exact wigeonlaw05_Long.mono _ _
   | exact wigeonlaw05_known.mono _
   | exact wigeonref05_SameInts.mono _ _ _
   | exact LeO.none _
   | refine LeO.ite ?_ ?_
   | refine LeO.bind ?_ (fun _ => ?_)
theorem wigeonlaw05_WhistleDecodes.mono : ∀ a0 a1 k, LeO (wigeonlaw05_WhistleDecodes.f k a0 a1) (wigeonlaw05_WhistleDecodes.f (k + 1) a0 a1) := by
 intro a0 a1 k
 obtain ⟨ih0, ih1, ih2⟩ := wigeonlaw05_WhistleDecodes.mono_l k
 unfold wigeonlaw05_WhistleDecodes.f
 repeat' first
   | (with_reducible exact ih0 _ _ _)
   | (with_reducible exact ih1 _ _ _ _)
   | (with_reducible exact ih2 _ _ _ _ _)
   | (with_reducible exact whistle_Decode.mono _ _ _)
   | (with_reducible exact whistle_Heard.mono _ _ _)
   | (with_reducible exact whistle_IsSafe.mono _ _)
   | (with_reducible exact whistle_Sound.mono _ _ _)
   | (with_reducible exact wigeonlaw05_Long.mono _ _)
   | (with_reducible exact wigeonlaw05_known.mono _)
   | (with_reducible exact wigeonref05_SameInts.mono _ _ _)
   | (with_reducible exact LeO.refl _)
   | (with_reducible exact LeO.none _)
   | (with_reducible refine LeO.ite ?_ ?_)
   | (with_reducible refine LeO.bind ?_ (fun _ => ?_))
   | exact ih0 _ _ _
   | exact ih1 _ _ _ _
   | exact ih2 _ _ _ _ _
   | exact whistle_Decode.mono _ _ _
   | exact whistle_Heard.mono _ _ _
   | exact whistle_IsSafe.mono _ _
   | exact whistle_Sound.mono _ _ _
   | exact wigeonlaw05_Long.mono _ _
   | exact wigeonlaw05_known.mono _
   | exact wigeonref05_SameInts.mono _ _ _
   | exact LeO.none _
   | refine LeO.ite ?_ ?_
   | refine LeO.bind ?_ (fun _ => ?_)
set_option maxHeartbeats 8000000 in
set_option maxRecDepth 100000 in
theorem wigeonlaw05_WhistleDecodes.calls (k : Nat) (A0 : Option Addr) (c0 : Nat) (l0 : List ByteArray) (A1 : Option Addr) (c1 : Nat) (l1 : List Int) (r : Bool) (w : World) (hr0 : Kd.C Kd.string w A0 l0.length l0) (hc0 : l0.length ≤ c0) (hr1 : Kd.C (Kd.int .i64) w A1 l1.length l1) (hc1 : l1.length ≤ c1) (h : wigeonlaw05_WhistleDecodes.f k l0 l1 = some r) :
  Calls Try.prog 14 #[.slice A0 l0.length c0, .slice A1 l1.length c1] w fun e w' => e = .returned (.bool r) ∧ Below w.heap.size w w' := by
 have HR0 := Aside0.mk hr0
 have HC0 := Aside0.mk hc0
 clear hr0 hc0
 have HR1 := Aside0.mk hr1
 have HC1 := Aside0.mk hc1
 clear hr1 hc1
 have HB := Aside0.mk (Below.refl w.heap.size w)
 have H : ((wigeonlaw05_Long.f k l0).bind fun t650 => (if t650 = true then (wigeonlaw05_WhistleDecodes.j0 k l0 l1 true) else ((wigeonlaw05_many.f l1).bind fun t651 => (wigeonlaw05_WhistleDecodes.j0 k l0 l1 t651)))) = some r := h
 clear h
 have HC3 := Aside0.mk H
 clear H
 go_enter Try.func14, Try.ntmps14
 go_upto_region 1 with (fail)
 go_cut [19] (fun v19 wc => ∃ (kq : Nat) (x19_2 : Bool), v19 = .bool x19_2 ∧ Aside0 (wigeonlaw05_WhistleDecodes.j0 kq l0 l1 x19_2 = some r) ∧ Aside0 (kq ≤ k) ∧ Aside0 (Below w.heap.size w wc))
 case first =>
  have H := HC3.out
  clear HC3
  replace H := Option.bind_eq_some_iff.mp H
  obtain ⟨t650, A40, H⟩ := H
  replace H : (if t650 = true then (wigeonlaw05_WhistleDecodes.j0 k l0 l1 true) else ((wigeonlaw05_many.f l1).bind fun t651 => (wigeonlaw05_WhistleDecodes.j0 k l0 l1 t651))) = some r := H
  have A4 := Aside0.mk A40
  clear A40
  by_cases c5 : t650 = true
  ·subst c5
   have H1 : (wigeonlaw05_WhistleDecodes.j0 k l0 l1 true) = some r := by rw [if_pos rfl] at H; exact H
   clear H
   have H := H1
   clear H1
   have H' := Aside0.mk H
   clear H
   go_wp2_with (first | ((with_reducible refine gate_callee (f := 16) rfl ?_); refine goesL_ (some 15) rfl rfl Try.func16 (by kernel_rfl) rfl #[.slice A0 l0.length c0] rfl (by (try simp only [List.map_toArray, List.map_cons, List.map_nil]); first | done | rfl | (simp only [List.length_drop, List.length_take]; rfl)) ?_; (with_reducible refine (wigeonlaw05_Long.calls k _ _ l0 true _ ?side1 ?side2 A4.out).mono ?_); (case side1 => repeat (first | exact (Kd.C_below HR0.out HB.out) | (with_reducible refine Kd.C_alloc ?_ _) | (with_reducible refine Kd.C_drewN ?_ _) | (with_reducible refine Kd.C_drew ?_))); (case side2 => exact HC0.out); rintro e w' ⟨rfl, ⟨nd, rfl⟩⟩; refine ⟨_, rfl, ?_⟩))
   go_meet
   case rel => exact ⟨_, (true), (by first | rfl | (simp; done) | (simp [*]; done)), H', ⟨by first | omega | exact Nat.le_refl _⟩, ⟨by repeat (first | (with_reducible first | exact HB.out | apply below_alloc | apply pw_below_drewN | apply below_drew1) | exact HB.out)⟩⟩
  ·replace c5 := Bool.eq_false_iff.mpr c5
   subst c5
   have H1 : ((wigeonlaw05_many.f l1).bind fun t651 => (wigeonlaw05_WhistleDecodes.j0 k l0 l1 t651)) = some r := by rw [if_neg (show ¬ (false = true) by decide)] at H; exact H
   clear H
   have H := H1
   clear H1
   replace H := Option.bind_eq_some_iff.mp H
   obtain ⟨t651, A60, H⟩ := H
   replace H : (wigeonlaw05_WhistleDecodes.j0 k l0 l1 t651) = some r := H
   have A6 := Aside0.mk A60
   clear A60
   have H' := Aside0.mk H
   clear H
   go_wp2_with (first | ((with_reducible refine gate_callee (f := 16) rfl ?_); refine goesL_ (some 15) rfl rfl Try.func16 (by kernel_rfl) rfl #[.slice A0 l0.length c0] rfl (by (try simp only [List.map_toArray, List.map_cons, List.map_nil]); first | done | rfl | (simp only [List.length_drop, List.length_take]; rfl)) ?_; (with_reducible refine (wigeonlaw05_Long.calls k _ _ l0 false _ ?side1 ?side2 A4.out).mono ?_); (case side1 => repeat (first | exact (Kd.C_below HR0.out HB.out) | (with_reducible refine Kd.C_alloc ?_ _) | (with_reducible refine Kd.C_drewN ?_ _) | (with_reducible refine Kd.C_drew ?_))); (case side2 => exact HC0.out); rintro e w' ⟨rfl, ⟨nd, rfl⟩⟩; refine ⟨_, rfl, ?_⟩) | (go_at_call 29; (with_reducible refine (wigeonlaw05_many.calls _ _ l1 t651 _ ?side1 ?side2 A6.out).mono ?_); (case side1 => repeat (first | exact (Kd.C_below HR1.out (by repeat (first | (with_reducible first | exact HB.out | apply below_alloc | apply pw_below_drewN | apply below_drew1) | exact HB.out))) | (with_reducible refine Kd.C_alloc ?_ _) | (with_reducible refine Kd.C_drewN ?_ _) | (with_reducible refine Kd.C_drew ?_))); (case side2 => exact HC1.out); rintro e w' ⟨rfl, ⟨nd, rfl⟩⟩))
   go_meet
   case rel => exact ⟨_, (t651), (by first | rfl | (simp; done) | (simp [*]; done)), H', ⟨by first | omega | exact Nat.le_refl _⟩, ⟨by repeat (first | (with_reducible first | exact HB.out | apply below_alloc | apply pw_below_drewN | apply below_drew1) | exact HB.out)⟩⟩
 case rest =>
  clear HC3
  try clear c1
  try clear p2
  try clear c5
  obtain ⟨kq, x19_2, rfl, HA, HJ2, HB⟩ := hcut
  cases kq with
  | zero => exact absurd HA.out (by simp [wigeonlaw05_WhistleDecodes.j0])
  | succ kj2 =>
   have H := HA.out
   clear HA
   simp only [wigeonlaw05_WhistleDecodes.j0] at H
   by_cases c7 : x19_2 = true
   ·subst c7
    have H1 : ((wigeonlaw05_known.f kj2).bind fun t652 => (some t652)) = some r := by rw [if_pos rfl] at H; exact H
    clear H
    have H := H1
    clear H1
    replace H := Option.bind_eq_some_iff.mp H
    obtain ⟨t652, A80, H⟩ := H
    replace H : (some t652) = some r := H
    have A8 := Aside0.mk A80
    clear A80
    obtain rfl := Option.some.inj H
    go_wp2_with (first | ((with_reducible refine gate_callee (f := 17) rfl ?_); refine goesL_ (some 20) rfl rfl Try.func17 (by kernel_rfl) rfl #[] rfl (by (try simp only [List.map_toArray, List.map_cons, List.map_nil]); first | done | rfl | (simp only [List.length_drop, List.length_take]; rfl)) ?_; (with_reducible refine (wigeonlaw05_known.calls kj2  t652 _ A8.out).mono ?_); rintro e w9 ⟨rfl, hb⟩; refine ⟨_, rfl, ?_⟩; have n0_ := Aside0.mk (below_step (by repeat (first | (with_reducible first | exact HB.out | apply below_alloc | apply pw_below_drewN | apply below_drew1) | exact HB.out)) hb); clear HB; have HB := n0_; clear n0_; (try clear hb); (try clear hb2); (try clear hk); (try clear hi)))
    go_ret
    exact ⟨by first | rfl | (simp [errW_none, errW_some] <;> rfl) | (simp [*, errW_none, errW_some] <;> rfl), by repeat (first | (with_reducible first | exact HB.out | apply below_alloc | apply pw_below_drewN | apply below_drew1) | exact HB.out)⟩
   ·replace c7 := Bool.eq_false_iff.mpr c7
    subst c7
    have H1 : ((whistle_Sound.f kj2 l0 l1).bind fun bt653 => (if bt653.2 = 0 then (wigeonlaw05_WhistleDecodes.j1 kj2 l0 l1 bt653.1 (decide ((bt653.1.size : Int) > 60))) else (wigeonlaw05_WhistleDecodes.j1 kj2 l0 l1 bt653.1 true))) = some r := by rw [if_neg (show ¬ (false = true) by decide)] at H; exact H
    clear H
    have H := H1
    clear H1
    replace H := Option.bind_eq_some_iff.mp H
    obtain ⟨⟨t653, t654⟩, A100, H⟩ := H
    replace H : (if t654 = 0 then (wigeonlaw05_WhistleDecodes.j1 kj2 l0 l1 t653 (decide ((t653.size : Int) > 60))) else (wigeonlaw05_WhistleDecodes.j1 kj2 l0 l1 t653 true)) = some r := H
    have A10 := Aside0.mk A100
    clear A100
    have HC11 := Aside0.mk H
    clear H
    go_upto_region 4 with (first | ((with_reducible refine gate_callee (f := 30) rfl ?_); refine goesL_ (some 24) rfl rfl Try.func30 (by kernel_rfl) rfl #[.slice A0 l0.length c0, .slice A1 l1.length c1] rfl (by (try simp only [List.map_toArray, List.map_cons, List.map_nil]); first | done | rfl | (simp only [List.length_drop, List.length_take]; rfl)) ?_; (with_reducible refine (whistle_Sound.calls kj2 _ _ l0 _ _ l1 t653 t654 _ ?side1 ?side2 ?side3 ?side4 A10.out).mono ?_); (case side1 => repeat (first | exact (Kd.C_below HR0.out HB.out) | (with_reducible refine Kd.C_alloc ?_ _) | (with_reducible refine Kd.C_drewN ?_ _) | (with_reducible refine Kd.C_drew ?_))); (case side2 => exact HC0.out); (case side3 => repeat (first | exact (Kd.C_below HR1.out HB.out) | (with_reducible refine Kd.C_alloc ?_ _) | (with_reducible refine Kd.C_drewN ?_ _) | (with_reducible refine Kd.C_drew ?_))); (case side4 => exact HC1.out); rintro e w12 ⟨rfl, hb⟩; refine ⟨_, rfl, ?_⟩; have n0_ := Aside0.mk (below_step (by repeat (first | (with_reducible first | exact HB.out | apply below_alloc | apply pw_below_drewN | apply below_drew1) | exact HB.out)) hb); clear HB; have HB := n0_; clear n0_; (try clear hb); (try clear hb2); (try clear hk); (try clear hi)))
    (try simp only [Act.put, List.setIfInBounds_toArray, List.set_cons_zero, List.set_cons_succ])
    go_cut [33] (fun v33 wc => ∃ (kq : Nat) (x33_10 : Bool), v33 = .bool x33_10 ∧ Aside0 (wigeonlaw05_WhistleDecodes.j1 kq l0 l1 t653 x33_10 = some r) ∧ Aside0 (kq ≤ kj2) ∧ Aside0 (Below w.heap.size w wc))
    case first =>
     have H := HC11.out
     clear HC11
     by_cases c13 : t654 = 0
     ·rw [if_pos c13] at H
      have c13b0 : (t654 == 0) = true := beq_iff_eq.mpr c13
      have c13b1 : (t654 != 0) = false := bne_eq_false_iff_eq.mpr c13
      clear c13
      (first | rw [c13b0] | (simp only [i64_w, i32_w]; rw [c13b0]) | skip)
      have H' := Aside0.mk H
      clear H
      go_wp2
      go_meet
      case rel => exact ⟨_, (decide ((t653.size : Int) > 60)), (by first | rfl | (simp; done) | (simp [*]; done)), H', ⟨by have := HJ2.out; first | omega | exact Nat.le_refl _⟩, ⟨by repeat (first | (with_reducible first | exact HB.out | apply below_alloc | apply pw_below_drewN | apply below_drew1) | exact HB.out)⟩⟩
     ·rw [if_neg c13] at H
      have c13b0 : (t654 == 0) = false := beq_eq_false_iff_ne.mpr c13
      have c13b1 : (t654 != 0) = true := bne_iff_ne.mpr c13
      (first | rw [c13b0] | (simp only [i64_w, i32_w]; rw [c13b0]) | skip)
      have H' := Aside0.mk H
      clear H
      go_wp2
      go_meet
      case rel => exact ⟨_, (true), (by first | rfl | (simp; done) | (simp [*]; done)), H', ⟨by have := HJ2.out; first | omega | exact Nat.le_refl _⟩, ⟨by repeat (first | (with_reducible first | exact HB.out | apply below_alloc | apply pw_below_drewN | apply below_drew1) | exact HB.out)⟩⟩
    case rest =>
     clear HC11
     try clear c1
     try clear p2
     try clear c3
     try clear c5
     try clear c7
     try clear c13
     try clear c13b0
     try clear c13b1
     try clear p2
     obtain ⟨kq, x33_10, rfl, HA, HJ10, HB⟩ := hcut
     cases kq with
     | zero => exact absurd HA.out (by simp [wigeonlaw05_WhistleDecodes.j1])
     | succ kj10 =>
      have H := HA.out
      clear HA
      simp only [wigeonlaw05_WhistleDecodes.j1] at H
      by_cases c14 : x33_10 = true
      ·subst c14
       have H1 : ((wigeonlaw05_known.f kj10).bind fun t655 => (some t655)) = some r := by rw [if_pos rfl] at H; exact H
       clear H
       have H := H1
       clear H1
       replace H := Option.bind_eq_some_iff.mp H
       obtain ⟨t655, A150, H⟩ := H
       replace H : (some t655) = some r := H
       have A15 := Aside0.mk A150
       clear A150
       obtain rfl := Option.some.inj H
       go_wp2_with (first | ((with_reducible refine gate_callee (f := 17) rfl ?_); refine goesL_ (some 34) rfl rfl Try.func17 (by kernel_rfl) rfl #[] rfl (by (try simp only [List.map_toArray, List.map_cons, List.map_nil]); first | done | rfl | (simp only [List.length_drop, List.length_take]; rfl)) ?_; (with_reducible refine (wigeonlaw05_known.calls kj10  t655 _ A15.out).mono ?_); rintro e w16 ⟨rfl, hb⟩; refine ⟨_, rfl, ?_⟩; have n0_ := Aside0.mk (below_step (by repeat (first | (with_reducible first | exact HB.out | apply below_alloc | apply pw_below_drewN | apply below_drew1) | exact HB.out)) hb); clear HB; have HB := n0_; clear n0_; (try clear hb); (try clear hb2); (try clear hk); (try clear hi)))
       go_ret
       exact ⟨by first | rfl | (simp [errW_none, errW_some] <;> rfl) | (simp [*, errW_none, errW_some] <;> rfl), by repeat (first | (with_reducible first | exact HB.out | apply below_alloc | apply pw_below_drewN | apply below_drew1) | exact HB.out)⟩
      ·replace c14 := Bool.eq_false_iff.mpr c14
       subst c14
       have H1 : ((whistle_Heard.f kj10 l0 t653).bind fun bt656 => ((whistle_Decode.f kj10 l0 t653).bind fun bt658 => ((whistle_IsSafe.f kj10 l0).bind fun bt663 => (if bt656.2 = 0 then (if bt658.2.2 = 0 then (if bt663.2 = 0 then (if bt658.2.1 = true then (wigeonlaw05_WhistleDecodes.j2 kj10 l1 bt656.1 bt658.1 bt663.1 (decide (bt656.1 < 1))) else (wigeonlaw05_WhistleDecodes.j2 kj10 l1 bt656.1 bt658.1 bt663.1 true)) else (wigeonlaw05_WhistleDecodes.j2 kj10 l1 bt656.1 bt658.1 bt663.1 true)) else (wigeonlaw05_WhistleDecodes.j2 kj10 l1 bt656.1 bt658.1 bt663.1 true)) else (wigeonlaw05_WhistleDecodes.j2 kj10 l1 bt656.1 bt658.1 bt663.1 true))))) = some r := by rw [if_neg (show ¬ (false = true) by decide)] at H; exact H
       clear H
       have H := H1
       clear H1
       replace H := Option.bind_eq_some_iff.mp H
       obtain ⟨⟨t656, t657⟩, A170, H⟩ := H
       replace H : ((whistle_Decode.f kj10 l0 t653).bind fun bt658 => ((whistle_IsSafe.f kj10 l0).bind fun bt663 => (if t657 = 0 then (if bt658.2.2 = 0 then (if bt663.2 = 0 then (if bt658.2.1 = true then (wigeonlaw05_WhistleDecodes.j2 kj10 l1 t656 bt658.1 bt663.1 (decide (t656 < 1))) else (wigeonlaw05_WhistleDecodes.j2 kj10 l1 t656 bt658.1 bt663.1 true)) else (wigeonlaw05_WhistleDecodes.j2 kj10 l1 t656 bt658.1 bt663.1 true)) else (wigeonlaw05_WhistleDecodes.j2 kj10 l1 t656 bt658.1 bt663.1 true)) else (wigeonlaw05_WhistleDecodes.j2 kj10 l1 t656 bt658.1 bt663.1 true)))) = some r := H
       have A17 := Aside0.mk A170
       clear A170
       replace H := Option.bind_eq_some_iff.mp H
       obtain ⟨⟨t658, t659, t660⟩, A180, H⟩ := H
       replace H : ((whistle_IsSafe.f kj10 l0).bind fun bt663 => (if t657 = 0 then (if t660 = 0 then (if bt663.2 = 0 then (if t659 = true then (wigeonlaw05_WhistleDecodes.j2 kj10 l1 t656 t658 bt663.1 (decide (t656 < 1))) else (wigeonlaw05_WhistleDecodes.j2 kj10 l1 t656 t658 bt663.1 true)) else (wigeonlaw05_WhistleDecodes.j2 kj10 l1 t656 t658 bt663.1 true)) else (wigeonlaw05_WhistleDecodes.j2 kj10 l1 t656 t658 bt663.1 true)) else (wigeonlaw05_WhistleDecodes.j2 kj10 l1 t656 t658 bt663.1 true))) = some r := H
       have A18 := Aside0.mk A180
       clear A180
       replace H := Option.bind_eq_some_iff.mp H
       obtain ⟨⟨t663, t664⟩, A190, H⟩ := H
       replace H : (if t657 = 0 then (if t660 = 0 then (if t664 = 0 then (if t659 = true then (wigeonlaw05_WhistleDecodes.j2 kj10 l1 t656 t658 t663 (decide (t656 < 1))) else (wigeonlaw05_WhistleDecodes.j2 kj10 l1 t656 t658 t663 true)) else (wigeonlaw05_WhistleDecodes.j2 kj10 l1 t656 t658 t663 true)) else (wigeonlaw05_WhistleDecodes.j2 kj10 l1 t656 t658 t663 true)) else (wigeonlaw05_WhistleDecodes.j2 kj10 l1 t656 t658 t663 true)) = some r := H
       have A19 := Aside0.mk A190
       clear A190
       have HC20 := Aside0.mk H
       clear H
       go_upto_region 9 with (first | ((with_reducible refine gate_callee (f := 43) rfl ?_); refine goesL_ (some 38) rfl rfl Try.func43 (by kernel_rfl) rfl #[.slice A0 l0.length c0, .string t653] rfl (by (try simp only [List.map_toArray, List.map_cons, List.map_nil]); first | done | rfl | (simp only [List.length_drop, List.length_take]; rfl)) ?_; (with_reducible refine (whistle_Heard.calls kj10 _ _ l0 t653 t656 t657 _ ?side1 ?side2 A17.out).mono ?_); (case side1 => repeat (first | exact (Kd.C_below HR0.out HB.out) | (with_reducible refine Kd.C_alloc ?_ _) | (with_reducible refine Kd.C_drewN ?_ _) | (with_reducible refine Kd.C_drew ?_))); (case side2 => exact HC0.out); rintro e w21 ⟨rfl, hb⟩; refine ⟨_, rfl, ?_⟩; have n0_ := Aside0.mk (below_step (by repeat (first | (with_reducible first | exact HB.out | apply below_alloc | apply pw_below_drewN | apply below_drew1) | exact HB.out)) hb); clear HB; have HB := n0_; clear n0_; (try clear hb); (try clear hb2); (try clear hk); (try clear hi)) | ((with_reducible refine gate_callee (f := 49) rfl ?_); refine goesL_ (some 44) rfl rfl Try.func49 (by kernel_rfl) rfl #[.slice A0 l0.length c0, .string t653] rfl (by (try simp only [List.map_toArray, List.map_cons, List.map_nil]); first | done | rfl | (simp only [List.length_drop, List.length_take]; rfl)) ?_; (with_reducible refine (whistle_Decode.calls kj10 _ _ l0 t653 t658 t659 t660 _ ?side1 ?side2 A18.out).mono ?_); (case side1 => repeat (first | exact (Kd.C_below HR0.out HB.out) | (with_reducible refine Kd.C_alloc ?_ _) | (with_reducible refine Kd.C_drewN ?_ _) | (with_reducible refine Kd.C_drew ?_))); (case side2 => exact HC0.out); rintro e w22 ⟨v661, rfl, ho0, hb⟩; refine ⟨_, rfl, ?_⟩; have n0_ := Aside0.mk (Kd.R_lower ho0 (below_size (by repeat (first | (with_reducible first | exact HB.out | apply below_alloc | apply pw_below_drewN | apply below_drew1) | exact HB.out)))); have n1_ := Aside0.mk (below_step (by repeat (first | (with_reducible first | exact HB.out | apply below_alloc | apply pw_below_drewN | apply below_drew1) | exact HB.out)) hb); clear HB; have HO662 := n0_; have HB := n1_; clear n0_ n1_; (try clear hb); (try clear hb2); (try clear hk); (try clear hi); (try clear ho0)) | ((with_reducible refine gate_callee (f := 21) rfl ?_); refine goesL_ (some 50) rfl rfl Try.func21 (by kernel_rfl) rfl #[.slice A0 l0.length c0] rfl (by (try simp only [List.map_toArray, List.map_cons, List.map_nil]); first | done | rfl | (simp only [List.length_drop, List.length_take]; rfl)) ?_; (with_reducible refine (whistle_IsSafe.calls kj10 _ _ l0 t663 t664 _ ?side1 ?side2 A19.out).mono ?_); (case side1 => repeat (first | exact (Kd.C_below HR0.out HB.out) | (with_reducible refine Kd.C_alloc ?_ _) | (with_reducible refine Kd.C_drewN ?_ _) | (with_reducible refine Kd.C_drew ?_))); (case side2 => exact HC0.out); rintro e w23 ⟨rfl, hb⟩; refine ⟨_, rfl, ?_⟩; have n0_ := Aside0.mk (Kd.R_below (by (with_reducible repeat (first | apply Kd.R_alloc | apply Kd.R_drewN | apply Kd.R_drew)); exact HO662.out) hb); have n1_ := Aside0.mk (below_step (by repeat (first | (with_reducible first | exact HB.out | apply below_alloc | apply pw_below_drewN | apply below_drew1) | exact HB.out)) hb); clear HO662; clear HB; have HO662 := n0_; have HB := n1_; clear n0_ n1_; (try clear hb); (try clear hb2); (try clear hk); (try clear hi)))
       (try simp only [Act.put, List.setIfInBounds_toArray, List.set_cons_zero, List.set_cons_succ])
       go_cut [70] (fun v70 wc => ∃ (kq : Nat) (x70_19 : Bool), v70 = .bool x70_19 ∧ Aside0 (wigeonlaw05_WhistleDecodes.j2 kq l1 t656 t658 t663 x70_19 = some r) ∧ Aside0 (kq ≤ kj10) ∧ Aside0 (Kd.R (Kd.int .i64) 3 wc w.heap.size (fun _ => True) v661 t658) ∧ Aside0 (Below w.heap.size w wc))
       case first =>
        have H := HC20.out
        clear HC20
        by_cases c24 : t657 = 0
        ·rw [if_pos c24] at H
         have c24b0 : (t657 == 0) = true := beq_iff_eq.mpr c24
         have c24b1 : (t657 != 0) = false := bne_eq_false_iff_eq.mpr c24
         clear c24
         (first | rw [c24b0] | (simp only [i64_w, i32_w]; rw [c24b0]) | skip)
         by_cases c25 : t660 = 0
         ·rw [if_pos c25] at H
          have c25b0 : (t660 == 0) = true := beq_iff_eq.mpr c25
          have c25b1 : (t660 != 0) = false := bne_eq_false_iff_eq.mpr c25
          clear c25
          by_cases c26 : t664 = 0
          ·rw [if_pos c26] at H
           have c26b0 : (t664 == 0) = true := beq_iff_eq.mpr c26
           have c26b1 : (t664 != 0) = false := bne_eq_false_iff_eq.mpr c26
           clear c26
           by_cases c27 : t659 = true
           ·subst c27
            have H1 : (wigeonlaw05_WhistleDecodes.j2 kj10 l1 t656 t658 t663 (decide (t656 < 1))) = some r := by rw [if_pos rfl] at H; exact H
            clear H
            have H := H1
            clear H1
            have H' := Aside0.mk H
            clear H
            go_wp2
            go_meet
            case rel => exact ⟨_, (decide (t656 < 1)), (by first | rfl | (simp; done) | (simp [*]; done)), H', ⟨by have := HJ2.out; have := HJ10.out; first | omega | exact Nat.le_refl _⟩, ⟨by (with_reducible repeat (first | apply Kd.R_alloc | apply Kd.R_drewN | apply Kd.R_drew)); exact HO662.out⟩, ⟨by repeat (first | (with_reducible first | exact HB.out | apply below_alloc | apply pw_below_drewN | apply below_drew1) | exact HB.out)⟩⟩
           ·replace c27 := Bool.eq_false_iff.mpr c27
            subst c27
            have H1 : (wigeonlaw05_WhistleDecodes.j2 kj10 l1 t656 t658 t663 true) = some r := by rw [if_neg (show ¬ (false = true) by decide)] at H; exact H
            exact absurd H1 (by rw [wigeonlaw05_WhistleDecodes.j2.dead]; simp)
          ·rw [if_neg c26] at H
           have c26b0 : (t664 == 0) = false := beq_eq_false_iff_ne.mpr c26
           have c26b1 : (t664 != 0) = true := bne_iff_ne.mpr c26
           have H' := Aside0.mk H
           clear H
           go_wp2
           go_meet
           case rel => exact ⟨_, (true), (by first | rfl | (simp; done) | (simp [*]; done)), H', ⟨by have := HJ2.out; have := HJ10.out; first | omega | exact Nat.le_refl _⟩, ⟨by (with_reducible repeat (first | apply Kd.R_alloc | apply Kd.R_drewN | apply Kd.R_drew)); exact HO662.out⟩, ⟨by repeat (first | (with_reducible first | exact HB.out | apply below_alloc | apply pw_below_drewN | apply below_drew1) | exact HB.out)⟩⟩
         ·rw [if_neg c25] at H
          have c25b0 : (t660 == 0) = false := beq_eq_false_iff_ne.mpr c25
          have c25b1 : (t660 != 0) = true := bne_iff_ne.mpr c25
          have H' := Aside0.mk H
          clear H
          go_wp2
          go_meet
          case rel => exact ⟨_, (true), (by first | rfl | (simp; done) | (simp [*]; done)), H', ⟨by have := HJ2.out; have := HJ10.out; first | omega | exact Nat.le_refl _⟩, ⟨by (with_reducible repeat (first | apply Kd.R_alloc | apply Kd.R_drewN | apply Kd.R_drew)); exact HO662.out⟩, ⟨by repeat (first | (with_reducible first | exact HB.out | apply below_alloc | apply pw_below_drewN | apply below_drew1) | exact HB.out)⟩⟩
        ·rw [if_neg c24] at H
         have c24b0 : (t657 == 0) = false := beq_eq_false_iff_ne.mpr c24
         have c24b1 : (t657 != 0) = true := bne_iff_ne.mpr c24
         (first | rw [c24b0] | (simp only [i64_w, i32_w]; rw [c24b0]) | skip)
         have H' := Aside0.mk H
         clear H
         go_wp2
         go_meet
         case rel => exact ⟨_, (true), (by first | rfl | (simp; done) | (simp [*]; done)), H', ⟨by have := HJ2.out; have := HJ10.out; first | omega | exact Nat.le_refl _⟩, ⟨by (with_reducible repeat (first | apply Kd.R_alloc | apply Kd.R_drewN | apply Kd.R_drew)); exact HO662.out⟩, ⟨by repeat (first | (with_reducible first | exact HB.out | apply below_alloc | apply pw_below_drewN | apply below_drew1) | exact HB.out)⟩⟩
       case rest =>
        clear HC20
        try clear c1
        try clear c2
        try clear p2
        try clear c3
        try clear c4
        try clear c5
        try clear c7
        try clear c13
        try clear c13b0
        try clear c13b1
        try clear c14
        try clear c16
        try clear c17
        try clear c21
        try clear c24
        try clear c24b0
        try clear c24b1
        try clear c25
        try clear c25b0
        try clear c25b1
        try clear c26
        try clear c26b0
        try clear c26b1
        try clear c27
        try clear p2
        obtain ⟨kq, x70_19, rfl, HA, HJ19, HO_9, HB⟩ := hcut
        cases kq with
        | zero => exact absurd HA.out (by simp [wigeonlaw05_WhistleDecodes.j2])
        | succ kj19 =>
         have H := HA.out
         clear HA
         simp only [wigeonlaw05_WhistleDecodes.j2] at H
         by_cases c28 : x70_19 = true
         ·subst c28
          have H1 : (none) = some r := by rw [if_pos rfl] at H; exact H
          exact absurd H1 (by simp)
         ·replace c28 := Bool.eq_false_iff.mpr c28
          subst c28
          have H1 : (if t663 = true then (if t656 = 1 then ((wigeonref05_SameInts.f kj19 t658 l1).bind fun t665 => (if t665 = true then ((wigeonlaw05_known.f kj19).bind fun t666 => (some t666)) else (none))) else (none)) else ((wigeonlaw05_known.f kj19).bind fun t667 => (some t667))) = some r := by rw [if_neg (show ¬ (false = true) by decide)] at H; exact H
          clear H
          have H := H1
          clear H1
          by_cases c29 : t663 = true
          ·subst c29
           have H1 : (if t656 = 1 then ((wigeonref05_SameInts.f kj19 t658 l1).bind fun t665 => (if t665 = true then ((wigeonlaw05_known.f kj19).bind fun t666 => (some t666)) else (none))) else (none)) = some r := by rw [if_pos rfl] at H; exact H
           clear H
           have H := H1
           clear H1
           by_cases c30 : t656 = 1
           ·rw [if_pos c30] at H
            have c30b0 : (t656 == 1) = true := beq_iff_eq.mpr c30
            have c30b1 : (t656 != 1) = false := bne_eq_false_iff_eq.mpr c30
            clear c30
            replace H := Option.bind_eq_some_iff.mp H
            obtain ⟨t665, A310, H⟩ := H
            replace H : (if t665 = true then ((wigeonlaw05_known.f kj19).bind fun t666 => (some t666)) else (none)) = some r := H
            have A31 := Aside0.mk A310
            clear A310
            by_cases c32 : t665 = true
            ·subst c32
             have H1 : ((wigeonlaw05_known.f kj19).bind fun t666 => (some t666)) = some r := by rw [if_pos rfl] at H; exact H
             clear H
             have H := H1
             clear H1
             replace H := Option.bind_eq_some_iff.mp H
             obtain ⟨t666, A330, H⟩ := H
             replace H : (some t666) = some r := H
             have A33 := Aside0.mk A330
             clear A330
             obtain rfl := Option.some.inj H
             obtain ⟨Ao34, co34, eo34⟩ := Kd.R_slice HO_9.out
             subst eo34
             go_wp2_with (first | (go_at_call 51; (with_reducible refine (wigeonref05_SameInts.calls kj19 _ _ t658 _ _ l1 true _ ?side1 ?side2 ?side3 ?side4 A31.out).mono ?_); (case side1 => repeat (first | exact (Kd.R_reads' HO_9.out).2.2 | (with_reducible refine Kd.C_alloc ?_ _) | (with_reducible refine Kd.C_drewN ?_ _) | (with_reducible refine Kd.C_drew ?_))); (case side2 => exact (Kd.R_reads' HO_9.out).2.1); (case side3 => repeat (first | exact (Kd.C_below HR1.out HB.out) | (with_reducible refine Kd.C_alloc ?_ _) | (with_reducible refine Kd.C_drewN ?_ _) | (with_reducible refine Kd.C_drew ?_))); (case side4 => exact HC1.out); rintro e w' ⟨rfl, ⟨nd, rfl⟩⟩) | (go_at_call 17; (with_reducible refine (wigeonlaw05_known.calls kj19  t666 _ A33.out).mono ?_); rintro e w35 ⟨rfl, hb⟩; have n0_ := Aside0.mk (Kd.R_below (by (with_reducible repeat (first | apply Kd.R_alloc | apply Kd.R_drewN | apply Kd.R_drew)); exact HO_9.out) hb); have n1_ := Aside0.mk (below_step (by repeat (first | (with_reducible first | exact HB.out | apply below_alloc | apply pw_below_drewN | apply below_drew1) | exact HB.out)) hb); clear HO_9; clear HB; have HO_9 := n0_; have HB := n1_; clear n0_ n1_; (try clear hb); (try clear hb2); (try clear hk); (try clear hi)))
             go_ret
             exact ⟨by first | rfl | (simp [errW_none, errW_some] <;> rfl) | (simp [*, errW_none, errW_some] <;> rfl), by repeat (first | (with_reducible first | exact HB.out | apply below_alloc | apply pw_below_drewN | apply below_drew1) | exact HB.out)⟩
            ·replace c32 := Bool.eq_false_iff.mpr c32
             subst c32
             have H1 : (none) = some r := by rw [if_neg (show ¬ (false = true) by decide)] at H; exact H
             exact absurd H1 (by simp)
           ·rw [if_neg c30] at H
            exact absurd H (by simp)
          ·replace c29 := Bool.eq_false_iff.mpr c29
           subst c29
           have H1 : ((wigeonlaw05_known.f kj19).bind fun t667 => (some t667)) = some r := by rw [if_neg (show ¬ (false = true) by decide)] at H; exact H
           clear H
           have H := H1
           clear H1
           replace H := Option.bind_eq_some_iff.mp H
           obtain ⟨t667, A370, H⟩ := H
           replace H : (some t667) = some r := H
           have A37 := Aside0.mk A370
           clear A370
           obtain rfl := Option.some.inj H
           go_wp2_with (first | (go_at_call 17; (with_reducible refine (wigeonlaw05_known.calls kj19  t667 _ A37.out).mono ?_); rintro e w38 ⟨rfl, hb⟩; have n0_ := Aside0.mk (Kd.R_below (by (with_reducible repeat (first | apply Kd.R_alloc | apply Kd.R_drewN | apply Kd.R_drew)); exact HO_9.out) hb); have n1_ := Aside0.mk (below_step (by repeat (first | (with_reducible first | exact HB.out | apply below_alloc | apply pw_below_drewN | apply below_drew1) | exact HB.out)) hb); clear HO_9; clear HB; have HO_9 := n0_; have HB := n1_; clear n0_ n1_; (try clear hb); (try clear hb2); (try clear hk); (try clear hi)))
           go_ret
           exact ⟨by first | rfl | (simp [errW_none, errW_some] <;> rfl) | (simp [*, errW_none, errW_some] <;> rfl), by repeat (first | (with_reducible first | exact HB.out | apply below_alloc | apply pw_below_drewN | apply below_drew1) | exact HB.out)⟩

end Go.Proofs.Ytpkafcoflgbnaaa.Q
