-- Written by a program of this session (wip/tools/gprint.py, over the kit's print); Lean checks it.
import Derived.Test.YtpkafcoflgbnaaaQx0
import Derived.Test.YtpkafcoflgbnaaaQx2
import Derived.Test.YtpkafcoflgbnaaaQx10
import Derived.Test.YtpkafcoflgbnaaaQx22
import Derived.Test.YtpkafcoflgbnaaaQx24
import Derived.Test.YtpkafcoflgbnaaaQx27
import Derived.Test.YtpkafcoflgbnaaaQx31
import Derived.Test.YtpkafcoflgbnaaaQx32
namespace Go.Proofs.Ytpkafcoflgbnaaa.Q
open Go.RowKit Go.Proofs.YtpkafcoflgbnaaaW.PrintWords Go.Proofs.YtpkafcoflgbnaaaW.PrintLast Go.Proofs.YtpkafcoflgbnaaaW.PrintMore
attribute [local go_sem] max2_int min2_int max_two min_two max_three min_three max_four min_four   -- for this text's walks alone
set_option linter.unusedVariables false
set_option linter.unusedSimpArgs false

/-! ### wigeonlaw05_WhistleHears: function 13 -/
mutual
def wigeonlaw05_WhistleHears.j0 : Nat → List ByteArray → ByteArray → Bool → Option (Bool)
 | 0, _, _, _ => none
 | k + 1, x0, x1, x23 => if x23 = true then ((wigeonlaw05_known.f k).bind fun t630 => (some t630)) else ((whistle_Heard.f k x0 x1).bind fun bt631 => ((wigeonref05_Heard.f k x0 x1).bind fun bt633 => ((whistle_Decode.f k x0 x1).bind fun bt635 => ((wigeonref05_Decode.f k x0 x1).bind fun bt640 => (if bt631.1 = bt633.1 then (if bt631.2 = bt633.2 then ((wigeonref05_SameInts.f k bt635.1 bt640.1).bind fun t645 => (if t645 = true then (if (bt635.2.1 != bt640.2.1) = true then (wigeonlaw05_WhistleHears.j1 k x0 x1 bt631.1 bt635.1 bt635.2.1 true) else (wigeonlaw05_WhistleHears.j1 k x0 x1 bt631.1 bt635.1 bt635.2.1 (bt635.2.2 != bt640.2.2))) else (wigeonlaw05_WhistleHears.j1 k x0 x1 bt631.1 bt635.1 bt635.2.1 true))) else (wigeonlaw05_WhistleHears.j1 k x0 x1 bt631.1 bt635.1 bt635.2.1 true)) else (wigeonlaw05_WhistleHears.j1 k x0 x1 bt631.1 bt635.1 bt635.2.1 true))))))
def wigeonlaw05_WhistleHears.j1 : Nat → List ByteArray → ByteArray → Int → List Int → Bool → Bool → Option (Bool)
 | 0, _, _, _, _, _, _ => none
 | k + 1, x0, x1, x5, x9, x10, x74 => if x74 = true then (none) else ((whistle_Sound.f k x0 x9).bind fun bt646 => (if x10 = true then (if bt646.2 = 0 then (if bt646.1.toList = x1.toList then (if x5 > 0 then ((wigeonlaw05_known.f k).bind fun t648 => (some t648)) else (none)) else (none)) else (none)) else ((wigeonlaw05_known.f k).bind fun t649 => (some t649))))
end
def wigeonlaw05_WhistleHears.f (k : Nat) (l0 : List ByteArray) (a1 : ByteArray) : Option (Bool) := (wigeonlaw05_Long.f k l0).bind fun t629 => (if t629 = true then (wigeonlaw05_WhistleHears.j0 k l0 a1 true) else (wigeonlaw05_WhistleHears.j0 k l0 a1 (decide ((a1.size : Int) > 200))))
theorem wigeonlaw05_WhistleHears.j1.dead {k x0 x1 x2 x3 x4} : wigeonlaw05_WhistleHears.j1 k x0 x1 x2 x3 x4 true = none := by cases k <;> simp [wigeonlaw05_WhistleHears.j1]
theorem wigeonlaw05_WhistleHears.mono_l : ∀ k, (∀ y0 y1 y2, LeO (wigeonlaw05_WhistleHears.j0 k y0 y1 y2) (wigeonlaw05_WhistleHears.j0 (k + 1) y0 y1 y2)) ∧ (∀ y0 y1 y2 y3 y4 y5, LeO (wigeonlaw05_WhistleHears.j1 k y0 y1 y2 y3 y4 y5) (wigeonlaw05_WhistleHears.j1 (k + 1) y0 y1 y2 y3 y4 y5))
 | 0 => ⟨fun _ _ _ r h => by simp [wigeonlaw05_WhistleHears.j0] at h, fun _ _ _ _ _ _ r h => by simp [wigeonlaw05_WhistleHears.j1] at h⟩
 | k + 1 => by
  obtain ⟨ih0, ih1⟩ := wigeonlaw05_WhistleHears.mono_l k
  refine ⟨?_, ?_⟩
  ·intro y0 y1 y2
   unfold wigeonlaw05_WhistleHears.j0
   repeat' first
   | (with_reducible exact ih0 _ _ _)
   | (with_reducible exact ih1 _ _ _ _ _ _)
   | (with_reducible exact whistle_Decode.mono _ _ _)
   | (with_reducible exact whistle_Heard.mono _ _ _)
   | (with_reducible exact whistle_Sound.mono _ _ _)
   | (with_reducible exact wigeonlaw05_Long.mono _ _)
   | (with_reducible exact wigeonlaw05_known.mono _)
   | (with_reducible exact wigeonref05_Decode.mono _ _ _)
   | (with_reducible exact wigeonref05_Heard.mono _ _ _)
   | (with_reducible exact wigeonref05_SameInts.mono _ _ _)
   | (with_reducible exact LeO.refl _)
   | (with_reducible exact LeO.none _)
   | (with_reducible refine LeO.ite ?_ ?_)
   | (with_reducible refine LeO.bind ?_ (fun _ => ?_))
   | exact ih0 _ _ _
   | exact ih1 _ _ _ _ _ _
   | exact whistle_Decode.mono _ _ _
   | exact whistle_Heard.mono _ _ _
   | exact whistle_Sound.mono _ _ _
   | exact wigeonlaw05_Long.mono _ _
   | exact wigeonlaw05_known.mono _
   | exact wigeonref05_Decode.mono _ _ _
   | exact wigeonref05_Heard.mono _ _ _
   | exact wigeonref05_SameInts.mono _ _ _
   | exact LeO.none _
   | refine LeO.ite ?_ ?_
   | refine LeO.bind ?_ (fun _ => ?_)
  ·intro y0 y1 y2 y3 y4 y5
   unfold wigeonlaw05_WhistleHears.j1
   repeat' first
   | (with_reducible exact ih0 _ _ _)
   | (with_reducible exact ih1 _ _ _ _ _ _)
   | (with_reducible exact whistle_Decode.mono _ _ _)
   | (with_reducible exact whistle_Heard.mono _ _ _)
   | (with_reducible exact whistle_Sound.mono _ _ _)
   | (with_reducible exact wigeonlaw05_Long.mono _ _)
   | (with_reducible exact wigeonlaw05_known.mono _)
   | (with_reducible exact wigeonref05_Decode.mono _ _ _)
   | (with_reducible exact wigeonref05_Heard.mono _ _ _)
   | (with_reducible exact wigeonref05_SameInts.mono _ _ _)
   | (with_reducible exact LeO.refl _)
   | (with_reducible exact LeO.none _)
   | (with_reducible refine LeO.ite ?_ ?_)
   | (with_reducible refine LeO.bind ?_ (fun _ => ?_))
   | exact ih0 _ _ _
   | exact ih1 _ _ _ _ _ _
   | exact whistle_Decode.mono _ _ _
   | exact whistle_Heard.mono _ _ _
   | exact whistle_Sound.mono _ _ _
   | exact wigeonlaw05_Long.mono _ _
   | exact wigeonlaw05_known.mono _
   | exact wigeonref05_Decode.mono _ _ _
   | exact wigeonref05_Heard.mono _ _ _
   | exact wigeonref05_SameInts.mono _ _ _
   | exact LeO.none _
   | refine LeO.ite ?_ ?_
   | refine LeO.bind ?_ (fun _ => ?_)
theorem wigeonlaw05_WhistleHears.mono : ∀ a0 a1 k, LeO (wigeonlaw05_WhistleHears.f k a0 a1) (wigeonlaw05_WhistleHears.f (k + 1) a0 a1) := by
 intro a0 a1 k
 obtain ⟨ih0, ih1⟩ := wigeonlaw05_WhistleHears.mono_l k
 unfold wigeonlaw05_WhistleHears.f
 repeat' first
   | (with_reducible exact ih0 _ _ _)
   | (with_reducible exact ih1 _ _ _ _ _ _)
   | (with_reducible exact whistle_Decode.mono _ _ _)
   | (with_reducible exact whistle_Heard.mono _ _ _)
   | (with_reducible exact whistle_Sound.mono _ _ _)
   | (with_reducible exact wigeonlaw05_Long.mono _ _)
   | (with_reducible exact wigeonlaw05_known.mono _)
   | (with_reducible exact wigeonref05_Decode.mono _ _ _)
   | (with_reducible exact wigeonref05_Heard.mono _ _ _)
   | (with_reducible exact wigeonref05_SameInts.mono _ _ _)
   | (with_reducible exact LeO.refl _)
   | (with_reducible exact LeO.none _)
   | (with_reducible refine LeO.ite ?_ ?_)
   | (with_reducible refine LeO.bind ?_ (fun _ => ?_))
   | exact ih0 _ _ _
   | exact ih1 _ _ _ _ _ _
   | exact whistle_Decode.mono _ _ _
   | exact whistle_Heard.mono _ _ _
   | exact whistle_Sound.mono _ _ _
   | exact wigeonlaw05_Long.mono _ _
   | exact wigeonlaw05_known.mono _
   | exact wigeonref05_Decode.mono _ _ _
   | exact wigeonref05_Heard.mono _ _ _
   | exact wigeonref05_SameInts.mono _ _ _
   | exact LeO.none _
   | refine LeO.ite ?_ ?_
   | refine LeO.bind ?_ (fun _ => ?_)
set_option maxHeartbeats 8000000 in
set_option maxRecDepth 100000 in
theorem wigeonlaw05_WhistleHears.calls (k : Nat) (A0 : Option Addr) (c0 : Nat) (l0 : List ByteArray) (a1 : ByteArray) (r : Bool) (w : World) (hr0 : Kd.C Kd.string w A0 l0.length l0) (hc0 : l0.length ≤ c0) (h : wigeonlaw05_WhistleHears.f k l0 a1 = some r) :
  Calls Try.prog 13 #[.slice A0 l0.length c0, .string a1] w fun e w' => e = .returned (.bool r) ∧ Below w.heap.size w w' := by
 have HR0 := Aside0.mk hr0
 have HC0 := Aside0.mk hc0
 clear hr0 hc0
 have HB := Aside0.mk (Below.refl w.heap.size w)
 have H : ((wigeonlaw05_Long.f k l0).bind fun t629 => (if t629 = true then (wigeonlaw05_WhistleHears.j0 k l0 a1 true) else (wigeonlaw05_WhistleHears.j0 k l0 a1 (decide ((a1.size : Int) > 200))))) = some r := h
 clear h
 have HC3 := Aside0.mk H
 clear H
 go_enter Try.func13, Try.ntmps13
 go_upto_region 1 with (fail)
 go_cut [23] (fun v23 wc => ∃ (kq : Nat) (x23_2 : Bool), v23 = .bool x23_2 ∧ Aside0 (wigeonlaw05_WhistleHears.j0 kq l0 a1 x23_2 = some r) ∧ Aside0 (kq ≤ k) ∧ Aside0 (Below w.heap.size w wc))
 case first =>
  have H := HC3.out
  clear HC3
  replace H := Option.bind_eq_some_iff.mp H
  obtain ⟨t629, A40, H⟩ := H
  replace H : (if t629 = true then (wigeonlaw05_WhistleHears.j0 k l0 a1 true) else (wigeonlaw05_WhistleHears.j0 k l0 a1 (decide ((a1.size : Int) > 200)))) = some r := H
  have A4 := Aside0.mk A40
  clear A40
  by_cases c5 : t629 = true
  ·subst c5
   have H1 : (wigeonlaw05_WhistleHears.j0 k l0 a1 true) = some r := by rw [if_pos rfl] at H; exact H
   clear H
   have H := H1
   clear H1
   have H' := Aside0.mk H
   clear H
   go_wp2_with (first | ((with_reducible refine gate_callee (f := 16) rfl ?_); refine goesL_ (some 18) rfl rfl Try.func16 (by kernel_rfl) rfl #[.slice A0 l0.length c0] rfl (by (try simp only [List.map_toArray, List.map_cons, List.map_nil]); first | done | rfl | (simp only [List.length_drop, List.length_take]; rfl)) ?_; (with_reducible refine (wigeonlaw05_Long.calls k _ _ l0 true _ ?side1 ?side2 A4.out).mono ?_); (case side1 => repeat (first | exact (Kd.C_below HR0.out HB.out) | (with_reducible refine Kd.C_alloc ?_ _) | (with_reducible refine Kd.C_drewN ?_ _) | (with_reducible refine Kd.C_drew ?_))); (case side2 => exact HC0.out); rintro e w' ⟨rfl, ⟨nd, rfl⟩⟩; refine ⟨_, rfl, ?_⟩))
   go_meet
   case rel => exact ⟨_, (true), (by first | rfl | (simp; done) | (simp [*]; done)), H', ⟨by first | omega | exact Nat.le_refl _⟩, ⟨by repeat (first | (with_reducible first | exact HB.out | apply below_alloc | apply pw_below_drewN | apply below_drew1) | exact HB.out)⟩⟩
  ·replace c5 := Bool.eq_false_iff.mpr c5
   subst c5
   have H1 : (wigeonlaw05_WhistleHears.j0 k l0 a1 (decide ((a1.size : Int) > 200))) = some r := by rw [if_neg (show ¬ (false = true) by decide)] at H; exact H
   clear H
   have H := H1
   clear H1
   have H' := Aside0.mk H
   clear H
   go_wp2_with (first | ((with_reducible refine gate_callee (f := 16) rfl ?_); refine goesL_ (some 18) rfl rfl Try.func16 (by kernel_rfl) rfl #[.slice A0 l0.length c0] rfl (by (try simp only [List.map_toArray, List.map_cons, List.map_nil]); first | done | rfl | (simp only [List.length_drop, List.length_take]; rfl)) ?_; (with_reducible refine (wigeonlaw05_Long.calls k _ _ l0 false _ ?side1 ?side2 A4.out).mono ?_); (case side1 => repeat (first | exact (Kd.C_below HR0.out HB.out) | (with_reducible refine Kd.C_alloc ?_ _) | (with_reducible refine Kd.C_drewN ?_ _) | (with_reducible refine Kd.C_drew ?_))); (case side2 => exact HC0.out); rintro e w' ⟨rfl, ⟨nd, rfl⟩⟩; refine ⟨_, rfl, ?_⟩))
   go_meet
   case rel => exact ⟨_, (decide ((a1.size : Int) > 200)), (by first | rfl | (simp; done) | (simp [*]; done)), H', ⟨by first | omega | exact Nat.le_refl _⟩, ⟨by repeat (first | (with_reducible first | exact HB.out | apply below_alloc | apply pw_below_drewN | apply below_drew1) | exact HB.out)⟩⟩
 case rest =>
  clear HC3
  try clear c1
  try clear p2
  try clear c5
  obtain ⟨kq, x23_2, rfl, HA, HJ2, HB⟩ := hcut
  cases kq with
  | zero => exact absurd HA.out (by simp [wigeonlaw05_WhistleHears.j0])
  | succ kj2 =>
   have H := HA.out
   clear HA
   simp only [wigeonlaw05_WhistleHears.j0] at H
   by_cases c6 : x23_2 = true
   ·subst c6
    have H1 : ((wigeonlaw05_known.f kj2).bind fun t630 => (some t630)) = some r := by rw [if_pos rfl] at H; exact H
    clear H
    have H := H1
    clear H1
    replace H := Option.bind_eq_some_iff.mp H
    obtain ⟨t630, A70, H⟩ := H
    replace H : (some t630) = some r := H
    have A7 := Aside0.mk A70
    clear A70
    obtain rfl := Option.some.inj H
    go_wp2_with (first | ((with_reducible refine gate_callee (f := 17) rfl ?_); refine goesL_ (some 24) rfl rfl Try.func17 (by kernel_rfl) rfl #[] rfl (by (try simp only [List.map_toArray, List.map_cons, List.map_nil]); first | done | rfl | (simp only [List.length_drop, List.length_take]; rfl)) ?_; (with_reducible refine (wigeonlaw05_known.calls kj2  t630 _ A7.out).mono ?_); rintro e w8 ⟨rfl, hb⟩; refine ⟨_, rfl, ?_⟩; have n0_ := Aside0.mk (below_step (by repeat (first | (with_reducible first | exact HB.out | apply below_alloc | apply pw_below_drewN | apply below_drew1) | exact HB.out)) hb); clear HB; have HB := n0_; clear n0_; (try clear hb); (try clear hb2); (try clear hk); (try clear hi)))
    go_ret
    exact ⟨by first | rfl | (simp [errW_none, errW_some] <;> rfl) | (simp [*, errW_none, errW_some] <;> rfl), by repeat (first | (with_reducible first | exact HB.out | apply below_alloc | apply pw_below_drewN | apply below_drew1) | exact HB.out)⟩
   ·replace c6 := Bool.eq_false_iff.mpr c6
    subst c6
    have H1 : ((whistle_Heard.f kj2 l0 a1).bind fun bt631 => ((wigeonref05_Heard.f kj2 l0 a1).bind fun bt633 => ((whistle_Decode.f kj2 l0 a1).bind fun bt635 => ((wigeonref05_Decode.f kj2 l0 a1).bind fun bt640 => (if bt631.1 = bt633.1 then (if bt631.2 = bt633.2 then ((wigeonref05_SameInts.f kj2 bt635.1 bt640.1).bind fun t645 => (if t645 = true then (if (bt635.2.1 != bt640.2.1) = true then (wigeonlaw05_WhistleHears.j1 kj2 l0 a1 bt631.1 bt635.1 bt635.2.1 true) else (wigeonlaw05_WhistleHears.j1 kj2 l0 a1 bt631.1 bt635.1 bt635.2.1 (bt635.2.2 != bt640.2.2))) else (wigeonlaw05_WhistleHears.j1 kj2 l0 a1 bt631.1 bt635.1 bt635.2.1 true))) else (wigeonlaw05_WhistleHears.j1 kj2 l0 a1 bt631.1 bt635.1 bt635.2.1 true)) else (wigeonlaw05_WhistleHears.j1 kj2 l0 a1 bt631.1 bt635.1 bt635.2.1 true)))))) = some r := by rw [if_neg (show ¬ (false = true) by decide)] at H; exact H
    clear H
    have H := H1
    clear H1
    replace H := Option.bind_eq_some_iff.mp H
    obtain ⟨⟨t631, t632⟩, A90, H⟩ := H
    replace H : ((wigeonref05_Heard.f kj2 l0 a1).bind fun bt633 => ((whistle_Decode.f kj2 l0 a1).bind fun bt635 => ((wigeonref05_Decode.f kj2 l0 a1).bind fun bt640 => (if t631 = bt633.1 then (if t632 = bt633.2 then ((wigeonref05_SameInts.f kj2 bt635.1 bt640.1).bind fun t645 => (if t645 = true then (if (bt635.2.1 != bt640.2.1) = true then (wigeonlaw05_WhistleHears.j1 kj2 l0 a1 t631 bt635.1 bt635.2.1 true) else (wigeonlaw05_WhistleHears.j1 kj2 l0 a1 t631 bt635.1 bt635.2.1 (bt635.2.2 != bt640.2.2))) else (wigeonlaw05_WhistleHears.j1 kj2 l0 a1 t631 bt635.1 bt635.2.1 true))) else (wigeonlaw05_WhistleHears.j1 kj2 l0 a1 t631 bt635.1 bt635.2.1 true)) else (wigeonlaw05_WhistleHears.j1 kj2 l0 a1 t631 bt635.1 bt635.2.1 true))))) = some r := H
    have A9 := Aside0.mk A90
    clear A90
    replace H := Option.bind_eq_some_iff.mp H
    obtain ⟨⟨t633, t634⟩, A100, H⟩ := H
    replace H : ((whistle_Decode.f kj2 l0 a1).bind fun bt635 => ((wigeonref05_Decode.f kj2 l0 a1).bind fun bt640 => (if t631 = t633 then (if t632 = t634 then ((wigeonref05_SameInts.f kj2 bt635.1 bt640.1).bind fun t645 => (if t645 = true then (if (bt635.2.1 != bt640.2.1) = true then (wigeonlaw05_WhistleHears.j1 kj2 l0 a1 t631 bt635.1 bt635.2.1 true) else (wigeonlaw05_WhistleHears.j1 kj2 l0 a1 t631 bt635.1 bt635.2.1 (bt635.2.2 != bt640.2.2))) else (wigeonlaw05_WhistleHears.j1 kj2 l0 a1 t631 bt635.1 bt635.2.1 true))) else (wigeonlaw05_WhistleHears.j1 kj2 l0 a1 t631 bt635.1 bt635.2.1 true)) else (wigeonlaw05_WhistleHears.j1 kj2 l0 a1 t631 bt635.1 bt635.2.1 true)))) = some r := H
    have A10 := Aside0.mk A100
    clear A100
    replace H := Option.bind_eq_some_iff.mp H
    obtain ⟨⟨t635, t636, t637⟩, A110, H⟩ := H
    replace H : ((wigeonref05_Decode.f kj2 l0 a1).bind fun bt640 => (if t631 = t633 then (if t632 = t634 then ((wigeonref05_SameInts.f kj2 t635 bt640.1).bind fun t645 => (if t645 = true then (if (t636 != bt640.2.1) = true then (wigeonlaw05_WhistleHears.j1 kj2 l0 a1 t631 t635 t636 true) else (wigeonlaw05_WhistleHears.j1 kj2 l0 a1 t631 t635 t636 (t637 != bt640.2.2))) else (wigeonlaw05_WhistleHears.j1 kj2 l0 a1 t631 t635 t636 true))) else (wigeonlaw05_WhistleHears.j1 kj2 l0 a1 t631 t635 t636 true)) else (wigeonlaw05_WhistleHears.j1 kj2 l0 a1 t631 t635 t636 true))) = some r := H
    have A11 := Aside0.mk A110
    clear A110
    replace H := Option.bind_eq_some_iff.mp H
    obtain ⟨⟨t640, t641, t642⟩, A120, H⟩ := H
    replace H : (if t631 = t633 then (if t632 = t634 then ((wigeonref05_SameInts.f kj2 t635 t640).bind fun t645 => (if t645 = true then (if (t636 != t641) = true then (wigeonlaw05_WhistleHears.j1 kj2 l0 a1 t631 t635 t636 true) else (wigeonlaw05_WhistleHears.j1 kj2 l0 a1 t631 t635 t636 (t637 != t642))) else (wigeonlaw05_WhistleHears.j1 kj2 l0 a1 t631 t635 t636 true))) else (wigeonlaw05_WhistleHears.j1 kj2 l0 a1 t631 t635 t636 true)) else (wigeonlaw05_WhistleHears.j1 kj2 l0 a1 t631 t635 t636 true)) = some r := H
    have A12 := Aside0.mk A120
    clear A120
    have HC13 := Aside0.mk H
    clear H
    go_upto_region 7 with (first | ((with_reducible refine gate_callee (f := 43) rfl ?_); refine goesL_ (some 28) rfl rfl Try.func43 (by kernel_rfl) rfl #[.slice A0 l0.length c0, .string a1] rfl (by (try simp only [List.map_toArray, List.map_cons, List.map_nil]); first | done | rfl | (simp only [List.length_drop, List.length_take]; rfl)) ?_; (with_reducible refine (whistle_Heard.calls kj2 _ _ l0 a1 t631 t632 _ ?side1 ?side2 A9.out).mono ?_); (case side1 => repeat (first | exact (Kd.C_below HR0.out HB.out) | (with_reducible refine Kd.C_alloc ?_ _) | (with_reducible refine Kd.C_drewN ?_ _) | (with_reducible refine Kd.C_drew ?_))); (case side2 => exact HC0.out); rintro e w14 ⟨rfl, hb⟩; refine ⟨_, rfl, ?_⟩; have n0_ := Aside0.mk (below_step (by repeat (first | (with_reducible first | exact HB.out | apply below_alloc | apply pw_below_drewN | apply below_drew1) | exact HB.out)) hb); clear HB; have HB := n0_; clear n0_; (try clear hb); (try clear hb2); (try clear hk); (try clear hi)) | ((with_reducible refine gate_callee (f := 48) rfl ?_); refine goesL_ (some 34) rfl rfl Try.func48 (by kernel_rfl) rfl #[.slice A0 l0.length c0, .string a1] rfl (by (try simp only [List.map_toArray, List.map_cons, List.map_nil]); first | done | rfl | (simp only [List.length_drop, List.length_take]; rfl)) ?_; (with_reducible refine (wigeonref05_Heard.calls kj2 _ _ l0 a1 t633 t634 _ ?side1 ?side2 A10.out).mono ?_); (case side1 => repeat (first | exact (Kd.C_below HR0.out HB.out) | (with_reducible refine Kd.C_alloc ?_ _) | (with_reducible refine Kd.C_drewN ?_ _) | (with_reducible refine Kd.C_drew ?_))); (case side2 => exact HC0.out); rintro e w15 ⟨rfl, hb⟩; refine ⟨_, rfl, ?_⟩; have n0_ := Aside0.mk (below_step (by repeat (first | (with_reducible first | exact HB.out | apply below_alloc | apply pw_below_drewN | apply below_drew1) | exact HB.out)) hb); clear HB; have HB := n0_; clear n0_; (try clear hb); (try clear hb2); (try clear hk); (try clear hi)) | ((with_reducible refine gate_callee (f := 49) rfl ?_); refine goesL_ (some 40) rfl rfl Try.func49 (by kernel_rfl) rfl #[.slice A0 l0.length c0, .string a1] rfl (by (try simp only [List.map_toArray, List.map_cons, List.map_nil]); first | done | rfl | (simp only [List.length_drop, List.length_take]; rfl)) ?_; (with_reducible refine (whistle_Decode.calls kj2 _ _ l0 a1 t635 t636 t637 _ ?side1 ?side2 A11.out).mono ?_); (case side1 => repeat (first | exact (Kd.C_below HR0.out HB.out) | (with_reducible refine Kd.C_alloc ?_ _) | (with_reducible refine Kd.C_drewN ?_ _) | (with_reducible refine Kd.C_drew ?_))); (case side2 => exact HC0.out); rintro e w16 ⟨v638, rfl, ho0, hb⟩; refine ⟨_, rfl, ?_⟩; have n0_ := Aside0.mk (Kd.R_lower ho0 (below_size (by repeat (first | (with_reducible first | exact HB.out | apply below_alloc | apply pw_below_drewN | apply below_drew1) | exact HB.out)))); have n1_ := Aside0.mk (below_step (by repeat (first | (with_reducible first | exact HB.out | apply below_alloc | apply pw_below_drewN | apply below_drew1) | exact HB.out)) hb); clear HB; have HO639 := n0_; have HB := n1_; clear n0_ n1_; (try clear hb); (try clear hb2); (try clear hk); (try clear hi); (try clear ho0)) | ((with_reducible refine gate_callee (f := 50) rfl ?_); refine goesL_ (some 47) rfl rfl Try.func50 (by kernel_rfl) rfl #[.slice A0 l0.length c0, .string a1] rfl (by (try simp only [List.map_toArray, List.map_cons, List.map_nil]); first | done | rfl | (simp only [List.length_drop, List.length_take]; rfl)) ?_; (with_reducible refine (wigeonref05_Decode.calls kj2 _ _ l0 a1 t640 t641 t642 _ ?side1 ?side2 A12.out).mono ?_); (case side1 => repeat (first | exact (Kd.C_below HR0.out HB.out) | (with_reducible refine Kd.C_alloc ?_ _) | (with_reducible refine Kd.C_drewN ?_ _) | (with_reducible refine Kd.C_drew ?_))); (case side2 => exact HC0.out); rintro e w17 ⟨v643, rfl, ho0, hb⟩; refine ⟨_, rfl, ?_⟩; have n0_ := Aside0.mk (Kd.R_elder' (by (with_reducible repeat (first | apply Kd.R_alloc | apply Kd.R_drewN | apply Kd.R_drew)); exact HO639.out) (Kd.R_base ho0) hb); have n1_ := Aside0.mk (Kd.R_lower (Kd.R_new' ho0 (Kd.R_lt (by (with_reducible repeat (first | apply Kd.R_alloc | apply Kd.R_drewN | apply Kd.R_drew)); exact HO639.out))) (below_size (by repeat (first | (with_reducible first | exact HB.out | apply below_alloc | apply pw_below_drewN | apply below_drew1) | exact HB.out)))); have n2_ := Aside0.mk (below_step (by repeat (first | (with_reducible first | exact HB.out | apply below_alloc | apply pw_below_drewN | apply below_drew1) | exact HB.out)) hb); clear HO639; clear HB; have HO639 := n0_; have HO644 := n1_; have HB := n2_; clear n0_ n1_ n2_; (try clear hb); (try clear hb2); (try clear hk); (try clear hi); (try clear ho0)))
    (try simp only [Act.put, List.setIfInBounds_toArray, List.set_cons_zero, List.set_cons_succ])
    go_cut [74] (fun v74 wc => ∃ (kq : Nat) (x74_12 : Bool), v74 = .bool x74_12 ∧ Aside0 (wigeonlaw05_WhistleHears.j1 kq l0 a1 t631 t635 t636 x74_12 = some r) ∧ Aside0 (kq ≤ kj2) ∧ Aside0 (Kd.R (Kd.int .i64) 3 wc w.heap.size (fun _ => True) v638 t635) ∧ Aside0 (Below w.heap.size w wc))
    case first =>
     have H := HC13.out
     clear HC13
     by_cases c18 : t631 = t633
     ·rw [if_pos c18] at H
      have c18b0 : (t631 == t633) = true := beq_iff_eq.mpr c18
      have c18b1 : (t631 != t633) = false := bne_eq_false_iff_eq.mpr c18
      clear c18
      (first | rw [c18b0] | (simp only [i64_w, i32_w]; rw [c18b0]) | skip)
      by_cases c19 : t632 = t634
      ·rw [if_pos c19] at H
       have c19b0 : (t632 == t634) = true := beq_iff_eq.mpr c19
       have c19b1 : (t632 != t634) = false := bne_eq_false_iff_eq.mpr c19
       clear c19
       replace H := Option.bind_eq_some_iff.mp H
       obtain ⟨t645, A200, H⟩ := H
       replace H : (if t645 = true then (if (t636 != t641) = true then (wigeonlaw05_WhistleHears.j1 kj2 l0 a1 t631 t635 t636 true) else (wigeonlaw05_WhistleHears.j1 kj2 l0 a1 t631 t635 t636 (t637 != t642))) else (wigeonlaw05_WhistleHears.j1 kj2 l0 a1 t631 t635 t636 true)) = some r := H
       have A20 := Aside0.mk A200
       clear A200
       by_cases c21 : t645 = true
       ·subst c21
        have H1 : (if (t636 != t641) = true then (wigeonlaw05_WhistleHears.j1 kj2 l0 a1 t631 t635 t636 true) else (wigeonlaw05_WhistleHears.j1 kj2 l0 a1 t631 t635 t636 (t637 != t642))) = some r := by rw [if_pos rfl] at H; exact H
        clear H
        have H := H1
        clear H1
        by_cases c22 : (t636 != t641) = true
        ·rw [if_pos c22] at H
         exact absurd H (by rw [wigeonlaw05_WhistleHears.j1.dead]; simp)
        ·rw [if_neg c22] at H
         have c22b0 : (t636 != t641) = false := by simpa using c22
         (try (have c22b1 : decide (t636 = t641) = true := by simpa using c22))
         (try (have c22b2 : (t636 == t641) = true := by simpa using c22))
         clear c22
         have H' := Aside0.mk H
         clear H
         obtain ⟨Ao25, co25, eo25⟩ := Kd.R_slice HO639.out
         subst eo25
         obtain ⟨Ao26, co26, eo26⟩ := Kd.R_slice HO644.out
         subst eo26
         go_wp2_with (first | (go_at_call 51; (with_reducible refine (wigeonref05_SameInts.calls kj2 _ _ t635 _ _ t640 true _ ?side1 ?side2 ?side3 ?side4 A20.out).mono ?_); (case side1 => repeat (first | exact (Kd.R_reads' HO639.out).2.2 | (with_reducible refine Kd.C_alloc ?_ _) | (with_reducible refine Kd.C_drewN ?_ _) | (with_reducible refine Kd.C_drew ?_))); (case side2 => exact (Kd.R_reads' HO639.out).2.1); (case side3 => repeat (first | exact (Kd.R_reads' HO644.out).2.2 | (with_reducible refine Kd.C_alloc ?_ _) | (with_reducible refine Kd.C_drewN ?_ _) | (with_reducible refine Kd.C_drew ?_))); (case side4 => exact (Kd.R_reads' HO644.out).2.1); rintro e w' ⟨rfl, ⟨nd, rfl⟩⟩))
         go_meet
         case rel => exact ⟨_, ((t637 != t642)), (by first | rfl | (simp; done) | (simp [*]; done)), H', ⟨by have := HJ2.out; first | omega | exact Nat.le_refl _⟩, ⟨by (with_reducible repeat (first | apply Kd.R_alloc | apply Kd.R_drewN | apply Kd.R_drew)); exact Kd.R_mono HO639.out (fun _ hk => trivial)⟩, ⟨by repeat (first | (with_reducible first | exact HB.out | apply below_alloc | apply pw_below_drewN | apply below_drew1) | exact HB.out)⟩⟩
       ·replace c21 := Bool.eq_false_iff.mpr c21
        subst c21
        have H1 : (wigeonlaw05_WhistleHears.j1 kj2 l0 a1 t631 t635 t636 true) = some r := by rw [if_neg (show ¬ (false = true) by decide)] at H; exact H
        exact absurd H1 (by rw [wigeonlaw05_WhistleHears.j1.dead]; simp)
      ·rw [if_neg c19] at H
       have c19b0 : (t632 == t634) = false := beq_eq_false_iff_ne.mpr c19
       have c19b1 : (t632 != t634) = true := bne_iff_ne.mpr c19
       have H' := Aside0.mk H
       clear H
       go_wp2
       go_meet
       case rel => exact ⟨_, (true), (by first | rfl | (simp; done) | (simp [*]; done)), H', ⟨by have := HJ2.out; first | omega | exact Nat.le_refl _⟩, ⟨by (with_reducible repeat (first | apply Kd.R_alloc | apply Kd.R_drewN | apply Kd.R_drew)); exact Kd.R_mono HO639.out (fun _ hk => trivial)⟩, ⟨by repeat (first | (with_reducible first | exact HB.out | apply below_alloc | apply pw_below_drewN | apply below_drew1) | exact HB.out)⟩⟩
     ·rw [if_neg c18] at H
      have c18b0 : (t631 == t633) = false := beq_eq_false_iff_ne.mpr c18
      have c18b1 : (t631 != t633) = true := bne_iff_ne.mpr c18
      (first | rw [c18b0] | (simp only [i64_w, i32_w]; rw [c18b0]) | skip)
      have H' := Aside0.mk H
      clear H
      go_wp2
      go_meet
      case rel => exact ⟨_, (true), (by first | rfl | (simp; done) | (simp [*]; done)), H', ⟨by have := HJ2.out; first | omega | exact Nat.le_refl _⟩, ⟨by (with_reducible repeat (first | apply Kd.R_alloc | apply Kd.R_drewN | apply Kd.R_drew)); exact Kd.R_mono HO639.out (fun _ hk => trivial)⟩, ⟨by repeat (first | (with_reducible first | exact HB.out | apply below_alloc | apply pw_below_drewN | apply below_drew1) | exact HB.out)⟩⟩
    case rest =>
     clear HC13
     try clear c1
     try clear c2
     try clear p2
     try clear c4
     try clear c5
     try clear c6
     try clear c13
     try clear c16
     try clear c17
     try clear c18
     try clear c18b0
     try clear c18b1
     try clear c19
     try clear c19b0
     try clear c19b1
     try clear c21
     try clear c22
     try clear c22b0
     try clear c22b1
     try clear c22b2
     try clear p2
     obtain ⟨kq, x74_12, rfl, HA, HJ12, HO_9, HB⟩ := hcut
     cases kq with
     | zero => exact absurd HA.out (by simp [wigeonlaw05_WhistleHears.j1])
     | succ kj12 =>
      have H := HA.out
      clear HA
      simp only [wigeonlaw05_WhistleHears.j1] at H
      by_cases c29 : x74_12 = true
      ·subst c29
       have H1 : (none) = some r := by rw [if_pos rfl] at H; exact H
       exact absurd H1 (by simp)
      ·replace c29 := Bool.eq_false_iff.mpr c29
       subst c29
       have H1 : ((whistle_Sound.f kj12 l0 t635).bind fun bt646 => (if t636 = true then (if bt646.2 = 0 then (if bt646.1.toList = a1.toList then (if t631 > 0 then ((wigeonlaw05_known.f kj12).bind fun t648 => (some t648)) else (none)) else (none)) else (none)) else ((wigeonlaw05_known.f kj12).bind fun t649 => (some t649)))) = some r := by rw [if_neg (show ¬ (false = true) by decide)] at H; exact H
       clear H
       have H := H1
       clear H1
       replace H := Option.bind_eq_some_iff.mp H
       obtain ⟨⟨t646, t647⟩, A300, H⟩ := H
       replace H : (if t636 = true then (if t647 = 0 then (if t646.toList = a1.toList then (if t631 > 0 then ((wigeonlaw05_known.f kj12).bind fun t648 => (some t648)) else (none)) else (none)) else (none)) else ((wigeonlaw05_known.f kj12).bind fun t649 => (some t649))) = some r := H
       have A30 := Aside0.mk A300
       clear A300
       by_cases c31 : t636 = true
       ·subst c31
        have H1 : (if t647 = 0 then (if t646.toList = a1.toList then (if t631 > 0 then ((wigeonlaw05_known.f kj12).bind fun t648 => (some t648)) else (none)) else (none)) else (none)) = some r := by rw [if_pos rfl] at H; exact H
        clear H
        have H := H1
        clear H1
        by_cases c32 : t647 = 0
        ·rw [if_pos c32] at H
         have c32b0 : (t647 == 0) = true := beq_iff_eq.mpr c32
         have c32b1 : (t647 != 0) = false := bne_eq_false_iff_eq.mpr c32
         clear c32
         by_cases c33 : t646.toList = a1.toList
         ·rw [if_pos c33] at H
          have c33b0 : (t646.toList == a1.toList) = true := beq_iff_eq.mpr c33
          have c33b1 : (t646.toList != a1.toList) = false := bne_eq_false_iff_eq.mpr c33
          clear c33
          by_cases c34 : t631 > 0
          ·rw [if_pos c34] at H
           have c34b0 : decide (0 < t631) = true := decide_eq_true c34
           clear c34
           replace H := Option.bind_eq_some_iff.mp H
           obtain ⟨t648, A350, H⟩ := H
           replace H : (some t648) = some r := H
           have A35 := Aside0.mk A350
           clear A350
           obtain rfl := Option.some.inj H
           obtain ⟨Ao36, co36, eo36⟩ := Kd.R_slice HO_9.out
           subst eo36
           go_wp2_with (first | ((with_reducible refine gate_callee (f := 30) rfl ?_); refine goesL_ (some 78) rfl rfl Try.func30 (by kernel_rfl) rfl #[.slice A0 l0.length c0, .slice Ao36 t635.length co36] rfl (by (try simp only [List.map_toArray, List.map_cons, List.map_nil]); first | done | rfl | (simp only [List.length_drop, List.length_take]; rfl)) ?_; (with_reducible refine (whistle_Sound.calls kj12 _ _ l0 _ _ t635 t646 t647 _ ?side1 ?side2 ?side3 ?side4 A30.out).mono ?_); (case side1 => repeat (first | exact (Kd.C_below HR0.out HB.out) | (with_reducible refine Kd.C_alloc ?_ _) | (with_reducible refine Kd.C_drewN ?_ _) | (with_reducible refine Kd.C_drew ?_))); (case side2 => exact HC0.out); (case side3 => repeat (first | exact (Kd.R_reads' HO_9.out).2.2 | (with_reducible refine Kd.C_alloc ?_ _) | (with_reducible refine Kd.C_drewN ?_ _) | (with_reducible refine Kd.C_drew ?_))); (case side4 => exact (Kd.R_reads' HO_9.out).2.1); rintro e w37 ⟨rfl, hb⟩; refine ⟨_, rfl, ?_⟩; have n0_ := Aside0.mk (Kd.R_below (by (with_reducible repeat (first | apply Kd.R_alloc | apply Kd.R_drewN | apply Kd.R_drew)); exact HO_9.out) hb); have n1_ := Aside0.mk (below_step (by repeat (first | (with_reducible first | exact HB.out | apply below_alloc | apply pw_below_drewN | apply below_drew1) | exact HB.out)) hb); clear HO_9; clear HB; have HO_9 := n0_; have HB := n1_; clear n0_ n1_; (try clear hb); (try clear hb2); (try clear hk); (try clear hi)) | (go_at_call 17; (with_reducible refine (wigeonlaw05_known.calls kj12  t648 _ A35.out).mono ?_); rintro e w38 ⟨rfl, hb⟩; have n0_ := Aside0.mk (Kd.R_below (by (with_reducible repeat (first | apply Kd.R_alloc | apply Kd.R_drewN | apply Kd.R_drew)); exact HO_9.out) hb); have n1_ := Aside0.mk (below_step (by repeat (first | (with_reducible first | exact HB.out | apply below_alloc | apply pw_below_drewN | apply below_drew1) | exact HB.out)) hb); clear HO_9; clear HB; have HO_9 := n0_; have HB := n1_; clear n0_ n1_; (try clear hb); (try clear hb2); (try clear hk); (try clear hi)))
           go_ret
           exact ⟨by first | rfl | (simp [errW_none, errW_some] <;> rfl) | (simp [*, errW_none, errW_some] <;> rfl), by repeat (first | (with_reducible first | exact HB.out | apply below_alloc | apply pw_below_drewN | apply below_drew1) | exact HB.out)⟩
          ·rw [if_neg c34] at H
           exact absurd H (by simp)
         ·rw [if_neg c33] at H
          exact absurd H (by simp)
        ·rw [if_neg c32] at H
         exact absurd H (by simp)
       ·replace c31 := Bool.eq_false_iff.mpr c31
        subst c31
        have H1 : ((wigeonlaw05_known.f kj12).bind fun t649 => (some t649)) = some r := by rw [if_neg (show ¬ (false = true) by decide)] at H; exact H
        clear H
        have H := H1
        clear H1
        replace H := Option.bind_eq_some_iff.mp H
        obtain ⟨t649, A450, H⟩ := H
        replace H : (some t649) = some r := H
        have A45 := Aside0.mk A450
        clear A450
        obtain rfl := Option.some.inj H
        obtain ⟨Ao46, co46, eo46⟩ := Kd.R_slice HO_9.out
        subst eo46
        go_wp2_with (first | ((with_reducible refine gate_callee (f := 30) rfl ?_); refine goesL_ (some 78) rfl rfl Try.func30 (by kernel_rfl) rfl #[.slice A0 l0.length c0, .slice Ao46 t635.length co46] rfl (by (try simp only [List.map_toArray, List.map_cons, List.map_nil]); first | done | rfl | (simp only [List.length_drop, List.length_take]; rfl)) ?_; (with_reducible refine (whistle_Sound.calls kj12 _ _ l0 _ _ t635 t646 t647 _ ?side1 ?side2 ?side3 ?side4 A30.out).mono ?_); (case side1 => repeat (first | exact (Kd.C_below HR0.out HB.out) | (with_reducible refine Kd.C_alloc ?_ _) | (with_reducible refine Kd.C_drewN ?_ _) | (with_reducible refine Kd.C_drew ?_))); (case side2 => exact HC0.out); (case side3 => repeat (first | exact (Kd.R_reads' HO_9.out).2.2 | (with_reducible refine Kd.C_alloc ?_ _) | (with_reducible refine Kd.C_drewN ?_ _) | (with_reducible refine Kd.C_drew ?_))); (case side4 => exact (Kd.R_reads' HO_9.out).2.1); rintro e w47 ⟨rfl, hb⟩; refine ⟨_, rfl, ?_⟩; have n0_ := Aside0.mk (Kd.R_below (by (with_reducible repeat (first | apply Kd.R_alloc | apply Kd.R_drewN | apply Kd.R_drew)); exact HO_9.out) hb); have n1_ := Aside0.mk (below_step (by repeat (first | (with_reducible first | exact HB.out | apply below_alloc | apply pw_below_drewN | apply below_drew1) | exact HB.out)) hb); clear HO_9; clear HB; have HO_9 := n0_; have HB := n1_; clear n0_ n1_; (try clear hb); (try clear hb2); (try clear hk); (try clear hi)) | (go_at_call 17; (with_reducible refine (wigeonlaw05_known.calls kj12  t649 _ A45.out).mono ?_); rintro e w48 ⟨rfl, hb⟩; have n0_ := Aside0.mk (Kd.R_below (by (with_reducible repeat (first | apply Kd.R_alloc | apply Kd.R_drewN | apply Kd.R_drew)); exact HO_9.out) hb); have n1_ := Aside0.mk (below_step (by repeat (first | (with_reducible first | exact HB.out | apply below_alloc | apply pw_below_drewN | apply below_drew1) | exact HB.out)) hb); clear HO_9; clear HB; have HO_9 := n0_; have HB := n1_; clear n0_ n1_; (try clear hb); (try clear hb2); (try clear hk); (try clear hi)))
        go_ret
        exact ⟨by first | rfl | (simp [errW_none, errW_some] <;> rfl) | (simp [*, errW_none, errW_some] <;> rfl), by repeat (first | (with_reducible first | exact HB.out | apply below_alloc | apply pw_below_drewN | apply below_drew1) | exact HB.out)⟩

end Go.Proofs.Ytpkafcoflgbnaaa.Q
