-- Written by a program of this session (wip/tools/gprint.py, over the kit's print); Lean checks it.
import Derived.Test.YtpkafcoflgbnaaaQx0
import Derived.Test.YtpkafcoflgbnaaaQx2
import Derived.Test.YtpkafcoflgbnaaaQx10
import Derived.Test.YtpkafcoflgbnaaaQx17
import Derived.Test.YtpkafcoflgbnaaaQx26
import Derived.Test.YtpkafcoflgbnaaaQx27
namespace Go.Proofs.Ytpkafcoflgbnaaa.Q
open Go.RowKit Go.Proofs.YtpkafcoflgbnaaaW.PrintWords Go.Proofs.YtpkafcoflgbnaaaW.PrintLast Go.Proofs.YtpkafcoflgbnaaaW.PrintMore
attribute [local go_sem] max2_int min2_int max_two min_two max_three min_three max_four min_four   -- for this text's walks alone
set_option linter.unusedVariables false
set_option linter.unusedSimpArgs false

/-! ### wigeonlaw05_WhistleCommands: function 10 -/
mutual
def wigeonlaw05_WhistleCommands.j0 : Nat → List ByteArray → ByteArray → Bool → Option (Bool)
 | 0, _, _, _ => none
 | k + 1, x0, x1, x23 => if x23 = true then ((wigeonlaw05_known.f k).bind fun t514 => (some t514)) else ((whistle_Commands.f k x0 x1).bind fun bt515 => ((wigeonref05_Commands.f k x0 x1).bind fun bt520 => ((wigeonref05_SameTexts.f k bt515.1 bt520.1).bind fun t525 => (if t525 = true then (if bt515.2.1.toList = bt520.2.1.toList then (wigeonlaw05_WhistleCommands.j1 k x0 x1 bt515.1 bt515.2.1 bt515.2.2 (bt515.2.2 != bt520.2.2)) else (wigeonlaw05_WhistleCommands.j1 k x0 x1 bt515.1 bt515.2.1 bt515.2.2 true)) else (wigeonlaw05_WhistleCommands.j1 k x0 x1 bt515.1 bt515.2.1 bt515.2.2 true)))))
def wigeonlaw05_WhistleCommands.j1 : Nat → List ByteArray → ByteArray → List ByteArray → ByteArray → Int → Bool → Option (Bool)
 | 0, _, _, _, _, _, _ => none
 | k + 1, x0, x1, x5, x6, x7, x52 => if x52 = true then (none) else (if x7 = 0 then (wigeonlaw05_WhistleCommands.l0 k x0 x1 x5 x6 (⟨#[]⟩ : ByteArray) 0) else ((wigeonlaw05_known.f k).bind fun t526 => (some t526)))
def wigeonlaw05_WhistleCommands.l0 : Nat → List ByteArray → ByteArray → List ByteArray → ByteArray → ByteArray → Int → Option (Bool)
 | 0, _, _, _, _, _, _ => none
 | k + 1, x0, x1, x5, x6, x11, x12 => if x12 < (x5.length : Int) then (if 0 ≤ x12 then (if x11.size + (rdOf ByteArray.empty x5 x12).size ≤ 9223372036854775807 then (wigeonlaw05_WhistleCommands.l0 k x0 x1 x5 x6 (x11 ++ (rdOf ByteArray.empty x5 x12)) (wrap64 (x12 + 1))) else (none)) else (none)) else ((whistle_IsPrefix.f k x0).bind fun bt528 => ((whistle_Heard.f k x0 x1).bind fun bt530 => (if x11.size + x6.size ≤ 9223372036854775807 then (if (x11 ++ x6).toList = x1.toList then (if bt528.2 = 0 then (if bt530.2 = 0 then (if bt528.1 = true then (if bt530.1 ≤ 1 then (if ((bt530.1 == 1) == (x6.toList == ([] : List UInt8))) = true then ((wigeonlaw05_known.f k).bind fun t532 => (some t532)) else (none)) else (none)) else ((wigeonlaw05_known.f k).bind fun t533 => (some t533))) else (none)) else (none)) else (none)) else (none))))
end
def wigeonlaw05_WhistleCommands.f (k : Nat) (l0 : List ByteArray) (a1 : ByteArray) : Option (Bool) := (wigeonlaw05_Long.f k l0).bind fun t513 => (if t513 = true then (wigeonlaw05_WhistleCommands.j0 k l0 a1 true) else (wigeonlaw05_WhistleCommands.j0 k l0 a1 (decide ((a1.size : Int) > 200))))
theorem wigeonlaw05_WhistleCommands.j1.dead {k x0 x1 x2 x3 x4} : wigeonlaw05_WhistleCommands.j1 k x0 x1 x2 x3 x4 true = none := by cases k <;> simp [wigeonlaw05_WhistleCommands.j1]
theorem wigeonlaw05_WhistleCommands.mono_l : ∀ k, (∀ y0 y1 y2, LeO (wigeonlaw05_WhistleCommands.j0 k y0 y1 y2) (wigeonlaw05_WhistleCommands.j0 (k + 1) y0 y1 y2)) ∧ (∀ y0 y1 y2 y3 y4 y5, LeO (wigeonlaw05_WhistleCommands.j1 k y0 y1 y2 y3 y4 y5) (wigeonlaw05_WhistleCommands.j1 (k + 1) y0 y1 y2 y3 y4 y5)) ∧ (∀ y0 y1 y2 y3 y4 y5, LeO (wigeonlaw05_WhistleCommands.l0 k y0 y1 y2 y3 y4 y5) (wigeonlaw05_WhistleCommands.l0 (k + 1) y0 y1 y2 y3 y4 y5))
 | 0 => ⟨fun _ _ _ r h => by simp [wigeonlaw05_WhistleCommands.j0] at h, fun _ _ _ _ _ _ r h => by simp [wigeonlaw05_WhistleCommands.j1] at h, fun _ _ _ _ _ _ r h => by simp [wigeonlaw05_WhistleCommands.l0] at h⟩
 | k + 1 => by
  obtain ⟨ih0, ih1, ih2⟩ := wigeonlaw05_WhistleCommands.mono_l k
  refine ⟨?_, ?_, ?_⟩
  ·intro y0 y1 y2
   unfold wigeonlaw05_WhistleCommands.j0
   repeat' first
   | (with_reducible exact ih0 _ _ _)
   | (with_reducible exact ih1 _ _ _ _ _ _)
   | (with_reducible exact ih2 _ _ _ _ _ _)
   | (with_reducible exact whistle_Commands.mono _ _ _)
   | (with_reducible exact whistle_Heard.mono _ _ _)
   | (with_reducible exact whistle_IsPrefix.mono _ _)
   | (with_reducible exact wigeonlaw05_Long.mono _ _)
   | (with_reducible exact wigeonlaw05_known.mono _)
   | (with_reducible exact wigeonref05_Commands.mono _ _ _)
   | (with_reducible exact wigeonref05_SameTexts.mono _ _ _)
   | (with_reducible exact LeO.refl _)
   | (with_reducible exact LeO.none _)
   | (with_reducible refine LeO.ite ?_ ?_)
   | (with_reducible refine LeO.bind ?_ (fun _ => ?_))
   | exact ih0 _ _ _
   | exact ih1 _ _ _ _ _ _
   | exact ih2 _ _ _ _ _ _
   | exact whistle_Commands.mono _ _ _
   | exact whistle_Heard.mono _ _ _
   | exact whistle_IsPrefix.mono _ _
   | exact wigeonlaw05_Long.mono _ _
   | exact wigeonlaw05_known.mono _
   | exact wigeonref05_Commands.mono _ _ _
   | exact wigeonref05_SameTexts.mono _ _ _
   | exact LeO.none _
   | refine LeO.ite ?_ ?_
   | refine LeO.bind ?_ (fun _ => ?_)
  ·intro y0 y1 y2 y3 y4 y5
   unfold wigeonlaw05_WhistleCommands.j1
   repeat' first
   | (with_reducible exact ih0 _ _ _)
   | (with_reducible exact ih1 _ _ _ _ _ _)
   | (with_reducible exact ih2 _ _ _ _ _ _)
   | (with_reducible exact whistle_Commands.mono _ _ _)
   | (with_reducible exact whistle_Heard.mono _ _ _)
   | (with_reducible exact whistle_IsPrefix.mono _ _)
   | (with_reducible exact wigeonlaw05_Long.mono _ _)
   | (with_reducible exact wigeonlaw05_known.mono _)
   | (with_reducible exact wigeonref05_Commands.mono _ _ _)
   | (with_reducible exact wigeonref05_SameTexts.mono _ _ _)
   | (with_reducible exact LeO.refl _)
   | (with_reducible exact LeO.none _)
   | (with_reducible refine LeO.ite ?_ ?_)
   | (with_reducible refine LeO.bind ?_ (fun _ => ?_))
   | exact ih0 _ _ _
   | exact ih1 _ _ _ _ _ _
   | exact ih2 _ _ _ _ _ _
   | exact whistle_Commands.mono _ _ _
   | exact whistle_Heard.mono _ _ _
   | exact whistle_IsPrefix.mono _ _
   | exact wigeonlaw05_Long.mono _ _
   | exact wigeonlaw05_known.mono _
   | exact wigeonref05_Commands.mono _ _ _
   | exact wigeonref05_SameTexts.mono _ _ _
   | exact LeO.none _
   | refine LeO.ite ?_ ?_
   | refine LeO.bind ?_ (fun _ => ?_)
  ·intro y0 y1 y2 y3 y4 y5
   unfold wigeonlaw05_WhistleCommands.l0
   repeat' first
   | (with_reducible exact ih0 _ _ _)
   | (with_reducible exact ih1 _ _ _ _ _ _)
   | (with_reducible exact ih2 _ _ _ _ _ _)
   | (with_reducible exact whistle_Commands.mono _ _ _)
   | (with_reducible exact whistle_Heard.mono _ _ _)
   | (with_reducible exact whistle_IsPrefix.mono _ _)
   | (with_reducible exact wigeonlaw05_Long.mono _ _)
   | (with_reducible exact wigeonlaw05_known.mono _)
   | (with_reducible exact wigeonref05_Commands.mono _ _ _)
   | (with_reducible exact wigeonref05_SameTexts.mono _ _ _)
   | (with_reducible exact LeO.refl _)
   | (with_reducible exact LeO.none _)
   | (with_reducible refine LeO.ite ?_ ?_)
   | (with_reducible refine LeO.bind ?_ (fun _ => ?_))
   | exact ih0 _ _ _
   | exact ih1 _ _ _ _ _ _
   | exact ih2 _ _ _ _ _ _
   | exact whistle_Commands.mono _ _ _
   | exact whistle_Heard.mono _ _ _
   | exact whistle_IsPrefix.mono _ _
   | exact wigeonlaw05_Long.mono _ _
   | exact wigeonlaw05_known.mono _
   | exact wigeonref05_Commands.mono _ _ _
   | exact wigeonref05_SameTexts.mono _ _ _
   | exact LeO.none _
   | refine LeO.ite ?_ ?_
   | refine LeO.bind ?_ (fun _ => ?_)
theorem wigeonlaw05_WhistleCommands.mono : ∀ a0 a1 k, LeO (wigeonlaw05_WhistleCommands.f k a0 a1) (wigeonlaw05_WhistleCommands.f (k + 1) a0 a1) := by
 intro a0 a1 k
 obtain ⟨ih0, ih1, ih2⟩ := wigeonlaw05_WhistleCommands.mono_l k
 unfold wigeonlaw05_WhistleCommands.f
 repeat' first
   | (with_reducible exact ih0 _ _ _)
   | (with_reducible exact ih1 _ _ _ _ _ _)
   | (with_reducible exact ih2 _ _ _ _ _ _)
   | (with_reducible exact whistle_Commands.mono _ _ _)
   | (with_reducible exact whistle_Heard.mono _ _ _)
   | (with_reducible exact whistle_IsPrefix.mono _ _)
   | (with_reducible exact wigeonlaw05_Long.mono _ _)
   | (with_reducible exact wigeonlaw05_known.mono _)
   | (with_reducible exact wigeonref05_Commands.mono _ _ _)
   | (with_reducible exact wigeonref05_SameTexts.mono _ _ _)
   | (with_reducible exact LeO.refl _)
   | (with_reducible exact LeO.none _)
   | (with_reducible refine LeO.ite ?_ ?_)
   | (with_reducible refine LeO.bind ?_ (fun _ => ?_))
   | exact ih0 _ _ _
   | exact ih1 _ _ _ _ _ _
   | exact ih2 _ _ _ _ _ _
   | exact whistle_Commands.mono _ _ _
   | exact whistle_Heard.mono _ _ _
   | exact whistle_IsPrefix.mono _ _
   | exact wigeonlaw05_Long.mono _ _
   | exact wigeonlaw05_known.mono _
   | exact wigeonref05_Commands.mono _ _ _
   | exact wigeonref05_SameTexts.mono _ _ _
   | exact LeO.none _
   | refine LeO.ite ?_ ?_
   | refine LeO.bind ?_ (fun _ => ?_)
set_option maxHeartbeats 8000000 in
set_option maxRecDepth 100000 in
theorem wigeonlaw05_WhistleCommands.calls (k : Nat) (A0 : Option Addr) (c0 : Nat) (l0 : List ByteArray) (a1 : ByteArray) (r : Bool) (w : World) (hr0 : Kd.C Kd.string w A0 l0.length l0) (hc0 : l0.length ≤ c0) (h : wigeonlaw05_WhistleCommands.f k l0 a1 = some r) :
  Calls Try.prog 10 #[.slice A0 l0.length c0, .string a1] w fun e w' => e = .returned (.bool r) ∧ Below w.heap.size w w' := by
 have HR0 := Aside0.mk hr0
 have HC0 := Aside0.mk hc0
 clear hr0 hc0
 have HB := Aside0.mk (Below.refl w.heap.size w)
 have H : ((wigeonlaw05_Long.f k l0).bind fun t513 => (if t513 = true then (wigeonlaw05_WhistleCommands.j0 k l0 a1 true) else (wigeonlaw05_WhistleCommands.j0 k l0 a1 (decide ((a1.size : Int) > 200))))) = some r := h
 clear h
 have HC3 := Aside0.mk H
 clear H
 go_enter Try.func10, Try.ntmps10
 go_upto_region 1 with (fail)
 go_cut [23] (fun v23 wc => ∃ (kq : Nat) (x23_2 : Bool), v23 = .bool x23_2 ∧ Aside0 (wigeonlaw05_WhistleCommands.j0 kq l0 a1 x23_2 = some r) ∧ Aside0 (kq ≤ k) ∧ Aside0 (Below w.heap.size w wc))
 case first =>
  have H := HC3.out
  clear HC3
  replace H := Option.bind_eq_some_iff.mp H
  obtain ⟨t513, A40, H⟩ := H
  replace H : (if t513 = true then (wigeonlaw05_WhistleCommands.j0 k l0 a1 true) else (wigeonlaw05_WhistleCommands.j0 k l0 a1 (decide ((a1.size : Int) > 200)))) = some r := H
  have A4 := Aside0.mk A40
  clear A40
  by_cases c5 : t513 = true
  ·subst c5
   have H1 : (wigeonlaw05_WhistleCommands.j0 k l0 a1 true) = some r := by rw [if_pos rfl] at H; exact H
   clear H
   have H := H1
   clear H1
   have H' := Aside0.mk H
   clear H
   go_wp2_with (first | ((with_reducible refine gate_callee (f := 16) rfl ?_); refine goesL_ (some 18) rfl rfl Try.func16 (by kernel_rfl) rfl #[.slice A0 l0.length c0] rfl (by (try simp only [List.map_toArray, List.map_cons, List.map_nil]); first | done | rfl | (simp only [List.length_drop, List.length_take]; rfl)) ?_; (with_reducible refine (wigeonlaw05_Long.calls k _ _ l0 true _ ?side1 ?side2 A4.out).mono ?_); (case side1 => repeat (first | exact (Kd.C_below HR0.out HB.out) | (with_reducible refine Kd.C_alloc ?_ _) | (with_reducible refine Kd.C_drewN ?_ _) | (with_reducible refine Kd.C_drew ?_))); (case side2 => exact HC0.out); rintro e w' ⟨rfl, ⟨nd, rfl⟩⟩; refine ⟨_, rfl, ?_⟩))
   go_meet
   case rel => exact ⟨_, (true), (by first | rfl | (simp; done) | (simp [*]; done)), H', ⟨by first | omega | exact Nat.le_refl _⟩, ⟨by repeat (first | (with_reducible first | exact HB.out | apply below_alloc | apply pw_below_drewN | apply below_drew1) | exact HB.out)⟩⟩
  ·replace c5 := Bool.eq_false_iff.mpr c5
   subst c5
   have H1 : (wigeonlaw05_WhistleCommands.j0 k l0 a1 (decide ((a1.size : Int) > 200))) = some r := by rw [if_neg (show ¬ (false = true) by decide)] at H; exact H
   clear H
   have H := H1
   clear H1
   have H' := Aside0.mk H
   clear H
   go_wp2_with (first | ((with_reducible refine gate_callee (f := 16) rfl ?_); refine goesL_ (some 18) rfl rfl Try.func16 (by kernel_rfl) rfl #[.slice A0 l0.length c0] rfl (by (try simp only [List.map_toArray, List.map_cons, List.map_nil]); first | done | rfl | (simp only [List.length_drop, List.length_take]; rfl)) ?_; (with_reducible refine (wigeonlaw05_Long.calls k _ _ l0 false _ ?side1 ?side2 A4.out).mono ?_); (case side1 => repeat (first | exact (Kd.C_below HR0.out HB.out) | (with_reducible refine Kd.C_alloc ?_ _) | (with_reducible refine Kd.C_drewN ?_ _) | (with_reducible refine Kd.C_drew ?_))); (case side2 => exact HC0.out); rintro e w' ⟨rfl, ⟨nd, rfl⟩⟩; refine ⟨_, rfl, ?_⟩))
   go_meet
   case rel => exact ⟨_, (decide ((a1.size : Int) > 200)), (by first | rfl | (simp; done) | (simp [*]; done)), H', ⟨by first | omega | exact Nat.le_refl _⟩, ⟨by repeat (first | (with_reducible first | exact HB.out | apply below_alloc | apply pw_below_drewN | apply below_drew1) | exact HB.out)⟩⟩
 case rest =>
  clear HC3
  try clear c1
  try clear p2
  try clear c5
  obtain ⟨kq, x23_2, rfl, HA, HJ2, HB⟩ := hcut
  cases kq with
  | zero => exact absurd HA.out (by simp [wigeonlaw05_WhistleCommands.j0])
  | succ kj2 =>
   have H := HA.out
   clear HA
   simp only [wigeonlaw05_WhistleCommands.j0] at H
   by_cases c6 : x23_2 = true
   ·subst c6
    have H1 : ((wigeonlaw05_known.f kj2).bind fun t514 => (some t514)) = some r := by rw [if_pos rfl] at H; exact H
    clear H
    have H := H1
    clear H1
    replace H := Option.bind_eq_some_iff.mp H
    obtain ⟨t514, A70, H⟩ := H
    replace H : (some t514) = some r := H
    have A7 := Aside0.mk A70
    clear A70
    obtain rfl := Option.some.inj H
    go_wp2_with (first | ((with_reducible refine gate_callee (f := 17) rfl ?_); refine goesL_ (some 24) rfl rfl Try.func17 (by kernel_rfl) rfl #[] rfl (by (try simp only [List.map_toArray, List.map_cons, List.map_nil]); first | done | rfl | (simp only [List.length_drop, List.length_take]; rfl)) ?_; (with_reducible refine (wigeonlaw05_known.calls kj2  t514 _ A7.out).mono ?_); rintro e w8 ⟨rfl, hb⟩; refine ⟨_, rfl, ?_⟩; have n0_ := Aside0.mk (below_step (by repeat (first | (with_reducible first | exact HB.out | apply below_alloc | apply pw_below_drewN | apply below_drew1) | exact HB.out)) hb); clear HB; have HB := n0_; clear n0_; (try clear hb); (try clear hb2); (try clear hk); (try clear hi)))
    go_ret
    exact ⟨by first | rfl | (simp [errW_none, errW_some] <;> rfl) | (simp [*, errW_none, errW_some] <;> rfl), by repeat (first | (with_reducible first | exact HB.out | apply below_alloc | apply pw_below_drewN | apply below_drew1) | exact HB.out)⟩
   ·replace c6 := Bool.eq_false_iff.mpr c6
    subst c6
    have H1 : ((whistle_Commands.f kj2 l0 a1).bind fun bt515 => ((wigeonref05_Commands.f kj2 l0 a1).bind fun bt520 => ((wigeonref05_SameTexts.f kj2 bt515.1 bt520.1).bind fun t525 => (if t525 = true then (if bt515.2.1.toList = bt520.2.1.toList then (wigeonlaw05_WhistleCommands.j1 kj2 l0 a1 bt515.1 bt515.2.1 bt515.2.2 (bt515.2.2 != bt520.2.2)) else (wigeonlaw05_WhistleCommands.j1 kj2 l0 a1 bt515.1 bt515.2.1 bt515.2.2 true)) else (wigeonlaw05_WhistleCommands.j1 kj2 l0 a1 bt515.1 bt515.2.1 bt515.2.2 true))))) = some r := by rw [if_neg (show ¬ (false = true) by decide)] at H; exact H
    clear H
    have H := H1
    clear H1
    replace H := Option.bind_eq_some_iff.mp H
    obtain ⟨⟨t515, t516, t517⟩, A90, H⟩ := H
    replace H : ((wigeonref05_Commands.f kj2 l0 a1).bind fun bt520 => ((wigeonref05_SameTexts.f kj2 t515 bt520.1).bind fun t525 => (if t525 = true then (if t516.toList = bt520.2.1.toList then (wigeonlaw05_WhistleCommands.j1 kj2 l0 a1 t515 t516 t517 (t517 != bt520.2.2)) else (wigeonlaw05_WhistleCommands.j1 kj2 l0 a1 t515 t516 t517 true)) else (wigeonlaw05_WhistleCommands.j1 kj2 l0 a1 t515 t516 t517 true)))) = some r := H
    have A9 := Aside0.mk A90
    clear A90
    replace H := Option.bind_eq_some_iff.mp H
    obtain ⟨⟨t520, t521, t522⟩, A100, H⟩ := H
    replace H : ((wigeonref05_SameTexts.f kj2 t515 t520).bind fun t525 => (if t525 = true then (if t516.toList = t521.toList then (wigeonlaw05_WhistleCommands.j1 kj2 l0 a1 t515 t516 t517 (t517 != t522)) else (wigeonlaw05_WhistleCommands.j1 kj2 l0 a1 t515 t516 t517 true)) else (wigeonlaw05_WhistleCommands.j1 kj2 l0 a1 t515 t516 t517 true))) = some r := H
    have A10 := Aside0.mk A100
    clear A100
    have HC11 := Aside0.mk H
    clear H
    go_upto_region 5 with (first | ((with_reducible refine gate_callee (f := 41) rfl ?_); refine goesL_ (some 28) rfl rfl Try.func41 (by kernel_rfl) rfl #[.slice A0 l0.length c0, .string a1] rfl (by (try simp only [List.map_toArray, List.map_cons, List.map_nil]); first | done | rfl | (simp only [List.length_drop, List.length_take]; rfl)) ?_; (with_reducible refine (whistle_Commands.calls kj2 _ _ l0 a1 t515 t516 t517 _ ?side1 ?side2 A9.out).mono ?_); (case side1 => repeat (first | exact (Kd.C_below HR0.out HB.out) | (with_reducible refine Kd.C_alloc ?_ _) | (with_reducible refine Kd.C_drewN ?_ _) | (with_reducible refine Kd.C_drew ?_))); (case side2 => exact HC0.out); rintro e w12 ⟨v518, rfl, ho0, hb⟩; refine ⟨_, rfl, ?_⟩; have n0_ := Aside0.mk (Kd.R_lower ho0 (below_size (by repeat (first | (with_reducible first | exact HB.out | apply below_alloc | apply pw_below_drewN | apply below_drew1) | exact HB.out)))); have n1_ := Aside0.mk (below_step (by repeat (first | (with_reducible first | exact HB.out | apply below_alloc | apply pw_below_drewN | apply below_drew1) | exact HB.out)) hb); clear HB; have HO519 := n0_; have HB := n1_; clear n0_ n1_; (try clear hb); (try clear hb2); (try clear hk); (try clear hi); (try clear ho0)) | ((with_reducible refine gate_callee (f := 42) rfl ?_); refine goesL_ (some 35) rfl rfl Try.func42 (by kernel_rfl) rfl #[.slice A0 l0.length c0, .string a1] rfl (by (try simp only [List.map_toArray, List.map_cons, List.map_nil]); first | done | rfl | (simp only [List.length_drop, List.length_take]; rfl)) ?_; (with_reducible refine (wigeonref05_Commands.calls kj2 _ _ l0 a1 t520 t521 t522 _ ?side1 ?side2 A10.out).mono ?_); (case side1 => repeat (first | exact (Kd.C_below HR0.out HB.out) | (with_reducible refine Kd.C_alloc ?_ _) | (with_reducible refine Kd.C_drewN ?_ _) | (with_reducible refine Kd.C_drew ?_))); (case side2 => exact HC0.out); rintro e w13 ⟨v523, rfl, ho0, hb⟩; refine ⟨_, rfl, ?_⟩; have n0_ := Aside0.mk (Kd.R_elder' (by (with_reducible repeat (first | apply Kd.R_alloc | apply Kd.R_drewN | apply Kd.R_drew)); exact HO519.out) (Kd.R_base ho0) hb); have n1_ := Aside0.mk (Kd.R_lower (Kd.R_new' ho0 (Kd.R_lt (by (with_reducible repeat (first | apply Kd.R_alloc | apply Kd.R_drewN | apply Kd.R_drew)); exact HO519.out))) (below_size (by repeat (first | (with_reducible first | exact HB.out | apply below_alloc | apply pw_below_drewN | apply below_drew1) | exact HB.out)))); have n2_ := Aside0.mk (below_step (by repeat (first | (with_reducible first | exact HB.out | apply below_alloc | apply pw_below_drewN | apply below_drew1) | exact HB.out)) hb); clear HO519; clear HB; have HO519 := n0_; have HO524 := n1_; have HB := n2_; clear n0_ n1_ n2_; (try clear hb); (try clear hb2); (try clear hk); (try clear hi); (try clear ho0)))
    (try simp only [Act.put, List.setIfInBounds_toArray, List.set_cons_zero, List.set_cons_succ])
    go_cut [52] (fun v52 wc => ∃ (kq : Nat) (x52_10 : Bool), v52 = .bool x52_10 ∧ Aside0 (wigeonlaw05_WhistleCommands.j1 kq l0 a1 t515 t516 t517 x52_10 = some r) ∧ Aside0 (kq ≤ kj2) ∧ Aside0 (Kd.R Kd.string 9 wc w.heap.size (fun _ => True) v518 t515) ∧ Aside0 (Below w.heap.size w wc))
    case first =>
     have H := HC11.out
     clear HC11
     replace H := Option.bind_eq_some_iff.mp H
     obtain ⟨t525, A140, H⟩ := H
     replace H : (if t525 = true then (if t516.toList = t521.toList then (wigeonlaw05_WhistleCommands.j1 kj2 l0 a1 t515 t516 t517 (t517 != t522)) else (wigeonlaw05_WhistleCommands.j1 kj2 l0 a1 t515 t516 t517 true)) else (wigeonlaw05_WhistleCommands.j1 kj2 l0 a1 t515 t516 t517 true)) = some r := H
     have A14 := Aside0.mk A140
     clear A140
     by_cases c15 : t525 = true
     ·subst c15
      have H1 : (if t516.toList = t521.toList then (wigeonlaw05_WhistleCommands.j1 kj2 l0 a1 t515 t516 t517 (t517 != t522)) else (wigeonlaw05_WhistleCommands.j1 kj2 l0 a1 t515 t516 t517 true)) = some r := by rw [if_pos rfl] at H; exact H
      clear H
      have H := H1
      clear H1
      by_cases c16 : t516.toList = t521.toList
      ·rw [if_pos c16] at H
       have c16b0 : (t516.toList == t521.toList) = true := beq_iff_eq.mpr c16
       have c16b1 : (t516.toList != t521.toList) = false := bne_eq_false_iff_eq.mpr c16
       clear c16
       (first | rw [c16b0] | (simp only [i64_w, i32_w]; rw [c16b0]) | skip)
       have H' := Aside0.mk H
       clear H
       obtain ⟨Ao17, co17, eo17⟩ := Kd.R_slice HO519.out
       subst eo17
       obtain ⟨Ao18, co18, eo18⟩ := Kd.R_slice HO524.out
       subst eo18
       go_wp2_with (first | ((with_reducible refine gate_callee (f := 20) rfl ?_); refine goesL_ (some 41) rfl rfl Try.func20 (by kernel_rfl) rfl #[.slice Ao17 t515.length co17, .slice Ao18 t520.length co18] rfl (by (try simp only [List.map_toArray, List.map_cons, List.map_nil]); first | done | rfl | (simp only [List.length_drop, List.length_take]; rfl)) ?_; (with_reducible refine (wigeonref05_SameTexts.calls kj2 _ _ t515 _ _ t520 true _ ?side1 ?side2 ?side3 ?side4 A14.out).mono ?_); (case side1 => repeat (first | exact (Kd.R_reads' HO519.out).2.2 | (with_reducible refine Kd.C_alloc ?_ _) | (with_reducible refine Kd.C_drewN ?_ _) | (with_reducible refine Kd.C_drew ?_))); (case side2 => exact (Kd.R_reads' HO519.out).2.1); (case side3 => repeat (first | exact (Kd.R_reads' HO524.out).2.2 | (with_reducible refine Kd.C_alloc ?_ _) | (with_reducible refine Kd.C_drewN ?_ _) | (with_reducible refine Kd.C_drew ?_))); (case side4 => exact (Kd.R_reads' HO524.out).2.1); rintro e w' ⟨rfl, ⟨nd, rfl⟩⟩; refine ⟨_, rfl, ?_⟩))
       go_meet
       case rel => exact ⟨_, ((t517 != t522)), (by first | rfl | (simp; done) | (simp [*]; done)), H', ⟨by have := HJ2.out; first | omega | exact Nat.le_refl _⟩, ⟨by (with_reducible repeat (first | apply Kd.R_alloc | apply Kd.R_drewN | apply Kd.R_drew)); exact Kd.R_mono HO519.out (fun _ hk => trivial)⟩, ⟨by repeat (first | (with_reducible first | exact HB.out | apply below_alloc | apply pw_below_drewN | apply below_drew1) | exact HB.out)⟩⟩
      ·rw [if_neg c16] at H
       exact absurd H (by rw [wigeonlaw05_WhistleCommands.j1.dead]; simp)
     ·replace c15 := Bool.eq_false_iff.mpr c15
      subst c15
      have H1 : (wigeonlaw05_WhistleCommands.j1 kj2 l0 a1 t515 t516 t517 true) = some r := by rw [if_neg (show ¬ (false = true) by decide)] at H; exact H
      exact absurd H1 (by rw [wigeonlaw05_WhistleCommands.j1.dead]; simp)
    case rest =>
     clear HC11
     try clear c1
     try clear c2
     try clear p2
     try clear c4
     try clear c5
     try clear c6
     try clear c10
     try clear c15
     try clear c16
     try clear c16b0
     try clear c16b1
     try clear c17
     try clear c20
     try clear p2
     obtain ⟨kq, x52_10, rfl, HA, HJ10, HO_5, HB⟩ := hcut
     cases kq with
     | zero => exact absurd HA.out (by simp [wigeonlaw05_WhistleCommands.j1])
     | succ kj10 =>
      have H := HA.out
      clear HA
      simp only [wigeonlaw05_WhistleCommands.j1] at H
      by_cases c23 : x52_10 = true
      ·subst c23
       have H1 : (none) = some r := by rw [if_pos rfl] at H; exact H
       exact absurd H1 (by simp)
      ·replace c23 := Bool.eq_false_iff.mpr c23
       subst c23
       have H1 : (if t517 = 0 then (wigeonlaw05_WhistleCommands.l0 kj10 l0 a1 t515 t516 (⟨#[]⟩ : ByteArray) 0) else ((wigeonlaw05_known.f kj10).bind fun t526 => (some t526))) = some r := by rw [if_neg (show ¬ (false = true) by decide)] at H; exact H
       clear H
       have H := H1
       clear H1
       by_cases c24 : t517 = 0
       ·rw [if_pos c24] at H
        have c24b0 : (t517 == 0) = true := beq_iff_eq.mpr c24
        have c24b1 : (t517 != 0) = false := bne_eq_false_iff_eq.mpr c24
        clear c24
        have H' := Aside0.mk H
        clear H
        go_wp2
        go_loopg [11, 12] kj10 (fun kq v11 v12 w' => ∃ (x11_3 : ByteArray) (x12_3 : Int), v11 = .string x11_3 ∧ v12 = .int .i64 x12_3 ∧ Aside0 (wigeonlaw05_WhistleCommands.l0 kq l0 a1 t515 t516 x11_3 x12_3 = some r) ∧ Aside0 (kq ≤ kj10) ∧ Aside0 (Kd.R Kd.string 9 w' w.heap.size (fun _ => True) v518 t515) ∧ Aside0 (Below w.heap.size w w'))
        case atStart => exact ⟨((⟨#[]⟩ : ByteArray)), (0), (by first | rfl | (simp; done) | (simp [*]; done)), (by first | rfl | (simp; done) | (simp [*]; done)), H', ⟨Nat.le_refl _⟩, ⟨by (with_reducible repeat (first | apply Kd.R_alloc | apply Kd.R_drewN | apply Kd.R_drew)); exact HO_5.out⟩, ⟨by repeat (first | (with_reducible first | exact HB.out | apply below_alloc | apply pw_below_drewN | apply below_drew1) | exact HB.out)⟩⟩
        case round =>
         clear H'
         try clear c1
         try clear c2
         try clear p2
         try clear c4
         try clear c5
         try clear c6
         try clear c10
         try clear c15
         try clear c16
         try clear c16b0
         try clear c16b1
         try clear c17
         try clear c20
         try clear c23
         try clear c24
         try clear c24b0
         try clear c24b1
         try clear p2
         obtain ⟨x11_3, x12_3, rfl, rfl, HA, HK3, HO_5, HB⟩ := hrel
         cases gk with
         | zero => exact absurd HA.out (by simp [wigeonlaw05_WhistleCommands.l0])
         | succ k3 =>
          have H := HA.out
          clear HA
          simp only [wigeonlaw05_WhistleCommands.l0] at H
          by_cases c25 : x12_3 < (t515.length : Int)
          ·rw [if_pos c25] at H
           have c25b0 : decide (x12_3 < (t515.length : Int)) = true := decide_eq_true c25
           clear c25
           by_cases c26 : 0 ≤ x12_3
           ·rw [if_pos c26] at H
            have c26b0 : decide (0 ≤ x12_3) = true := decide_eq_true c26
            clear c26
            by_cases c27 : x11_3.size + (rdOf ByteArray.empty t515 x12_3).size ≤ 9223372036854775807
            ·rw [if_pos c27] at H
             have c27b0 := eq_true c27
             have c27b1 : decide (x11_3.size + (rdOf ByteArray.empty t515 x12_3).size ≤ 9223372036854775807) = true := decide_eq_true c27
             try have c27b2 : (9223372036854775807 < x11_3.size + (rdOf ByteArray.empty t515 x12_3).size) = False := eq_false (Nat.not_lt.2 c27)
             have H' := Aside0.mk H
             clear H
             obtain ⟨Ao28, co28, eo28⟩ := Kd.R_slice HO_5.out
             subst eo28
             have p527 : 0 ≤ (x12_3 : Int) := of_decide_eq_true (by first | (with_reducible assumption) | assumption)
             have q527 : x12_3 < (t515.length : Int) := of_decide_eq_true (by first | (with_reducible assumption) | assumption)
             obtain ⟨ad527, e527, hx527_0⟩ := Kd.at_string (Kd.R_reads' HO_5.out).2.2 x12_3 p527 q527
             cases e527
             replace p527 := eq_true p527
             replace q527 := eq_true q527
             go_wp2
             go_roundg k3
             case measure => have := HJ2.out; have := HJ10.out; have := HK3.out; omega
             case rel => exact ⟨(x11_3 ++ (rdOf ByteArray.empty t515 x12_3)), (wrap64 (x12_3 + 1)), (by first | rfl | (simp; done) | (simp [*]; done)), (by first | rfl | (simp; done) | (simp [*]; done)), H', ⟨by have := HJ2.out; have := HJ10.out; have := HK3.out; omega⟩, ⟨by (with_reducible repeat (first | apply Kd.R_alloc | apply Kd.R_drewN | apply Kd.R_drew)); exact HO_5.out⟩, ⟨by repeat (first | (with_reducible first | exact HB.out | apply below_alloc | apply pw_below_drewN | apply below_drew1) | exact HB.out)⟩⟩
            ·rw [if_neg c27] at H
             exact absurd H (by simp)
           ·rw [if_neg c26] at H
            exact absurd H (by simp)
          ·rw [if_neg c25] at H
           have c25b0 : decide (x12_3 < (t515.length : Int)) = false := decide_eq_false c25
           clear c25
           replace H := Option.bind_eq_some_iff.mp H
           obtain ⟨⟨t528, t529⟩, A290, H⟩ := H
           replace H : ((whistle_Heard.f k3 l0 a1).bind fun bt530 => (if x11_3.size + t516.size ≤ 9223372036854775807 then (if (x11_3 ++ t516).toList = a1.toList then (if t529 = 0 then (if bt530.2 = 0 then (if t528 = true then (if bt530.1 ≤ 1 then (if ((bt530.1 == 1) == (t516.toList == ([] : List UInt8))) = true then ((wigeonlaw05_known.f k3).bind fun t532 => (some t532)) else (none)) else (none)) else ((wigeonlaw05_known.f k3).bind fun t533 => (some t533))) else (none)) else (none)) else (none)) else (none))) = some r := H
           have A29 := Aside0.mk A290
           clear A290
           replace H := Option.bind_eq_some_iff.mp H
           obtain ⟨⟨t530, t531⟩, A300, H⟩ := H
           replace H : (if x11_3.size + t516.size ≤ 9223372036854775807 then (if (x11_3 ++ t516).toList = a1.toList then (if t529 = 0 then (if t531 = 0 then (if t528 = true then (if t530 ≤ 1 then (if ((t530 == 1) == (t516.toList == ([] : List UInt8))) = true then ((wigeonlaw05_known.f k3).bind fun t532 => (some t532)) else (none)) else (none)) else ((wigeonlaw05_known.f k3).bind fun t533 => (some t533))) else (none)) else (none)) else (none)) else (none)) = some r := H
           have A30 := Aside0.mk A300
           clear A300
           by_cases c31 : x11_3.size + t516.size ≤ 9223372036854775807
           ·rw [if_pos c31] at H
            have c31b0 := eq_true c31
            have c31b1 : decide (x11_3.size + t516.size ≤ 9223372036854775807) = true := decide_eq_true c31
            try have c31b2 : (9223372036854775807 < x11_3.size + t516.size) = False := eq_false (Nat.not_lt.2 c31)
            by_cases c32 : (x11_3 ++ t516).toList = a1.toList
            ·rw [if_pos c32] at H
             have c32b0 : ((x11_3 ++ t516).toList == a1.toList) = true := beq_iff_eq.mpr c32
             have c32b1 : ((x11_3 ++ t516).toList != a1.toList) = false := bne_eq_false_iff_eq.mpr c32
             clear c32
             by_cases c33 : t529 = 0
             ·rw [if_pos c33] at H
              have c33b0 : (t529 == 0) = true := beq_iff_eq.mpr c33
              have c33b1 : (t529 != 0) = false := bne_eq_false_iff_eq.mpr c33
              clear c33
              by_cases c34 : t531 = 0
              ·rw [if_pos c34] at H
               have c34b0 : (t531 == 0) = true := beq_iff_eq.mpr c34
               have c34b1 : (t531 != 0) = false := bne_eq_false_iff_eq.mpr c34
               clear c34
               by_cases c35 : t528 = true
               ·subst c35
                have H1 : (if t530 ≤ 1 then (if ((t530 == 1) == (t516.toList == ([] : List UInt8))) = true then ((wigeonlaw05_known.f k3).bind fun t532 => (some t532)) else (none)) else (none)) = some r := by rw [if_pos rfl] at H; exact H
                clear H
                have H := H1
                clear H1
                by_cases c36 : t530 ≤ 1
                ·rw [if_pos c36] at H
                 have c36b0 : decide (t530 ≤ 1) = true := decide_eq_true c36
                 clear c36
                 by_cases c37 : ((t530 == 1) == (t516.toList == ([] : List UInt8))) = true
                 ·rw [if_pos c37] at H
                  have c37b0 : ((t530 == 1) == (t516.toList == ([] : List UInt8))) = true := c37
                  (try (have c37b1 : decide ((t530 == 1) = (t516.toList == ([] : List UInt8))) = true := by simpa using c37))
                  (try (have c37b2 : ((t530 == 1) == (t516.toList == ([] : List UInt8))) = true := by simpa using c37)); (try (have c37b3 : (t530 == 1) = t516.toList.isEmpty := by simpa using c37))
                  clear c37
                  replace H := Option.bind_eq_some_iff.mp H
                  obtain ⟨t532, A380, H⟩ := H
                  replace H : (some t532) = some r := H
                  have A38 := Aside0.mk A380
                  clear A380
                  obtain rfl := Option.some.inj H
                  obtain ⟨Ao39, co39, eo39⟩ := Kd.R_slice HO_5.out
                  subst eo39
                  go_wp2_with (first | ((with_reducible refine gate_callee (f := 24) rfl ?_); refine goesL_ (some 70) rfl rfl Try.func24 (by kernel_rfl) rfl #[.slice A0 l0.length c0] rfl (by (try simp only [List.map_toArray, List.map_cons, List.map_nil]); first | done | rfl | (simp only [List.length_drop, List.length_take]; rfl)) ?_; (with_reducible refine (whistle_IsPrefix.calls k3 _ _ l0 true t529 _ ?side1 ?side2 A29.out).mono ?_); (case side1 => repeat (first | exact (Kd.C_below HR0.out HB.out) | (with_reducible refine Kd.C_alloc ?_ _) | (with_reducible refine Kd.C_drewN ?_ _) | (with_reducible refine Kd.C_drew ?_))); (case side2 => exact HC0.out); rintro e w40 ⟨rfl, hb⟩; refine ⟨_, rfl, ?_⟩; have n0_ := Aside0.mk (Kd.R_below (by (with_reducible repeat (first | apply Kd.R_alloc | apply Kd.R_drewN | apply Kd.R_drew)); exact HO_5.out) hb); have n1_ := Aside0.mk (below_step (by repeat (first | (with_reducible first | exact HB.out | apply below_alloc | apply pw_below_drewN | apply below_drew1) | exact HB.out)) hb); clear HO_5; clear HB; have HO_5 := n0_; have HB := n1_; clear n0_ n1_; (try clear hb); (try clear hb2); (try clear hk); (try clear hi)) | ((with_reducible refine gate_callee (f := 43) rfl ?_); refine goesL_ (some 76) rfl rfl Try.func43 (by kernel_rfl) rfl #[.slice A0 l0.length c0, .string a1] rfl (by (try simp only [List.map_toArray, List.map_cons, List.map_nil]); first | done | rfl | (simp only [List.length_drop, List.length_take]; rfl)) ?_; (with_reducible refine (whistle_Heard.calls k3 _ _ l0 a1 t530 t531 _ ?side1 ?side2 A30.out).mono ?_); (case side1 => repeat (first | exact (Kd.C_below HR0.out HB.out) | (with_reducible refine Kd.C_alloc ?_ _) | (with_reducible refine Kd.C_drewN ?_ _) | (with_reducible refine Kd.C_drew ?_))); (case side2 => exact HC0.out); rintro e w41 ⟨rfl, hb⟩; refine ⟨_, rfl, ?_⟩; have n0_ := Aside0.mk (Kd.R_below (by (with_reducible repeat (first | apply Kd.R_alloc | apply Kd.R_drewN | apply Kd.R_drew)); exact HO_5.out) hb); have n1_ := Aside0.mk (below_step (by repeat (first | (with_reducible first | exact HB.out | apply below_alloc | apply pw_below_drewN | apply below_drew1) | exact HB.out)) hb); clear HO_5; clear HB; have HO_5 := n0_; have HB := n1_; clear n0_ n1_; (try clear hb); (try clear hb2); (try clear hk); (try clear hi)) | (go_at_call 17; (with_reducible refine (wigeonlaw05_known.calls k3  t532 _ A38.out).mono ?_); rintro e w42 ⟨rfl, hb⟩; have n0_ := Aside0.mk (Kd.R_below (by (with_reducible repeat (first | apply Kd.R_alloc | apply Kd.R_drewN | apply Kd.R_drew)); exact HO_5.out) hb); have n1_ := Aside0.mk (below_step (by repeat (first | (with_reducible first | exact HB.out | apply below_alloc | apply pw_below_drewN | apply below_drew1) | exact HB.out)) hb); clear HO_5; clear HB; have HO_5 := n0_; have HB := n1_; clear n0_ n1_; (try clear hb); (try clear hb2); (try clear hk); (try clear hi)))
                  go_ret
                  exact ⟨by first | rfl | (simp [errW_none, errW_some] <;> rfl) | (simp [*, errW_none, errW_some] <;> rfl), by repeat (first | (with_reducible first | exact HB.out | apply below_alloc | apply pw_below_drewN | apply below_drew1) | exact HB.out)⟩
                 ·rw [if_neg c37] at H
                  exact absurd H (by simp)
                ·rw [if_neg c36] at H
                 exact absurd H (by simp)
               ·replace c35 := Bool.eq_false_iff.mpr c35
                subst c35
                have H1 : ((wigeonlaw05_known.f k3).bind fun t533 => (some t533)) = some r := by rw [if_neg (show ¬ (false = true) by decide)] at H; exact H
                clear H
                have H := H1
                clear H1
                replace H := Option.bind_eq_some_iff.mp H
                obtain ⟨t533, A490, H⟩ := H
                replace H : (some t533) = some r := H
                have A49 := Aside0.mk A490
                clear A490
                obtain rfl := Option.some.inj H
                obtain ⟨Ao50, co50, eo50⟩ := Kd.R_slice HO_5.out
                subst eo50
                go_wp2_with (first | ((with_reducible refine gate_callee (f := 24) rfl ?_); refine goesL_ (some 70) rfl rfl Try.func24 (by kernel_rfl) rfl #[.slice A0 l0.length c0] rfl (by (try simp only [List.map_toArray, List.map_cons, List.map_nil]); first | done | rfl | (simp only [List.length_drop, List.length_take]; rfl)) ?_; (with_reducible refine (whistle_IsPrefix.calls k3 _ _ l0 false t529 _ ?side1 ?side2 A29.out).mono ?_); (case side1 => repeat (first | exact (Kd.C_below HR0.out HB.out) | (with_reducible refine Kd.C_alloc ?_ _) | (with_reducible refine Kd.C_drewN ?_ _) | (with_reducible refine Kd.C_drew ?_))); (case side2 => exact HC0.out); rintro e w51 ⟨rfl, hb⟩; refine ⟨_, rfl, ?_⟩; have n0_ := Aside0.mk (Kd.R_below (by (with_reducible repeat (first | apply Kd.R_alloc | apply Kd.R_drewN | apply Kd.R_drew)); exact HO_5.out) hb); have n1_ := Aside0.mk (below_step (by repeat (first | (with_reducible first | exact HB.out | apply below_alloc | apply pw_below_drewN | apply below_drew1) | exact HB.out)) hb); clear HO_5; clear HB; have HO_5 := n0_; have HB := n1_; clear n0_ n1_; (try clear hb); (try clear hb2); (try clear hk); (try clear hi)) | ((with_reducible refine gate_callee (f := 43) rfl ?_); refine goesL_ (some 76) rfl rfl Try.func43 (by kernel_rfl) rfl #[.slice A0 l0.length c0, .string a1] rfl (by (try simp only [List.map_toArray, List.map_cons, List.map_nil]); first | done | rfl | (simp only [List.length_drop, List.length_take]; rfl)) ?_; (with_reducible refine (whistle_Heard.calls k3 _ _ l0 a1 t530 t531 _ ?side1 ?side2 A30.out).mono ?_); (case side1 => repeat (first | exact (Kd.C_below HR0.out HB.out) | (with_reducible refine Kd.C_alloc ?_ _) | (with_reducible refine Kd.C_drewN ?_ _) | (with_reducible refine Kd.C_drew ?_))); (case side2 => exact HC0.out); rintro e w52 ⟨rfl, hb⟩; refine ⟨_, rfl, ?_⟩; have n0_ := Aside0.mk (Kd.R_below (by (with_reducible repeat (first | apply Kd.R_alloc | apply Kd.R_drewN | apply Kd.R_drew)); exact HO_5.out) hb); have n1_ := Aside0.mk (below_step (by repeat (first | (with_reducible first | exact HB.out | apply below_alloc | apply pw_below_drewN | apply below_drew1) | exact HB.out)) hb); clear HO_5; clear HB; have HO_5 := n0_; have HB := n1_; clear n0_ n1_; (try clear hb); (try clear hb2); (try clear hk); (try clear hi)) | (go_at_call 17; (with_reducible refine (wigeonlaw05_known.calls k3  t533 _ A49.out).mono ?_); rintro e w53 ⟨rfl, hb⟩; have n0_ := Aside0.mk (Kd.R_below (by (with_reducible repeat (first | apply Kd.R_alloc | apply Kd.R_drewN | apply Kd.R_drew)); exact HO_5.out) hb); have n1_ := Aside0.mk (below_step (by repeat (first | (with_reducible first | exact HB.out | apply below_alloc | apply pw_below_drewN | apply below_drew1) | exact HB.out)) hb); clear HO_5; clear HB; have HO_5 := n0_; have HB := n1_; clear n0_ n1_; (try clear hb); (try clear hb2); (try clear hk); (try clear hi)))
                go_ret
                exact ⟨by first | rfl | (simp [errW_none, errW_some] <;> rfl) | (simp [*, errW_none, errW_some] <;> rfl), by repeat (first | (with_reducible first | exact HB.out | apply below_alloc | apply pw_below_drewN | apply below_drew1) | exact HB.out)⟩
              ·rw [if_neg c34] at H
               exact absurd H (by simp)
             ·rw [if_neg c33] at H
              exact absurd H (by simp)
            ·rw [if_neg c32] at H
             exact absurd H (by simp)
           ·rw [if_neg c31] at H
            exact absurd H (by simp)
       ·rw [if_neg c24] at H
        have c24b0 : (t517 == 0) = false := beq_eq_false_iff_ne.mpr c24
        have c24b1 : (t517 != 0) = true := bne_iff_ne.mpr c24
        replace H := Option.bind_eq_some_iff.mp H
        obtain ⟨t526, A630, H⟩ := H
        replace H : (some t526) = some r := H
        have A63 := Aside0.mk A630
        clear A630
        obtain rfl := Option.some.inj H
        go_wp2_with (first | ((with_reducible refine gate_callee (f := 17) rfl ?_); refine goesL_ (some 55) rfl rfl Try.func17 (by kernel_rfl) rfl #[] rfl (by (try simp only [List.map_toArray, List.map_cons, List.map_nil]); first | done | rfl | (simp only [List.length_drop, List.length_take]; rfl)) ?_; (with_reducible refine (wigeonlaw05_known.calls kj10  t526 _ A63.out).mono ?_); rintro e w64 ⟨rfl, hb⟩; refine ⟨_, rfl, ?_⟩; have n0_ := Aside0.mk (Kd.R_below (by (with_reducible repeat (first | apply Kd.R_alloc | apply Kd.R_drewN | apply Kd.R_drew)); exact HO_5.out) hb); have n1_ := Aside0.mk (below_step (by repeat (first | (with_reducible first | exact HB.out | apply below_alloc | apply pw_below_drewN | apply below_drew1) | exact HB.out)) hb); clear HO_5; clear HB; have HO_5 := n0_; have HB := n1_; clear n0_ n1_; (try clear hb); (try clear hb2); (try clear hk); (try clear hi)))
        go_ret
        exact ⟨by first | rfl | (simp [errW_none, errW_some] <;> rfl) | (simp [*, errW_none, errW_some] <;> rfl), by repeat (first | (with_reducible first | exact HB.out | apply below_alloc | apply pw_below_drewN | apply below_drew1) | exact HB.out)⟩

end Go.Proofs.Ytpkafcoflgbnaaa.Q
