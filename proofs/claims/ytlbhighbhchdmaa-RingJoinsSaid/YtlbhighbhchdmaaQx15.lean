-- Written by a program of this session (wip/tools/gprint.py, over the kit's print); Lean checks it.
import Derived.Test.YtlbhighbhchdmaaQx0
import Derived.Test.YtlbhighbhchdmaaQx9
import Derived.Test.YtlbhighbhchdmaaQx10
namespace Go.Proofs.Ytlbhighbhchdmaa.Q
open Go.RowKit Go.Proofs.YtlbhighbhchdmaaW.PrintWords Go.Proofs.YtlbhighbhchdmaaW.PrintLast Go.Proofs.YtlbhighbhchdmaaW.PrintMore
attribute [local go_sem] max2_int min2_int max_two min_two max_three min_three max_four min_four   -- for this text's walks alone
set_option linter.unusedVariables false
set_option linter.unusedSimpArgs false

/-! ### ring_series: function 78 -/
def ring_series.f (a0 : ByteArray) : Option (Bool) := if a0.size + 6 ≤ 9223372036854775807 then ((ring_form.f (a0 ++ (⟨#[48, 48, 48, 48, 48, 48]⟩ : ByteArray)) (⟨#[]⟩ : ByteArray)).bind fun bt325 => (if bt325.2 = true then (some (bt325.1 == (a0.size : Int))) else (some false))) else (none)
set_option maxHeartbeats 8000000 in
set_option maxRecDepth 100000 in
theorem ring_series.calls (a0 : ByteArray) (r : Bool) (w : World) (h : ring_series.f a0 = some r) :
    Calls Try.prog 78 #[.string a0] w fun e w' => e = .returned (.bool r) ∧ Below w.heap.size w w' := by
  have HB := Aside0.mk (Below.refl w.heap.size w)
  have H : (if a0.size + 6 ≤ 9223372036854775807 then ((ring_form.f (a0 ++ (⟨#[48, 48, 48, 48, 48, 48]⟩ : ByteArray)) (⟨#[]⟩ : ByteArray)).bind fun bt325 => (if bt325.2 = true then (some (bt325.1 == (a0.size : Int))) else (some false))) else (none)) = some r := h
  clear h
  by_cases c2 : a0.size + 6 ≤ 9223372036854775807
  · rw [if_pos c2] at H
    have c2b0 := eq_true c2
    have c2b1 : decide (a0.size + 6 ≤ 9223372036854775807) = true := decide_eq_true c2
    try have c2b2 : (9223372036854775807 < a0.size + 6) = False := eq_false (Nat.not_lt.2 c2)
    replace H := Option.bind_eq_some_iff.mp H
    obtain ⟨⟨t325, t326⟩, A30, H⟩ := H
    replace H : (if t326 = true then (some (t325 == (a0.size : Int))) else (some false)) = some r := H
    have A3 := Aside0.mk A30
    clear A30
    by_cases c4 : t326 = true
    · subst c4
      have H1 : (some (t325 == (a0.size : Int))) = some r := by rw [if_pos rfl] at H; exact H
      clear H
      have H := H1
      clear H1
      obtain rfl := Option.some.inj H
      go_enter Try.func78, Try.ntmps78
      go_wp2_with (first | ((with_reducible refine gate_callee (f := 71) rfl ?_); refine goesL_ (some 8) rfl rfl Try.func71 (by kernel_rfl) rfl #[.string (a0 ++ (⟨#[48, 48, 48, 48, 48, 48]⟩ : ByteArray)), .string (⟨#[]⟩ : ByteArray)] rfl (by (try simp only [List.map_toArray, List.map_cons, List.map_nil]); first | done | rfl | (simp only [List.length_drop, List.length_take]; rfl)) ?_; (with_reducible refine (ring_form.calls (a0 ++ (⟨#[48, 48, 48, 48, 48, 48]⟩ : ByteArray)) (⟨#[]⟩ : ByteArray) t325 true _ A3.out).mono ?_); rintro e w5 ⟨rfl, hb⟩; refine ⟨_, rfl, ?_⟩; have n0_ := Aside0.mk (below_step (by repeat (first | (with_reducible first | exact HB.out | apply below_alloc | apply pw_below_drewN | apply below_drew1) | exact HB.out)) hb); clear HB; have HB := n0_; clear n0_; (try clear hb); (try clear hb2); (try clear hk); (try clear hi)))
      go_ret
      exact ⟨by first | rfl | (simp [errW_none, errW_some] <;> rfl) | (simp [*, errW_none, errW_some] <;> rfl), by repeat (first | (with_reducible first | exact HB.out | apply below_alloc | apply pw_below_drewN | apply below_drew1) | exact HB.out)⟩
    · replace c4 := Bool.eq_false_iff.mpr c4
      subst c4
      have H1 : (some false) = some r := by rw [if_neg (show ¬ (false = true) by decide)] at H; exact H
      clear H
      have H := H1
      clear H1
      obtain rfl := Option.some.inj H
      go_enter Try.func78, Try.ntmps78
      go_wp2_with (first | ((with_reducible refine gate_callee (f := 71) rfl ?_); refine goesL_ (some 8) rfl rfl Try.func71 (by kernel_rfl) rfl #[.string (a0 ++ (⟨#[48, 48, 48, 48, 48, 48]⟩ : ByteArray)), .string (⟨#[]⟩ : ByteArray)] rfl (by (try simp only [List.map_toArray, List.map_cons, List.map_nil]); first | done | rfl | (simp only [List.length_drop, List.length_take]; rfl)) ?_; (with_reducible refine (ring_form.calls (a0 ++ (⟨#[48, 48, 48, 48, 48, 48]⟩ : ByteArray)) (⟨#[]⟩ : ByteArray) t325 false _ A3.out).mono ?_); rintro e w6 ⟨rfl, hb⟩; refine ⟨_, rfl, ?_⟩; have n0_ := Aside0.mk (below_step (by repeat (first | (with_reducible first | exact HB.out | apply below_alloc | apply pw_below_drewN | apply below_drew1) | exact HB.out)) hb); clear HB; have HB := n0_; clear n0_; (try clear hb); (try clear hb2); (try clear hk); (try clear hi)))
      go_ret
      exact ⟨by first | rfl | (simp [errW_none, errW_some] <;> rfl) | (simp [*, errW_none, errW_some] <;> rfl), by repeat (first | (with_reducible first | exact HB.out | apply below_alloc | apply pw_below_drewN | apply below_drew1) | exact HB.out)⟩
  · rw [if_neg c2] at H
    exact absurd H (by simp)

/-! ### wigeonref01_isSeries: function 79 -/
def wigeonref01_isSeries.f (k : Nat) (a0 : ByteArray) : Option (Bool) := if (a0.size : Int) = 1 then (if a0.size + 6 ≤ 9223372036854775807 then ((wigeonref01_formed.f k (a0 ++ (⟨#[48, 48, 48, 48, 48, 48]⟩ : ByteArray)) false).bind fun t329 => (some t329)) else (none)) else (if (a0.size : Int) = 2 then (if a0.size + 6 ≤ 9223372036854775807 then ((wigeonref01_formed.f k (a0 ++ (⟨#[48, 48, 48, 48, 48, 48]⟩ : ByteArray)) false).bind fun t330 => (some t330)) else (none)) else (some false))
theorem wigeonref01_isSeries.mono : ∀ a0 k, LeO (wigeonref01_isSeries.f k a0) (wigeonref01_isSeries.f (k + 1) a0) := by
  intro a0 k
  unfold wigeonref01_isSeries.f
  repeat' first
      | (with_reducible exact wigeonref01_formed.mono _ _ _)
      | (with_reducible exact LeO.refl _)
      | (with_reducible exact LeO.none _)
      | (with_reducible refine LeO.ite ?_ ?_)
      | (with_reducible refine LeO.bind ?_ (fun _ => ?_))
      | exact wigeonref01_formed.mono _ _ _
      | exact LeO.none _
      | refine LeO.ite ?_ ?_
      | refine LeO.bind ?_ (fun _ => ?_)
set_option maxHeartbeats 8000000 in
set_option maxRecDepth 100000 in
theorem wigeonref01_isSeries.calls (k : Nat) (a0 : ByteArray) (r : Bool) (w : World) (h : wigeonref01_isSeries.f k a0 = some r) :
    Calls Try.prog 79 #[.string a0] w fun e w' => e = .returned (.bool r) ∧ Drawn0 w w' := by
  have H : (if (a0.size : Int) = 1 then (if a0.size + 6 ≤ 9223372036854775807 then ((wigeonref01_formed.f k (a0 ++ (⟨#[48, 48, 48, 48, 48, 48]⟩ : ByteArray)) false).bind fun t329 => (some t329)) else (none)) else (if (a0.size : Int) = 2 then (if a0.size + 6 ≤ 9223372036854775807 then ((wigeonref01_formed.f k (a0 ++ (⟨#[48, 48, 48, 48, 48, 48]⟩ : ByteArray)) false).bind fun t330 => (some t330)) else (none)) else (some false))) = some r := h
  clear h
  by_cases c2 : (a0.size : Int) = 1
  · rw [if_pos c2] at H
    have c2b0 : ((a0.size : Int) == 1) = true := beq_iff_eq.mpr c2
    have c2b1 : ((a0.size : Int) != 1) = false := bne_eq_false_iff_eq.mpr c2
    clear c2
    by_cases c3 : a0.size + 6 ≤ 9223372036854775807
    · rw [if_pos c3] at H
      have c3b0 := eq_true c3
      have c3b1 : decide (a0.size + 6 ≤ 9223372036854775807) = true := decide_eq_true c3
      try have c3b2 : (9223372036854775807 < a0.size + 6) = False := eq_false (Nat.not_lt.2 c3)
      replace H := Option.bind_eq_some_iff.mp H
      obtain ⟨t329, A40, H⟩ := H
      replace H : (some t329) = some r := H
      have A4 := Aside0.mk A40
      clear A40
      obtain rfl := Option.some.inj H
      go_enter Try.func79, Try.ntmps79
      go_wp2_with (first | (go_at_call 72; (with_reducible refine (wigeonref01_formed.calls k (a0 ++ (⟨#[48, 48, 48, 48, 48, 48]⟩ : ByteArray)) false t329 _ A4.out).mono ?_); rintro e w' ⟨rfl, ⟨nd, rfl⟩⟩))
      go_ret
      exact ⟨by first | rfl | (simp; done) | (simp [*]; done), by repeat (first | exact Drawn0.refl _ | apply Drawn0.step)⟩
    · rw [if_neg c3] at H
      exact absurd H (by simp)
  · rw [if_neg c2] at H
    have c2b0 : ((a0.size : Int) == 1) = false := beq_eq_false_iff_ne.mpr c2
    have c2b1 : ((a0.size : Int) != 1) = true := bne_iff_ne.mpr c2
    by_cases c5 : (a0.size : Int) = 2
    · rw [if_pos c5] at H
      have c5b0 : ((a0.size : Int) == 2) = true := beq_iff_eq.mpr c5
      have c5b1 : ((a0.size : Int) != 2) = false := bne_eq_false_iff_eq.mpr c5
      clear c5
      by_cases c6 : a0.size + 6 ≤ 9223372036854775807
      · rw [if_pos c6] at H
        have c6b0 := eq_true c6
        have c6b1 : decide (a0.size + 6 ≤ 9223372036854775807) = true := decide_eq_true c6
        try have c6b2 : (9223372036854775807 < a0.size + 6) = False := eq_false (Nat.not_lt.2 c6)
        replace H := Option.bind_eq_some_iff.mp H
        obtain ⟨t330, A70, H⟩ := H
        replace H : (some t330) = some r := H
        have A7 := Aside0.mk A70
        clear A70
        obtain rfl := Option.some.inj H
        go_enter Try.func79, Try.ntmps79
        go_wp2_with (first | (go_at_call 72; (with_reducible refine (wigeonref01_formed.calls k (a0 ++ (⟨#[48, 48, 48, 48, 48, 48]⟩ : ByteArray)) false t330 _ A7.out).mono ?_); rintro e w' ⟨rfl, ⟨nd, rfl⟩⟩))
        go_ret
        exact ⟨by first | rfl | (simp; done) | (simp [*]; done), by repeat (first | exact Drawn0.refl _ | apply Drawn0.step)⟩
      · rw [if_neg c6] at H
        exact absurd H (by simp)
    · rw [if_neg c5] at H
      have c5b0 : ((a0.size : Int) == 2) = false := beq_eq_false_iff_ne.mpr c5
      have c5b1 : ((a0.size : Int) != 2) = true := bne_iff_ne.mpr c5
      obtain rfl := Option.some.inj H
      go_enter Try.func79, Try.ntmps79
      go_wp2
      go_ret
      exact ⟨by first | rfl | (simp; done) | (simp [*]; done), by repeat (first | exact Drawn0.refl _ | apply Drawn0.step)⟩

end Go.Proofs.Ytlbhighbhchdmaa.Q
