/- Closures: a number that is not the denominator; the weights of groups. For all numbers. -/
import Derived.Test.YtjphklemnhgkiaaDoorWLast
import Derived.Test.YtjphklemnhgkiaaDoorWMore
import Derived.Test.YtjphklemnhgkiaaDoorProg
import Derived.Test.YtjphklemnhgkiaaDoorShelf
import Derived.OwnWalk
import Derived.Handy
import Derived.Deep.DeepMust
import Derived.Lib.Hide
import Derived.Outline
import Derived.IntWalk
import Derived.Deep.RegionWith
import Derived.BigQuiet
import Derived.Deep.QuietTactic
import Derived.Lib.OwnBridge
import Derived.Test.YtjphklemnhgkiaaDoorPuA
namespace Go.Proofs.YtjphklemnhgkiaaDoor.Q
open Go.RowKit Go.Proofs.YtjphklemnhgkiaaDoorW.PrintWords Go.Proofs.YtjphklemnhgkiaaDoorW.PrintLast Go.Proofs.YtjphklemnhgkiaaDoorW.PrintMore 
set_option linter.unusedVariables false
set_option linter.unusedSimpArgs false
/-! The factorial (as printed). -/
def pu_factorial.l0 : Nat → Int → Int → Int → Option (Int)
  | 0, _, _, _ => none
  | k + 1, x3, x5, x6 => if x6 < x5 then (pu_factorial.l0 k (wrap64 (x3 * (wrap64 (x6 + 1)))) x5 (wrap64 (x6 + 1))) else (some x3)
def pu_factorial.f (k : Nat) (a0 : Int) : Option (Int) := pu_factorial.l0 k 1 a0 0
theorem pu_factorial.mono_l : ∀ k, (∀ y0 y1 y2, LeO (pu_factorial.l0 k y0 y1 y2) (pu_factorial.l0 (k + 1) y0 y1 y2))
  | 0 => fun _ _ _ r h => by simp [pu_factorial.l0] at h
  | k + 1 => by
    have ih0 := pu_factorial.mono_l k
    · intro y0 y1 y2
      unfold pu_factorial.l0
      repeat' first
      | (with_reducible exact ih0 _ _ _)
      | (with_reducible exact LeO.refl _)
      | (with_reducible exact LeO.none _)
      | (with_reducible refine LeO.ite ?_ ?_)
      | (with_reducible refine LeO.bind ?_ (fun _ => ?_))
      | exact ih0 _ _ _
      | exact LeO.none _
      | refine LeO.ite ?_ ?_
      | refine LeO.bind ?_ (fun _ => ?_)
theorem pu_factorial.mono : ∀ a0 k, LeO (pu_factorial.f k a0) (pu_factorial.f (k + 1) a0) := by
  intro a0 k
  have ih0 := pu_factorial.mono_l k
  unfold pu_factorial.f
  repeat' first
      | (with_reducible exact ih0 _ _ _)
      | (with_reducible exact LeO.refl _)
      | (with_reducible exact LeO.none _)
      | (with_reducible refine LeO.ite ?_ ?_)
      | (with_reducible refine LeO.bind ?_ (fun _ => ?_))
      | exact ih0 _ _ _
      | exact LeO.none _
      | refine LeO.ite ?_ ?_
      | refine LeO.bind ?_ (fun _ => ?_)
set_option maxHeartbeats 8000000 in
set_option maxRecDepth 100000 in
theorem pu_factorial.calls (k : Nat) (a0 : Int) (r : Int) (w : World) (h : pu_factorial.f k a0 = some r) :
    Calls Tryd.prog 62 #[.int .i64 a0] w fun e w' => e = .returned (.int .i64 r) ∧ Drawn0 w w' := by
  have H : (pu_factorial.l0 k 1 a0 0) = some r := h
  clear h
  have H' := Aside0.mk H
  clear H
  go_enter Tryd.func62, Tryd.ntmps62
  go_wp2
  go_loopg [3, 6] k (fun kq v3 v6 w' => ∃ (x3_1 : Int) (x6_1 : Int), v3 = .int .i64 x3_1 ∧ v6 = .int .i64 x6_1 ∧ Aside0 (pu_factorial.l0 kq x3_1 a0 x6_1 = some r) ∧ Aside0 (kq ≤ k) ∧ Drawn0 w w')
  case atStart => exact ⟨(1), (0), (by first | rfl | (simp; done) | (simp [*]; done)), (by first | rfl | (simp; done) | (simp [*]; done)), H', ⟨Nat.le_refl _⟩, by repeat (first | exact Drawn0.refl _ | apply Drawn0.step)⟩
  case round =>
    clear H'
    obtain ⟨x3_1, x6_1, rfl, rfl, HA, HK1, ⟨m1, rfl⟩⟩ := hrel
    cases gk with
    | zero => exact absurd HA.out (by simp [pu_factorial.l0])
    | succ k1 =>
      have H := HA.out
      clear HA
      simp only [pu_factorial.l0] at H
      by_cases c2 : x6_1 < a0
      · rw [if_pos c2] at H
        have c2b0 : decide (x6_1 < a0) = true := decide_eq_true c2
        clear c2
        have H' := Aside0.mk H
        clear H
        go_wp2
        go_roundg k1
        case measure => have := HK1.out; omega
        case rel => exact ⟨(wrap64 (x3_1 * (wrap64 (x6_1 + 1)))), (wrap64 (x6_1 + 1)), (by first | rfl | (simp; done) | (simp [*]; done)), (by first | rfl | (simp; done) | (simp [*]; done)), H', ⟨by have := HK1.out; omega⟩, by repeat (first | exact Drawn0.refl _ | apply Drawn0.step)⟩
      · rw [if_neg c2] at H
        have c2b0 : decide (x6_1 < a0) = false := decide_eq_false c2
        clear c2
        obtain rfl := Option.some.inj H
        go_wp2
        go_ret
        exact ⟨by first | rfl | (simp; done) | (simp [*]; done), by repeat (first | exact Drawn0.refl _ | apply Drawn0.step)⟩

-- NOT PRINTED: function 21 (purse_Shapley)


/-! Closures: a number that is not the balance's denominator; the weights. -/
theorem uneven_closure (g : Nat) (x d : Int) (W : World) (hg : W.cell? ⟨g, 0, none⟩ = some (.int .i64 d)) : Calls Tryd.prog 52 #[.int .i64 x, .pointer (some ⟨g, 0, none⟩)] W fun e w' => e = .returned (.bool (decide (x ≠ d))) ∧ ∃ q, w' = W.drewN q := by
  have hd : decide (x ≠ d) = (x != d) := by
    by_cases h : x = d <;> simp [h, bne]
  rw [hd]
  clear hd
  go_enter Tryd.func52, Tryd.ntmps52
  go_wp2
  first | go_end0 | go_returns | go_ret
  exact ⟨rfl, 0, rfl⟩
theorem uneven_calls (A0 : Option Addr) (c0 : Nat) (l0 : List Int) (a1_0 : Int) (A1_1 : Option Addr) (c1_1 n1 : Nat) (r : Bool) (W : World) (hr0 : Kd.C (Kd.int .i64) W A0 l0.length l0) (hc0 : l0.length ≤ c0) (g : Nat)
    (hg : W.heap[g]? = some (.cells #[.int .i64 a1_0, .slice A1_1 n1 c1_1] 25 (0, 0))) (h : l0.any (fun x => decide (x ≠ a1_0)) = r) :
    Calls Tryd.prog 51 #[.slice A0 l0.length c0, .func (.func 52) #[] #[.pointer (some ⟨g, 0, none⟩)]] W fun e w' => e = .returned (.bool r) ∧ Below W.heap.size W w' := by
  subst h
  have hcell : W.cell? ⟨g, 0, none⟩ = some (.int .i64 a1_0) := (blk_cell hg 0).trans rfl
  rcases int_at hr0 with e | ⟨b, off, e, hc⟩
  · subst e
    refine (Tryd.slices_ContainsFunc_empty (α := Int) A0 c0 (.func (.func 52) #[] #[.pointer (some ⟨g, 0, none⟩)]) W).mono ?_
    rintro e w' ⟨rfl, rfl⟩
    exact ⟨rfl, Below.refl _ _⟩
  · subst e
    refine (Tryd.slices_ContainsFunc (Value.int .i64) (fun x => decide (x ≠ a1_0)) 52 #[.pointer (some ⟨g, 0, none⟩)] (enters_of Tryd.func52 (by kernel_rfl) rfl) b off l0.length c0 l0 W ?_ (Nat.le_refl _) hr0.2.1 hc).mono ?_
    · intro W' x hW
      exact uneven_closure g x a1_0 _ ((hW.cell (World.block_lt_of_cell? W _ hcell)).trans hcell)
    · rintro e w' ⟨rfl, q, rfl⟩
      rw [List.take_length]
      exact ⟨rfl, (Drawn0.mk ⟨q, rfl⟩).below⟩
/-- A variable in memory. -/
def BoxI (w : World) (B : Nat) (v : Value) : Prop := w.cell? ⟨B, 0, none⟩ = some v
theorem BoxI.below {w w1 : World} {B : Nat} {v : Value} (h : BoxI w B v) (hb : Below w.heap.size w w1) : BoxI w1 B v := (hb.cell (World.block_lt_of_cell? w _ h)).trans h
def wgtS (n s : Int) : Option Int := (pu_factorial.f 40 s).bind fun a => (pu_factorial.f 40 (wrap64 (wrap64 (n - s) - 1))).bind fun b => some (wrap64 (a * b))
def wgt (n s : Int) : Option Int := if n = -1 then some 1 else wgtS n s
theorem wgt61_calls (a0 a1 r : Int) (w : World) (B : Nat) (h : wgt a0 a1 = some r) (hn : a0 ≠ -1) (hX : BoxI w B (.int .i64 a0) := by first | exact HX.out | exact HX.out.below HB.out | exact HX.out.below (by repeat (first | (with_reducible first | exact HB.out | exact Below.refl _ _ | apply below_alloc | apply pw_below_drewN | apply below_drew1) | exact HB.out))) :
    Calls Tryd.prog 61 #[.int .i64 a1, .pointer (some ⟨B, 0, none⟩)] w fun e w' => e = .returned (.int .i64 r) ∧ Drawn0 w w' := by
  unfold wgt at h
  rw [if_neg hn] at h
  unfold wgtS at h
  obtain ⟨f1, h1, h⟩ := Option.bind_eq_some_iff.mp h
  obtain ⟨f2, h2, h⟩ := Option.bind_eq_some_iff.mp h
  obtain rfl := Option.some.inj h
  have A1 := Aside0.mk h1
  have A2 := Aside0.mk h2
  have hc : w.cell? ⟨B, 0, none⟩ = some (.int .i64 a0) := hX
  clear h h1 h2 hn hX
  go_enter Tryd.func61, Tryd.ntmps61
  go_wp2
  repeat (go_quiet (first | (go_at_call 62; (with_reducible refine (pu_factorial.calls 40 a1 f1 _ A1.out).mono ?_); rintro e w' ⟨rfl, ⟨nd, rfl⟩⟩; (try first | exact ⟨rfl, _, World.drewN_drewN _ _ _⟩ | exact ⟨rfl, _, Eq.trans (World.drewN_drewN _ _ _) (congrArg (World.drewN _) (Nat.add_assoc _ _ _))⟩)) | (go_at_call 62; (with_reducible refine (pu_factorial.calls 40 _ f2 _ A2.out).mono ?_); rintro e w' ⟨rfl, ⟨nd, rfl⟩⟩; (try first | exact ⟨rfl, _, World.drewN_drewN _ _ _⟩ | exact ⟨rfl, _, Eq.trans (World.drewN_drewN _ _ _) (congrArg (World.drewN _) (Nat.add_assoc _ _ _))⟩)))); go_wp2
  first | go_end0 | go_returns | go_ret
  exact ⟨rfl, ⟨_, rfl⟩⟩
theorem wgt66_calls (a1 r : Int) (w : World) (h : wgt (-1) a1 = some r) : Calls Tryd.prog 66 #[.int .i64 a1] w fun e w' => e = .returned (.int .i64 r) ∧ Drawn0 w w' := by
  obtain rfl : (1 : Int) = r := by
    unfold wgt at h
    rw [if_pos rfl] at h
    exact Option.some.inj h
  go_enter Tryd.func66, Tryd.ntmps66
  go_wp2
  first | go_end0 | go_returns | go_ret
  exact ⟨rfl, Drawn0.refl _⟩
end Go.Proofs.YtjphklemnhgkiaaDoor.Q
