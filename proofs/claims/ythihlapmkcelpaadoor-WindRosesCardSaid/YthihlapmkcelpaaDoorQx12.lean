-- Written by a program of this session (wip/tools/gprint.py, over the kit's print); Lean checks it.
import Derived.Test.YthihlapmkcelpaaDoorQx0
import Derived.Test.YthihlapmkcelpaaDoorQx1
import Derived.Test.YthihlapmkcelpaaDoorQx2
import Derived.Test.YthihlapmkcelpaaDoorQx5
import Derived.Test.YthihlapmkcelpaaDoorQx7
import Derived.Test.YthihlapmkcelpaaDoorQx8
import Derived.Test.YthihlapmkcelpaaDoorQx10
namespace Go.Proofs.YthihlapmkcelpaaDoor.Q
open Go.RowKit Go.Proofs.YthihlapmkcelpaaDoorW.PrintWords Go.Proofs.YthihlapmkcelpaaDoorW.PrintLast Go.Proofs.YthihlapmkcelpaaDoorW.PrintMore
attribute [local go_sem] max2_int min2_int max_two min_two max_three min_three max_four min_four   -- for this text's walks alone
set_option linter.unusedVariables false
set_option linter.unusedSimpArgs false

attribute [local go_sem high] eqA33
/-! ### wigeonref03_Points: function 26 -/
-- GIVEN wigeon/wigeonref03.Points rounds=0 making=1
theorem refArc_eq (f wd : Int) : wigeonref03_ValidateArc.f f wd = some (if arcOk f wd = true then 0 else 1) := by
  unfold wigeonref03_ValidateArc.f wigeonref03_isPoint.f arcOk
  by_cases h1 : f ≥ 0
  · by_cases h2 : f < 32
    · have h2' : f ≤ 31 := by omega
      by_cases h3 : wd < 1
      · have h3' : ¬ 1 ≤ wd := by omega
        simp [h1, h2, h2', h3, h3']
      · have h3' : 1 ≤ wd := by omega
        by_cases h4 : wd > 32
        · have h4' : ¬ wd ≤ 32 := by omega
          simp [h1, h2, h2', h3, h3', h4, h4']
        · have h4' : wd ≤ 32 := by omega
          simp [h1, h2, h2', h3, h3', h4, h4']
    · have h2' : ¬ f ≤ 31 := by omega
      simp [h1, h2, h2']
  · have h1' : ¬ 0 ≤ f := by omega
    simp [h1]
theorem refHas_eq {f p : Nat} (wd : Int) (hf : f < 32) (hp : p < 32) : wigeonref03_has.f (f : Int) wd (p : Int) = some (inArc f wd p) := by
  unfold wigeonref03_has.f wigeonref03_around.f inArc
  have e : wrap64 ((p : Int) - (f : Int)) = (p : Int) - (f : Int) := by unfold wrap64; omega
  rw [e, and31_at hp hf]
  rfl
/-- The first places at which an arc has a point. -/
def headA (h : Nat → Bool) (j : Nat) : Nat → Bool := fun p => decide (p < j) && h p
theorem headA_zero (h : Nat → Bool) : encB (headA h 0) = encB noneB := encB_congr fun p _ => by unfold headA noneB; simp
theorem headA_succ (h : Nat → Bool) (j : Nat) : encB (updF (headA h j) j (h j)) = encB (headA h (j + 1)) := encB_congr fun p _ => by
  unfold headA updF
  by_cases e : p = j
  · rw [if_pos e, e]
    simp
  · rw [if_neg e]
    show (decide (p < j) && h p) = (decide (p < j + 1) && h p)
    congr 1
    rw [decide_eq_decide]
    omega
theorem headA_all (h : Nat → Bool) : encB (headA h 32) = encB h := encB_congr fun p hp => by unfold headA; simp [hp]
structure PtsAt (w : World) (cs : Array Value) (g : Nat) (h : Nat → Bool) (w' : World) : Prop where
  arc : w'.heap[w.heap.size]? = some (.cells cs 33 (0, 0))
  row : BoolsAt w' g h
  bel : Below w.heap.size w w'
  far : w.heap.size < g
theorem PtsAt.below {w w' w'' : World} {cs : Array Value} {g : Nat} {h : Nat → Bool} (H : PtsAt w cs g h w') (hb : Below w'.heap.size w' w'') : PtsAt w cs g h w'' :=
  ⟨(hb.block _ (Array.getElem?_eq_some_iff.1 H.arc).1).trans H.arc, H.row.below hb, H.bel.trans (hb.mono (below_size H.bel)), H.far⟩
theorem PtsAt.store {w w' : World} {cs : Array Value} {g : Nat} {h : Nat → Bool} (H : PtsAt w cs g h w') (j : Nat) (b : Bool) : PtsAt w cs g (updF h j b) (w'.setCell ⟨g, j, none⟩ (.bool b)) := by
  have hf := H.far
  refine ⟨?_, H.row.store j b, H.bel.setCell (by show w.heap.size ≤ g; omega) _, H.far⟩
  rw [heap_setCell_other w' _ _ _ (show w.heap.size ≠ g by omega)]
  exact H.arc
theorem PtsAt.of_eq {w w' : World} {cs : Array Value} {g : Nat} {h h2 : Nat → Bool} (H : PtsAt w cs g h w') (e : encB h = encB h2) : PtsAt w cs g h2 w' := ⟨H.arc, H.row.of_eq e, H.bel, H.far⟩
theorem PtsAt.new {w w1 : World} {cs : Array Value} (harc : w1.heap[w.heap.size]? = some (.cells cs 33 (0, 0))) (hb : Below w.heap.size w w1) (z : Array Value) (hz : z = encB noneB) : PtsAt w cs w1.heap.size noneB (w1.alloc (.cells z 77)) := by
  subst hz
  have hl := (Array.getElem?_eq_some_iff.1 harc).1
  refine ⟨?_, BoolsAt.new w1 noneB, hb.alloc (below_size hb) _, hl⟩
  rw [show (w1.alloc (.cells (encB noneB) 77)).heap[w.heap.size]? = w1.heap[w.heap.size]? by first | exact Go.heap_alloc_old w1 _ _ hl | exact Go.heap_alloc_old w1 _ hl]
  exact harc
set_option maxHeartbeats 8000000 in
set_option maxRecDepth 100000 in
theorem ref_Points.walk (f wd : Int) (w : World) : Calls Tryd.prog 26 #[.agg #[.int .i64 f, .int .i64 wd]] w fun e w' => e = .returned (.tuple #[.int .i64 (pointsP f wd).1, .int .i64 (pointsP f wd).2]) ∧ Below w.heap.size w w' := by
  have HV := Lib.hid (fun w => wigeonref03_ValidateArc.calls f wd _ w (refArc_eq f wd))
  have HI := Lib.hid (show (Tryd.prog.info? 33).map (·.size) = some (#[Value.int .i64 f, .int .i64 wd] : Array Value).size by kernel_rfl)
  by_cases h : arcOk f wd = true
  · have he : pointsP f wd = (((maskN (inArc f.toNat wd) 32 : Nat) : Int), 0) := by unfold pointsP; rw [if_pos h]
    rw [he]
    rw [if_pos h] at HV
    have hr := of_decide_eq_true h
    obtain ⟨n, rfl⟩ := Int.eq_ofNat_of_zero_le hr.1.1
    have hn : n < 32 := by omega
    rw [Int.toNat_natCast]
    have HH := Lib.hid (fun (p : Nat) (hp : p < 32) (w : World) => wigeonref03_has.calls (n : Int) wd (p : Int) _ w (refHas_eq wd hn hp))
    clear he h hr
    generalize inArc n wd = q at *
    go_enter Tryd.func26, Tryd.ntmps26
    go_wp2_with (first | (go_at_call 28; go_must (with_reducible refine (HV.out _).mono ?_); rintro _ w1 ⟨rfl, hb1⟩; have HB1 := Lib.hid (((Below.refl w.heap.size w).alloc (Nat.le_refl _) (.cells #[.int .i64 (n : Int), .int .i64 wd] 33)).trans (hb1.mono (by simp))); have HW1 := Lib.hid (show w1.heap[w.heap.size]? = some (.cells #[.int .i64 (n : Int), .int .i64 wd] 33 (0, 0)) from (hb1.block w.heap.size (by simp)).trans (heap_alloc_new _ _)); clear hb1))
    have H0 := Lib.hid (PtsAt.new HW1.out HB1.out #[.bool false, .bool false, .bool false, .bool false, .bool false, .bool false, .bool false, .bool false, .bool false, .bool false, .bool false, .bool false, .bool false, .bool false, .bool false, .bool false, .bool false, .bool false, .bool false, .bool false, .bool false, .bool false, .bool false, .bool false, .bool false, .bool false, .bool false, .bool false, .bool false, .bool false, .bool false, .bool false] zeroB)
    generalize (w1.alloc (.cells #[.bool false, .bool false, .bool false, .bool false, .bool false, .bool false, .bool false, .bool false, .bool false, .bool false, .bool false, .bool false, .bool false, .bool false, .bool false, .bool false, .bool false, .bool false, .bool false, .bool false, .bool false, .bool false, .bool false, .bool false, .bool false, .bool false, .bool false, .bool false, .bool false, .bool false, .bool false, .bool false] 77)) = W0 at *
    generalize w1.heap.size = g at *
    go_loopw [6] (fun v w' => ∃ j : Nat, j ≤ 32 ∧ v = .int .i64 (j : Int) ∧ PtsAt w #[.int .i64 (n : Int), .int .i64 wd] g (headA q j) w') (fun v _ => (32 - intOf v).toNat)
    case atStart => exact ⟨0, by omega, rfl, H0.out.of_eq (headA_zero q).symm⟩
    case round =>
      obtain ⟨j, hj, rfl, hM⟩ := hrel
      have HM := Lib.hid hM
      clear hM
      by_cases hlt : j < 32
      · have HC := Lib.hid (HH.out j hlt wr)
        have HS := Lib.hid (headA_succ q j)
        generalize q j = b at *
        go_wp2_with (first | (refine wpList_load_row (o := ⟨some 17, _, _, _, _, _⟩) rfl 33 (.tmp 1) rfl w.heap.size rfl 33 #[.int .i64 (n : Int), .int .i64 wd] (0, 0) _ HM.out.arc Tryd.underlying33 rfl HI.out ?_) | (go_at_call 73; go_must (with_reducible refine HC.out.mono ?_); rintro _ w2 ⟨rfl, hb2⟩; have HB2 := Lib.hid hb2; have hfree := (HM.out.below hb2).row.free j; have hcell := (HM.out.below hb2).row.cell j hlt; clear hb2))
        exact ⟨⟨j + 1, by omega, by go_num, ((HM.out.below HB2.out).store j b).of_eq HS.out⟩, by simp [intOf]; omega⟩
      · have hj32 : j = 32 := by omega
        subst hj32
        have HE := Lib.hid (HM.out.of_eq (headA_all q))
        have HI2 := Lib.hid (infoB q)
        have HN := Lib.hid (fun w => ref_number.walk q w)
        go_wp2_with (first | (refine wpList_load_row rfl 77 (.tmp 5) rfl g rfl 77 (encB q) (0, 0) _ HE.out.row Tryd.underlying77 rfl HI2.out ?_) | (go_at_call 68; go_must (with_reducible refine (HN.out _).mono ?_); rintro _ w3 ⟨rfl, hb3⟩; have HB3 := Lib.hid hb3; clear hb3))
        go_ret2
        exact ⟨rfl, HM.out.bel.trans (HB3.out.mono (below_size HM.out.bel))⟩
  · have he : pointsP f wd = (0, 1) := by unfold pointsP; rw [if_neg h]
    rw [he]
    rw [if_neg h] at HV
    go_enter Tryd.func26, Tryd.ntmps26
    go_wp2_with (first | (go_at_call 28; go_must (with_reducible refine (HV.out _).mono ?_); rintro _ w1 ⟨rfl, hb1⟩; have HB1 := Lib.hid hb1; clear hb1))
    go_ret2
    exact ⟨rfl, ((Below.refl _ _).alloc (Nat.le_refl _) _).trans (HB1.out.mono (by simp))⟩
def wigeonref03_Points.f (f wd : Int) : Option (Int × Int) := some (pointsP f wd)
theorem wigeonref03_Points.calls (f wd : Int) (r1 r2 : Int) (w : World) (h : wigeonref03_Points.f f wd = some (r1, r2)) :
    Calls Tryd.prog 26 #[.agg #[.int .i64 f, .int .i64 wd]] w fun e w' => e = .returned (.tuple #[.int .i64 r1, .int .i64 r2]) ∧ Below w.heap.size w w' := by
  have h := Option.some.inj h
  have hw := ref_Points.walk f wd w
  rw [h] at hw
  exact hw

/-! ### wind_Arcs: function 29 -/
mutual
def wind_Arcs.l0 : Nat → Int → List (S33) → Int → Option ((List (S33)) × Int)
  | 0, _, _, _ => none
  | k + 1, x4, x5, x18 => if x18 < 32 then ((wind_points_has.f x4 x18).bind fun t252 => (if t252 = true then ((wind_modulo.f (wrap64 (x18 - 1))).bind fun t253 => ((wind_points_has.f x4 t253).bind fun t254 => (wind_Arcs.j1 k x4 x5 x18 x18 t254))) else (wind_Arcs.j1 k x4 x5 x18 x18 true))) else (some (x5, 0))
def wind_Arcs.j1 : Nat → Int → List (S33) → Int → Int → Bool → Option ((List (S33)) × Int)
  | 0, _, _, _, _, _ => none
  | k + 1, x4, x5, x6, x18, x31 => if x31 = true then (wind_Arcs.l0 k x4 x5 (wrap64 (x18 + 1))) else (wind_Arcs.l1 k x4 x5 x6 x18 x6 0)
def wind_Arcs.l1 : Nat → Int → List (S33) → Int → Int → Int → Int → Option ((List (S33)) × Int)
  | 0, _, _, _, _, _, _ => none
  | k + 1, x4, x5, x6, x18, x256000, x256001 => (wind_modulo.f (wrap64 (x6 + x256001))).bind fun t256 => ((wind_points_has.f x4 t256).bind fun t257 => (if t257 = true then (wind_Arcs.l1 k x4 x5 x6 x18 x256000 (wrap64 (x256001 + 1))) else (if x5.length < 8796093022208 then (wind_Arcs.l0 k x4 (x5 ++ [(⟨x256000, x256001⟩ : S33)]) (wrap64 (x18 + 1))) else (none))))
end
def wind_Arcs.f (k : Nat) (a0 : Int) : Option ((List (S33)) × Int) := (wind_isSet.f a0).bind fun t247 => (if t247 = true then ((wind_all.f).bind fun t248 => (if ((a0) % 4294967296) = t248 then (some ((([(⟨0, 32⟩ : S33)] : List (S33))), 0)) else (wind_Arcs.l0 k ((a0) % 4294967296) ([] : List (S33)) 0))) else (some (([] : List (S33)), 1)))
theorem wind_Arcs.mono_l : ∀ k, (∀ y0 y1 y2, LeO (wind_Arcs.l0 k y0 y1 y2) (wind_Arcs.l0 (k + 1) y0 y1 y2)) ∧ (∀ y0 y1 y2 y3 y4, LeO (wind_Arcs.j1 k y0 y1 y2 y3 y4) (wind_Arcs.j1 (k + 1) y0 y1 y2 y3 y4)) ∧ (∀ y0 y1 y2 y3 y4 y5, LeO (wind_Arcs.l1 k y0 y1 y2 y3 y4 y5) (wind_Arcs.l1 (k + 1) y0 y1 y2 y3 y4 y5))
  | 0 => ⟨fun _ _ _ r h => by simp [wind_Arcs.l0] at h, fun _ _ _ _ _ r h => by simp [wind_Arcs.j1] at h, fun _ _ _ _ _ _ r h => by simp [wind_Arcs.l1] at h⟩
  | k + 1 => by
    obtain ⟨ih0, ih1, ih2⟩ := wind_Arcs.mono_l k
    refine ⟨?_, ?_, ?_⟩
    · intro y0 y1 y2
      unfold wind_Arcs.l0
      repeat' first
      | (with_reducible exact ih0 _ _ _)
      | (with_reducible exact ih1 _ _ _ _ _)
      | (with_reducible exact ih2 _ _ _ _ _ _)
      | (with_reducible exact LeO.refl _)
      | (with_reducible exact LeO.none _)
      | (with_reducible refine LeO.ite ?_ ?_)
      | (with_reducible refine LeO.bind ?_ (fun _ => ?_))
      | exact ih0 _ _ _
      | exact ih1 _ _ _ _ _
      | exact ih2 _ _ _ _ _ _
      | exact LeO.none _
      | refine LeO.ite ?_ ?_
      | refine LeO.bind ?_ (fun _ => ?_)
    · intro y0 y1 y2 y3 y4
      unfold wind_Arcs.j1
      repeat' first
      | (with_reducible exact ih0 _ _ _)
      | (with_reducible exact ih1 _ _ _ _ _)
      | (with_reducible exact ih2 _ _ _ _ _ _)
      | (with_reducible exact LeO.refl _)
      | (with_reducible exact LeO.none _)
      | (with_reducible refine LeO.ite ?_ ?_)
      | (with_reducible refine LeO.bind ?_ (fun _ => ?_))
      | exact ih0 _ _ _
      | exact ih1 _ _ _ _ _
      | exact ih2 _ _ _ _ _ _
      | exact LeO.none _
      | refine LeO.ite ?_ ?_
      | refine LeO.bind ?_ (fun _ => ?_)
    · intro y0 y1 y2 y3 y4 y5
      unfold wind_Arcs.l1
      repeat' first
      | (with_reducible exact ih0 _ _ _)
      | (with_reducible exact ih1 _ _ _ _ _)
      | (with_reducible exact ih2 _ _ _ _ _ _)
      | (with_reducible exact LeO.refl _)
      | (with_reducible exact LeO.none _)
      | (with_reducible refine LeO.ite ?_ ?_)
      | (with_reducible refine LeO.bind ?_ (fun _ => ?_))
      | exact ih0 _ _ _
      | exact ih1 _ _ _ _ _
      | exact ih2 _ _ _ _ _ _
      | exact LeO.none _
      | refine LeO.ite ?_ ?_
      | refine LeO.bind ?_ (fun _ => ?_)
theorem wind_Arcs.mono : ∀ a0 k, LeO (wind_Arcs.f k a0) (wind_Arcs.f (k + 1) a0) := by
  intro a0 k
  obtain ⟨ih0, ih1, ih2⟩ := wind_Arcs.mono_l k
  unfold wind_Arcs.f
  repeat' first
      | (with_reducible exact ih0 _ _ _)
      | (with_reducible exact ih1 _ _ _ _ _)
      | (with_reducible exact ih2 _ _ _ _ _ _)
      | (with_reducible exact LeO.refl _)
      | (with_reducible exact LeO.none _)
      | (with_reducible refine LeO.ite ?_ ?_)
      | (with_reducible refine LeO.bind ?_ (fun _ => ?_))
      | exact ih0 _ _ _
      | exact ih1 _ _ _ _ _
      | exact ih2 _ _ _ _ _ _
      | exact LeO.none _
      | refine LeO.ite ?_ ?_
      | refine LeO.bind ?_ (fun _ => ?_)
set_option maxHeartbeats 8000000 in
set_option maxRecDepth 100000 in
theorem wind_Arcs.calls (k : Nat) (a0 : Int) (r1 : List (S33)) (r2 : Int) (w : World) (h : wind_Arcs.f k a0 = some (r1, r2)) :
    Calls Tryd.prog 29 #[.int .i64 a0] w fun e w' => ∃ v0_ : Value, e = .returned (.tuple #[v0_, .int .i64 r2]) ∧ Kd.R k33 33 w' w.heap.size (fun _ => True) v0_ r1 ∧ Below w.heap.size w w' := by
  have hu33 := Tryd.underlying33
  have HB := Aside0.mk (Below.refl w.heap.size w)
  have H : ((wind_isSet.f a0).bind fun t247 => (if t247 = true then ((wind_all.f).bind fun t248 => (if ((a0) % 4294967296) = t248 then (some ((([(⟨0, 32⟩ : S33)] : List (S33))), 0)) else (wind_Arcs.l0 k ((a0) % 4294967296) ([] : List (S33)) 0))) else (some (([] : List (S33)), 1)))) = some (r1, r2) := h
  clear h
  replace H := Option.bind_eq_some_iff.mp H
  obtain ⟨t247, A20, H⟩ := H
  replace H : (if t247 = true then ((wind_all.f).bind fun t248 => (if ((a0) % 4294967296) = t248 then (some ((([(⟨0, 32⟩ : S33)] : List (S33))), 0)) else (wind_Arcs.l0 k ((a0) % 4294967296) ([] : List (S33)) 0))) else (some (([] : List (S33)), 1))) = some (r1, r2) := H
  have A2 := Aside0.mk A20
  clear A20
  by_cases c3 : t247 = true
  · subst c3
    have H1 : ((wind_all.f).bind fun t248 => (if ((a0) % 4294967296) = t248 then (some ((([(⟨0, 32⟩ : S33)] : List (S33))), 0)) else (wind_Arcs.l0 k ((a0) % 4294967296) ([] : List (S33)) 0))) = some (r1, r2) := by rw [if_pos rfl] at H; exact H
    clear H
    have H := H1
    clear H1
    replace H := Option.bind_eq_some_iff.mp H
    obtain ⟨t248, A40, H⟩ := H
    replace H : (if ((a0) % 4294967296) = t248 then (some ((([(⟨0, 32⟩ : S33)] : List (S33))), 0)) else (wind_Arcs.l0 k ((a0) % 4294967296) ([] : List (S33)) 0)) = some (r1, r2) := H
    have A4 := Aside0.mk A40
    clear A40
    by_cases c5 : ((a0) % 4294967296) = t248
    · rw [if_pos c5] at H
      have c5b0 : (((a0) % 4294967296) == t248) = true := beq_iff_eq.mpr c5
      have c5b1 : (((a0) % 4294967296) != t248) = false := bne_eq_false_iff_eq.mpr c5
      clear c5
      obtain ⟨y249, hy249⟩ : ∃ y_ : List (S33), y_ = (([(⟨0, 32⟩ : S33)] : List (S33))) := ⟨_, rfl⟩
      replace H : (some (y249, 0)) = some (r1, r2) := by first | (rw [hy249]; with_reducible exact H) | (have H2_ := (Option.bind_some _ _).symm.trans H; rw [hy249]; with_reducible exact H2_) | (have H2_ := (Option.bind_some _ _).symm.trans H; with_reducible exact H2_) | with_reducible exact H | (rw [hy249]; exact H) | exact H
      have Ny249 := Aside0.mk hy249
      clear hy249
      simp only [Option.some.injEq, Prod.mk.injEq] at H
      obtain ⟨rfl, rfl⟩ := H
      go_enter Tryd.func29, Tryd.ntmps29
      go_wp2_with (first | ((with_reducible refine gate_callee (f := 62) rfl ?_); refine goesL_ (some 9) rfl rfl Tryd.func62 (by kernel_rfl) rfl #[.int .i64 a0] rfl (by (try simp only [List.map_toArray, List.map_cons, List.map_nil]); first | done | rfl | (simp only [List.length_drop, List.length_take]; rfl)) ?_; (with_reducible refine (wind_isSet.calls a0 true _ A2.out).mono ?_); rintro e w' ⟨rfl, ⟨nd, rfl⟩⟩; refine ⟨_, rfl, ?_⟩) | ((with_reducible refine gate_callee (f := 75) rfl ?_); refine goesL_ (some 14) rfl rfl Tryd.func75 (by kernel_rfl) rfl #[] rfl (by (try simp only [List.map_toArray, List.map_cons, List.map_nil]); first | done | rfl | (simp only [List.length_drop, List.length_take]; rfl)) ?_; (with_reducible refine (wind_all.calls  t248 _ A4.out).mono ?_); rintro e w' ⟨rfl, ⟨nd, rfl⟩⟩; refine ⟨_, rfl, ?_⟩) | ((with_reducible refine gate_dst (N := 17) rfl ?_); refine Kd.R_lit k33 _ 33 ?hg (N := 17) ?hd (xs := ([(⟨0, 32⟩ : S33)] : List (S33))) (inner := [.int .i64 0, .int .i64 32]) (ok := fun _ => True) (okp := fun _ => True) ?hr ?hp (fun _ hk => hk) trivial (Below.refl _ _) (Nat.le_refl _) (by simp) ?_; (case hd => rfl); (case hg => rfl); (case hr => first | (go_simp; done) | (go_simp; rfl)); (case hp => exact (Reps.c2 (show Kd.M k33 _ _ _ (⟨0, 32⟩ : S33) [.int .i64 0, .int .i64 32] from (k33_mkM _ _ _ (⟨0, 32⟩ : S33) )) (Reps.none _ _))); intro v250 w6 ho7 hb hg_ hnew_; clear hg_ hnew_; (first | rw [← Ny249.out] at ho7 | (simp only [Int.reduceToNat] at ho7; rw [← Ny249.out] at ho7)); have n0_ := Aside0.mk (Kd.R_lower ho7 (below_size (by repeat (first | (with_reducible first | exact HB.out | apply below_alloc | apply pw_below_drewN | apply below_drew1) | exact HB.out)))); have n1_ := Aside0.mk (below_step (by repeat (first | (with_reducible first | exact HB.out | apply below_alloc | apply pw_below_drewN | apply below_drew1) | exact HB.out)) hb); clear HB; have HO251 := n0_; have HB := n1_; clear n0_ n1_; clear hb ho7))
      go_ret2
      exact ⟨_, by first | rfl | (simp [errW_none, errW_some] <;> rfl) | (simp [*, errW_none, errW_some] <;> rfl), by (with_reducible repeat (first | apply Kd.R_alloc | apply Kd.R_drewN | apply Kd.R_drew)); exact HO251.out, by repeat (first | (with_reducible first | exact HB.out | apply below_alloc | apply pw_below_drewN | apply below_drew1) | exact HB.out)⟩
    · rw [if_neg c5] at H
      have c5b0 : (((a0) % 4294967296) == t248) = false := beq_eq_false_iff_ne.mpr c5
      have c5b1 : (((a0) % 4294967296) != t248) = true := bne_iff_ne.mpr c5
      have H' := Aside0.mk H
      clear H
      go_enter Tryd.func29, Tryd.ntmps29
      go_wp2_with (first | ((with_reducible refine gate_callee (f := 62) rfl ?_); refine goesL_ (some 9) rfl rfl Tryd.func62 (by kernel_rfl) rfl #[.int .i64 a0] rfl (by (try simp only [List.map_toArray, List.map_cons, List.map_nil]); first | done | rfl | (simp only [List.length_drop, List.length_take]; rfl)) ?_; (with_reducible refine (wind_isSet.calls a0 true _ A2.out).mono ?_); rintro e w' ⟨rfl, ⟨nd, rfl⟩⟩; refine ⟨_, rfl, ?_⟩) | ((with_reducible refine gate_callee (f := 75) rfl ?_); refine goesL_ (some 14) rfl rfl Tryd.func75 (by kernel_rfl) rfl #[] rfl (by (try simp only [List.map_toArray, List.map_cons, List.map_nil]); first | done | rfl | (simp only [List.length_drop, List.length_take]; rfl)) ?_; (with_reducible refine (wind_all.calls  t248 _ A4.out).mono ?_); rintro e w' ⟨rfl, ⟨nd, rfl⟩⟩; refine ⟨_, rfl, ?_⟩))
      go_loopg [5, 18] k (fun kq v5 v18 w' => ∃ (x5_1 : List (S33)) (x18_1 : Int), v18 = .int .i64 x18_1 ∧ Aside0 (wind_Arcs.l0 kq ((a0) % 4294967296) x5_1 x18_1 = some (r1, r2)) ∧ Aside0 (kq ≤ k) ∧ Aside0 (Kd.R k33 33 w' w.heap.size (fun _ => True) v5 x5_1) ∧ Aside0 (Below w.heap.size w w'))
      case atStart => exact ⟨(([] : List (S33))), (0), (by first | rfl | (simp; done) | (simp [*]; done)), H', ⟨Nat.le_refl _⟩, ⟨by first | exact Kd.R_nil _ _ _ _ _ | exact Kd.N_nil _ _ _ _ _ | exact Kd.V_nil _ _ _ _ _ | exact Kd.Q_nil _ _ _ _ _ | exact Kd.S_nil _ _ _ _ _⟩, ⟨by repeat (first | (with_reducible first | exact HB.out | apply below_alloc | apply pw_below_drewN | apply below_drew1) | exact HB.out)⟩⟩
      case round =>
        clear H'
        try clear c2
        try clear p2
        try clear c3
        try clear c5
        try clear c5b0
        try clear c5b1
        try clear c6
        try clear c7
        obtain ⟨x5_1, x18_1, rfl, HA, HK1, HO_5, HB⟩ := hrel
        cases gk with
        | zero => exact absurd HA.out (by simp [wind_Arcs.l0])
        | succ k1 =>
          have H := HA.out
          clear HA
          simp only [wind_Arcs.l0] at H
          by_cases c8 : x18_1 < 32
          · rw [if_pos c8] at H
            have c8b0 : decide (x18_1 < 32) = true := decide_eq_true c8
            clear c8
            have HC9 := Aside0.mk H
            clear H
            go_upto_region 10 with (fail)
            go_cut [31] (fun v31 wc => ∃ (kq : Nat) (x31_8 : Bool), v31 = .bool x31_8 ∧ Aside0 (wind_Arcs.j1 kq ((a0) % 4294967296) x5_1 x18_1 x18_1 x31_8 = some (r1, r2)) ∧ Aside0 (kq ≤ k1) ∧ Aside0 (Kd.R k33 33 wc w.heap.size (fun _ => True) u5 x5_1) ∧ Aside0 (Below w.heap.size w wc))
            case first =>
              have H := HC9.out
              clear HC9
              replace H := Option.bind_eq_some_iff.mp H
              obtain ⟨t252, A100, H⟩ := H
              replace H : (if t252 = true then ((wind_modulo.f (wrap64 (x18_1 - 1))).bind fun t253 => ((wind_points_has.f ((a0) % 4294967296) t253).bind fun t254 => (wind_Arcs.j1 k1 ((a0) % 4294967296) x5_1 x18_1 x18_1 t254))) else (wind_Arcs.j1 k1 ((a0) % 4294967296) x5_1 x18_1 x18_1 true)) = some (r1, r2) := H
              have A10 := Aside0.mk A100
              clear A100
              by_cases c11 : t252 = true
              · subst c11
                have H1 : ((wind_modulo.f (wrap64 (x18_1 - 1))).bind fun t253 => ((wind_points_has.f ((a0) % 4294967296) t253).bind fun t254 => (wind_Arcs.j1 k1 ((a0) % 4294967296) x5_1 x18_1 x18_1 t254))) = some (r1, r2) := by rw [if_pos rfl] at H; exact H
                clear H
                have H := H1
                clear H1
                replace H := Option.bind_eq_some_iff.mp H
                obtain ⟨t253, A120, H⟩ := H
                replace H : ((wind_points_has.f ((a0) % 4294967296) t253).bind fun t254 => (wind_Arcs.j1 k1 ((a0) % 4294967296) x5_1 x18_1 x18_1 t254)) = some (r1, r2) := H
                have A12 := Aside0.mk A120
                clear A120
                replace H := Option.bind_eq_some_iff.mp H
                obtain ⟨t254, A130, H⟩ := H
                replace H : (wind_Arcs.j1 k1 ((a0) % 4294967296) x5_1 x18_1 x18_1 t254) = some (r1, r2) := H
                have A13 := Aside0.mk A130
                clear A130
                have H' := Aside0.mk H
                clear H
                go_wp2_with (first | ((with_reducible refine gate_callee (f := 69) rfl ?_); refine goesL_ (some 23) rfl rfl Tryd.func69 (by kernel_rfl) rfl #[.int .u32 ((a0) % 4294967296), .int .i64 x18_1] rfl (by (try simp only [List.map_toArray, List.map_cons, List.map_nil]); first | done | rfl | (simp only [List.length_drop, List.length_take]; rfl)) ?_; (with_reducible refine (wind_points_has.calls ((a0) % 4294967296) x18_1 true _ A10.out).mono ?_); rintro e w' ⟨rfl, ⟨nd, rfl⟩⟩; refine ⟨_, rfl, ?_⟩) | (go_at_call 64; (with_reducible refine (wind_modulo.calls (wrap64 (x18_1 - 1)) t253 _ A12.out).mono ?_); rintro e w' ⟨rfl, ⟨nd, rfl⟩⟩) | (go_at_call 69; (with_reducible refine (wind_points_has.calls ((a0) % 4294967296) t253 t254 _ A13.out).mono ?_); rintro e w' ⟨rfl, ⟨nd, rfl⟩⟩))
                go_meet
                case rel => exact ⟨_, (t254), (by first | rfl | (simp; done) | (simp [*]; done)), H', ⟨by have := HK1.out; first | omega | exact Nat.le_refl _⟩, ⟨by (with_reducible repeat (first | apply Kd.R_alloc | apply Kd.R_drewN | apply Kd.R_drew)); exact HO_5.out⟩, ⟨by repeat (first | (with_reducible first | exact HB.out | apply below_alloc | apply pw_below_drewN | apply below_drew1) | exact HB.out)⟩⟩
              · replace c11 := Bool.eq_false_iff.mpr c11
                subst c11
                have H1 : (wind_Arcs.j1 k1 ((a0) % 4294967296) x5_1 x18_1 x18_1 true) = some (r1, r2) := by rw [if_neg (show ¬ (false = true) by decide)] at H; exact H
                clear H
                have H := H1
                clear H1
                have H' := Aside0.mk H
                clear H
                go_wp2_with (first | ((with_reducible refine gate_callee (f := 69) rfl ?_); refine goesL_ (some 23) rfl rfl Tryd.func69 (by kernel_rfl) rfl #[.int .u32 ((a0) % 4294967296), .int .i64 x18_1] rfl (by (try simp only [List.map_toArray, List.map_cons, List.map_nil]); first | done | rfl | (simp only [List.length_drop, List.length_take]; rfl)) ?_; (with_reducible refine (wind_points_has.calls ((a0) % 4294967296) x18_1 false _ A10.out).mono ?_); rintro e w' ⟨rfl, ⟨nd, rfl⟩⟩; refine ⟨_, rfl, ?_⟩))
                go_meet
                case rel => exact ⟨_, (true), (by first | rfl | (simp; done) | (simp [*]; done)), H', ⟨by have := HK1.out; first | omega | exact Nat.le_refl _⟩, ⟨by (with_reducible repeat (first | apply Kd.R_alloc | apply Kd.R_drewN | apply Kd.R_drew)); exact HO_5.out⟩, ⟨by repeat (first | (with_reducible first | exact HB.out | apply below_alloc | apply pw_below_drewN | apply below_drew1) | exact HB.out)⟩⟩
            case rest =>
              clear HC9
              try clear c1
              try clear c2
              try clear p2
              try clear c3
              try clear c5
              try clear c5b0
              try clear c5b1
              try clear c6
              try clear p6
              try clear c7
              try clear c8
              try clear c8b0
              try clear c11
              try clear p2
              obtain ⟨kq, x31_8, rfl, HA, HJ8, HO_5, HB⟩ := hcut
              cases kq with
              | zero => exact absurd HA.out (by simp [wind_Arcs.j1])
              | succ kj8 =>
                have H := HA.out
                clear HA
                simp only [wind_Arcs.j1] at H
                by_cases c14 : x31_8 = true
                · subst c14
                  have H1 : (wind_Arcs.l0 kj8 ((a0) % 4294967296) x5_1 (wrap64 (x18_1 + 1))) = some (r1, r2) := by rw [if_pos rfl] at H; exact H
                  clear H
                  have H := H1
                  clear H1
                  have H' := Aside0.mk H
                  clear H
                  go_wp2
                  go_roundg kj8
                  case measure => have := HK1.out; have := HJ8.out; omega
                  case rel => exact ⟨(x5_1), (wrap64 (x18_1 + 1)), (by first | rfl | (simp; done) | (simp [*]; done)), H', ⟨by have := HK1.out; have := HJ8.out; omega⟩, ⟨by (with_reducible repeat (first | apply Kd.R_alloc | apply Kd.R_drewN | apply Kd.R_drew)); exact HO_5.out⟩, ⟨by repeat (first | (with_reducible first | exact HB.out | apply below_alloc | apply pw_below_drewN | apply below_drew1) | exact HB.out)⟩⟩
                · replace c14 := Bool.eq_false_iff.mpr c14
                  subst c14
                  have H1 : (wind_Arcs.l1 kj8 ((a0) % 4294967296) x5_1 x18_1 x18_1 x18_1 0) = some (r1, r2) := by rw [if_neg (show ¬ (false = true) by decide)] at H; exact H
                  clear H
                  have H := H1
                  clear H1
                  have H' := Aside0.mk H
                  clear H
                  go_wp2_with (first | ((with_reducible refine gate_dst (N := 7) rfl ?_); refine box_event ?hg (N := 7) ?hd (cs := #[.int .i64 0, .int .i64 0]) (t := 33) ?hr ?_; (case hd => rfl); (case hg => rfl); (case hr => first | (go_simp; done) | (go_simp; rfl)); intro gb255 hg w15 hbox hb; have n0_ := Aside0.mk (Kd.R_below (Kd.R_elderB (by (with_reducible repeat (first | apply Kd.R_alloc | apply Kd.R_drewN | apply Kd.R_drew)); exact HO_5.out) gb255 (Nat.le_of_eq hg.symm)) hb); have n1_ := Aside0.mk (below_step (by repeat (first | (with_reducible first | exact HB.out | apply below_alloc | apply pw_below_drewN | apply below_drew1) | exact HB.out)) hb); have n2_ := Aside0.mk (hbox); have n3_ := Aside0.mk ((by rw [hg]; exact (below_size (by repeat (first | (with_reducible first | exact HB.out | apply below_alloc | apply pw_below_drewN | apply below_drew1) | exact HB.out))) : w.heap.size ≤ gb255)); have n4_ := Aside0.mk ((by rw [hg]; exact (below_size (by repeat (first | (with_reducible first | exact HB.out | apply below_alloc | apply pw_below_drewN | apply below_drew1) | exact HB.out))) : w.heap.size ≤ gb255)); clear HO_5; clear HB; have HO_5 := n0_; have HB := n1_; have BK255 := n2_; have GW255 := n3_; have GE255 := n4_; clear n0_ n1_ n2_ n3_ n4_; clear hb hbox hg; have hcz16_0 : w15.cell? ⟨gb255, 0, none⟩ = some (.int .i64 0) := (blk_cell BK255.out 0).trans rfl; have hcz16_1 : w15.cell? ⟨gb255, 1, none⟩ = some (.int .i64 0) := (blk_cell BK255.out 1).trans rfl; have hfz16_0 := blk_frozen BK255.out 0; have hfz16_1 := blk_frozen BK255.out 1))
                  go_loopg [] kj8 (fun kq w' => ∃ (x256001_3 : Int), Aside0 (wind_Arcs.l1 kq ((a0) % 4294967296) x5_1 x18_1 x18_1 x18_1 x256001_3 = some (r1, r2)) ∧ Aside0 (kq ≤ kj8) ∧ Aside0 (Kd.R k33 33 w' w.heap.size (fun k_ => k_ ≠ gb255) u5 x5_1) ∧ Aside0 (w'.heap[gb255]? = some (.cells #[.int .i64 x18_1, .int .i64 x256001_3] 33 (0, 0))) ∧ Aside0 (Below w.heap.size w w'))
                  case atStart => exact ⟨(0), H', ⟨Nat.le_refl _⟩, ⟨by (with_reducible repeat (first | apply Kd.R_alloc | apply Kd.R_drewN | apply Kd.R_drew)); exact Kd.R_mono (Kd.R_far (p := ⟨gb255, 1, none⟩) (Kd.R_far (p := ⟨gb255, 0, none⟩) (Kd.R_mono HO_5.out (fun k_ hk => (⟨hk, hk.2⟩ : _ ∧ k_ ≠ gb255))) (fun _ hk => hk.2) (.int .i64 x18_1)) (fun _ hk => hk.2) (.int .i64 0)) (fun _ hk => hk.1.2)⟩, ⟨by (with_reducible repeat (first | refine blk_drewN ?_ _ | refine blk_drew ?_ | refine blk_alloc ?_ _)); refine blk_put (cs := #[.int .i64 x18_1, .int .i64 0]) ?_ 1 _ rfl; (with_reducible repeat (first | refine blk_drewN ?_ _ | refine blk_drew ?_ | refine blk_alloc ?_ _)); refine blk_put (cs := #[.int .i64 0, .int .i64 0]) ?_ 0 _ rfl; (with_reducible repeat (first | refine blk_drewN ?_ _ | refine blk_drew ?_ | refine blk_alloc ?_ _)); exact BK255.out⟩, ⟨by repeat (first | (with_reducible first | exact HB.out | apply below_alloc | apply pw_below_drewN | apply below_drew1 | refine below_set ?_ GE255.out) | exact HB.out)⟩⟩
                  case round =>
                    clear H'
                    try clear c1
                    try clear c2
                    try clear p2
                    try clear c3
                    try clear c5
                    try clear c5b0
                    try clear c5b1
                    try clear c6
                    try clear p6
                    try clear c7
                    try clear c8
                    try clear c8b0
                    try clear c11
                    try clear c14
                    try clear hcz16_0
                    try clear hcz16_1
                    try clear hfz16_0
                    try clear hfz16_1
                    try clear p2
                    try clear p6
                    obtain ⟨x256001_3, HA, HK3, HO_5, BK255, HB⟩ := hrel
                    cases gk with
                    | zero => exact absurd HA.out (by simp [wind_Arcs.l1])
                    | succ k3 =>
                      have H := HA.out
                      clear HA
                      simp only [wind_Arcs.l1] at H
                      replace H := Option.bind_eq_some_iff.mp H
                      obtain ⟨t256, A170, H⟩ := H
                      replace H : ((wind_points_has.f ((a0) % 4294967296) t256).bind fun t257 => (if t257 = true then (wind_Arcs.l1 k3 ((a0) % 4294967296) x5_1 x18_1 x18_1 x18_1 (wrap64 (x256001_3 + 1))) else (if x5_1.length < 8796093022208 then (wind_Arcs.l0 k3 ((a0) % 4294967296) (x5_1 ++ [(⟨x18_1, x256001_3⟩ : S33)]) (wrap64 (x18_1 + 1))) else (none)))) = some (r1, r2) := H
                      have A17 := Aside0.mk A170
                      clear A170
                      replace H := Option.bind_eq_some_iff.mp H
                      obtain ⟨t257, A180, H⟩ := H
                      replace H : (if t257 = true then (wind_Arcs.l1 k3 ((a0) % 4294967296) x5_1 x18_1 x18_1 x18_1 (wrap64 (x256001_3 + 1))) else (if x5_1.length < 8796093022208 then (wind_Arcs.l0 k3 ((a0) % 4294967296) (x5_1 ++ [(⟨x18_1, x256001_3⟩ : S33)]) (wrap64 (x18_1 + 1))) else (none))) = some (r1, r2) := H
                      have A18 := Aside0.mk A180
                      clear A180
                      by_cases c19 : t257 = true
                      · subst c19
                        have H1 : (wind_Arcs.l1 k3 ((a0) % 4294967296) x5_1 x18_1 x18_1 x18_1 (wrap64 (x256001_3 + 1))) = some (r1, r2) := by rw [if_pos rfl] at H; exact H
                        clear H
                        have H := H1
                        clear H1
                        have H' := Aside0.mk H
                        clear H
                        have hcz20_0 : wr.cell? ⟨gb255, 0, none⟩ = some (.int .i64 x18_1) := (blk_cell BK255.out 0).trans rfl
                        have hcz20_1 : wr.cell? ⟨gb255, 1, none⟩ = some (.int .i64 x256001_3) := (blk_cell BK255.out 1).trans rfl
                        have hfz20_0 := blk_frozen BK255.out 0
                        have hfz20_1 := blk_frozen BK255.out 1
                        go_wp2_with (first | ((with_reducible refine gate_callee (f := 64) rfl ?_); refine goesL_ (some 39) rfl rfl Tryd.func64 (by kernel_rfl) rfl #[.int .i64 (wrap64 (x18_1 + x256001_3))] rfl (by (try simp only [List.map_toArray, List.map_cons, List.map_nil]); first | done | rfl | (simp only [List.length_drop, List.length_take]; rfl)) ?_; (with_reducible refine (wind_modulo.calls (wrap64 (x18_1 + x256001_3)) t256 _ A17.out).mono ?_); rintro e w' ⟨rfl, ⟨nd, rfl⟩⟩; refine ⟨_, rfl, ?_⟩; (try (rw [drewN_self wr]; generalize hq_ : World.drewN wr _ = wr; have n0_ : Aside0 (Kd.R k33 33 wr w.heap.size (fun k_ => k_ ≠ gb255) u5 x5_1) := ⟨by rw [← hq_]; exact (by (with_reducible repeat (first | apply Kd.R_alloc | apply Kd.R_drewN | apply Kd.R_drew)); exact HO_5.out)⟩; have n1_ : Aside0 (wr.heap[gb255]? = some (.cells #[.int .i64 x18_1, .int .i64 x256001_3] 33 (0, 0))) := ⟨by rw [← hq_]; exact (by (with_reducible repeat (first | refine blk_drewN ?_ _ | refine blk_drew ?_ | refine blk_alloc ?_ _)); exact BK255.out)⟩; have n2_ : Aside0 (Below w.heap.size w wr) := ⟨by rw [← hq_]; exact (by repeat (first | (with_reducible first | exact HB.out | apply below_alloc | apply pw_below_drewN | apply below_drew1 | refine below_set ?_ GE255.out) | exact HB.out))⟩; clear HO_5 BK255 HB hq_; have HO_5 := n0_; have BK255 := n1_; have HB := n2_; clear n0_ n1_ n2_; have hcy0_ : wr.cell? ⟨gb255, 0, none⟩ = some (.int .i64 x18_1) := (blk_cell BK255.out 0).trans rfl; have hcy1_ : wr.cell? ⟨gb255, 1, none⟩ = some (.int .i64 x256001_3) := (blk_cell BK255.out 1).trans rfl; have hfy0_ := blk_frozen BK255.out 0; have hfy1_ := blk_frozen BK255.out 1))) | ((with_reducible refine gate_callee (f := 69) rfl ?_); refine goesL_ (some 40) rfl rfl Tryd.func69 (by kernel_rfl) rfl #[.int .u32 ((a0) % 4294967296), .int .i64 t256] rfl (by (try simp only [List.map_toArray, List.map_cons, List.map_nil]); first | done | rfl | (simp only [List.length_drop, List.length_take]; rfl)) ?_; (with_reducible refine (wind_points_has.calls ((a0) % 4294967296) t256 true _ A18.out).mono ?_); rintro e w' ⟨rfl, ⟨nd, rfl⟩⟩; refine ⟨_, rfl, ?_⟩; (try (rw [drewN_self wr]; generalize hq_ : World.drewN wr _ = wr; have n0_ : Aside0 (Kd.R k33 33 wr w.heap.size (fun k_ => k_ ≠ gb255) u5 x5_1) := ⟨by rw [← hq_]; exact (by (with_reducible repeat (first | apply Kd.R_alloc | apply Kd.R_drewN | apply Kd.R_drew)); exact HO_5.out)⟩; have n1_ : Aside0 (wr.heap[gb255]? = some (.cells #[.int .i64 x18_1, .int .i64 x256001_3] 33 (0, 0))) := ⟨by rw [← hq_]; exact (by (with_reducible repeat (first | refine blk_drewN ?_ _ | refine blk_drew ?_ | refine blk_alloc ?_ _)); exact BK255.out)⟩; have n2_ : Aside0 (Below w.heap.size w wr) := ⟨by rw [← hq_]; exact (by repeat (first | (with_reducible first | exact HB.out | apply below_alloc | apply pw_below_drewN | apply below_drew1 | refine below_set ?_ GE255.out) | exact HB.out))⟩; clear HO_5 BK255 HB hq_; have HO_5 := n0_; have BK255 := n1_; have HB := n2_; clear n0_ n1_ n2_; have hcy0_ : wr.cell? ⟨gb255, 0, none⟩ = some (.int .i64 x18_1) := (blk_cell BK255.out 0).trans rfl; have hcy1_ : wr.cell? ⟨gb255, 1, none⟩ = some (.int .i64 x256001_3) := (blk_cell BK255.out 1).trans rfl; have hfy0_ := blk_frozen BK255.out 0; have hfy1_ := blk_frozen BK255.out 1))))
                        go_roundg k3
                        case measure => have := HK1.out; have := HJ8.out; have := HK3.out; omega
                        case rel => exact ⟨(wrap64 (x256001_3 + 1)), H', ⟨by have := HK1.out; have := HJ8.out; have := HK3.out; omega⟩, ⟨by (with_reducible repeat (first | apply Kd.R_alloc | apply Kd.R_drewN | apply Kd.R_drew)); exact Kd.R_mono (Kd.R_far (p := ⟨gb255, 1, none⟩) (Kd.R_mono HO_5.out (fun k_ hk => (⟨hk, hk⟩ : _ ∧ k_ ≠ gb255))) (fun _ hk => hk.2) (.int .i64 (wrap64 (x256001_3 + 1)))) (fun _ hk => hk.1)⟩, ⟨by (with_reducible repeat (first | refine blk_drewN ?_ _ | refine blk_drew ?_ | refine blk_alloc ?_ _)); refine blk_put (cs := #[.int .i64 x18_1, .int .i64 x256001_3]) ?_ 1 _ rfl; (with_reducible repeat (first | refine blk_drewN ?_ _ | refine blk_drew ?_ | refine blk_alloc ?_ _)); exact BK255.out⟩, ⟨by repeat (first | (with_reducible first | exact HB.out | apply below_alloc | apply pw_below_drewN | apply below_drew1 | refine below_set ?_ GE255.out) | exact HB.out)⟩⟩
                      · replace c19 := Bool.eq_false_iff.mpr c19
                        subst c19
                        have H1 : (if x5_1.length < 8796093022208 then (wind_Arcs.l0 k3 ((a0) % 4294967296) (x5_1 ++ [(⟨x18_1, x256001_3⟩ : S33)]) (wrap64 (x18_1 + 1))) else (none)) = some (r1, r2) := by rw [if_neg (show ¬ (false = true) by decide)] at H; exact H
                        clear H
                        have H := H1
                        clear H1
                        by_cases c21 : x5_1.length < 8796093022208
                        · rw [if_pos c21] at H
                          have LMc21 := Aside0.mk c21
                          clear c21
                          obtain ⟨y258, hy258⟩ : ∃ y_ : List (S33), y_ = (x5_1 ++ [(⟨x18_1, x256001_3⟩ : S33)]) := ⟨_, rfl⟩
                          replace H : (wind_Arcs.l0 k3 ((a0) % 4294967296) y258 (wrap64 (x18_1 + 1))) = some (r1, r2) := by first | (rw [hy258]; with_reducible exact H) | (have H2_ := (Option.bind_some _ _).symm.trans H; rw [hy258]; with_reducible exact H2_) | (have H2_ := (Option.bind_some _ _).symm.trans H; with_reducible exact H2_) | with_reducible exact H | (rw [hy258]; exact H) | exact H
                          have Ny258 := Aside0.mk hy258
                          clear hy258
                          have H' := Aside0.mk H
                          clear H
                          have hcz22_0 : wr.cell? ⟨gb255, 0, none⟩ = some (.int .i64 x18_1) := (blk_cell BK255.out 0).trans rfl
                          have hcz22_1 : wr.cell? ⟨gb255, 1, none⟩ = some (.int .i64 x256001_3) := (blk_cell BK255.out 1).trans rfl
                          have hfz22_0 := blk_frozen BK255.out 0
                          have hfz22_1 := blk_frozen BK255.out 1
                          go_wp2_with (first | ((with_reducible refine gate_callee (f := 64) rfl ?_); refine goesL_ (some 39) rfl rfl Tryd.func64 (by kernel_rfl) rfl #[.int .i64 (wrap64 (x18_1 + x256001_3))] rfl (by (try simp only [List.map_toArray, List.map_cons, List.map_nil]); first | done | rfl | (simp only [List.length_drop, List.length_take]; rfl)) ?_; (with_reducible refine (wind_modulo.calls (wrap64 (x18_1 + x256001_3)) t256 _ A17.out).mono ?_); rintro e w' ⟨rfl, ⟨nd, rfl⟩⟩; refine ⟨_, rfl, ?_⟩) | ((with_reducible refine gate_callee (f := 69) rfl ?_); refine goesL_ (some 40) rfl rfl Tryd.func69 (by kernel_rfl) rfl #[.int .u32 ((a0) % 4294967296), .int .i64 t256] rfl (by (try simp only [List.map_toArray, List.map_cons, List.map_nil]); first | done | rfl | (simp only [List.length_drop, List.length_take]; rfl)) ?_; (with_reducible refine (wind_points_has.calls ((a0) % 4294967296) t256 false _ A18.out).mono ?_); rintro e w' ⟨rfl, ⟨nd, rfl⟩⟩; refine ⟨_, rfl, ?_⟩) | ((with_reducible refine gate_builtin (b := .append) (xs := #[.tmp 45, .tmp 47]) rfl ?_); at_builtin; refine Kd.R_append k33 (w0 := w) w.heap.size rfl (.tmp 45) (.tmp 47) 36 33 (.agg #[(.int .i64 0), (.int .i64 0)]) 16 rfl Tryd.underlying36 info33 rfl (by decide) (by omega) u5 x5_1 (⟨x18_1, x256001_3⟩ : S33) [.int .i64 x18_1, .int .i64 x256001_3] (fun k_ => k_ ≠ gb255) (fun _ => False) rfl rfl ?aP (fun _ hk => hk.elim) ?aF ?aO ?aB ?aS ?aL ?_; (case aP => exact k33_mkM _ _ _ (⟨x18_1, x256001_3⟩ : S33)); (case aB => exact (by repeat (first | (with_reducible first | exact HB.out | apply below_alloc | apply pw_below_drewN | apply below_drew1 | refine below_set ?_ GE255.out) | exact HB.out))); (case aF => exact (fun k_ hk => Kd.freshB (g := gb255) (o := .cells #[.int .i64 x18_1, .int .i64 x256001_3] 33 (0, 0)) (by (with_reducible repeat (first | refine blk_drewN ?_ _ | refine blk_drew ?_ | refine blk_alloc ?_ _)); exact BK255.out) k_ hk)); (case aO => exact (by (with_reducible repeat (first | apply Kd.R_alloc | apply Kd.R_drewN | apply Kd.R_drew)); exact HO_5.out)); (case aS => exact (below_size (by repeat (first | (with_reducible first | exact HB.out | apply below_alloc | apply pw_below_drewN | apply below_drew1 | refine below_set ?_ GE255.out) | exact HB.out)))); (case aL => have := LMc21.out; omega); intro v259 w23 ho hb hg hat; rw [← Ny258.out] at ho; have n0_ := Aside0.mk (blk_grown (g := gb255) (o := .cells #[.int .i64 x18_1, .int .i64 x256001_3] 33 (0, 0)) (by (with_reducible repeat (first | refine blk_drewN ?_ _ | refine blk_drew ?_ | refine blk_alloc ?_ _)); exact BK255.out) hg (Kd.R_away HO_5.out (fun _ hk => hk))); have n1_ := Aside0.mk (hb); have n2_ := Aside0.mk (ho); clear BK255; clear HB; clear HO_5; have BK255 := n0_; have HB := n1_; have HO260 := n2_; clear n0_ n1_ n2_; clear ho hb hg hat))
                          go_roundg k3
                          case measure => have := HK1.out; have := HJ8.out; have := HK3.out; omega
                          case rel => exact ⟨(y258), (wrap64 (x18_1 + 1)), (by first | rfl | (simp; done) | (simp [*]; done)), H', ⟨by have := HK1.out; have := HJ8.out; have := HK3.out; omega⟩, ⟨by (with_reducible repeat (first | apply Kd.R_alloc | apply Kd.R_drewN | apply Kd.R_drew)); exact Kd.R_mono HO260.out (fun _ hk => trivial)⟩, ⟨by repeat (first | (with_reducible first | exact HB.out | apply below_alloc | apply pw_below_drewN | apply below_drew1 | refine below_set ?_ GE255.out) | exact HB.out)⟩⟩
                        · rw [if_neg c21] at H
                          exact absurd H (by simp)
          · rw [if_neg c8] at H
            have c8b0 : decide (x18_1 < 32) = false := decide_eq_false c8
            clear c8
            simp only [Option.some.injEq, Prod.mk.injEq] at H
            obtain ⟨rfl, rfl⟩ := H
            go_wp2
            go_ret2
            exact ⟨_, by first | rfl | (simp [errW_none, errW_some] <;> rfl) | (simp [*, errW_none, errW_some] <;> rfl), by (with_reducible repeat (first | apply Kd.R_alloc | apply Kd.R_drewN | apply Kd.R_drew)); exact HO_5.out, by repeat (first | (with_reducible first | exact HB.out | apply below_alloc | apply pw_below_drewN | apply below_drew1) | exact HB.out)⟩
  · replace c3 := Bool.eq_false_iff.mpr c3
    subst c3
    have H1 : (some (([] : List (S33)), 1)) = some (r1, r2) := by rw [if_neg (show ¬ (false = true) by decide)] at H; exact H
    clear H
    have H := H1
    clear H1
    simp only [Option.some.injEq, Prod.mk.injEq] at H
    obtain ⟨rfl, rfl⟩ := H
    go_enter Tryd.func29, Tryd.ntmps29
    go_wp2_with (first | ((with_reducible refine gate_callee (f := 62) rfl ?_); refine goesL_ (some 9) rfl rfl Tryd.func62 (by kernel_rfl) rfl #[.int .i64 a0] rfl (by (try simp only [List.map_toArray, List.map_cons, List.map_nil]); first | done | rfl | (simp only [List.length_drop, List.length_take]; rfl)) ?_; (with_reducible refine (wind_isSet.calls a0 false _ A2.out).mono ?_); rintro e w' ⟨rfl, ⟨nd, rfl⟩⟩; refine ⟨_, rfl, ?_⟩))
    go_ret2
    exact ⟨_, by first | rfl | (simp [errW_none, errW_some] <;> rfl) | (simp [*, errW_none, errW_some] <;> rfl), by first | exact Kd.R_nil _ _ _ _ _ | exact Kd.N_nil _ _ _ _ _ | exact Kd.V_nil _ _ _ _ _ | exact Kd.Q_nil _ _ _ _ _ | exact Kd.S_nil _ _ _ _ _, by repeat (first | (with_reducible first | exact HB.out | apply below_alloc | apply pw_below_drewN | apply below_drew1) | exact HB.out)⟩

/-! ### wigeonref03_SameArcs: function 30 -/
def wigeonref03_SameArcs.l0 : Nat → List (S33) → List (S33) → Int → Option (Bool)
  | 0, _, _, _ => none
  | k + 1, x0, x1, x5 => if x5 < (x0.length : Int) then (if 0 ≤ x5 then (if x5 < (x1.length : Int) then (if (!(((rd_T33 x0 x5).f0) == ((rd_T33 x1 x5).f0)) || (!(((rd_T33 x0 x5).f1) == ((rd_T33 x1 x5).f1)))) = true then (some false) else (wigeonref03_SameArcs.l0 k x0 x1 (wrap64 (x5 + 1)))) else (none)) else (none)) else (some true)
def wigeonref03_SameArcs.f (k : Nat) (l0 : List (S33)) (l1 : List (S33)) : Option (Bool) := if (l0.length : Int) = (l1.length : Int) then (wigeonref03_SameArcs.l0 k l0 l1 0) else (some false)
theorem wigeonref03_SameArcs.mono_l : ∀ k, (∀ y0 y1 y2, LeO (wigeonref03_SameArcs.l0 k y0 y1 y2) (wigeonref03_SameArcs.l0 (k + 1) y0 y1 y2))
  | 0 => fun _ _ _ r h => by simp [wigeonref03_SameArcs.l0] at h
  | k + 1 => by
    have ih0 := wigeonref03_SameArcs.mono_l k
    · intro y0 y1 y2
      unfold wigeonref03_SameArcs.l0
      repeat' first
      | (with_reducible exact ih0 _ _ _)
      | (with_reducible exact LeO.refl _)
      | (with_reducible exact LeO.none _)
      | (with_reducible refine LeO.ite ?_ ?_)
      | (with_reducible refine LeO.bind ?_ (fun _ => ?_))
      | exact ih0 _ _ _
      | exact LeO.none _
      | refine LeO.ite ?_ ?_
      | refine LeO.bind ?_ (fun _ => ?_)
theorem wigeonref03_SameArcs.mono : ∀ a0 a1 k, LeO (wigeonref03_SameArcs.f k a0 a1) (wigeonref03_SameArcs.f (k + 1) a0 a1) := by
  intro a0 a1 k
  have ih0 := wigeonref03_SameArcs.mono_l k
  unfold wigeonref03_SameArcs.f
  repeat' first
      | (with_reducible exact ih0 _ _ _)
      | (with_reducible exact LeO.refl _)
      | (with_reducible exact LeO.none _)
      | (with_reducible refine LeO.ite ?_ ?_)
      | (with_reducible refine LeO.bind ?_ (fun _ => ?_))
      | exact ih0 _ _ _
      | exact LeO.none _
      | refine LeO.ite ?_ ?_
      | refine LeO.bind ?_ (fun _ => ?_)
set_option maxHeartbeats 8000000 in
set_option maxRecDepth 100000 in
theorem wigeonref03_SameArcs.calls (k : Nat) (A0 : Option Addr) (c0 : Nat) (l0 : List (S33)) (A1 : Option Addr) (c1 : Nat) (l1 : List (S33)) (r : Bool) (w : World) (hr0 : Kd.C k33 w A0 l0.length l0) (hc0 : l0.length ≤ c0) (hr1 : Kd.C k33 w A1 l1.length l1) (hc1 : l1.length ≤ c1) (h : wigeonref03_SameArcs.f k l0 l1 = some r) :
    Calls Tryd.prog 30 #[.slice A0 l0.length c0, .slice A1 l1.length c1] w fun e w' => e = .returned (.bool r) ∧ Drawn0 w w' := by
  have hu33 := Tryd.underlying33
  have HR0 := Aside0.mk hr0
  have HC0 := Aside0.mk hc0
  clear hr0 hc0
  have HR1 := Aside0.mk hr1
  have HC1 := Aside0.mk hc1
  clear hr1 hc1
  have H : (if (l0.length : Int) = (l1.length : Int) then (wigeonref03_SameArcs.l0 k l0 l1 0) else (some false)) = some r := h
  clear h
  by_cases c3 : (l0.length : Int) = (l1.length : Int)
  · rw [if_pos c3] at H
    have c3b0 : ((l0.length : Int) == (l1.length : Int)) = true := beq_iff_eq.mpr c3
    have c3b1 : ((l0.length : Int) != (l1.length : Int)) = false := bne_eq_false_iff_eq.mpr c3
    have c3b2 : (l0.length == l1.length) = true := by first | simpa using c3 | (simp at c3 ⊢; omega)
    clear c3
    have H' := Aside0.mk H
    clear H
    go_enter Tryd.func30, Tryd.ntmps30
    go_wp2
    repeat (go_quiet (fail); try go_wp2)
    go_loopg [5] k (fun kq v5 w' => ∃ (x5_1 : Int), v5 = .int .i64 x5_1 ∧ Aside0 (wigeonref03_SameArcs.l0 kq l0 l1 x5_1 = some r) ∧ Aside0 (kq ≤ k) ∧ Drawn0 w w')
    case atStart => exact ⟨(0), (by first | rfl | (simp; done) | (simp [*]; done)), H', ⟨Nat.le_refl _⟩, by repeat (first | exact Drawn0.refl _ | apply Drawn0.step)⟩
    case round =>
      clear H'
      try clear c1
      try clear p2
      try clear c3
      try clear c3b0
      try clear c3b1
      try clear c3b2
      obtain ⟨x5_1, rfl, HA, HK1, ⟨m1, rfl⟩⟩ := hrel
      cases gk with
      | zero => exact absurd HA.out (by simp [wigeonref03_SameArcs.l0])
      | succ k1 =>
        have H := HA.out
        clear HA
        simp only [wigeonref03_SameArcs.l0] at H
        by_cases c4 : x5_1 < (l0.length : Int)
        · rw [if_pos c4] at H
          have c4b0 : decide (x5_1 < (l0.length : Int)) = true := decide_eq_true c4
          clear c4
          by_cases c5 : 0 ≤ x5_1
          · rw [if_pos c5] at H
            have c5b0 : decide (0 ≤ x5_1) = true := decide_eq_true c5
            clear c5
            by_cases c6 : x5_1 < (l1.length : Int)
            · rw [if_pos c6] at H
              have c6b0 : decide (x5_1 < (l1.length : Int)) = true := decide_eq_true c6
              clear c6
              by_cases c7 : (!(((rd_T33 l0 x5_1).f0) == ((rd_T33 l1 x5_1).f0)) || (!(((rd_T33 l0 x5_1).f1) == ((rd_T33 l1 x5_1).f1)))) = true
              · rw [if_pos c7] at H
                have c7b0 : (!(((rd_T33 l0 x5_1).f0) == ((rd_T33 l1 x5_1).f0)) || (!(((rd_T33 l0 x5_1).f1) == ((rd_T33 l1 x5_1).f1)))) = true := c7
                clear c7
                obtain rfl := Option.some.inj H
                have p261 : 0 ≤ (x5_1 : Int) := of_decide_eq_true (by first | (with_reducible assumption) | assumption)
                have q261 : x5_1 < (l0.length : Int) := of_decide_eq_true (by first | (with_reducible assumption) | assumption)
                obtain ⟨ad261, e261, hx261_0, hx261_1⟩ := at_T33 HR0.out x5_1 p261 q261
                cases e261
                replace p261 := eq_true p261
                replace q261 := eq_true q261
                have p262 : 0 ≤ (x5_1 : Int) := of_decide_eq_true (by first | (with_reducible assumption) | assumption)
                have q262 : x5_1 < (l1.length : Int) := of_decide_eq_true (by first | (with_reducible assumption) | assumption)
                obtain ⟨ad262, e262, hx262_0, hx262_1⟩ := at_T33 HR1.out x5_1 p262 q262
                cases e262
                replace p262 := eq_true p262
                replace q262 := eq_true q262
                go_wp2
                repeat (go_quiet (fail); try go_wp2)
                go_ret
                exact ⟨by first | rfl | (simp; done) | (simp [*]; done), by repeat (first | exact Drawn0.refl _ | apply Drawn0.step)⟩
              · rw [if_neg c7] at H
                have c7b0 : (!(((rd_T33 l0 x5_1).f0) == ((rd_T33 l1 x5_1).f0)) || (!(((rd_T33 l0 x5_1).f1) == ((rd_T33 l1 x5_1).f1)))) = false := by simpa using c7
                clear c7
                have H' := Aside0.mk H
                clear H
                have p261 : 0 ≤ (x5_1 : Int) := of_decide_eq_true (by first | (with_reducible assumption) | assumption)
                have q261 : x5_1 < (l0.length : Int) := of_decide_eq_true (by first | (with_reducible assumption) | assumption)
                obtain ⟨ad261, e261, hx261_0, hx261_1⟩ := at_T33 HR0.out x5_1 p261 q261
                cases e261
                replace p261 := eq_true p261
                replace q261 := eq_true q261
                have p262 : 0 ≤ (x5_1 : Int) := of_decide_eq_true (by first | (with_reducible assumption) | assumption)
                have q262 : x5_1 < (l1.length : Int) := of_decide_eq_true (by first | (with_reducible assumption) | assumption)
                obtain ⟨ad262, e262, hx262_0, hx262_1⟩ := at_T33 HR1.out x5_1 p262 q262
                cases e262
                replace p262 := eq_true p262
                replace q262 := eq_true q262
                go_wp2
                repeat (go_quiet (fail); try go_wp2)
                go_roundg k1
                case measure => have := HK1.out; omega
                case rel => exact ⟨(wrap64 (x5_1 + 1)), (by first | rfl | (simp; done) | (simp [*]; done)), H', ⟨by have := HK1.out; omega⟩, by repeat (first | exact Drawn0.refl _ | apply Drawn0.step)⟩
            · rw [if_neg c6] at H
              exact absurd H (by simp)
          · rw [if_neg c5] at H
            exact absurd H (by simp)
        · rw [if_neg c4] at H
          have c4b0 : decide (x5_1 < (l0.length : Int)) = false := decide_eq_false c4
          clear c4
          obtain rfl := Option.some.inj H
          go_wp2
          repeat (go_quiet (fail); try go_wp2)
          go_ret
          exact ⟨by first | rfl | (simp; done) | (simp [*]; done), by repeat (first | exact Drawn0.refl _ | apply Drawn0.step)⟩
  · rw [if_neg c3] at H
    have c3b0 : ((l0.length : Int) == (l1.length : Int)) = false := beq_eq_false_iff_ne.mpr c3
    have c3b1 : ((l0.length : Int) != (l1.length : Int)) = true := bne_iff_ne.mpr c3
    have c3b2 : (l0.length == l1.length) = false := by first | simpa using c3 | (simp at c3 ⊢; omega)
    obtain rfl := Option.some.inj H
    go_enter Tryd.func30, Tryd.ntmps30
    go_wp2
    repeat (go_quiet (fail); try go_wp2)
    go_ret
    exact ⟨by first | rfl | (simp; done) | (simp [*]; done), by repeat (first | exact Drawn0.refl _ | apply Drawn0.step)⟩

end Go.Proofs.YthihlapmkcelpaaDoor.Q
