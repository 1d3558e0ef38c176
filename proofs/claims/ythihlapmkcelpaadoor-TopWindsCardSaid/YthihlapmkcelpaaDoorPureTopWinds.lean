/- The law TopWinds, as a statement on lists alone: pipes cover all winds or leave some in the lee, the fewest that cover are at least as many as the winds that are apart, all turns with the compass, and a day's winds that go round come back. For all lists and numbers of 64 bits. -/
import Derived.Test.YthihlapmkcelpaaDoorQx0
import Derived.Test.YthihlapmkcelpaaDoorQx2
import Derived.Test.YthihlapmkcelpaaDoorQx7
import Derived.Test.YthihlapmkcelpaaDoorQx25
import Derived.Test.YthihlapmkcelpaaDoorLibZt
namespace Go.Proofs.YthihlapmkcelpaaDoor.Pure
open Go.RowKit Go.Proofs.YthihlapmkcelpaaDoor.Q Go.Proofs.YthihlapmkcelpaaDoorW.PrintWords Go.Proofs.YthihlapmkcelpaaDoorW.PrintLast Go.Proofs.YthihlapmkcelpaaDoorW.PrintMore

theorem top_end (l1 : List Int) (h59 : ¬ (l1.length : Int) > 59) : Ev (fun k => wigeontop_TopWinds.j6 k l1 false) true := by
  refine Ev.step (fun k => by rw [wigeontop_TopWinds.j6]) ?_
  refine Ev.ifn (by decide) (Ev.bindc (show wind_Veer.f l1 = some (veerP l1) from rfl) ?_)
  by_cases hv : (veerP l1).2 = 0
  · refine Ev.ifp hv ?_
    by_cases h0 : l1.length = 0
    · exact Ev.ifp (by omega) (Ev.now _)
    · obtain ⟨n, c, h1, h2, h3⟩ := veer_round hv h0
      have e : wrap64 ((l1.length : Int) - 1) = ((l1.length - 1 : Nat) : Int) := by rw [w64 (by omega) (by omega)]; omega
      rw [e, h1]
      refine Ev.ifn (by omega) (Ev.ifp (by omega) (Ev.ifp (by omega) (Ev.ifp (by omega) (Ev.bindc ((across_val _ _).trans (congrArg some h2)) (Ev.ifp rfl (Ev.val ?_))))))
      rw [h3]
      rfl
  · exact Ev.ifn hv (Ev.now _)
theorem top_loop (l0 : List S33) (l1 : List Int) (h59 : ¬ (l1.length : Int) > 59) (h0 : pipesErr l0 = 0) (y : Nat) (hy : y < 32) (d : Nat) : ∀ i : Nat, i + d = l0.length →
    Ev (fun k => wigeontop_TopWinds.l0 k l0 l1 (y : Int) ((leeN l0 : Nat) : Int) (apartL l0) (turnL l0 y i) (i : Int)) true := by
  have h : PipesOk l0 := pipes_ok h0
  have hl := h.1
  induction d with
  | zero =>
    intro i hi
    obtain rfl : i = l0.length := by omega
    refine Ev.step (fun k => by rw [wigeontop_TopWinds.l0]) ?_
    have hp := turn_pipes h0 y
    refine Ev.ifn (by omega) (Ev.bind (lee_ev _) (Ev.bindc (turn_mask (leeF l0) hy) (Ev.bind (apart_ev _) ?_)))
    rw [show leeP (turnL l0 y l0.length) = (((leeN (turnL l0 y l0.length) : Nat) : Int), 0) from if_pos hp, show apartR (turnL l0 y l0.length) = (apartL (turnL l0 y l0.length), 0) from if_pos hp]
    refine Ev.ifp rfl (Ev.ifp rfl (Ev.ifp rfl (Ev.ifp ?_ ?_)))
    · show ((leeN (turnL l0 y l0.length) : Nat) : Int) = _
      rw [lee_turn h hy]
    · have e := apart_same hy (turn_rel h hy)
      rw [show (((apartL (turnL l0 y l0.length)).length : Int) != ((apartL l0).length : Int)) = false by rw [e]; simp]
      exact top_end l1 h59
  | succ d ih =>
    intro i hi
    refine Ev.step (fun k => by rw [wigeontop_TopWinds.l0]) ?_
    have hok := h.at (i := i) (by omega)
    obtain ⟨g1, g2, g3, g4⟩ := okA_pos hok
    have ht := turnL_len l0 y i (by omega)
    have e1 : Int.tmod (wrap64 ((atA l0 i).f0 + (y : Int))) 32 = ((atA l0 i).f0 + (y : Int)) % 32 := by
      rw [w64 (by omega) (by omega), Int.tmod_eq_emod_of_nonneg (by omega)]
    refine Ev.ifp (by omega) (Ev.ifp (by omega) (Ev.ifp (by omega) ?_))
    rw [rdA, e1, w64 (n := (i : Int) + 1) (by omega) (by omega), show ((i : Int) + 1) = ((i + 1 : Nat) : Int) by omega]
    have hp2 : wind_Points.f (((atA l0 i).f0 + (y : Int)) % 32) (atA l0 i).f1 = some (((maskN (inA (turnA1 y (atA l0 i))) 32 : Nat) : Int), 0) := points_mask (turn_ok hok y)
    refine Ev.bindc (points_mask hok) (Ev.bindc hp2 (Ev.bindc (turn_mask (inA (atA l0 i)) hy) (Ev.ifp rfl (Ev.ifp rfl (Ev.ifp rfl (Ev.ifp ?_ ?_))))))
    · show ((maskN (inA (turnA1 y (atA l0 i))) 32 : Nat) : Int) = ((maskN (fun p => inA (atA l0 i) (backS y p)) 32 : Nat) : Int)
      rw [mask_congr fun p hp => turn_in hok hy hp]
    · have hn := ih (i + 1) (by omega)
      rw [turnL_succ l0 y i (by omega)] at hn
      exact hn
theorem TopWinds (l0 : List S33) (l1 : List Int) (a2 : Int) (_ : (l0.length ≤ maxLen ∧ l0.length * 16 ≤ 140737488351232 ∧ ∀ y ∈ l0, g33 y)) (_ : (l1.length ≤ maxLen ∧ l1.length * 8 ≤ 140737488351232 ∧ ∀ y ∈ l1, (Lit.int .i64 y).wf = true)) (_ : (Lit.int .i64 a2).wf = true) : ∃ k, wigeontop_TopWinds.f k l0 l1 a2 = some true := by
  refine Ev.rounds (?_ : Ev (fun k => wigeontop_TopWinds.f k l0 l1 a2) true)
  unfold wigeontop_TopWinds.f
  refine Ev.bindc (show wind_Across.f 0 16 = some (16, 0) by rw [across_val]; decide) (Ev.ifp rfl ?_)
  refine Ev.step (fun k => by rw [wigeontop_TopWinds.j0]) (Ev.ifn (by decide) (Ev.bindc (show wigeonlaw03_Many.f l0 = some (decide ((l0.length : Int) > 60)) from rfl) ?_))
  have out : Ev (fun k => wigeontop_TopWinds.j1 k l0 l1 a2 true) true := Ev.step (fun k => by rw [wigeontop_TopWinds.j1]) (Ev.ifp rfl (Ev.now _))
  by_cases h1 : decide ((l0.length : Int) > 60) = true
  · exact Ev.ifp h1 out
  refine Ev.ifn h1 ?_
  by_cases h2 : (l1.length : Int) > 59
  · rw [decide_eq_true h2]
    exact out
  rw [decide_eq_false h2]
  refine Ev.step (fun k => by rw [wigeontop_TopWinds.j1]) (Ev.ifn (by decide) (Ev.bind (lee_ev l0) ?_))
  by_cases h0 : pipesErr l0 = 0
  · have h : PipesOk l0 := pipes_ok h0
    rw [show leeP l0 = (((leeN l0 : Nat) : Int), 0) from if_pos h0]
    refine Ev.ifp rfl (Ev.bind (fewest_ev l0) (Ev.bind (apart_ev l0) ?_))
    rw [show apartR l0 = (apartL l0, 0) from if_pos h0, show fewestP l0 (foldB l0 (2 ^ l0.length)) = fewP (foldB l0 (2 ^ l0.length)) from if_pos h0]
    obtain ⟨c1, c2⟩ := few_covers l0
    have hfl := foldB_length l0 (2 ^ l0.length)
    have hap := apart_len l0
    obtain ⟨u, hg⟩ := apart_good l0
    have hchk : chkP l0 (apartL l0) = 0 := by
      unfold chkP
      rw [if_pos h0, if_pos (apart_asc l0), if_pos (cd_t hg.apart)]
    have hne : ((foldB l0 (2 ^ l0.length)).2 != (((leeN l0 : Nat) : Int) == 0)) = false := by rw [found_lee]; simp
    have hl10 := h.1
    refine Ev.ifp rfl (Ev.ifp rfl (Ev.ifn (by show ¬ ((foldB l0 (2 ^ l0.length)).2 != (((leeN l0 : Nat) : Int) == 0)) = true; rw [hne]; decide) (Ev.bind (check_ev l0 (apartL l0) (by omega)) (Ev.ifp hchk ?_))))
    -- what stands behind the first tests
    have rest : Ev (fun k => wigeontop_TopWinds.j2 k l0 l1 a2 ((leeN l0 : Nat) : Int) (foldB l0 (2 ^ l0.length)).1 (foldB l0 (2 ^ l0.length)).2 (apartL l0) false) true := by
      refine Ev.step (fun k => by rw [wigeontop_TopWinds.j2]) (Ev.ifn (by decide) (Ev.bind (covers_ev l0 (foldB l0 (2 ^ l0.length)).1 (by omega)) ?_))
      rw [show coversP l0 (ascQ (foldB l0 (2 ^ l0.length)).1 (l0.length : Int)) (covQ l0 (foldB l0 (2 ^ l0.length)).1) = ((foldB l0 (2 ^ l0.length)).2, 0) by unfold coversP; rw [if_pos h0, if_pos c1, c2]]
      refine Ev.ifp rfl ?_
      rw [show ((foldB l0 (2 ^ l0.length)).2 != (foldB l0 (2 ^ l0.length)).2) = false by simp]
      refine Ev.step (fun k => by rw [wigeontop_TopWinds.j3]) (Ev.ifn (by decide) ?_)
      have loop : ∀ x : Int, 0 ≤ x → x < 32 → Ev (fun k => wigeontop_TopWinds.j4 k l0 l1 x ((leeN l0 : Nat) : Int) (apartL l0)) true := fun x hx0 hx1 => by
        obtain ⟨y, rfl⟩ := Int.eq_ofNat_of_zero_le hx0
        refine Ev.step (fun k => by rw [wigeontop_TopWinds.j4]) ?_
        exact top_loop l0 l1 h2 h0 y (by omega) l0.length 0 (by omega)
      have m1 := Int.lt_tmod_of_pos a2 (b := 32) (by decide)
      have m2 := Int.tmod_lt_of_pos a2 (b := 32) (by decide)
      by_cases hn : Int.tmod a2 32 < 0
      · refine Ev.ifp hn ?_
        rw [w64 (by omega) (by omega)]
        exact loop _ (by omega) (by omega)
      · exact Ev.ifn hn (loop _ (by omega) (by omega))
    by_cases hf : (foldB l0 (2 ^ l0.length)).2 = true
    · refine Ev.ifp hf ?_
      have hd := dual c1 (c2.trans hf) (apart_asc l0) hg.apart
      rw [show decide (((apartL l0).length : Int) > ((fewP (foldB l0 (2 ^ l0.length))).1.length : Int)) = false from decide_eq_false (by show ¬ ((apartL l0).length : Int) > ((foldB l0 (2 ^ l0.length)).1.length : Int); omega)]
      exact rest
    · exact Ev.ifn hf rest
  · rw [show leeP l0 = (0, pipesErr l0) from if_neg h0]
    exact Ev.ifn h0 (Ev.now _)

end Go.Proofs.YthihlapmkcelpaaDoor.Pure
