/- The law WindProves, as a statement on lists alone: winds that are apart are never more than pipes that cover, and what is returned lies between. For all lists of 64 bits. -/
import Derived.Test.YthihlapmkcelpaaDoorQx0
import Derived.Test.YthihlapmkcelpaaDoorQx7
import Derived.Test.YthihlapmkcelpaaDoorQx19
import Derived.Test.YthihlapmkcelpaaDoorQx24
import Derived.Test.YthihlapmkcelpaaDoorLibY
namespace Go.Proofs.YthihlapmkcelpaaDoor.Pure
open Go.RowKit Go.Proofs.YthihlapmkcelpaaDoor.Q Go.Proofs.YthihlapmkcelpaaDoorW.PrintWords Go.Proofs.YthihlapmkcelpaaDoorW.PrintLast Go.Proofs.YthihlapmkcelpaaDoorW.PrintMore

theorem WindProves (l0 : List S33) (l1 : List Int) (l2 : List Int) (_ : (l0.length ≤ maxLen ∧ l0.length * 16 ≤ 140737488351232 ∧ ∀ y ∈ l0, g33 y)) (_ : (l1.length ≤ maxLen ∧ l1.length * 8 ≤ 140737488351232 ∧ ∀ y ∈ l1, (Lit.int .i64 y).wf = true)) (_ : (l2.length ≤ maxLen ∧ l2.length * 8 ≤ 140737488351232 ∧ ∀ y ∈ l2, (Lit.int .i64 y).wf = true)) : ∃ k, wigeonlaw03_WindProves.f k l0 l1 l2 = some true := by
  refine Ev.rounds (?_ : Ev (fun k => wigeonlaw03_WindProves.f k l0 l1 l2) true)
  unfold wigeonlaw03_WindProves.f
  refine Ev.bindc (show wigeonlaw03_Many.f l0 = some (decide ((l0.length : Int) > 60)) from rfl) ?_
  have known : Ev (fun k => wigeonlaw03_WindProves.j0 k l0 l1 l2 true) true := Ev.step (fun k => by rw [wigeonlaw03_WindProves.j0]) (Ev.ifp rfl known_bind)
  have known1 : Ev (fun k => wigeonlaw03_WindProves.j1 k l0 l1 l2 true) true := Ev.step (fun k => by rw [wigeonlaw03_WindProves.j1]) (Ev.ifp rfl known_bind)
  by_cases h1 : decide ((l0.length : Int) > 60) = true
  · exact Ev.ifp h1 known
  refine Ev.ifn h1 ?_
  by_cases h2 : (l1.length : Int) > 60
  · exact Ev.ifp h2 known
  refine Ev.ifn h2 ?_
  by_cases h3 : (l2.length : Int) > 60
  · rw [decide_eq_true h3]
    exact known
  rw [decide_eq_false h3]
  refine Ev.step (fun k => by rw [wigeonlaw03_WindProves.j0]) ?_
  refine Ev.ifn (by decide) (Ev.bind (covers_ev l0 l1 (by omega)) ?_)
  by_cases h0 : pipesErr l0 = 0
  · by_cases ha : ascQ l1 (l0.length : Int) = true
    · rw [show coversP l0 (ascQ l1 (l0.length : Int)) (covQ l0 l1) = (covQ l0 l1, 0) by unfold coversP; rw [if_pos h0, if_pos ha]]
      refine Ev.ifp rfl ?_
      by_cases hcov : covQ l0 l1 = true
      · refine Ev.ifp hcov (Ev.bind (check_ev l0 l2 (by omega)) ?_)
        by_cases hz : chkP l0 l2 = 0
        · rw [hz]
          refine Ev.step (fun k => by rw [wigeonlaw03_WindProves.j1]) ?_
          refine Ev.ifn (by decide) (Ev.bind (apart_ev l0) (Ev.bind (fewest_ev l0) ?_))
          rw [show apartR l0 = (apartL l0, 0) from if_pos h0, show fewestP l0 (foldB l0 (2 ^ l0.length)) = fewP (foldB l0 (2 ^ l0.length)) from if_pos h0]
          -- the winds are apart
          have hw : ascQ l2 32 = true ∧ apartP l0 l2 := by
            unfold chkP at hz
            rw [if_pos h0] at hz
            by_cases g1 : ascQ l2 32 = true
            · rw [if_pos g1] at hz
              by_cases g2 : cd (apartP l0 l2) = true
              · exact ⟨g1, cd_of g2⟩
              · rw [if_neg g2] at hz; exact absurd hz (by decide)
            · rw [if_neg g1] at hz; exact absurd hz (by decide)
          have hset := cov_set ha hcov
          have hlt : setTo l1 l1.length < 2 ^ l0.length := setTo_lt l1 l0.length l1.length fun j hj => by have := ascQ_at ha j hj; omega
          have hfound : (foldB l0 (2 ^ l0.length)).2 = true := (foldB_found l0 _).2 ⟨_, hlt, hset⟩
          obtain ⟨n, hn, hcn, hbn⟩ := fold_some l0 _ hfound
          have g1 := dual ha hcov hw.1 hw.2
          have g2 : (apartL l0).length ≤ (foldB l0 (2 ^ l0.length)).1.length := by
            obtain ⟨u, hu⟩ := apart_good l0
            rw [hbn]
            exact dual (bitsTo_asc n l0.length) ((cov_bits l0 n).2 hcn) (apart_asc l0) hu.apart
          have g3 : l2.length ≤ (apartL l0).length := by
            have hat := ascQ_at hw.1
            refine apart_best (u := usedTo l0 l2 l2.length) ⟨fun k hk => ⟨(hat k hk).1, (hat k hk).2.1, fun e => ?_, (hat k hk).2.2⟩, hw.2, rfl⟩
            obtain ⟨i, hi, hin⟩ := cd_of hcov (rd l2 (k : Int)).toNat (by have := hat k hk; omega)
            have hi2 := ascQ_at ha i hi
            have hb := who_bit l0 l0.length (rd l2 (k : Int)).toNat (rd l1 (i : Int)).toNat
            rw [show whoTo l0 l0.length (rd l2 (k : Int)).toNat = 0 from e, Nat.zero_testBit, hin, Bool.and_true, decide_eq_true (show (rd l1 (i : Int)).toNat < l0.length by omega)] at hb
            exact absurd hb (by decide)
          have g4 : (foldB l0 (2 ^ l0.length)).1.length ≤ l1.length := by
            have e1 := fold_best l0 _ _ hlt hset
            have e2 := set_len l1 l0.length
            omega
          exact Ev.ifp (by omega) (Ev.ifp rfl (Ev.ifp rfl (Ev.ifp hfound (Ev.ifp (by show ((apartL l0).length : Int) ≤ ((foldB l0 (2 ^ l0.length)).1.length : Int); omega) (Ev.ifp (by show (l2.length : Int) ≤ ((apartL l0).length : Int); omega) (Ev.ifp (by show ((foldB l0 (2 ^ l0.length)).1.length : Int) ≤ (l1.length : Int); omega) known_bind))))))
        · rw [show (chkP l0 l2 != 0) = true from bne_iff_ne.mpr hz]
          exact known1
      · exact Ev.ifn hcov known1
    · rw [show coversP l0 (ascQ l1 (l0.length : Int)) (covQ l0 l1) = (false, 1) by unfold coversP; rw [if_pos h0, if_neg ha]]
      exact Ev.ifn (by decide) known1
  · rw [show coversP l0 (ascQ l1 (l0.length : Int)) (covQ l0 l1) = (false, pipesErr l0) by unfold coversP; rw [if_neg h0]]
    exact Ev.ifn h0 known1

end Go.Proofs.YthihlapmkcelpaaDoor.Pure
