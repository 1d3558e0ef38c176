/- The law TopRings, as a statement on texts and numbers alone: the rings of a series follow each other, no ring is near to another one, all rings near to another text are rings, and worn rings are as many as there are ways to fill them in. For all texts and numbers. -/
import Derived.Test.YtlbhighbhchdmaaQx39
import Derived.Test.YtlbhighbhchdmaaLibTR
namespace Go.Proofs.Ytlbhighbhchdmaa.Pure
open Go.RowKit Go.Proofs.Ytlbhighbhchdmaa.Q Go.Proofs.YtlbhighbhchdmaaW.PrintWords Go.Proofs.YtlbhighbhchdmaaW.PrintLast

theorem flat_len {α β : Type} (f : α → List β) (c : Nat) (h : ∀ x, (f x).length ≤ c) : ∀ l : List α, (l.flatMap f).length ≤ c * l.length
  | [] => by simp
  | x :: l => by
    rw [List.flatMap_cons, List.length_append, List.length_cons, Nat.mul_succ]
    have h1 := h x
    have h2 := flat_len f c h l
    omega
theorem refC_len (s : ByteArray) (n : Nat) : (refC s n).length ≤ 66 := by
  refine flat_len _ 11 (fun i => ?_) (List.range 6)
  have h2 : (tryA s n i).length = 10 := by simp [tryA]
  have h3 : (swpA s n i).length ≤ 1 := by unfold swpA; split <;> simp
  rw [List.length_append]
  omega
theorem near_ring {b : ByteArray} (hv : ValidP b = 0) : Ev (fun k => ring_Near.f k b) ([], 0) := by
  have hf := (ValidP_ok hv).1
  obtain ⟨h7, h8, _, _⟩ := formP_true hf
  have h := Near_ev b (by omega)
  rw [if_pos hf, near_none hv] at h
  exact h
theorem top_l0 (t : ByteArray) (ht : t.size ≤ 140737488351232) (T : List Txt) (hT : Asc T) (hv : ∀ x ∈ T, ValidP (backT x) = 0) (hl : T.length ≤ 100000) (h6 : ValidP t ≠ 0 → 6 ≤ T.length) (d : Nat) : ∀ i : Nat, i + d = T.length →
    Ev (fun k => wigeontop_TopRings.l0 k t (T.map backT) (i : Int)) true := by
  have hlen : (T.map backT).length = T.length := List.length_map ..
  induction d with
  | zero =>
    intro i hi
    refine Ev.step (fun k => by rw [wigeontop_TopRings.l0]) ?_
    refine Ev.ifn (by omega) (Ev.bind (Valid_ev t ht) ?_)
    by_cases h : ValidP t = 0
    · exact Ev.ifp h (Ev.now _)
    · refine Ev.ifn h (Ev.val ?_)
      have := h6 h
      rw [decide_eq_true_eq]
      omega
  | succ d ih =>
    intro i hi
    have hil : i < (T.map backT).length := by omega
    have hval : ValidP (T.map backT)[i] = 0 := by
      rw [List.getElem_map]
      exact hv _ (List.getElem_mem (by omega))
    have hsz : ((T.map backT)[i]).size ≤ 8 := (formP_true (ValidP_ok hval).1).2.1
    have hw : wrap64 ((i : Int) + 1) = ((i + 1 : Nat) : Int) := by rw [w64 (by omega) (by omega)]; omega
    refine Ev.step (fun k => by rw [wigeontop_TopRings.l0]) ?_
    refine Ev.ifp (by omega) ?_
    refine Ev.ifp (by omega) ?_
    rw [rdOf_at _ i hil]
    refine Ev.bind (near_ring hval) (Ev.bind (Valid_ev _ (by omega)) ?_)
    rw [hval]
    refine Ev.ifp rfl (Ev.ifp rfl (Ev.ifp rfl ?_))
    simp only [hw]
    by_cases h0 : 0 < i
    · have hwj : wrap64 ((i : Int) - 1) = ((i - 1 : Nat) : Int) := by rw [w64 (by omega) (by omega)]; omega
      refine Ev.ifp (by omega) ?_
      simp only [hwj]
      refine Ev.ifp (by omega) ?_
      refine Ev.ifp (by omega) ?_
      rw [rdOf_at _ (i - 1) (by omega)]
      refine Ev.ifp ?_ (ih (i + 1) (by omega))
      refine less_true ?_
      rw [List.getElem_map, List.getElem_map, txt_back, txt_back]
      exact List.pairwise_iff_getElem.1 hT (i - 1) i (by omega) (by omega) (by omega)
    · refine Ev.ifn (by omega) (ih (i + 1) (by omega))
theorem top_j5 (t : ByteArray) (ht : t.size ≤ 140737488351232) : Ev (fun k => wigeontop_TopRings.j5 k t) true := by
  refine Ev.step (fun k => by rw [wigeontop_TopRings.j5]) ?_
  refine Ev.bind (Near_ev t ht) ?_
  by_cases hf : (formP t false).2 = true
  · rw [if_pos hf]
    refine Ev.ifp rfl ?_
    refine top_l0 t ht _ (goT_asc List.Pairwise.nil _) (fun x hx => near_valid hx) ?_ (fun h => near_six hf h) _ 0 (Nat.zero_add _)
    have h1 := goT_len t (refC t (t.size - 6)) []
    have h2 := refC_len t (t.size - 6)
    simp only [List.length_nil] at h1
    omega
  · rw [if_neg hf]
    exact Ev.ifn (by decide) (Ev.val rfl)
theorem top_ring (a : ByteArray) (n : Int) (t : ByteArray) (ht : t.size ≤ 140737488351232) (ha : a.size ≤ 100) (hs : serP a = true) (h0 : 0 ≤ n) (h1 : n ≤ 99999) : Ev (fun k => wigeontop_TopRings.j2 k a n t (makeP a n) false) true := by
  have hv := make_valid a n hs
  have hz := make_size a n
  have hnum := make_num a n h0 h1
  have hf := (ValidP_ok hv).1
  obtain ⟨h7, h8, _, _⟩ := formP_true hf
  obtain ⟨e1, e2⟩ := self_worn hv
  refine Ev.step (fun k => by rw [wigeontop_TopRings.j2]) ?_
  refine Ev.ifn (by decide) (Ev.bind (near_ring hv) (Ev.bind (FitsH_ev _ _ (by omega) (by omega)) (Ev.bindc (Count_eq (by omega)) ?_)))
  rw [e1, e2]
  refine Ev.ifp rfl (Ev.ifp rfl (Ev.ifp rfl (Ev.ifp rfl (Ev.ifp rfl ?_))))
  refine Ev.step (fun k => by rw [wigeontop_TopRings.j3]) ?_
  refine Ev.ifn (by decide) (Ev.bind (NextQ_ev _ (by omega)) (Ev.bind (Make_ev a _ (by omega)) ?_))
  have hw : wrap64 (n + 1) = n + 1 := w64 (by omega) (by omega)
  have hx : (makeP a n).extract 0 ((makeP a n).size - 6) = a := by rw [hz, Nat.add_sub_cancel]; exact join_extract a _
  have hj4 : Ev (fun k => wigeontop_TopRings.j4 k t (makeP a n) false) true := by
    refine Ev.step (fun k => by rw [wigeontop_TopRings.j4]) ?_
    have hw2 : wrap64 (((makeP a n).size : Int) - 2) = (((makeP a n).size - 2 : Nat) : Int) := by rw [w64 (by omega) (by omega)]; omega
    simp only [hw2, Int.toNat_natCast]
    refine Ev.ifn (by decide) ?_
    refine Ev.ifp (by omega) ?_
    refine Ev.ifp (by omega) ?_
    refine Ev.ifp (by rw [ByteArray.size_extract]; omega) ?_
    rw [two_bytes _ (by omega)]
    obtain ⟨F, f1, f2, f3⟩ := two_first hv
    have hts := twoB_size (makeP a n)
    refine Ev.bindc (Count_eq (by omega)) (Ev.bindc (First_eq (by omega)) ?_)
    rw [f1, f2]
    refine Ev.ifp rfl (Ev.ifp rfl (Ev.ifp rfl (Ev.ifp rfl (Ev.ifn ?_ (top_j5 t ht)))))
    rw [less_false f3]
    decide
  unfold NextQ MakeP
  rw [if_pos hv, hnum, hw, hx, if_pos hs, if_neg (show ¬ n + 1 < 0 by omega)]
  by_cases h9 : n = 99999
  · rw [if_pos h9, if_pos (by omega)]
    exact Ev.ifp rfl (Ev.ifp rfl hj4)
  · rw [if_neg h9, if_neg (by omega)]
    refine Ev.ifn (show ¬ (0 : Int) = 3 by decide) (Ev.ifp rfl (Ev.ifp rfl (Ev.ifp rfl ?_)))
    rw [less_true (make_less a n h0 (by omega))]
    exact hj4
theorem TopRings : wigeontop_TopRings.Pure := by
  intro a n t ha hn ht
  refine Ev.rounds (?_ : Ev (fun k => wigeontop_TopRings.f k a n t) true)
  unfold wigeontop_TopRings.f
  have hc : CheckP [2, 3, 6] = (3, 0) := by decide +kernel
  refine Ev.bind (check_ev _) ?_
  rw [hc]
  refine Ev.ifp rfl ?_
  refine Ev.step (fun k => by rw [wigeontop_TopRings.j0]) ?_
  refine Ev.ifn (by decide) ?_
  have hyes : Ev (fun k => wigeontop_TopRings.j1 k a n t true) true := Ev.step (fun k => by rw [wigeontop_TopRings.j1]) (Ev.ifp rfl (Ev.now _))
  by_cases h1 : (a.size : Int) > 100
  · exact Ev.ifp h1 hyes
  · refine Ev.ifn h1 ?_
    by_cases h2 : (t.size : Int) > 100
    · rw [decide_eq_true h2]
      exact hyes
    · rw [decide_eq_false h2]
      refine Ev.step (fun k => by rw [wigeontop_TopRings.j1]) ?_
      refine Ev.ifn (by decide) (Ev.bind (Make_ev a n (by omega)) ?_)
      unfold MakeP
      by_cases hs : serP a = true
      · rw [if_pos hs]
        by_cases h3 : n < 0
        · rw [if_pos h3]
          exact Ev.ifn (by decide) (top_j5 t ht)
        · rw [if_neg h3]
          by_cases h4 : n > 99999
          · rw [if_pos h4]
            exact Ev.ifn (by decide) (top_j5 t ht)
          · rw [if_neg h4]
            have hz := make_size a n
            have hv := make_valid a n hs
            have hw : wrap64 ((a.size : Int) + 6) = ((a.size + 6 : Nat) : Int) := by rw [w64 (by omega) (by omega)]; omega
            refine Ev.ifp rfl ?_
            refine Ev.ifp (by rw [hw, hz]) (Ev.bind (Valid_ev (makeP a n) (by omega)) ?_)
            rw [hv]
            exact top_ring a n t ht (by omega) hs (by omega) (by omega)
      · rw [if_neg hs]
        exact Ev.ifn (by decide) (top_j5 t ht)

end Go.Proofs.Ytlbhighbhchdmaa.Pure
