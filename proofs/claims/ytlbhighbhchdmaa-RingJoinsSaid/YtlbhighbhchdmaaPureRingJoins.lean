/- The law RingJoins, as a statement on lists and texts alone: the blocks brought together are the reference's; they have as many rings, and the same ones. For all lists and texts. -/
import Derived.Test.YtlbhighbhchdmaaQx0
import Derived.Test.YtlbhighbhchdmaaQx9
import Derived.Test.YtlbhighbhchdmaaQx36
import Derived.Test.YtlbhighbhchdmaaQx37
import Derived.Test.YtlbhighbhchdmaaQx38
import Derived.Test.YtlbhighbhchdmaaQx39
import Derived.Test.YtlbhighbhchdmaaLibJR
namespace Go.Proofs.Ytlbhighbhchdmaa.Pure
open Go.RowKit Go.Proofs.Ytlbhighbhchdmaa.Q Go.Proofs.YtlbhighbhchdmaaW.PrintWords Go.Proofs.YtlbhighbhchdmaaW.PrintLast
theorem rdE (l : List S79) (i : Nat) (h : i < l.length) : rd_T79 l (i : Int) = l[i] := el_at l i h
def lowB (l : List S79) : Prop := ∀ x ∈ l, 0 ≤ x.f2 ∧ x.f2 ≤ 99999
theorem low_step {out : List S79} {b : S79} (ho : lowB out) (hb : 0 ≤ b.f2 ∧ b.f2 ≤ 99999) : lowB (stepJ out b) := by
  intro x hx
  unfold stepJ at hx
  split at hx
  · rcases List.mem_or_eq_of_mem_set hx with h | h
    · exact ho x h
    · rw [h]; exact hb
  · rcases List.mem_append.1 hx with h | h
    · exact ho x h
    · rw [List.mem_singleton.1 h]; exact hb
theorem len_step (out : List S79) (b : S79) : (stepJ out b).length ≤ out.length + 1 := by
  unfold stepJ
  split
  · rw [List.length_set]; omega
  · simp
theorem step_ev {α : Type} {R : α} {out : List S79} {b : S79} (ho : lowB out) (hl : out.length ≤ 1000) (F : Nat → List S79 → Option α) (h : Ev (fun k => F k (stepJ out b)) R) :
    Ev (fun k => if (out.length : Int) > 0 then (if 0 ≤ (wrap64 ((out.length : Int) - 1)) then (if (wrap64 ((out.length : Int) - 1)) < (out.length : Int) then (if ((rd_T79 out (wrap64 ((out.length : Int) - 1))).f0).toList = (b.f0).toList then (if (wrap64 (((rd_T79 out (wrap64 ((out.length : Int) - 1))).f2) + 1)) = (b.f1) then (F k (out.set ((wrap64 ((out.length : Int) - 1)) : Int).toNat (⟨(rd_T79 out (wrap64 ((out.length : Int) - 1))).f0, (rd_T79 out (wrap64 ((out.length : Int) - 1))).f1, b.f2⟩ : S79))) else (if out.length < 4398046511104 then (F k (out ++ [(⟨b.f0, b.f1, b.f2⟩ : S79)])) else (none))) else (if out.length < 4398046511104 then (F k (out ++ [(⟨b.f0, b.f1, b.f2⟩ : S79)])) else (none))) else (none)) else (none)) else (if out.length < 4398046511104 then (F k (out ++ [(⟨b.f0, b.f1, b.f2⟩ : S79)])) else (none))) R := by
  unfold stepJ at h
  by_cases h0 : 0 < out.length
  · have hw : wrap64 ((out.length : Int) - 1) = ((out.length - 1 : Nat) : Int) := by rw [w64 (by omega) (by omega)]; omega
    simp only [hw, Int.toNat_natCast]
    have he : el out (out.length - 1) = out[out.length - 1] := el_at out _ (by omega)
    have hlo := ho _ (List.getElem_mem (show out.length - 1 < out.length by omega))
    rw [rdE out _ (by omega)]
    rw [he] at h
    have hw2 : wrap64 (out[out.length - 1].f2 + 1) = out[out.length - 1].f2 + 1 := w64 (by omega) (by omega)
    rw [hw2]
    refine Ev.ifp (by omega) ?_
    refine Ev.ifp (by omega) ?_
    refine Ev.ifp (by omega) ?_
    by_cases c1 : out[out.length - 1].f0.toList = b.f0.toList
    · refine Ev.ifp c1 ?_
      by_cases c2 : out[out.length - 1].f2 + 1 = b.f1
      · refine Ev.ifp c2 ?_
        rw [if_pos ⟨h0, by unfold next1; rw [decide_eq_true c1, decide_eq_true c2]; rfl⟩] at h
        exact h
      · refine Ev.ifn c2 (Ev.ifp (by omega) ?_)
        rw [if_neg (fun g => c2 (next_iff.1 g.2).2)] at h
        exact h
    · refine Ev.ifn c1 (Ev.ifp (by omega) ?_)
      rw [if_neg (fun g => c1 (of_sT (next_iff.1 g.2).1))] at h
      exact h
  · refine Ev.ifn (by omega) (Ev.ifp (by omega) ?_)
    rw [if_neg (fun g => h0 g.1)] at h
    exact h
theorem join_loop (S : List S79) (hS : S.length ≤ 12) (hlow : lowB S) (d : Nat) : ∀ (i : Nat) (out : List S79), i + d = S.length → out.length ≤ i → lowB out →
    Ev (fun k => ring_Join.l0 k out S (S.length : Int) (i : Int)) (foldJ out (S.drop i), 0) := by
  induction d with
  | zero =>
    intro i out hi ho hb
    refine Ev.step (fun k => by rw [ring_Join.l0]) ?_
    refine Ev.ifn (by omega) (Ev.val ?_)
    rw [List.drop_of_length_le (by omega)]
    rfl
  | succ d ih =>
    intro i out hi ho hb
    have hw : wrap64 ((i : Int) + 1) = ((i + 1 : Nat) : Int) := by rw [w64 (by omega) (by omega)]; omega
    refine Ev.step (fun k => by rw [ring_Join.l0]) ?_
    refine Ev.ifp (by omega) ?_
    refine Ev.ifp (by omega) ?_
    refine Ev.ifp (by omega) ?_
    simp only [hw]
    rw [rdE S i (by omega), List.drop_eq_getElem_cons (by omega)]
    have hbi := hlow _ (List.getElem_mem (show i < S.length by omega))
    refine step_ev hb (by omega) (fun k o => ring_Join.l0 k o S (S.length : Int) ((i + 1 : Nat) : Int)) ?_
    have hls := len_step out S[i]
    exact ih (i + 1) _ (by omega) (by omega) (low_step hb hbi)
def JoinP (l : List S79) : List S79 × Int := if blocksP l = 0 then (joinL (sortB l), 0) else ([], blocksP l)
theorem low_of {l : List S79} (h : ∀ x ∈ l, badB x = 0) : lowB l := fun x hx => by
  have := badB_ok (h x hx)
  omega
theorem Join_ev (l : List S79) (hg : ∀ y ∈ l, g79 y) : Ev (fun k => ring_Join.f k l) (JoinP l) := by
  unfold ring_Join.f JoinP
  refine Ev.bind (blocks_ev l hg) ?_
  by_cases h : blocksP l = 0
  · rw [if_pos h]
    obtain ⟨h8, hb, _⟩ := blocks_mem h
    have hl := sortB_length l
    refine Ev.ifp h (Ev.bindc (show ring_sorted.f l = some (sortB l) by unfold ring_sorted.f; rw [if_pos (by omega)]) ?_)
    have hj := join_loop (sortB l) (by omega) (low_of fun x hx => hb x ((sort_perm l).mem_iff.1 hx)) (sortB l).length 0 [] (by omega) (by simp) (fun x hx => by cases hx)
    rw [List.drop_zero, fold_join] at hj
    exact hj
  · rw [if_neg h]
    exact Ev.ifn h (Ev.now _)
def ltKb (x y : S79) : Bool := decide (sT x < sT y) || (decide (sT x = sT y) && decide (x.f1 < y.f1))
theorem ltKb_iff {x y : S79} : ltKb x y = true ↔ ltK x y := by
  unfold ltKb ltK
  rw [Bool.or_eq_true, Bool.and_eq_true, decide_eq_true_eq, decide_eq_true_eq, decide_eq_true_eq]
theorem before_eq (x y : S79) : wigeonref01_before.f x.f0 x.f1 x.f2 y.f0 y.f1 y.f2 = some (ltKb x y) := by
  unfold wigeonref01_before.f ltKb sT
  rw [Go.Proofs.bytesLess_eq, ByteArray.toList_eq, ByteArray.toList_eq]
  by_cases h : x.f0.data.toList < y.f0.data.toList
  · rw [if_pos (decide_eq_true h), decide_eq_true h]
    rfl
  · rw [if_neg (by rw [decide_eq_true_eq]; exact h), decide_eq_false h, Bool.false_or]
    by_cases e : x.f0.data.toList = y.f0.data.toList
    · rw [if_pos e, decide_eq_true e, Bool.true_and]
    · rw [if_neg e, decide_eq_false e, Bool.false_and]
theorem ltK_trans_not {x y z : S79} (h1 : ¬ ltK x y) (h2 : ltK z y) : ¬ ltK x z := by
  intro h
  apply h1
  rcases h with h | ⟨h, g⟩ <;> rcases h2 with h2 | ⟨h2, g2⟩
  · exact .inl (txt_trans h h2)
  · exact .inl (h2 ▸ h)
  · exact .inl (h ▸ h2)
  · exact .inr ⟨h.trans h2, by omega⟩
theorem pick_loop (rest out : List S79) (hl : rest.length ≤ 1000) {R : List S79 × Int} (hR : ∀ f, f < rest.length → (∀ j (hj : j < rest.length), ¬ ltK rest[j] (rest.getD f z79)) → Ev (fun k => wigeonref01_Join.l1 k rest out (f : Int) (rest.length : Int)) R) (d : Nat) :
    ∀ (i f : Nat), i + d = rest.length → f < i → (∀ j (hj : j < rest.length), j < i → ¬ ltK rest[j] (rest.getD f z79)) → Ev (fun k => wigeonref01_Join.l1 k rest out (f : Int) (i : Int)) R := by
  induction d with
  | zero =>
    intro i f hi hf hm
    have e : i = rest.length := by omega
    subst e
    exact hR f hf fun j hj => hm j hj hj
  | succ d ih =>
    intro i f hi hf hm
    have hil : i < rest.length := by omega
    have hw : wrap64 ((i : Int) + 1) = ((i + 1 : Nat) : Int) := by rw [w64 (by omega) (by omega)]; omega
    have hgf : rest.getD f z79 = rest[f] := by rw [List.getD_eq_getElem?_getD, List.getElem?_eq_getElem (by omega)]; rfl
    have hgi : rest.getD i z79 = rest[i] := by rw [List.getD_eq_getElem?_getD, List.getElem?_eq_getElem hil]; rfl
    refine Ev.step (fun k => by rw [wigeonref01_Join.l1]) ?_
    refine Ev.ifp (by omega) ?_
    refine Ev.ifp (by omega) ?_
    refine Ev.ifp (by omega) ?_
    refine Ev.ifp (by omega) ?_
    rw [rdE rest i hil, rdE rest f (by omega)]
    simp only [hw]
    refine Ev.bindc (before_eq _ _) ?_
    by_cases c : ltK rest[i] rest[f]
    · refine Ev.ifp (ltKb_iff.2 c) (ih (i + 1) i (by omega) (by omega) fun j hj hji => ?_)
      rw [hgi]
      by_cases e : j = i
      · subst e
        exact fun q => ltK_asymm q q
      · have h1 := hm j hj (by omega)
        rw [hgf] at h1
        exact ltK_trans_not h1 c
    · refine Ev.ifn (fun q => c (ltKb_iff.1 q)) (ih (i + 1) f (by omega) (by omega) fun j hj hji => ?_)
      by_cases e : j = i
      · subst e
        rw [hgf]
        exact c
      · exact hm j hj (by omega)
theorem ref_loop (xs : List S79) : ∀ (rest out : List S79), rest.Perm xs → xs.Pairwise ltK → xs.length ≤ 12 → out.length ≤ 500 - xs.length → lowB xs → lowB out →
    Ev (fun k => wigeonref01_Join.l0 k rest out) (foldJ out xs, 0) := by
  induction xs with
  | nil =>
    intro rest out hp _ _ _ _ _
    obtain rfl := List.Perm.eq_nil hp
    refine Ev.step (fun k => by rw [wigeonref01_Join.l0]) ?_
    exact Ev.ifn (by simp) (Ev.now _)
  | cons x xs ih =>
    intro rest out hp hs h12 ho hlow hlo
    have hs' := List.pairwise_cons.1 hs
    have hlen := hp.length_eq
    rw [List.length_cons] at hlen h12 ho
    refine Ev.step (fun k => by rw [wigeonref01_Join.l0]) ?_
    refine Ev.ifp (by omega) ?_
    refine pick_loop rest out (by omega) (fun f hf hmin => ?_) (rest.length - 1) 1 0 (by omega) (by omega) (fun j hj hj1 => ?_)
    · have hgf : rest.getD f z79 = rest[f] := by rw [List.getD_eq_getElem?_getD, List.getElem?_eq_getElem hf]; rfl
      have hx : rest[f] = x := by
        have hm := hp.mem_iff.1 (List.getElem_mem hf)
        rcases List.mem_cons.1 hm with h | h
        · exact h
        · exfalso
          obtain ⟨j, hj, e⟩ := List.mem_iff_getElem.1 (hp.mem_iff.2 (List.mem_cons_self (a := x) (l := xs)))
          have h2 := hmin j hj
          rw [hgf, e] at h2
          exact h2 (hs'.1 _ h)
      have hperm : (rest.take f ++ rest.drop (f + 1)).Perm xs := by
        have h1 : rest = rest.take f ++ rest[f] :: rest.drop (f + 1) := by rw [← List.drop_eq_getElem_cons hf, List.take_append_drop]
        have h2 : (x :: (rest.take f ++ rest.drop (f + 1))).Perm (x :: xs) := by
          refine List.Perm.trans ?_ hp
          conv => rhs; rw [h1, hx]
          exact List.perm_middle.symm
        exact h2.cons_inv
      have hwf : wrap64 ((f : Int) + 1) = ((f + 1 : Nat) : Int) := by rw [w64 (by omega) (by omega)]; omega
      refine Ev.step (fun k => by rw [wigeonref01_Join.l1]) ?_
      refine Ev.ifn (by omega) ?_
      refine Ev.ifp (by omega) ?_
      refine Ev.ifp (by omega) ?_
      refine Ev.ifp (by omega) ?_
      refine Ev.some_bind ?_
      refine Ev.ifp (by simp; omega) ?_
      refine Ev.some_bind ?_
      simp only [hwf]
      refine Ev.ifp (by omega) ?_
      refine Ev.ifp (by omega) ?_
      refine Ev.some_bind ?_
      refine Ev.ifp (by simp; omega) ?_
      refine Ev.some_bind ?_
      simp only [Int.toNat_natCast, List.nil_append]
      rw [rdE rest f hf, hx]
      have hlx := hlow x (List.mem_cons_self ..)
      refine step_ev hlo (by omega) (fun k o => wigeonref01_Join.l0 k (rest.take f ++ rest.drop (f + 1)) o) ?_
      have hls := len_step out x
      exact ih _ _ hperm hs'.2 (by omega) (by omega) (fun y hy => hlow y (List.mem_cons_of_mem _ hy)) (low_step hlo hlx)
    · have e : j = 0 := by omega
      subst e
      have hg0 : rest.getD 0 z79 = rest[0] := by rw [List.getD_eq_getElem?_getD, List.getElem?_eq_getElem hj]; rfl
      rw [hg0]
      exact fun q => ltK_asymm q q
theorem rJoin_ev (l : List S79) : Ev (fun k => wigeonref01_Join.f k l) (JoinP l) := by
  unfold wigeonref01_Join.f JoinP
  refine Ev.bind (rblocks_ev l) ?_
  by_cases h : blocksP l = 0
  · rw [if_pos h]
    obtain ⟨h8, hb, _⟩ := blocks_mem h
    have hl := sortB_length l
    have hb2 : ∀ x ∈ sortB l, badB x = 0 := fun x hx => hb x ((sort_perm l).mem_iff.1 hx)
    refine Ev.ifp h (Ev.some_bind (Ev.ifp (by simp; omega) ?_))
    rw [List.nil_append]
    have hj := ref_loop (sortB l) l [] (sort_perm l).symm ((List.Pairwise.and_mem.1 (sort_rK h)).imp fun g => rK_ltK (hb2 _ g.1) g.2.2) (by omega) (by simp) (low_of hb2) (fun x hx => by cases hx)
    rw [fold_join] at hj
    exact hj
  · rw [if_neg h]
    exact Ev.ifn h (Ev.now _)
theorem sameB_loop (l : List S79) (hl : l.length ≤ 100000) (d : Nat) : ∀ i : Nat, i + d = l.length → Ev (fun k => wigeonref01_SameBlocks.l0 k l l (i : Int)) true := by
  induction d with
  | zero =>
    intro i hi
    refine Ev.step (fun k => by rw [wigeonref01_SameBlocks.l0]) ?_
    exact Ev.ifn (by omega) (Ev.now _)
  | succ d ih =>
    intro i hi
    have hw : wrap64 ((i : Int) + 1) = ((i + 1 : Nat) : Int) := by rw [w64 (by omega) (by omega)]; omega
    refine Ev.step (fun k => by rw [wigeonref01_SameBlocks.l0]) ?_
    refine Ev.ifp (by omega) ?_
    refine Ev.ifp (by omega) ?_
    refine Ev.ifp (by omega) ?_
    rw [hw]
    exact Ev.ifn (by simp) (ih (i + 1) (by omega))
theorem sameB_ev (l : List S79) (hl : l.length ≤ 100000) : Ev (fun k => wigeonref01_SameBlocks.f k l l) true := by
  unfold wigeonref01_SameBlocks.f
  exact Ev.ifp rfl (sameB_loop l hl l.length 0 (by omega))
theorem RingJoins (l0 : List S79) (a1 : ByteArray) (h0 : (l0.length ≤ maxLen ∧ l0.length * 32 ≤ 140737488351232 ∧ ∀ y ∈ l0, g79 y)) (h1 : a1.size ≤ 140737488351232) : ∃ k, wigeonlaw01_RingJoins.f k l0 a1 = some true := by
  refine Ev.rounds (?_ : Ev (fun k => wigeonlaw01_RingJoins.f k l0 a1) true)
  have hyes : Ev (fun k => wigeonlaw01_RingJoins.j0 k l0 a1 true) true := Ev.step (fun k => by rw [wigeonlaw01_RingJoins.j0]) (Ev.ifp rfl known_bind)
  unfold wigeonlaw01_RingJoins.f
  by_cases h : (l0.length : Int) > 60
  · exact Ev.ifp h hyes
  · unfold wigeonlaw01_long.f
    refine Ev.ifn h (Ev.some_bind ?_)
    by_cases hlong : (a1.size : Int) > 200
    · rw [decide_eq_true hlong]
      exact hyes
    · rw [decide_eq_false hlong]
      refine Ev.step (fun k => by rw [wigeonlaw01_RingJoins.j0]) ?_
      refine Ev.ifn (by decide) (Ev.some_bind (Ev.ifp (by simp; omega) (Ev.some_bind ?_)))
      rw [List.nil_append]
      refine Ev.bind (Join_ev l0 h0.2.2) (Ev.bind (rJoin_ev l0) ?_)
      have hlen : (JoinP l0).1.length ≤ 100000 := by
        unfold JoinP
        by_cases hb : blocksP l0 = 0
        · rw [if_pos hb]
          have := (join_facts hb).2.2.2.1
          show (joinL (sortB l0)).length ≤ _
          omega
        · rw [if_neg hb]
          simp
      refine Ev.bind (sameB_ev _ hlen) (Ev.ifp rfl (Ev.ifp rfl (Ev.bind (sameB_ev l0 (by omega)) ?_)))
      refine Ev.step (fun k => by rw [wigeonlaw01_RingJoins.j1]) ?_
      refine Ev.ifn (by decide) ?_
      unfold JoinP
      by_cases hb : blocksP l0 = 0
      · rw [if_pos hb]
        obtain ⟨j1, j2, j3, j4, j5⟩ := join_facts hb
        have hg : ∀ y ∈ joinL (sortB l0), g79 y := fun y hy => good_of (j5 y hy)
        refine Ev.ifp rfl (Ev.bind (Total_ev l0 h0.2.2) (Ev.bind (Total_ev (joinL (sortB l0)) hg) (Ev.bind (Owner_ev l0 h0.2.2 a1 h1) (Ev.bind (Owner_ev (joinL (sortB l0)) hg a1 h1) ?_))))
        have ht := total_same hb j1 j2.symm
        have ho := owner_same a1 hb j1 (fun s n => (j3 s n).symm)
        have ht2 : (totalP l0).2 = 0 := by unfold totalP; rw [if_pos hb]
        rw [← ht, ← ho.1, ← ho.2]
        exact Ev.ifp ht2 (Ev.ifp ht2 (Ev.ifp rfl (Ev.ifp (by simp) (Ev.ifp rfl known_bind))))
      · rw [if_neg hb]
        exact Ev.ifn hb known_bind
end Go.Proofs.Ytlbhighbhchdmaa.Pure
