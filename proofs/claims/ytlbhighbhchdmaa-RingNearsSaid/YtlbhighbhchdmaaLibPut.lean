/- A text put among ascending ones, as the document's function does it; and the comparison of lists of texts. For all lists. -/
import Derived.Test.YtlbhighbhchdmaaQx32
import Derived.Test.YtlbhighbhchdmaaQx34
import Derived.Test.YtlbhighbhchdmaaLibNear
import Derived.Sort.Walk0
namespace Go.Proofs.Ytlbhighbhchdmaa.Pure
open Go.RowKit Go.Proofs.Ytlbhighbhchdmaa.Q Go.Proofs.YtlbhighbhchdmaaW.PrintWords Go.Proofs.YtlbhighbhchdmaaW.PrintLast

theorem toList_txt (b : ByteArray) : b.toList = txtB b := ByteArray.toList_eq b
def lessB (y a : ByteArray) : Bool := Op.bytesLess y.toList a.toList
theorem lessB_eq (y a : ByteArray) : lessB y a = decide (txtB y < txtB a) := by
  unfold lessB
  rw [Go.Proofs.bytesLess_eq, toList_txt, toList_txt]
def putF (a : ByteArray) : List ByteArray → Bool → List ByteArray
  | [], d => if d = true then [] else [a]
  | y :: l, d => (if (!d && !(lessB y a)) = true then [a] else []) ++ ((if y.toList = a.toList then [] else [y]) ++ putF a l (d || !(lessB y a)))
theorem rdOf_at (l : List ByteArray) (i : Nat) (h : i < l.length) : rdOf ByteArray.empty l (i : Int) = l[i] := by
  unfold rdOf
  simp [h]
theorem put_loop (l : List ByteArray) (a : ByteArray) (hl : l.length ≤ 1000) (d : Nat) : ∀ (i : Nat) (out : List ByteArray) (done : Bool), i + d = l.length → out.length ≤ 2 * i →
    Ev (fun k => wigeonref01_put.l0 k l a out done (i : Int)) (out ++ putF a (l.drop i) done) := by
  induction d with
  | zero =>
    intro i out done hi ho
    refine Ev.step (fun k => by rw [wigeonref01_put.l0]) (Ev.ifn (by omega) ?_)
    rw [List.drop_of_length_le (by omega)]
    unfold putF
    cases done with
    | true => exact Ev.ifp rfl (Ev.val (by simp))
    | false => exact Ev.ifn (by decide) (Ev.ifp (by omega) (Ev.val (by simp)))
  | succ d ih =>
    intro i out done hi ho
    have hil : i < l.length := by omega
    have hw : wrap64 ((i : Int) + 1) = ((i + 1 : Nat) : Int) := by rw [w64 (by omega) (by omega)]; omega
    have hdrop : l.drop i = l[i] :: l.drop (i + 1) := (List.drop_eq_getElem_cons hil)
    have hj : ∀ (b : Bool), b = (!done && !(lessB l[i] a)) → Ev (fun k => wigeonref01_put.j1 k l a out done (i : Int) b) (out ++ putF a (l.drop i) done) := by
      intro b hb
      rw [hdrop]
      unfold putF
      refine Ev.step (fun k => by rw [wigeonref01_put.j1]) ?_
      rw [rdOf_at l i hil]
      simp only [hw]
      cases b with
      | true =>
        have hd : done = false := by cases done with | true => simp at hb | false => rfl
        subst hd
        have hl2 : lessB l[i] a = false := by cases h : lessB l[i] a with | true => rw [h] at hb; exact absurd hb (by decide) | false => rfl
        rw [hl2]
        refine Ev.ifp rfl (Ev.ifp (by omega) (Ev.some_bind (Ev.ifp (by omega) (Ev.ifp (by omega) ?_))))
        by_cases he : l[i].toList = a.toList
        · refine Ev.ifp he ?_
          have h := ih (i + 1) (out ++ [a]) true (by omega) (by simp; omega)
          simpa [he] using h
        · refine Ev.ifn he (Ev.ifp (by simp; omega) ?_)
          have h := ih (i + 1) (out ++ [a] ++ [l[i]]) true (by omega) (by simp; omega)
          simpa [he] using h
      | false =>
        refine Ev.ifn (by decide) (Ev.ifp (by omega) (Ev.ifp (by omega) ?_))
        have hd : (done || !(lessB l[i] a)) = done := by
          cases done with
          | true => rfl
          | false =>
            cases h : lessB l[i] a with
            | true => rfl
            | false => rw [h] at hb; exact absurd hb (by decide)
        rw [hd, ← hb]
        by_cases he : l[i].toList = a.toList
        · refine Ev.ifp he ?_
          have h := ih (i + 1) out done (by omega) (by omega)
          simpa [he] using h
        · refine Ev.ifn he (Ev.ifp (by omega) ?_)
          have h := ih (i + 1) (out ++ [l[i]]) done (by omega) (by simp; omega)
          simpa [he] using h
    refine Ev.step (fun k => by rw [wigeonref01_put.l0]) (Ev.ifp (by omega) ?_)
    cases done with
    | true => exact Ev.ifp rfl (hj false (by simp))
    | false =>
      refine Ev.ifn (by decide) (Ev.ifp (by omega) (hj _ ?_))
      rw [rdOf_at l i hil]
      rfl
theorem putF_done (a : ByteArray) : ∀ (l : List ByteArray), (∀ y ∈ l, txtB y ≠ txtB a) → putF a l true = l
  | [], _ => rfl
  | y :: l, h => by
    have h1 : ¬ y.toList = a.toList := by rw [toList_txt, toList_txt]; exact h y (List.mem_cons_self ..)
    unfold putF
    rw [if_neg (by simp), if_neg h1, Bool.true_or, putF_done a l (fun z hz => h z (List.mem_cons_of_mem _ hz))]
    rfl
theorem putF_putT (a : ByteArray) : ∀ (l : List ByteArray), Asc (l.map txtB) → (putF a l false).map txtB = putT (txtB a) (l.map txtB)
  | [], _ => rfl
  | y :: l, h => by
    have h' := List.pairwise_cons.1 h
    have hy : ∀ z ∈ l, txtB y < txtB z := fun z hz => h'.1 _ (List.mem_map.2 ⟨z, hz, rfl⟩)
    unfold putF
    rw [lessB_eq, toList_txt, toList_txt]
    show _ = putT (txtB a) (txtB y :: l.map txtB)
    unfold putT
    rcases txt_tri (txtB a) (txtB y) with g | g | g
    · have g1 : ¬ txtB y < txtB a := fun q => txt_irrefl _ (txt_trans g q)
      have g2 : ¬ txtB y = txtB a := fun q => txt_irrefl _ (q ▸ g)
      rw [if_pos g, decide_eq_false g1, if_neg g2, if_pos (by decide)]
      rw [show (false || !false) = true from rfl, putF_done a l (fun z hz q => txt_irrefl _ (q ▸ txt_trans g (hy z hz)))]
      rfl
    · have g1 : ¬ txtB y < txtB a := fun q => txt_irrefl _ (g ▸ q)
      have g3 : ¬ txtB a < txtB y := fun q => txt_irrefl _ (g ▸ q)
      rw [if_neg g3, if_pos g, decide_eq_false g1, if_pos g.symm, if_pos (by decide)]
      rw [show (false || !false) = true from rfl, putF_done a l (fun z hz q => txt_irrefl (txtB y) (by have := hy z hz; rw [q, g] at this; exact this))]
      simp [g]
    · have g3 : ¬ txtB a < txtB y := fun q => txt_irrefl _ (txt_trans g q)
      have g2 : ¬ txtB y = txtB a := fun q => txt_irrefl _ (q ▸ g)
      have g4 : ¬ txtB a = txtB y := fun q => g2 q.symm
      rw [if_neg g3, if_neg g4, decide_eq_true g, if_neg g2, if_neg (show ¬ (!false && !true) = true by decide)]
      rw [show (false || !true) = false from rfl]
      have ih := putF_putT a l h'.2
      simp [ih]
theorem put_ev (T : List Txt) (hT : Asc T) (a : ByteArray) (hl : T.length ≤ 1000) : Ev (fun k => wigeonref01_put.f k (T.map backT) a) ((putT (txtB a) T).map backT) := by
  unfold wigeonref01_put.f
  have h := put_loop (T.map backT) a (by rw [List.length_map]; exact hl) (T.map backT).length 0 [] false (by omega) (by simp)
  have e := putF_putT a (T.map backT) (by rw [map_txt_back]; exact hT)
  rw [map_txt_back] at e
  rw [List.drop_zero, List.nil_append, ← map_back_txt (putF a (T.map backT) false), e] at h
  exact h
theorem same_loop (l m : List ByteArray) (h : l = m) (hl : l.length ≤ 100000) (d : Nat) : ∀ i : Nat, i + d = l.length → Ev (fun k => wigeonref01_SameTexts.l0 k l m (i : Int)) true := by
  subst h
  induction d with
  | zero => exact fun i hi => Ev.step (fun k => by rw [wigeonref01_SameTexts.l0]) (Ev.ifn (by omega) (Ev.now _))
  | succ d ih =>
    intro i hi
    refine Ev.step (fun k => by rw [wigeonref01_SameTexts.l0]) (Ev.ifp (by omega) (Ev.ifp (by omega) (Ev.ifp (by omega) (Ev.ifp rfl ?_))))
    have hw : wrap64 ((i : Int) + 1) = ((i + 1 : Nat) : Int) := by rw [w64 (by omega) (by omega)]; omega
    rw [hw]
    exact ih (i + 1) (by omega)
theorem same_ev (l : List ByteArray) (hl : l.length ≤ 100000) : Ev (fun k => wigeonref01_SameTexts.f k l l) true := by
  unfold wigeonref01_SameTexts.f
  exact Ev.ifp rfl (same_loop l l rfl hl l.length 0 (by omega))

end Go.Proofs.Ytlbhighbhchdmaa.Pure
