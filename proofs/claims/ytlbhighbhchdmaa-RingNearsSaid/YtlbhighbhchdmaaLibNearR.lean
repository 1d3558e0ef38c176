/- The document's list of near rings, and that none is near to a ring. For all texts. -/
import Derived.Test.YtlbhighbhchdmaaQx4
import Derived.Test.YtlbhighbhchdmaaQx9
import Derived.Test.YtlbhighbhchdmaaQx12
import Derived.Test.YtlbhighbhchdmaaQx13
import Derived.Test.YtlbhighbhchdmaaQx22
import Derived.Test.YtlbhighbhchdmaaQx32
import Derived.Test.YtlbhighbhchdmaaQx33
import Derived.Test.YtlbhighbhchdmaaLibPut
namespace Go.Proofs.Ytlbhighbhchdmaa.Pure
open Go.RowKit Go.Proofs.Ytlbhighbhchdmaa.Q Go.Proofs.YtlbhighbhchdmaaW.PrintWords Go.Proofs.YtlbhighbhchdmaaW.PrintLast

theorem putT_len (x : Txt) : ∀ l : List Txt, (putT x l).length ≤ l.length + 1
  | [] => Nat.le_refl _
  | y :: l => by
    unfold putT
    have := putT_len x l
    by_cases h : x < y
    · rw [if_pos h]; simp
    · rw [if_neg h]
      by_cases h2 : x = y
      · rw [if_pos h2]; simp
      · rw [if_neg h2]; simp; omega
theorem goT_cons (s : ByteArray) (T : List Txt) (x : ByteArray) (l : List ByteArray) : goT s T (x :: l) = goT s (if isNew s x = true then putT (txtB x) T else T) l := by
  rw [← goT_one, ← goT_append]
  rfl
theorem nats_of {t : List Int} (hd : ∀ x ∈ t, 0 ≤ x ∧ x ≤ 9) : t = (t.map Int.toNat).map (fun n : Nat => (n : Int)) ∧ Digs (t.map Int.toNat) := by
  obtain ⟨m, e, hm⟩ := digs_of t hd
  have e2 : t.map Int.toNat = m := by rw [e, map_toNat]
  rw [e2]
  exact ⟨e, hm⟩
theorem text_ev {s : ByteArray} (h8 : s.size ≤ 8) {t : List Int} (ht : t.length = 6) (hd : ∀ x ∈ t, 0 ≤ x ∧ x ≤ 9) : Ev (fun k => wigeonref01_text.f k (s.extract 0 (s.size - 6)) t) (candT s t) := by
  have h := text_loop t hd (by omega) (s.extract 0 (s.size - 6)) (by rw [ByteArray.size_extract]; omega) t.length 0 (by omega)
  have e : (⟨(s.extract 0 (s.size - 6)).data ++ ((t.take 0).map Q.byteOf).toArray⟩ : ByteArray) = s.extract 0 (s.size - 6) := by
    rw [List.take_zero]
    generalize s.extract 0 (s.size - 6) = x
    cases x
    simp
  rw [e] at h
  exact h
theorem try_ev {α : Type} {R : α} {s : ByteArray} (hf : (formP s false).2 = true) {t : List Int} (ht : t.length = 6) (hd : ∀ x ∈ t, 0 ≤ x ∧ x ≤ 9) {T : List Txt} (hT : Asc T) (hl : T.length ≤ 1000) {A : Nat → Option α} {B : Nat → List ByteArray → Option α}
    (hA : isNew s (candT s t) = false → Ev A R) (hB : isNew s (candT s t) = true → Ev (fun k => B k ((putT (txtB (candT s t)) T).map backT)) R) :
    Ev (fun k => (wigeonref01_text.f k (s.extract 0 (s.size - 6)) t).bind fun x => if x.toList = s.toList then A k else (wigeonref01_sum.f k t).bind fun u => if u = 0 then (wigeonref01_put.f k (T.map backT) x).bind fun v => B k v else A k) R := by
  obtain ⟨h7, h8, _, _⟩ := formP_true hf
  obtain ⟨et, hdg⟩ := nats_of hd
  have hs := rsum_ev (t.map Int.toNat) hdg (by rw [List.length_map]; omega)
  rw [← et] at hs
  have hv := candT_valid hf ht hd
  refine Ev.bind (text_ev h8 ht hd) ?_
  by_cases h1 : (candT s t).toList = s.toList
  · refine Ev.ifp h1 (hA ?_)
    have e : candT s t = s := by rw [toList_txt, toList_txt] at h1; exact txtB_inj h1
    unfold isNew
    rw [decide_eq_false (fun q => q e)]
    rfl
  · have e : candT s t ≠ s := fun q => h1 (by rw [q])
    refine Ev.ifn h1 (Ev.bind hs ?_)
    by_cases h2 : sum0 (t.map Int.toNat) 0 = 0
    · rw [if_pos h2] at hv
      refine Ev.ifp (by rw [h2]; rfl) (Ev.bind (put_ev T hT _ hl) (hB ?_))
      unfold isNew
      rw [decide_eq_true e, decide_eq_true hv]
      rfl
    · rw [if_neg h2] at hv
      refine Ev.ifn (by omega) (hA ?_)
      unfold isNew
      rw [hv]
      simp
theorem near_l1 {s : ByteArray} (hf : (formP s false).2 = true) (i : Nat) (hi : i < 6) {R : List ByteArray × Int} (d : Nat) : ∀ (c : Nat) (T : List Txt), c + d = 10 → Asc T → T.length ≤ 11 * i + c →
    Ev (fun k => wigeonref01_Near.l0 k s (s.extract 0 (s.size - 6)) ((goT s T (((List.range' c d).map fun q => putB s (s.size - 6 + i) (dig8 q)) ++ swpA s (s.size - 6) i)).map backT) ((i + 1 : Nat) : Int)) R →
    Ev (fun k => wigeonref01_Near.l1 k s (s.extract 0 (s.size - 6)) (T.map backT) (i : Int) (c : Int)) R := by
  obtain ⟨h7, h8, _, _⟩ := formP_true hf
  have hr := tail_mem_range hf
  have htl := tailI_length s
  have hwi : wrap64 ((i : Int) + 1) = ((i + 1 : Nat) : Int) := by rw [w64 (by omega) (by omega)]; omega
  induction d with
  | zero =>
    intro c T hc hT hl h
    refine Ev.step (fun k => by rw [wigeonref01_Near.l1]) (Ev.ifn (by omega) (Ev.bind (tail_ev s h7 (by omega)) ?_))
    simp only [hwi]
    by_cases h0 : 0 < i
    · have hwj : wrap64 ((i : Int) - 1) = ((i - 1 : Nat) : Int) := by rw [w64 (by omega) (by omega)]; omega
      have r1 := rd_range hr i (by omega)
      have r2 := rd_range hr (i - 1) (by omega)
      have hd := set_range (set_range hr (i - 1) r1.1 r1.2) i r2.1 r2.2
      have hlen : (((tailI s).set (i - 1) (rd (tailI s) (i : Int))).set i (rd (tailI s) ((i - 1 : Nat) : Int))).length = 6 := by rw [List.length_set, List.length_set, htl]
      simp only [hwj, Int.toNat_natCast]
      refine Ev.ifp (by omega) (Ev.ifp (by omega) (Ev.ifp (by omega) (Ev.ifp (by omega) (Ev.ifp (by omega) (Ev.some_bind ?_)))))
      rw [show List.range' c 0 = [] from rfl] at h
      unfold swpA at h
      rw [if_pos h0, ← cand_swapped hf i hi h0, List.map_nil, List.nil_append, goT_one] at h
      refine try_ev hf hlen hd hT (by omega) (fun q => ?_) fun q => ?_
      · rw [if_neg (by rw [q]; decide)] at h
        exact h
      · rw [if_pos q] at h
        exact h
    · refine Ev.ifn (by omega) ?_
      unfold swpA at h
      rw [if_neg h0] at h
      exact h
  | succ d ih =>
    intro c T hc hT hl h
    have hwc : wrap64 ((c : Int) + 1) = ((c + 1 : Nat) : Int) := by rw [w64 (by omega) (by omega)]; omega
    have hd := set_range hr i (c := (c : Int)) (by omega) (by omega)
    refine Ev.step (fun k => by rw [wigeonref01_Near.l1]) ?_
    refine Ev.ifp (by omega) (Ev.bind (tail_ev s h7 (by omega)) ?_)
    refine Ev.ifp (by omega) ?_
    refine Ev.ifp (by omega) ?_
    refine Ev.some_bind ?_
    simp only [hwc, Int.toNat_natCast]
    rw [List.range'_succ, List.map_cons, List.cons_append, ← cand_digit hf i c hi (by omega), goT_cons] at h
    refine try_ev hf (by rw [List.length_set, htl]) hd hT (by omega) (fun q => ?_) fun q => ?_
    · rw [if_neg (by rw [q]; decide)] at h
      exact ih (c + 1) T (by omega) hT (by omega) h
    · rw [if_pos q] at h
      exact ih (c + 1) _ (by omega) (putT_asc _ _ hT) (by have := putT_len (txtB (candT s ((tailI s).set i (c : Int)))) T; omega) h
theorem goT_len (s : ByteArray) : ∀ (l : List ByteArray) (T : List Txt), (goT s T l).length ≤ T.length + l.length
  | [], _ => Nat.le_refl _
  | x :: l, T => by
    rw [goT_cons]
    have h := goT_len s l (if isNew s x = true then putT (txtB x) T else T)
    have h2 : (if isNew s x = true then putT (txtB x) T else T).length ≤ T.length + 1 := by
      split
      · exact putT_len _ _
      · omega
    simp only [List.length_cons]
    omega
theorem near_l0 {s : ByteArray} (hf : (formP s false).2 = true) (d : Nat) : ∀ (i : Nat) (T : List Txt), i + d = 6 → Asc T → T.length ≤ 11 * i →
    Ev (fun k => wigeonref01_Near.l0 k s (s.extract 0 (s.size - 6)) (T.map backT) (i : Int)) ((goT s T ((List.range' i d).flatMap fun i => tryA s (s.size - 6) i ++ swpA s (s.size - 6) i)).map backT, 0) := by
  induction d with
  | zero =>
    intro i T hi hT hl
    refine Ev.step (fun k => by rw [wigeonref01_Near.l0]) ?_
    refine Ev.ifn (by omega) ?_
    exact Ev.now _
  | succ d ih =>
    intro i T hi hT hl
    refine Ev.step (fun k => by rw [wigeonref01_Near.l0]) ?_
    refine Ev.ifp (by omega) ?_
    rw [List.range'_succ, List.flatMap_cons, goT_append]
    refine near_l1 hf i (by omega) 10 0 T rfl hT (by omega) ?_
    have e : ((List.range' 0 10).map fun q => putB s (s.size - 6 + i) (dig8 q)) = tryA s (s.size - 6) i := rfl
    rw [e]
    refine ih (i + 1) _ (by omega) (goT_asc hT _) ?_
    have h := goT_len s (tryA s (s.size - 6) i ++ swpA s (s.size - 6) i) T
    have h2 : (tryA s (s.size - 6) i).length = 10 := by simp [tryA]
    have h3 : (swpA s (s.size - 6) i).length ≤ 1 := by unfold swpA; split <;> simp
    rw [List.length_append] at h
    omega
theorem rNear_ev (s : ByteArray) (hs : s.size ≤ 140737488351232) : Ev (fun k => wigeonref01_Near.f k s) (if (formP s false).2 = true then ((goT s [] (refC s (s.size - 6))).map backT, 0) else ([], 2)) := by
  unfold wigeonref01_Near.f
  refine Ev.bind (formed_ev s false) ?_
  by_cases hf : (formP s false).2 = true
  · rw [if_pos hf]
    obtain ⟨h7, h8, _, _⟩ := formP_true hf
    have hw : wrap64 ((s.size : Int) - 6) = ((s.size - 6 : Nat) : Int) := by rw [w64 (by omega) (by omega)]; omega
    refine Ev.ifp hf ?_
    simp only [hw, Int.toNat_natCast]
    refine Ev.ifp (by omega) (Ev.ifp (by omega) ?_)
    exact near_l0 hf 6 0 [] rfl List.Pairwise.nil (by simp)
  · rw [if_neg hf]
    exact Ev.ifn hf (Ev.now _)
/-! None is near to a ring. -/
theorem set_ne (l : List Nat) (k i x : Nat) (h : i ≠ k) : (l.set k x).getD i 0 = l.getD i 0 := by
  rw [List.getD_eq_getElem?_getD, List.getD_eq_getElem?_getD, List.getElem?_set_ne (Ne.symm h)]
theorem set_self (l : List Nat) (k x : Nat) (h : k < l.length) : (l.set k x).getD k 0 = x := by
  rw [List.getD_eq_getElem?_getD, List.getElem?_set_self h]; rfl
theorem digs_set {l : List Nat} (hl : Digs l) {x : Nat} (hx : x < 10) (k : Nat) : Digs (l.set k x) := by
  refine Digs.of fun y hy => ?_
  rcases List.mem_or_eq_of_mem_set hy with h | h
  · exact hl.mem h
  · omega
theorem one_wrong {m : List Nat} (hm : Digs m) (h0 : sum0 m 0 = 0) {k x : Nat} (hk : k < m.length) (hx : x < 10) (hne : m.getD k 0 ≠ x) : sum0 (m.set k x) 0 ≠ 0 := by
  intro h
  unfold sum0 at h h0
  rw [List.length_set] at h
  refine sumN_wrong (l := m) (m := m.set k x) hm (digs_set hm hx k) (by rw [List.length_set]) 0 k (fun i hi => (set_ne m k i x hi).symm) ?_ m.length hk (c := 0) (by decide) (h0.trans h.symm)
  rw [set_self m k x hk]
  exact hne
theorem two_wrong {m : List Nat} (hm : Digs m) (h0 : sum0 m 0 = 0) {k : Nat} (hk : k + 1 < m.length) (hne : m.getD (k + 1) 0 ≠ m.getD k 0) : sum0 ((m.set k (m.getD (k + 1) 0)).set (k + 1) (m.getD k 0)) 0 ≠ 0 := by
  intro h
  unfold sum0 at h h0
  rw [List.length_set, List.length_set] at h
  refine sumN_swap (l := m) (m := (m.set k (m.getD (k + 1) 0)).set (k + 1) (m.getD k 0)) hm (digs_set (digs_set hm (hm (k + 1)) _) (hm k) _) (by rw [List.length_set, List.length_set]) 0 k (fun i hi hj => ?_) ?_ ?_ (Ne.symm hne) m.length hk (Nat.le_refl _) (c := 0) (by decide) (h0.trans h.symm)
  · rw [set_ne _ (k + 1) i _ hj, set_ne _ k i _ hi]
  · rw [set_self _ (k + 1) _ (by rw [List.length_set]; omega)]
  · rw [set_ne _ (k + 1) k _ (by omega), set_self m k _ (by omega)]
theorem set_same (l : List Int) (i : Nat) (h : i < l.length) : l.set i (rd l (i : Int)) = l := by
  rw [rd_lt _ _ h, List.set_getElem_self]
theorem candT_tail {s : ByteArray} (hf : (formP s false).2 = true) : candT s (tailI s) = s := by
  obtain ⟨h7, _, _, _⟩ := formP_true hf
  exact candT_is (by omega) (tailI_length s) (tail_mem_range hf) rfl (fun _ _ => rfl) fun m hm => tail_bt (by omega) m hm
theorem rd_nat {s : ByteArray} (hf : (formP s false).2 = true) (m : Nat) (hm : m < 6) : rd (tailI s) (m : Int) = (((tailN s).getD m 0 : Nat) : Int) := by
  obtain ⟨h7, _, _, h⟩ := formP_true hf
  obtain ⟨et, _⟩ := tail_cast h7 h
  rw [et, rd_map]
theorem toNat_set (l : List Int) (i : Nat) (x : Int) : (l.set i x).map Int.toNat = (l.map Int.toNat).set i x.toNat := List.map_set ..
/-- Every text that comes from a ring by one small change is no ring, or the ring. -/
theorem ref_none {s : ByteArray} (hv : ValidP s = 0) : ∀ x ∈ refC s (s.size - 6), isNew s x = false := by
  obtain ⟨hf, h0⟩ := ValidP_ok hv
  obtain ⟨h7, h8, _, h⟩ := formP_true hf
  obtain ⟨et, hD⟩ := tail_cast h7 h
  have hr := tail_mem_range hf
  have htl := tailI_length s
  have hNl := tailN_length s
  have key : ∀ t : List Int, t.length = 6 → (∀ x ∈ t, 0 ≤ x ∧ x ≤ 9) → (t ≠ tailI s → sum0 (t.map Int.toNat) 0 ≠ 0) → isNew s (candT s t) = false := by
    intro t ht hd hn
    unfold isNew
    by_cases e : t = tailI s
    · rw [e, candT_tail hf]
      simp
    · have := candT_valid hf ht hd
      rw [if_neg (hn e)] at this
      rw [this]
      simp
  intro x hx
  obtain ⟨i, hi, hx⟩ := List.mem_flatMap.1 hx
  have hi6 := List.mem_range.1 hi
  rcases List.mem_append.1 hx with g | g
  · obtain ⟨c, hc, rfl⟩ := List.mem_map.1 g
    have hc10 := List.mem_range.1 hc
    rw [← cand_digit hf i c hi6 hc10]
    refine key _ (by rw [List.length_set, htl]) (set_range hr i (by omega) (by omega)) fun hne => ?_
    rw [toNat_set]
    refine one_wrong hD h0 (by omega) (by simpa using hc10) fun e => hne ?_
    rw [Int.toNat_natCast] at e
    have e2 := rd_nat hf i hi6
    rw [e] at e2
    rw [← e2, set_same _ _ (by omega)]
  · unfold swpA at g
    by_cases hp : 0 < i
    · rw [if_pos hp] at g
      rw [List.mem_singleton.1 g, ← cand_swapped hf i hi6 hp]
      have r1 := rd_range hr i (by omega)
      have r2 := rd_range hr (i - 1) (by omega)
      refine key _ (by rw [List.length_set, List.length_set, htl]) (set_range (set_range hr (i - 1) r1.1 r1.2) i r2.1 r2.2) fun hne => ?_
      obtain ⟨j, rfl⟩ : ∃ j, i = j + 1 := ⟨i - 1, by omega⟩
      rw [Nat.add_sub_cancel] at hne ⊢
      rw [toNat_set, toNat_set, rd_nat hf (j + 1) hi6, rd_nat hf j (by omega), Int.toNat_natCast, Int.toNat_natCast]
      refine two_wrong hD h0 (by rw [hNl]; exact hi6) fun e => hne ?_
      have e1 := rd_nat hf (j + 1) hi6
      have e2 := rd_nat hf j (by omega)
      have e3 : rd (tailI s) ((j + 1 : Nat) : Int) = rd (tailI s) (j : Int) := by rw [e1, e2, e]
      rw [e3, set_same _ _ (by omega), ← e3, set_same _ _ (by omega)]
    · rw [if_neg hp] at g
      cases g
theorem near_none {s : ByteArray} (hv : ValidP s = 0) : goT s [] (refC s (s.size - 6)) = [] := by
  have h : goodC s (refC s (s.size - 6)) = [] := List.filter_eq_nil_iff.2 fun x hx => by rw [ref_none hv x hx]; decide
  unfold goT
  rw [h]
  rfl

end Go.Proofs.Ytlbhighbhchdmaa.Pure
