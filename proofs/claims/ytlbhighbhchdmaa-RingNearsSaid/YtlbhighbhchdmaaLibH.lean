import Derived.Test.YtlbhighbhchdmaaQx9
import Derived.Test.YtlbhighbhchdmaaQx12
import Derived.Test.YtlbhighbhchdmaaQx13
import Derived.Test.YtlbhighbhchdmaaQx21
import Derived.Test.YtlbhighbhchdmaaQx22
import Derived.Test.YtlbhighbhchdmaaQx23
import Derived.Test.YtlbhighbhchdmaaLibF
namespace Go.Proofs.Ytlbhighbhchdmaa.Pure
open Go.RowKit Go.Proofs.Ytlbhighbhchdmaa.Q Go.Proofs.YtlbhighbhchdmaaW.PrintWords Go.Proofs.YtlbhighbhchdmaaW.PrintLast

/-! Worn rings: their digits, and the rings that fit. -/
theorem tnQ_tn (x n : Nat) : tnQ x n = tn x n := by
  induction n generalizing x with
  | zero => rfl
  | succ n ih => exact ih _
/-- The digits behind the letters are digits or can't be read. -/
def DF (b : ByteArray) : Prop := 6 ≤ b.size ∧ ∀ m, m < 6 → bt b ((b.size - 6 + m : Nat) : Int) = 63 ∨ (48 ≤ bt b ((b.size - 6 + m : Nat) : Int) ∧ bt b ((b.size - 6 + m : Nat) : Int) ≤ 57)
def wornL (b : ByteArray) : List Int := (List.range 6).map (fun m : Nat => if bt b ((b.size - 6 + m : Nat) : Int) = 63 then -1 else bt b ((b.size - 6 + m : Nat) : Int) - 48)
theorem wornL_length (b : ByteArray) : (wornL b).length = 6 := by simp [wornL]
theorem wornL_at (b : ByteArray) (m : Nat) (h : m < 6) : rd (wornL b) (m : Int) = if bt b ((b.size - 6 + m : Nat) : Int) = 63 then -1 else bt b ((b.size - 6 + m : Nat) : Int) - 48 := by
  rw [rd_lt _ _ (by rw [wornL_length]; exact h)]
  simp [wornL]
theorem okL_oS {b : ByteArray} (h : DF b) {j d : Nat} (hj : j < 6) (_ : d < 10) : okL (wornL b) j d = oS b j d := by
  obtain ⟨h6, h⟩ := h
  unfold okL oS okQ
  have e0 : (5 - (j : Int)) = ((5 - j : Nat) : Int) := by omega
  have h1 := h (5 - j) (by omega)
  rw [e0, wornL_at b (5 - j) (by omega)]
  rw [show b.size - 6 + (5 - j) = b.size - 1 - j by omega] at h1 ⊢
  generalize bt b ((b.size - 1 - j : Nat) : Int) = c at *
  by_cases hc : c = 63
  · subst hc
    simp
  · rw [if_neg hc]
    rcases h1 with h1 | h1
    · exact absurd h1 hc
    · rw [show (c == 63) = false from beq_eq_false_iff_ne.mpr hc, Bool.false_or, decide_eq_false (by omega), Bool.or_false, Bool.eq_iff_iff, beq_iff_eq, beq_iff_eq]
      omega
theorem count_link {b : ByteArray} (h : DF b) : gN (cntT (wornL b) 6) 0 = gN (waysT b 6) 0 := by
  rw [cntT_get _ 6 0 (Nat.le_refl 6) (by decide), waysT_get b 6 0 h.1 (by decide), wT_congr (fun j d hj hd => okL_oS h hj hd) 0 (by decide)]
theorem good_link {b : ByteArray} (h : DF b) : goodL (wornL b) = goodB b := by
  unfold goodL goodB
  rw [count_link h]
theorem DF_of {s : ByteArray} (h7 : 7 ≤ s.size) (h : ∀ i, i < s.size → okb true (s.size - 6) i (bt s i) = true) : DF s := by
  refine ⟨by omega, fun m hm => ?_⟩
  have h1 := h (s.size - 6 + m) (by omega)
  unfold okb at h1
  rw [if_pos (by omega)] at h1
  generalize bt s ((s.size - 6 + m : Nat) : Int) = c at *
  simp at h1
  omega
theorem worn_loop (s : ByteArray) (h6 : 6 ≤ s.size) (h8 : s.size ≤ 1000) (d : Nat) : ∀ j : Nat, j + d = 6 → Ev (fun k => wigeonref01_wornDigits.l0 k s ((wornL s).take j) ((s.size - 6 + j : Nat) : Int)) (wornL s) := by
  induction d with
  | zero =>
    intro j hj
    refine Ev.step (fun k => by rw [wigeonref01_wornDigits.l0]) (Ev.ifn (by omega) (Ev.val ?_))
    exact List.take_of_length_le (by rw [wornL_length]; omega)
  | succ d ih =>
    intro j hj
    have hb := bt_range s ((s.size - 6 + j : Nat) : Int)
    have e1 : wrap64 (((s.size - 6 + j : Nat) : Int) + 1) = ((s.size - 6 + (j + 1) : Nat) : Int) := by rw [w64 (by omega) (by omega)]; omega
    have e2 : wrap64 (wrap64 (bt s ((s.size - 6 + j : Nat) : Int)) - 48) = bt s ((s.size - 6 + j : Nat) : Int) - 48 := by rw [w64 (n := bt s ((s.size - 6 + j : Nat) : Int)) (by omega) (by omega), w64 (by omega) (by omega)]
    have e3 : (wornL s).take (j + 1) = (wornL s).take j ++ [if bt s ((s.size - 6 + j : Nat) : Int) = 63 then -1 else bt s ((s.size - 6 + j : Nat) : Int) - 48] := by
      rw [List.take_succ_eq_append_getElem (by rw [wornL_length]; omega)]
      simp [wornL]
    have hr := ih (j + 1) (by omega)
    rw [e3] at hr
    refine Ev.step (fun k => by rw [wigeonref01_wornDigits.l0]) (Ev.ifp (by omega) (Ev.ifp (by omega) ?_))
    rw [e1, e2]
    by_cases h : bt s ((s.size - 6 + j : Nat) : Int) = 63
    · rw [if_pos h] at hr
      exact Ev.ifp h (Ev.ifp (by rw [List.length_take]; omega) hr)
    · rw [if_neg h] at hr
      exact Ev.ifn h (Ev.ifp (by rw [List.length_take]; omega) hr)
theorem worn_ev (s : ByteArray) (h6 : 6 ≤ s.size) (h8 : s.size ≤ 1000) : Ev (fun k => wigeonref01_wornDigits.f k s) (wornL s) := by
  unfold wigeonref01_wornDigits.f
  have h := worn_loop s h6 h8 6 0 (by omega)
  rw [w64 (by omega) (by omega), show (s.size : Int) - 6 = ((s.size - 6 + 0 : Nat) : Int) by omega]
  exact h
theorem Count_eq {s : ByteArray} (hs : s.size ≤ 140737488351232) : ring_Count.f s = some (countP s) := by
  unfold ring_Count.f
  rw [if_pos (by omega)]
theorem First_eq {s : ByteArray} (hs : s.size ≤ 140737488351232) : ring_First.f s = some (firstP s) := by
  unfold ring_First.f
  rw [if_pos (by omega)]
theorem rCount_ev (s : ByteArray) : Ev (fun k => wigeonref01_Count.f k s) (countP s) := by
  unfold wigeonref01_Count.f countP
  refine Ev.bind (rIsWorn_ev s) ?_
  by_cases hf : (formP s true).2 = true
  · simp only [if_pos hf]
    obtain ⟨h7, h8, _, h⟩ := formP_true hf
    refine Ev.bind (worn_ev s (by omega) (by omega)) (Ev.ifp ⟨wornL_length s, by omega, h8⟩ (Ev.val ?_))
    rw [count_link (DF_of h7 h)]
  · simp only [if_neg hf]
    exact Ev.now _
theorem list6_ext {l m : List Int} (hl : l.length = 6) (hm : m.length = 6) (h : ∀ i : Nat, i < 6 → rd l (i : Int) = rd m (i : Int)) : l = m := by
  refine List.ext_getElem (by omega) (fun i h1 h2 => ?_)
  have := h i (by omega)
  rwa [rd_lt l i h1, rd_lt m i h2] at this
theorem dig8_bt {b : ByteArray} {i d : Nat} (hi : i < b.size) (hd : d < 10) : bt (putB b i (dig8 d)) (i : Int) = 48 + (d : Int) := by
  rw [putB_same b i _ hi, dig8_nat hd]
  omega
theorem DF_put {b : ByteArray} (h : DF b) (m : Nat) (hm : m < 6) (d : Nat) (hd : d < 10) : DF (putB b (b.size - 6 + m) (dig8 d)) := by
  obtain ⟨h6, h⟩ := h
  refine ⟨by rw [putB_size]; exact h6, fun q hq => ?_⟩
  rw [putB_size]
  by_cases e : q = m
  · subst e
    rw [dig8_bt (by omega) hd]
    omega
  · rw [putB_other b _ _ _ (by omega) (by omega)]
    exact h q hq
theorem wornL_put {b : ByteArray} (h6 : 6 ≤ b.size) (m : Nat) (hm : m < 6) (d : Nat) (hd : d < 10) : wornL (putB b (b.size - 6 + m) (dig8 d)) = (wornL b).set m (d : Int) := by
  refine list6_ext (wornL_length _) (by rw [List.length_set, wornL_length]) (fun q hq => ?_)
  rw [wornL_at _ q hq, putB_size]
  by_cases e : q = m
  · subst e
    rw [dig8_bt (by omega) hd, rd_set_same _ _ _ (by rw [wornL_length]; exact hq), if_neg (by omega)]
    omega
  · rw [putB_other b _ _ _ (by omega) (by omega), rd_set_other _ _ _ _ e, wornL_at b q hq]
theorem leastD_congr {p q : Nat → Bool} : ∀ k e, (∀ d, d < e + k → p d = q d) → leastD p k e = leastD q k e := by
  intro k
  induction k with
  | zero => intro e _; rfl
  | succ k ih =>
    intro e h
    unfold leastD
    rw [h e (by omega), ih (e + 1) (fun d hd => h d (by omega))]
theorem pick_link {b : ByteArray} (h : DF b) (m : Nat) (hm : m < 6) : pickL (wornL b) m = pickB b (b.size - 6 + m) := by
  unfold pickL pickB
  refine leastD_congr 10 0 (fun d hd => ?_)
  show goodL ((wornL b).set m (d : Int)) = goodB (putB b (b.size - 6 + m) (dig8 d))
  rw [← wornL_put h.1 m hm d (by omega), good_link (DF_put h m hm d (by omega))]
theorem fst_link {n : Nat} {s : ByteArray} (hs : s.size = n + 6) (hD : DF s) (hg : goodB s = true) : ∀ i, i ≤ 6 → DF (fstB n s (n + i)) ∧ wornL (fstB n s (n + i)) = fstL (wornL s) i := by
  have hn : s.size - 6 = n := by omega
  intro i
  induction i with
  | zero =>
    intro _
    have hb : ∀ m, m < 6 → bt (fstB n s (n + 0)) (((fstB n s (n + 0)).size - 6 + m : Nat) : Int) = bt s ((s.size - 6 + m : Nat) : Int) := fun m hm => by
      rw [fstB_size, fstB_later n s _ _ (by omega) (by omega)]
    refine ⟨⟨by rw [fstB_size]; omega, fun m hm => ?_⟩, ?_⟩
    · rw [hb m hm]
      exact hD.2 m hm
    · refine list6_ext (wornL_length _) (by rw [show fstL (wornL s) 0 = wornL s from rfl, wornL_length]) (fun q hq => ?_)
      rw [show fstL (wornL s) 0 = wornL s from rfl, wornL_at _ q hq, wornL_at _ q hq, hb q hq]
  | succ i ih =>
    intro hi
    obtain ⟨h1, h2⟩ := ih (by omega)
    have hsz := fstB_size n s (n + i)
    have hgi := fstB_good hs hg (n + i) (by omega)
    have hp : (fstB n s (n + i)).size - 6 + i = n + i := by omega
    have hw := wornL_at (fstB n s (n + i)) i (by omega)
    have hd := h1.2 i (by omega)
    rw [hp] at hw hd
    rw [h2] at hw
    rw [show n + (i + 1) = (n + i) + 1 by omega]
    unfold fstB fstL
    by_cases h63 : bt (fstB n s (n + i)) ((n + i : Nat) : Int) = 63
    · rw [if_pos h63] at hw
      have hpk := pick_link h1 i (by omega)
      rw [h2, hp] at hpk
      have hlt := (pickB_spec (pick_some (by omega) (by omega) (by omega) h63 hgi)).1
      rw [if_pos h63, if_neg (show ¬ n + i < n by omega), if_pos (show rd (fstL (wornL s) i) (i : Int) < 0 by rw [hw]; decide), hpk]
      have h3 := DF_put h1 i (by omega) _ hlt
      have h4 := wornL_put h1.1 i (by omega) _ hlt
      rw [hp] at h3 h4
      rw [h2] at h4
      exact ⟨h3, h4⟩
    · rw [if_neg h63] at hw
      rw [if_neg h63, if_neg (show ¬ rd (fstL (wornL s) i) (i : Int) < 0 by omega)]
      exact ⟨h1, h2⟩
theorem fstB_done (n : Nat) (s : ByteArray) (i : Nat) (hi : i < s.size) : ∀ j, i < j → bt (fstB n s j) (i : Int) = bt (fstB n s (i + 1)) (i : Int) := by
  intro j
  induction j with
  | zero => intro h; omega
  | succ j ih =>
    intro h
    by_cases e : i = j
    · rw [e]
    · rw [← ih (by omega)]
      show bt (if _ then (if _ then _ else _) else _) _ = _
      split
      · split
        · exact putB_other _ _ _ _ (by rw [fstB_size]; exact hi) e
        · exact putB_other _ _ _ _ (by rw [fstB_size]; exact hi) e
      · rfl
/-- The first ring that fits: its letters, and its digits. -/
theorem fst_letter {n : Nat} {s : ByteArray} (hs : s.size = n + 6) (i : Nat) (hi : i < n) : bt (fstB n s s.size) (i : Int) = if bt s (i : Int) = 63 then 65 else bt s (i : Int) := by
  rw [fstB_done n s i (by omega) s.size (by omega)]
  have h := fstB_later n s i i (Nat.le_refl i) (by omega)
  unfold fstB
  rw [h]
  by_cases h63 : bt s (i : Int) = 63
  · rw [if_pos h63, if_pos hi, if_pos h63, putB_same _ _ _ (by rw [fstB_size]; omega)]
    rfl
  · rw [if_neg h63, if_neg h63, h]
theorem fst_digit {n : Nat} {s : ByteArray} (hs : s.size = n + 6) (hD : DF s) (hg : goodB s = true) (m : Nat) (hm : m < 6) : 48 ≤ bt (fstB n s s.size) ((n + m : Nat) : Int) ∧ bt (fstB n s s.size) ((n + m : Nat) : Int) ≤ 57 := by
  rw [fstB_done n s (n + m) (by omega) s.size (by omega)]
  obtain ⟨h1, _⟩ := fst_link hs hD hg m (by omega)
  have hd := h1.2 m hm
  have hsz := fstB_size n s (n + m)
  rw [show (fstB n s (n + m)).size - 6 + m = n + m by omega] at hd
  have hgi := fstB_good hs hg (n + m) (by omega)
  unfold fstB
  by_cases h63 : bt (fstB n s (n + m)) ((n + m : Nat) : Int) = 63
  · have hlt := (pickB_spec (pick_some (by omega) (by omega) (by omega) h63 hgi)).1
    rw [if_pos h63, if_neg (show ¬ n + m < n by omega), dig8_bt (by omega) hlt]
    omega
  · rw [if_neg h63]
    omega
theorem tail_worn {c : ByteArray} (h : ∀ m, m < 6 → 48 ≤ bt c ((c.size - 6 + m : Nat) : Int) ∧ bt c ((c.size - 6 + m : Nat) : Int) ≤ 57) : wornL c = tailI c := by
  refine list6_ext (wornL_length _) (tailI_length _) (fun q hq => ?_)
  have := h q hq
  rw [wornL_at _ q hq, tail_at q hq, if_neg (by omega)]
theorem bytes_ext {a b : ByteArray} (hs : a.size = b.size) (h : ∀ i : Nat, i < a.size → bt a (i : Int) = bt b (i : Int)) : a = b := by
  apply ByteArray.ext
  refine Array.ext hs (fun i h1 h2 => ?_)
  have h3 := h i h1
  rw [bt_of (s := a) h1, bt_of (s := b) h2] at h3
  have h4 : (a[i]'h1).toNat = (b[i]'h2).toNat := by omega
  exact UInt8.toNat_inj.mp h4
theorem serT_at (s : ByteArray) (n : Nat) (hn : n ≤ s.size) (i : Nat) (hi : i < n) : bt (serT s n) (i : Int) = if bt s (i : Int) = 63 then 65 else bt s (i : Int) := by
  induction n with
  | zero => omega
  | succ n ih =>
    have hsz := serT_size s n (by omega)
    have hcat : ∀ x : ByteArray, x.size = 1 → bt (serT s n ++ x) (i : Int) = if i < n then bt (serT s n) (i : Int) else bt x 0 := by
      intro x hx
      by_cases h : i < n
      · rw [if_pos h, bt_of (s := serT s n ++ x) (p := i) (by rw [ByteArray.size_append]; omega), bt_of (s := serT s n) (p := i) (by omega), ByteArray.getElem_append_left]
      · have e : i = n := by omega
        have h0 : bt x 0 = bt x ((0 : Nat) : Int) := rfl
        rw [if_neg h, h0, bt_of (s := serT s n ++ x) (p := i) (by rw [ByteArray.size_append]; omega), bt_of (s := x) (p := 0) (by omega), ByteArray.getElem_append_right (by omega)]
        congr 2
        simp only [hsz, e, Nat.sub_self]
    unfold serT
    by_cases hq : bt s (n : Int) = 63
    · rw [if_pos hq, hcat _ rfl]
      by_cases h : i < n
      · rw [if_pos h]
        exact ih (by omega) h
      · have e : i = n := by omega
        rw [if_neg h, e, if_pos hq]
        rfl
    · have hxs : (s.extract n (n + 1)).size = 1 := by rw [ByteArray.size_extract]; omega
      rw [if_neg hq, hcat _ hxs]
      by_cases h : i < n
      · rw [if_pos h]
        exact ih (by omega) h
      · have e : i = n := by omega
        have h0 : bt (s.extract n (n + 1)) 0 = bt (s.extract n (n + 1)) ((0 : Nat) : Int) := rfl
        rw [if_neg h, e, if_neg hq, h0, bt_of (s := s.extract n (n + 1)) (p := 0) (by omega), bt_of (s := s) (p := n) (by omega)]
        congr 2
        simp [ByteArray.getElem_extract]
theorem first_text {n : Nat} {s : ByteArray} (hs : s.size = n + 6) (hD : DF s) (hg : goodB s = true) : (⟨(serT s n).data ++ ((fstL (wornL s) 6).map Q.byteOf).toArray⟩ : ByteArray) = fstB n s s.size := by
  have hsz := fstB_size n s s.size
  have hser := serT_size s n (by omega)
  have e1 : fstL (wornL s) 6 = tailI (fstB n s s.size) := by
    rw [← (fst_link hs hD hg 6 (Nat.le_refl 6)).2, ← hs]
    exact tail_worn (fun m hm => by rw [hsz, show s.size - 6 + m = n + m by omega]; exact fst_digit hs hD hg m hm)
  rw [e1]
  have hlen : ((tailI (fstB n s s.size)).map Q.byteOf).length = 6 := by rw [List.length_map, tailI_length]
  refine bytes_ext (by rw [join_size, hlen, hser, hsz, hs]) (fun i hi => ?_)
  rw [join_size, hlen, hser] at hi
  by_cases h : i < n
  · rw [join_left _ _ _ (by omega), serT_at s n (by omega) i h, fst_letter hs i h]
  · obtain ⟨m, rfl⟩ : ∃ m, i = n + m := ⟨i - n, by omega⟩
    have hm : m < 6 := by omega
    have hd := fst_digit hs hD hg m hm
    have hj := join_right (serT s n) ((tailI (fstB n s s.size)).map Q.byteOf) m (by omega)
    rw [hser] at hj
    rw [hj]
    have ht := tail_at (s := fstB n s s.size) m hm
    rw [hsz, show s.size - 6 + m = n + m by omega] at ht
    have e3 : ((tailI (fstB n s s.size)).map Q.byteOf)[m]'(by omega) = Q.byteOf (rd (tailI (fstB n s s.size)) (m : Int)) := by
      rw [List.getElem_map, rd_lt _ _ (by rw [tailI_length]; exact hm)]
    rw [e3, ht, byteOf_toNat (by omega) (by omega)]
    omega
theorem First_form {n : Nat} {s : ByteArray} (hs : s.size = n + 6) (h7 : 7 ≤ s.size) (h8 : s.size ≤ 8) (hok : ∀ i, i < s.size → okb true (s.size - 6) i (bt s i) = true) (hg : goodB s = true) : (formP (fstB n s s.size) false).2 = true := by
  have hsz := fstB_size n s s.size
  rw [formP_good (by omega) (by omega)]
  intro i hi
  rw [hsz] at hi ⊢
  have h1 := hok i hi
  unfold okb at h1 ⊢
  by_cases h : i < n
  · rw [if_neg (by omega)] at h1 ⊢
    rw [fst_letter hs i h]
    simp at h1 ⊢
    split <;> omega
  · obtain ⟨m, rfl⟩ : ∃ m, i = n + m := ⟨i - n, by omega⟩
    have hd := fst_digit hs (DF_of h7 hok) hg m (by omega)
    rw [if_pos (by omega)]
    simp
    exact hd
theorem sum_cS (l : List Nat) (hl : l.length = 6) : sum0 l 0 = cS (fun j => l.getD (5 - j) 0) 6 := by
  match l, hl with
  | [a, b, c, d, e, f], _ =>
    show tm (tm (tm (tm (tm (tm 0 (tn f 0)) (tn e 1)) (tn d 2)) (tn c 3)) (tn b 4)) (tn a 5) = tmQ (tmQ (tmQ (tmQ (tmQ (tmQ 0 (tnQ f 0)) (tnQ e 1)) (tnQ d 2)) (tnQ c 3)) (tnQ b 4)) (tnQ a 5)
    rfl
theorem tailN_at {c : ByteArray} (m : Nat) (hm : m < 6) : (tailN c).getD m 0 = (bt c ((c.size - 6 + m : Nat) : Int) - 48).toNat := by
  unfold tailN
  rw [List.getD_eq_getElem?_getD, List.getElem?_map, List.getElem?_eq_getElem (by rw [tailI_length]; exact hm)]
  simp [tailI]
/-- A text without worn digits: in how many ways it has the sum 0. -/
theorem good_sum {c : ByteArray} (h6 : 6 ≤ c.size) (h : ∀ m, m < 6 → 48 ≤ bt c ((c.size - 6 + m : Nat) : Int) ∧ bt c ((c.size - 6 + m : Nat) : Int) ≤ 57) : gN (waysT c 6) 0 = if sum0 (tailN c) 0 = 0 then 1 else 0 := by
  have hx : ∀ j, j < 6 → (tailN c).getD (5 - j) 0 < 10 := fun j hj => by
    have := h (5 - j) (by omega)
    rw [tailN_at (5 - j) (by omega)]
    omega
  have h2 : ∀ j d, j < 6 → d < 10 → oS c j d = decide (d = (tailN c).getD (5 - j) 0) := fun j d hj hd => by
    have h1 := h (5 - j) (by omega)
    rw [tailN_at (5 - j) (by omega)]
    unfold oS okQ
    rw [show c.size - 6 + (5 - j) = c.size - 1 - j by omega] at h1 ⊢
    generalize bt c ((c.size - 1 - j : Nat) : Int) = x at *
    rw [show (x == 63) = false from beq_eq_false_iff_ne.mpr (by omega), Bool.false_or, Bool.eq_iff_iff, beq_iff_eq, decide_eq_true_eq]
    omega
  rw [waysT_get c 6 0 h6 (by decide), wT_fixed hx h2 0, sum_cS (tailN c) (tailN_length c)]
  by_cases e : cS (fun j => (tailN c).getD (5 - j) 0) 6 = 0
  · rw [if_pos e, if_pos e.symm]
  · rw [if_neg e, if_neg (fun q => e q.symm)]
theorem rFirst_ev (s : ByteArray) : Ev (fun k => wigeonref01_First.f k s) (firstP s) := by
  unfold wigeonref01_First.f firstP
  refine Ev.bind (rIsWorn_ev s) ?_
  by_cases hf : (formP s true).2 = true
  · simp only [if_pos hf]
    obtain ⟨h7, h8, _, h⟩ := formP_true hf
    have hD := DF_of h7 h
    refine Ev.bind (worn_ev s (by omega) (by omega)) (Ev.ifp ⟨wornL_length s, by omega, h8⟩ ?_)
    rw [count_link hD]
    by_cases hz : gN (waysT s 6) 0 = 0
    · rw [if_pos hz]
      exact Ev.ifp hz (Ev.now _)
    · rw [if_neg hz]
      refine Ev.ifn hz ?_
      have hg : goodB s = true := decide_eq_true hz
      have hs : s.size = (s.size - 6) + 6 := by omega
      have hser := serT_size s (s.size - 6) (by omega)
      have hr : ∀ x ∈ fstL (wornL s) 6, 0 ≤ x ∧ x ≤ 9 := by
        have e := (fst_link hs hD hg 6 (Nat.le_refl 6)).2
        rw [← hs] at e
        rw [← e, tail_worn (fun m hm => by rw [fstB_size]; exact fst_digit hs hD hg m hm)]
        intro x hx
        obtain ⟨m, hm, rfl⟩ := List.mem_map.1 hx
        have := fst_digit hs hD hg m (List.mem_range.1 hm)
        rw [fstB_size]
        omega
      have ht := text_loop (fstL (wornL s) 6) hr (by rw [fstL_length, wornL_length]; omega) (serT s (s.size - 6)) (by omega) (fstL (wornL s) 6).length 0 (by omega)
      rw [first_text hs hD hg] at ht
      have ht2 : Ev (fun k => wigeonref01_text.f k (serT s (s.size - 6)) (fstL (wornL s) 6)) (fstB (s.size - 6) s s.size) := by
        unfold wigeonref01_text.f
        simpa using ht
      exact Ev.bind ht2 (Ev.now _)
  · simp only [if_neg hf]
    exact Ev.now _
/-- The first ring that fits is a ring. -/
theorem First_valid {s : ByteArray} (h7 : 7 ≤ s.size) (h8 : s.size ≤ 8) (hok : ∀ i, i < s.size → okb true (s.size - 6) i (bt s i) = true) (hg : goodB s = true) : ValidP (fstB (s.size - 6) s s.size) = 0 := by
  have hs : s.size = (s.size - 6) + 6 := by omega
  have hD := DF_of h7 hok
  unfold ValidP
  rw [if_pos (First_form hs h7 h8 hok hg)]
  have hgd := fstB_good hs hg s.size (Nat.le_refl _)
  unfold goodB at hgd
  have h1 := of_decide_eq_true hgd
  rw [good_sum (by rw [fstB_size]; omega) (fun m hm => by rw [fstB_size]; exact fst_digit hs hD hg m hm)] at h1
  by_cases e : sum0 (tailN (fstB (s.size - 6) s s.size)) 0 = 0
  · rw [if_pos e]
  · rw [if_neg e] at h1
    exact absurd rfl h1

theorem fst_keep {n : Nat} {s : ByteArray} (i : Nat) (hi : i < s.size) (h : bt s (i : Int) ≠ 63) : bt (fstB n s s.size) (i : Int) = bt s (i : Int) := by
  rw [fstB_done n s i hi s.size hi]
  have h1 := fstB_later n s i i (Nat.le_refl i) hi
  unfold fstB
  rw [if_neg (by rw [h1]; exact h), h1]
def fitH (a b : ByteArray) : Bool := decide (a.size = b.size) && (List.range a.size).all (fun i => fitB a b i)
def FitsH (a b : ByteArray) : Bool × Int := if (formP a true).2 = true then (if ValidP b = 0 then (fitH a b, 0) else (false, ValidP b)) else (false, 2)
theorem FitsH_ev (a b : ByteArray) (ha : a.size ≤ 140737488351232) (hb : b.size ≤ 140737488351232) : Ev (fun k => ring_Fits.f k a b) (FitsH a b) := by
  unfold ring_Fits.f FitsH
  refine Ev.bindc (IsWorn_eq ha) ?_
  by_cases hf : (formP a true).2 = true
  · simp only [if_pos hf]
    obtain ⟨h7, h8, _⟩ := formP_true hf
    refine Ev.bind (Valid_ev b hb) ?_
    by_cases hv : ValidP b = 0
    · simp only [if_pos hv]
      have e : ring_fits.f a b = some (fitH a b) := by unfold ring_fits.f; rw [if_pos (by omega)]; rfl
      exact Ev.bindc e (Ev.now _)
    · simp only [if_neg hv]
      exact Ev.now _
  · simp only [if_neg hf]
    exact Ev.now _
theorem First_fits (n : Nat) (s : ByteArray) : fitH s (fstB n s s.size) = true := by
  unfold fitH
  rw [decide_eq_true (fstB_size n s s.size).symm, Bool.true_and]
  refine fit_all (fun i hi => ?_)
  unfold fitB
  by_cases h : bt s (i : Int) = 63
  · rw [h]
    rfl
  · rw [fst_keep i hi h]
    simp

end Go.Proofs.Ytlbhighbhchdmaa.Pure
