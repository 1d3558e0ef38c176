/- The rings that come from a ring's text by one small change, in the program's way and in the document's: the same ones. For all texts. -/
import Derived.Test.YtlbhighbhchdmaaQx9
import Derived.Test.YtlbhighbhchdmaaQx12
import Derived.Test.YtlbhighbhchdmaaQx22
import Derived.Test.YtlbhighbhchdmaaQx23
import Derived.Test.YtlbhighbhchdmaaQx32
import Derived.Test.YtlbhighbhchdmaaLibH
import Derived.Test.YtlbhighbhchdmaaLibSort
import Derived.Test.YtlbhighbhchdmaaNearB
namespace Go.Proofs.Ytlbhighbhchdmaa.Pure
open Go.RowKit Go.Proofs.Ytlbhighbhchdmaa.Q Go.Proofs.YtlbhighbhchdmaaW.PrintWords Go.Proofs.YtlbhighbhchdmaaW.PrintLast

def tryA (s : ByteArray) (n i : Nat) : List ByteArray := (List.range 10).map fun c => putB s (n + i) (dig8 c)
def swpA (s : ByteArray) (n i : Nat) : List ByteArray := if 0 < i then [swapB s (n + (i - 1))] else []
def refC (s : ByteArray) (n : Nat) : List ByteArray := (List.range 6).flatMap fun i => tryA s n i ++ swpA s n i
theorem cand_same (s : ByteArray) (n : Nat) (x : ByteArray) : x ∈ candN s n ↔ x ∈ refC s n := by
  unfold candN refC swpA
  rw [List.mem_flatMap, List.mem_flatMap]
  constructor
  · rintro ⟨i, hi, hx⟩
    have hi6 := List.mem_range.1 hi
    rcases List.mem_append.1 hx with h | h
    · exact ⟨i, hi, List.mem_append.2 (.inl h)⟩
    · by_cases h1 : i + 1 < 6
      · rw [if_pos h1] at h
        refine ⟨i + 1, List.mem_range.2 h1, List.mem_append.2 (.inr ?_)⟩
        rw [if_pos (by omega), Nat.add_sub_cancel]
        exact h
      · rw [if_neg h1] at h; cases h
  · rintro ⟨i, hi, hx⟩
    have hi6 := List.mem_range.1 hi
    rcases List.mem_append.1 hx with h | h
    · exact ⟨i, hi, List.mem_append.2 (.inl h)⟩
    · by_cases h1 : 0 < i
      · rw [if_pos h1] at h
        refine ⟨i - 1, List.mem_range.2 (by omega), List.mem_append.2 (.inr ?_)⟩
        rw [if_pos (by omega)]
        exact h
      · rw [if_neg h1] at h; cases h
/-- Which of them are rings other than the text. -/
def isNew (s : ByteArray) (x : ByteArray) : Bool := decide (x ≠ s) && decide (ValidP x = 0)
def goodC (s : ByteArray) (l : List ByteArray) : List ByteArray := l.filter (isNew s)
def txtB (b : ByteArray) : Txt := b.data.toList
def backT (t : Txt) : ByteArray := ⟨t.toArray⟩
theorem back_txt (b : ByteArray) : backT (txtB b) = b := by cases b; rfl
theorem txt_back (t : Txt) : txtB (backT t) = t := rfl
theorem map_back_txt (l : List ByteArray) : (l.map txtB).map backT = l := by
  rw [List.map_map]
  exact (List.map_congr_left (fun b _ => back_txt b)).trans (List.map_id l)
theorem map_txt_back (l : List Txt) : (l.map backT).map txtB = l := by
  rw [List.map_map]
  exact (List.map_congr_left (fun b _ => txt_back b)).trans (List.map_id l)
theorem txtB_inj {a b : ByteArray} (h : txtB a = txtB b) : a = b := by rw [← back_txt a, h, back_txt]
/-- Candidates put among what is found. -/
def goT (s : ByteArray) (T : List Txt) (l : List ByteArray) : List Txt := putAll T ((goodC s l).map txtB)
theorem putAll_append : ∀ (l m : List Txt) (T : List Txt), putAll T (l ++ m) = putAll (putAll T l) m
  | [], _, _ => rfl
  | x :: l, m, T => putAll_append l m (putT x T)
theorem goT_append (s : ByteArray) (T : List Txt) (l m : List ByteArray) : goT s T (l ++ m) = goT s (goT s T l) m := by
  unfold goT goodC
  rw [List.filter_append, List.map_append, putAll_append]
theorem goT_nil (s : ByteArray) (T : List Txt) : goT s T [] = T := rfl
theorem goT_one (s : ByteArray) (T : List Txt) (x : ByteArray) : goT s T [x] = if isNew s x = true then putT (txtB x) T else T := by
  unfold goT goodC
  by_cases h : isNew s x = true
  · rw [if_pos h, List.filter_cons_of_pos h]; rfl
  · rw [if_neg h, List.filter_cons_of_neg h]; rfl
theorem goT_asc {s : ByteArray} {T : List Txt} (h : Asc T) (l : List ByteArray) : Asc (goT s T l) := putAll_asc _ _ h
theorem near_same (s : ByteArray) (n : Nat) : goT s [] (candN s n) = goT s [] (refC s n) := by
  refine asc_ext (goT_asc List.Pairwise.nil _) (goT_asc List.Pairwise.nil _) fun x => ?_
  unfold goT goodC
  rw [putAll_mem, putAll_mem, List.mem_map, List.mem_map]
  constructor
  · rintro (h | ⟨b, hb, e⟩)
    · cases h
    · rw [List.mem_filter] at hb
      exact .inr ⟨b, List.mem_filter.2 ⟨(cand_same s n b).1 hb.1, hb.2⟩, e⟩
  · rintro (h | ⟨b, hb, e⟩)
    · cases h
    · rw [List.mem_filter] at hb
      exact .inr ⟨b, List.mem_filter.2 ⟨(cand_same s n b).2 hb.1, hb.2⟩, e⟩
/-! The program's list. -/
theorem keepB_filter (s : ByteArray) (L : List ByteArray) (b : ByteArray) : keepB ValidP s L b = L ++ goodC s [b] := by
  unfold keepB goodC
  by_cases h : b ≠ s ∧ ValidP b = 0
  · rw [if_pos h, List.filter_cons_of_pos (by unfold isNew; rw [decide_eq_true h.1, decide_eq_true h.2]; rfl)]; rfl
  · rw [if_neg h, List.filter_cons_of_neg (by unfold isNew; rw [Bool.and_eq_true, decide_eq_true_eq, decide_eq_true_eq]; exact h)]
    simp
theorem digL_filter (s : ByteArray) (i : Nat) (L : List ByteArray) : ∀ c, digL ValidP s i L c = L ++ goodC s ((List.range c).map fun c => putB s i (dig8 c))
  | 0 => by simp [digL, goodC]
  | c + 1 => by
    show keepB ValidP s (digL ValidP s i L c) (putB s i (dig8 c)) = _
    rw [keepB_filter, digL_filter s i L c, List.range_succ, List.map_append]
    unfold goodC
    rw [List.filter_append, List.append_assoc]
    rfl
theorem placeL_filter (s : ByteArray) (n : Nat) : ∀ j, j ≤ 6 → placeL ValidP s n j = goodC s ((List.range j).flatMap fun i => tryA s n i ++ (if i + 1 < 6 then [swapB s (n + i)] else []))
  | 0, _ => rfl
  | j + 1, hj => by
    unfold placeL
    rw [placeL_filter s n j (by omega), digL_filter, show List.range (j + 1) = List.range j ++ [j] from List.range_succ, List.flatMap_append]
    unfold goodC
    rw [List.filter_append]
    by_cases h1 : j + 1 < 6
    · rw [if_pos h1, keepB_filter]
      unfold goodC
      simp only [List.flatMap_cons, List.flatMap_nil, List.append_nil, if_pos h1, List.filter_append]
      rw [List.append_assoc]
      rfl
    · rw [if_neg h1]
      simp only [List.flatMap_cons, List.flatMap_nil, List.append_nil, if_neg h1]
      rfl
theorem prog_near (s : ByteArray) (n : Nat) : nearR (placeL ValidP s n 6) = (goT s [] (candN s n)).map backT := by
  rw [placeL_filter s n 6 (Nat.le_refl _)]
  unfold nearR goT
  rw [show ((goodC s ((List.range 6).flatMap fun i => tryA s n i ++ (if i + 1 < 6 then [swapB s (n + i)] else []))).map (·.data.toList)) = (goodC s (candN s n)).map txtB from rfl, sort_compact]
  rfl
theorem Near_ev (s : ByteArray) (hs : s.size ≤ 140737488351232) : Ev (fun k => ring_Near.f k s) (if (formP s false).2 = true then ((goT s [] (refC s (s.size - 6))).map backT, 0) else ([], 2)) := by
  unfold ring_Near.f
  refine Ev.bindc (form_eq (by omega)) ?_
  by_cases hf : (formP s false).2 = true
  · rw [if_pos hf]
    obtain ⟨h7, h8, e, _⟩ := formP_true hf
    rw [e]
    have e6 : ((s.size : Int) - 6).toNat = s.size - 6 := by omega
    refine Ev.ifp rfl ?_
    simp only [e6]
    refine Ev.ifp ⟨by omega, by omega, h7, h8⟩ ?_
    have hv : ∀ b ∈ candN s (s.size - 6), Ev (fun k => ring_Valid.f k b) (ValidP b) := fun b hb => Valid_ev b (by
      have : b.size = s.size := by
        obtain ⟨i, _, hx⟩ := List.mem_flatMap.1 hb
        rcases List.mem_append.1 hx with h | h
        · obtain ⟨c, _, rfl⟩ := List.mem_map.1 h
          exact putB_size _ _ _
        · split at h
          · rw [List.mem_singleton.1 h]
            unfold swapB
            rw [putB_size, putB_size]
          · cases h
      omega)
    have hall : ∃ m, ∀ k, m ≤ k → ∀ b ∈ candN s (s.size - 6), ring_Valid.f k b = some (ValidP b) := by
      generalize candN s (s.size - 6) = L at hv
      induction L with
      | nil => exact ⟨0, fun _ _ b hb => by cases hb⟩
      | cons x L ih =>
        obtain ⟨m, hm⟩ := ih (fun b hb => hv b (List.mem_cons_of_mem _ hb))
        obtain ⟨m2, hm2⟩ := hv x (List.mem_cons_self ..)
        refine ⟨max m m2, fun k hk b hb => ?_⟩
        rcases List.mem_cons.1 hb with h | h
        · rw [h]; exact hm2 k (by omega)
        · exact hm k (by omega) b h
    obtain ⟨m, hm⟩ := hall
    refine ⟨m, fun k hk => ?_⟩
    have h1 : nearAll k s (s.size - 6) = true := List.all_eq_true.2 fun b hb => by rw [hm k hk b hb]; rfl
    show (if nearAll k s (s.size - 6) = true then some (nearR (placeL (nearE k) s (s.size - 6) 6), (0 : Int)) else none) = _
    rw [if_pos h1, placeL_congr (e' := ValidP) (fun b hb => by unfold nearE; rw [hm k hk b hb]; rfl) 6 (Nat.le_refl _), prog_near, near_same]
  · rw [if_neg hf]
    exact Ev.ifn hf (Ev.now _)
/-! The document's. -/
/-- A text with the letters of another one and six digits. -/
def candT (s : ByteArray) (t : List Int) : ByteArray := ⟨(s.extract 0 (s.size - 6)).data ++ (t.map Q.byteOf).toArray⟩
theorem ext_size {s : ByteArray} (h : 6 ≤ s.size) : (s.extract 0 (s.size - 6)).size = s.size - 6 := by rw [ByteArray.size_extract]; omega
theorem candT_size {s : ByteArray} (h : 6 ≤ s.size) {t : List Int} (ht : t.length = 6) : (candT s t).size = s.size := by
  unfold candT
  rw [join_size, ext_size h, List.length_map, ht]
  omega
theorem candT_left {s : ByteArray} (h : 6 ≤ s.size) {t : List Int} (i : Nat) (hi : i < s.size - 6) : bt (candT s t) (i : Int) = bt s (i : Int) := by
  unfold candT
  rw [join_left _ _ i (by rw [ext_size h]; exact hi)]
  rw [bt_of (s := s.extract 0 (s.size - 6)) (p := i) (by rw [ext_size h]; exact hi), bt_of (s := s) (p := i) (by omega)]
  congr 2
  simp [ByteArray.getElem_extract]
theorem candT_right {s : ByteArray} (h : 6 ≤ s.size) {t : List Int} (ht : t.length = 6) (hd : ∀ x ∈ t, 0 ≤ x ∧ x ≤ 9) (m : Nat) (hm : m < 6) : bt (candT s t) ((s.size - 6 + m : Nat) : Int) = 48 + rd t (m : Int) := by
  have hl : m < t.length := by omega
  have hb := hd _ (List.getElem_mem hl)
  unfold candT
  have h1 := join_right (s.extract 0 (s.size - 6)) (t.map Q.byteOf) m (by rw [List.length_map]; exact hl)
  rw [ext_size h] at h1
  rw [h1, List.getElem_map, byteOf_toNat hb.1 hb.2, rd_lt _ _ hl]
theorem candT_is {s b : ByteArray} (h : 6 ≤ s.size) {t : List Int} (ht : t.length = 6) (hd : ∀ x ∈ t, 0 ≤ x ∧ x ≤ 9) (hb : b.size = s.size) (hl : ∀ i, i < s.size - 6 → bt b (i : Int) = bt s (i : Int)) (hr : ∀ m, m < 6 → bt b ((s.size - 6 + m : Nat) : Int) = 48 + rd t (m : Int)) : candT s t = b := by
  refine bytes_ext (by rw [candT_size h ht, hb]) fun i hi => ?_
  rw [candT_size h ht] at hi
  by_cases h1 : i < s.size - 6
  · rw [candT_left h i h1, hl i h1]
  · obtain ⟨m, rfl⟩ : ∃ m, i = s.size - 6 + m := ⟨i - (s.size - 6), by omega⟩
    rw [candT_right h ht hd m (by omega), hr m (by omega)]
theorem candT_valid {s : ByteArray} (hf : (formP s false).2 = true) {t : List Int} (ht : t.length = 6) (hd : ∀ x ∈ t, 0 ≤ x ∧ x ≤ 9) : ValidP (candT s t) = if sum0 (t.map Int.toNat) 0 = 0 then 0 else 6 := by
  obtain ⟨h7, h8, e, h⟩ := formP_true hf
  have hsz := candT_size (s := s) (by omega) ht
  have h1 : (formP (candT s t) false).2 = true := by
    rw [formP_good (by omega) (by omega)]
    intro i hi
    rw [hsz] at hi ⊢
    unfold okb
    by_cases h1 : i < s.size - 6
    · rw [if_neg (by omega), candT_left (by omega) i h1]
      have := h i hi
      unfold okb at this
      rw [if_neg (by omega)] at this
      exact this
    · obtain ⟨m, rfl⟩ : ∃ m, i = s.size - 6 + m := ⟨i - (s.size - 6), by omega⟩
      rw [if_pos (by omega), candT_right (by omega) ht hd m (by omega), rd_lt _ _ (show m < t.length by omega)]
      have := hd _ (List.getElem_mem (show m < t.length by omega))
      simp only [Bool.or_eq_true, decide_eq_true_eq]
      omega
  have h2 : tailI (candT s t) = t := by
    refine list6_ext (tailI_length _) ht fun m hm => ?_
    rw [tail_at m hm, hsz, candT_right (by omega) ht hd m hm]
    omega
  unfold ValidP
  rw [if_pos h1]
  unfold tailN
  rw [h2]
theorem tail_mem_range {s : ByteArray} (hf : (formP s false).2 = true) : ∀ x ∈ tailI s, 0 ≤ x ∧ x ≤ 9 := by
  obtain ⟨h7, h8, e, h⟩ := formP_true hf
  exact tailI_range h7 h
theorem tail_bt {s : ByteArray} (h : 6 ≤ s.size) (m : Nat) (hm : m < 6) : bt s ((s.size - 6 + m : Nat) : Int) = 48 + rd (tailI s) (m : Int) := by
  rw [tail_at m hm]
  omega
theorem set_range {t : List Int} (hd : ∀ x ∈ t, 0 ≤ x ∧ x ≤ 9) (i : Nat) {c : Int} (h0 : 0 ≤ c) (h1 : c ≤ 9) : ∀ x ∈ t.set i c, 0 ≤ x ∧ x ≤ 9 := by
  intro x hx
  rcases List.mem_or_eq_of_mem_set hx with h | h
  · exact hd x h
  · omega
theorem rd_range {t : List Int} (hd : ∀ x ∈ t, 0 ≤ x ∧ x ≤ 9) (m : Nat) (hm : m < t.length) : 0 ≤ rd t (m : Int) ∧ rd t (m : Int) ≤ 9 := by
  rw [rd_lt _ _ hm]
  exact hd _ (List.getElem_mem hm)
theorem cand_digit {s : ByteArray} (hf : (formP s false).2 = true) (i c : Nat) (hi : i < 6) (hc : c < 10) : candT s ((tailI s).set i (c : Int)) = putB s (s.size - 6 + i) (dig8 c) := by
  obtain ⟨h7, h8, _, _⟩ := formP_true hf
  have hd := set_range (tail_mem_range hf) i (c := (c : Int)) (by omega) (by omega)
  refine candT_is (by omega) (by rw [List.length_set, tailI_length]) hd (putB_size _ _ _) (fun q hq => putB_other _ _ _ _ (by omega) (by omega)) fun m hm => ?_
  by_cases e : m = i
  · subst e
    rw [dig8_bt (by omega) hc, rd_set_same _ _ _ (by rw [tailI_length]; exact hm)]
  · rw [putB_other _ _ _ _ (by omega) (by omega), rd_set_other _ _ _ _ e, tail_bt (by omega) m hm]
theorem by8_bt {s : ByteArray} {i : Nat} (h : i < s.size) : (((by8 s i).toNat : Nat) : Int) = bt s (i : Int) := (bt_by8 s h).symm
theorem cand_swapped {s : ByteArray} (hf : (formP s false).2 = true) (i : Nat) (hi : i < 6) (h0 : 0 < i) : candT s (((tailI s).set (i - 1) (rd (tailI s) (i : Int))).set i (rd (tailI s) ((i - 1 : Nat) : Int))) = swapB s (s.size - 6 + (i - 1)) := by
  obtain ⟨h7, h8, _, _⟩ := formP_true hf
  have hr := tail_mem_range hf
  have hl := tailI_length s
  have r1 := rd_range hr i (by omega)
  have r2 := rd_range hr (i - 1) (by omega)
  have hd := set_range (set_range hr (i - 1) r1.1 r1.2) i r2.1 r2.2
  have e1 : s.size - 6 + (i - 1) + 1 = s.size - 6 + i := by omega
  unfold swapB
  rw [e1]
  refine candT_is (by omega) (by rw [List.length_set, List.length_set, hl]) hd (by rw [putB_size, putB_size]) (fun q hq => ?_) fun m hm => ?_
  · rw [putB_other _ _ _ _ (by rw [putB_size]; omega) (by omega), putB_other _ _ _ _ (by omega) (by omega)]
  · by_cases e : m = i
    · subst e
      rw [putB_same _ _ _ (by rw [putB_size]; omega), by8_bt (by omega), rd_set_same _ _ _ (by rw [List.length_set, hl]; exact hm), tail_bt (by omega) _ (by omega)]
    · rw [putB_other _ _ _ _ (by rw [putB_size]; omega) (by omega), rd_set_other _ _ _ _ e]
      by_cases e2 : m = i - 1
      · subst e2
        rw [putB_same _ _ _ (by omega), by8_bt (by omega), rd_set_same _ _ _ (by rw [hl]; omega), tail_bt (by omega) _ (by omega)]
      · rw [putB_other _ _ _ _ (by omega) (by omega), rd_set_other _ _ _ _ e2, tail_bt (by omega) m hm]

end Go.Proofs.Ytlbhighbhchdmaa.Pure
