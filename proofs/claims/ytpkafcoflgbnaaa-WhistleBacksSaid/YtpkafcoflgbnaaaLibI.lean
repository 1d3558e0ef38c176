import Derived.Test.YtpkafcoflgbnaaaQx15
import Derived.Test.YtpkafcoflgbnaaaWh5
import Derived.Test.YtpkafcoflgbnaaaLibF
namespace Go.Proofs.Ytpkafcoflgbnaaa.Pure
open Go.RowKit Go.Proofs.Ytpkafcoflgbnaaa.Q Go.Proofs.YtpkafcoflgbnaaaW.PrintWords Go.Proofs.YtpkafcoflgbnaaaW.PrintLast
set_option linter.unusedVariables false

/-! A code with its signals turned round, by both; it is safe exactly if the code is. -/

theorem bs_rev (s : ByteArray) : bs (revB s) = (bs s).reverse := by unfold revB bs; simp
theorem rev_rev (s : ByteArray) : revB (revB s) = s := bs_inj (by rw [bs_rev, bs_rev, List.reverse_reverse])
theorem rev_size (s : ByteArray) : (revB s).size = s.size := by rw [← bs_len, ← bs_len, bs_rev, List.length_reverse]
theorem backA_take (C : List ByteArray) : ∀ i, i ≤ C.length → backA C i = (C.take i).map revB
  | 0, _ => by rw [List.take_zero]; rfl
  | i + 1, h => by
    rw [List.take_add_one, List.map_append]
    show backA C i ++ [revB (C.getD i ByteArray.empty)] = _
    rw [backA_take C i (by omega), List.getD_eq_getElem?_getD, List.getElem?_eq_getElem (show i < C.length by omega)]
    rfl
def backP (C : List ByteArray) : List ByteArray := C.map revB
theorem backA_all (C : List ByteArray) : backA C C.length = backP C := by rw [backA_take C _ (Nat.le_refl _), List.take_length]; rfl
theorem backP_back (C : List ByteArray) : backP (backP C) = C := by
  unfold backP
  rw [List.map_map]
  conv => rhs; rw [← List.map_id C]
  exact List.map_congr_left fun s _ => rev_rev s
theorem backP_valid {C : List ByteArray} (v : Valid C) : Valid (backP C) where
  pos := by unfold backP; rw [List.length_map]; exact v.pos
  few := by unfold backP; rw [List.length_map]; exact v.few
  size1 := fun s hs => by obtain ⟨x, hx, rfl⟩ := List.mem_map.1 hs; rw [rev_size]; exact v.size1 x hx
  size12 := fun s hs => by obtain ⟨x, hx, rfl⟩ := List.mem_map.1 hs; rw [rev_size]; exact v.size12 x hx
  notes := fun s hs => by
    obtain ⟨x, hx, rfl⟩ := List.mem_map.1 hs
    have := v.notes x hx
    rw [notesP_list] at this ⊢
    have e : (revB x).data.toList = x.data.toList.reverse := bs_rev x
    rw [e, List.all_reverse]; exact this
  nodup := by
    refine List.nodup_iff_pairwise_ne.2 ((List.pairwise_map).2 ((List.nodup_iff_pairwise_ne.1 v.nodup).imp fun {a b} h e => h ?_))
    rw [← rev_rev a, ← rev_rev b, e]
theorem backP_sized {C : List ByteArray} (h : Sized C) : Sized (backP C) := fun s hs => by
  obtain ⟨x, hx, rfl⟩ := List.mem_map.1 hs; rw [rev_size]; exact h x hx
theorem wds_backP (C : List ByteArray) : wds (backP C) = (wds C).map List.reverse := by
  unfold wds backP
  rw [List.map_map, List.map_map]
  exact List.map_congr_left fun s _ => bs_rev s
theorem back_safe {C : List ByteArray} (v : Valid C) : safeB (backP C) = safeB C := by
  rw [Bool.eq_iff_iff, safeB_iff, safeB_iff, safe_iff v, safe_iff (backP_valid v), wds_backP]
  exact not_congr amb_back
theorem backOK_of {C : List ByteArray} (v : Valid C) : backOK C = true := by
  unfold backOK
  rw [Bool.and_eq_true, List.all_eq_true]
  have := v.few
  exact ⟨decide_eq_true (by omega), fun s hs => decide_eq_true (by have := v.size12 s hs; omega)⟩
def backR (C : List ByteArray) : List ByteArray × Int := if valP C = 0 then (backP C, 0) else ([], valP C)
theorem back_ev {C : List ByteArray} (hS : Sized C) : Ev (fun k => whistle_Back.f k C) (backR C) := by
  unfold whistle_Back.f backR
  refine Ev.bind (val_ev C hS) ?_
  by_cases hv : valP C = 0
  · rw [if_pos hv]
    exact Ev.ifn (by simpa using hv) (Ev.ifp (backOK_of (valP_zero.1 hv)) (Ev.val (by rw [backA_all])))
  · rw [if_neg hv]
    exact Ev.ifp hv (Ev.val rfl)
def revK (s : ByteArray) (j : Nat) : ByteArray := ⟨((bs s).take j).reverse.toArray⟩
theorem revK_all (s : ByteArray) : revK s s.size = revB s := by
  unfold revK revB
  rw [List.take_of_length_le (by rw [bs_len]; exact Nat.le_refl _)]; rfl
theorem revK_size (s : ByteArray) (j : Nat) : (revK s j).size ≤ s.size := by
  rw [← bs_len, ← bs_len s]
  show (((bs s).take j).reverse.toArray).toList.length ≤ _
  simp only [List.length_reverse, List.length_take]
  omega
theorem revK_succ (s : ByteArray) (j : Nat) (h : j < s.size) : s.extract j (j + 1) ++ revK s j = revK s (j + 1) := by
  refine bs_inj ?_
  have hl : j < (bs s).length := by rw [bs_len]; exact h
  rw [bs_app, bs_ext, show bs (revK s j) = ((bs s).take j).reverse from bs_mk _, show bs (revK s (j + 1)) = ((bs s).take (j + 1)).reverse from bs_mk _, List.take_add_one, List.getElem?_eq_getElem hl, List.drop_append_of_le_length (by rw [List.length_take]; omega), List.drop_eq_nil_of_le (by rw [List.length_take]; omega), List.reverse_append]
  rfl
theorem rback_l1 (C : List ByteArray) (hC : C.length ≤ 12) (o : List ByteArray) (ho : o.length ≤ 12) (i : Nat) (hi : i < C.length) (hs : (gt C i).size ≤ 12) (r : List ByteArray × Int) (hr : Ev (fun k => wigeonref05_Back.l0 k C (o ++ [revB (gt C i)]) ((i + 1 : Nat) : Int)) r) (d : Nat) : ∀ j, j + d = (gt C i).size → Ev (fun k => wigeonref05_Back.l1 k C o (i : Int) (revK (gt C i) j) (j : Int)) r := by
  induction d with
  | zero =>
    intro j hj
    obtain rfl : j = (gt C i).size := by omega
    rw [revK_all]
    have hw := w64s (show i < 1000000000000000000 by omega)
    exact Ev.step (fun k => by rw [wigeonref05_Back.l1, rdOf_gt, hw]) (Ev.ifp (by omega) (Ev.ifp (by omega) (Ev.ifn (by omega) (Ev.ifp (by omega) hr))))
  | succ d ih =>
    intro j hj
    have hw := w64s (show j < 1000000000000000000 by omega)
    have hz := revK_size (gt C i) j
    have hx : ((gt C i).extract j (j + 1)).size + (revK (gt C i) j).size ≤ 9223372036854775807 := by
      have : ((gt C i).extract j (j + 1)).size ≤ (gt C i).size := by rw [ByteArray.size_extract]; omega
      omega
    have e1 : ((j : Int)).toNat = j := Int.toNat_natCast j
    have e2 : (((j + 1 : Nat) : Int)).toNat = j + 1 := Int.toNat_natCast _
    refine Ev.step (fun k => by rw [wigeonref05_Back.l1, rdOf_gt, hw, e1, e2]) (Ev.ifp (by omega) (Ev.ifp (by omega) (Ev.ifp (by omega) (Ev.ifp (by omega) (Ev.ifp (by omega) (Ev.ifp (by omega) (Ev.ifp hx ?_)))))))
    rw [revK_succ _ _ (by omega)]
    exact ih (j + 1) (by omega)
theorem rback_l0 (C : List ByteArray) (v : Valid C) (d : Nat) : ∀ i, i + d = C.length → Ev (fun k => wigeonref05_Back.l0 k C (backA C i) (i : Int)) (backA C C.length, 0) := by
  have hC := v.few
  induction d with
  | zero =>
    intro i hi
    obtain rfl : i = C.length := by omega
    exact Ev.step (fun k => by rw [wigeonref05_Back.l0]) (Ev.ifn (by omega) (Ev.val rfl))
  | succ d ih =>
    intro i hi
    refine Ev.step (fun k => by rw [wigeonref05_Back.l0]) (Ev.ifp (by omega) ?_)
    have := rback_l1 C hC (backA C i) (by rw [backA_len]; omega) i (by omega) (v.size12 _ (gt_mem (by omega))) _ (ih (i + 1) (by omega)) (gt C i).size 0 (by omega)
    have e : revK (gt C i) 0 = ⟨#[]⟩ := by unfold revK; rw [List.take_zero]; rfl
    rw [e] at this
    exact this
theorem rback_ev {C : List ByteArray} (hS : Sized C) : Ev (fun k => wigeonref05_Back.f k C) (backR C) := by
  unfold wigeonref05_Back.f backR
  refine Ev.bind (rval_ev C hS) ?_
  by_cases hv : valP C = 0
  · rw [if_pos hv]
    have := rback_l0 C (valP_zero.1 hv) C.length 0 (by omega)
    rw [backA_all] at this
    exact Ev.ifp hv this
  · rw [if_neg hv]
    exact Ev.ifn hv (Ev.val rfl)
end Go.Proofs.Ytpkafcoflgbnaaa.Pure
