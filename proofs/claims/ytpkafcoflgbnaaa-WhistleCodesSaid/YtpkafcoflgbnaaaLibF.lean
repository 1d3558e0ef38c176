import Derived.Test.YtpkafcoflgbnaaaQx10
import Derived.Test.YtpkafcoflgbnaaaQx13
import Derived.Test.YtpkafcoflgbnaaaQx18
import Derived.Test.YtpkafcoflgbnaaaLibE
import Derived.Sort.LotA
import Derived.Sort.Walk0
namespace Go.Proofs.Ytpkafcoflgbnaaa.Pure
open Go.RowKit Go.Proofs.Ytpkafcoflgbnaaa.Q Go.Proofs.YtpkafcoflgbnaaaW.PrintWords Go.Proofs.YtpkafcoflgbnaaaW.PrintLast
set_option linter.unusedVariables false

/-! The ends in their order, by both; which codes are safe, by both. -/

def ltT (a b : ByteArray) : Bool := Op.bytesLess a.toList b.toList
theorem ltT_eq (a b : ByteArray) : ltT a b = decide (bs a < bs b) := by
  unfold ltT
  rw [toList_bs, toList_bs, Go.Proofs.bytesLess_eq]
theorem swo_ltT : Go.Sort.SWO ltT where
  irrefl x := by rw [ltT_eq]; simp [List.lt_irrefl]
  trans x y z h1 h2 := by rw [ltT_eq, decide_eq_true_eq] at *; exact List.lt_trans h1 h2
  ntrans x y z h1 h2 := by
    rw [ltT_eq, decide_eq_false_iff_not, List.not_lt] at *
    exact List.le_trans h2 h1
theorem gt_arr (d : Array ByteArray) (k : Nat) (hk : k < d.size) : gt d.toList k = d[k]! := by
  unfold gt
  rw [List.getD_eq_getElem?_getD, List.getElem?_eq_getElem (by simpa using hk), getElem!_pos d k hk]
  simp
theorem swp_list (d : Array ByteArray) (k : Nat) (hk : k + 1 < d.size) : (d.toList.set (k + 1) (gt d.toList k)).set k (gt d.toList (k + 1)) = (Go.Sort.swp d (k + 1) k).toList := by
  unfold Go.Sort.swp
  rw [gt_arr d k (by omega), gt_arr d (k + 1) hk]
  simp
theorem esort_in (i : Nat) (r : List ByteArray × Int) : ∀ (k : Nat) (d : Array ByteArray), k < d.size → d.size < 1000000 → i < 1000000 → Ev (fun f => wigeonref05_Ends.l0 f (Go.Sort.insInner ltT 0 k d).toList ((i + 1 : Nat) : Int)) r → Ev (fun f => wigeonref05_Ends.l1 f d.toList (i : Int) (k : Int)) r
  | 0, d, hk, hd, hi, h => by
    refine Ev.step (fun f => by rw [wigeonref05_Ends.l1]) (Ev.ifn (by omega) ?_)
    rw [w64s (by omega)]
    exact h
  | k + 1, d, hk, hd, hi, h => by
    have hw : wrap64 (((k + 1 : Nat) : Int) - 1) = (k : Int) := by rw [w64 (by omega) (by omega)]; omega
    have hl : (d.toList.length : Int) = d.size := by simp
    refine Ev.step (fun f => by rw [wigeonref05_Ends.l1, hw, rdOf_gt, rdOf_gt, Int.toNat_natCast, Int.toNat_natCast]) (Ev.ifp (by omega) (Ev.ifp (by omega) (Ev.ifp (by omega) (Ev.ifp (by omega) (Ev.ifp (by omega) ?_)))))
    have e1 : Op.bytesLess (gt d.toList (k + 1)).toList (gt d.toList k).toList = ltT d[k + 1]! d[k]! := by rw [gt_arr d k (by omega), gt_arr d (k + 1) hk]; rfl
    by_cases hlt : ltT d[k + 1]! d[k]! = true
    · refine Ev.ifp (by rw [e1]; exact hlt) ?_
      rw [swp_list d k hk]
      refine esort_in i r k _ (by rw [Go.Sort.swp_size]; omega) (by rw [Go.Sort.swp_size]; omega) hi ?_
      unfold Go.Sort.insInner at h
      rw [if_pos (by rw [hlt]; simp)] at h
      exact h
    · refine Ev.ifn (by rw [e1]; exact hlt) ?_
      rw [w64s (by omega)]
      unfold Go.Sort.insInner at h
      rw [if_neg (by rw [Bool.eq_false_iff.2 hlt]; simp)] at h
      exact h
theorem insInner_size (lt : ByteArray → ByteArray → Bool) (a : Nat) : ∀ (k : Nat) (d : Array ByteArray), (Go.Sort.insInner lt a k d).size = d.size
  | 0, d => rfl
  | k + 1, d => by
    unfold Go.Sort.insInner
    split
    · rw [insInner_size lt a k, Go.Sort.swp_size]
    · rfl
theorem esort_out (n : Nat) : ∀ (t : Nat) (i : Nat) (d : Array ByteArray), i + t = n → d.size = n → n < 1000000 → Ev (fun f => wigeonref05_Ends.l0 f d.toList (i : Int)) ((Go.Sort.insOuter ltT 0 n i d).toList, 0)
  | 0, i, d, hi, hd, hn => by
    unfold Go.Sort.insOuter
    rw [if_neg (by omega)]
    exact Ev.step (fun f => by rw [wigeonref05_Ends.l0]) (Ev.ifn (by simp; omega) (Ev.now _))
  | t + 1, i, d, hi, hd, hn => by
    unfold Go.Sort.insOuter
    rw [if_pos (by omega)]
    refine Ev.step (fun f => by rw [wigeonref05_Ends.l0]) (Ev.ifp (by simp; omega) ?_)
    exact esort_in i _ i d (by omega) (by omega) (by omega) (esort_out n t (i + 1) _ (by omega) (by rw [insInner_size, hd]) hn)
theorem insInner_zero (lt : ByteArray → ByteArray → Bool) (d : Array ByteArray) : Go.Sort.insInner lt 0 0 d = d := rfl
theorem sorted_same {E1 E2 : List ByteArray} (h1 : E1.Nodup) (h2 : E2.Nodup) (hm : ∀ s, s ∈ E1 ↔ s ∈ E2) : (Go.Sort.insOuter ltT 0 E2.length 0 E2.toArray).toList = sortS E1 := by
  by_cases h0 : E2.length = 0
  · have e2 := List.eq_nil_of_length_eq_zero h0
    subst e2
    have e1 : E1 = [] := List.eq_nil_iff_forall_not_mem.2 fun s hs => by have := (hm s).1 hs; simp at this
    subst e1
    unfold Go.Sort.insOuter sortS
    simp
  · have hstep : Go.Sort.insOuter ltT 0 E2.length 0 E2.toArray = Go.Sort.insertionSort ltT E2.toArray 0 E2.length := by
      unfold Go.Sort.insertionSort
      conv => lhs; unfold Go.Sort.insOuter
      rw [if_pos (by omega), insInner_zero]
    rw [hstep]
    obtain ⟨⟨hsz, _, hp⟩, hs⟩ := Go.Sort.insertionSort_holds swo_ltT E2.toArray 0 E2.length (Nat.zero_le _) (by simp)
    generalize Go.Sort.insertionSort ltT E2.toArray 0 E2.length = D at *
    have hDl : D.size = E2.length := by rw [hsz]; simp
    have hp2 : D.toList.Perm E2 := by
      have e1 : (D.extract 0 E2.length).toList = D.toList := by rw [← hDl]; simp
      have e2 : (E2.toArray.extract 0 E2.length).toList = E2 := by simp
      rw [e1, e2] at hp
      exact hp
    have hinj : ∀ {a b : List ByteArray}, a.map bs = b.map bs → a = b := fun {a b} h => by
      have := congrArg (List.map fun l : List UInt8 => (⟨l.toArray⟩ : ByteArray)) h
      rw [List.map_map, List.map_map] at this
      have e : ((fun l : List UInt8 => (⟨l.toArray⟩ : ByteArray)) ∘ bs) = id := by
        funext s; exact bs_inj (bs_mk _)
      rwa [e, List.map_id, List.map_id] at this
    apply hinj
    have hS : (sortS E1).map bs = (E1.map bs).mergeSort fun x y => decide (x ≤ y) := by
      unfold sortS
      rw [List.map_map]
      have e : (bs ∘ fun l : List UInt8 => (⟨l.toArray⟩ : ByteArray)) = id := by funext l; exact bs_mk l
      rw [e, List.map_id]; rfl
    rw [hS]
    refine List.Perm.eq_of_pairwise (le := fun x y : List UInt8 => x ≤ y) (fun a b _ _ h1 h2 => List.le_antisymm h1 h2) ?_ ?_ ?_
    · rw [List.pairwise_map, List.pairwise_iff_getElem]
      intro i j hi hj hij
      have hj2 : j < D.size := by simpa using hj
      have := hs i j (Nat.zero_le _) hij (by omega)
      rw [ltT_eq, decide_eq_false_iff_not, List.not_lt, getElem!_pos D i (by omega), getElem!_pos D j hj2] at this
      simpa using this
    · have := List.pairwise_mergeSort (le := fun x y : List UInt8 => decide (x ≤ y)) (fun a b c h1 h2 => by simp only [decide_eq_true_eq] at *; exact List.le_trans h1 h2) (fun a b => by simp only [Bool.or_eq_true, decide_eq_true_eq]; exact List.le_total a b) (E1.map bs)
      simpa using this
    · exact ((hp2.map bs).trans (((List.perm_ext_iff_of_nodup h2 h1).2 fun s => (hm s).symm).map bs)).trans (List.mergeSort_perm _ _).symm
/-- The ends of a valid code, by both. -/
theorem ends_both {C : List ByteArray} (v : Valid C) (hS : Sized C) : ∃ R, Ev (fun k => whistle_Ends.f k C) (R, 0) ∧ Ev (fun k => wigeonref05_Ends.f k C) (R, 0) ∧ (∀ s, s ∈ R ↔ LeftS C s) ∧ R.length ≤ 156 := by
  obtain ⟨E1, h1, n1, m1, l1⟩ := ends_ev v
  obtain ⟨E2, h2, n2, m2, l2⟩ := rends_ev v
  have hv := valP_zero.2 v
  refine ⟨sortS E1, ?_, ?_, fun s => mem_sortS.trans (m1 s), by rw [length_sortS]; exact l1⟩
  · unfold whistle_Ends.f
    exact Ev.bind (val_ev C hS) (Ev.ifp hv (Ev.bind h1 (Ev.now _)))
  · unfold wigeonref05_Ends.f
    refine Ev.bind (rval_ev C hS) (Ev.ifp hv (Ev.bind h2 ?_))
    rw [← sorted_same n1 n2 (fun s => (m1 s).trans (m2 s).symm)]
    exact esort_out E2.length E2.length 0 E2.toArray (by omega) (by simp) (by omega)
theorem ends_none {C : List ByteArray} (hS : Sized C) (h : valP C ≠ 0) : Ev (fun k => whistle_Ends.f k C) ([], valP C) ∧ Ev (fun k => wigeonref05_Ends.f k C) ([], valP C) := by
  constructor
  · unfold whistle_Ends.f
    exact Ev.bind (val_ev C hS) (Ev.ifn h (Ev.now _))
  · unfold wigeonref05_Ends.f
    exact Ev.bind (rval_ev C hS) (Ev.ifn h (Ev.now _))
/-- A code is safe if no signal can be left over. -/
def Safe (C : List ByteArray) : Prop := ¬ ∃ s, s ∈ C ∧ LeftS C s
open Classical in
noncomputable def safeB (C : List ByteArray) : Bool := decide (Safe C)
theorem safeB_iff {C : List ByteArray} : safeB C = true ↔ Safe C := by unfold safeB; exact @decide_eq_true_iff _ (Classical.propDecidable _)
noncomputable def safeP (C : List ByteArray) : Bool × Int := if valP C = 0 then (safeB C, 0) else (false, valP C)
theorem safe_ev {C : List ByteArray} (hS : Sized C) : Ev (fun k => whistle_IsSafe.f k C) (safeP C) := by
  unfold whistle_IsSafe.f safeP
  refine Ev.bind (val_ev C hS) ?_
  by_cases h : valP C = 0
  · rw [if_pos (show valP C = 0 from h)]
    refine Ev.ifp h ?_
    obtain ⟨E, ⟨K, hK⟩, n1, m1, l1⟩ := ends_ev (valP_zero.1 h)
    refine ⟨K, fun k hk => ?_⟩
    have hE : endsL k C = some (sortS E) := hK k hk
    show (endsL k C).map _ = _
    rw [hE]
    show some (!(C.any (Go.Lib.containsS (sortS E))), (0 : Int)) = _
    congr 2
    rw [Bool.eq_iff_iff, safeB_iff, Bool.not_eq_true', Bool.eq_false_iff]
    unfold Safe
    refine not_congr ?_
    rw [List.any_eq_true]
    exact ⟨fun ⟨s, h1, h2⟩ => ⟨s, h1, (m1 s).1 (mem_sortS.1 (inS_iff.1 h2))⟩, fun ⟨s, h1, h2⟩ => ⟨s, h1, inS_iff.2 (mem_sortS.2 ((m1 s).2 h2))⟩⟩
  · rw [if_neg (show ¬ valP C = 0 from h)]
    exact Ev.ifn h (Ev.now _)
theorem rsafe_at {C E : List ByteArray} (v : Valid C) (hE : E.length ≤ 156) (hm : ∀ s, s ∈ E ↔ LeftS C s) (d : Nat) : ∀ i, i + d = C.length → Ev (fun k => wigeonref05_IsSafe.l0 k C E (i : Int)) (!((C.drop i).any (Go.Lib.containsS E)), 0) := by
  have hC := v.few
  induction d with
  | zero =>
    intro i hi
    rw [List.drop_eq_nil_of_le (by omega)]
    exact Ev.step (fun k => by rw [wigeonref05_IsSafe.l0]) (Ev.ifn (by omega) (Ev.val (by rfl)))
  | succ d ih =>
    intro i hi
    rw [drop_gt (show i < C.length by omega), List.any_cons]
    refine Ev.step (fun k => by rw [wigeonref05_IsSafe.l0, rdOf_gt]) (Ev.ifp (by omega) (Ev.ifp (by omega) (Ev.bind (has_ev E _ (by unfold bigC; omega)) ?_)))
    by_cases h : Go.Lib.containsS E (gt C i) = true
    · exact Ev.ifp h (Ev.val (by rw [h]; rfl))
    · refine Ev.ifn h ?_
      rw [Bool.eq_false_iff.2 h, Bool.false_or, w64s (by omega)]
      exact ih (i + 1) (by omega)
theorem rsafe_ev {C : List ByteArray} (hS : Sized C) : Ev (fun k => wigeonref05_IsSafe.f k C) (safeP C) := by
  unfold wigeonref05_IsSafe.f safeP
  refine Ev.bind (rval_ev C hS) ?_
  by_cases h : valP C = 0
  · rw [if_pos (show valP C = 0 from h)]
    have v := valP_zero.1 h
    obtain ⟨E, h1, n1, m1, l1⟩ := rends_ev v
    refine Ev.ifp h (Ev.bind h1 ?_)
    have h0 : Ev (fun k => wigeonref05_IsSafe.l0 k C E 0) (!((C.drop 0).any (Go.Lib.containsS E)), 0) := rsafe_at v l1 m1 C.length 0 (by omega)
    rw [List.drop_zero] at h0
    rwa [show safeB C = !(C.any (Go.Lib.containsS E)) by
      rw [Bool.eq_iff_iff, safeB_iff, Bool.not_eq_true', Bool.eq_false_iff]
      unfold Safe
      refine not_congr ?_
      rw [List.any_eq_true]
      exact ⟨fun ⟨s, h1, h2⟩ => ⟨s, h1, inS_iff.2 ((m1 s).2 h2)⟩, fun ⟨s, h1, h2⟩ => ⟨s, h1, (m1 s).1 (inS_iff.1 h2)⟩⟩]
  · rw [if_neg (show ¬ valP C = 0 from h)]
    exact Ev.ifn h (Ev.now _)
theorem wds_ne {C : List ByteArray} (v : Valid C) : ∀ x ∈ wds C, x ≠ [] := fun x hx e => by
  obtain ⟨s, hs, rfl⟩ := mem_wds.1 hx
  have h1 := v.size1 s hs
  have := bs_len s
  rw [e] at this
  simp at this; omega
theorem safe_iff {C : List ByteArray} (v : Valid C) : Safe C ↔ ¬ Amb (wds C) := by
  unfold Safe
  rw [amb_iff_left (wds_ne v)]
  refine not_congr ⟨fun ⟨s, h1, h2⟩ => ⟨bs s, mem_wds.2 ⟨s, h1, rfl⟩, h2⟩, fun ⟨x, h1, h2⟩ => ?_⟩
  obtain ⟨s, hs, rfl⟩ := mem_wds.1 h1
  exact ⟨s, hs, h2⟩
end Go.Proofs.Ytpkafcoflgbnaaa.Pure
