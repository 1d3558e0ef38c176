import Derived.Test.YtpkafcoflgbnaaaQx0
import Derived.Test.YtpkafcoflgbnaaaLibF
import Derived.Test.YtpkafcoflgbnaaaLibH
import Derived.Test.YtpkafcoflgbnaaaLibMc
namespace Go.Proofs.Ytpkafcoflgbnaaa.Pure
open Go.RowKit Go.Proofs.Ytpkafcoflgbnaaa.Q Go.Proofs.YtpkafcoflgbnaaaW.PrintWords Go.Proofs.YtpkafcoflgbnaaaW.PrintLast Go.Proofs.YtpkafcoflgbnaaaW.PrintMore
set_option linter.unusedVariables false

/-! A safe code's sum is at most one (McMillan); a code of which no signal begins with another one is safe. -/

theorem pre_safe {C : List ByteArray} (h : preB C = true) : Safe C := by
  rintro ⟨s, _, hs⟩
  refine no_left (C := wds C) ?_ _ hs
  intro x hx y hy t e
  obtain ⟨a, ha, rfl⟩ := mem_wds.1 hx
  obtain ⟨b, hb, rfl⟩ := mem_wds.1 hy
  obtain ⟨j, hj, rfl⟩ := mem_gt ha
  obtain ⟨i, hi, rfl⟩ := mem_gt hb
  by_cases hij : i = j
  · subst hij
    have := congrArg List.length e
    rw [List.length_append] at this
    exact List.eq_nil_of_length_eq_zero (by omega)
  · have := preB_iff.1 h i j hi hj hij
    rw [headB_iff.2 ⟨t, e⟩] at this; cases this

def noteOf (b : UInt8) : Bool := b == 45
def byteOf (b : Bool) : UInt8 := if b then 45 else 46
theorem byte_note {b : UInt8} (h : noteB b = true) : byteOf (noteOf b) = b := by
  rcases noteB_iff.1 h with rfl | rfl <;> rfl
theorem byteOf_inj {a b : Bool} (h : byteOf a = byteOf b) : a = b := by
  cases a <;> cases b <;> first | rfl | (exfalso; revert h; decide)
def wdsB (C : List ByteArray) : List (List Bool) := (wds C).map (List.map noteOf)
theorem wds_back {C : List ByteArray} (v : Valid C) {x : List UInt8} (hx : x ∈ wds C) : (x.map noteOf).map byteOf = x := by
  obtain ⟨s, hs, rfl⟩ := mem_wds.1 hx
  have h := v.notes s hs
  rw [notesP_list, List.all_eq_true] at h
  rw [List.map_map]
  conv => rhs; rw [← List.map_id (bs s)]
  exact List.map_congr_left fun b hb => byte_note (h b hb)
theorem map_byteOf_inj : ∀ {a b : List Bool}, a.map byteOf = b.map byteOf → a = b
  | [], [], _ => rfl
  | [], _ :: _, h => by simp at h
  | _ :: _, [], h => by simp at h
  | x :: a, y :: b, h => by
    rw [List.map_cons, List.map_cons] at h
    obtain ⟨h1, h2⟩ := List.cons.inj h
    rw [byteOf_inj h1, map_byteOf_inj h2]
theorem map2_byteOf_inj : ∀ {a b : List (List Bool)}, a.map (List.map byteOf) = b.map (List.map byteOf) → a = b
  | [], [], _ => rfl
  | [], _ :: _, h => by simp at h
  | _ :: _, [], h => by simp at h
  | x :: a, y :: b, h => by
    rw [List.map_cons, List.map_cons] at h
    obtain ⟨h1, h2⟩ := List.cons.inj h
    rw [map_byteOf_inj h1, map2_byteOf_inj h2]
theorem flat_map_map (f : Bool → UInt8) (a : List (List Bool)) : (a.map (List.map f)).flatten = a.flatten.map f := by
  induction a with
  | nil => rfl
  | cons x a ih => rw [List.map_cons, List.flatten_cons, List.flatten_cons, List.map_append, ih]
theorem amb_bool {C : List ByteArray} (v : Valid C) (h : Amb (wdsB C)) : Amb (wds C) := by
  obtain ⟨a, b, ha, hb, hab, hs⟩ := h
  have hm : ∀ {m : List (List Bool)}, Msg (wdsB C) m → Msg (wds C) (m.map (List.map byteOf)) := fun {m} hm x hx => by
    obtain ⟨y, hy, rfl⟩ := List.mem_map.1 hx
    obtain ⟨z, hz, rfl⟩ := List.mem_map.1 (hm y hy)
    rw [wds_back v hz]; exact hz
  exact ⟨_, _, hm ha, hm hb, fun e => hab (map2_byteOf_inj e), by rw [flat_map_map, flat_map_map, hs]⟩
theorem wds_nodup {C : List ByteArray} (h : C.Nodup) : (wds C).Nodup := by
  unfold wds
  rw [List.nodup_iff_pairwise_ne] at h ⊢
  exact List.pairwise_map.2 (h.imp fun hne e => hne (bs_inj e))
theorem wdsB_nodup {C : List ByteArray} (v : Valid C) : (wdsB C).Nodup := by
  have h := wds_nodup v.nodup
  unfold wdsB
  rw [List.nodup_iff_pairwise_ne] at h ⊢
  refine List.pairwise_map.2 (h.imp_of_mem fun {a b} ha hb hne e => hne ?_)
  rw [← wds_back v ha, ← wds_back v hb, e]
theorem shares_fill (C : List ByteArray) : shares 12 (wdsB C) = fillN (lensC C) := by
  unfold shares fillN wdsB wds lensC
  rw [List.map_map, List.map_map, List.map_map]
  congr 1
  apply List.map_congr_left
  intro s _
  show 2 ^ (12 - ((bs s).map noteOf).length) = 2 ^ (12 - ((s.size : Nat) : Int).toNat)
  rw [List.length_map, bs_len, Int.toNat_natCast]
theorem safe_kraft {C : List ByteArray} (v : Valid C) (h : Safe C) : fillN (lensC C) ≤ 2 ^ 12 := by
  rw [← shares_fill]
  refine mcmillan (wdsB_nodup v) (fun e => (safe_iff v).1 h (amb_bool v e)) (fun x hx => ?_)
  obtain ⟨y, hy, rfl⟩ := List.mem_map.1 hx
  obtain ⟨s, hs, rfl⟩ := mem_wds.1 hy
  rw [List.length_map, bs_len]
  exact v.size12 s hs
end Go.Proofs.Ytpkafcoflgbnaaa.Pure
