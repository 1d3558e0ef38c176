/- Arguments that come in, of any shape that the print's kinds tell: what their reading gives (a row's opening). No condition. -/
import Derived.SizedLaws
import Derived.ChangeArms
import Derived.ChangeSlices
import Derived.OpenShut
import Derived.WideShapes
import Derived.DataReads
import Derived.Test.YtjphklemnhgkiaaDoorWWords
import Derived.Test.YtjphklemnhgkiaaDoorWArr
namespace Go.Proofs.YtjphklemnhgkiaaDoor.Open
open Go.RowKit Go.Proofs.YtjphklemnhgkiaaDoorW.PrintWords

/-- Whatever reads as data of type t is a value of kind d, of which g holds. -/
def Opens {α : Type} (P : Program) (t : TypeId) (d : Kd α) (g : α → Prop) : Prop :=
  ∀ (H : Type) (enc : TypeId × Value → H) (w : World) (base : Nat) (spare : Nat → Bool) (held : Bool) (fuel : Nat) (cs : List Value) (x : DataW H × List MemPlace),
    DataW.trod enc P w base spare held fuel t cs = some x → (∀ n ∈ x.1.weights P t, n ≤ reachBytes) → ∃ v : α, d.K w v cs ∧ g v
theorem opens_mono {α : Type} {P : Program} {t : TypeId} {d : Kd α} {g g' : α → Prop} (h : Opens P t d g) (hg : ∀ v, g v → g' v) : Opens P t d g' :=
  fun H enc w base spare held fuel cs x hx hw => let ⟨v, hv, gv⟩ := h H enc w base spare held fuel cs x hx hw; ⟨v, hv, hg v gv⟩
theorem opens_int {P : Program} {t : TypeId} {k : IntKind} (ht : P.underlying t = some (.int k)) : Opens P t (Kd.int k) (fun n => (Lit.int k n).wf = true) := by
  intro H enc w base spare held fuel cs x hx _
  obtain ⟨n, rfl, rfl, hn⟩ := DataW.trod_int ht hx
  exact ⟨n, rfl, hn⟩
theorem opens_bool {P : Program} {t : TypeId} (ht : P.underlying t = some .bool) : Opens P t Kd.bool (fun _ => True) := by
  intro H enc w base spare held fuel cs x hx _
  obtain ⟨b, rfl, rfl⟩ := DataW.trod_bool ht hx
  exact ⟨b, rfl, trivial⟩
theorem opens_string {P : Program} {t : TypeId} (ht : P.underlying t = some .string) : Opens P t Kd.string (fun s => s.size ≤ 140737488351232) := by
  intro H enc w base spare held fuel cs x hx hw
  obtain ⟨s, rfl, rfl, _⟩ := DataW.trod_string ht hx
  refine ⟨s, rfl, ?_⟩
  have h := hw s.data.toList.length (by simp [DataW.weights])
  rw [Array.length_toList] at h
  exact h
theorem weights_all {H : Type} {P : Program} {e : TypeId} : ∀ {ds : List (DataW H)} {d : DataW H}, d ∈ ds → ∀ n ∈ d.weights P e, n ∈ DataW.weightsAll P e ds
  | d0 :: ds, d, h, n, hn => by
    simp only [DataW.weightsAll, List.mem_append]
    rcases List.mem_cons.1 h with rfl | h
    · exact .inl hn
    · exact .inr (weights_all h n hn)
theorem opens_slice {α : Type} {P : Program} {t e B : Nat} {d : Kd α} {g : α → Prop} (ht : P.underlying t = some (.slice e)) (he : Opens P e d g) (hc : P.cellsOf e = d.sz) (hB : P.bytesOf e = B) :
    Opens P t (Kd.slice e d) (fun l => l.length ≤ maxLen ∧ l.length * B ≤ 140737488351232 ∧ ∀ x ∈ l, g x) := by
  intro H enc w base spare held fuel cs x hx hw
  rcases DataW.trod_slice ht hx with ⟨rfl, rfl⟩ | ⟨a, len, cap, elems, rest, n, _, rfl, rfl, _, hl, hm, hlen, hel, _, _⟩
  · exact ⟨[], ⟨none, 0, rfl, Nat.le_refl _, ⟨rfl, by simp, fun h => absurd h (by simp)⟩⟩, by simp [maxLen], by simp, fun x hx => absurd hx (by simp)⟩
  · have one : ∀ i, i < len → ∃ v c, w.cells? base (a.add (i * P.cellsOf e)) (P.cellsOf e) = some c ∧ d.K w v c ∧ g v := by
      intro i hi
      have h := hel i hi
      have hy : elems[i]? = some (elems[i]'(by omega)) := List.getElem?_eq_getElem _
      rw [hy, Option.bind_eq_some_iff] at h
      obtain ⟨c, hcs, hr⟩ := h
      obtain ⟨v, hv, gv⟩ := he H enc w base spare held n c _ hr (fun m hm' => hw m (by
        simp only [DataW.weights, ht, List.mem_cons, List.mem_append]
        exact .inr (.inl (weights_all (List.mem_map.2 ⟨_, List.getElem_mem _, rfl⟩) m hm'))))
      exact ⟨v, c, hcs, hv, gv⟩
    have all : ∀ m, m ≤ len → ∃ l : List α, l.length = m ∧ ∀ (i : Nat) (p : α), l[i]? = some p → (∃ c, w.cells? base (a.add (i * P.cellsOf e)) (P.cellsOf e) = some c ∧ d.K w p c) ∧ g p := by
      intro m
      induction m with
      | zero => exact fun _ => ⟨[], rfl, fun i p h => by simp at h⟩
      | succ m ih =>
        intro hm'
        obtain ⟨l, hll, hall⟩ := ih (by omega)
        obtain ⟨v, c, h1, h2, h3⟩ := one m (by omega)
        refine ⟨l ++ [v], by simp [hll], fun i p hp => ?_⟩
        rcases Nat.lt_or_ge i m with hi | hi
        · rw [List.getElem?_append_left (by omega)] at hp
          exact hall i p hp
        · rw [List.getElem?_append_right (by omega)] at hp
          have hi2 : i = m := by
            have := (List.getElem?_eq_some_iff.1 hp).1
            simp at this
            omega
          subst hi2
          rw [hll, Nat.sub_self] at hp
          simp at hp
          subst hp
          exact ⟨⟨c, h1, h2⟩, h3⟩
    obtain ⟨l, hll, hall⟩ := all len (Nat.le_refl _)
    have hbytes : (elems.length + rest.length) * B ≤ 140737488351232 := by
      have h := hw ((elems.length + rest.length) * P.bytesOf e) (by simp [DataW.weights, ht])
      rw [hB] at h
      exact h
    refine ⟨l, ⟨some a, cap, by rw [hll], by omega, hll.symm ▸ ⟨hll, ?_, fun _ => ⟨a, rfl, fun j p hp => ?_⟩⟩⟩, by omega, ?_, fun x hx => ?_⟩
    · have : maxLen = 9223372036854775807 := rfl
      omega
    · obtain ⟨⟨c, h1, h2⟩, _⟩ := hall j p hp
      obtain ⟨_, hcl, hcell⟩ := World.cells?_some h1
      refine ⟨c, by rw [hcl, hc], h2, fun i u hu => ?_⟩
      have hi : i < P.cellsOf e := by have := (List.getElem?_eq_some_iff.1 hu).1; omega
      have h := hcell i hi
      rw [hu, Addr.add_add, hc] at h
      exact h
    · refine Nat.le_trans (Nat.mul_le_mul_right B ?_) hbytes
      omega
    · obtain ⟨i, hi, rfl⟩ := List.mem_iff_getElem.1 hx
      exact (hall i _ (List.getElem?_eq_getElem hi)).2
/-- Field i of a struct that is read. -/
theorem opens_field {α : Type} {H : Type} {enc : TypeId × Value → H} {P : Program} {t ft : TypeId} {fs : Array Field} {d : Kd α} {g : α → Prop} {w : World} {base : Nat} {spare : Nat → Bool} {held : Bool} {fuel : Nat} {cs : List Value} {x : DataW H × List MemPlace}
    (ht : P.underlying t = some (.struct fs)) (hx : DataW.trod enc P w base spare held fuel t cs = some x) (hw : ∀ n ∈ x.1.weights P t, n ≤ reachBytes) (i off : Nat) (hf : (fs[i]?).map (fun f => (f.type, f.offset)) = some (ft, off)) (hd : Opens P ft d g) :
    ∃ v : α, d.K w v ((cs.drop off).take (P.cellsOf ft)) ∧ g v := by
  obtain ⟨xs, n, rfl, rfl, _, hxs, hall⟩ := DataW.trod_struct ht hx
  cases hfi : fs[i]? with
  | none => rw [hfi] at hf; simp at hf
  | some f =>
    rw [hfi] at hf
    simp at hf
    obtain ⟨rfl, rfl⟩ := hf
    have hi : i < fs.size := (Array.getElem?_eq_some_iff.1 hfi).1
    have h := hall i f hfi
    have hy : xs[i]? = some (xs[i]'(by omega)) := List.getElem?_eq_getElem _
    rw [hy] at h
    refine hd H enc w base spare held n _ _ h (fun m hm => hw m ?_)
    simp only [DataW.weights, ht]
    refine DataW.weights_mem_each (j := i) (t := f.type) (d := (xs[i]'(by omega)).1) ?_ ?_ m hm
    · rw [List.getElem?_map, Array.getElem?_toList, hfi]; rfl
    · rw [List.getElem?_map, hy]; rfl
theorem struct_cells {H : Type} {enc : TypeId × Value → H} {P : Program} {t : TypeId} {fs : Array Field} {w : World} {base : Nat} {spare : Nat → Bool} {held : Bool} {fuel : Nat} {cs : List Value} {x : DataW H × List MemPlace}
    (ht : P.underlying t = some (.struct fs)) (hx : DataW.trod enc P w base spare held fuel t cs = some x) : cs.length = P.cellsOf t := (DataW.trod_struct ht hx).elim fun _ h => h.elim fun _ h => h.2.2.1
/-- An array of n elements. -/
theorem opens_array {α : Type} {P : Program} {t e n : Nat} {d : Kd α} {g : α → Prop} (hs : 0 < d.sz) (ht : P.underlying t = some (.array n e)) (he : Opens P e d g) (hc : P.cellsOf e = d.sz) (hct : P.cellsOf t = n * d.sz) :
    Opens P t (Kd.arr n d hs) (fun l => ∀ x ∈ l, g x) := by
  intro H enc w base spare held fuel cs x hx hw
  obtain ⟨xs, m, rfl, rfl, hcl, hxs, hall⟩ := DataW.trod_array ht hx
  have one : ∀ i, i < n → ∃ v, d.K w v ((cs.drop (i * d.sz)).take d.sz) ∧ g v := by
    intro i hi
    have h := hall i hi
    have hy : xs[i]? = some (xs[i]'(by omega)) := List.getElem?_eq_getElem _
    rw [hy, hc] at h
    refine he H enc w base spare held m _ _ h (fun q hq => hw q ?_)
    simp only [DataW.weights, ht]
    exact weights_all (List.mem_map.2 ⟨_, List.getElem_mem _, rfl⟩) q hq
  have all : ∀ q, q ≤ n → ∃ l : List α, l.length = q ∧ ∀ (i : Nat) (p : α), l[i]? = some p → d.K w p ((cs.drop (i * d.sz)).take d.sz) ∧ g p := by
    intro q
    induction q with
    | zero => exact fun _ => ⟨[], rfl, fun i p h => by simp at h⟩
    | succ q ih =>
      intro hq
      obtain ⟨l, hll, hl⟩ := ih (by omega)
      obtain ⟨v, h1, h2⟩ := one q (by omega)
      refine ⟨l ++ [v], by simp [hll], fun i p hp => ?_⟩
      rcases Nat.lt_or_ge i q with hi | hi
      · rw [List.getElem?_append_left (by omega)] at hp
        exact hl i p hp
      · rw [List.getElem?_append_right (by omega)] at hp
        have hi2 : i = q := by
          have := (List.getElem?_eq_some_iff.1 hp).1
          simp at this
          omega
        subst hi2
        rw [hll, Nat.sub_self] at hp
        simp at hp
        subst hp
        exact ⟨h1, h2⟩
  obtain ⟨l, hll, hl⟩ := all n (Nat.le_refl _)
  refine ⟨l, ⟨hll, by rw [hcl, hct, hll], fun j p hp => (hl j p hp).1⟩, fun x hx => ?_⟩
  obtain ⟨i, hi, rfl⟩ := List.mem_iff_getElem.1 hx
  exact (hl i _ (List.getElem?_eq_getElem hi)).2
/-- The weights of one argument, out of those of all. -/
theorem weights_arg {H : Type} {P : Program} {ts : List TypeId} {ds : List (DataW H)} {j : Nat} {t : TypeId} {d : DataW H} (h : (DataW.weightsEach P ts ds).all (· ≤ reachBytes) = true) (ht : ts[j]? = some t) (hd : ds[j]? = some d) : ∀ n ∈ d.weights P t, n ≤ reachBytes :=
  fun n hn => by simpa using List.all_eq_true.1 h n (DataW.weights_mem_each ht hd n hn)
/-- An argument that comes in. -/
theorem arg_opens {α : Type} {H : Type} {enc : TypeId × Value → H} {P : Program} {t : TypeId} {d : Kd α} {g : α → Prop} {w : World} {base : Nat} {spare : Nat → Bool} {held : Bool} {v : Value} {x : DataW H} {ps : List MemPlace} (ho : Opens P t d g)
    (h : DataW.Trod enc P w base spare held t v x ps) (hw : ∀ n ∈ x.weights P t, n ≤ reachBytes) : ∃ a : α, d.K w a v.cells.toList ∧ g a := by
  obtain ⟨fuel, hf⟩ := h
  exact ho H enc w base spare held fuel _ _ hf hw
theorem arg_lt {H : Type} {enc : TypeId × Value → H} {P : Program} {t : TypeId} {w : World} {base : Nat} {spare : Nat → Bool} {held : Bool} {v : Value} {x : DataW H} {ps : List MemPlace} (h : DataW.Trod enc P w base spare held t v x ps) : ∀ p ∈ ps, p.block < w.heap.size := by
  obtain ⟨m, hm⟩ := h
  exact DataW.trod_lt m _ _ _ hm

theorem okWide_array {P : Program} {w : World} {r : Reach} {base : Nat} {t e n : Nat} {v : Value} (ht : P.underlying t = some (.array n e)) (h : Value.okWide P w r base t v) : ∃ cs, v = .agg cs ∧ cs.size = P.cellsOf t := by
  simp only [Value.okWide, ht] at h
  obtain ⟨cs, h1, h2, _⟩ := h
  exact ⟨cs, h1, h2⟩
/-- The cells of an array of numbers. -/
theorem arr_int_open {n : Nat} {k : IntKind} {hs : 0 < (Kd.int k).sz} {w : World} {l : List Int} {cs : List Value} (h : (Kd.arr n (Kd.int k) hs).K w l cs) : cs = l.map (Value.int k) ∧ l.length = n := by
  obtain ⟨h1, h2, h3⟩ := h
  have h2' : cs.length = l.length := by rw [h2]; show l.length * 1 = l.length; omega
  refine ⟨?_, h1⟩
  apply List.ext_getElem
  · rw [List.length_map]; exact h2'
  · intro i hi1 hi2
    have hil : i < l.length := by omega
    have hc := h3 i l[i] (List.getElem?_eq_getElem hil)
    have hc2 : (cs.drop (i * 1)).take 1 = [Value.int k l[i]] := hc
    rw [Nat.mul_one, List.drop_eq_getElem_cons hi1, List.take_succ_cons, List.take_zero] at hc2
    rw [List.getElem_map]
    exact (List.cons.inj hc2).1

end Go.Proofs.YtjphklemnhgkiaaDoor.Open
