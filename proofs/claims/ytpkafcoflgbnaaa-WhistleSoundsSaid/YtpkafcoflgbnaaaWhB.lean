/- The closure of ends. -/
import Derived.Test.YtpkafcoflgbnaaaWLast
import Derived.Test.YtpkafcoflgbnaaaWMore
import Derived.Test.YtpkafcoflgbnaaaProg
import Derived.Test.YtpkafcoflgbnaaaShelf
import Derived.OwnWalk
import Derived.Handy
import Derived.Deep.DeepMust
import Derived.Lib.Hide
import Derived.Outline
import Derived.IntWalk
import Derived.Deep.RegionWith
import Derived.RangeFuncBox
import Derived.Test.YtpkafcoflgbnaaaWhA
namespace Go.Proofs.Ytpkafcoflgbnaaa.Q
open Go.RowKit Go.Proofs.YtpkafcoflgbnaaaW.PrintWords Go.Proofs.YtpkafcoflgbnaaaW.PrintLast Go.Proofs.YtpkafcoflgbnaaaW.PrintMore 
set_option linter.unusedVariables false
set_option linter.unusedSimpArgs false
/-! ends: the closure that adds what is left over. -/
def addB (out : List ByteArray) (t : ByteArray) (ok : Bool) : Bool := ok && !t.toList.isEmpty && !Lib.containsS out t
def addO (out : List ByteArray) (t : ByteArray) (ok : Bool) : List ByteArray := if addB out t ok = true then out ++ [t] else out
theorem getD_str (l : List ByteArray) (j : Nat) (h : j < l.length) : l.getD j ByteArray.empty = l[j] := by
  rw [List.getD_eq_getElem?_getD, List.getElem?_eq_getElem h]; rfl
/-- The cells of a slice of strings of the call's own. -/
theorem own_str {W : World} {n₀ : Nat} {v : Value} {l : List ByteArray} (ho : W.ownsRow n₀ 9 1 v l.length (l.map Value.string)) : (v = .slice none 0 0 ∧ l = []) ∨ ∃ g cap, v = .slice (some ⟨g, 0, none⟩) l.length cap ∧ n₀ ≤ g ∧ l.length ≤ cap ∧ ∀ j, j < l.length → W.cell? ⟨g, 0 + j, none⟩ = some (.string (l.getD j ByteArray.empty)) := by
  have ho2 := ho
  rcases ho.2 with ⟨rfl, h0⟩ | ⟨g, cap, cur, rfl, hb, hg, hn, hm, hs, ht⟩
  · exact .inl ⟨rfl, List.eq_nil_of_length_eq_zero h0⟩
  · refine .inr ⟨g, cap, rfl, hb, hn, fun j hj => ?_⟩
    have hc := ho2.cells (g := g) rfl j (.string (l.getD j ByteArray.empty)) (by rw [List.getElem?_map, List.getElem?_eq_getElem hj, getD_str l j hj]; rfl)
    rw [add_none] at hc
    exact hc
/-- Contains over a slice of strings of the call's own. -/
theorem has_own {W : World} {n₀ : Nat} {v : Value} {l : List ByteArray} (t : ByteArray) (hl : l.length ≤ 1000000) (ho : W.ownsRow n₀ 9 1 v l.length (l.map Value.string)) :
    Calls Try.prog 56 #[v, .string t] W fun e w' => e = .returned (.bool (Lib.containsS l t)) ∧ w' = W := by
  rcases own_str ho with ⟨rfl, rfl⟩ | ⟨g, cap, rfl, hb, hn, hc⟩
  · exact Try.slices_Contains_string_empty none 0 t W
  · have := Try.slices_Contains_string g 0 l.length cap l t W (Nat.le_refl _) (by omega) hc
    rw [List.take_length] at this
    exact this
theorem new_cell (W : World) (x : Value) (T : TypeId) : ∀ j u, [x][j]? = some u → (W.alloc (.cells #[x] T)).cell? ((⟨W.heap.size, 0, none⟩ : Addr).add j) = some u := by
  intro j u hj
  have hj0 : j = 0 := by
    have := (List.getElem?_eq_some_iff.1 hj).1
    simp at this; omega
  subst hj0
  simp at hj
  subst hj
  rw [add_none]
  simp
theorem info9 : (Try.prog.info? 9).map (fun i => (i.zero, i.size, i.bytes)) = some (some (.string ⟨#[]⟩), 1, 16) := by kernel_rfl
set_option maxHeartbeats 2000000 in
set_option maxRecDepth 100000 in
theorem add_calls (B n₀ : Nat) (t : ByteArray) (ok : Bool) (out : List ByteArray) (v : Value) (W : World) (hb : Boxed W B 22 v) (ho : W.ownsRow n₀ 9 1 v out.length (out.map Value.string)) (hn : n₀ ≤ B) (hl : out.length ≤ 1000000) :
    Calls Try.prog 97 #[.string t, .bool ok, .pointer (some ⟨B, 0, none⟩)] W fun e W' => e = .returned (.tuple #[]) ∧ ∃ v', Boxed W' B 22 v' ∧ W'.ownsRow n₀ 9 1 v' (addO out t ok).length ((addO out t ok).map Value.string) ∧ Below n₀ W W' := by
  have hcell := hb.cell
  have hno : addB out t ok = false → W.ownsRow n₀ 9 1 v (addO out t ok).length ((addO out t ok).map Value.string) := fun h => by unfold addO; rw [if_neg (by rw [h]; decide)]; exact ho
  have Hno := Lib.hid hno
  clear hno
  by_cases h1 : ok = false
  · subst h1
    have Hf := Lib.hid (show addB out t false = false from rfl)
    go_enter Try.func97, Try.ntmps97
    go_wp2
    first | go_end0 | go_returns | go_ret
    exact ⟨rfl, v, hb, Hno.out Hf.out, Below.refl _ _⟩
  · obtain rfl : ok = true := by simpa using h1
    clear h1
    by_cases h2 : t.toList = []
    · have Hf := Lib.hid (show addB out t true = false by unfold addB; rw [h2]; simp)
      have h2' : t.toList.isEmpty = true := by rw [h2]; rfl
      go_enter Try.func97, Try.ntmps97
      go_wp2
      first | go_end0 | go_returns | go_ret
      exact ⟨rfl, v, hb, Hno.out Hf.out, Below.refl _ _⟩
    · have h2' : t.toList.isEmpty = false := by simpa using h2
      have hhas := has_own t hl ho
      cases h3 : Lib.containsS out t
      · have Hf := Lib.hid (show addO out t true = out ++ [t] by unfold addO addB; rw [h2', h3]; rfl)
        rw [h3] at hhas
        rw [Hf.out]
        obtain ⟨i0, hi, hz0, hz1, hz2⟩ := info_parts info9
        have ho1 := ho.alloc (.cells #[.string t] 9)
        clear h3
        go_enter Try.func97, Try.ntmps97
        go_wp2_with (first | (go_at_call 56; go_must (with_reducible refine hhas.mono ?_); rintro e w' ⟨rfl, rfl⟩) | (at_builtin; refine wpList_append_own _ rfl _ _ 22 rfl n₀ 9 i0 (.string ⟨#[]⟩) 1 16 Try.underlying22 hi hz0 hz1 hz2 rfl (by decide) _ _ _ rfl ho1 ⟨_, 0, none⟩ 1 1 [.string t] rfl rfl (new_cell _ _ _) (fun u hu => by rw [List.mem_singleton] at hu; subst hu; rfl) (by unfold maxLen; omega) (by omega) (by have := hb.lt; simp; omega) ?_; intro v' w1 hown' hgrow _; obtain ⟨g, cap, hv'⟩ := ownsRow_succ hown'; obtain ⟨ha1, ha2, ha3, ha4, ha5⟩ := hb.appended (tmp := .cells #[.string t] 9) (by decide) ho (by have := hb.lt; omega) hn hown' hgrow; subst hv'; have hac := ha1.cell; have haf := ha1.frozen))
        first | go_end0 | go_returns | go_ret
        refine ⟨rfl, _, ha2, ?_, ha5⟩
        simpa using ha3
      · have Hf := Lib.hid (show addB out t true = false by unfold addB; rw [h3]; simp)
        rw [h3] at hhas
        clear h3
        go_enter Try.func97, Try.ntmps97
        go_wp2_with (first | (go_at_call 56; go_must (with_reducible refine hhas.mono ?_); rintro e w' ⟨rfl, rfl⟩))
        first | go_end0 | go_returns | go_ret
        exact ⟨rfl, v, hb, Hno.out Hf.out, Below.refl _ _⟩
end Go.Proofs.Ytpkafcoflgbnaaa.Q
