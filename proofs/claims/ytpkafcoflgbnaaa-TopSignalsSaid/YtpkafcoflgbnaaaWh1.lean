/- What is left over, and which codes are safe: the program's ends and IsSafe, the reference's leftover, with small tests and where lists lie. For all codes. -/
import Derived.Test.YtpkafcoflgbnaaaWLast
import Derived.Test.YtpkafcoflgbnaaaWMore
import Derived.Test.YtpkafcoflgbnaaaProg
import Derived.Test.YtpkafcoflgbnaaaShelf
import Derived.OwnWalk
import Derived.Handy
import Derived.Deep.DeepMust
import Derived.Lib.Hide
import Derived.Outline
import Derived.IntWalk
import Derived.Deep.RegionWith
import Derived.RangeFuncBox
import Derived.Sort.OwnSorted
import Derived.Lib.OwnBridge
import Derived.BigQuiet
import Derived.Deep.QuietTactic
namespace Go.Proofs.Ytpkafcoflgbnaaa.Q
open Go.RowKit Go.Proofs.YtpkafcoflgbnaaaW.PrintWords Go.Proofs.YtpkafcoflgbnaaaW.PrintLast Go.Proofs.YtpkafcoflgbnaaaW.PrintMore 
set_option linter.unusedVariables false
set_option linter.unusedSimpArgs false
/-! The tests of lengths and weights; cells of lists that came in. -/
theorem int_cells {w : World} {ad : Addr} {l : List Int} (h : Kd.C (Kd.int .i64) w (some ad) l.length l) : ∀ j, j < l.length → w.cell? (ad.add j) = some (.int .i64 l[j]!) := by
  intro j hj
  obtain ⟨ad2, e, hc⟩ := Kd.at_int h (j : Int) (by omega) (by omega)
  cases e
  rw [Int.toNat_natCast] at hc
  rw [hc]
  congr 2
  unfold rd
  rw [Int.toNat_natCast, List.getD_eq_getElem?_getD, List.getElem?_eq_getElem hj, getElem!_pos l j hj]
  rfl
theorem str_cells {w : World} {ad : Addr} {l : List ByteArray} (h : Kd.C Kd.string w (some ad) l.length l) : ∀ j, j < l.length → w.cell? (ad.add j) = some (.string (l.getD j ByteArray.empty)) := by
  intro j hj
  obtain ⟨ad2, e, hc⟩ := Kd.at_string h (j : Int) (by omega) (by omega)
  cases e
  rw [Int.toNat_natCast] at hc
  rw [hc]
  congr 2
theorem add_none (b off j : Nat) : (⟨b, off, none⟩ : Addr).add j = ⟨b, off + j, none⟩ := by
  unfold Addr.add
  by_cases h : j = 0
  · rw [if_pos h, h]; rfl
  · rw [if_neg h]
theorem spot_none {w : World} {b off : Nat} {v : Option Nat} {x : Value} (h0 : w.cell? ((⟨b, off, v⟩ : Addr).add 0) = some x) : v = none := by
  unfold World.cell? at h0
  cases v with
  | none => rfl
  | some q =>
    exfalso
    have e : ((⟨b, off, some q⟩ : Addr).add 0).spot = some q := rfl
    rw [e] at h0
    split at h0
    · simp at h0
    · cases h0
/-- Where a list that came in lies. -/
theorem int_at {w : World} {A : Option Addr} {l : List Int} (h : Kd.C (Kd.int .i64) w A l.length l) : l = [] ∨ ∃ b off, A = some ⟨b, off, none⟩ ∧ ∀ j, j < l.length → w.cell? ⟨b, off + j, none⟩ = some (.int .i64 l[j]!) := by
  by_cases hz : l.length = 0
  · exact .inl (List.eq_nil_of_length_eq_zero hz)
  · right
    obtain ⟨ad, e, _⟩ := h.2.2 (by omega)
    subst e
    have hc := int_cells h
    obtain ⟨b, off, v⟩ := ad
    have hv := spot_none (hc 0 (by omega))
    subst hv
    exact ⟨b, off, rfl, fun j hj => by have := hc j hj; rw [add_none] at this; exact this⟩
theorem str_at {w : World} {A : Option Addr} {l : List ByteArray} (h : Kd.C Kd.string w A l.length l) : l = [] ∨ ∃ b off, A = some ⟨b, off, none⟩ ∧ ∀ j, j < l.length → w.cell? ⟨b, off + j, none⟩ = some (.string (l.getD j ByteArray.empty)) := by
  by_cases hz : l.length = 0
  · exact .inl (List.eq_nil_of_length_eq_zero hz)
  · right
    obtain ⟨ad, e, _⟩ := h.2.2 (by omega)
    subst e
    have hc := str_cells h
    obtain ⟨b, off, v⟩ := ad
    have hv := spot_none (hc 0 (by omega))
    subst hv
    exact ⟨b, off, rfl, fun j hj => by have := hc j hj; rw [add_none] at this; exact this⟩
def outW (lo hi : Int) (x : Int) : Bool := decide (x < lo) || decide (x > hi)
theorem lenW_calls (x : Int) (w : World) : Calls Try.prog 104 #[.int .i64 x] w fun e w' => e = .returned (.bool (outW 1 12 x)) ∧ ∃ q, w' = w.drewN q := by
  by_cases h : x < 1
  · have Hr := Lib.hid (show outW 1 12 x = true by unfold outW; rw [decide_eq_true h]; rfl)
    rw [Hr.out]
    have h1 := decide_eq_true h
    go_enter Try.func104, Try.ntmps104
    go_wp2
    first | go_end0 | go_returns | go_ret
    exact ⟨rfl, 0, rfl⟩
  · have Hr := Lib.hid (show outW 1 12 x = decide (x > 12) by unfold outW; rw [decide_eq_false h]; rfl)
    rw [Hr.out]
    have h1 : decide (x < 1) = false := decide_eq_false h
    clear h
    go_enter Try.func104, Try.ntmps104
    go_wp2
    first | go_end0 | go_returns | go_ret
    exact ⟨rfl, 0, rfl⟩
theorem wgtW_calls (x : Int) (w : World) : Calls Try.prog 109 #[.int .i64 x] w fun e w' => e = .returned (.bool (outW 0 1000 x)) ∧ ∃ q, w' = w.drewN q := by
  by_cases h : x < 0
  · have Hr := Lib.hid (show outW 0 1000 x = true by unfold outW; rw [decide_eq_true h]; rfl)
    rw [Hr.out]
    have h1 := decide_eq_true h
    go_enter Try.func109, Try.ntmps109
    go_wp2
    first | go_end0 | go_returns | go_ret
    exact ⟨rfl, 0, rfl⟩
  · have Hr := Lib.hid (show outW 0 1000 x = decide (x > 1000) by unfold outW; rw [decide_eq_false h]; rfl)
    rw [Hr.out]
    have h1 : decide (x < 0) = false := decide_eq_false h
    clear h
    go_enter Try.func109, Try.ntmps109
    go_wp2
    first | go_end0 | go_returns | go_ret
    exact ⟨rfl, 0, rfl⟩
/-- ContainsFunc over a list of numbers that came in. -/
theorem anyI_calls (p : Int → Bool) (g : Nat) (eg : ∀ args w, (callFunc g args).run Try.prog w = .ok (.enter g args) w) (hp : ∀ x w, Calls Try.prog g #[.int .i64 x] w fun e w' => e = .returned (.bool (p x)) ∧ ∃ q, w' = w.drewN q)
    (A0 : Option Addr) (c0 : Nat) (l0 : List Int) (w : World) (hr0 : Kd.C (Kd.int .i64) w A0 l0.length l0) :
    Calls Try.prog 103 #[.slice A0 l0.length c0, .func (.func g) #[] #[]] w fun e w' => e = .returned (.bool (l0.any p)) ∧ ∃ q, w' = w.drewN q := by
  rcases int_at hr0 with e | ⟨b, off, e, hc⟩
  · subst e
    refine (Try.slices_ContainsFunc_empty_f103 (α := Int) A0 c0 (.func (.func g) #[] #[]) w).mono ?_
    rintro e w' ⟨rfl, rfl⟩
    exact ⟨rfl, 0, rfl⟩
  · subst e
    refine (Try.slices_ContainsFunc_f103 (Value.int .i64) p g #[] eg b off l0.length c0 l0 w (fun W x _ => hp x W) (Nat.le_refl _) hr0.2.1 hc).mono ?_
    rintro e w' ⟨rfl, q, rfl⟩
    rw [List.take_length]
    exact ⟨rfl, q, rfl⟩
def oneTo (lo hi : Int) (l : List Int) : Bool := !(decide (l.length < 1) || decide (12 < l.length) || l.any (outW lo hi))
def errB (b : Bool) : Int := if b = true then 0 else 1
theorem isLengths_calls (A0 : Option Addr) (c0 : Nat) (l0 : List Int) (w : World) (hr0 : Kd.C (Kd.int .i64) w A0 l0.length l0) :
    Calls Try.prog 70 #[.slice A0 l0.length c0] w fun e w' => e = .returned (.int .i64 (errB (oneTo 1 12 l0))) ∧ Below w.heap.size w w' := by
  have hm := hr0.2.1
  have hany := anyI_calls (outW 1 12) 104 (enters_of Try.func104 (by kernel_rfl) rfl) lenW_calls A0 c0 l0 w hr0
  by_cases h1 : l0.length < 1
  · have Hr := Lib.hid (show oneTo 1 12 l0 = false by unfold oneTo; simp [h1])
    have h1' := decide_eq_true h1
    have h1z : decide ((l0.length : Int) < 1) = true := decide_eq_true (by omega)
    clear h1 hr0
    go_enter Try.func70, Try.ntmps70
    go_wp2
    first | go_end0 | go_returns | go_ret
    exact ⟨by rw [Hr.out]; rfl, Below.refl _ _⟩
  · have h1' := decide_eq_false h1
    have h1z : decide ((l0.length : Int) < 1) = false := decide_eq_false (by omega)
    by_cases h2 : 12 < l0.length
    · have Hr := Lib.hid (show oneTo 1 12 l0 = false by unfold oneTo; simp [h2])
      have h2' := decide_eq_true h2
      have h2z : decide ((l0.length : Int) > 12) = true := decide_eq_true (by omega)
      clear h1 h2 hr0
      go_enter Try.func70, Try.ntmps70
      go_wp2
      first | go_end0 | go_returns | go_ret
      exact ⟨by rw [Hr.out]; rfl, Below.refl _ _⟩
    · have h2' := decide_eq_false h2
      have h2z : decide ((l0.length : Int) > 12) = false := decide_eq_false (by omega)
      have Hr := Lib.hid (show oneTo 1 12 l0 = !(l0.any (outW 1 12)) by unfold oneTo; simp [h1, h2])
      clear h1 h2 hr0
      cases hb : l0.any (outW 1 12)
      all_goals
        rw [hb] at hany
        rw [hb] at Hr
        go_enter Try.func70, Try.ntmps70
        go_wp2_with (first | (go_at_call 103; go_must (with_reducible refine hany.mono ?_); rintro e w' ⟨rfl, q, rfl⟩))
        first | go_end0 | go_returns | go_ret
        exact ⟨by rw [Hr.out]; rfl, pw_below_drewN (Below.refl _ _) q⟩
theorem weighed_calls (A0 : Option Addr) (c0 : Nat) (l0 : List Int) (w : World) (hr0 : Kd.C (Kd.int .i64) w A0 l0.length l0) :
    Calls Try.prog 88 #[.slice A0 l0.length c0] w fun e w' => e = .returned (.int .i64 (errB (oneTo 0 1000 l0))) ∧ Below w.heap.size w w' := by
  have hm := hr0.2.1
  have hany := anyI_calls (outW 0 1000) 109 (enters_of Try.func109 (by kernel_rfl) rfl) wgtW_calls A0 c0 l0 w hr0
  by_cases h1 : l0.length < 1
  · have Hr := Lib.hid (show oneTo 0 1000 l0 = false by unfold oneTo; simp [h1])
    have h1' := decide_eq_true h1
    have h1z : decide ((l0.length : Int) < 1) = true := decide_eq_true (by omega)
    clear h1 hr0
    go_enter Try.func88, Try.ntmps88
    go_wp2
    first | go_end0 | go_returns | go_ret
    exact ⟨by rw [Hr.out]; rfl, Below.refl _ _⟩
  · have h1' := decide_eq_false h1
    have h1z : decide ((l0.length : Int) < 1) = false := decide_eq_false (by omega)
    by_cases h2 : 12 < l0.length
    · have Hr := Lib.hid (show oneTo 0 1000 l0 = false by unfold oneTo; simp [h2])
      have h2' := decide_eq_true h2
      have h2z : decide ((l0.length : Int) > 12) = true := decide_eq_true (by omega)
      clear h1 h2 hr0
      go_enter Try.func88, Try.ntmps88
      go_wp2
      first | go_end0 | go_returns | go_ret
      exact ⟨by rw [Hr.out]; rfl, Below.refl _ _⟩
    · have h2' := decide_eq_false h2
      have h2z : decide ((l0.length : Int) > 12) = false := decide_eq_false (by omega)
      have Hr := Lib.hid (show oneTo 0 1000 l0 = !(l0.any (outW 0 1000)) by unfold oneTo; simp [h1, h2])
      clear h1 h2 hr0
      cases hb : l0.any (outW 0 1000)
      all_goals
        rw [hb] at hany
        rw [hb] at Hr
        go_enter Try.func88, Try.ntmps88
        go_wp2_with (first | (go_at_call 103; go_must (with_reducible refine hany.mono ?_); rintro e w' ⟨rfl, q, rfl⟩))
        first | go_end0 | go_returns | go_ret
        exact ⟨by rw [Hr.out]; rfl, pw_below_drewN (Below.refl _ _) q⟩
/-! ends: the closure that adds what is left over. -/
def addB (out : List ByteArray) (t : ByteArray) (ok : Bool) : Bool := ok && !t.toList.isEmpty && !Lib.containsS out t
def addO (out : List ByteArray) (t : ByteArray) (ok : Bool) : List ByteArray := if addB out t ok = true then out ++ [t] else out
theorem getD_str (l : List ByteArray) (j : Nat) (h : j < l.length) : l.getD j ByteArray.empty = l[j] := by
  rw [List.getD_eq_getElem?_getD, List.getElem?_eq_getElem h]; rfl
/-- The cells of a slice of strings of the call's own. -/
theorem own_str {W : World} {n₀ : Nat} {v : Value} {l : List ByteArray} (ho : W.ownsRow n₀ 9 1 v l.length (l.map Value.string)) : (v = .slice none 0 0 ∧ l = []) ∨ ∃ g cap, v = .slice (some ⟨g, 0, none⟩) l.length cap ∧ n₀ ≤ g ∧ l.length ≤ cap ∧ ∀ j, j < l.length → W.cell? ⟨g, 0 + j, none⟩ = some (.string (l.getD j ByteArray.empty)) := by
  have ho2 := ho
  rcases ho.2 with ⟨rfl, h0⟩ | ⟨g, cap, cur, rfl, hb, hg, hn, hm, hs, ht⟩
  · exact .inl ⟨rfl, List.eq_nil_of_length_eq_zero h0⟩
  · refine .inr ⟨g, cap, rfl, hb, hn, fun j hj => ?_⟩
    have hc := ho2.cells (g := g) rfl j (.string (l.getD j ByteArray.empty)) (by rw [List.getElem?_map, List.getElem?_eq_getElem hj, getD_str l j hj]; rfl)
    rw [add_none] at hc
    exact hc
/-- Contains over a slice of strings of the call's own. -/
theorem has_own {W : World} {n₀ : Nat} {v : Value} {l : List ByteArray} (t : ByteArray) (hl : l.length ≤ 1000000) (ho : W.ownsRow n₀ 9 1 v l.length (l.map Value.string)) :
    Calls Try.prog 56 #[v, .string t] W fun e w' => e = .returned (.bool (Lib.containsS l t)) ∧ w' = W := by
  rcases own_str ho with ⟨rfl, rfl⟩ | ⟨g, cap, rfl, hb, hn, hc⟩
  · exact Try.slices_Contains_string_empty none 0 t W
  · have := Try.slices_Contains_string g 0 l.length cap l t W (Nat.le_refl _) (by omega) hc
    rw [List.take_length] at this
    exact this
theorem new_cell (W : World) (x : Value) (T : TypeId) : ∀ j u, [x][j]? = some u → (W.alloc (.cells #[x] T)).cell? ((⟨W.heap.size, 0, none⟩ : Addr).add j) = some u := by
  intro j u hj
  have hj0 : j = 0 := by
    have := (List.getElem?_eq_some_iff.1 hj).1
    simp at this; omega
  subst hj0
  simp at hj
  subst hj
  rw [add_none]
  simp
theorem info9 : (Try.prog.info? 9).map (fun i => (i.zero, i.size, i.bytes)) = some (some (.string ⟨#[]⟩), 1, 16) := by kernel_rfl
set_option maxHeartbeats 2000000 in
set_option maxRecDepth 100000 in
theorem add_calls (B n₀ : Nat) (t : ByteArray) (ok : Bool) (out : List ByteArray) (v : Value) (W : World) (hb : Boxed W B 22 v) (ho : W.ownsRow n₀ 9 1 v out.length (out.map Value.string)) (hn : n₀ ≤ B) (hl : out.length ≤ 1000000) :
    Calls Try.prog 97 #[.string t, .bool ok, .pointer (some ⟨B, 0, none⟩)] W fun e W' => e = .returned (.tuple #[]) ∧ ∃ v', Boxed W' B 22 v' ∧ W'.ownsRow n₀ 9 1 v' (addO out t ok).length ((addO out t ok).map Value.string) ∧ Below n₀ W W' := by
  have hcell := hb.cell
  have hno : addB out t ok = false → W.ownsRow n₀ 9 1 v (addO out t ok).length ((addO out t ok).map Value.string) := fun h => by unfold addO; rw [if_neg (by rw [h]; decide)]; exact ho
  have Hno := Lib.hid hno
  clear hno
  by_cases h1 : ok = false
  · subst h1
    have Hf := Lib.hid (show addB out t false = false from rfl)
    go_enter Try.func97, Try.ntmps97
    go_wp2
    first | go_end0 | go_returns | go_ret
    exact ⟨rfl, v, hb, Hno.out Hf.out, Below.refl _ _⟩
  · obtain rfl : ok = true := by simpa using h1
    clear h1
    by_cases h2 : t.toList = []
    · have Hf := Lib.hid (show addB out t true = false by unfold addB; rw [h2]; simp)
      have h2' : t.toList.isEmpty = true := by rw [h2]; rfl
      go_enter Try.func97, Try.ntmps97
      go_wp2
      first | go_end0 | go_returns | go_ret
      exact ⟨rfl, v, hb, Hno.out Hf.out, Below.refl _ _⟩
    · have h2' : t.toList.isEmpty = false := by simpa using h2
      have hhas := has_own t hl ho
      cases h3 : Lib.containsS out t
      · have Hf := Lib.hid (show addO out t true = out ++ [t] by unfold addO addB; rw [h2', h3]; rfl)
        rw [h3] at hhas
        rw [Hf.out]
        obtain ⟨i0, hi, hz0, hz1, hz2⟩ := info_parts info9
        have ho1 := ho.alloc (.cells #[.string t] 9)
        clear h3
        go_enter Try.func97, Try.ntmps97
        go_wp2_with (first | (go_at_call 56; go_must (with_reducible refine hhas.mono ?_); rintro e w' ⟨rfl, rfl⟩) | (at_builtin; refine wpList_append_own _ rfl _ _ 22 rfl n₀ 9 i0 (.string ⟨#[]⟩) 1 16 Try.underlying22 hi hz0 hz1 hz2 rfl (by decide) _ _ _ rfl ho1 ⟨_, 0, none⟩ 1 1 [.string t] rfl rfl (new_cell _ _ _) (fun u hu => by rw [List.mem_singleton] at hu; subst hu; rfl) (by unfold maxLen; omega) (by omega) (by have := hb.lt; simp; omega) ?_; intro v' w1 hown' hgrow _; obtain ⟨g, cap, hv'⟩ := ownsRow_succ hown'; obtain ⟨ha1, ha2, ha3, ha4, ha5⟩ := hb.appended (tmp := .cells #[.string t] 9) (by decide) ho (by have := hb.lt; omega) hn hown' hgrow; subst hv'; have hac := ha1.cell; have haf := ha1.frozen))
        first | go_end0 | go_returns | go_ret
        refine ⟨rfl, _, ha2, ?_, ha5⟩
        simpa using ha3
      · have Hf := Lib.hid (show addB out t true = false by unfold addB; rw [h3]; simp)
        rw [h3] at hhas
        clear h3
        go_enter Try.func97, Try.ntmps97
        go_wp2_with (first | (go_at_call 56; go_must (with_reducible refine hhas.mono ?_); rintro e w' ⟨rfl, rfl⟩))
        first | go_end0 | go_returns | go_ret
        exact ⟨rfl, v, hb, Hno.out Hf.out, Below.refl _ _⟩
/-! ends: what is left over, found row by row. -/
def restB (y x : ByteArray) : ByteArray := ⟨(Lib.trimPrefix y.data.toList x.data.toList).toArray⟩
def headB (y x : ByteArray) : Bool := Lib.hasPrefix y.data.toList x.data.toList
theorem cut_calls (y x : ByteArray) (w : World) : Calls Try.prog 79 #[.string y, .string x] w fun e w' => e = .returned (.tuple #[.string (restB y x), .bool (headB y x)]) ∧ w' = w := Try.strings_CutPrefix y x w
def cutO (o : List ByteArray) (y x : ByteArray) : List ByteArray := addO o (restB y x) (headB y x)
theorem addO_ge (o : List ByteArray) (t : ByteArray) (b : Bool) : o.length ≤ (addO o t b).length := by
  unfold addO; split
  · rw [List.length_append]; omega
  · exact Nat.le_refl _
theorem addO_le (o : List ByteArray) (t : ByteArray) (b : Bool) : (addO o t b).length ≤ o.length + 1 := by
  unfold addO; split
  · rw [List.length_append, List.length_singleton]; omega
  · omega
theorem addO_get (o : List ByteArray) (t : ByteArray) (b : Bool) (i : Nat) (h : i < o.length) : (addO o t b).getD i ByteArray.empty = o.getD i ByteArray.empty := by
  unfold addO; split
  · rw [List.getD_eq_getElem?_getD, List.getD_eq_getElem?_getD, List.getElem?_append_left h]
  · rfl
/-- A row of the first search: the first j signals against x. -/
def inA (C : List ByteArray) (x : ByteArray) : Nat → List ByteArray → List ByteArray
  | 0, o => o
  | j + 1, o => cutO (inA C x j o) (C.getD j ByteArray.empty) x
def outA (C : List ByteArray) : Nat → List ByteArray
  | 0 => []
  | k + 1 => inA C (C.getD k ByteArray.empty) C.length (outA C k)
/-- A row of the second search: what is left over of e and the first j signals. -/
def inB (C : List ByteArray) (e : ByteArray) : Nat → List ByteArray → List ByteArray
  | 0, o => o
  | j + 1, o => cutO (cutO (inB C e j o) e (C.getD j ByteArray.empty)) (C.getD j ByteArray.empty) e
theorem inA_le (C : List ByteArray) (x : ByteArray) : ∀ j o, (inA C x j o).length ≤ o.length + j
  | 0, o => Nat.le_refl _
  | j + 1, o => by have := inA_le C x j o; have := addO_le (inA C x j o) (restB (C.getD j ByteArray.empty) x) (headB (C.getD j ByteArray.empty) x); show (addO _ _ _).length ≤ _; omega
theorem outA_le (C : List ByteArray) : ∀ k, (outA C k).length ≤ k * C.length
  | 0 => Nat.zero_le _
  | k + 1 => by have := outA_le C k; have := inA_le C (C.getD k ByteArray.empty) C.length (outA C k); show (inA _ _ _ _).length ≤ _; rw [Nat.succ_mul]; omega
theorem inB_le (C : List ByteArray) (e : ByteArray) : ∀ j o, (inB C e j o).length ≤ o.length + 2 * j
  | 0, o => Nat.le_refl _
  | j + 1, o => by
    have h0 := inB_le C e j o
    have h1 := addO_le (inB C e j o) (restB e (C.getD j ByteArray.empty)) (headB e (C.getD j ByteArray.empty))
    have h2 := addO_le (cutO (inB C e j o) e (C.getD j ByteArray.empty)) (restB (C.getD j ByteArray.empty) e) (headB (C.getD j ByteArray.empty) e)
    show (addO _ _ _).length ≤ _
    unfold cutO at h2 ⊢
    omega
theorem inB_ge (C : List ByteArray) (e : ByteArray) : ∀ j o, o.length ≤ (inB C e j o).length
  | 0, o => Nat.le_refl _
  | j + 1, o => Nat.le_trans (Nat.le_trans (inB_ge C e j o) (addO_ge _ _ _)) (addO_ge _ _ _)
theorem inB_get (C : List ByteArray) (e : ByteArray) (i : Nat) : ∀ j o, i < o.length → (inB C e j o).getD i ByteArray.empty = o.getD i ByteArray.empty
  | 0, o, _ => rfl
  | j + 1, o, h => by
    have h1 := inB_ge C e j o
    have h2 := addO_ge (inB C e j o) (restB e (C.getD j ByteArray.empty)) (headB e (C.getD j ByteArray.empty))
    exact (addO_get _ _ _ i (Nat.lt_of_lt_of_le h (Nat.le_trans h1 h2))).trans ((addO_get _ _ _ i (Nat.lt_of_lt_of_le h h1)).trans (inB_get C e i j o h))
/-- The second search. -/
def goB (C : List ByteArray) : Nat → List ByteArray → Nat → Option (List ByteArray)
  | 0, _, _ => none
  | f + 1, o, i => if o.length ≤ 100000 then (if i < o.length then goB C f (inB C (o.getD i ByteArray.empty) C.length o) (i + 1) else some o) else none
def sortS (l : List ByteArray) : List ByteArray := ((l.map (·.data.toList)).mergeSort fun x y => decide (x ≤ y)).map fun b => ⟨b.toArray⟩
def endsL (k : Nat) (C : List ByteArray) : Option (List ByteArray) := if C.length ≤ 100 then (goB C k (outA C C.length) 0).map sortS else none
theorem goB_mono (C : List ByteArray) : ∀ f o i r, goB C f o i = some r → goB C (f + 1) o i = some r
  | 0, _, _, _, h => by simp [goB] at h
  | f + 1, o, i, r, h => by
    unfold goB at h ⊢
    split at h
    · rename_i hc
      rw [if_pos hc]
      split at h
      · rename_i hd; rw [if_pos hd]; exact goB_mono C f _ _ r h
      · rename_i hd; rw [if_neg hd]; exact h
    · cases h
/-- What the box and the row say. -/
def EndsAt (w : World) (o : List ByteArray) (W : World) : Prop := ∃ v, Boxed W w.heap.size 22 v ∧ W.ownsRow w.heap.size 9 1 v o.length (o.map Value.string) ∧ Below w.heap.size w W
theorem EndsAt.start (w : World) : EndsAt w [] (w.alloc (.cells #[.slice none 0 0] 22)) := ⟨_, Boxed.new w 22 _, World.ownsRow_nil _ _ _ _, (Below.refl _ _).alloc (Nat.le_refl _) _⟩
/-- One call of the closure. -/
theorem EndsAt.add {w : World} {o : List ByteArray} {W : World} (h : EndsAt w o W) (t : ByteArray) (b : Bool) (hl : o.length ≤ 1000000) :
    Calls Try.prog 97 #[.string t, .bool b, .pointer (some ⟨w.heap.size, 0, none⟩)] W fun e W' => e = .returned (.tuple #[]) ∧ EndsAt w (addO o t b) W' := by
  obtain ⟨v, hb, ho, hB⟩ := h
  refine (add_calls w.heap.size w.heap.size t b o v W hb ho (Nat.le_refl _) hl).mono ?_
  rintro e W' ⟨rfl, v', h1, h2, h3⟩
  exact ⟨rfl, v', h1, h2, hB.trans h3⟩
theorem code_at {w W : World} {A0 : Option Addr} {C : List ByteArray} (hr0 : Kd.C Kd.string w A0 C.length C) (hB : Below w.heap.size w W) (j : Nat) (hj : j < C.length) : ∃ ad, A0 = some ad ∧ W.cell? (ad.add j) = some (.string (C.getD j ByteArray.empty)) := by
  obtain ⟨ad, e, hc⟩ := Kd.at_string (Kd.C_below hr0 hB) (j : Int) (by omega) (by omega)
  rw [Int.toNat_natCast] at hc
  exact ⟨ad, e, hc⟩
theorem EndsAt.below {w : World} {o : List ByteArray} {W : World} (h : EndsAt w o W) : Below w.heap.size w W := by obtain ⟨v, h1, h2, h3⟩ := h; exact h3
theorem EndsAt.box {w : World} {o : List ByteArray} {W : World} (h : EndsAt w o W) : ∃ v, W.cell? ⟨w.heap.size, 0, none⟩ = some v ∧ ((v = .slice none 0 0 ∧ o = []) ∨ ∃ g cap, v = .slice (some ⟨g, 0, none⟩) o.length cap ∧ ∀ j, j < o.length → W.cell? ⟨g, j, none⟩ = some (.string (o.getD j ByteArray.empty))) := by
  obtain ⟨v, hb, ho, hB⟩ := h
  refine ⟨v, hb.cell, ?_⟩
  rcases own_str ho with hn | ⟨g, cap, h1, h2, h3, h4⟩
  · exact .inl hn
  · exact .inr ⟨g, cap, h1, fun j hj => by have := h4 j hj; rwa [Nat.zero_add] at this⟩
theorem EndsAt.boxp {w : World} {o : List ByteArray} {W : World} (h : EndsAt w o W) (hp : 0 < o.length) : ∃ g cap, W.cell? ⟨w.heap.size, 0, none⟩ = some (.slice (some ⟨g, 0, none⟩) o.length cap) ∧ ∀ j, j < o.length → W.cell? ⟨g, j, none⟩ = some (.string (o.getD j ByteArray.empty)) := by
  obtain ⟨v, hv, hc⟩ := h.box
  rcases hc with ⟨_, he⟩ | ⟨g, cap, rfl, hcells⟩
  · rw [he] at hp; simp at hp
  · exact ⟨g, cap, hv, hcells⟩
theorem EndsAt.row {w : World} {o : List ByteArray} {W : World} (h : EndsAt w o W) {g cap : Nat} (hv : W.cell? ⟨w.heap.size, 0, none⟩ = some (.slice (some ⟨g, 0, none⟩) o.length cap)) :
    Boxed W w.heap.size 22 (.slice (some ⟨g, 0, none⟩) o.length cap) ∧ W.ownsRow w.heap.size 9 1 (.slice (some ⟨g, 0, none⟩) o.length cap) o.length (o.map Value.string) ∧ Below w.heap.size w W := by
  obtain ⟨v, hb, ho, hB⟩ := h
  have e := hb.cell.symm.trans hv
  cases e
  exact ⟨hb, ho, hB⟩
theorem map_enc (o : List ByteArray) : (o.map (·.data.toList)).map encStr = o.map Value.string := Go.Lib.map_encStr o
theorem EndsAt.holds {w : World} {o : List ByteArray} {W : World} (h : EndsAt w o W) {g cap : Nat} (hv : W.cell? ⟨w.heap.size, 0, none⟩ = some (.slice (some ⟨g, 0, none⟩) o.length cap)) :
    Go.Sort.Holds encStr W g 0 (o.map (·.data.toList)).toArray ∧ g < W.heap.size := by
  obtain ⟨hb, ho, hB⟩ := h.row hv
  rw [← map_enc] at ho
  obtain ⟨g', cap', e, h1, h2, h3, h4, h5, h6⟩ := Go.Lib.holds_of_ownsRow ho (by intro h; cases h)
  cases e
  exact ⟨h6, h2⟩
theorem sortS_enc (o : List ByteArray) : (sortS o).map Value.string = ((o.map (·.data.toList)).mergeSort fun x y => decide (x ≤ y)).map encStr := by
  unfold sortS
  rw [List.map_map]
  apply List.map_congr_left
  intro x _
  simp [encStr]
theorem EndsAt.sorted {w : World} {o : List ByteArray} {W : World} (h : EndsAt w o W) {g cap : Nat} (hv : W.cell? ⟨w.heap.size, 0, none⟩ = some (.slice (some ⟨g, 0, none⟩) o.length cap)) (n : Nat) (os : Array Obj) :
    (Go.Sort.grow (Go.Sort.putRow encStr (Go.Sort.ahead W n) g 0 ((o.map (·.data.toList)).mergeSort fun x y => decide (x ≤ y)).toArray) os).cell? ⟨w.heap.size, 0, none⟩ = some (.slice (some ⟨g, 0, none⟩) o.length cap) ∧
    (Go.Sort.grow (Go.Sort.putRow encStr (Go.Sort.ahead W n) g 0 ((o.map (·.data.toList)).mergeSort fun x y => decide (x ≤ y)).toArray) os).ownsRow w.heap.size 9 1 (.slice (some ⟨g, 0, none⟩) o.length cap) o.length ((sortS o).map Value.string) ∧
    Below w.heap.size w (Go.Sort.grow (Go.Sort.putRow encStr (Go.Sort.ahead W n) g 0 ((o.map (·.data.toList)).mergeSort fun x y => decide (x ≤ y)).toArray) os) := by
  obtain ⟨hb, ho, hB⟩ := h.row hv
  obtain ⟨cur, hcur, hcs, hbg, hncap, hcm⟩ : ∃ cur, W.heap[g]? = some (.cells cur 9 (0, 0)) ∧ cur.size = cap * 1 ∧ w.heap.size ≤ g ∧ o.length ≤ cap ∧ cap ≤ maxLen := by
    rcases ho.2 with ⟨e, _⟩ | ⟨g', cap', cur, e, h1, hg, h2, h3, hs, _⟩
    · cases e
    · cases e; exact ⟨cur, hg, hs, h1, h2, h3⟩
  have hgr := grownBy_sorted (w := W) (g := g) (os := os) (n := n) ((o.map (·.data.toList)).mergeSort fun x y => decide (x ≤ y)).toArray
  have hne : some w.heap.size ≠ some g := by
    intro e; injection e with e
    rw [← e] at hcur
    have := (show W.heap[w.heap.size]? = _ from hb).symm.trans hcur
    injection this with this; injection this with _ h2; cases h2
  refine ⟨(hb.kept hgr hne).cell, ?_, hB.grown hgr hB.size (fun j e => by cases e; exact hbg)⟩
  have hS := ownsRow_sorted (w := W) (base := w.heap.size) (n := n) (os := os) (ts := (o.map (·.data.toList)).mergeSort fun x y => decide (x ≤ y)) (ss := o.map (·.data.toList)) (by simp) hbg hcur (by simpa using hncap) hcm hcs
  rw [List.length_map] at hS
  rw [sortS_enc]
  exact hS
set_option maxHeartbeats 8000000 in
set_option maxRecDepth 100000 in
theorem ends_walk (k : Nat) (A0 : Option Addr) (c0 : Nat) (C r : List ByteArray) (w : World) (hr0 : Kd.C Kd.string w A0 C.length C) (hC : C.length ≤ 100) (hgo : goB C k (outA C C.length) 0 = some r) :
    Calls Try.prog 52 #[.slice A0 C.length c0] w fun e w' => ∃ v0, e = .returned v0 ∧ w'.ownsRow w.heap.size 9 1 v0 r.length ((sortS r).map Value.string) ∧ Below w.heap.size w w' := by
  have hs0 := EndsAt.start w
  have hcode := fun W hB j hj => @code_at w W A0 C hr0 hB j hj
  have HC := Lib.hid hcode
  have Hgo := Lib.hid hgo
  clear hcode hr0 hgo
  go_enter Try.func52, Try.ntmps52
  go_wp2
  go_loopw [15] (fun p wr => ∃ i : Nat, i ≤ C.length ∧ p = .int .i64 (i : Int) ∧ EndsAt w (outA C i) wr) (fun p _ => C.length - (intOf p).toNat)
  case atStart => exact ⟨0, Nat.zero_le _, rfl, hs0⟩
  case round =>
    obtain ⟨i, hi, rfl, hE⟩ := hrel
    by_cases hlt : i < C.length
    · have hdi : decide ((i : Int) < (C.length : Int)) = true := decide_eq_true (by omega)
      have hdi0 : decide (0 ≤ (i : Int)) = true := decide_eq_true (by omega)
      obtain ⟨ad, rfl, hci⟩ := HC.out _ hE.below i hlt
      have hoi := outA_le C i
      have hoi2 : i * C.length ≤ 100 * 100 := Nat.mul_le_mul (by omega) hC
      have hst : outA C (i + 1) = inA C (C.getD i ByteArray.empty) C.length (outA C i) := rfl
      have Hst := Lib.hid hst
      clear hst
      generalize C.getD i ByteArray.empty = x at *
      go_wp2
      obtain ⟨wo, rfl⟩ : ∃ wo : World, wo = wr := ⟨_, rfl⟩
      go_loopw [21] (fun p wr => ∃ j : Nat, j ≤ C.length ∧ p = .int .i64 (j : Int) ∧ EndsAt w (inA C x j (outA C i)) wr) (fun p _ => C.length - (intOf p).toNat)
      case atStart => exact ⟨0, Nat.zero_le _, rfl, hE⟩
      case round =>
        obtain ⟨j, hj, rfl, hEj⟩ := hrel
        by_cases hjt : j < C.length
        · have hdj : decide ((j : Int) < (C.length : Int)) = true := decide_eq_true (by omega)
          have hdj0 : decide (0 ≤ (j : Int)) = true := decide_eq_true (by omega)
          obtain ⟨ad2, e2, hcj⟩ := HC.out _ hEj.below j hjt
          cases e2
          have hoj := inA_le C x j (outA C i)
          have Hsj := Lib.hid (show inA C x (j + 1) (outA C i) = cutO (inA C x j (outA C i)) (C.getD j ByteArray.empty) x from rfl)
          generalize C.getD j ByteArray.empty = y at *
          have hadd := hEj.add (restB y x) (headB y x) (by omega)
          go_wp2_with (first | (go_at_call 79; go_must (with_reducible refine (cut_calls _ _ _).mono ?_); rintro e w' ⟨rfl, rfl⟩) | (go_at_call 97; go_must (with_reducible refine hadd.mono ?_); rintro e w' ⟨rfl, hE2⟩))
          go_roundw
          case rel => exact ⟨j + 1, by omega, by simp, by rw [Hsj.out]; exact hE2⟩
          case measure => simp [intOf]; omega
        · obtain rfl : j = C.length := by omega
          have hdj : decide ((C.length : Int) < (C.length : Int)) = false := decide_eq_false (by omega)
          go_wp2
          go_roundw
          case rel => exact ⟨i + 1, by omega, by simp, by rw [Hst.out]; exact hEj⟩
          case measure => simp [intOf]; omega
    · obtain rfl : i = C.length := by omega
      have hdi : decide ((C.length : Int) < (C.length : Int)) = false := decide_eq_false (by omega)
      go_wp2
      clear hlt hdi hi
      go_loopg [9] k (fun f p wr => ∃ (i : Nat) (o : List ByteArray), p = .int .i64 (i : Int) ∧ i ≤ o.length ∧ EndsAt w o wr ∧ Hid (goB C f o i = some r))
      case atStart => exact ⟨0, outA C C.length, rfl, Nat.zero_le _, hE, Hgo⟩
      case round =>
        clear hE Hgo
        obtain ⟨i, o, rfl, hi, hE, HG⟩ := hrel
        cases gk with
        | zero => exact absurd HG.out (by simp [goB])
        | succ f =>
          have hg := HG.out
          clear HG
          unfold goB at hg
          split at hg
          · rename_i ho
            obtain ⟨v, hv, hvc⟩ := hE.box
            by_cases hlt : i < o.length
            · rw [if_pos hlt] at hg
              rcases hvc with ⟨_, he⟩ | ⟨g, cap, rfl, hcells⟩
              · rw [he] at hlt; simp at hlt
              · have hdi : decide ((i : Int) < (o.length : Int)) = true := decide_eq_true (by omega)
                have hdi0 : decide (0 ≤ (i : Int)) = true := decide_eq_true (by omega)
                have hge := inB_get C (o.getD i ByteArray.empty) i
                have hgl := inB_ge C (o.getD i ByteArray.empty)
                have hgu := inB_le C (o.getD i ByteArray.empty)
                have Hget := Lib.hid hge
                have Hgl := Lib.hid hgl
                have Hgu := Lib.hid hgu
                have Hg := Lib.hid hg
                obtain ⟨e, he⟩ : ∃ e, o.getD i ByteArray.empty = e := ⟨_, rfl⟩
                rw [he] at Hget Hgl Hgu Hg
                clear hge hgl hgu hg
                have He := Lib.hid he
                clear he hcells
                go_wp2
                obtain ⟨wo, rfl⟩ : ∃ wo : World, wo = wr := ⟨_, rfl⟩
                clear hv
                go_loopw [42] (fun p wr => ∃ j : Nat, j ≤ C.length ∧ p = .int .i64 (j : Int) ∧ EndsAt w (inB C e j o) wr) (fun p _ => C.length - (intOf p).toNat)
                case atStart => exact ⟨0, Nat.zero_le _, rfl, hE⟩
                case round =>
                  clear hE
                  obtain ⟨j, hj, rfl, hE⟩ := hrel
                  by_cases hjt : j < C.length
                  · have hdj : decide ((j : Int) < (C.length : Int)) = true := decide_eq_true (by omega)
                    have hdj0 : decide (0 ≤ (j : Int)) = true := decide_eq_true (by omega)
                    obtain ⟨ad2, e2, hcj⟩ := HC.out _ hE.below j hjt
                    subst e2
                    have hg1 := Hget.out j o hlt
                    have hg2 := Hgl.out j o
                    have hg3 := Hgu.out j o
                    rw [He.out] at hg1
                    have Hsj := Lib.hid (show inB C e (j + 1) o = cutO (cutO (inB C e j o) e (C.getD j ByteArray.empty)) (C.getD j ByteArray.empty) e from rfl)
                    generalize C.getD j ByteArray.empty = x at *
                    generalize inB C e j o = P at *
                    have hP1 := addO_ge P (restB e x) (headB e x)
                    have hP2 := addO_le P (restB e x) (headB e x)
                    have hP3 := addO_get P (restB e x) (headB e x) i (by omega)
                    rw [hg1] at hP3
                    obtain ⟨v1, hv1, hvc1⟩ := hE.box
                    rcases hvc1 with ⟨_, he1⟩ | ⟨g1, cap1, rfl, hcells1⟩
                    · have := congrArg List.length he1; simp only [List.length_nil] at this; omega
                    · have hci := hcells1 i (by omega)
                      rw [hg1] at hci
                      have hpi : decide ((i : Int) < (P.length : Int)) = true := decide_eq_true (by omega)
                      have hadd1 := hE.add (restB e x) (headB e x) (by omega)
                      clear hg1
                      have HP3 := Lib.hid hP3
                      clear hP3 hcells1
                      rw [show addO P (restB e x) (headB e x) = cutO P e x from rfl] at hP1 hP2 HP3 hadd1
                      generalize cutO P e x = P2 at *
                      have hpi2 : decide ((i : Int) < (P2.length : Int)) = true := decide_eq_true (by omega)
                      go_wp2_with (first | (go_at_call 79; go_must (with_reducible refine (cut_calls _ _ _).mono ?_); rintro _ w' ⟨rfl, rfl⟩) | (go_at_call 97; (with_reducible refine hadd1.mono ?_); rintro _ w2 ⟨rfl, hE2⟩; obtain ⟨g2, cap2, hv2, hcells2⟩ := hE2.boxp (by omega); have hci2 := hcells2 i (by omega); rw [HP3.out] at hci2; have hadd2 := hE2.add (restB x e) (headB x e) (by omega); clear hcells2) | (go_at_call 97; go_must (with_reducible refine hadd2.mono ?_); rintro _ w3 ⟨rfl, hE3⟩))
                      go_roundw
                      case rel => exact ⟨j + 1, by omega, by simp, by rw [Hsj.out]; exact hE3⟩
                      case measure => simp [intOf]; omega
                  · obtain rfl : j = C.length := by omega
                    have hdj : decide ((C.length : Int) < (C.length : Int)) = false := decide_eq_false (by omega)
                    have hg2 := Hgl.out C.length o
                    go_wp2
                    go_roundg f
                    case measure => omega
                    case rel => exact ⟨i + 1, _, by simp, by omega, hE, Hg⟩
            · obtain rfl : i = o.length := by omega
              have hdi : decide ((o.length : Int) < (o.length : Int)) = false := decide_eq_false (by omega)
              rw [if_neg hlt] at hg
              obtain rfl := Option.some.inj hg
              clear hg
              rcases hvc with ⟨rfl, rfl⟩ | ⟨g, cap, rfl, hcells⟩
              · go_wp2_with (first | (go_at_call 98; go_must (with_reducible refine (Try.slices_Sort_string_none none 0 _).mono ?_); rintro _ w' ⟨rfl, rfl⟩))
                first | go_end0 | go_returns | go_ret
                exact ⟨.slice none 0 0, rfl, by rw [show sortS [] = [] by unfold sortS; simp]; exact World.ownsRow_nil _ _ _ _, hE.below⟩
              · obtain ⟨HS, hgl⟩ := hE.holds hv
                have hsort := Try.slices_Sort_string g 0 cap (o.map (·.data.toList)) wr HS hgl (by rw [List.length_map]; omega)
                rw [List.length_map] at hsort
                have hend := fun n os => hE.sorted hv n os
                have Hend := Lib.hid hend
                clear hend hcells
                have hend2 := fun n os => (Hend.out n os).1
                go_wp2_with (first | (go_at_call 98; go_must (with_reducible refine hsort.mono ?_); rintro _ w' ⟨rfl, n, os, rfl⟩; have hbox2 := hend2 n os))
                first | go_end0 | go_returns | go_ret
                exact ⟨_, rfl, (Hend.out n os).2.1, (Hend.out n os).2.2⟩
          · cases hg
/-! IsSafe's closure; the whole of IsSafe over ends. -/
theorem length_sortS (o : List ByteArray) : (sortS o).length = o.length := by unfold sortS; simp
theorem ends_given (k : Nat) (A0 : Option Addr) (c0 : Nat) (C r : List ByteArray) (w : World) (hr0 : Kd.C Kd.string w A0 C.length C) (h : endsL k C = some r) :
    Calls Try.prog 52 #[.slice A0 C.length c0] w fun e w' => ∃ v0, e = .returned v0 ∧ w'.ownsRow w.heap.size 9 1 v0 r.length (r.map Value.string) ∧ Below w.heap.size w w' := by
  unfold endsL at h
  split at h
  · rename_i hc
    obtain ⟨o, ho, rfl⟩ := Option.map_eq_some_iff.1 h
    rw [length_sortS]
    exact ends_walk k A0 c0 C o w hr0 hc ho
  · cases h
theorem goB_len (C : List ByteArray) : ∀ f o i r, goB C f o i = some r → r.length ≤ 100000
  | 0, _, _, _, h => by simp [goB] at h
  | f + 1, o, i, r, h => by
    unfold goB at h
    split at h
    · rename_i hc
      split at h
      · exact goB_len C f _ _ r h
      · obtain rfl := Option.some.inj h; exact hc
    · cases h
theorem endsL_len {k : Nat} {C r : List ByteArray} (h : endsL k C = some r) : r.length ≤ 100000 := by
  unfold endsL at h
  split at h
  · obtain ⟨o, ho, rfl⟩ := Option.map_eq_some_iff.1 h
    rw [length_sortS]
    exact goB_len C _ _ _ _ ho
  · cases h
theorem endsL_mono (k : Nat) (C r : List ByteArray) (h : endsL k C = some r) : endsL (k + 1) C = some r := by
  unfold endsL at h ⊢
  split at h
  · rename_i hc
    rw [if_pos hc]
    obtain ⟨o, ho, rfl⟩ := Option.map_eq_some_iff.1 h
    rw [goB_mono C _ _ _ _ ho]; rfl
  · cases h
theorem inE_calls (B n₀ : Nat) (s : ByteArray) (v : Value) (l : List ByteArray) (W : World) (hB : W.cell? ⟨B, 0, none⟩ = some v) (ho : W.ownsRow n₀ 9 1 v l.length (l.map Value.string)) (hl : l.length ≤ 100000) :
    Calls Try.prog 55 #[.string s, .pointer (some ⟨B, 0, none⟩)] W fun e w' => e = .returned (.bool (Lib.containsS l s)) ∧ w' = W := by
  have hhas := has_own s (by omega) ho
  go_enter Try.func55, Try.ntmps55
  go_wp2_with (first | (go_at_call 56; go_must (with_reducible refine hhas.mono ?_); rintro e w' ⟨rfl, rfl⟩))
  first | go_end0 | go_returns | go_ret
  exact ⟨rfl, rfl⟩
theorem own_below {w w' : World} {base : Nat} {v : Value} {xs : List Value} {e : TypeId} {n : Nat} (h : w.ownsRow base e 1 v n xs) (hb : Below w.heap.size w w') : w'.ownsRow base e 1 v n xs := by
  rcases h.2 with hn | ⟨g, cap, cur, rfl, h1, hg, h3⟩
  · exact ⟨h.1, .inl hn⟩
  · exact ⟨h.1, .inr ⟨g, cap, cur, rfl, h1, (hb.block g (Array.getElem?_eq_some_iff.1 hg).1).trans hg, h3⟩⟩
/-- ContainsFunc over the code. -/
theorem anyS_calls (B n₀ : Nat) (v : Value) (l : List ByteArray) (A0 : Option Addr) (c0 : Nat) (C : List ByteArray) (W : World) (hr0 : Kd.C Kd.string W A0 C.length C) (hB : W.cell? ⟨B, 0, none⟩ = some v) (ho : W.ownsRow n₀ 9 1 v l.length (l.map Value.string)) (hl : l.length ≤ 100000) :
    Calls Try.prog 54 #[.slice A0 C.length c0, .func (.func 55) #[] #[.pointer (some ⟨B, 0, none⟩)]] W fun e w' => e = .returned (.bool (C.any (Lib.containsS l))) ∧ ∃ q, w' = W.drewN q := by
  rcases str_at hr0 with e | ⟨b, off, e, hc⟩
  · subst e
    refine (Try.slices_ContainsFunc_empty_f54 (α := ByteArray) A0 c0 (.func (.func 55) #[] #[.pointer (some ⟨B, 0, none⟩)]) W).mono ?_
    rintro e w' ⟨rfl, rfl⟩
    exact ⟨rfl, 0, rfl⟩
  · subst e
    haveI : Inhabited ByteArray := ⟨ByteArray.empty⟩
    refine (Try.slices_ContainsFunc_f54 Value.string (Lib.containsS l) 55 #[.pointer (some ⟨B, 0, none⟩)] (enters_of Try.func55 (by kernel_rfl) rfl) b off C.length c0 C W (fun W' x hb => ?_) (Nat.le_refl _) hr0.2.1 (fun j hj => ?_)).mono ?_
    · show Calls Try.prog 55 #[.string x, .pointer (some ⟨B, 0, none⟩)] W' _
      refine (inE_calls B n₀ x v l W' ((hb.cell (World.block_lt_of_cell? W _ hB)).trans hB) (own_below ho hb) hl).mono ?_
      rintro e w' ⟨rfl, rfl⟩
      exact ⟨rfl, 0, rfl⟩
    · rw [hc j hj, getD_str C j hj, getElem!_pos C j hj]
    · rintro e w' ⟨rfl, q, rfl⟩
      rw [List.take_length]
      exact ⟨rfl, q, rfl⟩
theorem isSafe_bad (A0 : Option Addr) (c0 : Nat) (C : List ByteArray) (e0 : Int) (w : World) (hne : e0 ≠ 0)
    (hv : Calls Try.prog 32 #[.slice A0 C.length c0] w fun e w' => e = .returned (.int .i64 e0) ∧ Below w.heap.size w w') :
    Calls Try.prog 21 #[.slice A0 C.length c0] w fun e w' => e = .returned (.tuple #[.bool false, .int .i64 e0]) ∧ Below w.heap.size w w' := by
  have h1 : (e0 == 0) = false := by simpa using hne
  have h2 : (e0 != 0) = true := by simpa using hne
  clear hne
  go_enter Try.func21, Try.ntmps21
  go_wp2_with (first | (go_at_call 32; go_must (with_reducible refine hv.mono ?_); rintro e w' ⟨rfl, hb⟩))
  go_ret2
  exact ⟨rfl, hb⟩
set_option maxHeartbeats 2000000 in
theorem isSafe_ok (k : Nat) (A0 : Option Addr) (c0 : Nat) (C r : List ByteArray) (w : World) (hr0 : Kd.C Kd.string w A0 C.length C) (he : endsL k C = some r)
    (hv : Calls Try.prog 32 #[.slice A0 C.length c0] w fun e w' => e = .returned (.int .i64 0) ∧ Below w.heap.size w w') :
    Calls Try.prog 21 #[.slice A0 C.length c0] w fun e w' => e = .returned (.tuple #[.bool (!(C.any (Lib.containsS r))), .int .i64 0]) ∧ Below w.heap.size w w' := by
  have hl := endsL_len he
  have hcode := fun W (hB : Below w.heap.size w W) => Kd.C_below hr0 hB
  have Hcode := Lib.hid hcode
  have HE := Lib.hid he
  clear hcode hr0 he
  go_enter Try.func21, Try.ntmps21
  go_wp2_with (first | (go_at_call 32; go_must (with_reducible refine hv.mono ?_); rintro e w1 ⟨rfl, hb⟩; have hends := ends_given k A0 c0 C r w1 (Hcode.out w1 hb) HE.out) | (go_at_call 52; go_must (with_reducible refine hends.mono ?_); rintro e w2 ⟨v2, rfl, ho2, hb2⟩; obtain ⟨A2, cc2, rfl⟩ : ∃ A2 cc2, v2 = .slice A2 r.length cc2 := (by rcases ho2.2 with ⟨e1, e2⟩ | ⟨g, cap, cur, e1, _⟩; exact ⟨none, 0, by rw [e1, e2]⟩; exact ⟨_, _, e1⟩); have hB2 := hb.trans (hb2.mono hb.size); have hany := anyS_calls w2.heap.size w1.heap.size _ r A0 c0 C _ (Hcode.out _ (hB2.alloc hB2.size (.cells #[.slice A2 r.length cc2] 22))) (Boxed.new w2 22 _).cell (ho2.alloc _) hl) | (go_at_call 54; go_must (with_reducible refine hany.mono ?_); rintro e w3 ⟨rfl, q, rfl⟩))
  go_ret2
  exact ⟨rfl, pw_below_drewN (hB2.alloc hB2.size _) q⟩
/-! What a contract says at a later world. -/
def AtLater (w : World) (P : World → Prop) : Prop := ∀ W, Below w.heap.size w W → P W
def RetI (f : Nat) (args : Array Value) (r : Int) (W : World) : Prop := Calls Try.prog f args W fun e w' => e = .returned (.int .i64 r) ∧ Below W.heap.size W w'
def RetB (f : Nat) (args : Array Value) (r : Bool) (W : World) : Prop := Calls Try.prog f args W fun e w' => e = .returned (.bool r) ∧ Below W.heap.size W w'
def RetS (f : Nat) (args : Array Value) (r : ByteArray) (W : World) : Prop := Calls Try.prog f args W fun e w' => e = .returned (.string r) ∧ Below W.heap.size W w'
theorem AtLater.hid {w : World} {P : World → Prop} (h : AtLater w P) : Hid (AtLater w P) := h
/-! The reference's leftover. -/
def leftP (x y : ByteArray) : ByteArray × Bool := if y.size < x.size then (x.extract y.size x.size, headB x y) else (y.extract x.size y.size, decide (x.size < y.size) && headB y x)
theorem left_walk (x y : ByteArray) (w : World) (hx : x.size ≤ 9223372036854775807) (hy : y.size ≤ 9223372036854775807) (hbeg : ∀ a b W, Calls Try.prog 59 #[.string a, .string b] W fun e w' => e = .returned (.bool (headB a b)) ∧ ∃ q, w' = W.drewN q) :
    Calls Try.prog 99 #[.string x, .string y] w fun e w' => e = .returned (.tuple #[.string (leftP x y).1, .bool (leftP x y).2]) ∧ Below w.heap.size w w' := by
  by_cases h : y.size < x.size
  · have Hl := Lib.hid (show leftP x y = (x.extract y.size x.size, headB x y) by unfold leftP; rw [if_pos h])
    rw [Hl.out]
    have h1 : decide ((x.size : Int) > (y.size : Int)) = true := decide_eq_true (by omega)
    have h1' : decide (x.size > y.size) = true := decide_eq_true h
    have h2 : decide ((y.size : Int) < (x.size : Int)) = true := decide_eq_true (by omega)
    have h2' : decide (y.size < x.size) = true := decide_eq_true h
    have h3 : ¬ x.size < y.size := by omega
    have hb := fun W => hbeg x y W
    clear hbeg
    go_enter Try.func99, Try.ntmps99
    go_wp2
    go_quiet ((go_at_call 59; exact Calls.quiet_of (hb _)))
    go_wp2
    go_ret2
    refine ⟨?_, pw_below_drewN (Below.refl _ _) _⟩
    show Ending.returned (.tuple #[.string (x.extract (min (y.size : Int) (x.size : Int)).toNat x.size), .bool (headB x y)]) = _
    rw [show (min (y.size : Int) (x.size : Int)).toNat = y.size by omega]
  · by_cases h0 : x.size < y.size
    · have Hl := Lib.hid (show leftP x y = (y.extract x.size y.size, headB y x) by unfold leftP; rw [if_neg h, decide_eq_true h0]; rfl)
      rw [Hl.out]
      have h1 : decide ((x.size : Int) > (y.size : Int)) = false := decide_eq_false (by omega)
      have h1' : decide (x.size > y.size) = false := decide_eq_false h
      have h2 : decide ((x.size : Int) < (y.size : Int)) = true := decide_eq_true (by omega)
      have h2' : decide (x.size < y.size) = true := decide_eq_true h0
      have hb := fun W => hbeg y x W
      clear hbeg
      go_enter Try.func99, Try.ntmps99
      go_wp2
      go_quiet ((go_at_call 59; exact Calls.quiet_of (hb _)))
      go_wp2
      go_ret2
      refine ⟨?_, pw_below_drewN (Below.refl _ _) _⟩
      show Ending.returned (.tuple #[.string (y.extract (min (x.size : Int) (y.size : Int)).toNat y.size), .bool (headB y x)]) = _
      rw [show (min (x.size : Int) (y.size : Int)).toNat = x.size by omega]
    · have Hl := Lib.hid (show leftP x y = (y.extract x.size y.size, false) by unfold leftP; rw [if_neg h, decide_eq_false h0]; rfl)
      rw [Hl.out]
      have e : x.size = y.size := by omega
      have h1 : decide ((x.size : Int) > (y.size : Int)) = false := decide_eq_false (by omega)
      have h1' : decide (x.size > y.size) = false := decide_eq_false h
      have h2 : decide ((x.size : Int) < (y.size : Int)) = false := decide_eq_false (by omega)
      have h2' : decide (x.size < y.size) = false := decide_eq_false h0
      have hle : x.size ≤ y.size := by omega
      clear hbeg e
      go_enter Try.func99, Try.ntmps99
      go_wp2
      go_quiet (fail)
      go_wp2
      go_ret2
      refine ⟨?_, pw_below_drewN (Below.refl _ _) _⟩
      show Ending.returned (.tuple #[.string (y.extract (min (x.size : Int) (y.size : Int)).toNat y.size), .bool (false)]) = _
      rw [show (min (x.size : Int) (y.size : Int)).toNat = x.size by omega]
end Go.Proofs.Ytpkafcoflgbnaaa.Q
