/- The library's table for trailing zeros; tests of numbers over lists that came in; copies and cuts. For all lists. -/
import Derived.Test.YtjphklemnhgkiaaDoorWLast
import Derived.Test.YtjphklemnhgkiaaDoorWMore
import Derived.Test.YtjphklemnhgkiaaDoorProg
import Derived.Test.YtjphklemnhgkiaaDoorShelf
import Derived.OwnWalk
import Derived.Handy
import Derived.Deep.DeepMust
import Derived.Lib.Hide
import Derived.Outline
import Derived.IntWalk
import Derived.Deep.RegionWith
import Derived.Lib.LaidTab
import Derived.Laws.Bits64
import Derived.BigQuiet
import Derived.Deep.QuietTactic
import Derived.Lib.OwnBridge
import Derived.Sort.OwnSorted
namespace Go.Proofs.YtjphklemnhgkiaaDoor.Q
open Go.RowKit Go.Proofs.YtjphklemnhgkiaaDoorW.PrintWords Go.Proofs.YtjphklemnhgkiaaDoorW.PrintLast Go.Proofs.YtjphklemnhgkiaaDoorW.PrintMore 
set_option linter.unusedVariables false
set_option linter.unusedSimpArgs false
/-- The library's table for trailing zeros. -/
def deTab : List Int := [0,1,56,2,57,49,28,3,61,58,42,50,38,29,17,4,62,47,59,36,45,43,51,22,53,39,33,30,24,18,12,5,63,55,48,27,60,41,37,16,46,35,44,21,52,32,23,11,54,26,40,15,34,20,31,10,25,14,19,9,13,8,7,6]
def BitsW (w : World) : Prop := Lib.TabIs Tryd.prog w "math/bits.deBruijn64tab" .u8 deTab
theorem BitsW.below {w w1 : World} (h : BitsW w) (hb : Below w.heap.size w w1) : BitsW w1 := by
  unfold BitsW Lib.TabIs World.var? at h ⊢
  obtain ⟨g, hg, h⟩ := Option.bind_eq_some_iff.mp h
  rw [hg]
  show (match w1.heap[g]? with | some (.cells cs _ _) => some cs | _ => none) = _
  have hl : g < w.heap.size := by
    cases hq : w.heap[g]? with
    | none => rw [hq] at h; exact absurd h (by simp)
    | some o => exact (Array.getElem?_eq_some_iff.1 hq).1
  rw [hb.block g hl]
  exact h
theorem bitsG : Tryd.prog.globalNamed "math/bits.deBruijn64tab" = some 1 := by kernel_rfl
/-- The lowest bit's place. -/
def tzN (x : Nat) : Nat → Nat → Nat
  | i, 0 => i
  | i, d + 1 => if x.testBit i = true then i else tzN x (i + 1) d
def deI (x : Nat) : Nat := ((x &&& (18446744073709551616 - x)) * 285870213051353865 % 18446744073709551616) / 288230376151711744
theorem mul_at (b : Nat) : IntKind.u64.wrap ((b : Int) * 285870213051353865) / 288230376151711744 = ((b * 285870213051353865 % 18446744073709551616 / 288230376151711744 : Nat) : Int) := by
  rw [IntKind.wrap_u64, Int.natCast_ediv, Int.natCast_emod, Int.natCast_mul]
  rfl
set_option maxRecDepth 100000 in
theorem tz_all : ∀ x : Fin 1024, 0 < x.val → bits .and .u64 (x.val : Int) (IntKind.u64.wrap (-(x.val : Int))) = ((x.val &&& (18446744073709551616 - x.val) : Nat) : Int) ∧ deI x.val < 64 ∧ deTab.getD (deI x.val) 0 = ((tzN x.val 0 10 : Nat) : Int) ∧ tzN x.val 0 10 < 10 ∧ x.val &&& (18446744073709551616 - x.val) < 1024 := by decide +kernel
theorem wrap_small {t : Nat} (h : t < 10) : wrap64 (t : Int) = (t : Int) := by
  unfold wrap64
  omega
theorem tz_facts (x : Nat) (h0 : 0 < x) (hx : x < 1024) : ∃ i t b : Nat, bits .and .u64 (x : Int) (IntKind.u64.wrap (-(x : Int))) = (b : Int) ∧ IntKind.u64.wrap ((b : Int) * 285870213051353865) / 288230376151711744 = (i : Int) ∧ i < 64 ∧ deTab.getD i 0 = (t : Int) ∧ tzN x 0 10 = t ∧ t < 10 := by
  obtain ⟨h1, h2, h3, h4, _⟩ := tz_all ⟨x, hx⟩ h0
  exact ⟨deI x, tzN x 0 10, x &&& (18446744073709551616 - x), h1, mul_at _, h2, h3, rfl, h4⟩
set_option maxHeartbeats 800000 in
set_option maxRecDepth 100000 in
theorem tz64.walk (x : Nat) (w : World) (h0 : 0 < x) (hx : x < 1024) (h : BitsW w) : Calls Tryd.prog 100 #[.int .u64 (x : Int)] w fun e w' => e = .returned (.int .i64 ((tzN x 0 10 : Nat) : Int)) ∧ w' = w := by
  obtain ⟨i, t, b, h1, hmul, h2, h3, h4, h5⟩ := tz_facts x h0 hx
  have hcell := Lib.TabIs.cell h bitsG i (by show i < 64; exact h2)
  rw [h3] at hcell
  rw [h4]
  have hwt := wrap_small h5
  clear h h3 h4 h5
  have hd0 : ((x : Int) == 0) = false := by simp; omega
  have hi : ((i : Nat) : Int) < 64 := by omega
  go_enter Tryd.func100, Tryd.ntmps100
  go_wp2
  go_ret
  exact ⟨by show Ending.returned (Value.int .i64 (wrap64 (t : Int))) = _; rw [hwt], rfl⟩
set_option maxHeartbeats 800000 in
set_option maxRecDepth 100000 in
theorem tz.walk (x : Nat) (w : World) (h0 : 0 < x) (hx : x < 1024) (h : BitsW w) : Calls Tryd.prog 85 #[.int .u64 (x : Int)] w fun e w' => e = .returned (.int .i64 ((tzN x 0 10 : Nat) : Int)) ∧ w' = w := by
  have HT := Lib.hid (tz64.walk x w h0 hx h)
  clear h
  generalize tzN x 0 10 = t at *
  go_enter Tryd.func85, Tryd.ntmps85
  go_wp2_with (first | (go_at_call 100; go_must (with_reducible refine HT.out.mono ?_); rintro _ _ ⟨rfl, rfl⟩))
  go_ret
  exact ⟨rfl, rfl⟩
/-! Cells of lists that came in; tests of numbers. -/
theorem int_cells {w : World} {ad : Addr} {l : List Int} (h : Kd.C (Kd.int .i64) w (some ad) l.length l) : ∀ j, j < l.length → w.cell? (ad.add j) = some (.int .i64 l[j]!) := by
  intro j hj
  obtain ⟨ad2, e, hc⟩ := Kd.at_int h (j : Int) (by omega) (by omega)
  cases e
  rw [Int.toNat_natCast] at hc
  rw [hc]
  congr 2
  unfold rd
  rw [Int.toNat_natCast, List.getD_eq_getElem?_getD, List.getElem?_eq_getElem hj, getElem!_pos l j hj]
  rfl
theorem add_none (b off j : Nat) : (⟨b, off, none⟩ : Addr).add j = ⟨b, off + j, none⟩ := by
  unfold Addr.add
  by_cases h : j = 0
  · rw [if_pos h, h]; rfl
  · rw [if_neg h]
theorem spot_none {w : World} {b off : Nat} {v : Option Nat} {x : Value} (h0 : w.cell? ((⟨b, off, v⟩ : Addr).add 0) = some x) : v = none := by
  unfold World.cell? at h0
  cases v with
  | none => rfl
  | some q =>
    exfalso
    have e : ((⟨b, off, some q⟩ : Addr).add 0).spot = some q := rfl
    rw [e] at h0
    split at h0
    · simp at h0
    · cases h0
/-- Where a list that came in lies. -/
theorem int_at {w : World} {A : Option Addr} {l : List Int} (h : Kd.C (Kd.int .i64) w A l.length l) : l = [] ∨ ∃ b off, A = some ⟨b, off, none⟩ ∧ ∀ j, j < l.length → w.cell? ⟨b, off + j, none⟩ = some (.int .i64 l[j]!) := by
  by_cases hz : l.length = 0
  · exact .inl (List.eq_nil_of_length_eq_zero hz)
  · right
    obtain ⟨ad, e, _⟩ := h.2.2 (by omega)
    subst e
    have hc := int_cells h
    obtain ⟨b, off, v⟩ := ad
    have hv := spot_none (hc 0 (by omega))
    subst hv
    exact ⟨b, off, rfl, fun j hj => by have := hc j hj; rw [add_none] at this; exact this⟩
def outW (lo hi : Int) (x : Int) : Bool := decide (x < lo) || decide (x > hi)
theorem valW_calls (x : Int) (w : World) : Calls Tryd.prog 80 #[.int .i64 x] w fun e w' => e = .returned (.bool (outW (-1000) 1000 x)) ∧ ∃ q, w' = w.drewN q := by
  by_cases h : x < (-1000)
  · have Hr := Lib.hid (show outW (-1000) 1000 x = true by unfold outW; rw [decide_eq_true h]; rfl)
    rw [Hr.out]
    have h1 := decide_eq_false (show ¬ x ≥ (-1000) by omega)
    go_enter Tryd.func80, Tryd.ntmps80
    go_wp2
    first | go_end0 | go_returns | go_ret
    exact ⟨rfl, 0, rfl⟩
  · by_cases hh : x > 1000
    · have Hr := Lib.hid (show outW (-1000) 1000 x = true by unfold outW; rw [decide_eq_true hh, decide_eq_false h]; rfl)
      rw [Hr.out]
      have h1 : decide (x ≥ (-1000)) = true := decide_eq_true (by omega)
      have h2 : decide (x ≤ 1000) = false := decide_eq_false (by omega)
      clear h hh
      go_enter Tryd.func80, Tryd.ntmps80
      go_wp2
      first | go_end0 | go_returns | go_ret
      exact ⟨rfl, 0, rfl⟩
    · have Hr := Lib.hid (show outW (-1000) 1000 x = false by unfold outW; rw [decide_eq_false hh, decide_eq_false h]; rfl)
      rw [Hr.out]
      have h1 : decide (x ≥ (-1000)) = true := decide_eq_true (by omega)
      have h2 : decide (x ≤ 1000) = true := decide_eq_true (by omega)
      clear h hh
      go_enter Tryd.func80, Tryd.ntmps80
      go_wp2
      first | go_end0 | go_returns | go_ret
      exact ⟨rfl, 0, rfl⟩
theorem numW_calls (x : Int) (w : World) : Calls Tryd.prog 93 #[.int .i64 x] w fun e w' => e = .returned (.bool (outW (-10000000) 10000000 x)) ∧ ∃ q, w' = w.drewN q := by
  by_cases h : x < (-10000000)
  · have Hr := Lib.hid (show outW (-10000000) 10000000 x = true by unfold outW; rw [decide_eq_true h]; rfl)
    rw [Hr.out]
    have h1 := decide_eq_false (show ¬ x ≥ (-10000000) by omega)
    go_enter Tryd.func93, Tryd.ntmps93
    go_wp2
    first | go_end0 | go_returns | go_ret
    exact ⟨rfl, 0, rfl⟩
  · by_cases hh : x > 10000000
    · have Hr := Lib.hid (show outW (-10000000) 10000000 x = true by unfold outW; rw [decide_eq_true hh, decide_eq_false h]; rfl)
      rw [Hr.out]
      have h1 : decide (x ≥ (-10000000)) = true := decide_eq_true (by omega)
      have h2 : decide (x ≤ 10000000) = false := decide_eq_false (by omega)
      clear h hh
      go_enter Tryd.func93, Tryd.ntmps93
      go_wp2
      first | go_end0 | go_returns | go_ret
      exact ⟨rfl, 0, rfl⟩
    · have Hr := Lib.hid (show outW (-10000000) 10000000 x = false by unfold outW; rw [decide_eq_false hh, decide_eq_false h]; rfl)
      rw [Hr.out]
      have h1 : decide (x ≥ (-10000000)) = true := decide_eq_true (by omega)
      have h2 : decide (x ≤ 10000000) = true := decide_eq_true (by omega)
      clear h hh
      go_enter Tryd.func93, Tryd.ntmps93
      go_wp2
      first | go_end0 | go_returns | go_ret
      exact ⟨rfl, 0, rfl⟩
theorem divW_calls (x : Int) (w : World) : Calls Tryd.prog 76 #[.int .i64 x] w fun e w' => e = .returned (.bool (outW (-1000000) 1000000 x)) ∧ ∃ q, w' = w.drewN q := by
  by_cases h : x < (-1000000)
  · have Hr := Lib.hid (show outW (-1000000) 1000000 x = true by unfold outW; rw [decide_eq_true h]; rfl)
    rw [Hr.out]
    have h1 := decide_eq_false (show ¬ x ≥ (-1000000) by omega)
    go_enter Tryd.func76, Tryd.ntmps76
    go_wp2
    first | go_end0 | go_returns | go_ret
    exact ⟨rfl, 0, rfl⟩
  · by_cases hh : x > 1000000
    · have Hr := Lib.hid (show outW (-1000000) 1000000 x = true by unfold outW; rw [decide_eq_true hh, decide_eq_false h]; rfl)
      rw [Hr.out]
      have h1 : decide (x ≥ (-1000000)) = true := decide_eq_true (by omega)
      have h2 : decide (x ≤ 1000000) = false := decide_eq_false (by omega)
      clear h hh
      go_enter Tryd.func76, Tryd.ntmps76
      go_wp2
      first | go_end0 | go_returns | go_ret
      exact ⟨rfl, 0, rfl⟩
    · have Hr := Lib.hid (show outW (-1000000) 1000000 x = false by unfold outW; rw [decide_eq_false hh, decide_eq_false h]; rfl)
      rw [Hr.out]
      have h1 : decide (x ≥ (-1000000)) = true := decide_eq_true (by omega)
      have h2 : decide (x ≤ 1000000) = true := decide_eq_true (by omega)
      clear h hh
      go_enter Tryd.func76, Tryd.ntmps76
      go_wp2
      first | go_end0 | go_returns | go_ret
      exact ⟨rfl, 0, rfl⟩
/-- ContainsFunc over a list of numbers that came in. -/
theorem anyI_calls (p : Int → Bool) (g : Nat) (eg : ∀ args w, (callFunc g args).run Tryd.prog w = .ok (.enter g args) w) (hp : ∀ x w, Calls Tryd.prog g #[.int .i64 x] w fun e w' => e = .returned (.bool (p x)) ∧ ∃ q, w' = w.drewN q)
    (A0 : Option Addr) (c0 : Nat) (l0 : List Int) (w : World) (hr0 : Kd.C (Kd.int .i64) w A0 l0.length l0) :
    Calls Tryd.prog 51 #[.slice A0 l0.length c0, .func (.func g) #[] #[]] w fun e w' => e = .returned (.bool (l0.any p)) ∧ ∃ q, w' = w.drewN q := by
  rcases int_at hr0 with e | ⟨b, off, e, hc⟩
  · subst e
    refine (Tryd.slices_ContainsFunc_empty (α := Int) A0 c0 (.func (.func g) #[] #[]) w).mono ?_
    rintro e w' ⟨rfl, rfl⟩
    exact ⟨rfl, 0, rfl⟩
  · subst e
    refine (Tryd.slices_ContainsFunc (Value.int .i64) p g #[] eg b off l0.length c0 l0 w (fun W x _ => hp x W) (Nat.le_refl _) hr0.2.1 hc).mono ?_
    rintro e w' ⟨rfl, q, rfl⟩
    rw [List.take_length]
    exact ⟨rfl, q, rfl⟩
/-! Tests over lists, copies, cuts. -/
theorem badV_calls (A0 : Option Addr) (c0 : Nat) (l0 : List Int) (w : World) (hr0 : Kd.C (Kd.int .i64) w A0 l0.length l0) :
    Calls Tryd.prog 51 #[.slice A0 l0.length c0, .func (.func 80) #[] #[]] w fun e w' => e = .returned (.bool (l0.any (outW (-1000) 1000))) ∧ Drawn0 w w' := by
  refine (anyI_calls (outW (-1000) 1000) 80 (enters_of Tryd.func80 (by kernel_rfl) rfl) valW_calls A0 c0 l0 w hr0).mono ?_
  rintro e w' ⟨rfl, q, rfl⟩
  exact ⟨rfl, ⟨q, rfl⟩⟩
theorem badN_calls (A0 : Option Addr) (c0 : Nat) (l0 : List Int) (w : World) (hr0 : Kd.C (Kd.int .i64) w A0 l0.length l0) :
    Calls Tryd.prog 51 #[.slice A0 l0.length c0, .func (.func 93) #[] #[]] w fun e w' => e = .returned (.bool (l0.any (outW (-10000000) 10000000))) ∧ Drawn0 w w' := by
  refine (anyI_calls (outW (-10000000) 10000000) 93 (enters_of Tryd.func93 (by kernel_rfl) rfl) numW_calls A0 c0 l0 w hr0).mono ?_
  rintro e w' ⟨rfl, q, rfl⟩
  exact ⟨rfl, ⟨q, rfl⟩⟩
theorem badD_calls (A0 : Option Addr) (c0 : Nat) (l0 : List Int) (w : World) (hr0 : Kd.C (Kd.int .i64) w A0 l0.length l0) :
    Calls Tryd.prog 51 #[.slice A0 l0.length c0, .func (.func 76) #[] #[]] w fun e w' => e = .returned (.bool (l0.any (outW (-1000000) 1000000))) ∧ Drawn0 w w' := by
  refine (anyI_calls (outW (-1000000) 1000000) 76 (enters_of Tryd.func76 (by kernel_rfl) rfl) divW_calls A0 c0 l0 w hr0).mono ?_
  rintro e w' ⟨rfl, q, rfl⟩
  exact ⟨rfl, ⟨q, rfl⟩⟩
theorem clone_calls (A0 : Option Addr) (c0 : Nat) (l0 : List Int) (w : World) (hr0 : Kd.C (Kd.int .i64) w A0 l0.length l0) (hb : l0.length ≤ 17592186044416) :
    Calls Tryd.prog 67 #[.slice A0 l0.length c0] w fun e w' => ∃ v0_ : Value, e = .returned (v0_) ∧ Kd.R (Kd.int .i64) 3 w' w.heap.size (fun _ => True) v0_ l0 ∧ Below w.heap.size w w' := by
  rcases int_at hr0 with e | ⟨b, off, e, hc⟩
  · subst e
    cases A0 with
    | none =>
      refine (Tryd.slices_Clone_int_nil _ _ w).mono ?_
      rintro _ _ ⟨rfl, rfl⟩
      exact ⟨_, rfl, Kd.R_nil _ _ _ _ _, Below.refl _ _⟩
    | some a =>
      refine (Tryd.slices_Clone_int_zero a _ w).mono ?_
      rintro _ w' ⟨v, rfl, ho, _, hb⟩
      exact ⟨_, rfl, Kd.R_of_own ho (fun _ _ => trivial), hb⟩
  · subst e
    refine (Tryd.slices_Clone_int b off l0.length c0 l0 w (Nat.le_refl _) (by omega) (fun j hj => by rw [hc j hj, getElem!_pos l0 j hj, List.getD_eq_getElem?_getD, List.getElem?_eq_getElem hj]; rfl)).mono ?_
    rintro _ w' ⟨v, rfl, ho, _, hb⟩
    rw [List.take_length] at ho
    exact ⟨_, rfl, Kd.R_of_own ho (fun _ _ => trivial), hb⟩
theorem take_put (cur : Array Value) (d : Array Int) (n : Nat) (hn : n ≤ d.size) (hs : d.size ≤ cur.size) : (Go.Sort.putCells (Value.int .i64) 0 d cur).toList.take n = (d.toList.take n).map (Value.int .i64) := by
  apply List.ext_getElem?
  intro j
  simp only [List.getElem?_take, List.getElem?_map]
  by_cases hj : j < n
  · rw [if_pos hj, if_pos hj]
    have h1 : j < d.size := by omega
    have h2 : j < cur.size := by omega
    simp [Go.Sort.putCells, h1, h2]
  · rw [if_neg hj, if_neg hj]
    rfl
theorem grown_put {α : Type} [Inhabited α] (enc : α → Value) (W : World) (blk q : Nat) (d : Array α) : W.grownBy (Go.Sort.putRow enc (Sort.ahead W q) blk 0 d) (some blk) := by
  refine ⟨rfl, rfl, rfl, by simp [Go.Sort.putRow, Go.Sort.mapBlock, Go.Sort.ahead], fun k hk hne => ?_⟩
  have hn : blk ≠ k := fun e => hne (by rw [e])
  simp [Go.Sort.putRow, Go.Sort.mapBlock, Go.Sort.ahead, Array.getElem_modify, hn, hk]
def cutL (l : List Int) (i : Nat) : List Int := l.take i ++ l.drop (i + 1)
theorem cut_length (l : List Int) (i : Nat) (h : i < l.length) : (cutL l i).length = l.length - 1 := by
  unfold cutL
  simp
  omega
theorem cut_calls (w W : World) (A : Option Addr) (c : Nat) (l : List Int) (i : Nat) (hi : i < l.length) (HB : Below w.heap.size w W) (HO : Kd.R (Kd.int .i64) 3 W w.heap.size (fun _ => True) (.slice A l.length c) l) :
    Calls Tryd.prog 112 #[.slice A l.length c, .int .i64 i, .int .i64 ((i + 1 : Nat) : Int)] W fun e w' => ∃ v0_ : Value, e = .returned (v0_) ∧ Kd.R (Kd.int .i64) 3 w' w.heap.size (fun _ => True) v0_ (cutL l i) ∧ Below w.heap.size w w' := by
  have ho := Kd.own_of_R HO
  rcases ho.2 with ⟨_, h2⟩ | ⟨g, cap, cur, h1, hg, hh, h3, h4, h5, h6⟩
  · omega
  · injection h1 with e1 _ e3
    subst e1; subst e3
    have hgl : g < W.heap.size := (Array.getElem?_eq_some_iff.1 hh).1
    have hH : Go.Sort.Holds (Value.int .i64) W g 0 l.toArray := by
      intro j hj
      have hj' : j < l.length := by simpa using hj
      have hk : cur[j]? = some (.int .i64 l[j]) := by
        have := congrArg (fun z => z[j]?) h6
        simp only [Nat.mul_one, List.getElem?_take, if_pos hj', Array.getElem?_toList] at this
        rw [this]
        simp [encs, hj']
      refine ⟨?_, ?_⟩
      · have : W.cell? ⟨g, j, none⟩ = cur[j]? := by unfold World.cell?; simp [hh]
        rw [Nat.zero_add, this, hk]
        simp [hj']
      · unfold World.frozen?
        simp [hh]
    refine (Tryd.slices_Delete_int g 0 c i (i + 1) l W hH h3 h4 (by omega) (by omega)).mono ?_
    rintro e w' ⟨rfl, q, rfl⟩
    have hd : (l.take i ++ l.drop (i + 1) ++ List.replicate (i + 1 - i) 0).length = l.length := by simp; omega
    have hgr := grown_put (Value.int .i64) W g q (l.take i ++ l.drop (i + 1) ++ List.replicate (i + 1 - i) 0).toArray
    have hlen : l.length - (i + 1 - i) = (cutL l i).length := by rw [cut_length l i hi]; omega
    refine ⟨_, rfl, Kd.R_of_own ⟨by simp [encs], .inr ⟨g, c, Go.Sort.putCells (Value.int .i64) 0 (l.take i ++ l.drop (i + 1) ++ List.replicate (i + 1 - i) 0).toArray cur, by rw [hlen], hg, by simp only [Go.Sort.putRow, Go.Sort.mapBlock, Go.Sort.ahead, Array.getElem?_modify, if_true, hh, Option.map_some, Go.Sort.onCells], by rw [← hlen]; omega, h4, by simp [Go.Sort.putCells, h5], ?_⟩⟩ (fun _ _ => trivial), HB.grown hgr HB.size (fun j hj => by cases hj; exact hg)⟩
    rw [Nat.mul_one, take_put cur _ _ (by simp only [List.size_toArray]; rw [hd, ← hlen]; omega) (by simp only [List.size_toArray]; rw [hd, h5]; omega)]
    have hcl := cut_length l i hi
    unfold encs
    congr 1
    show List.take _ (l.take i ++ l.drop (i + 1) ++ List.replicate (i + 1 - i) 0) = cutL l i
    exact List.take_left' rfl
end Go.Proofs.YtjphklemnhgkiaaDoor.Q
