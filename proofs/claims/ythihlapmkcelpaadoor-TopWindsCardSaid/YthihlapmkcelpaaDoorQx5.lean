-- Written by a program of this session (wip/tools/gprint.py, over the kit's print); Lean checks it.
import Derived.Test.YthihlapmkcelpaaDoorQx0
import Derived.Test.YthihlapmkcelpaaDoorQx2
namespace Go.Proofs.YthihlapmkcelpaaDoor.Q
open Go.RowKit Go.Proofs.YthihlapmkcelpaaDoorW.PrintWords Go.Proofs.YthihlapmkcelpaaDoorW.PrintLast Go.Proofs.YthihlapmkcelpaaDoorW.PrintMore
attribute [local go_sem] max2_int min2_int max_two min_two max_three min_three max_four min_four   -- for this text's walks alone
set_option linter.unusedVariables false
set_option linter.unusedSimpArgs false

/-! ### wind_all: function 75 -/
def wind_all.f  : Option (Int) := some 4294967295
set_option maxHeartbeats 8000000 in
set_option maxRecDepth 100000 in
theorem wind_all.calls  (r : Int) (w : World) (h : wind_all.f  = some r) :
    Calls Tryd.prog 75 #[] w fun e w' => e = .returned (.int .u32 r) ∧ Drawn0 w w' := by
  have H : (some 4294967295) = some r := h
  clear h
  obtain rfl := Option.some.inj H
  go_enter Tryd.func75, Tryd.ntmps75
  go_wp2
  go_ret
  exact ⟨by first | rfl | (simp; done) | (simp [*]; done), by repeat (first | exact Drawn0.refl _ | apply Drawn0.step)⟩

/-! ### wind_isSet: function 62 -/
def wind_isSet.f (a0 : Int) : Option (Bool) := (wind_all.f).bind fun t147 => ((wind_within.f a0 0 (wrap64 (t147))).bind fun t148 => (some t148))
set_option maxHeartbeats 8000000 in
set_option maxRecDepth 100000 in
theorem wind_isSet.calls (a0 : Int) (r : Bool) (w : World) (h : wind_isSet.f a0 = some r) :
    Calls Tryd.prog 62 #[.int .i64 a0] w fun e w' => e = .returned (.bool r) ∧ Drawn0 w w' := by
  have H : ((wind_all.f).bind fun t147 => ((wind_within.f a0 0 (wrap64 (t147))).bind fun t148 => (some t148))) = some r := h
  clear h
  replace H := Option.bind_eq_some_iff.mp H
  obtain ⟨t147, A20, H⟩ := H
  replace H : ((wind_within.f a0 0 (wrap64 (t147))).bind fun t148 => (some t148)) = some r := H
  have A2 := Aside0.mk A20
  clear A20
  replace H := Option.bind_eq_some_iff.mp H
  obtain ⟨t148, A30, H⟩ := H
  replace H : (some t148) = some r := H
  have A3 := Aside0.mk A30
  clear A30
  obtain rfl := Option.some.inj H
  go_enter Tryd.func62, Tryd.ntmps62
  go_wp2_with (first | ((with_reducible refine gate_callee (f := 75) rfl ?_); refine goesL_ (some 4) rfl rfl Tryd.func75 (by kernel_rfl) rfl #[] rfl (by (try simp only [List.map_toArray, List.map_cons, List.map_nil]); first | done | rfl | (simp only [List.length_drop, List.length_take]; rfl)) ?_; (with_reducible refine (wind_all.calls  t147 _ A2.out).mono ?_); rintro e w' ⟨rfl, ⟨nd, rfl⟩⟩; refine ⟨_, rfl, ?_⟩) | ((with_reducible refine gate_callee (f := 74) rfl ?_); refine goesL_ (some 6) rfl rfl Tryd.func74 (by kernel_rfl) rfl #[.int .i64 a0, .int .i64 0, .int .i64 (wrap64 (t147))] rfl (by (try simp only [List.map_toArray, List.map_cons, List.map_nil]); first | done | rfl | (simp only [List.length_drop, List.length_take]; rfl)) ?_; (with_reducible refine (wind_within.calls a0 0 (wrap64 (t147)) t148 _ A3.out).mono ?_); rintro e w' ⟨rfl, ⟨nd, rfl⟩⟩; refine ⟨_, rfl, ?_⟩))
  go_ret
  exact ⟨by first | rfl | (simp; done) | (simp [*]; done), by repeat (first | exact Drawn0.refl _ | apply Drawn0.step)⟩

/-! ### bits_RotateLeft32: function 99 -/
def bits_RotateLeft32.f (a0 : Int) (a1 : Int) : Option (Int) := if 0 ≤ (Go.bits .and .u64 (IntKind.u64.wrap (a1)) 31) then (if 0 ≤ (IntKind.u64.wrap (32 - (Go.bits .and .u64 (IntKind.u64.wrap (a1)) 31))) then (some (Go.bits .or .u32 (shl .u32 a0 (Go.bits .and .u64 (IntKind.u64.wrap (a1)) 31)) (shr .u32 a0 (IntKind.u64.wrap (32 - (Go.bits .and .u64 (IntKind.u64.wrap (a1)) 31)))))) else (none)) else (none)
set_option maxHeartbeats 8000000 in
set_option maxRecDepth 100000 in
theorem bits_RotateLeft32.calls (a0 : Int) (a1 : Int) (r : Int) (w : World) (h : bits_RotateLeft32.f a0 a1 = some r) :
    Calls Tryd.prog 99 #[.int .u32 a0, .int .i64 a1] w fun e w' => e = .returned (.int .u32 r) ∧ Drawn0 w w' := by
  have H : (if 0 ≤ (Go.bits .and .u64 (IntKind.u64.wrap (a1)) 31) then (if 0 ≤ (IntKind.u64.wrap (32 - (Go.bits .and .u64 (IntKind.u64.wrap (a1)) 31))) then (some (Go.bits .or .u32 (shl .u32 a0 (Go.bits .and .u64 (IntKind.u64.wrap (a1)) 31)) (shr .u32 a0 (IntKind.u64.wrap (32 - (Go.bits .and .u64 (IntKind.u64.wrap (a1)) 31)))))) else (none)) else (none)) = some r := h
  clear h
  obtain ⟨ji3, hji3⟩ : ∃ j_ : Int, (Go.bits .and .u64 (IntKind.u64.wrap (a1)) 31) = j_ := ⟨_, rfl⟩
  replace H : (if 0 ≤ (ji3) then (if 0 ≤ (IntKind.u64.wrap (32 - (ji3))) then (some (Go.bits .or .u32 (shl .u32 a0 (ji3)) (shr .u32 a0 (IntKind.u64.wrap (32 - (ji3)))))) else (none)) else (none)) = some r := by first | (rw [hji3] at H; exact H) | (simp only [hji3] at H ⊢; exact H)
  by_cases c4 : 0 ≤ (ji3)
  · rw [if_pos c4] at H
    have c4b0 := eq_true c4
    have c4b1 : decide (0 ≤ (ji3)) = true := decide_eq_true c4
    clear c4
    obtain ⟨ji5, hji5⟩ : ∃ j_ : Int, (shl .u32 a0 (ji3)) = j_ := ⟨_, rfl⟩
    replace H : (if 0 ≤ (IntKind.u64.wrap (32 - (ji3))) then (some (Go.bits .or .u32 (ji5) (shr .u32 a0 (IntKind.u64.wrap (32 - (ji3)))))) else (none)) = some r := by first | (rw [hji5] at H; exact H) | (simp only [hji5] at H ⊢; exact H)
    have hji5_ : (IntKind.u32.wrap (a0 * 2 ^ min (ji3).toNat 32)) = ji5 := hji5
    have hji5z : (ji3) ≤ 32 → (IntKind.u32.wrap (a0 * 2 ^ (ji3).toNat)) = ji5 := shl_small hji5
    obtain ⟨ji6, hji6⟩ : ∃ j_ : Int, (IntKind.u64.wrap (32 - (ji3))) = j_ := ⟨_, rfl⟩
    replace H : (if 0 ≤ (ji6) then (some (Go.bits .or .u32 (ji5) (shr .u32 a0 (ji6)))) else (none)) = some r := by first | (rw [hji6] at H; exact H) | (simp only [hji6] at H ⊢; exact H)
    by_cases c7 : 0 ≤ (ji6)
    · rw [if_pos c7] at H
      have c7b0 := eq_true c7
      have c7b1 : decide (0 ≤ (ji6)) = true := decide_eq_true c7
      clear c7
      obtain ⟨ji8, hji8⟩ : ∃ j_ : Int, (shr .u32 a0 (ji6)) = j_ := ⟨_, rfl⟩
      replace H : (some (Go.bits .or .u32 (ji5) (ji8))) = some r := by first | (rw [hji8] at H; exact H) | (simp only [hji8] at H ⊢; exact H)
      have hji8_ : (a0 / 2 ^ min (ji6).toNat 32) = ji8 := hji8
      have hji8z : (ji6) ≤ 32 → (a0 / 2 ^ (ji6).toNat) = ji8 := shr_small hji8
      obtain rfl := Option.some.inj H
      go_enter Tryd.func99, Tryd.ntmps99
      go_wp2
      go_ret
      exact ⟨by first | rfl | (simp; done) | (simp only [← hji3, ← hji5, ← hji6, ← hji8] <;> (first | rfl | simp)) | (simp [*]; done), by repeat (first | exact Drawn0.refl _ | apply Drawn0.step)⟩
    · rw [if_neg c7] at H
      exact absurd H (by simp)
  · rw [if_neg c4] at H
    exact absurd H (by simp)

/-! ### wind_points_turned: function 63 -/
def wind_points_turned.f (a0 : Int) (a1 : Int) : Option (Int) := (bits_RotateLeft32.f a0 a1).bind fun t149 => (some t149)
set_option maxHeartbeats 8000000 in
set_option maxRecDepth 100000 in
theorem wind_points_turned.calls (a0 : Int) (a1 : Int) (r : Int) (w : World) (h : wind_points_turned.f a0 a1 = some r) :
    Calls Tryd.prog 63 #[.int .u32 a0, .int .i64 a1] w fun e w' => e = .returned (.int .u32 r) ∧ Drawn0 w w' := by
  have H : ((bits_RotateLeft32.f a0 a1).bind fun t149 => (some t149)) = some r := h
  clear h
  replace H := Option.bind_eq_some_iff.mp H
  obtain ⟨t149, A30, H⟩ := H
  replace H : (some t149) = some r := H
  have A3 := Aside0.mk A30
  clear A30
  obtain rfl := Option.some.inj H
  go_enter Tryd.func63, Tryd.ntmps63
  go_wp2_with (first | ((with_reducible refine gate_callee (f := 99) rfl ?_); refine goesL_ (some 7) rfl rfl Tryd.func99 (by kernel_rfl) rfl #[.int .u32 a0, .int .i64 a1] rfl (by (try simp only [List.map_toArray, List.map_cons, List.map_nil]); first | done | rfl | (simp only [List.length_drop, List.length_take]; rfl)) ?_; (with_reducible refine (bits_RotateLeft32.calls a0 a1 t149 _ A3.out).mono ?_); rintro e w' ⟨rfl, ⟨nd, rfl⟩⟩; refine ⟨_, rfl, ?_⟩))
  go_ret
  exact ⟨by first | rfl | (simp; done) | (simp [*]; done), by repeat (first | exact Drawn0.refl _ | apply Drawn0.step)⟩

/-! ### wind_Turn: function 21 -/
def wind_Turn.f (a0 : Int) (a1 : Int) : Option (Int × Int) := (wind_isSet.f a0).bind fun t150 => (if t150 = true then ((wind_modulo.f a1).bind fun t151 => ((wind_points_turned.f ((a0) % 4294967296) t151).bind fun t152 => (some (wrap64 (t152), 0)))) else (some (0, 1)))
set_option maxHeartbeats 8000000 in
set_option maxRecDepth 100000 in
theorem wind_Turn.calls (a0 : Int) (a1 : Int) (r1 : Int) (r2 : Int) (w : World) (h : wind_Turn.f a0 a1 = some (r1, r2)) :
    Calls Tryd.prog 21 #[.int .i64 a0, .int .i64 a1] w fun e w' => e = .returned (.tuple #[.int .i64 r1, .int .i64 r2]) ∧ Drawn0 w w' := by
  have H : ((wind_isSet.f a0).bind fun t150 => (if t150 = true then ((wind_modulo.f a1).bind fun t151 => ((wind_points_turned.f ((a0) % 4294967296) t151).bind fun t152 => (some (wrap64 (t152), 0)))) else (some (0, 1)))) = some (r1, r2) := h
  clear h
  replace H := Option.bind_eq_some_iff.mp H
  obtain ⟨t150, A30, H⟩ := H
  replace H : (if t150 = true then ((wind_modulo.f a1).bind fun t151 => ((wind_points_turned.f ((a0) % 4294967296) t151).bind fun t152 => (some (wrap64 (t152), 0)))) else (some (0, 1))) = some (r1, r2) := H
  have A3 := Aside0.mk A30
  clear A30
  by_cases c4 : t150 = true
  · subst c4
    have H1 : ((wind_modulo.f a1).bind fun t151 => ((wind_points_turned.f ((a0) % 4294967296) t151).bind fun t152 => (some (wrap64 (t152), 0)))) = some (r1, r2) := by rw [if_pos rfl] at H; exact H
    clear H
    have H := H1
    clear H1
    replace H := Option.bind_eq_some_iff.mp H
    obtain ⟨t151, A50, H⟩ := H
    replace H : ((wind_points_turned.f ((a0) % 4294967296) t151).bind fun t152 => (some (wrap64 (t152), 0))) = some (r1, r2) := H
    have A5 := Aside0.mk A50
    clear A50
    replace H := Option.bind_eq_some_iff.mp H
    obtain ⟨t152, A60, H⟩ := H
    replace H : (some (wrap64 (t152), 0)) = some (r1, r2) := H
    have A6 := Aside0.mk A60
    clear A60
    simp only [Option.some.injEq, Prod.mk.injEq] at H
    obtain ⟨rfl, rfl⟩ := H
    go_enter Tryd.func21, Tryd.ntmps21
    go_wp2_with (first | ((with_reducible refine gate_callee (f := 62) rfl ?_); refine goesL_ (some 7) rfl rfl Tryd.func62 (by kernel_rfl) rfl #[.int .i64 a0] rfl (by (try simp only [List.map_toArray, List.map_cons, List.map_nil]); first | done | rfl | (simp only [List.length_drop, List.length_take]; rfl)) ?_; (with_reducible refine (wind_isSet.calls a0 true _ A3.out).mono ?_); rintro e w' ⟨rfl, ⟨nd, rfl⟩⟩; refine ⟨_, rfl, ?_⟩) | ((with_reducible refine gate_callee (f := 64) rfl ?_); refine goesL_ (some 12) rfl rfl Tryd.func64 (by kernel_rfl) rfl #[.int .i64 a1] rfl (by (try simp only [List.map_toArray, List.map_cons, List.map_nil]); first | done | rfl | (simp only [List.length_drop, List.length_take]; rfl)) ?_; (with_reducible refine (wind_modulo.calls a1 t151 _ A5.out).mono ?_); rintro e w' ⟨rfl, ⟨nd, rfl⟩⟩; refine ⟨_, rfl, ?_⟩) | ((with_reducible refine gate_callee (f := 63) rfl ?_); refine goesL_ (some 13) rfl rfl Tryd.func63 (by kernel_rfl) rfl #[.int .u32 ((a0) % 4294967296), .int .i64 t151] rfl (by (try simp only [List.map_toArray, List.map_cons, List.map_nil]); first | done | rfl | (simp only [List.length_drop, List.length_take]; rfl)) ?_; (with_reducible refine (wind_points_turned.calls ((a0) % 4294967296) t151 t152 _ A6.out).mono ?_); rintro e w' ⟨rfl, ⟨nd, rfl⟩⟩; refine ⟨_, rfl, ?_⟩))
    go_ret2
    exact ⟨by first | rfl | (simp; done) | (simp [*]; done), by repeat (first | exact Drawn0.refl _ | apply Drawn0.step)⟩
  · replace c4 := Bool.eq_false_iff.mpr c4
    subst c4
    have H1 : (some (0, 1)) = some (r1, r2) := by rw [if_neg (show ¬ (false = true) by decide)] at H; exact H
    clear H
    have H := H1
    clear H1
    simp only [Option.some.injEq, Prod.mk.injEq] at H
    obtain ⟨rfl, rfl⟩ := H
    go_enter Tryd.func21, Tryd.ntmps21
    go_wp2_with (first | ((with_reducible refine gate_callee (f := 62) rfl ?_); refine goesL_ (some 7) rfl rfl Tryd.func62 (by kernel_rfl) rfl #[.int .i64 a0] rfl (by (try simp only [List.map_toArray, List.map_cons, List.map_nil]); first | done | rfl | (simp only [List.length_drop, List.length_take]; rfl)) ?_; (with_reducible refine (wind_isSet.calls a0 false _ A3.out).mono ?_); rintro e w' ⟨rfl, ⟨nd, rfl⟩⟩; refine ⟨_, rfl, ?_⟩))
    go_ret2
    exact ⟨by first | rfl | (simp; done) | (simp [*]; done), by repeat (first | exact Drawn0.refl _ | apply Drawn0.step)⟩

/-! ### wigeonref03_isSet: function 65 -/
def wigeonref03_isSet.f (a0 : Int) : Option (Bool) := if a0 ≥ 0 then (some (decide (a0 < 4294967296))) else (some false)
set_option maxHeartbeats 8000000 in
set_option maxRecDepth 100000 in
theorem wigeonref03_isSet.calls (a0 : Int) (r : Bool) (w : World) (h : wigeonref03_isSet.f a0 = some r) :
    Calls Tryd.prog 65 #[.int .i64 a0] w fun e w' => e = .returned (.bool r) ∧ Drawn0 w w' := by
  have H : (if a0 ≥ 0 then (some (decide (a0 < 4294967296))) else (some false)) = some r := h
  clear h
  by_cases c2 : a0 ≥ 0
  · rw [if_pos c2] at H
    have c2b0 : decide (0 ≤ a0) = true := decide_eq_true c2
    clear c2
    obtain rfl := Option.some.inj H
    go_enter Tryd.func65, Tryd.ntmps65
    go_wp2
    go_ret
    exact ⟨by first | rfl | (simp; done) | (simp [*]; done), by repeat (first | exact Drawn0.refl _ | apply Drawn0.step)⟩
  · rw [if_neg c2] at H
    have c2b0 : decide (0 ≤ a0) = false := decide_eq_false c2
    clear c2
    obtain rfl := Option.some.inj H
    go_enter Tryd.func65, Tryd.ntmps65
    go_wp2
    go_ret
    exact ⟨by first | rfl | (simp; done) | (simp [*]; done), by repeat (first | exact Drawn0.refl _ | apply Drawn0.step)⟩

/-! ### wigeonref03_open: function 66 -/
-- GIVEN wigeon/wigeonref03.open rounds=0 making=1
-- IMPORT Derived.StillTailTactics Derived.Laws.CopyOwn Derived.Laws.EntriesVeiled
/-! Arrays of 32 entries, as functions of the place. -/
def encF (f : Nat → Value) : Array Value := ((List.range 32).map f).toArray
def updF {α : Type} (f : Nat → α) (j : Nat) (v : α) : Nat → α := fun p => if p = j then v else f p
theorem encF_size (f : Nat → Value) : (encF f).size = 32 := by simp [encF]
theorem encF_get (f : Nat → Value) (j : Nat) (h : j < 32) : (encF f)[j]? = some (f j) := by
  unfold encF
  rw [List.getElem?_toArray, List.getElem?_map, List.getElem?_range h]
  rfl
theorem encF_congr {f g : Nat → Value} (h : ∀ p, p < 32 → f p = g p) : encF f = encF g := by
  unfold encF
  congr 1
  exact List.map_congr_left fun p hp => h p (List.mem_range.1 hp)
theorem encF_set (f : Nat → Value) (j : Nat) (v : Value) : (encF f).setIfInBounds j v = encF (updF f j v) := by
  apply Array.ext'
  rw [Array.toList_setIfInBounds]
  unfold encF
  apply List.ext_getElem?
  intro i
  rw [List.getElem?_set]
  by_cases hi : i < 32
  · by_cases e : j = i
    · subst e
      simp [hi, updF]
    · rw [if_neg e]
      have e2 : ¬ i = j := fun h => e h.symm
      simp [hi, updF, e2]
  · by_cases e : j = i
    · subst e
      simp [hi]
    · rw [if_neg e]
      simp [hi]
theorem encF_one {f : Nat → Value} (h : ∀ p, p < 32 → (f p).oneCell' = true) : (encF f).all (·.oneCell') = true := by
  rw [Array.all_eq_true_iff_forall_mem]
  intro x hx
  unfold encF at hx
  rw [List.mem_toArray, List.mem_map] at hx
  obtain ⟨n, hn, rfl⟩ := hx
  exact h n (List.mem_range.1 hn)
def encB (h : Nat → Bool) : Array Value := encF fun p => .bool (h p)
theorem encB_set (h : Nat → Bool) (j : Nat) (b : Bool) : (encB h).setIfInBounds j (.bool b) = encB (updF h j b) := by
  unfold encB
  rw [encF_set]
  refine encF_congr fun p _ => ?_
  unfold updF
  split <;> rfl
theorem encB_get (h : Nat → Bool) (j : Nat) (hj : j < 32) : (encB h)[j]? = some (.bool (h j)) := encF_get _ j hj
theorem encB_size (h : Nat → Bool) : (encB h).size = 32 := encF_size _
theorem encB_congr {f g : Nat → Bool} (h : ∀ p, p < 32 → f p = g p) : encB f = encB g := encF_congr fun p hp => by rw [h p hp]
theorem encB_one (h : Nat → Bool) : (encB h).all (·.oneCell') = true := encF_one fun _ _ => rfl
theorem info77 : (Tryd.prog.info? 77).map (·.size) = some 32 := by kernel_rfl
theorem infoB (h : Nat → Bool) : (Tryd.prog.info? 77).map (·.size) = some (encB h).size := by rw [encB_size]; exact info77
/-- A row of 32 bools in a block. -/
def BoolsAt (w : World) (g : Nat) (h : Nat → Bool) : Prop := w.heap[g]? = some (.cells (encB h) 77 (0, 0))
theorem BoolsAt.cell {w : World} {g : Nat} {h : Nat → Bool} (H : BoolsAt w g h) (j : Nat) (hj : j < 32) : w.cell? ⟨g, j, none⟩ = some (.bool (h j)) := by
  rw [cell_of_row w g j _ _ _ H]
  exact encB_get h j hj
theorem BoolsAt.free {w : World} {g : Nat} {h : Nat → Bool} (H : BoolsAt w g h) (j : Nat) : w.frozen? ⟨g, j, none⟩ = false := frozen_of_row w g j _ _ H
theorem BoolsAt.store {w : World} {g : Nat} {h : Nat → Bool} (H : BoolsAt w g h) (j : Nat) (b : Bool) : BoolsAt (w.setCell ⟨g, j, none⟩ (.bool b)) g (updF h j b) := by
  unfold BoolsAt
  rw [heap_setCell_same w g j _ _ _ H, encB_set]
theorem BoolsAt.other {w : World} {g : Nat} {h : Nat → Bool} (H : BoolsAt w g h) (g2 j : Nat) (v : Value) (hg : g ≠ g2) : BoolsAt (w.setCell ⟨g2, j, none⟩ v) g h := by
  unfold BoolsAt
  rw [heap_setCell_other w _ _ _ hg]
  exact H
theorem BoolsAt.lt {w : World} {g : Nat} {h : Nat → Bool} (H : BoolsAt w g h) : g < w.heap.size := (Array.getElem?_eq_some_iff.1 H).1
theorem BoolsAt.alloc {w : World} {g : Nat} {h : Nat → Bool} (H : BoolsAt w g h) (o : Obj) : BoolsAt (w.alloc o) g h := by
  have hl := H.lt
  unfold BoolsAt
  rw [show (w.alloc o).heap[g]? = w.heap[g]? by first | exact Go.heap_alloc_old w o _ (by omega) | exact Go.heap_alloc_old w o (by omega)]
  exact H
theorem BoolsAt.below {w w' : World} {g : Nat} {h : Nat → Bool} (H : BoolsAt w g h) (hb : Below w.heap.size w w') : BoolsAt w' g h := (hb.block g H.lt).trans H
theorem BoolsAt.new (w : World) (h : Nat → Bool) : BoolsAt (w.alloc (.cells (encB h) 77)) w.heap.size h := by
  show (w.heap.push _)[w.heap.size]? = _
  simp
theorem BoolsAt.row {w : World} {g : Nat} {h : Nat → Bool} (H : BoolsAt w g h) (h2 : Nat → Bool) : BoolsAt (w.setRow g (encB h2)) g h2 := setRow_heap _ _ _ _ _ _ H
theorem BoolsAt.of_eq {w : World} {g : Nat} {h h2 : Nat → Bool} (H : BoolsAt w g h) (e : encB h = encB h2) : BoolsAt w g h2 := by
  unfold BoolsAt
  rw [← e]
  exact H
def noneB : Nat → Bool := fun _ => false
theorem maskN_testBit (h : Nat → Bool) (n p : Nat) : (maskN h n).testBit p = (decide (p < n) && h p) := by
  induction n with
  | zero => simp [maskN]
  | succ n ih =>
    have hl := maskN_lt h n
    unfold maskN
    by_cases e : p = n
    · subst e
      by_cases hq : h p = true
      · rw [if_pos hq, Nat.add_comm, Nat.testBit_two_pow_add_eq, Nat.testBit_lt_two_pow hl]
        simp [hq]
      · rw [if_neg hq, Nat.testBit_lt_two_pow hl]
        simp [hq]
    · by_cases hq : h n = true
      · rw [if_pos hq]
        rcases Nat.lt_or_ge p n with hp | hp
        · rw [Nat.add_comm, Nat.testBit_two_pow_add_gt hp, ih]
          simp [hp]
          omega
        · have hlt : maskN h n + 2 ^ n < 2 ^ p := by
            have := Nat.pow_le_pow_right (n := 2) (by decide) (show n + 1 ≤ p by omega)
            rw [Nat.pow_succ] at this
            omega
          rw [Nat.testBit_lt_two_pow hlt]
          have : ¬ p < n + 1 := by omega
          simp [this]
      · rw [if_neg hq, ih]
        congr 1
        rw [decide_eq_decide]
        omega
theorem mask_step (x p : Nat) : x / 2 ^ p = 2 * (x / 2 ^ (p + 1)) + (x.testBit p).toNat := by
  rw [Nat.testBit_eq_decide_div_mod_eq, Nat.pow_succ, ← Nat.div_div_eq_div_mul]
  generalize x / 2 ^ p = y
  by_cases e : y % 2 = 1
  · simp [e]; omega
  · simp [e]; omega
theorem i64_and31 (n : Int) : bits .and .i64 n 31 = n % 32 := by
  have h31 : (BitVec.ofInt 64 31).toNat = 2 ^ 5 - 1 := by decide
  have key : (BitVec.ofInt 64 n &&& BitVec.ofInt 64 31).toNat = (n % ((2 ^ 64 : Nat) : Int)).toNat % 2 ^ 5 := by
    rw [BitVec.toNat_and, BitVec.toNat_ofInt, h31, Nat.and_two_pow_sub_one_eq_mod]
  show IntKind.i64.wrap ((BitVec.ofInt 64 n &&& BitVec.ofInt 64 31).toNat : Nat) = n % 32
  rw [key, IntKind.wrap_i64]
  omega
def bitsB (n : Nat) : Nat → Bool := fun p => n.testBit p
theorem zeroB : (#[.bool false, .bool false, .bool false, .bool false, .bool false, .bool false, .bool false, .bool false, .bool false, .bool false, .bool false, .bool false, .bool false, .bool false, .bool false, .bool false, .bool false, .bool false, .bool false, .bool false, .bool false, .bool false, .bool false, .bool false, .bool false, .bool false, .bool false, .bool false, .bool false, .bool false, .bool false, .bool false] : Array Value) = encB noneB := by rfl
/-- The first places of the bits of a number. -/
def headB (n j : Nat) : Nat → Bool := fun p => decide (p < j) && n.testBit p
theorem headB_zero (n : Nat) : encB (headB n 0) = encB noneB := encB_congr fun p _ => by unfold headB noneB; simp
theorem headB_succ (n j : Nat) : encB (updF (headB n j) j (n.testBit j)) = encB (headB n (j + 1)) := encB_congr fun p _ => by
  unfold headB updF
  by_cases e : p = j
  · rw [if_pos e, e]
    simp
  · rw [if_neg e]
    show (decide (p < j) && n.testBit p) = (decide (p < j + 1) && n.testBit p)
    congr 1
    rw [decide_eq_decide]
    omega
theorem headB_all (n : Nat) : encB (headB n 32) = encB (bitsB n) := encB_congr fun p hp => by unfold headB bitsB; simp [hp]
theorem half_mod (m : Nat) : (Int.tmod (m : Int) 2 == 1) = m.testBit 0 := by
  rw [Nat.testBit_zero]
  have h : Int.tmod (m : Int) 2 = ((m % 2 : Nat) : Int) := by rw [Int.ofNat_tmod]; rfl
  rw [h]
  by_cases e : m % 2 = 1
  · simp [e]
  · have : m % 2 = 0 := by omega
    simp [this]
theorem half_div (m : Nat) : Int.tdiv (m : Int) 2 = ((m / 2 : Nat) : Int) := by rw [Int.ofNat_tdiv]; rfl
theorem half_mod2 (m : Nat) : Int.tmod (m : Int) 2 = (m : Int) % 2 := by rw [Int.tmod_eq_emod_of_nonneg (by omega)]
theorem half_div2 (m : Nat) : ((m : Int) / 2) = ((m / 2 : Nat) : Int) := by omega
theorem shift_bit (n j : Nat) : (n / 2 ^ j).testBit 0 = n.testBit j := by
  rw [Nat.testBit_zero, Nat.testBit_eq_decide_div_mod_eq]
theorem shift_next (n j : Nat) : n / 2 ^ j / 2 = n / 2 ^ (j + 1) := by rw [Nat.div_div_eq_div_mul, Nat.pow_succ]
structure OpenAt (w : World) (h : Nat → Bool) (w' : World) : Prop where
  res : BoolsAt w' w.heap.size noneB
  row : BoolsAt w' (w.heap.size + 1) h
  bel : Below w.heap.size w w'
set_option maxHeartbeats 8000000 in
set_option maxRecDepth 100000 in
theorem ref_open.walk (n : Nat) (w : World) (hn : n < 9223372036854775808) : Calls Tryd.prog 66 #[.int .i64 (n : Int)] w fun e w' => e = .returned (.agg (encB (bitsB n))) ∧ Below w.heap.size w w' := by
  go_enter Tryd.func66, Tryd.ntmps66
  go_wp2
  have H0 := Lib.hid (show OpenAt w (headB n 0) ((w.alloc (.cells #[.bool false, .bool false, .bool false, .bool false, .bool false, .bool false, .bool false, .bool false, .bool false, .bool false, .bool false, .bool false, .bool false, .bool false, .bool false, .bool false, .bool false, .bool false, .bool false, .bool false, .bool false, .bool false, .bool false, .bool false, .bool false, .bool false, .bool false, .bool false, .bool false, .bool false, .bool false, .bool false] 77)).alloc (.cells #[.bool false, .bool false, .bool false, .bool false, .bool false, .bool false, .bool false, .bool false, .bool false, .bool false, .bool false, .bool false, .bool false, .bool false, .bool false, .bool false, .bool false, .bool false, .bool false, .bool false, .bool false, .bool false, .bool false, .bool false, .bool false, .bool false, .bool false, .bool false, .bool false, .bool false, .bool false, .bool false] 77)) by
    have e := zeroB
    generalize (#[.bool false, .bool false, .bool false, .bool false, .bool false, .bool false, .bool false, .bool false, .bool false, .bool false, .bool false, .bool false, .bool false, .bool false, .bool false, .bool false, .bool false, .bool false, .bool false, .bool false, .bool false, .bool false, .bool false, .bool false, .bool false, .bool false, .bool false, .bool false, .bool false, .bool false, .bool false, .bool false] : Array Value) = z at *
    subst e
    refine ⟨(BoolsAt.new w noneB).alloc _, ?_, ((Below.refl _ _).alloc (Nat.le_refl _) _).alloc (by simp) _⟩
    have h2 := BoolsAt.new (w.alloc (.cells (encB noneB) 77)) noneB
    unfold BoolsAt at h2 ⊢
    rw [headB_zero]
    simpa using h2)
  generalize ((w.alloc (.cells #[.bool false, .bool false, .bool false, .bool false, .bool false, .bool false, .bool false, .bool false, .bool false, .bool false, .bool false, .bool false, .bool false, .bool false, .bool false, .bool false, .bool false, .bool false, .bool false, .bool false, .bool false, .bool false, .bool false, .bool false, .bool false, .bool false, .bool false, .bool false, .bool false, .bool false, .bool false, .bool false] 77)).alloc (.cells #[.bool false, .bool false, .bool false, .bool false, .bool false, .bool false, .bool false, .bool false, .bool false, .bool false, .bool false, .bool false, .bool false, .bool false, .bool false, .bool false, .bool false, .bool false, .bool false, .bool false, .bool false, .bool false, .bool false, .bool false, .bool false, .bool false, .bool false, .bool false, .bool false, .bool false, .bool false, .bool false] 77)) = W0 at *
  go_loopw [0, 4] (fun v v2 w' => ∃ j : Nat, j ≤ 32 ∧ v = .int .i64 ((n / 2 ^ j : Nat) : Int) ∧ v2 = .int .i64 (j : Int) ∧ OpenAt w (headB n j) w') (fun _ v2 _ => (32 - intOf v2).toNat)
  case atStart => exact ⟨0, by omega, by simp, rfl, H0.out⟩
  case round =>
    obtain ⟨j, hj, rfl, rfl, h⟩ := hrel
    have HM := Lib.hid h
    clear h
    by_cases hlt : j < 32
    · have hm := half_mod (n / 2 ^ j)
      rw [shift_bit, half_mod2] at hm
      have HD := Lib.hid (half_div2 (n / 2 ^ j))
      have hle : n / 2 ^ j ≤ n := Nat.div_le_self _ _
      have HN := Lib.hid (shift_next n j)
      have HU := Lib.hid (headB_succ n j)
      have hcell := HM.out.row.cell j hlt
      have hfree := HM.out.row.free j
      have hle2 : n / 2 ^ j / 2 ≤ n := Nat.le_trans (Nat.div_le_self _ _) hle
      have hw := IntWalk.i64_in (((n / 2 ^ j : Nat) : Int) / 2) (by generalize n / 2 ^ j = x at *; omega)
      generalize n.testBit j = b at *
      generalize n / 2 ^ j = m at *
      generalize headB n j = hh at *
      go_wp2
      exact ⟨⟨j + 1, by omega, by rw [← HN.out, ← HD.out], by go_num, ⟨HM.out.res.other _ _ _ (by omega), (HM.out.row.store j b).of_eq HU.out, HM.out.bel.setCell (by show w.heap.size ≤ w.heap.size + 1; omega) _⟩⟩, by simp [intOf]; omega⟩
    · have hj32 : j = 32 := by omega
      subst hj32
      have HRow := Lib.hid (HM.out.row.of_eq (headB_all n))
      have HFin := Lib.hid (HM.out.res.row (bitsB n))
      have HI := Lib.hid (infoB (bitsB n))
      have HE := Lib.hid (show (encB noneB).size = (encB (bitsB n)).size by rw [encB_size, encB_size])
      go_wp2_with (first | (refine wpList_load_row rfl 77 (.tmp 3) rfl (w.heap.size + 1) rfl 77 (encB (bitsB n)) (0, 0) _ HRow.out Tryd.underlying77 rfl HI.out ?_) | (refine wpList_store_row rfl 77 (.tmp 2) (.tmp 16) rfl w.heap.size (encB (bitsB n)) rfl rfl 77 (encB noneB) HM.out.res HI.out HE.out (encB_one _) ?_))
      refine bodyPost_ret (results_cell_row rfl _ _ w.heap.size 77 (encB (bitsB n)) (0, 0) _ rfl HFin.out Tryd.underlying77 rfl HI.out) rfl ⟨rfl, below_setRow HM.out.bel (by omega) _⟩

/-! ### wigeonref03_number: function 68 -/
-- GIVEN wigeon/wigeonref03.number rounds=0 making=1
set_option maxHeartbeats 8000000 in
set_option maxRecDepth 100000 in
theorem ref_number.walk (h : Nat → Bool) (w : World) : Calls Tryd.prog 68 #[.agg (encB h)] w fun e w' => e = .returned (.int .i64 ((maskN h 32 : Nat) : Int)) ∧ Below w.heap.size w w' := by
  have HM0 := Lib.hid (mask32_lt h)
  have HT := Lib.hid (fun p (hp : p < 32) => show (maskN h 32).testBit p = h p by rw [maskN_testBit]; simp [hp])
  have hz : maskN h 32 / 2 ^ 32 = 0 := Nat.div_eq_of_lt (mask32_lt h)
  generalize hout : maskN h 32 = out at *
  have Hz := Lib.hid hz
  clear hz hout
  go_enter Tryd.func68, Tryd.ntmps68
  go_wp2
  have H0 := Lib.hid (show BoolsAt (w.alloc (.cells (encB h) 77)) w.heap.size h from BoolsAt.new w h)
  have HB0 := Lib.hid (show Below w.heap.size w (w.alloc (.cells (encB h) 77)) from (Below.refl _ _).alloc (Nat.le_refl _) _)
  generalize (w.alloc (.cells (encB h) 77)) = W0 at *
  go_loopw [3, 4] (fun v v2 w' => ∃ (q : Nat) (z : Int), q ≤ 32 ∧ z = (q : Int) - 1 ∧ v = .int .i64 ((out / 2 ^ q : Nat) : Int) ∧ v2 = .int .i64 z ∧ BoolsAt w' w.heap.size h ∧ Below w.heap.size w w') (fun _ v2 _ => (intOf v2 + 1).toNat)
  case atStart => exact ⟨32, 31, by omega, by omega, by rw [Hz.out]; rfl, rfl, H0.out, HB0.out⟩
  case round =>
    obtain ⟨q, z, hq, hz, rfl, rfl, hr, hb⟩ := hrel
    have HR := Lib.hid hr
    have HB := Lib.hid hb
    clear hr hb
    by_cases hlt : q = 0
    · subst hlt
      have hd : decide (z ≥ 0) = false := decide_eq_false (by omega)
      have hd2 : decide (0 ≤ z) = false := decide_eq_false (by omega)
      rw [Nat.pow_zero, Nat.div_one]
      go_wp2
      go_ret
      exact ⟨rfl, HB.out⟩
    · obtain ⟨p, rfl⟩ : ∃ p, q = p + 1 := ⟨q - 1, by omega⟩
      have hzp : z = (p : Int) := by omega
      have hst := mask_step out p
      rw [HT.out p (by omega)] at hst
      have hle : out / 2 ^ (p + 1) ≤ out := Nat.div_le_self _ _
      have hlo := HM0.out
      have hcell := HR.out.cell p (by omega)
      have hw1 := IntWalk.i64_in (((out / 2 ^ (p + 1) : Nat) : Int) * 2) (by omega)
      have hw2 := IntWalk.i64_in (((out / 2 ^ (p + 1) : Nat) : Int) * 2 + 1) (by omega)
      have Hst := Lib.hid hst
      have hd1 : decide (z ≥ 0) = true := decide_eq_true (by omega)
      have hd2 : decide (0 ≤ z) = true := decide_eq_true (by omega)
      have hz0 : 0 ≤ z := by omega
      have hz32 : z < 32 := by omega
      have hzn : z.toNat < 32 := by omega
      have hzt : z.toNat = p := by omega
      rw [← hzt] at hcell
      have Hz := Lib.hid hzp
      have Hzt := Lib.hid hzt
      clear hst hle hlo hlt hzp hzt hz
      have Hp := Lib.hid hq
      have hp32 : p < 32 := by omega
      clear hq
      generalize out / 2 ^ (p + 1) = m at *
      have Hst := Lib.hid (show ((out / 2 ^ p : Nat) : Int) = (m : Int) * 2 + ((h p).toNat : Int) by rw [Hst.out]; omega)
      generalize (m : Int) = x at *
      cases hb : h p with
      | true =>
        rw [Hzt.out, hb] at hcell
        rw [← Hzt.out] at hcell
        have Hst2 := Lib.hid (show ((out / 2 ^ p : Nat) : Int) = x * 2 + 1 by rw [Hst.out, hb]; rfl)
        clear hb
        go_wp2
        exact ⟨⟨p, z - 1, by have := Hp.out; omega, by rw [Hz.out], by rw [Hst2.out], by have := Hz.out; go_num, HR.out, HB.out⟩, by have := Hz.out; simp [intOf]; omega⟩
      | false =>
        rw [Hzt.out, hb] at hcell
        rw [← Hzt.out] at hcell
        have Hst2 := Lib.hid (show ((out / 2 ^ p : Nat) : Int) = x * 2 by rw [Hst.out, hb]; exact Int.add_zero _)
        clear hb
        go_wp2
        exact ⟨⟨p, z - 1, by have := Hp.out; omega, by rw [Hz.out], by rw [Hst2.out], by have := Hz.out; go_num, HR.out, HB.out⟩, by have := Hz.out; simp [intOf]; omega⟩
theorem around_walk (n : Int) (w : World) : Calls Tryd.prog 67 #[.int .i64 n] w fun e w' => e = .returned (.int .i64 (bits .and .i64 n 31)) ∧ w' = w := by
  go_enter Tryd.func67, Tryd.ntmps67
  go_wp2
  go_ret
  exact ⟨rfl, rfl⟩
/-- What is laid at the places that a turn tells, one after another. -/
def scat (f : Nat → Bool) (s : Nat → Nat) : Nat → Nat → Bool
  | 0 => noneB
  | j + 1 => updF (scat f s j) (s j) (f j)
theorem scat_at {f : Nat → Bool} {s t : Nat → Nat} (h1 : ∀ p, p < 32 → t (s p) = p) (h2 : ∀ q, q < 32 → s (t q) = q) (j : Nat) (hj : j ≤ 32) (q : Nat) (hq : q < 32) : scat f s j q = (decide (t q < j) && f (t q)) := by
  induction j with
  | zero => simp [scat, noneB]
  | succ j ih =>
    show (if q = s j then f j else scat f s j q) = _
    by_cases e : q = s j
    · rw [if_pos e, e, h1 j (by omega)]
      simp
    · rw [if_neg e, ih (by omega)]
      have hne : t q ≠ j := fun h => e (by rw [← h, h2 q hq])
      congr 1
      rw [decide_eq_decide]
      omega
theorem scat_all {f : Nat → Bool} {s t : Nat → Nat} (h1 : ∀ p, p < 32 → t (s p) = p) (h2 : ∀ q, q < 32 → s (t q) = q) (h3 : ∀ q, q < 32 → t q < 32) : maskN (scat f s 32) 32 = maskN (fun q => f (t q)) 32 := by
  have h : ∀ n, n ≤ 32 → maskN (scat f s 32) n = maskN (fun q => f (t q)) n := by
    intro n
    induction n with
    | zero => intro _; rfl
    | succ n ih =>
      intro hn
      unfold maskN
      rw [ih (by omega), scat_at h1 h2 32 (Nat.le_refl _) n (by omega), decide_eq_true (h3 n (by omega)), Bool.true_and]
  exact h 32 (Nat.le_refl _)
def setOk (n : Int) : Bool := decide (0 ≤ n ∧ n < 4294967296)
theorem ref_isSet_eq (n : Int) : wigeonref03_isSet.f n = some (setOk n) := by
  unfold wigeonref03_isSet.f setOk
  by_cases h : n ≥ 0
  · rw [if_pos h]
    congr 1
    rw [decide_eq_decide]
    omega
  · rw [if_neg h, decide_eq_false (by omega)]
structure ScatAt (w : World) (g : Nat) (h h2 : Nat → Bool) (w' : World) : Prop where
  src : BoolsAt w' g h
  dst : BoolsAt w' (g + 1) h2
  bel : Below w.heap.size w w'
theorem ScatAt.new {w w1 : World} (hb : Below w.heap.size w w1) (f : Nat → Bool) (z : Array Value) (hz : z = encB noneB) : ScatAt w w1.heap.size f noneB (((w1.alloc (.cells z 77)).setRow w1.heap.size (encB f)).alloc (.cells z 77)) := by
  subst hz
  have h1 := (BoolsAt.new w1 noneB).row f
  have hs := below_size hb
  have e : ((w1.alloc (.cells (encB noneB) 77)).setRow w1.heap.size (encB f)).heap.size = w1.heap.size + 1 := by simp
  refine ⟨h1.alloc _, ?_, (below_setRow (hb.alloc hs _) hs _).alloc (by omega) _⟩
  have h2 := BoolsAt.new ((w1.alloc (.cells (encB noneB) 77)).setRow w1.heap.size (encB f)) noneB
  rwa [e] at h2
theorem ScatAt.step {w w' : World} {g : Nat} {f h2 : Nat → Bool} (h : ScatAt w g f h2 w') (hg : w.heap.size ≤ g) (q : Nat) (b : Bool) : ScatAt w g f (updF h2 q b) (w'.drew.setCell ⟨g + 1, q, none⟩ (.bool b)) :=
  ⟨BoolsAt.other (w := w'.drew) h.src (g + 1) q _ (by omega), BoolsAt.store (w := w'.drew) h.dst q b, (below_drew1 h.bel).setCell (by show w.heap.size ≤ g + 1; omega) _⟩

/-! ### wigeonref03_Turn: function 22 -/
-- GIVEN wigeon/wigeonref03.Turn rounds=0 making=1
def turnA (y : Int) : Nat := (y % 32).toNat
def turnS (a p : Nat) : Nat := (p + a) % 32
theorem turnA_lt (y : Int) : turnA y < 32 := by unfold turnA; omega
theorem turnS_lt (a p : Nat) : turnS a p < 32 := Nat.mod_lt _ (by decide)
theorem turn_and (y : Int) : bits .and .i64 y 31 = ((turnA y : Nat) : Int) := by rw [i64_and31]; unfold turnA; omega
theorem turn_and2 (a j : Nat) : bits .and .i64 ((j : Int) + (a : Int)) 31 = ((turnS a j : Nat) : Int) := by rw [i64_and31]; unfold turnS; omega
def refTurnP (n y : Int) : Int × Int := if setOk n = true then (((maskN (scat (bitsB n.toNat) (turnS (turnA y)) 32) 32 : Nat) : Int), 0) else (0, 1)
set_option maxHeartbeats 8000000 in
set_option maxRecDepth 100000 in
theorem ref_Turn.walk (n y : Int) (w : World) : Calls Tryd.prog 22 #[.int .i64 n, .int .i64 y] w fun e w' => e = .returned (.tuple #[.int .i64 (refTurnP n y).1, .int .i64 (refTurnP n y).2]) ∧ Below w.heap.size w w' := by
  have HS := Lib.hid (fun w => wigeonref03_isSet.calls n _ w (ref_isSet_eq n))
  by_cases h : setOk n = true
  · have he : refTurnP n y = (((maskN (scat (bitsB n.toNat) (turnS (turnA y)) 32) 32 : Nat) : Int), 0) := by unfold refTurnP; rw [if_pos h]
    rw [he]
    rw [h] at HS
    have hr := of_decide_eq_true h
    obtain ⟨m, rfl⟩ := Int.eq_ofNat_of_zero_le hr.1
    rw [Int.toNat_natCast] at he ⊢
    have HO := Lib.hid (fun w => ref_open.walk m w (by omega))
    clear he h hr
    generalize bitsB m = f at *
    have HE := Lib.hid (show (encB noneB).size = (encB f).size by rw [encB_size, encB_size])
    go_enter Tryd.func22, Tryd.ntmps22
    go_wp2_with (first | (go_at_call 65; go_must (with_reducible refine (HS.out _).mono ?_); rintro _ _ ⟨rfl, ⟨nd, rfl⟩⟩) | (go_at_call 66; go_must (with_reducible refine (HO.out _).mono ?_); rintro _ w1 ⟨rfl, hb1⟩; have HB1 := Lib.hid hb1; have HZ1 := Lib.hid (show BoolsAt (w1.alloc (.cells #[.bool false, .bool false, .bool false, .bool false, .bool false, .bool false, .bool false, .bool false, .bool false, .bool false, .bool false, .bool false, .bool false, .bool false, .bool false, .bool false, .bool false, .bool false, .bool false, .bool false, .bool false, .bool false, .bool false, .bool false, .bool false, .bool false, .bool false, .bool false, .bool false, .bool false, .bool false, .bool false] 77)) w1.heap.size noneB from zeroB ▸ BoolsAt.new w1 noneB); clear hb1) | (refine wpList_store_row rfl 77 (.tmp 6) (.tmp 13) rfl w1.heap.size (encB f) rfl rfl 77 (encB noneB) HZ1.out (infoB f) HE.out (encB_one f) ?_))
    have HBd := Lib.hid ((pw_below_drewN (Below.refl w.heap.size w) nd).trans HB1.out)
    have H0 := Lib.hid (ScatAt.new (HBd.out) f #[.bool false, .bool false, .bool false, .bool false, .bool false, .bool false, .bool false, .bool false, .bool false, .bool false, .bool false, .bool false, .bool false, .bool false, .bool false, .bool false, .bool false, .bool false, .bool false, .bool false, .bool false, .bool false, .bool false, .bool false, .bool false, .bool false, .bool false, .bool false, .bool false, .bool false, .bool false, .bool false] zeroB)
    have Hg := Lib.hid (show w.heap.size ≤ w1.heap.size from below_size HBd.out)
    generalize (((w1.alloc (.cells #[.bool false, .bool false, .bool false, .bool false, .bool false, .bool false, .bool false, .bool false, .bool false, .bool false, .bool false, .bool false, .bool false, .bool false, .bool false, .bool false, .bool false, .bool false, .bool false, .bool false, .bool false, .bool false, .bool false, .bool false, .bool false, .bool false, .bool false, .bool false, .bool false, .bool false, .bool false, .bool false] 77)).setRow w1.heap.size (encB f)).alloc (.cells #[.bool false, .bool false, .bool false, .bool false, .bool false, .bool false, .bool false, .bool false, .bool false, .bool false, .bool false, .bool false, .bool false, .bool false, .bool false, .bool false, .bool false, .bool false, .bool false, .bool false, .bool false, .bool false, .bool false, .bool false, .bool false, .bool false, .bool false, .bool false, .bool false, .bool false, .bool false, .bool false] 77)) = W0 at *
    generalize w1.heap.size = g at *
    go_loopw [8] (fun v w' => ∃ j : Nat, j ≤ 32 ∧ v = .int .i64 (j : Int) ∧ ScatAt w g f (scat f (turnS (turnA y)) j) w') (fun v _ => (32 - intOf v).toNat)
    case atStart => exact ⟨0, by omega, rfl, H0.out⟩
    case round =>
      obtain ⟨j, hj, rfl, hM⟩ := hrel
      have HM := Lib.hid hM
      clear hM
      by_cases hlt : j < 32
      · have hq := turnS_lt (turnA y) j
        have hqi : ((turnS (turnA y) j : Nat) : Int) < 32 := by omega
        have HA := Lib.hid (fun w => show Calls Tryd.prog 67 #[.int .i64 y] w fun e w' => e = .returned (.int .i64 ((turnA y : Nat) : Int)) ∧ w' = w from turn_and y ▸ around_walk y w)
        have HA2 := Lib.hid (fun w => show Calls Tryd.prog 67 #[.int .i64 ((j : Int) + ((turnA y : Nat) : Int))] w fun e w' => e = .returned (.int .i64 ((turnS (turnA y) j : Nat) : Int)) ∧ w' = w from turn_and2 (turnA y) j ▸ around_walk ((j : Int) + ((turnA y : Nat) : Int)) w)
        have hal := turnA_lt y
        have Hn := Lib.hid (show scat f (turnS (turnA y)) (j + 1) = updF (scat f (turnS (turnA y)) j) (turnS (turnA y) j) (f j) from rfl)
        have hw := IntWalk.i64_in ((j : Int) + ((turnA y : Nat) : Int)) (by omega)
        have hcell := HM.out.src.cell j hlt
        have hfree := HM.out.dst.free (turnS (turnA y) j)
        have hcell2 := HM.out.dst.cell (turnS (turnA y) j) hq
        generalize scat f (turnS (turnA y)) j = h2 at *
        generalize turnS (turnA y) j = q at *
        generalize f j = b at *
        generalize turnA y = a at *
        have hcd : World.cell? { heap := wr.heap, tape := wr.tape, drawn := wr.drawn + 1, os := wr.os, output := wr.output } ⟨g, j, none⟩ = some (.bool b) := hcell
        go_wp2
        go_still_tail 9, (by kernel_rfl)
        still_call (HA.out _)
        repeat still_step
        still_call (HA2.out _)
        repeat still_step
        refine wpStill_nil ?_
        change wpList _ _ _ _ _ wr.drew
        go_wp2
        exact ⟨⟨j + 1, by omega, by go_num, by rw [Hn.out]; exact HM.out.step Hg.out q b⟩, by simp [intOf]; omega⟩
      · have hj32 : j = 32 := by omega
        subst hj32
        have HI := Lib.hid (infoB (scat f (turnS (turnA y)) 32))
        have HN := Lib.hid (fun w => ref_number.walk (scat f (turnS (turnA y)) 32) w)
        go_wp2_with (first | (refine wpList_load_row rfl 77 (.tmp 7) rfl (g + 1) rfl 77 (encB (scat f (turnS (turnA y)) 32)) (0, 0) _ HM.out.dst Tryd.underlying77 rfl HI.out ?_) | (go_at_call 68; go_must (with_reducible refine (HN.out _).mono ?_); rintro _ w3 ⟨rfl, hb3⟩; have HB3 := Lib.hid hb3; clear hb3))
        go_ret2
        exact ⟨rfl, HM.out.bel.trans (HB3.out.mono (below_size HM.out.bel))⟩
  · have he : refTurnP n y = (0, 1) := by unfold refTurnP; rw [if_neg h]
    rw [he]
    rw [Bool.eq_false_iff.mpr h] at HS
    go_enter Tryd.func22, Tryd.ntmps22
    go_wp2_with (first | (go_at_call 65; go_must (with_reducible refine (HS.out _).mono ?_); rintro _ _ ⟨rfl, ⟨nd, rfl⟩⟩))
    go_ret2
    exact ⟨rfl, pw_below_drewN (Below.refl _ _) nd⟩
def wigeonref03_Turn.f (a0 a1 : Int) : Option (Int × Int) := some (refTurnP a0 a1)
theorem wigeonref03_Turn.calls (a0 a1 : Int) (r1 : Int) (r2 : Int) (w : World) (h : wigeonref03_Turn.f a0 a1 = some (r1, r2)) :
    Calls Tryd.prog 22 #[.int .i64 a0, .int .i64 a1] w fun e w' => e = .returned (.tuple #[.int .i64 r1, .int .i64 r2]) ∧ Below w.heap.size w w' := by
  have h := Option.some.inj h
  have hw := ref_Turn.walk a0 a1 w
  rw [h] at hw
  exact hw

/-! ### wind_Mirror: function 23 -/
-- GIVEN wigeon/wind.Mirror rounds=0 making=1
def negS (p : Nat) : Nat := (32 - p) % 32
def refMirrorP (n : Int) : Int × Int := if setOk n = true then (((maskN (scat (bitsB n.toNat) negS 32) 32 : Nat) : Int), 0) else (0, 1)
theorem neg_and : ∀ p : Fin 32, bits .and .i64 (-(p.val : Int)) 31 = ((negS p.val : Nat) : Int) := by decide +kernel
theorem negS_lt (p : Nat) : negS p < 32 := Nat.mod_lt _ (by decide)
theorem has_bit {s : Nat} (hs : s < 4294967296) (p : Nat) : (bits .and .u32 ((s : Int) / 2 ^ p) 1 == 1) = s.testBit p := by
  have e : ((s : Int) / 2 ^ p) = ((s / 2 ^ p : Nat) : Int) := by
    rw [Int.natCast_ediv, Int.natCast_pow]
    rfl
  have hle : s / 2 ^ p ≤ s := Nat.div_le_self _ _
  rw [e, show (1 : Int) = ((1 : Nat) : Int) from rfl, u32_and_nat _ 1 (by omega) (by decide), Nat.and_one_is_mod, Nat.testBit_eq_decide_div_mod_eq]
  by_cases h : s / 2 ^ p % 2 = 1
  · simp [h]
  · have : s / 2 ^ p % 2 = 0 := by omega
    simp [this]
set_option maxHeartbeats 8000000 in
set_option maxRecDepth 100000 in
theorem has.walk (s p : Nat) (w : World) (hs : s < 4294967296) (hp : p < 32) : Calls Tryd.prog 69 #[.int .u32 (s : Int), .int .i64 (p : Int)] w fun e w' => e = .returned (.bool (s.testBit p)) ∧ w' = w := by
  have hb := Lib.hid (has_bit hs p)
  go_enter Tryd.func69, Tryd.ntmps69
  go_wp2
  go_ret
  exact ⟨congrArg (fun b => Ending.returned (Value.bool b)) hb.out, rfl⟩
theorem callFunc71 (args : Array Value) (w : World) : (callFunc 71 args).run Tryd.prog w = .ok (Next.enter 71 args) w := by kernel_rfl
theorem callFunc69 (args : Array Value) (w : World) : (callFunc 69 args).run Tryd.prog w = .ok (Next.enter 69 args) w := by kernel_rfl
theorem neg_and_at {p : Nat} (hp : p < 32) : bits .and .i64 (-(p : Int)) 31 = ((negS p : Nat) : Int) := neg_and ⟨p, hp⟩
set_option maxHeartbeats 8000000 in
set_option maxRecDepth 100000 in
theorem mirror1.walk (g s p : Nat) (w : World) (hs : s < 4294967296) (hp : p < 32) (hc : w.cell? ⟨g, 0, none⟩ = some (.func (.func 69) #[.int .u32 (s : Int)] #[])) :
    Calls Tryd.prog 71 #[.int .i64 (p : Int), .pointer (some ⟨g, 0, none⟩)] w fun e w' => e = .returned (.bool (s.testBit (negS p))) ∧ Drawn0 w w' := by
  have HM := Lib.hid (fun w => show Calls Tryd.prog 64 #[.int .i64 (-(p : Int))] w fun e w' => e = .returned (.int .i64 ((negS p : Nat) : Int)) ∧ w' = w from neg_and_at hp ▸ modulo_walk (-(p : Int)) w)
  have HH := Lib.hid (fun w => has.walk s (negS p) w hs (negS_lt p))
  have hw := IntWalk.i64_in (-(p : Int)) (by omega)
  generalize negS p = q at *
  generalize s.testBit q = b at *
  go_enter Tryd.func71, Tryd.ntmps71
  go_wp2
  go_quiet (first | (go_at_call 64; exact Calls.quiet_of_same (HM.out _)) | exact Calls.quiet_of_same (HH.out _))
  go_wp2
  go_ret
  exact ⟨rfl, ⟨_, rfl⟩⟩
theorem func_cell (w : World) : (w.alloc (.cells #[.nilFunc] 41)).cell? ⟨w.heap.size, 0, none⟩ = some .nilFunc := by
  rw [cell_of_row _ w.heap.size 0 _ 41 (0, 0) (heap_alloc_new w _)]
  rfl
theorem func_free (w : World) : (w.alloc (.cells #[.nilFunc] 41)).frozen? ⟨w.heap.size, 0, none⟩ = false := frozen_of_row _ w.heap.size 0 _ 41 (heap_alloc_new w _)
theorem func_new (w : World) (v : Value) : ((w.alloc (.cells #[.nilFunc] 41)).setCell ⟨w.heap.size, 0, none⟩ v).heap[w.heap.size]? = some (.cells #[v] 41 (0, 0)) := by
  rw [heap_setCell_same _ _ 0 _ _ _ (heap_alloc_new w (.cells #[.nilFunc] 41))]
  rfl
def mirrorP (n : Int) : Int × Int := if setOk n = true then (((maskN (fun p => n.toNat.testBit (negS p)) 32 : Nat) : Int), 0) else (0, 1)
theorem isSet_eq (n : Int) : wind_isSet.f n = some (setOk n) := by
  unfold wind_isSet.f wind_all.f wind_within.f setOk
  by_cases h : n ≥ 0
  · have e : wrap64 4294967295 = 4294967295 := by unfold wrap64; decide
    simp only [Option.bind_some, e, if_pos h]
    congr 1
    rw [decide_eq_decide]
    omega
  · simp only [Option.bind_some, if_neg h]
    rw [decide_eq_false (by omega)]
set_option maxHeartbeats 8000000 in
set_option maxRecDepth 100000 in
theorem wind_Mirror.walk (n : Int) (w : World) : Calls Tryd.prog 23 #[.int .i64 n] w fun e w' => e = .returned (.tuple #[.int .i64 (mirrorP n).1, .int .i64 (mirrorP n).2]) ∧ Below w.heap.size w w' := by
  have hmf : ∀ (fn : Fn) (first cap : Array Value) (w : World), (Instr.makeFunc fn first cap).run Tryd.prog w = .ok (.func fn first cap) w := fun _ _ _ _ => rfl
  have HS := Lib.hid (fun w => wind_isSet.calls n _ w (isSet_eq n))
  by_cases h : setOk n = true
  · have he : mirrorP n = (((maskN (fun p => n.toNat.testBit (negS p)) 32 : Nat) : Int), 0) := by unfold mirrorP; rw [if_pos h]
    rw [he]
    rw [h] at HS
    have hr := of_decide_eq_true h
    obtain ⟨m, rfl⟩ := Int.eq_ofNat_of_zero_le hr.1
    have hm : m < 4294967296 := by omega
    have hmi : (m : Int) % 4294967296 = (m : Int) := by omega
    rw [Int.toNat_natCast] at he ⊢
    have HC := Lib.hid (fun (g : Nat) (W : World) (h : W.heap[g]? = some (.cells #[.func (.func 69) #[.int .u32 (m : Int)] #[]] 41 (0, 0))) => wind_collect.walk 71 #[.pointer (some ⟨g, 0, none⟩)] (fun p => m.testBit (negS p)) 0 W (Nat.zero_le _) callFunc71 (fun p w' hp hb => by
      have hg : w'.heap[g]? = some (.cells #[.func (.func 69) #[.int .u32 (m : Int)] #[]] 41 (0, 0)) := (hb.block g (Array.getElem?_eq_some_iff.1 h).1).trans h
      refine (mirror1.walk g m p w' hm hp (by rw [cell_of_row w' g 0 _ _ _ hg]; rfl)).mono ?_
      rintro _ _ ⟨rfl, ⟨nd, rfl⟩⟩
      exact ⟨rfl, pw_below_drewN (Below.refl _ _) nd⟩))
    have hml := mask32_lt (fun p => m.testBit (negS p))
    clear he h hr
    generalize maskN (fun p => m.testBit (negS p)) 32 = out at *
    go_enter Tryd.func23, Tryd.ntmps23
    go_wp2_with (first | (go_at_call 62; go_must (with_reducible refine (HS.out _).mono ?_); rintro _ _ ⟨rfl, ⟨nd, rfl⟩⟩; have hcl : ((w.drewN nd).alloc (.cells #[.nilFunc] 41)).cell? ⟨w.heap.size, 0, none⟩ = some .nilFunc := func_cell (w.drewN nd); have hfr : ((w.drewN nd).alloc (.cells #[.nilFunc] 41)).frozen? ⟨w.heap.size, 0, none⟩ = false := func_free (w.drewN nd); have hnew := Lib.hid (func_new (w.drewN nd) (.func (.func 69) #[.int .u32 (m : Int)] #[])); have HBn := Lib.hid (pw_below_drewN (Below.refl w.heap.size w) nd)) | (go_at_call 70; go_must (with_reducible refine (HC.out w.heap.size _ hnew.out).mono ?_); rintro _ w2 ⟨rfl, hb2⟩; have HB2 := Lib.hid hb2; clear hb2))
    go_ret2
    have hb1 : Below w.heap.size w (((w.drewN nd).alloc (.cells #[.nilFunc] 41)).setCell ⟨w.heap.size, 0, none⟩ (.func (.func 69) #[.int .u32 (m : Int)] #[])) := (HBn.out.alloc (Nat.le_refl _) _).setCell (Nat.le_refl _) _
    exact ⟨rfl, hb1.trans (HB2.out.mono (below_size hb1))⟩
  · have he : mirrorP n = (0, 1) := by unfold mirrorP; rw [if_neg h]
    rw [he]
    rw [Bool.eq_false_iff.mpr h] at HS
    go_enter Tryd.func23, Tryd.ntmps23
    go_wp2_with (first | (go_at_call 62; go_must (with_reducible refine (HS.out _).mono ?_); rintro _ _ ⟨rfl, ⟨nd, rfl⟩⟩))
    go_ret2
    exact ⟨rfl, pw_below_drewN (Below.refl _ _) nd⟩
def wind_Mirror.f (a0 : Int) : Option (Int × Int) := some (mirrorP a0)
theorem wind_Mirror.calls (a0 : Int) (r1 : Int) (r2 : Int) (w : World) (h : wind_Mirror.f a0 = some (r1, r2)) :
    Calls Tryd.prog 23 #[.int .i64 a0] w fun e w' => e = .returned (.tuple #[.int .i64 r1, .int .i64 r2]) ∧ Below w.heap.size w w' := by
  have h := Option.some.inj h
  have hw := wind_Mirror.walk a0 w
  rw [h] at hw
  exact hw

/-! ### wigeonref03_Mirror: function 24 -/
-- GIVEN wigeon/wigeonref03.Mirror rounds=0 making=1
set_option maxHeartbeats 8000000 in
set_option maxRecDepth 100000 in
theorem ref_Mirror.walk (n : Int) (w : World) : Calls Tryd.prog 24 #[.int .i64 n] w fun e w' => e = .returned (.tuple #[.int .i64 (refMirrorP n).1, .int .i64 (refMirrorP n).2]) ∧ Below w.heap.size w w' := by
  have HS := Lib.hid (fun w => wigeonref03_isSet.calls n _ w (ref_isSet_eq n))
  by_cases h : setOk n = true
  · have he : refMirrorP n = (((maskN (scat (bitsB n.toNat) negS 32) 32 : Nat) : Int), 0) := by unfold refMirrorP; rw [if_pos h]
    rw [he]
    rw [h] at HS
    have hr := of_decide_eq_true h
    obtain ⟨m, rfl⟩ := Int.eq_ofNat_of_zero_le hr.1
    rw [Int.toNat_natCast] at he ⊢
    have HO := Lib.hid (fun w => ref_open.walk m w (by omega))
    clear he h hr
    generalize bitsB m = f at *
    have HE := Lib.hid (show (encB noneB).size = (encB f).size by rw [encB_size, encB_size])
    go_enter Tryd.func24, Tryd.ntmps24
    go_wp2_with (first | (go_at_call 65; go_must (with_reducible refine (HS.out _).mono ?_); rintro _ _ ⟨rfl, ⟨nd, rfl⟩⟩) | (go_at_call 66; go_must (with_reducible refine (HO.out _).mono ?_); rintro _ w1 ⟨rfl, hb1⟩; have HB1 := Lib.hid hb1; have HZ1 := Lib.hid (show BoolsAt (w1.alloc (.cells #[.bool false, .bool false, .bool false, .bool false, .bool false, .bool false, .bool false, .bool false, .bool false, .bool false, .bool false, .bool false, .bool false, .bool false, .bool false, .bool false, .bool false, .bool false, .bool false, .bool false, .bool false, .bool false, .bool false, .bool false, .bool false, .bool false, .bool false, .bool false, .bool false, .bool false, .bool false, .bool false] 77)) w1.heap.size noneB from zeroB ▸ BoolsAt.new w1 noneB); clear hb1) | (refine wpList_store_row rfl 77 (.tmp 4) (.tmp 11) rfl w1.heap.size (encB f) rfl rfl 77 (encB noneB) HZ1.out (infoB f) HE.out (encB_one f) ?_))
    have HBd := Lib.hid ((pw_below_drewN (Below.refl w.heap.size w) nd).trans HB1.out)
    have H0 := Lib.hid (ScatAt.new (HBd.out) f #[.bool false, .bool false, .bool false, .bool false, .bool false, .bool false, .bool false, .bool false, .bool false, .bool false, .bool false, .bool false, .bool false, .bool false, .bool false, .bool false, .bool false, .bool false, .bool false, .bool false, .bool false, .bool false, .bool false, .bool false, .bool false, .bool false, .bool false, .bool false, .bool false, .bool false, .bool false, .bool false] zeroB)
    have Hg := Lib.hid (show w.heap.size ≤ w1.heap.size from below_size HBd.out)
    generalize (((w1.alloc (.cells #[.bool false, .bool false, .bool false, .bool false, .bool false, .bool false, .bool false, .bool false, .bool false, .bool false, .bool false, .bool false, .bool false, .bool false, .bool false, .bool false, .bool false, .bool false, .bool false, .bool false, .bool false, .bool false, .bool false, .bool false, .bool false, .bool false, .bool false, .bool false, .bool false, .bool false, .bool false, .bool false] 77)).setRow w1.heap.size (encB f)).alloc (.cells #[.bool false, .bool false, .bool false, .bool false, .bool false, .bool false, .bool false, .bool false, .bool false, .bool false, .bool false, .bool false, .bool false, .bool false, .bool false, .bool false, .bool false, .bool false, .bool false, .bool false, .bool false, .bool false, .bool false, .bool false, .bool false, .bool false, .bool false, .bool false, .bool false, .bool false, .bool false, .bool false] 77)) = W0 at *
    generalize w1.heap.size = g at *
    go_loopw [6] (fun v w' => ∃ j : Nat, j ≤ 32 ∧ v = .int .i64 (j : Int) ∧ ScatAt w g f (scat f negS j) w') (fun v _ => (32 - intOf v).toNat)
    case atStart => exact ⟨0, by omega, rfl, H0.out⟩
    case round =>
      obtain ⟨j, hj, rfl, hM⟩ := hrel
      have HM := Lib.hid hM
      clear hM
      by_cases hlt : j < 32
      · have hq := negS_lt j
        have hqi : ((negS j : Nat) : Int) < 32 := by omega
        have HA := Lib.hid (fun w => show Calls Tryd.prog 67 #[.int .i64 (-(j : Int))] w fun e w' => e = .returned (.int .i64 ((negS j : Nat) : Int)) ∧ w' = w from neg_and ⟨j, hlt⟩ ▸ around_walk (-(j : Int)) w)
        have Hn := Lib.hid (show scat f negS (j + 1) = updF (scat f negS j) (negS j) (f j) from rfl)
        have hw := IntWalk.i64_in (-(j : Int)) (by omega)
        have hcell := HM.out.src.cell j hlt
        have hfree := HM.out.dst.free (negS j)
        have hcell2 := HM.out.dst.cell (negS j) hq
        generalize scat f negS j = h2 at *
        generalize negS j = q at *
        generalize f j = b at *
        have hcd : World.cell? { heap := wr.heap, tape := wr.tape, drawn := wr.drawn + 1, os := wr.os, output := wr.output } ⟨g, j, none⟩ = some (.bool b) := hcell
        go_wp2
        go_still_tail 7, (by kernel_rfl)
        still_call (HA.out _)
        repeat still_step
        refine wpStill_nil ?_
        change wpList _ _ _ _ _ wr.drew
        go_wp2
        exact ⟨⟨j + 1, by omega, by go_num, by rw [Hn.out]; exact HM.out.step Hg.out q b⟩, by simp [intOf]; omega⟩
      · have hj32 : j = 32 := by omega
        subst hj32
        have HI := Lib.hid (infoB (scat f negS 32))
        have HN := Lib.hid (fun w => ref_number.walk (scat f negS 32) w)
        go_wp2_with (first | (refine wpList_load_row rfl 77 (.tmp 5) rfl (g + 1) rfl 77 (encB (scat f negS 32)) (0, 0) _ HM.out.dst Tryd.underlying77 rfl HI.out ?_) | (go_at_call 68; go_must (with_reducible refine (HN.out _).mono ?_); rintro _ w3 ⟨rfl, hb3⟩; have HB3 := Lib.hid hb3; clear hb3))
        go_ret2
        exact ⟨rfl, HM.out.bel.trans (HB3.out.mono (below_size HM.out.bel))⟩
  · have he : refMirrorP n = (0, 1) := by unfold refMirrorP; rw [if_neg h]
    rw [he]
    rw [Bool.eq_false_iff.mpr h] at HS
    go_enter Tryd.func24, Tryd.ntmps24
    go_wp2_with (first | (go_at_call 65; go_must (with_reducible refine (HS.out _).mono ?_); rintro _ _ ⟨rfl, ⟨nd, rfl⟩⟩))
    go_ret2
    exact ⟨rfl, pw_below_drewN (Below.refl _ _) nd⟩
def wigeonref03_Mirror.f (a0 : Int) : Option (Int × Int) := some (refMirrorP a0)
theorem wigeonref03_Mirror.calls (a0 : Int) (r1 : Int) (r2 : Int) (w : World) (h : wigeonref03_Mirror.f a0 = some (r1, r2)) :
    Calls Tryd.prog 24 #[.int .i64 a0] w fun e w' => e = .returned (.tuple #[.int .i64 r1, .int .i64 r2]) ∧ Below w.heap.size w w' := by
  have h := Option.some.inj h
  have hw := ref_Mirror.walk a0 w
  rw [h] at hw
  exact hw

end Go.Proofs.YthihlapmkcelpaaDoor.Q
