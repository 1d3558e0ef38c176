-- Written by a program of this session (wip/tools/gprint.py, over the kit's print); Lean checks it.
import Derived.Test.YthihlapmkcelpaaDoorQx0
namespace Go.Proofs.YthihlapmkcelpaaDoor.Q
open Go.RowKit Go.Proofs.YthihlapmkcelpaaDoorW.PrintWords Go.Proofs.YthihlapmkcelpaaDoorW.PrintLast Go.Proofs.YthihlapmkcelpaaDoorW.PrintMore
attribute [local go_sem] max2_int min2_int max_two min_two max_three min_three max_four min_four   -- for this text's walks alone
set_option linter.unusedVariables false
set_option linter.unusedSimpArgs false

/-! ### wind_within: function 74 -/
def wind_within.f (a0 : Int) (a1 : Int) (a2 : Int) : Option (Bool) := if a0 ≥ a1 then (some (decide (a0 ≤ a2))) else (some false)
set_option maxHeartbeats 8000000 in
set_option maxRecDepth 100000 in
theorem wind_within.calls (a0 : Int) (a1 : Int) (a2 : Int) (r : Bool) (w : World) (h : wind_within.f a0 a1 a2 = some r) :
    Calls Tryd.prog 74 #[.int .i64 a0, .int .i64 a1, .int .i64 a2] w fun e w' => e = .returned (.bool r) ∧ Drawn0 w w' := by
  have H : (if a0 ≥ a1 then (some (decide (a0 ≤ a2))) else (some false)) = some r := h
  clear h
  by_cases c4 : a0 ≥ a1
  · rw [if_pos c4] at H
    have c4b0 : decide (a1 ≤ a0) = true := decide_eq_true c4
    clear c4
    obtain rfl := Option.some.inj H
    go_enter Tryd.func74, Tryd.ntmps74
    go_wp2
    go_ret
    exact ⟨by first | rfl | (simp; done) | (simp [*]; done), by repeat (first | exact Drawn0.refl _ | apply Drawn0.step)⟩
  · rw [if_neg c4] at H
    have c4b0 : decide (a1 ≤ a0) = false := decide_eq_false c4
    clear c4
    obtain rfl := Option.some.inj H
    go_enter Tryd.func74, Tryd.ntmps74
    go_wp2
    go_ret
    exact ⟨by first | rfl | (simp; done) | (simp [*]; done), by repeat (first | exact Drawn0.refl _ | apply Drawn0.step)⟩

/-! ### wind_isPoint: function 57 -/
def wind_isPoint.f (a0 : Int) : Option (Bool) := (wind_within.f a0 0 31).bind fun t101 => (some t101)
set_option maxHeartbeats 8000000 in
set_option maxRecDepth 100000 in
theorem wind_isPoint.calls (a0 : Int) (r : Bool) (w : World) (h : wind_isPoint.f a0 = some r) :
    Calls Tryd.prog 57 #[.int .i64 a0] w fun e w' => e = .returned (.bool r) ∧ Drawn0 w w' := by
  have H : ((wind_within.f a0 0 31).bind fun t101 => (some t101)) = some r := h
  clear h
  replace H := Option.bind_eq_some_iff.mp H
  obtain ⟨t101, A20, H⟩ := H
  replace H : (some t101) = some r := H
  have A2 := Aside0.mk A20
  clear A20
  obtain rfl := Option.some.inj H
  go_enter Tryd.func57, Tryd.ntmps57
  go_wp2_with (first | ((with_reducible refine gate_callee (f := 74) rfl ?_); refine goesL_ (some 4) rfl rfl Tryd.func74 (by kernel_rfl) rfl #[.int .i64 a0, .int .i64 0, .int .i64 31] rfl (by (try simp only [List.map_toArray, List.map_cons, List.map_nil]); first | done | rfl | (simp only [List.length_drop, List.length_take]; rfl)) ?_; (with_reducible refine (wind_within.calls a0 0 31 t101 _ A2.out).mono ?_); rintro e w' ⟨rfl, ⟨nd, rfl⟩⟩; refine ⟨_, rfl, ?_⟩))
  go_ret
  exact ⟨by first | rfl | (simp; done) | (simp [*]; done), by repeat (first | exact Drawn0.refl _ | apply Drawn0.step)⟩

-- NOT PRINTED: function 105 (strings_FieldsFunc)

-- NOT PRINTED: function 111 (unicode_is16)

-- NOT PRINTED: function 112 (unicode_is32)

-- NOT PRINTED: function 110 (unicode_isExcludingLatin)

-- NOT PRINTED: function 106 (unicode_IsSpace)

-- NOT PRINTED: function 97 (strings_Fields)

/-! ### wind_names: function 58 -/
-- GIVEN wigeon/wind.names rounds=0 making=1
-- IMPORT Derived.Test.YthihlapmkcelpaaDoorShelf
def nameList : List (List UInt8) := [[78], [78, 98, 69], [78, 78, 69], [78, 69, 98, 78], [78, 69], [78, 69, 98, 69], [69, 78, 69], [69, 98, 78], [69], [69, 98, 83], [69, 83, 69], [83, 69, 98, 69], [83, 69], [83, 69, 98, 83], [83, 83, 69], [83, 98, 69], [83], [83, 98, 87], [83, 83, 87], [83, 87, 98, 83], [83, 87], [83, 87, 98, 87], [87, 83, 87], [87, 98, 83], [87], [87, 98, 78], [87, 78, 87], [78, 87, 98, 87], [78, 87], [78, 87, 98, 78], [78, 78, 87], [78, 98, 87]]
set_option maxRecDepth 100000 in
theorem fields_names : Lib.fields [78, 32, 78, 98, 69, 32, 78, 78, 69, 32, 78, 69, 98, 78, 32, 78, 69, 32, 78, 69, 98, 69, 32, 69, 78, 69, 32, 69, 98, 78, 32, 69, 32, 69, 98, 83, 32, 69, 83, 69, 32, 83, 69, 98, 69, 32, 83, 69, 32, 83, 69, 98, 83, 32, 83, 83, 69, 32, 83, 98, 69, 32, 83, 32, 83, 98, 87, 32, 83, 83, 87, 32, 83, 87, 98, 83, 32, 83, 87, 32, 83, 87, 98, 87, 32, 87, 83, 87, 32, 87, 98, 83, 32, 87, 32, 87, 98, 78, 32, 87, 78, 87, 32, 78, 87, 98, 87, 32, 78, 87, 32, 78, 87, 98, 78, 32, 78, 78, 87, 32, 78, 98, 87] = nameList := by decide +kernel
theorem ascii_all {l : List UInt8} (h : l.all (fun b => decide (b.toNat < 128)) = true) : ∀ (j : Nat) b, l[j]? = some b → b.toNat < 128 := by
  intro j b hb
  rw [List.all_eq_true] at h
  exact of_decide_eq_true (h b (List.mem_of_getElem? hb))
def namesObj : Obj := .cells ((nameList.map fun l => Value.string ⟨l.toArray⟩).toArray) 9
set_option maxHeartbeats 8000000 in
set_option maxRecDepth 100000 in
theorem wind_names.walk (w : World) (htab : Lib.TabIs Tryd.prog w "strings.asciiSpace" .u8 Lib.asciiSpaceTab) : Calls Tryd.prog 58 #[] w fun e w' => e = .returned (.slice (some ⟨w.heap.size, 0, none⟩) 32 32) ∧ w' = w.alloc namesObj := by
  have HT := Lib.hid htab
  clear htab
  go_enter Tryd.func58, Tryd.ntmps58
  go_wp2_with (first | (go_at_call 97; go_must (refine (Tryd.strings_Fields _ _ (by decide) (ascii_all (by decide +kernel)) HT.out).mono ?_); rintro _ w2 ⟨rfl, rfl⟩))
  rw [fields_names]
  go_ret
  exact ⟨rfl, rfl⟩
/-- The world bears the library's table of spaces. -/
def SpaceW (w : World) : Prop := Lib.TabIs Tryd.prog w "strings.asciiSpace" .u8 Lib.asciiSpaceTab
theorem SpaceW.below {w w1 : World} (h : SpaceW w) (hb : Below w.heap.size w w1) : SpaceW w1 := by
  unfold SpaceW Lib.TabIs World.var? at h ⊢
  obtain ⟨g, hg, h⟩ := Option.bind_eq_some_iff.mp h
  rw [hg]
  show (match w1.heap[g]? with | some (.cells cs _ _) => some cs | _ => none) = _
  have hl : g < w.heap.size := by
    cases hq : w.heap[g]? with
    | none => rw [hq] at h; exact absurd h (by simp)
    | some o => exact (Array.getElem?_eq_some_iff.1 hq).1
  rw [hb.block g hl]
  exact h

/-! ### wind_Name: function 17 -/
-- GIVEN wigeon/wind.Name rounds=0 making=1
def nameAt (p : Nat) : ByteArray := ⟨(nameList.getD p []).toArray⟩
def nameP (p : Int) : ByteArray × Int := if 0 ≤ p ∧ p ≤ 31 then (nameAt p.toNat, 0) else (⟨#[]⟩, 1)
theorem names_cell (w : World) (p : Nat) (hp : p < 32) : (w.alloc namesObj).cell? ⟨w.heap.size, p, none⟩ = some (.string (nameAt p)) := by
  rw [cell_of_row (w.alloc namesObj) w.heap.size p _ 9 (0, 0) (heap_alloc_new w namesObj)]
  have hl : p < nameList.length := hp
  rw [List.getElem?_toArray, List.getElem?_map, List.getElem?_eq_getElem hl]
  unfold nameAt
  rw [List.getD_eq_getElem?_getD, List.getElem?_eq_getElem hl]
  rfl
theorem isPoint_eq (p : Int) : wind_isPoint.f p = some (decide (0 ≤ p ∧ p ≤ 31)) := by
  unfold wind_isPoint.f wind_within.f
  by_cases h : p ≥ 0
  · rw [if_pos h]
    simp [h]
  · rw [if_neg h, decide_eq_false (by omega)]
    rfl
set_option maxHeartbeats 8000000 in
set_option maxRecDepth 100000 in
theorem wind_Name.walk (p : Int) (w : World) (htab : SpaceW w) : Calls Tryd.prog 17 #[.int .i64 p] w fun e w' => e = .returned (.tuple #[.string (nameP p).1, .int .i64 (nameP p).2]) ∧ Below w.heap.size w w' := by
  have HK := Lib.hid (fun n => (show Lib.TabIs Tryd.prog (w.drewN n) "strings.asciiSpace" .u8 Lib.asciiSpaceTab from htab.below (pw_below_drewN (Below.refl w.heap.size w) n)))
  clear htab
  have HP := Lib.hid (fun w => wind_isPoint.calls p _ w (isPoint_eq p))
  by_cases h : 0 ≤ p ∧ p ≤ 31
  · have he : nameP p = (nameAt p.toNat, 0) := by unfold nameP; rw [if_pos h]
    rw [he]
    rw [decide_eq_true h] at HP
    obtain ⟨n, rfl⟩ := Int.eq_ofNat_of_zero_le h.1
    have hn : n < 32 := by omega
    rw [Int.toNat_natCast] at he ⊢
    clear he
    generalize hs : nameAt n = s
    have hcell := fun W : World => names_cell W n hn
    rw [hs] at hcell
    go_enter Tryd.func17, Tryd.ntmps17
    go_wp2_with (first | (go_at_call 57; go_must (with_reducible refine (HP.out _).mono ?_); rintro _ _ ⟨rfl, ⟨nd, rfl⟩⟩) | (go_at_call 58; go_must (with_reducible refine (wind_names.walk _ (HK.out nd)).mono ?_); rintro _ w2 ⟨rfl, rfl⟩; have hcl : ((w.drewN nd).alloc namesObj).cell? ⟨w.heap.size, n, none⟩ = some (.string s) := hcell (w.drewN nd)))
    go_ret2
    exact ⟨rfl, (pw_below_drewN (Below.refl _ _) nd).alloc (by simp) _⟩
  · have he : nameP p = (⟨#[]⟩, 1) := by unfold nameP; rw [if_neg h]
    rw [he]
    rw [decide_eq_false h] at HP
    go_enter Tryd.func17, Tryd.ntmps17
    go_wp2_with (first | (go_at_call 57; go_must (with_reducible refine (HP.out _).mono ?_); rintro _ _ ⟨rfl, ⟨nd, rfl⟩⟩))
    go_ret2
    exact ⟨rfl, pw_below_drewN (Below.refl _ _) nd⟩
def wind_Name.f (p : Int) : Option (ByteArray × Int) := some (nameP p)
theorem wind_Name.calls (p : Int) (r1 : ByteArray) (r2 : Int) (w : World) (h : wind_Name.f p = some (r1, r2)) (hS : SpaceW w := by first | exact HS.out | exact HS.out.below HB.out | exact HS.out.below (by repeat (first | (with_reducible first | exact HB.out | apply below_alloc | apply pw_below_drewN | apply below_drew1) | exact HB.out))) :
    Calls Tryd.prog 17 #[.int .i64 p] w fun e w' => e = .returned (.tuple #[.string r1, .int .i64 r2]) ∧ Below w.heap.size w w' := by
  have h := Option.some.inj h
  have hw := wind_Name.walk p w hS
  rw [h] at hw
  exact hw

/-! ### wind_ValidateArc: function 27 -/
def wind_ValidateArc.f (a0_0 : Int) (a0_1 : Int) : Option (Int) := (wind_isPoint.f a0_0).bind fun t106 => (if t106 = true then ((wind_within.f a0_1 1 32).bind fun t107 => (if t107 = true then (some 0) else (some 1))) else (some 1))
set_option maxHeartbeats 8000000 in
set_option maxRecDepth 100000 in
theorem wind_ValidateArc.calls (a0_0 : Int) (a0_1 : Int) (r : Int) (w : World) (h : wind_ValidateArc.f a0_0 a0_1 = some r) :
    Calls Tryd.prog 27 #[.agg #[.int .i64 a0_0, .int .i64 a0_1]] w fun e w' => e = .returned (.int .i64 r) ∧ Below w.heap.size w w' := by
  have hu33 := Tryd.underlying33
  have HB := Aside0.mk (Below.refl w.heap.size w)
  have H : ((wind_isPoint.f a0_0).bind fun t106 => (if t106 = true then ((wind_within.f a0_1 1 32).bind fun t107 => (if t107 = true then (some 0) else (some 1))) else (some 1))) = some r := h
  clear h
  replace H := Option.bind_eq_some_iff.mp H
  obtain ⟨t106, A20, H⟩ := H
  replace H : (if t106 = true then ((wind_within.f a0_1 1 32).bind fun t107 => (if t107 = true then (some 0) else (some 1))) else (some 1)) = some r := H
  have A2 := Aside0.mk A20
  clear A20
  by_cases c3 : t106 = true
  · subst c3
    have H1 : ((wind_within.f a0_1 1 32).bind fun t107 => (if t107 = true then (some 0) else (some 1))) = some r := by rw [if_pos rfl] at H; exact H
    clear H
    have H := H1
    clear H1
    replace H := Option.bind_eq_some_iff.mp H
    obtain ⟨t107, A40, H⟩ := H
    replace H : (if t107 = true then (some 0) else (some 1)) = some r := H
    have A4 := Aside0.mk A40
    clear A40
    by_cases c5 : t107 = true
    · subst c5
      have H1 : (some 0) = some r := by rw [if_pos rfl] at H; exact H
      clear H
      have H := H1
      clear H1
      obtain rfl := Option.some.inj H
      go_enter Tryd.func27, Tryd.ntmps27
      go_wp2_with (first | ((with_reducible refine gate_dst (N := 1) rfl ?_); refine box_event ?hg (N := 1) ?hd (cs := #[.int .i64 a0_0, .int .i64 a0_1]) (t := 33) ?hr ?_; (case hd => rfl); (case hg => rfl); (case hr => first | (go_simp; done) | (go_simp; rfl)); intro gb105 hg w6 hbox hb; have n0_ := Aside0.mk (below_step (by repeat (first | (with_reducible first | exact HB.out | apply below_alloc | apply pw_below_drewN | apply below_drew1) | exact HB.out)) hb); have n1_ := Aside0.mk (hbox); have n2_ := Aside0.mk ((by rw [hg]; exact (below_size (by repeat (first | (with_reducible first | exact HB.out | apply below_alloc | apply pw_below_drewN | apply below_drew1) | exact HB.out))) : w.heap.size ≤ gb105)); have n3_ := Aside0.mk ((by rw [hg]; exact (below_size (by repeat (first | (with_reducible first | exact HB.out | apply below_alloc | apply pw_below_drewN | apply below_drew1) | exact HB.out))) : w.heap.size ≤ gb105)); clear HB; have HB := n0_; have BK105 := n1_; have GW105 := n2_; have GE105 := n3_; clear n0_ n1_ n2_ n3_; clear hb hbox hg; have hcz7_0 : w6.cell? ⟨gb105, 0, none⟩ = some (.int .i64 a0_0) := (blk_cell BK105.out 0).trans rfl; have hcz7_1 : w6.cell? ⟨gb105, 1, none⟩ = some (.int .i64 a0_1) := (blk_cell BK105.out 1).trans rfl; have hfz7_0 := blk_frozen BK105.out 0; have hfz7_1 := blk_frozen BK105.out 1) | ((with_reducible refine gate_callee (f := 57) rfl ?_); refine goesL_ (some 5) rfl rfl Tryd.func57 (by kernel_rfl) rfl #[.int .i64 a0_0] rfl (by (try simp only [List.map_toArray, List.map_cons, List.map_nil]); first | done | rfl | (simp only [List.length_drop, List.length_take]; rfl)) ?_; (with_reducible refine (wind_isPoint.calls a0_0 true _ A2.out).mono ?_); rintro e w' ⟨rfl, ⟨nd, rfl⟩⟩; refine ⟨_, rfl, ?_⟩) | (go_at_call 74; (with_reducible refine (wind_within.calls a0_1 1 32 true _ A4.out).mono ?_); rintro e w' ⟨rfl, ⟨nd, rfl⟩⟩))
      go_ret
      exact ⟨by first | rfl | (simp [errW_none, errW_some] <;> rfl) | (simp [*, errW_none, errW_some] <;> rfl), by repeat (first | (with_reducible first | exact HB.out | apply below_alloc | apply pw_below_drewN | apply below_drew1 | refine below_set ?_ GE105.out) | exact HB.out)⟩
    · replace c5 := Bool.eq_false_iff.mpr c5
      subst c5
      have H1 : (some 1) = some r := by rw [if_neg (show ¬ (false = true) by decide)] at H; exact H
      clear H
      have H := H1
      clear H1
      obtain rfl := Option.some.inj H
      go_enter Tryd.func27, Tryd.ntmps27
      go_wp2_with (first | ((with_reducible refine gate_dst (N := 1) rfl ?_); refine box_event ?hg (N := 1) ?hd (cs := #[.int .i64 a0_0, .int .i64 a0_1]) (t := 33) ?hr ?_; (case hd => rfl); (case hg => rfl); (case hr => first | (go_simp; done) | (go_simp; rfl)); intro gb105 hg w8 hbox hb; have n0_ := Aside0.mk (below_step (by repeat (first | (with_reducible first | exact HB.out | apply below_alloc | apply pw_below_drewN | apply below_drew1) | exact HB.out)) hb); have n1_ := Aside0.mk (hbox); have n2_ := Aside0.mk ((by rw [hg]; exact (below_size (by repeat (first | (with_reducible first | exact HB.out | apply below_alloc | apply pw_below_drewN | apply below_drew1) | exact HB.out))) : w.heap.size ≤ gb105)); have n3_ := Aside0.mk ((by rw [hg]; exact (below_size (by repeat (first | (with_reducible first | exact HB.out | apply below_alloc | apply pw_below_drewN | apply below_drew1) | exact HB.out))) : w.heap.size ≤ gb105)); clear HB; have HB := n0_; have BK105 := n1_; have GW105 := n2_; have GE105 := n3_; clear n0_ n1_ n2_ n3_; clear hb hbox hg; have hcz9_0 : w8.cell? ⟨gb105, 0, none⟩ = some (.int .i64 a0_0) := (blk_cell BK105.out 0).trans rfl; have hcz9_1 : w8.cell? ⟨gb105, 1, none⟩ = some (.int .i64 a0_1) := (blk_cell BK105.out 1).trans rfl; have hfz9_0 := blk_frozen BK105.out 0; have hfz9_1 := blk_frozen BK105.out 1) | ((with_reducible refine gate_callee (f := 57) rfl ?_); refine goesL_ (some 5) rfl rfl Tryd.func57 (by kernel_rfl) rfl #[.int .i64 a0_0] rfl (by (try simp only [List.map_toArray, List.map_cons, List.map_nil]); first | done | rfl | (simp only [List.length_drop, List.length_take]; rfl)) ?_; (with_reducible refine (wind_isPoint.calls a0_0 true _ A2.out).mono ?_); rintro e w' ⟨rfl, ⟨nd, rfl⟩⟩; refine ⟨_, rfl, ?_⟩) | (go_at_call 74; (with_reducible refine (wind_within.calls a0_1 1 32 false _ A4.out).mono ?_); rintro e w' ⟨rfl, ⟨nd, rfl⟩⟩))
      go_ret
      exact ⟨by first | rfl | (simp [errW_none, errW_some] <;> rfl) | (simp [*, errW_none, errW_some] <;> rfl), by repeat (first | (with_reducible first | exact HB.out | apply below_alloc | apply pw_below_drewN | apply below_drew1 | refine below_set ?_ GE105.out) | exact HB.out)⟩
  · replace c3 := Bool.eq_false_iff.mpr c3
    subst c3
    have H1 : (some 1) = some r := by rw [if_neg (show ¬ (false = true) by decide)] at H; exact H
    clear H
    have H := H1
    clear H1
    obtain rfl := Option.some.inj H
    go_enter Tryd.func27, Tryd.ntmps27
    go_wp2_with (first | ((with_reducible refine gate_dst (N := 1) rfl ?_); refine box_event ?hg (N := 1) ?hd (cs := #[.int .i64 a0_0, .int .i64 a0_1]) (t := 33) ?hr ?_; (case hd => rfl); (case hg => rfl); (case hr => first | (go_simp; done) | (go_simp; rfl)); intro gb105 hg w10 hbox hb; have n0_ := Aside0.mk (below_step (by repeat (first | (with_reducible first | exact HB.out | apply below_alloc | apply pw_below_drewN | apply below_drew1) | exact HB.out)) hb); have n1_ := Aside0.mk (hbox); have n2_ := Aside0.mk ((by rw [hg]; exact (below_size (by repeat (first | (with_reducible first | exact HB.out | apply below_alloc | apply pw_below_drewN | apply below_drew1) | exact HB.out))) : w.heap.size ≤ gb105)); have n3_ := Aside0.mk ((by rw [hg]; exact (below_size (by repeat (first | (with_reducible first | exact HB.out | apply below_alloc | apply pw_below_drewN | apply below_drew1) | exact HB.out))) : w.heap.size ≤ gb105)); clear HB; have HB := n0_; have BK105 := n1_; have GW105 := n2_; have GE105 := n3_; clear n0_ n1_ n2_ n3_; clear hb hbox hg; have hcz11_0 : w10.cell? ⟨gb105, 0, none⟩ = some (.int .i64 a0_0) := (blk_cell BK105.out 0).trans rfl; have hcz11_1 : w10.cell? ⟨gb105, 1, none⟩ = some (.int .i64 a0_1) := (blk_cell BK105.out 1).trans rfl; have hfz11_0 := blk_frozen BK105.out 0; have hfz11_1 := blk_frozen BK105.out 1) | ((with_reducible refine gate_callee (f := 57) rfl ?_); refine goesL_ (some 5) rfl rfl Tryd.func57 (by kernel_rfl) rfl #[.int .i64 a0_0] rfl (by (try simp only [List.map_toArray, List.map_cons, List.map_nil]); first | done | rfl | (simp only [List.length_drop, List.length_take]; rfl)) ?_; (with_reducible refine (wind_isPoint.calls a0_0 false _ A2.out).mono ?_); rintro e w' ⟨rfl, ⟨nd, rfl⟩⟩; refine ⟨_, rfl, ?_⟩))
    go_ret
    exact ⟨by first | rfl | (simp [errW_none, errW_some] <;> rfl) | (simp [*, errW_none, errW_some] <;> rfl), by repeat (first | (with_reducible first | exact HB.out | apply below_alloc | apply pw_below_drewN | apply below_drew1 | refine below_set ?_ GE105.out) | exact HB.out)⟩

/-! ### wind_collect: function 70 -/
-- GIVEN wigeon/wind.collect rounds=0 making=1
-- IMPORT Derived.Outline Derived.Lib.Hide Derived.Deep.DeepMust Derived.Deep.RegionWith Derived.IntWalk Derived.Laws.Tables Derived.Laws.BitsAllLaws
/-! The set of the points for which something holds. -/
def maskN (h : Nat → Bool) : Nat → Nat
  | 0 => 0
  | n + 1 => if h n = true then maskN h n + 2 ^ n else maskN h n
theorem maskN_lt (h : Nat → Bool) (n : Nat) : maskN h n < 2 ^ n := by
  induction n with
  | zero => exact Nat.zero_lt_succ 0
  | succ n ih =>
    unfold maskN
    rw [Nat.pow_succ]
    split <;> omega
theorem or_bit {m p : Nat} (hp : p < 32) (hm : m < 2 ^ p) : bits BinOp.or IntKind.u32 (m : Int) (2 ^ p % 4294967296) = ((m + 2 ^ p : Nat) : Int) := by
  have h1 : 2 ^ p ≤ 2 ^ 31 := Nat.pow_le_pow_right (by decide) (by omega)
  have e : (2 ^ p % 4294967296 : Int) = ((2 ^ p : Nat) : Int) := by
    rw [Int.natCast_pow]
    refine Int.emod_eq_of_lt (Int.pow_nonneg (by decide)) ?_
    have h2 : ((2 ^ p : Nat) : Int) < 4294967296 := by omega
    rwa [Int.natCast_pow] at h2
  rw [e, u32_or_nat m (2 ^ p) (by omega) (by omega)]
  congr 1
  rw [Nat.or_comm]
  have := Nat.two_pow_add_eq_or_of_lt hm 1
  rw [Nat.mul_one] at this
  omega
set_option maxHeartbeats 8000000 in
set_option maxRecDepth 100000 in
theorem wind_collect.walk (F : FuncId) (cap : Array Value) (h : Nat → Bool) (B : Nat) (w : World) (hB : B ≤ w.heap.size) (hF : ∀ (args : Array Value) (w : World), (callFunc F args).run Tryd.prog w = .ok (Next.enter F args) w) (hc : ∀ (p : Nat) (w' : World), p < 32 → Below w.heap.size w w' → Calls Tryd.prog F (#[.int .i64 (p : Int)] ++ cap) w' fun e w'' => e = .returned (.bool (h p)) ∧ Below w'.heap.size w' w'') :
    Calls Tryd.prog 70 #[.func (.func F) #[] cap] w fun e w' => e = .returned (.int .u32 ((maskN h 32 : Nat) : Int)) ∧ Below w.heap.size w w' := by
  generalize hout : maskN h 32 = out
  have Hout := Lib.hid hout
  clear hout
  have HC := Lib.hid hc
  clear hc
  go_enter Tryd.func70, Tryd.ntmps70
  go_wp2
  go_loopw [3, 5] (fun v v2 w' => ∃ p : Nat, p ≤ 32 ∧ v = .int .u32 ((maskN h p : Nat) : Int) ∧ v2 = .int .i64 (p : Int) ∧ Below w.heap.size w w') (fun _ v2 _ => 32 - (intOf v2).toNat)
  case atStart => exact ⟨0, Nat.zero_le _, rfl, rfl, Below.refl _ _⟩
  case round =>
    obtain ⟨p, hp, rfl, rfl, hb⟩ := hrel
    have HB := Lib.hid hb
    clear hb
    by_cases hlt : p < 32
    · go_wp2
      refine (HC.out p _ hlt HB.out).mono ?_
      rintro _ w2 ⟨rfl, hb2⟩
      have HB2 := Lib.hid (HB.out.trans (hb2.mono (show w.heap.size ≤ wr.heap.size from HB.out.size)))
      clear hb2
      cases hq : h p with
      | true =>
        have Hn := Lib.hid (show maskN h (p + 1) = maskN h p + 2 ^ p by show (if _ then _ else _) = _; rw [if_pos hq])
        have Hl := Lib.hid (maskN_lt h p)
        clear hq
        generalize maskN h p = m at *
        have HO := Lib.hid (or_bit hlt Hl.out)
        go_wp2
        exact ⟨⟨p + 1, by omega, by rw [Hn.out, HO.out], by go_num, HB2.out⟩, by simp [intOf]; omega⟩
      | false =>
        have Hn := Lib.hid (show maskN h (p + 1) = maskN h p by show (if _ then _ else _) = _; rw [hq]; rfl)
        clear hq
        generalize maskN h p = m at *
        go_wp2
        exact ⟨⟨p + 1, by omega, by rw [Hn.out], by go_num, HB2.out⟩, by simp [intOf]; omega⟩
    · have hp32 : p = 32 := by omega
      subst hp32
      rw [Hout.out]
      go_wp2
      go_ret
      exact ⟨rfl, HB.out⟩

/-! ### wind_of: function 72 -/
-- GIVEN wigeon/wind.of rounds=0 making=1
theorem modulo_walk (n : Int) (w : World) : Calls Tryd.prog 64 #[.int .i64 n] w fun e w' => e = .returned (.int .i64 (bits .and .i64 n 31)) ∧ w' = w := by
  go_enter Tryd.func64, Tryd.ntmps64
  go_wp2
  go_ret
  exact ⟨rfl, rfl⟩
theorem and31 : ∀ p f : Fin 32, bits .and .i64 ((p.val : Int) - (f.val : Int)) 31 = ((p.val : Int) - (f.val : Int)) % 32 := by decide +kernel
theorem and31_at {p f : Nat} (hp : p < 32) (hf : f < 32) : bits .and .i64 ((p : Int) - (f : Int)) 31 = ((p : Int) - (f : Int)) % 32 := and31 ⟨p, hp⟩ ⟨f, hf⟩
set_option maxHeartbeats 8000000 in
set_option maxRecDepth 100000 in
theorem of1.walk (g : Nat) (f : Nat) (wd : Int) (p : Nat) (w : World) (hp : p < 32) (hf : f < 32) (hc0 : w.cell? ⟨g, 0, none⟩ = some (.int .i64 (f : Int))) (hc1 : w.cell? ⟨g, 1, none⟩ = some (.int .i64 wd)) :
    Calls Tryd.prog 100 #[.int .i64 (p : Int), .pointer (some ⟨g, 0, none⟩)] w fun e w' => e = .returned (.bool (decide (((p : Int) - (f : Int)) % 32 < wd))) ∧ Drawn0 w w' := by
  have ha := and31_at hp hf
  have hw : IntKind.i64.wrap ((p : Int) - (f : Int)) = (p : Int) - (f : Int) := IntWalk.i64_in _ (by omega)
  go_enter Tryd.func100, Tryd.ntmps100
  go_wp2
  go_quiet ((go_at_call 64; exact Calls.quiet_of_same (modulo_walk _ _)))
  go_wp2
  go_ret
  exact ⟨rfl, ⟨_, rfl⟩⟩
def inArc (f : Nat) (wd : Int) (p : Nat) : Bool := decide (((p : Int) - (f : Int)) % 32 < wd)
theorem callFunc100 (args : Array Value) (w : World) : (callFunc 100 args).run Tryd.prog w = .ok (Next.enter 100 args) w := by kernel_rfl
set_option maxHeartbeats 8000000 in
set_option maxRecDepth 100000 in
theorem wind_of.walk (f : Nat) (wd : Int) (w : World) (hf : f < 32) : Calls Tryd.prog 72 #[.agg #[.int .i64 (f : Int), .int .i64 wd]] w fun e w' => e = .returned (.int .u32 ((maskN (inArc f wd) 32 : Nat) : Int)) ∧ Below w.heap.size w w' := by
  have hmf : ∀ (fn : Fn) (first cap : Array Value) (w : World), (Instr.makeFunc fn first cap).run Tryd.prog w = .ok (.func fn first cap) w := fun _ _ _ _ => rfl
  have HC := Lib.hid (fun (g : Nat) (W : World) (h : W.heap[g]? = some (.cells #[.int .i64 (f : Int), .int .i64 wd] 33 (0, 0))) => wind_collect.walk 100 #[.pointer (some ⟨g, 0, none⟩)] (inArc f wd) 0 W (Nat.zero_le _) callFunc100 (fun p w' hp hb => by
    have hg : w'.heap[g]? = some (.cells #[.int .i64 (f : Int), .int .i64 wd] 33 (0, 0)) := (hb.block g (Array.getElem?_eq_some_iff.1 h).1).trans h
    refine (of1.walk g f wd p w' hp hf (by rw [cell_of_row w' g 0 _ _ _ hg]; rfl) (by rw [cell_of_row w' g 1 _ _ _ hg]; rfl)).mono ?_
    rintro _ _ ⟨rfl, ⟨nd, rfl⟩⟩
    exact ⟨rfl, pw_below_drewN (Below.refl _ _) nd⟩))
  generalize hout : maskN (inArc f wd) 32 = out
  rw [hout] at HC
  go_enter Tryd.func72, Tryd.ntmps72
  go_wp2_with (first | (go_at_call 70; go_must (with_reducible refine (HC.out w.heap.size _ (heap_alloc_new _ _)).mono ?_); rintro _ w2 ⟨rfl, hb2⟩; have HB2 := Lib.hid hb2; clear hb2))
  go_ret
  exact ⟨rfl, ((Below.refl _ _).alloc (Nat.le_refl _) _).trans (HB2.out.mono (by simp))⟩
def wind_of.f (f wd : Int) : Option Int := if 0 ≤ f ∧ f < 32 then some ((maskN (inArc f.toNat wd) 32 : Nat) : Int) else none
theorem wind_of.calls (f wd : Int) (r : Int) (w : World) (h : wind_of.f f wd = some r) :
    Calls Tryd.prog 72 #[.agg #[.int .i64 f, .int .i64 wd]] w fun e w' => e = .returned (.int .u32 r) ∧ Below w.heap.size w w' := by
  unfold wind_of.f at h
  by_cases hc : 0 ≤ f ∧ f < 32
  · rw [if_pos hc] at h
    have h := Option.some.inj h
    obtain ⟨n, rfl⟩ := Int.eq_ofNat_of_zero_le hc.1
    have hw := wind_of.walk n wd w (by omega)
    rw [Int.toNat_natCast] at h
    rw [h] at hw
    exact hw
  · rw [if_neg hc] at h
    exact absurd h (by simp)

/-! ### wind_Points: function 25 -/
-- GIVEN wigeon/wind.Points rounds=0 making=1
/-- The points of an arc, and the error. -/
def arcOk (f wd : Int) : Bool := decide ((0 ≤ f ∧ f ≤ 31) ∧ 1 ≤ wd ∧ wd ≤ 32)
def pointsP (f wd : Int) : Int × Int := if arcOk f wd = true then (((maskN (inArc f.toNat wd) 32 : Nat) : Int), 0) else (0, 1)
theorem validateArc_eq (f wd : Int) : wind_ValidateArc.f f wd = some (if arcOk f wd = true then 0 else 1) := by
  unfold wind_ValidateArc.f wind_isPoint.f wind_within.f arcOk
  by_cases h1 : f ≥ 0
  · by_cases h2 : f ≤ 31
    · by_cases h3 : wd ≥ 1
      · by_cases h4 : wd ≤ 32
        · simp [h1, h2, h3, h4]
        · simp [h1, h2, h3, h4]
      · simp [h1, h2, h3]
    · simp [h1, h2]
  · simp [h1]
theorem mask32_lt (h : Nat → Bool) : maskN h 32 < 4294967296 := maskN_lt h 32
set_option maxHeartbeats 8000000 in
set_option maxRecDepth 100000 in
theorem wind_Points.walk (f wd : Int) (w : World) : Calls Tryd.prog 25 #[.agg #[.int .i64 f, .int .i64 wd]] w fun e w' => e = .returned (.tuple #[.int .i64 (pointsP f wd).1, .int .i64 (pointsP f wd).2]) ∧ Below w.heap.size w w' := by
  have HV := Lib.hid (fun w => wind_ValidateArc.calls f wd _ w (validateArc_eq f wd))
  have HI := Lib.hid (show (Tryd.prog.info? 33).map (·.size) = some (#[Value.int .i64 f, .int .i64 wd] : Array Value).size by kernel_rfl)
  by_cases h : arcOk f wd = true
  · have he : pointsP f wd = (((maskN (inArc f.toNat wd) 32 : Nat) : Int), 0) := by unfold pointsP; rw [if_pos h]
    rw [he]
    rw [if_pos h] at HV
    have hr := of_decide_eq_true h
    obtain ⟨n, rfl⟩ := Int.eq_ofNat_of_zero_le hr.1.1
    have hn : n < 32 := by omega
    have HO := Lib.hid (fun w => wind_of.walk n wd w hn)
    have hm := mask32_lt (inArc n wd)
    rw [Int.toNat_natCast]
    clear he h hr
    generalize maskN (inArc n wd) 32 = m at *
    go_enter Tryd.func25, Tryd.ntmps25
    go_wp2_with (first | (go_at_call 27; go_must (with_reducible refine (HV.out _).mono ?_); rintro _ w1 ⟨rfl, hb1⟩; have HB1 := Lib.hid hb1; have HW1 := Lib.hid (show w1.heap[w.heap.size]? = some (.cells #[.int .i64 (n : Int), .int .i64 wd] 33 (0, 0)) from (hb1.block w.heap.size (by simp)).trans (heap_alloc_new _ _)); clear hb1) | (go_at_call 72; go_must (with_reducible refine (HO.out _).mono ?_); rintro _ w2 ⟨rfl, hb2⟩; have HB2 := Lib.hid hb2; clear hb2) | (refine wpList_load_row (o := ⟨some 10, _, _, _, _, _⟩) rfl 33 (.tmp 1) rfl w.heap.size rfl 33 #[.int .i64 (n : Int), .int .i64 wd] (0, 0) _ HW1.out Tryd.underlying33 rfl HI.out ?_))
    go_ret2
    have hb1 : Below w.heap.size w w1 := ((Below.refl _ _).alloc (Nat.le_refl _) _).trans (HB1.out.mono (by simp))
    exact ⟨rfl, hb1.trans (HB2.out.mono (below_size hb1))⟩
  · have he : pointsP f wd = (0, 1) := by unfold pointsP; rw [if_neg h]
    rw [he]
    rw [if_neg h] at HV
    go_enter Tryd.func25, Tryd.ntmps25
    go_wp2_with (first | (go_at_call 27; go_must (with_reducible refine (HV.out _).mono ?_); rintro _ w1 ⟨rfl, hb1⟩; have HB1 := Lib.hid hb1; clear hb1))
    go_ret2
    exact ⟨rfl, ((Below.refl _ _).alloc (Nat.le_refl _) _).trans (HB1.out.mono (by simp))⟩
def wind_Points.f (f wd : Int) : Option (Int × Int) := some (pointsP f wd)
theorem wind_Points.calls (f wd : Int) (r1 r2 : Int) (w : World) (h : wind_Points.f f wd = some (r1, r2)) :
    Calls Tryd.prog 25 #[.agg #[.int .i64 f, .int .i64 wd]] w fun e w' => e = .returned (.tuple #[.int .i64 r1, .int .i64 r2]) ∧ Below w.heap.size w w' := by
  have h := Option.some.inj h
  have hw := wind_Points.walk f wd w
  rw [h] at hw
  exact hw

/-! ### wind_modulo: function 64 -/
def wind_modulo.f (a0 : Int) : Option (Int) := some (Go.bits .and .i64 a0 31)
set_option maxHeartbeats 8000000 in
set_option maxRecDepth 100000 in
theorem wind_modulo.calls (a0 : Int) (r : Int) (w : World) (h : wind_modulo.f a0 = some r) :
    Calls Tryd.prog 64 #[.int .i64 a0] w fun e w' => e = .returned (.int .i64 r) ∧ Drawn0 w w' := by
  have H : (some (Go.bits .and .i64 a0 31)) = some r := h
  clear h
  obtain rfl := Option.some.inj H
  go_enter Tryd.func64, Tryd.ntmps64
  go_wp2
  go_ret
  exact ⟨by first | rfl | (simp; done) | (simp [*]; done), by repeat (first | exact Drawn0.refl _ | apply Drawn0.step)⟩

/-! ### wind_across: function 76 -/
def wind_across.f (a0 : Int) (a1 : Int) : Option (Int) := (wind_modulo.f (wrap64 (a1 - a0))).bind fun t108 => (if t108 > 16 then (some (wrap64 (t108 - 32))) else (some t108))
set_option maxHeartbeats 8000000 in
set_option maxRecDepth 100000 in
theorem wind_across.calls (a0 : Int) (a1 : Int) (r : Int) (w : World) (h : wind_across.f a0 a1 = some r) :
    Calls Tryd.prog 76 #[.int .i64 a0, .int .i64 a1] w fun e w' => e = .returned (.int .i64 r) ∧ Drawn0 w w' := by
  have H : ((wind_modulo.f (wrap64 (a1 - a0))).bind fun t108 => (if t108 > 16 then (some (wrap64 (t108 - 32))) else (some t108))) = some r := h
  clear h
  replace H := Option.bind_eq_some_iff.mp H
  obtain ⟨t108, A30, H⟩ := H
  replace H : (if t108 > 16 then (some (wrap64 (t108 - 32))) else (some t108)) = some r := H
  have A3 := Aside0.mk A30
  clear A30
  by_cases c4 : t108 > 16
  · rw [if_pos c4] at H
    have c4b0 : decide (16 < t108) = true := decide_eq_true c4
    clear c4
    obtain rfl := Option.some.inj H
    go_enter Tryd.func76, Tryd.ntmps76
    go_wp2_with (first | ((with_reducible refine gate_callee (f := 64) rfl ?_); refine goesL_ (some 9) rfl rfl Tryd.func64 (by kernel_rfl) rfl #[.int .i64 (wrap64 (a1 - a0))] rfl (by (try simp only [List.map_toArray, List.map_cons, List.map_nil]); first | done | rfl | (simp only [List.length_drop, List.length_take]; rfl)) ?_; (with_reducible refine (wind_modulo.calls (wrap64 (a1 - a0)) t108 _ A3.out).mono ?_); rintro e w' ⟨rfl, ⟨nd, rfl⟩⟩; refine ⟨_, rfl, ?_⟩))
    go_ret
    exact ⟨by first | rfl | (simp; done) | (simp [*]; done), by repeat (first | exact Drawn0.refl _ | apply Drawn0.step)⟩
  · rw [if_neg c4] at H
    have c4b0 : decide (16 < t108) = false := decide_eq_false c4
    clear c4
    obtain rfl := Option.some.inj H
    go_enter Tryd.func76, Tryd.ntmps76
    go_wp2_with (first | ((with_reducible refine gate_callee (f := 64) rfl ?_); refine goesL_ (some 9) rfl rfl Tryd.func64 (by kernel_rfl) rfl #[.int .i64 (wrap64 (a1 - a0))] rfl (by (try simp only [List.map_toArray, List.map_cons, List.map_nil]); first | done | rfl | (simp only [List.length_drop, List.length_take]; rfl)) ?_; (with_reducible refine (wind_modulo.calls (wrap64 (a1 - a0)) t108 _ A3.out).mono ?_); rintro e w' ⟨rfl, ⟨nd, rfl⟩⟩; refine ⟨_, rfl, ?_⟩))
    go_ret
    exact ⟨by first | rfl | (simp; done) | (simp [*]; done), by repeat (first | exact Drawn0.refl _ | apply Drawn0.step)⟩

/-! ### wind_Across: function 32 -/
def wind_Across.f (a0 : Int) (a1 : Int) : Option (Int × Int) := (wind_isPoint.f a0).bind fun t109 => (if t109 = true then ((wind_isPoint.f a1).bind fun t110 => (if t110 = true then ((wind_across.f a0 a1).bind fun t111 => (some (t111, 0))) else (some (0, 1)))) else (some (0, 1)))
set_option maxHeartbeats 8000000 in
set_option maxRecDepth 100000 in
theorem wind_Across.calls (a0 : Int) (a1 : Int) (r1 : Int) (r2 : Int) (w : World) (h : wind_Across.f a0 a1 = some (r1, r2)) :
    Calls Tryd.prog 32 #[.int .i64 a0, .int .i64 a1] w fun e w' => e = .returned (.tuple #[.int .i64 r1, .int .i64 r2]) ∧ Drawn0 w w' := by
  have H : ((wind_isPoint.f a0).bind fun t109 => (if t109 = true then ((wind_isPoint.f a1).bind fun t110 => (if t110 = true then ((wind_across.f a0 a1).bind fun t111 => (some (t111, 0))) else (some (0, 1)))) else (some (0, 1)))) = some (r1, r2) := h
  clear h
  replace H := Option.bind_eq_some_iff.mp H
  obtain ⟨t109, A30, H⟩ := H
  replace H : (if t109 = true then ((wind_isPoint.f a1).bind fun t110 => (if t110 = true then ((wind_across.f a0 a1).bind fun t111 => (some (t111, 0))) else (some (0, 1)))) else (some (0, 1))) = some (r1, r2) := H
  have A3 := Aside0.mk A30
  clear A30
  by_cases c4 : t109 = true
  · subst c4
    have H1 : ((wind_isPoint.f a1).bind fun t110 => (if t110 = true then ((wind_across.f a0 a1).bind fun t111 => (some (t111, 0))) else (some (0, 1)))) = some (r1, r2) := by rw [if_pos rfl] at H; exact H
    clear H
    have H := H1
    clear H1
    replace H := Option.bind_eq_some_iff.mp H
    obtain ⟨t110, A50, H⟩ := H
    replace H : (if t110 = true then ((wind_across.f a0 a1).bind fun t111 => (some (t111, 0))) else (some (0, 1))) = some (r1, r2) := H
    have A5 := Aside0.mk A50
    clear A50
    by_cases c6 : t110 = true
    · subst c6
      have H1 : ((wind_across.f a0 a1).bind fun t111 => (some (t111, 0))) = some (r1, r2) := by rw [if_pos rfl] at H; exact H
      clear H
      have H := H1
      clear H1
      replace H := Option.bind_eq_some_iff.mp H
      obtain ⟨t111, A70, H⟩ := H
      replace H : (some (t111, 0)) = some (r1, r2) := H
      have A7 := Aside0.mk A70
      clear A70
      simp only [Option.some.injEq, Prod.mk.injEq] at H
      obtain ⟨rfl, rfl⟩ := H
      go_enter Tryd.func32, Tryd.ntmps32
      go_wp2_with (first | ((with_reducible refine gate_callee (f := 57) rfl ?_); refine goesL_ (some 7) rfl rfl Tryd.func57 (by kernel_rfl) rfl #[.int .i64 a0] rfl (by (try simp only [List.map_toArray, List.map_cons, List.map_nil]); first | done | rfl | (simp only [List.length_drop, List.length_take]; rfl)) ?_; (with_reducible refine (wind_isPoint.calls a0 true _ A3.out).mono ?_); rintro e w' ⟨rfl, ⟨nd, rfl⟩⟩; refine ⟨_, rfl, ?_⟩) | (go_at_call 57; (with_reducible refine (wind_isPoint.calls a1 true _ A5.out).mono ?_); rintro e w' ⟨rfl, ⟨nd, rfl⟩⟩) | ((with_reducible refine gate_callee (f := 76) rfl ?_); refine goesL_ (some 16) rfl rfl Tryd.func76 (by kernel_rfl) rfl #[.int .i64 a0, .int .i64 a1] rfl (by (try simp only [List.map_toArray, List.map_cons, List.map_nil]); first | done | rfl | (simp only [List.length_drop, List.length_take]; rfl)) ?_; (with_reducible refine (wind_across.calls a0 a1 t111 _ A7.out).mono ?_); rintro e w' ⟨rfl, ⟨nd, rfl⟩⟩; refine ⟨_, rfl, ?_⟩))
      go_ret2
      exact ⟨by first | rfl | (simp; done) | (simp [*]; done), by repeat (first | exact Drawn0.refl _ | apply Drawn0.step)⟩
    · replace c6 := Bool.eq_false_iff.mpr c6
      subst c6
      have H1 : (some (0, 1)) = some (r1, r2) := by rw [if_neg (show ¬ (false = true) by decide)] at H; exact H
      clear H
      have H := H1
      clear H1
      simp only [Option.some.injEq, Prod.mk.injEq] at H
      obtain ⟨rfl, rfl⟩ := H
      go_enter Tryd.func32, Tryd.ntmps32
      go_wp2_with (first | ((with_reducible refine gate_callee (f := 57) rfl ?_); refine goesL_ (some 7) rfl rfl Tryd.func57 (by kernel_rfl) rfl #[.int .i64 a0] rfl (by (try simp only [List.map_toArray, List.map_cons, List.map_nil]); first | done | rfl | (simp only [List.length_drop, List.length_take]; rfl)) ?_; (with_reducible refine (wind_isPoint.calls a0 true _ A3.out).mono ?_); rintro e w' ⟨rfl, ⟨nd, rfl⟩⟩; refine ⟨_, rfl, ?_⟩) | (go_at_call 57; (with_reducible refine (wind_isPoint.calls a1 false _ A5.out).mono ?_); rintro e w' ⟨rfl, ⟨nd, rfl⟩⟩))
      go_ret2
      exact ⟨by first | rfl | (simp; done) | (simp [*]; done), by repeat (first | exact Drawn0.refl _ | apply Drawn0.step)⟩
  · replace c4 := Bool.eq_false_iff.mpr c4
    subst c4
    have H1 : (some (0, 1)) = some (r1, r2) := by rw [if_neg (show ¬ (false = true) by decide)] at H; exact H
    clear H
    have H := H1
    clear H1
    simp only [Option.some.injEq, Prod.mk.injEq] at H
    obtain ⟨rfl, rfl⟩ := H
    go_enter Tryd.func32, Tryd.ntmps32
    go_wp2_with (first | ((with_reducible refine gate_callee (f := 57) rfl ?_); refine goesL_ (some 7) rfl rfl Tryd.func57 (by kernel_rfl) rfl #[.int .i64 a0] rfl (by (try simp only [List.map_toArray, List.map_cons, List.map_nil]); first | done | rfl | (simp only [List.length_drop, List.length_take]; rfl)) ?_; (with_reducible refine (wind_isPoint.calls a0 false _ A3.out).mono ?_); rintro e w' ⟨rfl, ⟨nd, rfl⟩⟩; refine ⟨_, rfl, ?_⟩))
    go_ret2
    exact ⟨by first | rfl | (simp; done) | (simp [*]; done), by repeat (first | exact Drawn0.refl _ | apply Drawn0.step)⟩

/-! ### wigeonlaw03_known: function 16 -/
-- GIVEN wigeon/wigeonlaw03.known rounds=0 making=1
theorem known_points : pointsP 30 4 = (3221225475, 0) := by decide +kernel
theorem known_name : nameP 21 = (⟨#[83, 87, 98, 87]⟩, 0) := by decide +kernel
theorem known_across : wind_Across.f 30 2 = some (4, 0) := by decide +kernel
set_option maxHeartbeats 8000000 in
set_option maxRecDepth 100000 in
theorem wind_known.walk (w : World) (h : SpaceW w) : Calls Tryd.prog 16 #[] w fun e w' => e = .returned (.bool true) ∧ Below w.heap.size w w' := by
  have HS := Lib.hid h
  clear h
  have HA := Lib.hid (fun w => wind_Across.calls 30 2 4 0 w known_across)
  have HN := Lib.hid (fun w (h : SpaceW w) => show Calls Tryd.prog 17 #[.int .i64 21] w fun e w' => e = .returned (.tuple #[.string ⟨#[83, 87, 98, 87]⟩, .int .i64 0]) ∧ Below w.heap.size w w' by have h2 := wind_Name.walk 21 w h; rwa [known_name] at h2)
  have HP := Lib.hid (fun w => show Calls Tryd.prog 25 #[.agg #[.int .i64 30, .int .i64 4]] w fun e w' => e = .returned (.tuple #[.int .i64 3221225475, .int .i64 0]) ∧ Below w.heap.size w w' by have h2 := wind_Points.walk 30 4 w; rwa [known_points] at h2)
  go_enter Tryd.func16, Tryd.ntmps16
  go_wp2_with (first | (go_at_call 32; go_must (with_reducible refine (HA.out _).mono ?_); rintro _ _ ⟨rfl, ⟨nd, rfl⟩⟩) | (go_at_call 17; go_must (with_reducible refine (HN.out _ (HS.out.below (pw_below_drewN (Below.refl w.heap.size w) nd))).mono ?_); rintro _ w2 ⟨rfl, hb2⟩; have HB2 := Lib.hid hb2; clear hb2) | (go_at_call 25; go_must (with_reducible refine (HP.out _).mono ?_); rintro _ w3 ⟨rfl, hb3⟩; have HB3 := Lib.hid hb3; clear hb3))
  go_ret
  have h1 := pw_below_drewN (Below.refl w.heap.size w) nd
  have h2 := h1.trans (HB2.out.mono (below_size h1))
  exact ⟨rfl, h2.trans (HB3.out.mono (below_size h2))⟩
def wigeonlaw03_known.f : Option Bool := some true
theorem wigeonlaw03_known.calls (r : Bool) (w : World) (h : wigeonlaw03_known.f = some r) (hS : SpaceW w := by first | exact HS.out | exact HS.out.below HB.out | exact HS.out.below (by repeat (first | (with_reducible first | exact HB.out | apply below_alloc | apply pw_below_drewN | apply below_drew1) | exact HB.out))) :
    Calls Tryd.prog 16 #[] w fun e w' => e = .returned (.bool r) ∧ Below w.heap.size w w' := by
  obtain rfl := Option.some.inj h
  exact wind_known.walk w hS

/-! ### wigeonref03_isPoint: function 59 -/
def wigeonref03_isPoint.f (a0 : Int) : Option (Bool) := if a0 ≥ 0 then (some (decide (a0 < 32))) else (some false)
set_option maxHeartbeats 8000000 in
set_option maxRecDepth 100000 in
theorem wigeonref03_isPoint.calls (a0 : Int) (r : Bool) (w : World) (h : wigeonref03_isPoint.f a0 = some r) :
    Calls Tryd.prog 59 #[.int .i64 a0] w fun e w' => e = .returned (.bool r) ∧ Drawn0 w w' := by
  have H : (if a0 ≥ 0 then (some (decide (a0 < 32))) else (some false)) = some r := h
  clear h
  by_cases c2 : a0 ≥ 0
  · rw [if_pos c2] at H
    have c2b0 : decide (0 ≤ a0) = true := decide_eq_true c2
    clear c2
    obtain rfl := Option.some.inj H
    go_enter Tryd.func59, Tryd.ntmps59
    go_wp2
    go_ret
    exact ⟨by first | rfl | (simp; done) | (simp [*]; done), by repeat (first | exact Drawn0.refl _ | apply Drawn0.step)⟩
  · rw [if_neg c2] at H
    have c2b0 : decide (0 ≤ a0) = false := decide_eq_false c2
    clear c2
    obtain rfl := Option.some.inj H
    go_enter Tryd.func59, Tryd.ntmps59
    go_wp2
    go_ret
    exact ⟨by first | rfl | (simp; done) | (simp [*]; done), by repeat (first | exact Drawn0.refl _ | apply Drawn0.step)⟩

/-! ### wigeonref03_around: function 67 -/
def wigeonref03_around.f (a0 : Int) : Option (Int) := some (Go.bits .and .i64 a0 31)
set_option maxHeartbeats 8000000 in
set_option maxRecDepth 100000 in
theorem wigeonref03_around.calls (a0 : Int) (r : Int) (w : World) (h : wigeonref03_around.f a0 = some r) :
    Calls Tryd.prog 67 #[.int .i64 a0] w fun e w' => e = .returned (.int .i64 r) ∧ Drawn0 w w' := by
  have H : (some (Go.bits .and .i64 a0 31)) = some r := h
  clear h
  obtain rfl := Option.some.inj H
  go_enter Tryd.func67, Tryd.ntmps67
  go_wp2
  go_ret
  exact ⟨by first | rfl | (simp; done) | (simp [*]; done), by repeat (first | exact Drawn0.refl _ | apply Drawn0.step)⟩

/-! ### wigeonref03_across: function 77 -/
def wigeonref03_across.f (a0 : Int) (a1 : Int) : Option (Int) := (wigeonref03_around.f (wrap64 (a1 - a0))).bind fun t112 => (if t112 > 16 then (some (wrap64 (t112 - 32))) else (some t112))
set_option maxHeartbeats 8000000 in
set_option maxRecDepth 100000 in
theorem wigeonref03_across.calls (a0 : Int) (a1 : Int) (r : Int) (w : World) (h : wigeonref03_across.f a0 a1 = some r) :
    Calls Tryd.prog 77 #[.int .i64 a0, .int .i64 a1] w fun e w' => e = .returned (.int .i64 r) ∧ Drawn0 w w' := by
  have H : ((wigeonref03_around.f (wrap64 (a1 - a0))).bind fun t112 => (if t112 > 16 then (some (wrap64 (t112 - 32))) else (some t112))) = some r := h
  clear h
  replace H := Option.bind_eq_some_iff.mp H
  obtain ⟨t112, A30, H⟩ := H
  replace H : (if t112 > 16 then (some (wrap64 (t112 - 32))) else (some t112)) = some r := H
  have A3 := Aside0.mk A30
  clear A30
  by_cases c4 : t112 > 16
  · rw [if_pos c4] at H
    have c4b0 : decide (16 < t112) = true := decide_eq_true c4
    clear c4
    obtain rfl := Option.some.inj H
    go_enter Tryd.func77, Tryd.ntmps77
    go_wp2_with (first | ((with_reducible refine gate_callee (f := 67) rfl ?_); refine goesL_ (some 9) rfl rfl Tryd.func67 (by kernel_rfl) rfl #[.int .i64 (wrap64 (a1 - a0))] rfl (by (try simp only [List.map_toArray, List.map_cons, List.map_nil]); first | done | rfl | (simp only [List.length_drop, List.length_take]; rfl)) ?_; (with_reducible refine (wigeonref03_around.calls (wrap64 (a1 - a0)) t112 _ A3.out).mono ?_); rintro e w' ⟨rfl, ⟨nd, rfl⟩⟩; refine ⟨_, rfl, ?_⟩))
    go_ret
    exact ⟨by first | rfl | (simp; done) | (simp [*]; done), by repeat (first | exact Drawn0.refl _ | apply Drawn0.step)⟩
  · rw [if_neg c4] at H
    have c4b0 : decide (16 < t112) = false := decide_eq_false c4
    clear c4
    obtain rfl := Option.some.inj H
    go_enter Tryd.func77, Tryd.ntmps77
    go_wp2_with (first | ((with_reducible refine gate_callee (f := 67) rfl ?_); refine goesL_ (some 9) rfl rfl Tryd.func67 (by kernel_rfl) rfl #[.int .i64 (wrap64 (a1 - a0))] rfl (by (try simp only [List.map_toArray, List.map_cons, List.map_nil]); first | done | rfl | (simp only [List.length_drop, List.length_take]; rfl)) ?_; (with_reducible refine (wigeonref03_around.calls (wrap64 (a1 - a0)) t112 _ A3.out).mono ?_); rintro e w' ⟨rfl, ⟨nd, rfl⟩⟩; refine ⟨_, rfl, ?_⟩))
    go_ret
    exact ⟨by first | rfl | (simp; done) | (simp [*]; done), by repeat (first | exact Drawn0.refl _ | apply Drawn0.step)⟩

/-! ### wigeonref03_Across: function 33 -/
def wigeonref03_Across.f (a0 : Int) (a1 : Int) : Option (Int × Int) := (wigeonref03_isPoint.f a0).bind fun t113 => (if t113 = true then ((wigeonref03_isPoint.f a1).bind fun t114 => (if t114 = true then ((wigeonref03_across.f a0 a1).bind fun t115 => (some (t115, 0))) else (some (0, 1)))) else (some (0, 1)))
set_option maxHeartbeats 8000000 in
set_option maxRecDepth 100000 in
theorem wigeonref03_Across.calls (a0 : Int) (a1 : Int) (r1 : Int) (r2 : Int) (w : World) (h : wigeonref03_Across.f a0 a1 = some (r1, r2)) :
    Calls Tryd.prog 33 #[.int .i64 a0, .int .i64 a1] w fun e w' => e = .returned (.tuple #[.int .i64 r1, .int .i64 r2]) ∧ Drawn0 w w' := by
  have H : ((wigeonref03_isPoint.f a0).bind fun t113 => (if t113 = true then ((wigeonref03_isPoint.f a1).bind fun t114 => (if t114 = true then ((wigeonref03_across.f a0 a1).bind fun t115 => (some (t115, 0))) else (some (0, 1)))) else (some (0, 1)))) = some (r1, r2) := h
  clear h
  replace H := Option.bind_eq_some_iff.mp H
  obtain ⟨t113, A30, H⟩ := H
  replace H : (if t113 = true then ((wigeonref03_isPoint.f a1).bind fun t114 => (if t114 = true then ((wigeonref03_across.f a0 a1).bind fun t115 => (some (t115, 0))) else (some (0, 1)))) else (some (0, 1))) = some (r1, r2) := H
  have A3 := Aside0.mk A30
  clear A30
  by_cases c4 : t113 = true
  · subst c4
    have H1 : ((wigeonref03_isPoint.f a1).bind fun t114 => (if t114 = true then ((wigeonref03_across.f a0 a1).bind fun t115 => (some (t115, 0))) else (some (0, 1)))) = some (r1, r2) := by rw [if_pos rfl] at H; exact H
    clear H
    have H := H1
    clear H1
    replace H := Option.bind_eq_some_iff.mp H
    obtain ⟨t114, A50, H⟩ := H
    replace H : (if t114 = true then ((wigeonref03_across.f a0 a1).bind fun t115 => (some (t115, 0))) else (some (0, 1))) = some (r1, r2) := H
    have A5 := Aside0.mk A50
    clear A50
    by_cases c6 : t114 = true
    · subst c6
      have H1 : ((wigeonref03_across.f a0 a1).bind fun t115 => (some (t115, 0))) = some (r1, r2) := by rw [if_pos rfl] at H; exact H
      clear H
      have H := H1
      clear H1
      replace H := Option.bind_eq_some_iff.mp H
      obtain ⟨t115, A70, H⟩ := H
      replace H : (some (t115, 0)) = some (r1, r2) := H
      have A7 := Aside0.mk A70
      clear A70
      simp only [Option.some.injEq, Prod.mk.injEq] at H
      obtain ⟨rfl, rfl⟩ := H
      go_enter Tryd.func33, Tryd.ntmps33
      go_wp2_with (first | ((with_reducible refine gate_callee (f := 59) rfl ?_); refine goesL_ (some 7) rfl rfl Tryd.func59 (by kernel_rfl) rfl #[.int .i64 a0] rfl (by (try simp only [List.map_toArray, List.map_cons, List.map_nil]); first | done | rfl | (simp only [List.length_drop, List.length_take]; rfl)) ?_; (with_reducible refine (wigeonref03_isPoint.calls a0 true _ A3.out).mono ?_); rintro e w' ⟨rfl, ⟨nd, rfl⟩⟩; refine ⟨_, rfl, ?_⟩) | (go_at_call 59; (with_reducible refine (wigeonref03_isPoint.calls a1 true _ A5.out).mono ?_); rintro e w' ⟨rfl, ⟨nd, rfl⟩⟩) | ((with_reducible refine gate_callee (f := 77) rfl ?_); refine goesL_ (some 16) rfl rfl Tryd.func77 (by kernel_rfl) rfl #[.int .i64 a0, .int .i64 a1] rfl (by (try simp only [List.map_toArray, List.map_cons, List.map_nil]); first | done | rfl | (simp only [List.length_drop, List.length_take]; rfl)) ?_; (with_reducible refine (wigeonref03_across.calls a0 a1 t115 _ A7.out).mono ?_); rintro e w' ⟨rfl, ⟨nd, rfl⟩⟩; refine ⟨_, rfl, ?_⟩))
      go_ret2
      exact ⟨by first | rfl | (simp; done) | (simp [*]; done), by repeat (first | exact Drawn0.refl _ | apply Drawn0.step)⟩
    · replace c6 := Bool.eq_false_iff.mpr c6
      subst c6
      have H1 : (some (0, 1)) = some (r1, r2) := by rw [if_neg (show ¬ (false = true) by decide)] at H; exact H
      clear H
      have H := H1
      clear H1
      simp only [Option.some.injEq, Prod.mk.injEq] at H
      obtain ⟨rfl, rfl⟩ := H
      go_enter Tryd.func33, Tryd.ntmps33
      go_wp2_with (first | ((with_reducible refine gate_callee (f := 59) rfl ?_); refine goesL_ (some 7) rfl rfl Tryd.func59 (by kernel_rfl) rfl #[.int .i64 a0] rfl (by (try simp only [List.map_toArray, List.map_cons, List.map_nil]); first | done | rfl | (simp only [List.length_drop, List.length_take]; rfl)) ?_; (with_reducible refine (wigeonref03_isPoint.calls a0 true _ A3.out).mono ?_); rintro e w' ⟨rfl, ⟨nd, rfl⟩⟩; refine ⟨_, rfl, ?_⟩) | (go_at_call 59; (with_reducible refine (wigeonref03_isPoint.calls a1 false _ A5.out).mono ?_); rintro e w' ⟨rfl, ⟨nd, rfl⟩⟩))
      go_ret2
      exact ⟨by first | rfl | (simp; done) | (simp [*]; done), by repeat (first | exact Drawn0.refl _ | apply Drawn0.step)⟩
  · replace c4 := Bool.eq_false_iff.mpr c4
    subst c4
    have H1 : (some (0, 1)) = some (r1, r2) := by rw [if_neg (show ¬ (false = true) by decide)] at H; exact H
    clear H
    have H := H1
    clear H1
    simp only [Option.some.injEq, Prod.mk.injEq] at H
    obtain ⟨rfl, rfl⟩ := H
    go_enter Tryd.func33, Tryd.ntmps33
    go_wp2_with (first | ((with_reducible refine gate_callee (f := 59) rfl ?_); refine goesL_ (some 7) rfl rfl Tryd.func59 (by kernel_rfl) rfl #[.int .i64 a0] rfl (by (try simp only [List.map_toArray, List.map_cons, List.map_nil]); first | done | rfl | (simp only [List.length_drop, List.length_take]; rfl)) ?_; (with_reducible refine (wigeonref03_isPoint.calls a0 false _ A3.out).mono ?_); rintro e w' ⟨rfl, ⟨nd, rfl⟩⟩; refine ⟨_, rfl, ?_⟩))
    go_ret2
    exact ⟨by first | rfl | (simp; done) | (simp [*]; done), by repeat (first | exact Drawn0.refl _ | apply Drawn0.step)⟩

/-! ### slices_IndexFunc_int_int: function 101 -/
-- GIVEN slices.IndexFunc[[]int,int] rounds=0 making=1
/-! The first of some numbers for which something holds. -/
def idxF (h : Int → Bool) (l : List Int) : Nat → Nat → Int
  | _, 0 => -1
  | i, d + 1 => if h (rd l (i : Int)) = true then (i : Int) else idxF h l (i + 1) d
set_option maxHeartbeats 8000000 in
set_option maxRecDepth 100000 in
theorem indexFunc_int.walk (F : FuncId) (cap : Array Value) (h : Int → Bool) (A : Option Addr) (c : Nat) (l : List Int) (w : World) (hr : Kd.C (Kd.int .i64) w A l.length l) (hF : ∀ (args : Array Value) (w : World), (callFunc F args).run Tryd.prog w = .ok (Next.enter F args) w)
    (hc : ∀ (p : Int) (w' : World), Below w.heap.size w w' → Calls Tryd.prog F (#[.int .i64 p] ++ cap) w' fun e w'' => e = .returned (.bool (h p)) ∧ Below w'.heap.size w' w'') :
    Calls Tryd.prog 101 #[.slice A l.length c, .func (.func F) #[] cap] w fun e w' => e = .returned (.int .i64 (idxF h l 0 l.length)) ∧ Below w.heap.size w w' := by
  have hmax := Kd.C_max hr
  have HR := Lib.hid (fun (w' : World) (hb : Below w.heap.size w w') (i : Nat) (hi : i < l.length) => Kd.at_int (Kd.C_below hr hb) (i : Int) (by omega) (by omega))
  have HC := Lib.hid hc
  clear hc hr
  generalize hout : idxF h l 0 l.length = out
  have Hout := Lib.hid hout
  clear hout
  go_enter Tryd.func101, Tryd.ntmps101
  go_wp2
  go_loopw [8] (fun v w' => ∃ i : Nat, i ≤ l.length ∧ v = .int .i64 (i : Int) ∧ idxF h l i (l.length - i) = out ∧ Below w.heap.size w w') (fun v _ => l.length - (intOf v).toNat)
  case atStart => exact ⟨0, Nat.zero_le _, rfl, Hout.out, Below.refl _ _⟩
  case round =>
    obtain ⟨i, hi, rfl, he, hb⟩ := hrel
    have HB := Lib.hid hb
    have He := Lib.hid he
    clear hb he
    by_cases hlt : i < l.length
    · obtain ⟨ad, hA, hcell⟩ := HR.out wr HB.out i hlt
      subst hA
      rw [Int.toNat_natCast] at hcell
      have HE := Lib.hid (show idxF h l i (l.length - i) = if h (rd l (i : Int)) = true then (i : Int) else idxF h l (i + 1) (l.length - (i + 1)) by rw [show l.length - i = (l.length - (i + 1)) + 1 by omega]; rfl)
      generalize rd l (i : Int) = x at *
      go_wp2
      refine (HC.out x _ HB.out).mono ?_
      rintro _ w2 ⟨rfl, hb2⟩
      have HB2 := Lib.hid (HB.out.trans (hb2.mono (show w.heap.size ≤ wr.heap.size from HB.out.size)))
      clear hb2
      cases hq : h x with
      | true =>
        have ho : out = (i : Int) := by rw [← He.out, HE.out, if_pos hq]
        go_wp2
        go_ret
        exact ⟨by rw [ho]; rfl, HB2.out⟩
      | false =>
        have Hn := Lib.hid (show idxF h l (i + 1) (l.length - (i + 1)) = out by rw [← He.out, HE.out, hq]; rfl)
        go_wp2
        exact ⟨⟨i + 1, by omega, by go_num, Hn.out, HB2.out⟩, by simp [intOf]; omega⟩
    · have hie : i = l.length := by omega
      have ho : out = -1 := by rw [← He.out, hie, Nat.sub_self]; rfl
      go_wp2
      go_ret
      exact ⟨by rw [ho]; rfl, HB.out⟩

/-! ### slices_ContainsFunc_int_int: function 78 -/
-- GIVEN slices.ContainsFunc[[]int,int] rounds=0 making=1
theorem callFunc79 (args : Array Value) (w : World) : (callFunc 79 args).run Tryd.prog w = .ok (Next.enter 79 args) w := by kernel_rfl
def notPoint (p : Int) : Bool := !decide (0 ≤ p ∧ p ≤ 31)
theorem isPoint_eq2 (p : Int) : wind_isPoint.f p = some (decide (0 ≤ p ∧ p ≤ 31)) := by
  unfold wind_isPoint.f wind_within.f
  by_cases h : p ≥ 0
  · rw [if_pos h]
    simp [h]
  · rw [if_neg h, decide_eq_false (by omega)]
    rfl
set_option maxHeartbeats 8000000 in
set_option maxRecDepth 100000 in
theorem veer1.walk (p : Int) (w : World) : Calls Tryd.prog 79 #[.int .i64 p] w fun e w' => e = .returned (.bool (notPoint p)) ∧ Below w.heap.size w w' := by
  have HP := Lib.hid (fun w => wind_isPoint.calls p _ w (isPoint_eq2 p))
  unfold notPoint
  generalize decide (0 ≤ p ∧ p ≤ 31) = b at *
  go_enter Tryd.func79, Tryd.ntmps79
  go_wp2_with (first | (go_at_call 57; go_must (with_reducible refine (HP.out _).mono ?_); rintro _ _ ⟨rfl, ⟨nd, rfl⟩⟩))
  go_ret
  exact ⟨rfl, pw_below_drewN (Below.refl _ _) nd⟩
set_option maxHeartbeats 8000000 in
set_option maxRecDepth 100000 in
theorem containsFunc_int.walk (F : FuncId) (cap : Array Value) (h : Int → Bool) (A : Option Addr) (c : Nat) (l : List Int) (w : World) (hr : Kd.C (Kd.int .i64) w A l.length l) (hF : ∀ (args : Array Value) (w : World), (callFunc F args).run Tryd.prog w = .ok (Next.enter F args) w)
    (hc : ∀ (p : Int) (w' : World), Below w.heap.size w w' → Calls Tryd.prog F (#[.int .i64 p] ++ cap) w' fun e w'' => e = .returned (.bool (h p)) ∧ Below w'.heap.size w' w'') :
    Calls Tryd.prog 78 #[.slice A l.length c, .func (.func F) #[] cap] w fun e w' => e = .returned (.bool (decide (0 ≤ idxF h l 0 l.length))) ∧ Below w.heap.size w w' := by
  have HI := Lib.hid (indexFunc_int.walk F cap h A c l w hr hF hc)
  clear hr hF hc
  generalize idxF h l 0 l.length = out at *
  go_enter Tryd.func78, Tryd.ntmps78
  go_wp2_with (first | (go_at_call 101; go_must (with_reducible refine HI.out.mono ?_); rintro _ w2 ⟨rfl, hb2⟩; have HB2 := Lib.hid hb2; clear hb2))
  go_ret
  exact ⟨rfl, HB2.out⟩

/-! ### wind_Veer: function 34 -/
-- GIVEN wigeon/wind.Veer rounds=0 making=1
def acrossQ (a b : Int) : Int := if (b - a) % 32 > 16 then (b - a) % 32 - 32 else (b - a) % 32
theorem across_all : ∀ a b : Fin 32, wind_across.f (a.val : Int) (b.val : Int) = some (acrossQ (a.val : Int) (b.val : Int)) := by decide +kernel
theorem across_eq {a b : Int} (ha : 0 ≤ a ∧ a ≤ 31) (hb : 0 ≤ b ∧ b ≤ 31) : wind_across.f a b = some (acrossQ a b) := by
  obtain ⟨m, rfl⟩ := Int.eq_ofNat_of_zero_le ha.1
  obtain ⟨n, rfl⟩ := Int.eq_ofNat_of_zero_le hb.1
  exact across_all ⟨m, by omega⟩ ⟨n, by omega⟩
theorem acrossQ_range (a b : Int) : -32 ≤ acrossQ a b ∧ acrossQ a b ≤ 32 := by
  unfold acrossQ
  split <;> omega
def veerS (l : List Int) : Nat → Int
  | 0 => 0
  | i + 1 => veerS l i + acrossQ (rd l (i : Int)) (rd l ((i + 1 : Nat) : Int))
theorem veerS_range (l : List Int) (n : Nat) : -(32 * n : Int) ≤ veerS l n ∧ veerS l n ≤ 32 * n := by
  induction n with
  | zero => exact ⟨by show -(32 * ((0 : Nat) : Int)) ≤ 0; omega, by show (0 : Int) ≤ 32 * ((0 : Nat) : Int); omega⟩
  | succ n ih =>
    have h := acrossQ_range (rd l (n : Int)) (rd l ((n + 1 : Nat) : Int))
    unfold veerS
    omega
theorem idxF_none {h : Int → Bool} {l : List Int} (d : Nat) : ∀ i, idxF h l i d < 0 → ∀ j, i ≤ j → j < i + d → h (rd l (j : Int)) = false := by
  induction d with
  | zero => intro i _ j h1 h2; omega
  | succ d ih =>
    intro i hi j h1 h2
    unfold idxF at hi
    by_cases hq : h (rd l (i : Int)) = true
    · rw [if_pos hq] at hi; omega
    · rw [if_neg hq] at hi
      by_cases e : j = i
      · rw [e]; simpa using hq
      · exact ih (i + 1) hi j (by omega) (by omega)
def veerP (l : List Int) : Int × Int := if l.length > 60 then (0, 3) else if 0 ≤ idxF notPoint l 0 l.length then (0, 1) else (veerS l (l.length - 1), 0)
set_option maxHeartbeats 8000000 in
set_option maxRecDepth 100000 in
theorem wind_Veer.walk (A : Option Addr) (c : Nat) (l : List Int) (w : World) (hr : Kd.C (Kd.int .i64) w A l.length l) : Calls Tryd.prog 34 #[.slice A l.length c] w fun e w' => e = .returned (.tuple #[.int .i64 (veerP l).1, .int .i64 (veerP l).2]) ∧ Below w.heap.size w w' := by
  have hmax := Kd.C_max hr
  by_cases h60 : l.length > 60
  · have he : veerP l = (0, 3) := by unfold veerP; rw [if_pos h60]
    rw [he]
    have q1 : decide (60 < (l.length : Int)) = true := by simp; omega
    go_enter Tryd.func34, Tryd.ntmps34
    go_wp2
    go_ret2
    exact ⟨rfl, Below.refl _ _⟩
  · have q1 : decide (60 < (l.length : Int)) = false := by simp; omega
    have HCt := Lib.hid (containsFunc_int.walk 79 #[] notPoint A c l w hr callFunc79 (fun p w' _ => veer1.walk p w'))
    by_cases hi : 0 ≤ idxF notPoint l 0 l.length
    · have he : veerP l = (0, 1) := by unfold veerP; rw [if_neg h60, if_pos hi]
      rw [he]
      rw [decide_eq_true hi] at HCt
      go_enter Tryd.func34, Tryd.ntmps34
      go_wp2_with (first | (go_at_call 78; go_must (with_reducible refine HCt.out.mono ?_); rintro _ w2 ⟨rfl, hb2⟩; have HB2 := Lib.hid hb2; clear hb2))
      go_ret2
      exact ⟨rfl, HB2.out⟩
    · have he : veerP l = (veerS l (l.length - 1), 0) := by unfold veerP; rw [if_neg h60, if_neg hi]
      rw [he]
      rw [decide_eq_false hi] at HCt
      have HPt := Lib.hid (fun (j : Nat) (hj : j < l.length) => show 0 ≤ rd l (j : Int) ∧ rd l (j : Int) ≤ 31 by
        have h1 := idxF_none (h := notPoint) (l := l) l.length 0 (by omega) j (by omega) (by omega)
        unfold notPoint at h1
        simpa using h1)
      have HR := Lib.hid (fun (w' : World) (hb : Below w.heap.size w w') (i : Nat) (hi : i < l.length) => Kd.at_int (Kd.C_below hr hb) (i : Int) (by omega) (by omega))
      generalize hout : veerS l (l.length - 1) = out
      have Hout := Lib.hid hout
      clear hout hr he hi
      go_enter Tryd.func34, Tryd.ntmps34
      go_wp2_with (first | (go_at_call 78; go_must (with_reducible refine HCt.out.mono ?_); rintro _ w2 ⟨rfl, hb2⟩; have HB2 := Lib.hid hb2; clear hb2))
      go_loopw [4, 5] (fun v v2 w' => ∃ i j : Nat, i + 1 = j ∧ (i = 0 ∨ i < l.length) ∧ v = .int .i64 (veerS l i) ∧ v2 = .int .i64 (j : Int) ∧ Below w.heap.size w w') (fun _ v2 _ => l.length - (intOf v2).toNat)
      case atStart => exact ⟨0, 1, rfl, .inl rfl, rfl, rfl, HB2.out⟩
      case round =>
        obtain ⟨i, j, hi1, hi2, rfl, rfl, hb⟩ := hrel
        have HB := Lib.hid hb
        clear hb
        by_cases hlt : j < l.length
        · obtain ⟨ad, hA, hcell⟩ := HR.out wr HB.out i (by omega)
          obtain ⟨ad2, hA2, hcell2⟩ := HR.out wr HB.out j hlt
          subst hA
          obtain rfl := Option.some.inj hA2
          rw [Int.toNat_natCast] at hcell hcell2
          have HX := Lib.hid (fun w => show Calls Tryd.prog 76 #[.int .i64 (rd l (i : Int)), .int .i64 (rd l (j : Int))] w fun e w' => e = .returned (.int .i64 (acrossQ (rd l (i : Int)) (rd l (j : Int)))) ∧ ∃ m, w' = w.drewN m from (wind_across.calls (rd l (i : Int)) (rd l (j : Int)) _ w (across_eq (HPt.out i (by omega)) (HPt.out j hlt))).mono (by rintro _ _ ⟨rfl, ⟨nd, rfl⟩⟩; exact ⟨rfl, nd, rfl⟩))
          have hrs := veerS_range l i
          have hra := acrossQ_range (rd l (i : Int)) (rd l (j : Int))
          have Hn := Lib.hid (show veerS l j = veerS l i + acrossQ (rd l (i : Int)) (rd l (j : Int)) by rw [← hi1]; rfl)
          have Hm := Lib.hid (show IntKind.i64.wrap (veerS l i + acrossQ (rd l (i : Int)) (rd l (j : Int))) = veerS l i + acrossQ (rd l (i : Int)) (rd l (j : Int)) from IntWalk.i64_in _ (by omega))
          clear hrs hra
          generalize rd l (i : Int) = x at *
          generalize rd l (j : Int) = y at *
          generalize veerS l i = s at *
          generalize acrossQ x y = d at *
          have hil : i < l.length := by omega
          have hw1 : IntKind.i64.wrap ((j : Int) - 1) = (i : Int) := by rw [IntWalk.i64_in _ (by omega)]; omega
          have hw2 := Hm.out
          go_wp2
          go_quiet ((go_at_call 76; exact Calls.quiet_of (HX.out _)))
          go_wp2
          exact ⟨⟨j, j + 1, rfl, .inr hlt, by rw [Hn.out], by go_num, pw_below_drewN HB.out nq⟩, by simp [intOf]; omega⟩
        · have ho : veerS l i = out := by rw [← Hout.out]; congr 1; omega
          go_wp2
          go_ret2
          exact ⟨by rw [ho]; rfl, HB.out⟩
def wind_Veer.f (l : List Int) : Option (Int × Int) := some (veerP l)
theorem wind_Veer.calls (A0 : Option Addr) (c0 : Nat) (l0 : List Int) (r1 : Int) (r2 : Int) (w : World) (hr0 : Kd.C (Kd.int .i64) w A0 l0.length l0) (hc0 : l0.length ≤ c0) (h : wind_Veer.f l0 = some (r1, r2)) :
    Calls Tryd.prog 34 #[.slice A0 l0.length c0] w fun e w' => e = .returned (.tuple #[.int .i64 r1, .int .i64 r2]) ∧ Below w.heap.size w w' := by
  have h := Option.some.inj h
  have hw := wind_Veer.walk A0 c0 l0 w hr0
  rw [h] at hw
  exact hw

end Go.Proofs.YthihlapmkcelpaaDoor.Q
