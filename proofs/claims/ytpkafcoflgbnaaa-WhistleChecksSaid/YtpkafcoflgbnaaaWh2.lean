/- How a message sounds, written by a builder of the call's own. For all codes and messages that are accepted. -/
import Derived.Test.YtpkafcoflgbnaaaWLast
import Derived.Test.YtpkafcoflgbnaaaWMore
import Derived.Test.YtpkafcoflgbnaaaProg
import Derived.Test.YtpkafcoflgbnaaaShelf
import Derived.OwnWalk
import Derived.Handy
import Derived.Deep.DeepMust
import Derived.Lib.Hide
import Derived.Outline
import Derived.IntWalk
import Derived.Deep.RegionWith
import Derived.Lib.FrozenHead
import Derived.Lib.FrozenHead2
import Derived.Lib.AppendStr
import Derived.Test.YtpkafcoflgbnaaaWh1
namespace Go.Proofs.Ytpkafcoflgbnaaa.Q
open Go.RowKit Go.Proofs.YtpkafcoflgbnaaaW.PrintWords Go.Proofs.YtpkafcoflgbnaaaW.PrintLast Go.Proofs.YtpkafcoflgbnaaaW.PrintMore 
set_option linter.unusedVariables false
set_option linter.unusedSimpArgs false
/-! A strings.Builder of the call's own: what its writers do. -/
abbrev BAt (b : Nat) (p : Value) (bs : List Value) (w : World) : Prop := Lib.BuilderAt 76 5 b b p bs w
def IsB (b : Nat) (l : List UInt8) (w : World) : Prop := Lib.IsBuilder 76 5 b b (Lib.byteCells l) w
theorem IsB.fresh (w : World) : IsB w.heap.size [] (w.alloc (.cells #[.pointer none, .slice none 0 0] 76)) := Lib.fresh_isBuilder 76 5 w
theorem sizeB : (Try.prog.info? 76).map (·.size) = some 2 := by kernel_rfl
theorem liesB : liesAt Try.prog Try.prog.depth 76 (2 / Try.prog.cellsOf 76) 0 76 1 = true := by kernel_rfl
theorem info5 : (Try.prog.info? 5).map (fun i => (i.zero, i.size, i.bytes)) = some (some (.int .u8 0), 1, 1) := by kernel_rfl
set_option maxHeartbeats 2000000 in
set_option maxRecDepth 100000 in
theorem check_calls (b : Nat) (bs : List Value) (w : World) (h : Lib.IsBuilder 76 5 b b bs w) :
    Calls Try.prog 107 #[.pointer (some ⟨b, 0, none⟩)] w fun e w' => e = .returned (.tuple #[]) ∧ BAt b (.pointer (some ⟨b, 0, none⟩)) bs w' ∧ Below b w w' := by
  obtain ⟨j, hj, hjs⟩ := Option.map_eq_some_iff.1 sizeB
  rcases h with h | h
  · have h0 := h.cell0
    have hsh := h.shape
    have hfz := h.frozen0
    go_enter Try.func107, Try.ntmps107
    go_wp2
    rw [Lib.run_to_unsafe w ⟨b, 0, none⟩ Try.underlying74 Try.underlying120 hj (by rw [hjs]; decide) hsh (Nat.zero_lt_succ 1)]
    simp only [Result.andThen]
    rw [Oper.upon_value]
    go_wp2
    rw [run_callFunc_extern Try.func117 (by kernel_rfl) (by kernel_rfl) (by kernel_rfl) (e := Extern.AbiNoEscape.same) (by kernel_rfl)]
    rw [Lib.run_noEscape]
    simp only [Result.andThen]
    rw [Oper.upon_value]
    go_wp2
    rw [Lib.run_from_unsafe w ⟨b, 0, none⟩ Try.underlying120 Try.underlying74 hj hsh liesB]
    simp only [Result.andThen]
    rw [Oper.upon_value]
    go_wp2
    go_end0
    exact ⟨rfl, h.used _, (Below.refl b w).setCell (p := ⟨b, 0, none⟩) h.1 _⟩
  · have h0 := h.cell0
    go_enter Try.func107, Try.ntmps107
    go_wp2
    rw [Lib.run_neq_ptr_same w _ Try.underlying74 hj]
    go_wp2
    go_end0
    exact ⟨rfl, h, Below.refl b _⟩
set_option maxHeartbeats 2000000 in
set_option maxRecDepth 100000 in
theorem wbyte_calls (b : Nat) (bs : List Value) (c : Int) (w : World) (h : Lib.IsBuilder 76 5 b b bs w) (hlen : bs.length + 1 ≤ 1000000) :
    Calls Try.prog 74 #[.pointer (some ⟨b, 0, none⟩), .int .u8 c] w fun e w' => e = .returned .nilIface ∧ Lib.IsBuilder 76 5 b b (bs ++ [.int .u8 c]) w' ∧ Below b w w' := by
  obtain ⟨i0, hi, hz0, hz1, hz2⟩ := info_parts info5
  have hck := check_calls b bs w h
  clear h
  go_enter Try.func74, Try.ntmps74
  go_wp2_with (first | (go_at_call 107; go_must (with_reducible refine hck.mono ?_); rintro e w1 ⟨rfl, ⟨hB, v, hbk, hown, hne⟩, hb1⟩; have c0 : w1.cell? ⟨b, 0, none⟩ = some (.pointer (some ⟨b, 0, none⟩)) := (by rw [Lib.cell_of_heap hbk]; rfl); have c1 : w1.cell? ⟨b, 1, none⟩ = some v := (by rw [Lib.cell_of_heap hbk]; rfl); have hlt : b < w1.heap.size := (Array.getElem?_eq_some_iff.1 hbk).1) | (at_builtin; refine wpList_append_own _ rfl _ _ 63 rfl b 5 i0 (.int .u8 0) 1 1 Try.underlying63 hi hz0 hz1 hz2 rfl (by decide) _ _ _ rfl (hown.alloc _) ⟨w1.heap.size, 0, none⟩ 1 1 [.int .u8 c] rfl rfl (new_cell _ _ _) (fun u hu => by rw [List.mem_singleton] at hu; subst hu; rfl) (by unfold maxLen; omega) (by omega) (by simp; omega) ?_; intro v' w2 hown' hgrow _; have hb2 : w2.heap[b]? = some (.cells #[.pointer (some ⟨b, 0, none⟩), v] 76 (0, 0)) := (by rw [hgrow.block b (by simp; omega) (fun e => hne e.symm), Lib.alloc_old w1 _ b hlt]; exact hbk); have d0 : w2.cell? ⟨b, 0, none⟩ = some (.pointer (some ⟨b, 0, none⟩)) := (by rw [Lib.cell_of_heap hb2]; rfl); have d1 : w2.cell? ⟨b, 1, none⟩ = some v := (by rw [Lib.cell_of_heap hb2]; rfl); have f1 : w2.frozen? ⟨b, 1, none⟩ = false := Lib.frozen_of_heap hb2 1; obtain ⟨g, cap, hv'⟩ := ownsRow_succ hown'; subst hv'))
  go_ret
  refine ⟨rfl, .inr ?_, ?_⟩
  · exact Lib.BuilderAt.put (T := 76) (e := 5) hB hb2 (bs' := bs ++ [.int .u8 c]) (by simpa using hown') (by decide)
  · exact ((hb1.alloc (by omega) _).grown hgrow (by simp; omega) (fun k hk => (hown.lt k hk).1)).setCell (p := ⟨b, 1, none⟩) hB _
set_option maxHeartbeats 2000000 in
set_option maxRecDepth 100000 in
theorem wstr_calls (b : Nat) (bs : List Value) (s : ByteArray) (w : World) (h : Lib.IsBuilder 76 5 b b bs w) (hlen : bs.length + s.size ≤ 140737488355328) :
    Calls Try.prog 102 #[.pointer (some ⟨b, 0, none⟩), .string s] w fun e w' => e = .returned (.tuple #[.int .i64 s.size, .nilIface]) ∧ Lib.IsBuilder 76 5 b b (bs ++ Lib.strCells s) w' ∧ Below b w w' := by
  obtain ⟨i0, hi, hz0, hz1, hz2⟩ := info_parts info5
  have hck := check_calls b bs w h
  clear h
  go_enter Try.func102, Try.ntmps102
  go_wp2_with (first | (go_at_call 107; go_must (with_reducible refine hck.mono ?_); rintro e w1 ⟨rfl, ⟨hB, v, hbk, hown, hne⟩, hb1⟩; have c0 : w1.cell? ⟨b, 0, none⟩ = some (.pointer (some ⟨b, 0, none⟩)) := (by rw [Lib.cell_of_heap hbk]; rfl); have c1 : w1.cell? ⟨b, 1, none⟩ = some v := (by rw [Lib.cell_of_heap hbk]; rfl); have hlt : b < w1.heap.size := (Array.getElem?_eq_some_iff.1 hbk).1) | (at_builtin; refine Lib.wpList_append_own_string _ rfl _ _ 63 9 rfl b 5 i0 Try.underlying63 Try.underlying9 hi hz0 hz1 hz2 _ _ _ rfl hown s rfl (by unfold maxLen; omega) (by omega) (by omega) ?_; intro v' w2 hown' hgrow _; have hb2 : w2.heap[b]? = some (.cells #[.pointer (some ⟨b, 0, none⟩), v] 76 (0, 0)) := (by rw [hgrow.block b hlt (fun e => hne e.symm)]; exact hbk); have d0 : w2.cell? ⟨b, 0, none⟩ = some (.pointer (some ⟨b, 0, none⟩)) := (by rw [Lib.cell_of_heap hb2]; rfl); have d1 : w2.cell? ⟨b, 1, none⟩ = some v := (by rw [Lib.cell_of_heap hb2]; rfl); have f1 : w2.frozen? ⟨b, 1, none⟩ = false := Lib.frozen_of_heap hb2 1; obtain ⟨ao, n', cap, hv'⟩ : ∃ ao n' cap, v' = .slice ao n' cap := (by rcases hown'.2 with ⟨hv, _⟩ | ⟨g, cap, cur, hv, _⟩; exact ⟨_, _, _, hv⟩; exact ⟨_, _, _, hv⟩); subst hv'))
  go_ret2
  refine ⟨rfl, .inr ?_, ?_⟩
  · exact Lib.BuilderAt.put (T := 76) (e := 5) hB hb2 (bs' := bs ++ Lib.strCells s) (by simpa [Lib.strCells_length] using hown') (by decide)
  · exact (hb1.grown hgrow (by have := hb1.size; omega) (fun k hk => (hown.lt k hk).1)).setCell (p := ⟨b, 1, none⟩) hB _
/-! sound: the signals one after another. -/
def rdS (C : List ByteArray) (n : Int) : ByteArray := C.getD n.toNat ByteArray.empty
/-- The bytes of the first k signals of a message. -/
def sndK (C : List ByteArray) (m : List Int) : Nat → List UInt8
  | 0 => []
  | k + 1 => sndK C m k ++ (rdS C (rd m (k : Int))).data.toList
def okM (C : List ByteArray) (m : List Int) : Bool := decide (m.length ≤ 400) && m.all (fun n => decide (0 ≤ n) && decide (n < (C.length : Int))) && C.all (fun s => decide (s.size ≤ 12))
def soundB (C : List ByteArray) (m : List Int) : ByteArray := ⟨(sndK C m m.length).toArray⟩
theorem okM_parts {C : List ByteArray} {m : List Int} (h : okM C m = true) : m.length ≤ 400 ∧ (∀ j, j < m.length → 0 ≤ rd m (j : Int) ∧ rd m (j : Int) < (C.length : Int)) ∧ ∀ n : Int, (rdS C n).size ≤ 12 := by
  unfold okM at h
  simp only [Bool.and_eq_true, decide_eq_true_eq, List.all_eq_true] at h
  obtain ⟨⟨h1, h2⟩, h3⟩ := h
  refine ⟨h1, fun j hj => ?_, fun n => ?_⟩
  · unfold rd
    rw [Int.toNat_natCast, List.getD_eq_getElem?_getD, List.getElem?_eq_getElem hj]
    exact h2 _ (List.getElem_mem hj)
  · unfold rdS
    by_cases hn : n.toNat < C.length
    · rw [List.getD_eq_getElem?_getD, List.getElem?_eq_getElem hn]
      exact h3 _ (List.getElem_mem hn)
    · rw [List.getD_eq_getElem?_getD, List.getElem?_eq_none (by omega)]
      decide
theorem sndK_len {C : List ByteArray} {m : List Int} (h : ∀ n : Int, (rdS C n).size ≤ 12) : ∀ k, (sndK C m k).length ≤ 12 * k
  | 0 => Nat.le_refl _
  | k + 1 => by
    have := sndK_len h (m := m) k
    have h2 := h (rd m (k : Int))
    show (sndK C m k ++ _).length ≤ _
    have h3 : (rdS C (rd m (k : Int))).data.toList.length = (rdS C (rd m (k : Int))).size := Array.length_toList
    rw [List.length_append, h3]
    omega
set_option maxHeartbeats 4000000 in
set_option maxRecDepth 100000 in
theorem sound_walk (A0 : Option Addr) (c0 : Nat) (C : List ByteArray) (A1 : Option Addr) (c1 : Nat) (m : List Int) (w : World) (hr0 : Kd.C Kd.string w A0 C.length C) (hr1 : Kd.C (Kd.int .i64) w A1 m.length m) (hok : okM C m = true) :
    Calls Try.prog 65 #[.slice A0 C.length c0, .slice A1 m.length c1] w fun e w' => e = .returned (.string (soundB C m)) ∧ Below w.heap.size w w' := by
  obtain ⟨hm, hin, hsz⟩ := okM_parts hok
  have hcode := fun W hB (j : Int) h0 h1 => Kd.at_string (Kd.C_below hr0 (w1 := W) hB) j h0 h1
  have hmsg := fun W hB (j : Int) h0 h1 => Kd.at_int (Kd.C_below hr1 (w1 := W) hB) j h0 h1
  have HC := Lib.hid hcode
  have HM := Lib.hid hmsg
  have HI := Lib.hid hin
  have hfr := IsB.fresh w
  have hlk := sndK_len hsz (m := m)
  have HL := Lib.hid hlk
  have HZ := Lib.hid hsz
  clear hcode hmsg hr0 hr1 hok hin hlk hsz
  have hal : Below w.heap.size w (w.alloc (.cells #[.pointer none, .slice none 0 0] 76)) := (Below.refl _ _).alloc (Nat.le_refl _) _
  go_enter Try.func65, Try.ntmps65
  go_wp2
  go_loopw [10] (fun p wr => ∃ k : Nat, k ≤ m.length ∧ p = .int .i64 (k : Int) ∧ IsB w.heap.size (sndK C m k) wr ∧ Below w.heap.size w wr) (fun p _ => m.length - (intOf p).toNat)
  case atStart => exact ⟨0, Nat.zero_le _, rfl, hfr, hal⟩
  case round =>
    clear hfr hal
    obtain ⟨k, hk, rfl, hB, hb⟩ := hrel
    by_cases hlt : k < m.length
    · have hdk : decide ((k : Int) < (m.length : Int)) = true := decide_eq_true (by omega)
      have hdk0 : decide (0 ≤ (k : Int)) = true := decide_eq_true (by omega)
      obtain ⟨ad1, rfl, hck⟩ := HM.out _ hb (k : Int) (by omega) (by omega)
      rw [Int.toNat_natCast] at hck
      obtain ⟨hi0, hi1⟩ := HI.out k hlt
      have Hst := Lib.hid (show sndK C m (k + 1) = sndK C m k ++ (rdS C (rd m (k : Int))).data.toList from rfl)
      have hlen := HL.out k
      obtain ⟨n, hn⟩ : ∃ n, rd m (k : Int) = n := ⟨_, rfl⟩
      rw [hn] at hck hi0 hi1 Hst
      clear hn
      obtain ⟨ad0, rfl, hcn⟩ := HC.out _ hb n hi0 hi1
      have hz := HZ.out n
      rw [show rdOf ByteArray.empty C n = rdS C n from rfl] at hcn
      generalize rdS C n = s at *
      have hw := wstr_calls w.heap.size (Lib.byteCells (sndK C m k)) s wr hB (by rw [Lib.byteCells_length]; omega)
      rw [Lib.strCells_eq, ← Lib.byteCells_append] at hw
      have hi0' := decide_eq_true hi0
      have hi1' := decide_eq_true hi1
      go_wp2_with (first | (go_at_call 102; go_must (with_reducible refine hw.mono ?_); rintro e w' ⟨rfl, hB2, hb2⟩))
      go_roundw
      case rel => exact ⟨k + 1, by omega, by simp, by rw [Hst.out]; exact hB2, hb.trans hb2⟩
      case measure => simp [intOf]; omega
    · obtain rfl : k = m.length := by omega
      have hdk : decide ((m.length : Int) < (m.length : Int)) = false := decide_eq_false (by omega)
      have hstr := Try.Builder_String_any w.heap.size w.heap.size (sndK C m m.length) wr hB hb.size
      go_wp2_with (first | (go_at_call 75; go_must (with_reducible refine hstr.mono ?_); rintro e w' ⟨rfl, hb2⟩))
      first | go_end0 | go_returns | go_ret
      exact ⟨rfl, hb.trans hb2⟩
end Go.Proofs.Ytpkafcoflgbnaaa.Q
