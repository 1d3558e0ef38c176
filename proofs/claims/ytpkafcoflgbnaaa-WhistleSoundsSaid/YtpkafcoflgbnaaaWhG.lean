/- sound. -/
import Derived.Test.YtpkafcoflgbnaaaWLast
import Derived.Test.YtpkafcoflgbnaaaWMore
import Derived.Test.YtpkafcoflgbnaaaProg
import Derived.Test.YtpkafcoflgbnaaaShelf
import Derived.OwnWalk
import Derived.Handy
import Derived.Deep.DeepMust
import Derived.Lib.Hide
import Derived.Outline
import Derived.IntWalk
import Derived.Deep.RegionWith
import Derived.Test.YtpkafcoflgbnaaaWhF
namespace Go.Proofs.Ytpkafcoflgbnaaa.Q
open Go.RowKit Go.Proofs.YtpkafcoflgbnaaaW.PrintWords Go.Proofs.YtpkafcoflgbnaaaW.PrintLast Go.Proofs.YtpkafcoflgbnaaaW.PrintMore 
set_option linter.unusedVariables false
set_option linter.unusedSimpArgs false
/-! sound: the signals one after another. -/
def rdS (C : List ByteArray) (n : Int) : ByteArray := C.getD n.toNat ByteArray.empty
/-- The bytes of the first k signals of a message. -/
def sndK (C : List ByteArray) (m : List Int) : Nat → List UInt8
  | 0 => []
  | k + 1 => sndK C m k ++ (rdS C (rd m (k : Int))).data.toList
def okM (C : List ByteArray) (m : List Int) : Bool := decide (m.length ≤ 400) && m.all (fun n => decide (0 ≤ n) && decide (n < (C.length : Int))) && C.all (fun s => decide (s.size ≤ 12))
def soundB (C : List ByteArray) (m : List Int) : ByteArray := ⟨(sndK C m m.length).toArray⟩
theorem okM_parts {C : List ByteArray} {m : List Int} (h : okM C m = true) : m.length ≤ 400 ∧ (∀ j, j < m.length → 0 ≤ rd m (j : Int) ∧ rd m (j : Int) < (C.length : Int)) ∧ ∀ n : Int, (rdS C n).size ≤ 12 := by
  unfold okM at h
  simp only [Bool.and_eq_true, decide_eq_true_eq, List.all_eq_true] at h
  obtain ⟨⟨h1, h2⟩, h3⟩ := h
  refine ⟨h1, fun j hj => ?_, fun n => ?_⟩
  · unfold rd
    rw [Int.toNat_natCast, List.getD_eq_getElem?_getD, List.getElem?_eq_getElem hj]
    exact h2 _ (List.getElem_mem hj)
  · unfold rdS
    by_cases hn : n.toNat < C.length
    · rw [List.getD_eq_getElem?_getD, List.getElem?_eq_getElem hn]
      exact h3 _ (List.getElem_mem hn)
    · rw [List.getD_eq_getElem?_getD, List.getElem?_eq_none (by omega)]
      decide
theorem sndK_len {C : List ByteArray} {m : List Int} (h : ∀ n : Int, (rdS C n).size ≤ 12) : ∀ k, (sndK C m k).length ≤ 12 * k
  | 0 => Nat.le_refl _
  | k + 1 => by
    have := sndK_len h (m := m) k
    have h2 := h (rd m (k : Int))
    show (sndK C m k ++ _).length ≤ _
    have h3 : (rdS C (rd m (k : Int))).data.toList.length = (rdS C (rd m (k : Int))).size := Array.length_toList
    rw [List.length_append, h3]
    omega
set_option maxHeartbeats 4000000 in
set_option maxRecDepth 100000 in
theorem sound_walk (A0 : Option Addr) (c0 : Nat) (C : List ByteArray) (A1 : Option Addr) (c1 : Nat) (m : List Int) (w : World) (hr0 : Kd.C Kd.string w A0 C.length C) (hr1 : Kd.C (Kd.int .i64) w A1 m.length m) (hok : okM C m = true) :
    Calls Try.prog 65 #[.slice A0 C.length c0, .slice A1 m.length c1] w fun e w' => e = .returned (.string (soundB C m)) ∧ Below w.heap.size w w' := by
  obtain ⟨hm, hin, hsz⟩ := okM_parts hok
  have hcode := fun W hB (j : Int) h0 h1 => Kd.at_string (Kd.C_below hr0 (w1 := W) hB) j h0 h1
  have hmsg := fun W hB (j : Int) h0 h1 => Kd.at_int (Kd.C_below hr1 (w1 := W) hB) j h0 h1
  have HC := Lib.hid hcode
  have HM := Lib.hid hmsg
  have HI := Lib.hid hin
  have hfr := IsB.fresh w
  have hlk := sndK_len hsz (m := m)
  have HL := Lib.hid hlk
  have HZ := Lib.hid hsz
  clear hcode hmsg hr0 hr1 hok hin hlk hsz
  have hal : Below w.heap.size w (w.alloc (.cells #[.pointer none, .slice none 0 0] 76)) := (Below.refl _ _).alloc (Nat.le_refl _) _
  go_enter Try.func65, Try.ntmps65
  go_wp2
  go_loopw [10] (fun p wr => ∃ k : Nat, k ≤ m.length ∧ p = .int .i64 (k : Int) ∧ IsB w.heap.size (sndK C m k) wr ∧ Below w.heap.size w wr) (fun p _ => m.length - (intOf p).toNat)
  case atStart => exact ⟨0, Nat.zero_le _, rfl, hfr, hal⟩
  case round =>
    clear hfr hal
    obtain ⟨k, hk, rfl, hB, hb⟩ := hrel
    by_cases hlt : k < m.length
    · have hdk : decide ((k : Int) < (m.length : Int)) = true := decide_eq_true (by omega)
      have hdk0 : decide (0 ≤ (k : Int)) = true := decide_eq_true (by omega)
      obtain ⟨ad1, rfl, hck⟩ := HM.out _ hb (k : Int) (by omega) (by omega)
      rw [Int.toNat_natCast] at hck
      obtain ⟨hi0, hi1⟩ := HI.out k hlt
      have Hst := Lib.hid (show sndK C m (k + 1) = sndK C m k ++ (rdS C (rd m (k : Int))).data.toList from rfl)
      have hlen := HL.out k
      obtain ⟨n, hn⟩ : ∃ n, rd m (k : Int) = n := ⟨_, rfl⟩
      rw [hn] at hck hi0 hi1 Hst
      clear hn
      obtain ⟨ad0, rfl, hcn⟩ := HC.out _ hb n hi0 hi1
      have hz := HZ.out n
      rw [show rdOf ByteArray.empty C n = rdS C n from rfl] at hcn
      generalize rdS C n = s at *
      have hw := wstr_calls w.heap.size (Lib.byteCells (sndK C m k)) s wr hB (by rw [Lib.byteCells_length]; omega)
      rw [Lib.strCells_eq, ← Lib.byteCells_append] at hw
      have hi0' := decide_eq_true hi0
      have hi1' := decide_eq_true hi1
      go_wp2_with (first | (go_at_call 102; go_must (with_reducible refine hw.mono ?_); rintro e w' ⟨rfl, hB2, hb2⟩))
      go_roundw
      case rel => exact ⟨k + 1, by omega, by simp, by rw [Hst.out]; exact hB2, hb.trans hb2⟩
      case measure => simp [intOf]; omega
    · obtain rfl : k = m.length := by omega
      have hdk : decide ((m.length : Int) < (m.length : Int)) = false := decide_eq_false (by omega)
      have hstr := Try.Builder_String_any w.heap.size w.heap.size (sndK C m m.length) wr hB hb.size
      go_wp2_with (first | (go_at_call 75; go_must (with_reducible refine hstr.mono ?_); rintro e w' ⟨rfl, hb2⟩))
      first | go_end0 | go_returns | go_ret
      exact ⟨rfl, hb.trans hb2⟩
end Go.Proofs.Ytpkafcoflgbnaaa.Q
