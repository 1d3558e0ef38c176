/- How a message sounds, and messages that sound alike, by the program and by the reference. For all codes and messages. -/
import Derived.Test.YtpkafcoflgbnaaaWLast
import Derived.Test.YtpkafcoflgbnaaaWMore
import Derived.Test.YtpkafcoflgbnaaaProg
import Derived.Test.YtpkafcoflgbnaaaShelf
import Derived.OwnWalk
import Derived.Handy
import Derived.Deep.DeepMust
import Derived.Lib.Hide
import Derived.Outline
import Derived.IntWalk
import Derived.Deep.RegionWith
import Derived.Test.YtpkafcoflgbnaaaWh2
namespace Go.Proofs.Ytpkafcoflgbnaaa.Q
open Go.RowKit Go.Proofs.YtpkafcoflgbnaaaW.PrintWords Go.Proofs.YtpkafcoflgbnaaaW.PrintLast Go.Proofs.YtpkafcoflgbnaaaW.PrintMore 
set_option linter.unusedVariables false
set_option linter.unusedSimpArgs false
/-! sound: the signals one after another. -/
def rdS (C : List ByteArray) (n : Int) : ByteArray := C.getD n.toNat ByteArray.empty
/-- The bytes of the first k signals of a message. -/
def sndK (C : List ByteArray) (m : List Int) : Nat → List UInt8
  | 0 => []
  | k + 1 => sndK C m k ++ (rdS C (rd m (k : Int))).data.toList
def okM (C : List ByteArray) (m : List Int) : Bool := decide (m.length ≤ 400) && m.all (fun n => decide (0 ≤ n) && decide (n < (C.length : Int))) && C.all (fun s => decide (s.size ≤ 12))
def soundB (C : List ByteArray) (m : List Int) : ByteArray := ⟨(sndK C m m.length).toArray⟩
theorem okM_parts {C : List ByteArray} {m : List Int} (h : okM C m = true) : m.length ≤ 400 ∧ (∀ j, j < m.length → 0 ≤ rd m (j : Int) ∧ rd m (j : Int) < (C.length : Int)) ∧ ∀ n : Int, (rdS C n).size ≤ 12 := by
  unfold okM at h
  simp only [Bool.and_eq_true, decide_eq_true_eq, List.all_eq_true] at h
  obtain ⟨⟨h1, h2⟩, h3⟩ := h
  refine ⟨h1, fun j hj => ?_, fun n => ?_⟩
  · unfold rd
    rw [Int.toNat_natCast, List.getD_eq_getElem?_getD, List.getElem?_eq_getElem hj]
    exact h2 _ (List.getElem_mem hj)
  · unfold rdS
    by_cases hn : n.toNat < C.length
    · rw [List.getD_eq_getElem?_getD, List.getElem?_eq_getElem hn]
      exact h3 _ (List.getElem_mem hn)
    · rw [List.getD_eq_getElem?_getD, List.getElem?_eq_none (by omega)]
      decide
theorem sndK_len {C : List ByteArray} {m : List Int} (h : ∀ n : Int, (rdS C n).size ≤ 12) : ∀ k, (sndK C m k).length ≤ 12 * k
  | 0 => Nat.le_refl _
  | k + 1 => by
    have := sndK_len h (m := m) k
    have h2 := h (rd m (k : Int))
    show (sndK C m k ++ _).length ≤ _
    have h3 : (rdS C (rd m (k : Int))).data.toList.length = (rdS C (rd m (k : Int))).size := Array.length_toList
    rw [List.length_append, h3]
    omega
set_option maxHeartbeats 4000000 in
set_option maxRecDepth 100000 in
theorem sound_walk (A0 : Option Addr) (c0 : Nat) (C : List ByteArray) (A1 : Option Addr) (c1 : Nat) (m : List Int) (w : World) (hr0 : Kd.C Kd.string w A0 C.length C) (hr1 : Kd.C (Kd.int .i64) w A1 m.length m) (hok : okM C m = true) :
    Calls Try.prog 65 #[.slice A0 C.length c0, .slice A1 m.length c1] w fun e w' => e = .returned (.string (soundB C m)) ∧ Below w.heap.size w w' := by
  obtain ⟨hm, hin, hsz⟩ := okM_parts hok
  have hcode := fun W hB (j : Int) h0 h1 => Kd.at_string (Kd.C_below hr0 (w1 := W) hB) j h0 h1
  have hmsg := fun W hB (j : Int) h0 h1 => Kd.at_int (Kd.C_below hr1 (w1 := W) hB) j h0 h1
  have HC := Lib.hid hcode
  have HM := Lib.hid hmsg
  have HI := Lib.hid hin
  have hfr := IsB.fresh w
  have hlk := sndK_len hsz (m := m)
  have HL := Lib.hid hlk
  have HZ := Lib.hid hsz
  clear hcode hmsg hr0 hr1 hok hin hlk hsz
  have hal : Below w.heap.size w (w.alloc (.cells #[.pointer none, .slice none 0 0] 76)) := (Below.refl _ _).alloc (Nat.le_refl _) _
  go_enter Try.func65, Try.ntmps65
  go_wp2
  go_loopw [10] (fun p wr => ∃ k : Nat, k ≤ m.length ∧ p = .int .i64 (k : Int) ∧ IsB w.heap.size (sndK C m k) wr ∧ Below w.heap.size w wr) (fun p _ => m.length - (intOf p).toNat)
  case atStart => exact ⟨0, Nat.zero_le _, rfl, hfr, hal⟩
  case round =>
    clear hfr hal
    obtain ⟨k, hk, rfl, hB, hb⟩ := hrel
    by_cases hlt : k < m.length
    · have hdk : decide ((k : Int) < (m.length : Int)) = true := decide_eq_true (by omega)
      have hdk0 : decide (0 ≤ (k : Int)) = true := decide_eq_true (by omega)
      obtain ⟨ad1, rfl, hck⟩ := HM.out _ hb (k : Int) (by omega) (by omega)
      rw [Int.toNat_natCast] at hck
      obtain ⟨hi0, hi1⟩ := HI.out k hlt
      have Hst := Lib.hid (show sndK C m (k + 1) = sndK C m k ++ (rdS C (rd m (k : Int))).data.toList from rfl)
      have hlen := HL.out k
      obtain ⟨n, hn⟩ : ∃ n, rd m (k : Int) = n := ⟨_, rfl⟩
      rw [hn] at hck hi0 hi1 Hst
      clear hn
      obtain ⟨ad0, rfl, hcn⟩ := HC.out _ hb n hi0 hi1
      have hz := HZ.out n
      rw [show rdOf ByteArray.empty C n = rdS C n from rfl] at hcn
      generalize rdS C n = s at *
      have hw := wstr_calls w.heap.size (Lib.byteCells (sndK C m k)) s wr hB (by rw [Lib.byteCells_length]; omega)
      rw [Lib.strCells_eq, ← Lib.byteCells_append] at hw
      have hi0' := decide_eq_true hi0
      have hi1' := decide_eq_true hi1
      go_wp2_with (first | (go_at_call 102; go_must (with_reducible refine hw.mono ?_); rintro e w' ⟨rfl, hB2, hb2⟩))
      go_roundw
      case rel => exact ⟨k + 1, by omega, by simp, by rw [Hst.out]; exact hB2, hb.trans hb2⟩
      case measure => simp [intOf]; omega
    · obtain rfl : k = m.length := by omega
      have hdk : decide ((m.length : Int) < (m.length : Int)) = false := decide_eq_false (by omega)
      have hstr := Try.Builder_String_any w.heap.size w.heap.size (sndK C m m.length) wr hB hb.size
      go_wp2_with (first | (go_at_call 75; go_must (with_reducible refine hstr.mono ?_); rintro e w' ⟨rfl, hb2⟩))
      first | go_end0 | go_returns | go_ret
      exact ⟨rfl, hb.trans hb2⟩
/-! CheckAlike, way by way. -/
def alikeA (A0 : Option Addr) (n0 c0 : Nat) (A1 : Option Addr) (n1 c1 : Nat) (A2 : Option Addr) (n2 c2 : Nat) : Array Value := #[.slice A0 n0 c0, .slice A1 n1 c1, .slice A2 n2 c2]
set_option maxHeartbeats 4000000 in
set_option maxRecDepth 100000 in
theorem alike_e0 (A0 : Option Addr) (n0 c0 : Nat) (A1 : Option Addr) (n1 c1 : Nat) (A2 : Option Addr) (n2 c2 : Nat) (e0 : Int) (w : World) (hne : e0 ≠ 0) (hv : RetI 32 #[.slice A0 n0 c0] e0 w) :
    Calls Try.prog 40 #[.slice A0 n0 c0, .slice A1 n1 c1, .slice A2 n2 c2] w fun e w' => e = .returned (.int .i64 e0) ∧ Below w.heap.size w w' := by
  have h1 : (e0 == 0) = false := by simpa using hne
  have h2 : (e0 != 0) = true := by simpa using hne
  clear hne
  unfold RetI at hv
  go_enter Try.func40, Try.ntmps40
  go_wp2_with (first | (go_at_call 32; go_must (with_reducible refine hv.mono ?_); rintro e w' ⟨rfl, hb⟩))
  first | go_end0 | go_returns | go_ret
  exact ⟨rfl, hb⟩
set_option maxHeartbeats 4000000 in
set_option maxRecDepth 100000 in
theorem alike_l1 (A0 : Option Addr) (n0 c0 : Nat) (A1 : Option Addr) (n1 c1 : Nat) (A2 : Option Addr) (n2 c2 : Nat) (w : World) (hv : RetI 32 #[.slice A0 n0 c0] 0 w) (hl : (n1 : Int) > 400) (hm : n1 ≤ 9223372036854775807) :
    Calls Try.prog 40 #[.slice A0 n0 c0, .slice A1 n1 c1, .slice A2 n2 c2] w fun e w' => e = .returned (.int .i64 3) ∧ Below w.heap.size w w' := by
  have h1 : decide ((n1 : Int) > 400) = true := decide_eq_true hl
  have h1' : decide (n1 > 400) = true := decide_eq_true (by omega)
  clear hl
  unfold RetI at hv
  go_enter Try.func40, Try.ntmps40
  go_wp2_with (first | (go_at_call 32; go_must (with_reducible refine hv.mono ?_); rintro e w' ⟨rfl, hb⟩))
  refine wp_loop_rounds 1 ?_
  rw [rounds_succ]
  go_wp2
  first | go_end0 | go_returns | go_ret
  exact ⟨rfl, hb.alloc hb.size _⟩
set_option maxHeartbeats 4000000 in
set_option maxRecDepth 100000 in
theorem alike_l2 (A0 : Option Addr) (n0 c0 : Nat) (A1 : Option Addr) (n1 c1 : Nat) (A2 : Option Addr) (n2 c2 : Nat) (w : World) (hv : RetI 32 #[.slice A0 n0 c0] 0 w) (hl1 : n1 ≤ 400) (hl : (n2 : Int) > 400) (hm : n2 ≤ 9223372036854775807) :
    Calls Try.prog 40 #[.slice A0 n0 c0, .slice A1 n1 c1, .slice A2 n2 c2] w fun e w' => e = .returned (.int .i64 3) ∧ Below w.heap.size w w' := by
  have g1 : decide ((n1 : Int) > 400) = false := decide_eq_false (by omega)
  have g1' : decide (n1 > 400) = false := decide_eq_false (by omega)
  have g2 : decide ((n2 : Int) > 400) = true := decide_eq_true hl
  have g2' : decide (n2 > 400) = true := decide_eq_true (by omega)
  clear hl hl1
  unfold RetI at hv
  go_enter Try.func40, Try.ntmps40
  go_wp2_with (first | (go_at_call 32; go_must (with_reducible refine hv.mono ?_); rintro _ w1 ⟨rfl, hb⟩; have hb1 := hb.alloc hb.size (.cells #[.slice A1 n1 c1, .slice A2 n2 c2] 35); have hb2 := hb1.alloc hb1.size (.cells #[.slice A1 n1 c1, .slice A2 n2 c2] 35)))
  refine wp_loop_rounds 2 ?_
  rw [rounds_succ]
  go_wp2
  rw [rounds_succ]
  go_wp2
  first | go_end0 | go_returns | go_ret
  exact ⟨rfl, hb1⟩
set_option maxHeartbeats 4000000 in
set_option maxRecDepth 100000 in
theorem alike_e1 (A0 : Option Addr) (n0 c0 : Nat) (A1 : Option Addr) (n1 c1 : Nat) (A2 : Option Addr) (n2 c2 : Nat) (w : World) (hv : RetI 32 #[.slice A0 n0 c0] 0 w) (hl1 : n1 ≤ 400) (hl2 : n2 ≤ 400) (ea : Int) (hne : ea ≠ 0) (ha : AtLater w (RetI 64 #[.slice A0 n0 c0, .slice A1 n1 c1] ea)) :
    Calls Try.prog 40 #[.slice A0 n0 c0, .slice A1 n1 c1, .slice A2 n2 c2] w fun e w' => e = .returned (.int .i64 ea) ∧ Below w.heap.size w w' := by
  have g1 : decide ((n1 : Int) > 400) = false := decide_eq_false (by omega)
  have g1' : decide (n1 > 400) = false := decide_eq_false (by omega)
  have g2 : decide ((n2 : Int) > 400) = false := decide_eq_false (by omega)
  have g2' : decide (n2 > 400) = false := decide_eq_false (by omega)
  have k1 : (ea == 0) = false := by simpa using hne
  have k2 : (ea != 0) = true := by simpa using hne
  have HMa := ha.hid
  clear hne ha
  clear hl1 hl2
  unfold RetI at hv
  go_enter Try.func40, Try.ntmps40
  go_wp2_with (first | (go_at_call 32; go_must (with_reducible refine hv.mono ?_); rintro _ w1 ⟨rfl, hb⟩; have hb1 := hb.alloc hb.size (.cells #[.slice A1 n1 c1, .slice A2 n2 c2] 35); have hb2 := hb1.alloc hb1.size (.cells #[.slice A1 n1 c1, .slice A2 n2 c2] 35); have hma := HMa.out _ hb2))
  refine wp_loop_rounds 3 ?_
  rw [rounds_succ]
  go_wp2
  rw [rounds_succ]
  go_wp2
  rw [rounds_succ]
  go_wp2
  refine wp_loop_rounds 1 ?_
  rw [rounds_succ]
  unfold RetI at hma
  go_wp2_with (first | (go_at_call 64; go_must (with_reducible refine hma.mono ?_); rintro _ w2 ⟨rfl, hb3⟩))
  first | go_end0 | go_returns | go_ret
  exact ⟨rfl, hb2.trans (hb3.mono hb2.size)⟩
set_option maxHeartbeats 4000000 in
set_option maxRecDepth 100000 in
theorem alike_e2 (A0 : Option Addr) (n0 c0 : Nat) (A1 : Option Addr) (n1 c1 : Nat) (A2 : Option Addr) (n2 c2 : Nat) (w : World) (hv : RetI 32 #[.slice A0 n0 c0] 0 w) (hl1 : n1 ≤ 400) (hl2 : n2 ≤ 400) (ha : AtLater w (RetI 64 #[.slice A0 n0 c0, .slice A1 n1 c1] 0)) (eb : Int) (hne : eb ≠ 0) (hbm : AtLater w (RetI 64 #[.slice A0 n0 c0, .slice A2 n2 c2] eb)) :
    Calls Try.prog 40 #[.slice A0 n0 c0, .slice A1 n1 c1, .slice A2 n2 c2] w fun e w' => e = .returned (.int .i64 eb) ∧ Below w.heap.size w w' := by
  have g1 : decide ((n1 : Int) > 400) = false := decide_eq_false (by omega)
  have g1' : decide (n1 > 400) = false := decide_eq_false (by omega)
  have g2 : decide ((n2 : Int) > 400) = false := decide_eq_false (by omega)
  have g2' : decide (n2 > 400) = false := decide_eq_false (by omega)
  have HMa := ha.hid
  have HMb := hbm.hid
  clear ha hbm
  have k1 : (eb == 0) = false := by simpa using hne
  have k2 : (eb != 0) = true := by simpa using hne
  clear hne
  clear hl1 hl2
  unfold RetI at hv
  go_enter Try.func40, Try.ntmps40
  go_wp2_with (first | (go_at_call 32; go_must (with_reducible refine hv.mono ?_); rintro _ w1 ⟨rfl, hb⟩; have hb1 := hb.alloc hb.size (.cells #[.slice A1 n1 c1, .slice A2 n2 c2] 35); have hb2 := hb1.alloc hb1.size (.cells #[.slice A1 n1 c1, .slice A2 n2 c2] 35); have hma := HMa.out _ hb2; unfold RetI at hma))
  refine wp_loop_rounds 3 ?_
  rw [rounds_succ]
  go_wp2
  rw [rounds_succ]
  go_wp2
  rw [rounds_succ]
  go_wp2
  refine wp_loop_rounds 3 ?_
  rw [rounds_succ]
  go_wp2_with (first | (go_at_call 64; (with_reducible refine hma.mono ?_); rintro _ w2 ⟨rfl, hb3⟩; have hb4 := hb2.trans (hb3.mono hb2.size); have hmb := HMb.out _ hb4; unfold RetI at hmb; have hcl := hb3.cell (p := ⟨w1.heap.size + 1, 1, none⟩) (by simp)))
  rw [rounds_succ]
  go_wp2_with (first | (go_at_call 64; go_must (with_reducible refine hmb.mono ?_); rintro _ w3 ⟨rfl, hb5⟩; have hb6 := hb4.trans (hb5.mono hb4.size)))
  first | go_end0 | go_returns | go_ret
  exact ⟨rfl, hb6⟩
set_option maxHeartbeats 4000000 in
set_option maxRecDepth 100000 in
theorem alike_eq (A0 : Option Addr) (n0 c0 : Nat) (A1 : Option Addr) (n1 c1 : Nat) (A2 : Option Addr) (n2 c2 : Nat) (w : World) (hv : RetI 32 #[.slice A0 n0 c0] 0 w) (hl1 : n1 ≤ 400) (hl2 : n2 ≤ 400) (ha : AtLater w (RetI 64 #[.slice A0 n0 c0, .slice A1 n1 c1] 0)) (hbm : AtLater w (RetI 64 #[.slice A0 n0 c0, .slice A2 n2 c2] 0)) (hq : AtLater w (RetB 82 #[.slice A1 n1 c1, .slice A2 n2 c2] true)) :
    Calls Try.prog 40 #[.slice A0 n0 c0, .slice A1 n1 c1, .slice A2 n2 c2] w fun e w' => e = .returned (.int .i64 7) ∧ Below w.heap.size w w' := by
  have g1 : decide ((n1 : Int) > 400) = false := decide_eq_false (by omega)
  have g1' : decide (n1 > 400) = false := decide_eq_false (by omega)
  have g2 : decide ((n2 : Int) > 400) = false := decide_eq_false (by omega)
  have g2' : decide (n2 > 400) = false := decide_eq_false (by omega)
  have HMa := ha.hid
  have HMb := hbm.hid
  clear ha hbm
  have HEq := hq.hid
  clear hq
  clear hl1 hl2
  unfold RetI at hv
  go_enter Try.func40, Try.ntmps40
  go_wp2_with (first | (go_at_call 32; go_must (with_reducible refine hv.mono ?_); rintro _ w1 ⟨rfl, hb⟩; have hb1 := hb.alloc hb.size (.cells #[.slice A1 n1 c1, .slice A2 n2 c2] 35); have hb2 := hb1.alloc hb1.size (.cells #[.slice A1 n1 c1, .slice A2 n2 c2] 35); have hma := HMa.out _ hb2; unfold RetI at hma))
  refine wp_loop_rounds 3 ?_
  rw [rounds_succ]
  go_wp2
  rw [rounds_succ]
  go_wp2
  rw [rounds_succ]
  go_wp2
  refine wp_loop_rounds 3 ?_
  rw [rounds_succ]
  go_wp2_with (first | (go_at_call 64; (with_reducible refine hma.mono ?_); rintro _ w2 ⟨rfl, hb3⟩; have hb4 := hb2.trans (hb3.mono hb2.size); have hmb := HMb.out _ hb4; unfold RetI at hmb; have hcl := hb3.cell (p := ⟨w1.heap.size + 1, 1, none⟩) (by simp)))
  rw [rounds_succ]
  go_wp2_with (first | (go_at_call 64; go_must (with_reducible refine hmb.mono ?_); rintro _ w3 ⟨rfl, hb5⟩; have hb6 := hb4.trans (hb5.mono hb4.size); have heq := HEq.out _ hb6; unfold RetB at heq))
  rw [rounds_succ]
  go_wp2_with (first | (go_at_call 82; go_must (with_reducible refine heq.mono ?_); rintro _ w4 ⟨rfl, hb7⟩; have hb8 := hb6.trans (hb7.mono hb6.size)))
  first | go_end0 | go_returns | go_ret
  exact ⟨rfl, hb8⟩
set_option maxHeartbeats 4000000 in
set_option maxRecDepth 100000 in
theorem alike_ne (A0 : Option Addr) (n0 c0 : Nat) (A1 : Option Addr) (n1 c1 : Nat) (A2 : Option Addr) (n2 c2 : Nat) (w : World) (hv : RetI 32 #[.slice A0 n0 c0] 0 w) (hl1 : n1 ≤ 400) (hl2 : n2 ≤ 400) (ha : AtLater w (RetI 64 #[.slice A0 n0 c0, .slice A1 n1 c1] 0)) (hbm : AtLater w (RetI 64 #[.slice A0 n0 c0, .slice A2 n2 c2] 0)) (hq : AtLater w (RetB 82 #[.slice A1 n1 c1, .slice A2 n2 c2] false)) (sa sb : ByteArray) (hsa : AtLater w (RetS 65 #[.slice A0 n0 c0, .slice A1 n1 c1] sa)) (hsb : AtLater w (RetS 65 #[.slice A0 n0 c0, .slice A2 n2 c2] sb)) (hs : (sa.toList != sb.toList) = true) :
    Calls Try.prog 40 #[.slice A0 n0 c0, .slice A1 n1 c1, .slice A2 n2 c2] w fun e w' => e = .returned (.int .i64 7) ∧ Below w.heap.size w w' := by
  have g1 : decide ((n1 : Int) > 400) = false := decide_eq_false (by omega)
  have g1' : decide (n1 > 400) = false := decide_eq_false (by omega)
  have g2 : decide ((n2 : Int) > 400) = false := decide_eq_false (by omega)
  have g2' : decide (n2 > 400) = false := decide_eq_false (by omega)
  have HMa := ha.hid
  have HMb := hbm.hid
  clear ha hbm
  have HEq := hq.hid
  have HSa := hsa.hid
  have HSb := hsb.hid
  have hs2 : (sa.toList == sb.toList) = false := by
    cases h : (sa.toList == sb.toList)
    · simp [bne, h] at hs ⊢
    · simp [bne, h] at hs 
  clear hq hsa hsb
  clear hl1 hl2
  unfold RetI at hv
  go_enter Try.func40, Try.ntmps40
  go_wp2_with (first | (go_at_call 32; go_must (with_reducible refine hv.mono ?_); rintro _ w1 ⟨rfl, hb⟩; have hb1 := hb.alloc hb.size (.cells #[.slice A1 n1 c1, .slice A2 n2 c2] 35); have hb2 := hb1.alloc hb1.size (.cells #[.slice A1 n1 c1, .slice A2 n2 c2] 35); have hma := HMa.out _ hb2; unfold RetI at hma))
  refine wp_loop_rounds 3 ?_
  rw [rounds_succ]
  go_wp2
  rw [rounds_succ]
  go_wp2
  rw [rounds_succ]
  go_wp2
  refine wp_loop_rounds 3 ?_
  rw [rounds_succ]
  go_wp2_with (first | (go_at_call 64; (with_reducible refine hma.mono ?_); rintro _ w2 ⟨rfl, hb3⟩; have hb4 := hb2.trans (hb3.mono hb2.size); have hmb := HMb.out _ hb4; unfold RetI at hmb; have hcl := hb3.cell (p := ⟨w1.heap.size + 1, 1, none⟩) (by simp)))
  rw [rounds_succ]
  go_wp2_with (first | (go_at_call 64; go_must (with_reducible refine hmb.mono ?_); rintro _ w3 ⟨rfl, hb5⟩; have hb6 := hb4.trans (hb5.mono hb4.size); have heq := HEq.out _ hb6; unfold RetB at heq))
  rw [rounds_succ]
  go_wp2_with (first | (go_at_call 82; go_must (with_reducible refine heq.mono ?_); rintro _ w4 ⟨rfl, hb7⟩; have hb8 := hb6.trans (hb7.mono hb6.size); have hca := HSa.out _ hb8; unfold RetS at hca) | (go_at_call 65; (with_reducible refine hca.mono ?_); rintro _ w5 ⟨rfl, hb9⟩; have hb10 := hb8.trans (hb9.mono hb8.size); have hcb := HSb.out _ hb10; unfold RetS at hcb) | (go_at_call 65; go_must (with_reducible refine hcb.mono ?_); rintro _ w6 ⟨rfl, hb11⟩; have hb12 := hb10.trans (hb11.mono hb10.size)))
  first | go_end0 | go_returns | go_ret
  exact ⟨rfl, hb12⟩
set_option maxHeartbeats 4000000 in
set_option maxRecDepth 100000 in
theorem alike_ok (A0 : Option Addr) (n0 c0 : Nat) (A1 : Option Addr) (n1 c1 : Nat) (A2 : Option Addr) (n2 c2 : Nat) (w : World) (hv : RetI 32 #[.slice A0 n0 c0] 0 w) (hl1 : n1 ≤ 400) (hl2 : n2 ≤ 400) (ha : AtLater w (RetI 64 #[.slice A0 n0 c0, .slice A1 n1 c1] 0)) (hbm : AtLater w (RetI 64 #[.slice A0 n0 c0, .slice A2 n2 c2] 0)) (hq : AtLater w (RetB 82 #[.slice A1 n1 c1, .slice A2 n2 c2] false)) (sa sb : ByteArray) (hsa : AtLater w (RetS 65 #[.slice A0 n0 c0, .slice A1 n1 c1] sa)) (hsb : AtLater w (RetS 65 #[.slice A0 n0 c0, .slice A2 n2 c2] sb)) (hs : (sa.toList != sb.toList) = false) :
    Calls Try.prog 40 #[.slice A0 n0 c0, .slice A1 n1 c1, .slice A2 n2 c2] w fun e w' => e = .returned (.int .i64 0) ∧ Below w.heap.size w w' := by
  have g1 : decide ((n1 : Int) > 400) = false := decide_eq_false (by omega)
  have g1' : decide (n1 > 400) = false := decide_eq_false (by omega)
  have g2 : decide ((n2 : Int) > 400) = false := decide_eq_false (by omega)
  have g2' : decide (n2 > 400) = false := decide_eq_false (by omega)
  have HMa := ha.hid
  have HMb := hbm.hid
  clear ha hbm
  have HEq := hq.hid
  have HSa := hsa.hid
  have HSb := hsb.hid
  have hs2 : (sa.toList == sb.toList) = true := by
    cases h : (sa.toList == sb.toList)
    · simp [bne, h] at hs 
    · simp [bne, h] at hs ⊢
  clear hq hsa hsb
  clear hl1 hl2
  unfold RetI at hv
  go_enter Try.func40, Try.ntmps40
  go_wp2_with (first | (go_at_call 32; go_must (with_reducible refine hv.mono ?_); rintro _ w1 ⟨rfl, hb⟩; have hb1 := hb.alloc hb.size (.cells #[.slice A1 n1 c1, .slice A2 n2 c2] 35); have hb2 := hb1.alloc hb1.size (.cells #[.slice A1 n1 c1, .slice A2 n2 c2] 35); have hma := HMa.out _ hb2; unfold RetI at hma))
  refine wp_loop_rounds 3 ?_
  rw [rounds_succ]
  go_wp2
  rw [rounds_succ]
  go_wp2
  rw [rounds_succ]
  go_wp2
  refine wp_loop_rounds 3 ?_
  rw [rounds_succ]
  go_wp2_with (first | (go_at_call 64; (with_reducible refine hma.mono ?_); rintro _ w2 ⟨rfl, hb3⟩; have hb4 := hb2.trans (hb3.mono hb2.size); have hmb := HMb.out _ hb4; unfold RetI at hmb; have hcl := hb3.cell (p := ⟨w1.heap.size + 1, 1, none⟩) (by simp)))
  rw [rounds_succ]
  go_wp2_with (first | (go_at_call 64; go_must (with_reducible refine hmb.mono ?_); rintro _ w3 ⟨rfl, hb5⟩; have hb6 := hb4.trans (hb5.mono hb4.size); have heq := HEq.out _ hb6; unfold RetB at heq))
  rw [rounds_succ]
  go_wp2_with (first | (go_at_call 82; go_must (with_reducible refine heq.mono ?_); rintro _ w4 ⟨rfl, hb7⟩; have hb8 := hb6.trans (hb7.mono hb6.size); have hca := HSa.out _ hb8; unfold RetS at hca) | (go_at_call 65; (with_reducible refine hca.mono ?_); rintro _ w5 ⟨rfl, hb9⟩; have hb10 := hb8.trans (hb9.mono hb8.size); have hcb := HSb.out _ hb10; unfold RetS at hcb) | (go_at_call 65; go_must (with_reducible refine hcb.mono ?_); rintro _ w6 ⟨rfl, hb11⟩; have hb12 := hb10.trans (hb11.mono hb10.size)))
  first | go_end0 | go_returns | go_ret
  exact ⟨rfl, hb12⟩
/-! The reference's Sound and CheckAlike over lists of messages. -/
/-- A list of messages that the call has just laid out. -/
theorem rows_at {W : World} {b : Nat} {L : List (List Int)} (hn : L.length ≤ 9223372036854775807) (h : ∀ j, j < L.length → ∃ A c, W.cell? ⟨b, j, none⟩ = some (.slice A (L.getD j []).length c) ∧ (L.getD j []).length ≤ c ∧ Kd.C (Kd.int .i64) W A (L.getD j []).length (L.getD j [])) :
    Kd.C (Kd.slice 3 (Kd.int .i64)) W (some ⟨b, 0, none⟩) L.length L := by
  refine ⟨rfl, hn, fun _ => ⟨_, rfl, fun j p hj => ?_⟩⟩
  obtain ⟨hlt, hp⟩ := List.getElem?_eq_some_iff.1 hj
  obtain ⟨A, c, h1, h2, h3⟩ := h j hlt
  have e : L.getD j [] = p := by rw [List.getD_eq_getElem?_getD, hj]; rfl
  rw [e] at h1 h2 h3
  refine ⟨[.slice A p.length c], rfl, ⟨A, c, rfl, h2, h3⟩, fun i u hu => ?_⟩
  have hi : i = 0 := by
    have := (List.getElem?_eq_some_iff.1 hu).1
    simp at this; omega
  subst hi
  simp at hu
  subst hu
  rw [show j * (Kd.slice 3 (Kd.int .i64)).sz + 0 = j from Nat.mul_one j, add_none, Nat.zero_add]
  exact h1
def Msgs (A0 : Option Addr) (n0 c0 : Nat) (n : Nat) (L : World → Option Addr → Prop) (r : Int) (w : World) : Prop := ∀ W b, Below w.heap.size w W → L W (some ⟨b, 0, none⟩) → Calls Try.prog 66 #[.slice A0 n0 c0, .slice (some ⟨b, 0, none⟩) n n] W fun e w' => e = .returned (.int .i64 r) ∧ Below W.heap.size W w'
theorem rsound_e0 (A0 : Option Addr) (n0 c0 : Nat) (A1 : Option Addr) (n1 c1 : Nat) (e0 : Int) (w : World) (hne : e0 ≠ 0) (hv : RetI 33 #[.slice A0 n0 c0] e0 w) :
    Calls Try.prog 31 #[.slice A0 n0 c0, .slice A1 n1 c1] w fun e w' => e = .returned (.tuple #[.string ⟨#[]⟩, .int .i64 e0]) ∧ Below w.heap.size w w' := by
  have h1 : (e0 == 0) = false := by simpa using hne
  have h2 : (e0 != 0) = true := by simpa using hne
  clear hne
  unfold RetI at hv
  go_enter Try.func31, Try.ntmps31
  go_wp2_with (first | (go_at_call 33; go_must (with_reducible refine hv.mono ?_); rintro e w' ⟨rfl, hb⟩))
  go_ret2
  exact ⟨rfl, hb⟩
set_option maxHeartbeats 2000000 in
theorem rsound_e1 (A0 : Option Addr) (n0 c0 : Nat) (A1 : Option Addr) (n1 c1 : Nat) (e1 : Int) (w : World) (hne : e1 ≠ 0) (hv : RetI 33 #[.slice A0 n0 c0] 0 w) (hm : ∀ W, Below w.heap.size w W → RetI 66 #[.slice A0 n0 c0, .slice (some ⟨W.heap.size, 0, none⟩) 1 1] e1 (W.alloc (.cells #[.slice A1 n1 c1] 35))) :
    Calls Try.prog 31 #[.slice A0 n0 c0, .slice A1 n1 c1] w fun e w' => e = .returned (.tuple #[.string ⟨#[]⟩, .int .i64 e1]) ∧ Below w.heap.size w w' := by
  have h1 : (e1 == 0) = false := by simpa using hne
  have h2 : (e1 != 0) = true := by simpa using hne
  clear hne
  have HM := Lib.hid hm
  clear hm
  unfold RetI at hv
  go_enter Try.func31, Try.ntmps31
  go_wp2_with (first | (go_at_call 33; go_must (with_reducible refine hv.mono ?_); rintro _ w1 ⟨rfl, hb⟩; have hm1 := HM.out _ hb; unfold RetI at hm1) | (go_at_call 66; go_must (with_reducible refine hm1.mono ?_); rintro _ w2 ⟨rfl, hb2⟩))
  go_ret2
  exact ⟨rfl, (hb.alloc hb.size _).trans (hb2.mono (hb.alloc hb.size _).size)⟩
set_option maxHeartbeats 2000000 in
theorem rsound_ok (A0 : Option Addr) (n0 c0 : Nat) (A1 : Option Addr) (n1 c1 : Nat) (s : ByteArray) (w : World) (hv : RetI 33 #[.slice A0 n0 c0] 0 w) (hm : ∀ W, Below w.heap.size w W → RetI 66 #[.slice A0 n0 c0, .slice (some ⟨W.heap.size, 0, none⟩) 1 1] 0 (W.alloc (.cells #[.slice A1 n1 c1] 35)))
    (hs : AtLater w (RetS 67 #[.slice A0 n0 c0, .slice A1 n1 c1] s)) :
    Calls Try.prog 31 #[.slice A0 n0 c0, .slice A1 n1 c1] w fun e w' => e = .returned (.tuple #[.string s, .int .i64 0]) ∧ Below w.heap.size w w' := by
  have HM := Lib.hid hm
  have HS := hs.hid
  clear hm hs
  unfold RetI at hv
  go_enter Try.func31, Try.ntmps31
  go_wp2_with (first | (go_at_call 33; go_must (with_reducible refine hv.mono ?_); rintro _ w1 ⟨rfl, hb⟩; have hm1 := HM.out _ hb; unfold RetI at hm1; have hb1 := hb.alloc hb.size (.cells #[.slice A1 n1 c1] 35)) | (go_at_call 66; go_must (with_reducible refine hm1.mono ?_); rintro _ w2 ⟨rfl, hb2⟩; have hb3 := hb1.trans (hb2.mono hb1.size); have hs1 := HS.out _ hb3; unfold RetS at hs1) | (go_at_call 67; go_must (with_reducible refine hs1.mono ?_); rintro _ w3 ⟨rfl, hb4⟩))
  go_ret2
  exact ⟨rfl, hb3.trans (hb4.mono hb3.size)⟩
set_option maxHeartbeats 4000000 in
set_option maxRecDepth 100000 in
theorem ralike_e0 (A0 : Option Addr) (n0 c0 : Nat) (A1 : Option Addr) (n1 c1 : Nat) (A2 : Option Addr) (n2 c2 : Nat) (w : World) (e0 : Int) (hne : e0 ≠ 0) (hv : RetI 33 #[.slice A0 n0 c0] e0 w) :
    Calls Try.prog 39 #[.slice A0 n0 c0, .slice A1 n1 c1, .slice A2 n2 c2] w fun e w' => e = .returned (.int .i64 e0) ∧ Below w.heap.size w w' := by
  have h1 : (e0 == 0) = false := by simpa using hne
  have h2 : (e0 != 0) = true := by simpa using hne
  clear hne
  unfold RetI at hv
  go_enter Try.func39, Try.ntmps39
  go_wp2_with (first | (go_at_call 33; go_must (with_reducible refine hv.mono ?_); rintro e w' ⟨rfl, hb⟩))
  first | go_end0 | go_returns | go_ret
  exact ⟨rfl, hb⟩
set_option maxHeartbeats 4000000 in
set_option maxRecDepth 100000 in
theorem ralike_e1 (A0 : Option Addr) (n0 c0 : Nat) (A1 : Option Addr) (n1 c1 : Nat) (A2 : Option Addr) (n2 c2 : Nat) (w : World) (e1 : Int) (hne : e1 ≠ 0) (hv : RetI 33 #[.slice A0 n0 c0] 0 w) (hm : ∀ W, Below w.heap.size w W → RetI 66 #[.slice A0 n0 c0, .slice (some ⟨W.heap.size, 0, none⟩) 2 2] e1 (W.alloc (.cells #[.slice A1 n1 c1, .slice A2 n2 c2] 35))) :
    Calls Try.prog 39 #[.slice A0 n0 c0, .slice A1 n1 c1, .slice A2 n2 c2] w fun e w' => e = .returned (.int .i64 e1) ∧ Below w.heap.size w w' := by
  have h1 : (e1 == 0) = false := by simpa using hne
  have h2 : (e1 != 0) = true := by simpa using hne
  clear hne
  have HM := Lib.hid hm
  clear hm
  unfold RetI at hv
  go_enter Try.func39, Try.ntmps39
  go_wp2_with (first | (go_at_call 33; go_must (with_reducible refine hv.mono ?_); rintro _ w1 ⟨rfl, hb⟩; have hm1 := HM.out _ hb; unfold RetI at hm1; have hb1 := hb.alloc hb.size (.cells #[.slice A1 n1 c1, .slice A2 n2 c2] 35)) | (go_at_call 66; go_must (with_reducible refine hm1.mono ?_); rintro _ w2 ⟨rfl, hb2⟩; have hb3 := hb1.trans (hb2.mono hb1.size)))
  first | go_end0 | go_returns | go_ret
  exact ⟨rfl, hb3⟩
set_option maxHeartbeats 4000000 in
set_option maxRecDepth 100000 in
theorem ralike_eq (A0 : Option Addr) (n0 c0 : Nat) (A1 : Option Addr) (n1 c1 : Nat) (A2 : Option Addr) (n2 c2 : Nat) (w : World) (hv : RetI 33 #[.slice A0 n0 c0] 0 w) (hm : ∀ W, Below w.heap.size w W → RetI 66 #[.slice A0 n0 c0, .slice (some ⟨W.heap.size, 0, none⟩) 2 2] 0 (W.alloc (.cells #[.slice A1 n1 c1, .slice A2 n2 c2] 35))) (hq : AtLater w (RetB 51 #[.slice A1 n1 c1, .slice A2 n2 c2] true)) :
    Calls Try.prog 39 #[.slice A0 n0 c0, .slice A1 n1 c1, .slice A2 n2 c2] w fun e w' => e = .returned (.int .i64 7) ∧ Below w.heap.size w w' := by
  have HM := Lib.hid hm
  have HQ := hq.hid
  clear hm hq
  unfold RetI at hv
  go_enter Try.func39, Try.ntmps39
  go_wp2_with (first | (go_at_call 33; go_must (with_reducible refine hv.mono ?_); rintro _ w1 ⟨rfl, hb⟩; have hm1 := HM.out _ hb; unfold RetI at hm1; have hb1 := hb.alloc hb.size (.cells #[.slice A1 n1 c1, .slice A2 n2 c2] 35)) | (go_at_call 66; go_must (with_reducible refine hm1.mono ?_); rintro _ w2 ⟨rfl, hb2⟩; have hb3 := hb1.trans (hb2.mono hb1.size); have hq1 := HQ.out _ hb3; unfold RetB at hq1) | (go_at_call 51; go_must (with_reducible refine hq1.mono ?_); rintro _ w3 ⟨rfl, hb4⟩))
  first | go_end0 | go_returns | go_ret
  exact ⟨rfl, hb3.trans (hb4.mono hb3.size)⟩
set_option maxHeartbeats 4000000 in
set_option maxRecDepth 100000 in
theorem ralike_ne (A0 : Option Addr) (n0 c0 : Nat) (A1 : Option Addr) (n1 c1 : Nat) (A2 : Option Addr) (n2 c2 : Nat) (w : World) (hv : RetI 33 #[.slice A0 n0 c0] 0 w) (hm : ∀ W, Below w.heap.size w W → RetI 66 #[.slice A0 n0 c0, .slice (some ⟨W.heap.size, 0, none⟩) 2 2] 0 (W.alloc (.cells #[.slice A1 n1 c1, .slice A2 n2 c2] 35))) (hq : AtLater w (RetB 51 #[.slice A1 n1 c1, .slice A2 n2 c2] false)) (sa sb : ByteArray) (hsa : AtLater w (RetS 67 #[.slice A0 n0 c0, .slice A1 n1 c1] sa)) (hsb : AtLater w (RetS 67 #[.slice A0 n0 c0, .slice A2 n2 c2] sb)) (hs : (sa.toList != sb.toList) = true) :
    Calls Try.prog 39 #[.slice A0 n0 c0, .slice A1 n1 c1, .slice A2 n2 c2] w fun e w' => e = .returned (.int .i64 7) ∧ Below w.heap.size w w' := by
  have HM := Lib.hid hm
  have HQ := hq.hid
  have HSa := hsa.hid
  have HSb := hsb.hid
  have hs2 : (sa.toList == sb.toList) = false := by
    cases h : (sa.toList == sb.toList)
    · simp [bne, h] at hs ⊢
    · simp [bne, h] at hs ⊢
  clear hm hq hsa hsb
  unfold RetI at hv
  go_enter Try.func39, Try.ntmps39
  go_wp2_with (first | (go_at_call 33; go_must (with_reducible refine hv.mono ?_); rintro _ w1 ⟨rfl, hb⟩; have hm1 := HM.out _ hb; unfold RetI at hm1; have hb1 := hb.alloc hb.size (.cells #[.slice A1 n1 c1, .slice A2 n2 c2] 35)) | (go_at_call 66; go_must (with_reducible refine hm1.mono ?_); rintro _ w2 ⟨rfl, hb2⟩; have hb3 := hb1.trans (hb2.mono hb1.size); have hq1 := HQ.out _ hb3; unfold RetB at hq1) | (go_at_call 51; go_must (with_reducible refine hq1.mono ?_); rintro _ w3 ⟨rfl, hb4⟩; have hb5 := hb3.trans (hb4.mono hb3.size); have hca := HSa.out _ hb5; unfold RetS at hca) | (go_at_call 67; (with_reducible refine hca.mono ?_); rintro _ w4 ⟨rfl, hb6⟩; have hb7 := hb5.trans (hb6.mono hb5.size); have hcb := HSb.out _ hb7; unfold RetS at hcb) | (go_at_call 67; go_must (with_reducible refine hcb.mono ?_); rintro _ w5 ⟨rfl, hb8⟩; have hb9 := hb7.trans (hb8.mono hb7.size)))
  first | go_end0 | go_returns | go_ret
  exact ⟨rfl, hb9⟩
set_option maxHeartbeats 4000000 in
set_option maxRecDepth 100000 in
theorem ralike_ok (A0 : Option Addr) (n0 c0 : Nat) (A1 : Option Addr) (n1 c1 : Nat) (A2 : Option Addr) (n2 c2 : Nat) (w : World) (hv : RetI 33 #[.slice A0 n0 c0] 0 w) (hm : ∀ W, Below w.heap.size w W → RetI 66 #[.slice A0 n0 c0, .slice (some ⟨W.heap.size, 0, none⟩) 2 2] 0 (W.alloc (.cells #[.slice A1 n1 c1, .slice A2 n2 c2] 35))) (hq : AtLater w (RetB 51 #[.slice A1 n1 c1, .slice A2 n2 c2] false)) (sa sb : ByteArray) (hsa : AtLater w (RetS 67 #[.slice A0 n0 c0, .slice A1 n1 c1] sa)) (hsb : AtLater w (RetS 67 #[.slice A0 n0 c0, .slice A2 n2 c2] sb)) (hs : (sa.toList != sb.toList) = false) :
    Calls Try.prog 39 #[.slice A0 n0 c0, .slice A1 n1 c1, .slice A2 n2 c2] w fun e w' => e = .returned (.int .i64 0) ∧ Below w.heap.size w w' := by
  have HM := Lib.hid hm
  have HQ := hq.hid
  have HSa := hsa.hid
  have HSb := hsb.hid
  have hs2 : (sa.toList == sb.toList) = true := by
    cases h : (sa.toList == sb.toList)
    · simp [bne, h] at hs ⊢
    · simp [bne, h] at hs ⊢
  clear hm hq hsa hsb
  unfold RetI at hv
  go_enter Try.func39, Try.ntmps39
  go_wp2_with (first | (go_at_call 33; go_must (with_reducible refine hv.mono ?_); rintro _ w1 ⟨rfl, hb⟩; have hm1 := HM.out _ hb; unfold RetI at hm1; have hb1 := hb.alloc hb.size (.cells #[.slice A1 n1 c1, .slice A2 n2 c2] 35)) | (go_at_call 66; go_must (with_reducible refine hm1.mono ?_); rintro _ w2 ⟨rfl, hb2⟩; have hb3 := hb1.trans (hb2.mono hb1.size); have hq1 := HQ.out _ hb3; unfold RetB at hq1) | (go_at_call 51; go_must (with_reducible refine hq1.mono ?_); rintro _ w3 ⟨rfl, hb4⟩; have hb5 := hb3.trans (hb4.mono hb3.size); have hca := HSa.out _ hb5; unfold RetS at hca) | (go_at_call 67; (with_reducible refine hca.mono ?_); rintro _ w4 ⟨rfl, hb6⟩; have hb7 := hb5.trans (hb6.mono hb5.size); have hcb := HSb.out _ hb7; unfold RetS at hcb) | (go_at_call 67; go_must (with_reducible refine hcb.mono ?_); rintro _ w5 ⟨rfl, hb8⟩; have hb9 := hb7.trans (hb8.mono hb7.size)))
  first | go_end0 | go_returns | go_ret
  exact ⟨rfl, hb9⟩
end Go.Proofs.Ytpkafcoflgbnaaa.Q
