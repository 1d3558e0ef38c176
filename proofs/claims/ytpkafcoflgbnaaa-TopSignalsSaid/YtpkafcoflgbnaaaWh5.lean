/- The code with each signal turned round. For all codes. -/
import Derived.Test.YtpkafcoflgbnaaaWLast
import Derived.Test.YtpkafcoflgbnaaaWMore
import Derived.Test.YtpkafcoflgbnaaaProg
import Derived.Test.YtpkafcoflgbnaaaShelf
import Derived.OwnWalk
import Derived.Handy
import Derived.Deep.DeepMust
import Derived.Lib.Hide
import Derived.Outline
import Derived.IntWalk
import Derived.Deep.RegionWith
import Derived.Lib.ConvBytes
import Derived.Laws.IdiomStrings
import Derived.Test.YtpkafcoflgbnaaaShelfB
import Derived.Test.YtpkafcoflgbnaaaWh1
namespace Go.Proofs.Ytpkafcoflgbnaaa.Q
open Go.RowKit Go.Proofs.YtpkafcoflgbnaaaW.PrintWords Go.Proofs.YtpkafcoflgbnaaaW.PrintLast Go.Proofs.YtpkafcoflgbnaaaW.PrintMore Go.Shelf
set_option linter.unusedVariables false
set_option linter.unusedSimpArgs false
/-! Back: each signal turned round. -/
def revB (s : ByteArray) : ByteArray := ⟨s.data.toList.reverse.toArray⟩
def encU (b : UInt8) : Value := .int .u8 b.toNat
theorem encU_one : OneCell encU := fun _ => rfl
/-- A string as bytes, turned round: where it lies. -/
theorem rev_calls (s : ByteArray) (w : World) (hs : s.size ≤ 1000000) :
    Calls Try.prog 57 #[.slice (some ⟨w.heap.size, 0, none⟩) s.size (grownCap w s.size 0 5)] (Lib.bytesWorld w 5 s) fun e w' => e = .returned (.tuple #[]) ∧ Below w.heap.size w w' ∧ ∀ j (hj : j < s.data.toList.reverse.length), w'.cell? ((⟨w.heap.size, 0, none⟩ : Addr).add j) = some (.int .u8 (s.data.toList.reverse[j].toNat : Int)) := by
  have hlen : s.data.toList.length = s.size := Array.length_toList
  have hH : Go.Sort.Holds encU (Lib.bytesWorld w 5 s) w.heap.size 0 s.data.toList.toArray := by
    intro j hj
    have hj2 : j < s.size := by simpa using hj
    have h1 := Lib.bytesWorld_cell w 5 s j hj2
    have h2 := Lib.bytesWorld_at_new w 5 s
    have hsz : s.size ≤ (Lib.bytesCells w 5 s).size := by
      unfold Lib.bytesCells
      rw [Array.size_append, Array.size_map]
      exact Nat.le_add_right _ _
    refine ⟨?_, ?_⟩
    · rw [Nat.zero_add, h1]
      congr 1
      unfold encU
      rw [getElem!_pos s.data.toList.toArray j hj, List.getD_eq_getElem?_getD, List.getElem?_eq_getElem (by omega)]
      simp
    · unfold World.frozen?
      rw [h2]
      simp only [Nat.zero_add, Bool.and_eq_false_iff, decide_eq_false_iff_not]
      exact .inl (by omega)
  have hc := AnyE.slices_Reverse Try.laysRev encU encU_one w.heap.size 0 (grownCap w s.size 0 5) s.data.toList (Lib.bytesWorld w 5 s) hH (by omega)
  rw [hlen] at hc
  refine hc.mono ?_
  rintro e w' ⟨rfl, n, rfl⟩
  have hold : ∀ k, k < w.heap.size → (Go.Sort.putRow encU (Go.Sort.ahead (Lib.bytesWorld w 5 s) n) w.heap.size 0 s.data.toList.reverse.toArray).heap[k]? = w.heap[k]? := by
    intro k hk
    rw [← Lib.bytesWorld_at_old w 5 s k hk]
    have hn : w.heap.size ≠ k := by omega
    simp [Go.Sort.putRow, Go.Sort.mapBlock, Go.Sort.ahead, Array.getElem?_modify, hn]
  refine ⟨rfl, ⟨rfl, rfl, rfl, ?_, hold⟩, fun j hj => ?_⟩
  · have := Lib.bytesWorld_size w 5 s
    simp only [Go.Sort.putRow, Go.Sort.mapBlock, Go.Sort.ahead, Array.size_modify]
    omega
  · rw [add_none, Nat.zero_add]
    have hj2 : j < s.data.toList.reverse.toArray.size := by simpa using hj
    have := Go.Sort.cell?_putRow encU (Go.Sort.ahead (Lib.bytesWorld w 5 s) n) w.heap.size 0 s.data.toList.toArray s.data.toList.reverse.toArray (Go.Sort.holds_ahead _ _ _ _ _ _ hH) (by simp) j hj2
    rw [Nat.zero_add] at this
    rw [this]
    congr 1
    unfold encU
    rw [getElem!_pos s.data.toList.reverse.toArray j hj2]
    simp

def backA (C : List ByteArray) : Nat → List ByteArray
  | 0 => []
  | i + 1 => backA C i ++ [revB (C.getD i ByteArray.empty)]
theorem backA_len (C : List ByteArray) : ∀ i, (backA C i).length = i
  | 0 => rfl
  | i + 1 => by show (backA C i ++ _).length = _; rw [List.length_append, backA_len C i]; rfl
theorem back_e0 (A0 : Option Addr) (n0 c0 : Nat) (e0 : Int) (w : World) (hne : e0 ≠ 0) (hv : Calls Try.prog 32 #[.slice A0 n0 c0] w fun e w' => e = .returned (.int .i64 e0) ∧ Below w.heap.size w w') :
    Calls Try.prog 22 #[.slice A0 n0 c0] w fun e w' => e = .returned (.tuple #[.slice none 0 0, .int .i64 e0]) ∧ Below w.heap.size w w' := by
  have h1 : (e0 == 0) = false := by simpa using hne
  have h2 : (e0 != 0) = true := by simpa using hne
  clear hne
  go_enter Try.func22, Try.ntmps22
  go_wp2_with (first | (go_at_call 32; go_must (with_reducible refine hv.mono ?_); rintro e w' ⟨rfl, hb⟩))
  go_ret2
  exact ⟨rfl, hb⟩
set_option maxHeartbeats 4000000 in
set_option maxRecDepth 100000 in
theorem back_walk (A0 : Option Addr) (c0 : Nat) (C : List ByteArray) (w : World) (hr0 : Kd.C Kd.string w A0 C.length C) (hC : C.length ≤ 100) (hs : ∀ i, (C.getD i ByteArray.empty).size ≤ 1000) (hv : Calls Try.prog 32 #[.slice A0 C.length c0] w fun e w' => e = .returned (.int .i64 0) ∧ Below w.heap.size w w') :
    Calls Try.prog 22 #[.slice A0 C.length c0] w fun e w' => ∃ v, e = .returned (.tuple #[v, .int .i64 0]) ∧ w'.ownsRow w.heap.size 9 1 v C.length ((backA C C.length).map Value.string) ∧ Below w.heap.size w w' := by
  obtain ⟨i0, hi, hz0, hz1, hz2⟩ := info_parts info9
  have hcode := fun W hB j hj => @code_at w W A0 C hr0 hB j hj
  have HC := Lib.hid hcode
  have HS := Lib.hid hs
  clear hcode hr0 hs
  go_enter Try.func22, Try.ntmps22
  go_wp2_with (first | (go_at_call 32; go_must (with_reducible refine hv.mono ?_); rintro e w1 ⟨rfl, hb⟩))
  go_loopw [16, 5] (fun p v wr => ∃ i : Nat, i ≤ C.length ∧ p = .int .i64 (i : Int) ∧ wr.ownsRow w.heap.size 9 1 v i ((backA C i).map Value.string) ∧ Below w.heap.size w wr) (fun p _ _ => C.length - (intOf p).toNat)
  case atStart => exact ⟨0, Nat.zero_le _, rfl, World.ownsRow_nil _ _ _ _, hb⟩
  case round =>
    clear hb
    obtain ⟨i, hi2, rfl, ho, hb⟩ := hrel
    by_cases hlt : i < C.length
    · have hdi : decide ((i : Int) < (C.length : Int)) = true := decide_eq_true (by omega)
      have hdi0 : decide (0 ≤ (i : Int)) = true := decide_eq_true (by omega)
      obtain ⟨ad, rfl, hci⟩ := HC.out _ hb i hlt
      have hsz := HS.out i
      have Hst := Lib.hid (show backA C (i + 1) = backA C i ++ [revB (C.getD i ByteArray.empty)] from rfl)
      generalize C.getD i ByteArray.empty = s at *
      have hcv := Lib.run_convert_string_bytes (P := Try.prog) wr 9 63 5 s Try.underlying9 Try.underlying63 Try.underlying5
      have hrev := rev_calls s wr (by omega)
      have hbs : Below wr.heap.size wr (Lib.bytesWorld wr 5 s) := ⟨rfl, rfl, rfl, by rw [Lib.bytesWorld_size]; omega, fun k hk => Lib.bytesWorld_at_old wr 5 s k hk⟩
      generalize Lib.bytesWorld wr 5 s = wb at *
      generalize grownCap wr s.size 0 5 = cp at *
      have hlen : s.data.toList.reverse.length = s.size := by rw [List.length_reverse]; exact Array.length_toList
      have hback : ∀ w7 : World, (∀ j (hj : j < s.data.toList.reverse.length), w7.cell? ((⟨wr.heap.size, 0, none⟩ : Addr).add j) = some (.int .u8 (s.data.toList.reverse[j].toNat : Int))) → (convert 63 9 (.slice (some ⟨wr.heap.size, 0, none⟩) s.size cp)).run Try.prog w7 = .ok (.string (revB s)) w7 := fun w7 hc => by
        have := run_convert_bytes_back (P := Try.prog) w7 63 9 5 ⟨wr.heap.size, 0, none⟩ cp s.data.toList.reverse Try.underlying63 Try.underlying5 Try.underlying9 hc
        rw [hlen] at this
        exact this
      have HBk := Lib.hid hback
      have hbz := hbs.size
      clear hback hlen
      go_wp2_with (first | (go_at_call 57; go_must (with_reducible refine hrev.mono ?_); rintro _ w7 ⟨rfl, hb7, hc7⟩; have hcv2 := HBk.out w7 hc7; have hs7 := hb7.size; have ho7 := (own_below ho hb7).alloc (.cells #[.string (revB s)] 9); clear hc7) | (at_builtin; refine wpList_append_own _ rfl _ _ 22 rfl w.heap.size 9 i0 (.string ⟨#[]⟩) 1 16 Try.underlying22 hi hz0 hz1 hz2 rfl (by decide) _ _ _ rfl ho7 ⟨_, 0, none⟩ 1 1 [.string (revB s)] rfl rfl (new_cell _ _ _) (fun u hu => by rw [List.mem_singleton] at hu; subst hu; rfl) (by unfold maxLen; omega) (by omega) (by have := hb.size; simp; omega) ?_; intro v' w8 hown' hgrow _))
      have hbel := ((hb.trans (hb7.mono hb.size)).alloc (by have := hb.size; omega) (.cells #[.string (revB s)] 9)).grown hgrow (by have := hb.size; simp; omega) (fun k hk => (ho7.lt k hk).1)
      go_roundw
      case rel => exact ⟨i + 1, by omega, by simp, by rw [Hst.out, List.map_append]; exact hown', hbel⟩
      case measure => simp [intOf]; omega
    · obtain rfl : i = C.length := by omega
      have hdi : decide ((C.length : Int) < (C.length : Int)) = false := decide_eq_false (by omega)
      go_wp2
      go_ret2
      exact ⟨_, rfl, ho, hb⟩
end Go.Proofs.Ytpkafcoflgbnaaa.Q
