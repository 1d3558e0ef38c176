/- Messages that sound alike, by the program and by the reference; the reference's leftover and Sound. For all codes and messages. -/
import Derived.Test.YtpkafcoflgbnaaaWLast
import Derived.Test.YtpkafcoflgbnaaaWMore
import Derived.Test.YtpkafcoflgbnaaaProg
import Derived.Test.YtpkafcoflgbnaaaShelf
import Derived.OwnWalk
import Derived.Handy
import Derived.Deep.DeepMust
import Derived.Lib.Hide
import Derived.Outline
import Derived.IntWalk
import Derived.Deep.RegionWith
import Derived.Test.YtpkafcoflgbnaaaWh2
import Derived.BigQuiet
import Derived.Deep.QuietTactic
namespace Go.Proofs.Ytpkafcoflgbnaaa.Q
open Go.RowKit Go.Proofs.YtpkafcoflgbnaaaW.PrintWords Go.Proofs.YtpkafcoflgbnaaaW.PrintLast Go.Proofs.YtpkafcoflgbnaaaW.PrintMore 
set_option linter.unusedVariables false
set_option linter.unusedSimpArgs false
/-! CheckAlike, way by way. -/
def AtLater (w : World) (P : World → Prop) : Prop := ∀ W, Below w.heap.size w W → P W
def RetI (f : Nat) (args : Array Value) (r : Int) (W : World) : Prop := Calls Try.prog f args W fun e w' => e = .returned (.int .i64 r) ∧ Below W.heap.size W w'
def RetB (f : Nat) (args : Array Value) (r : Bool) (W : World) : Prop := Calls Try.prog f args W fun e w' => e = .returned (.bool r) ∧ Below W.heap.size W w'
def RetS (f : Nat) (args : Array Value) (r : ByteArray) (W : World) : Prop := Calls Try.prog f args W fun e w' => e = .returned (.string r) ∧ Below W.heap.size W w'
theorem AtLater.hid {w : World} {P : World → Prop} (h : AtLater w P) : Hid (AtLater w P) := h
def alikeA (A0 : Option Addr) (n0 c0 : Nat) (A1 : Option Addr) (n1 c1 : Nat) (A2 : Option Addr) (n2 c2 : Nat) : Array Value := #[.slice A0 n0 c0, .slice A1 n1 c1, .slice A2 n2 c2]
set_option maxHeartbeats 4000000 in
set_option maxRecDepth 100000 in
theorem alike_e0 (A0 : Option Addr) (n0 c0 : Nat) (A1 : Option Addr) (n1 c1 : Nat) (A2 : Option Addr) (n2 c2 : Nat) (e0 : Int) (w : World) (hne : e0 ≠ 0) (hv : RetI 32 #[.slice A0 n0 c0] e0 w) :
    Calls Try.prog 40 #[.slice A0 n0 c0, .slice A1 n1 c1, .slice A2 n2 c2] w fun e w' => e = .returned (.int .i64 e0) ∧ Below w.heap.size w w' := by
  have h1 : (e0 == 0) = false := by simpa using hne
  have h2 : (e0 != 0) = true := by simpa using hne
  clear hne
  unfold RetI at hv
  go_enter Try.func40, Try.ntmps40
  go_wp2_with (first | (go_at_call 32; go_must (with_reducible refine hv.mono ?_); rintro e w' ⟨rfl, hb⟩))
  first | go_end0 | go_returns | go_ret
  exact ⟨rfl, hb⟩
set_option maxHeartbeats 4000000 in
set_option maxRecDepth 100000 in
theorem alike_l1 (A0 : Option Addr) (n0 c0 : Nat) (A1 : Option Addr) (n1 c1 : Nat) (A2 : Option Addr) (n2 c2 : Nat) (w : World) (hv : RetI 32 #[.slice A0 n0 c0] 0 w) (hl : (n1 : Int) > 400) (hm : n1 ≤ 9223372036854775807) :
    Calls Try.prog 40 #[.slice A0 n0 c0, .slice A1 n1 c1, .slice A2 n2 c2] w fun e w' => e = .returned (.int .i64 3) ∧ Below w.heap.size w w' := by
  have h1 : decide ((n1 : Int) > 400) = true := decide_eq_true hl
  have h1' : decide (n1 > 400) = true := decide_eq_true (by omega)
  clear hl
  unfold RetI at hv
  go_enter Try.func40, Try.ntmps40
  go_wp2_with (first | (go_at_call 32; go_must (with_reducible refine hv.mono ?_); rintro e w' ⟨rfl, hb⟩))
  refine wp_loop_rounds 1 ?_
  rw [rounds_succ]
  go_wp2
  first | go_end0 | go_returns | go_ret
  exact ⟨rfl, hb.alloc hb.size _⟩
set_option maxHeartbeats 4000000 in
set_option maxRecDepth 100000 in
theorem alike_l2 (A0 : Option Addr) (n0 c0 : Nat) (A1 : Option Addr) (n1 c1 : Nat) (A2 : Option Addr) (n2 c2 : Nat) (w : World) (hv : RetI 32 #[.slice A0 n0 c0] 0 w) (hl1 : n1 ≤ 400) (hl : (n2 : Int) > 400) (hm : n2 ≤ 9223372036854775807) :
    Calls Try.prog 40 #[.slice A0 n0 c0, .slice A1 n1 c1, .slice A2 n2 c2] w fun e w' => e = .returned (.int .i64 3) ∧ Below w.heap.size w w' := by
  have g1 : decide ((n1 : Int) > 400) = false := decide_eq_false (by omega)
  have g1' : decide (n1 > 400) = false := decide_eq_false (by omega)
  have g2 : decide ((n2 : Int) > 400) = true := decide_eq_true hl
  have g2' : decide (n2 > 400) = true := decide_eq_true (by omega)
  clear hl hl1
  unfold RetI at hv
  go_enter Try.func40, Try.ntmps40
  go_wp2_with (first | (go_at_call 32; go_must (with_reducible refine hv.mono ?_); rintro _ w1 ⟨rfl, hb⟩; have hb1 := hb.alloc hb.size (.cells #[.slice A1 n1 c1, .slice A2 n2 c2] 35); have hb2 := hb1.alloc hb1.size (.cells #[.slice A1 n1 c1, .slice A2 n2 c2] 35)))
  refine wp_loop_rounds 2 ?_
  rw [rounds_succ]
  go_wp2
  rw [rounds_succ]
  go_wp2
  first | go_end0 | go_returns | go_ret
  exact ⟨rfl, hb1⟩
set_option maxHeartbeats 4000000 in
set_option maxRecDepth 100000 in
theorem alike_e1 (A0 : Option Addr) (n0 c0 : Nat) (A1 : Option Addr) (n1 c1 : Nat) (A2 : Option Addr) (n2 c2 : Nat) (w : World) (hv : RetI 32 #[.slice A0 n0 c0] 0 w) (hl1 : n1 ≤ 400) (hl2 : n2 ≤ 400) (ea : Int) (hne : ea ≠ 0) (ha : AtLater w (RetI 64 #[.slice A0 n0 c0, .slice A1 n1 c1] ea)) :
    Calls Try.prog 40 #[.slice A0 n0 c0, .slice A1 n1 c1, .slice A2 n2 c2] w fun e w' => e = .returned (.int .i64 ea) ∧ Below w.heap.size w w' := by
  have g1 : decide ((n1 : Int) > 400) = false := decide_eq_false (by omega)
  have g1' : decide (n1 > 400) = false := decide_eq_false (by omega)
  have g2 : decide ((n2 : Int) > 400) = false := decide_eq_false (by omega)
  have g2' : decide (n2 > 400) = false := decide_eq_false (by omega)
  have k1 : (ea == 0) = false := by simpa using hne
  have k2 : (ea != 0) = true := by simpa using hne
  have HMa := ha.hid
  clear hne ha
  clear hl1 hl2
  unfold RetI at hv
  go_enter Try.func40, Try.ntmps40
  go_wp2_with (first | (go_at_call 32; go_must (with_reducible refine hv.mono ?_); rintro _ w1 ⟨rfl, hb⟩; have hb1 := hb.alloc hb.size (.cells #[.slice A1 n1 c1, .slice A2 n2 c2] 35); have hb2 := hb1.alloc hb1.size (.cells #[.slice A1 n1 c1, .slice A2 n2 c2] 35); have hma := HMa.out _ hb2))
  refine wp_loop_rounds 3 ?_
  rw [rounds_succ]
  go_wp2
  rw [rounds_succ]
  go_wp2
  rw [rounds_succ]
  go_wp2
  refine wp_loop_rounds 1 ?_
  rw [rounds_succ]
  unfold RetI at hma
  go_wp2_with (first | (go_at_call 64; go_must (with_reducible refine hma.mono ?_); rintro _ w2 ⟨rfl, hb3⟩))
  first | go_end0 | go_returns | go_ret
  exact ⟨rfl, hb2.trans (hb3.mono hb2.size)⟩
set_option maxHeartbeats 4000000 in
set_option maxRecDepth 100000 in
theorem alike_e2 (A0 : Option Addr) (n0 c0 : Nat) (A1 : Option Addr) (n1 c1 : Nat) (A2 : Option Addr) (n2 c2 : Nat) (w : World) (hv : RetI 32 #[.slice A0 n0 c0] 0 w) (hl1 : n1 ≤ 400) (hl2 : n2 ≤ 400) (ha : AtLater w (RetI 64 #[.slice A0 n0 c0, .slice A1 n1 c1] 0)) (eb : Int) (hne : eb ≠ 0) (hbm : AtLater w (RetI 64 #[.slice A0 n0 c0, .slice A2 n2 c2] eb)) :
    Calls Try.prog 40 #[.slice A0 n0 c0, .slice A1 n1 c1, .slice A2 n2 c2] w fun e w' => e = .returned (.int .i64 eb) ∧ Below w.heap.size w w' := by
  have g1 : decide ((n1 : Int) > 400) = false := decide_eq_false (by omega)
  have g1' : decide (n1 > 400) = false := decide_eq_false (by omega)
  have g2 : decide ((n2 : Int) > 400) = false := decide_eq_false (by omega)
  have g2' : decide (n2 > 400) = false := decide_eq_false (by omega)
  have HMa := ha.hid
  have HMb := hbm.hid
  clear ha hbm
  have k1 : (eb == 0) = false := by simpa using hne
  have k2 : (eb != 0) = true := by simpa using hne
  clear hne
  clear hl1 hl2
  unfold RetI at hv
  go_enter Try.func40, Try.ntmps40
  go_wp2_with (first | (go_at_call 32; go_must (with_reducible refine hv.mono ?_); rintro _ w1 ⟨rfl, hb⟩; have hb1 := hb.alloc hb.size (.cells #[.slice A1 n1 c1, .slice A2 n2 c2] 35); have hb2 := hb1.alloc hb1.size (.cells #[.slice A1 n1 c1, .slice A2 n2 c2] 35); have hma := HMa.out _ hb2; unfold RetI at hma))
  refine wp_loop_rounds 3 ?_
  rw [rounds_succ]
  go_wp2
  rw [rounds_succ]
  go_wp2
  rw [rounds_succ]
  go_wp2
  refine wp_loop_rounds 3 ?_
  rw [rounds_succ]
  go_wp2_with (first | (go_at_call 64; (with_reducible refine hma.mono ?_); rintro _ w2 ⟨rfl, hb3⟩; have hb4 := hb2.trans (hb3.mono hb2.size); have hmb := HMb.out _ hb4; unfold RetI at hmb; have hcl := hb3.cell (p := ⟨w1.heap.size + 1, 1, none⟩) (by simp)))
  rw [rounds_succ]
  go_wp2_with (first | (go_at_call 64; go_must (with_reducible refine hmb.mono ?_); rintro _ w3 ⟨rfl, hb5⟩; have hb6 := hb4.trans (hb5.mono hb4.size)))
  first | go_end0 | go_returns | go_ret
  exact ⟨rfl, hb6⟩
set_option maxHeartbeats 4000000 in
set_option maxRecDepth 100000 in
theorem alike_eq (A0 : Option Addr) (n0 c0 : Nat) (A1 : Option Addr) (n1 c1 : Nat) (A2 : Option Addr) (n2 c2 : Nat) (w : World) (hv : RetI 32 #[.slice A0 n0 c0] 0 w) (hl1 : n1 ≤ 400) (hl2 : n2 ≤ 400) (ha : AtLater w (RetI 64 #[.slice A0 n0 c0, .slice A1 n1 c1] 0)) (hbm : AtLater w (RetI 64 #[.slice A0 n0 c0, .slice A2 n2 c2] 0)) (hq : AtLater w (RetB 82 #[.slice A1 n1 c1, .slice A2 n2 c2] true)) :
    Calls Try.prog 40 #[.slice A0 n0 c0, .slice A1 n1 c1, .slice A2 n2 c2] w fun e w' => e = .returned (.int .i64 7) ∧ Below w.heap.size w w' := by
  have g1 : decide ((n1 : Int) > 400) = false := decide_eq_false (by omega)
  have g1' : decide (n1 > 400) = false := decide_eq_false (by omega)
  have g2 : decide ((n2 : Int) > 400) = false := decide_eq_false (by omega)
  have g2' : decide (n2 > 400) = false := decide_eq_false (by omega)
  have HMa := ha.hid
  have HMb := hbm.hid
  clear ha hbm
  have HEq := hq.hid
  clear hq
  clear hl1 hl2
  unfold RetI at hv
  go_enter Try.func40, Try.ntmps40
  go_wp2_with (first | (go_at_call 32; go_must (with_reducible refine hv.mono ?_); rintro _ w1 ⟨rfl, hb⟩; have hb1 := hb.alloc hb.size (.cells #[.slice A1 n1 c1, .slice A2 n2 c2] 35); have hb2 := hb1.alloc hb1.size (.cells #[.slice A1 n1 c1, .slice A2 n2 c2] 35); have hma := HMa.out _ hb2; unfold RetI at hma))
  refine wp_loop_rounds 3 ?_
  rw [rounds_succ]
  go_wp2
  rw [rounds_succ]
  go_wp2
  rw [rounds_succ]
  go_wp2
  refine wp_loop_rounds 3 ?_
  rw [rounds_succ]
  go_wp2_with (first | (go_at_call 64; (with_reducible refine hma.mono ?_); rintro _ w2 ⟨rfl, hb3⟩; have hb4 := hb2.trans (hb3.mono hb2.size); have hmb := HMb.out _ hb4; unfold RetI at hmb; have hcl := hb3.cell (p := ⟨w1.heap.size + 1, 1, none⟩) (by simp)))
  rw [rounds_succ]
  go_wp2_with (first | (go_at_call 64; go_must (with_reducible refine hmb.mono ?_); rintro _ w3 ⟨rfl, hb5⟩; have hb6 := hb4.trans (hb5.mono hb4.size); have heq := HEq.out _ hb6; unfold RetB at heq))
  rw [rounds_succ]
  go_wp2_with (first | (go_at_call 82; go_must (with_reducible refine heq.mono ?_); rintro _ w4 ⟨rfl, hb7⟩; have hb8 := hb6.trans (hb7.mono hb6.size)))
  first | go_end0 | go_returns | go_ret
  exact ⟨rfl, hb8⟩
set_option maxHeartbeats 4000000 in
set_option maxRecDepth 100000 in
theorem alike_ne (A0 : Option Addr) (n0 c0 : Nat) (A1 : Option Addr) (n1 c1 : Nat) (A2 : Option Addr) (n2 c2 : Nat) (w : World) (hv : RetI 32 #[.slice A0 n0 c0] 0 w) (hl1 : n1 ≤ 400) (hl2 : n2 ≤ 400) (ha : AtLater w (RetI 64 #[.slice A0 n0 c0, .slice A1 n1 c1] 0)) (hbm : AtLater w (RetI 64 #[.slice A0 n0 c0, .slice A2 n2 c2] 0)) (hq : AtLater w (RetB 82 #[.slice A1 n1 c1, .slice A2 n2 c2] false)) (sa sb : ByteArray) (hsa : AtLater w (RetS 65 #[.slice A0 n0 c0, .slice A1 n1 c1] sa)) (hsb : AtLater w (RetS 65 #[.slice A0 n0 c0, .slice A2 n2 c2] sb)) (hs : (sa.toList != sb.toList) = true) :
    Calls Try.prog 40 #[.slice A0 n0 c0, .slice A1 n1 c1, .slice A2 n2 c2] w fun e w' => e = .returned (.int .i64 7) ∧ Below w.heap.size w w' := by
  have g1 : decide ((n1 : Int) > 400) = false := decide_eq_false (by omega)
  have g1' : decide (n1 > 400) = false := decide_eq_false (by omega)
  have g2 : decide ((n2 : Int) > 400) = false := decide_eq_false (by omega)
  have g2' : decide (n2 > 400) = false := decide_eq_false (by omega)
  have HMa := ha.hid
  have HMb := hbm.hid
  clear ha hbm
  have HEq := hq.hid
  have HSa := hsa.hid
  have HSb := hsb.hid
  have hs2 : (sa.toList == sb.toList) = false := by
    cases h : (sa.toList == sb.toList)
    · simp [bne, h] at hs ⊢
    · simp [bne, h] at hs 
  clear hq hsa hsb
  clear hl1 hl2
  unfold RetI at hv
  go_enter Try.func40, Try.ntmps40
  go_wp2_with (first | (go_at_call 32; go_must (with_reducible refine hv.mono ?_); rintro _ w1 ⟨rfl, hb⟩; have hb1 := hb.alloc hb.size (.cells #[.slice A1 n1 c1, .slice A2 n2 c2] 35); have hb2 := hb1.alloc hb1.size (.cells #[.slice A1 n1 c1, .slice A2 n2 c2] 35); have hma := HMa.out _ hb2; unfold RetI at hma))
  refine wp_loop_rounds 3 ?_
  rw [rounds_succ]
  go_wp2
  rw [rounds_succ]
  go_wp2
  rw [rounds_succ]
  go_wp2
  refine wp_loop_rounds 3 ?_
  rw [rounds_succ]
  go_wp2_with (first | (go_at_call 64; (with_reducible refine hma.mono ?_); rintro _ w2 ⟨rfl, hb3⟩; have hb4 := hb2.trans (hb3.mono hb2.size); have hmb := HMb.out _ hb4; unfold RetI at hmb; have hcl := hb3.cell (p := ⟨w1.heap.size + 1, 1, none⟩) (by simp)))
  rw [rounds_succ]
  go_wp2_with (first | (go_at_call 64; go_must (with_reducible refine hmb.mono ?_); rintro _ w3 ⟨rfl, hb5⟩; have hb6 := hb4.trans (hb5.mono hb4.size); have heq := HEq.out _ hb6; unfold RetB at heq))
  rw [rounds_succ]
  go_wp2_with (first | (go_at_call 82; go_must (with_reducible refine heq.mono ?_); rintro _ w4 ⟨rfl, hb7⟩; have hb8 := hb6.trans (hb7.mono hb6.size); have hca := HSa.out _ hb8; unfold RetS at hca) | (go_at_call 65; (with_reducible refine hca.mono ?_); rintro _ w5 ⟨rfl, hb9⟩; have hb10 := hb8.trans (hb9.mono hb8.size); have hcb := HSb.out _ hb10; unfold RetS at hcb) | (go_at_call 65; go_must (with_reducible refine hcb.mono ?_); rintro _ w6 ⟨rfl, hb11⟩; have hb12 := hb10.trans (hb11.mono hb10.size)))
  first | go_end0 | go_returns | go_ret
  exact ⟨rfl, hb12⟩
set_option maxHeartbeats 4000000 in
set_option maxRecDepth 100000 in
theorem alike_ok (A0 : Option Addr) (n0 c0 : Nat) (A1 : Option Addr) (n1 c1 : Nat) (A2 : Option Addr) (n2 c2 : Nat) (w : World) (hv : RetI 32 #[.slice A0 n0 c0] 0 w) (hl1 : n1 ≤ 400) (hl2 : n2 ≤ 400) (ha : AtLater w (RetI 64 #[.slice A0 n0 c0, .slice A1 n1 c1] 0)) (hbm : AtLater w (RetI 64 #[.slice A0 n0 c0, .slice A2 n2 c2] 0)) (hq : AtLater w (RetB 82 #[.slice A1 n1 c1, .slice A2 n2 c2] false)) (sa sb : ByteArray) (hsa : AtLater w (RetS 65 #[.slice A0 n0 c0, .slice A1 n1 c1] sa)) (hsb : AtLater w (RetS 65 #[.slice A0 n0 c0, .slice A2 n2 c2] sb)) (hs : (sa.toList != sb.toList) = false) :
    Calls Try.prog 40 #[.slice A0 n0 c0, .slice A1 n1 c1, .slice A2 n2 c2] w fun e w' => e = .returned (.int .i64 0) ∧ Below w.heap.size w w' := by
  have g1 : decide ((n1 : Int) > 400) = false := decide_eq_false (by omega)
  have g1' : decide (n1 > 400) = false := decide_eq_false (by omega)
  have g2 : decide ((n2 : Int) > 400) = false := decide_eq_false (by omega)
  have g2' : decide (n2 > 400) = false := decide_eq_false (by omega)
  have HMa := ha.hid
  have HMb := hbm.hid
  clear ha hbm
  have HEq := hq.hid
  have HSa := hsa.hid
  have HSb := hsb.hid
  have hs2 : (sa.toList == sb.toList) = true := by
    cases h : (sa.toList == sb.toList)
    · simp [bne, h] at hs 
    · simp [bne, h] at hs ⊢
  clear hq hsa hsb
  clear hl1 hl2
  unfold RetI at hv
  go_enter Try.func40, Try.ntmps40
  go_wp2_with (first | (go_at_call 32; go_must (with_reducible refine hv.mono ?_); rintro _ w1 ⟨rfl, hb⟩; have hb1 := hb.alloc hb.size (.cells #[.slice A1 n1 c1, .slice A2 n2 c2] 35); have hb2 := hb1.alloc hb1.size (.cells #[.slice A1 n1 c1, .slice A2 n2 c2] 35); have hma := HMa.out _ hb2; unfold RetI at hma))
  refine wp_loop_rounds 3 ?_
  rw [rounds_succ]
  go_wp2
  rw [rounds_succ]
  go_wp2
  rw [rounds_succ]
  go_wp2
  refine wp_loop_rounds 3 ?_
  rw [rounds_succ]
  go_wp2_with (first | (go_at_call 64; (with_reducible refine hma.mono ?_); rintro _ w2 ⟨rfl, hb3⟩; have hb4 := hb2.trans (hb3.mono hb2.size); have hmb := HMb.out _ hb4; unfold RetI at hmb; have hcl := hb3.cell (p := ⟨w1.heap.size + 1, 1, none⟩) (by simp)))
  rw [rounds_succ]
  go_wp2_with (first | (go_at_call 64; go_must (with_reducible refine hmb.mono ?_); rintro _ w3 ⟨rfl, hb5⟩; have hb6 := hb4.trans (hb5.mono hb4.size); have heq := HEq.out _ hb6; unfold RetB at heq))
  rw [rounds_succ]
  go_wp2_with (first | (go_at_call 82; go_must (with_reducible refine heq.mono ?_); rintro _ w4 ⟨rfl, hb7⟩; have hb8 := hb6.trans (hb7.mono hb6.size); have hca := HSa.out _ hb8; unfold RetS at hca) | (go_at_call 65; (with_reducible refine hca.mono ?_); rintro _ w5 ⟨rfl, hb9⟩; have hb10 := hb8.trans (hb9.mono hb8.size); have hcb := HSb.out _ hb10; unfold RetS at hcb) | (go_at_call 65; go_must (with_reducible refine hcb.mono ?_); rintro _ w6 ⟨rfl, hb11⟩; have hb12 := hb10.trans (hb11.mono hb10.size)))
  first | go_end0 | go_returns | go_ret
  exact ⟨rfl, hb12⟩
/-! The reference's leftover; its Sound and CheckAlike over lists of messages. -/
def leftP (x y : ByteArray) : ByteArray × Bool := if y.size < x.size then (x.extract y.size x.size, headB x y) else (y.extract x.size y.size, decide (x.size < y.size) && headB y x)
theorem left_walk (x y : ByteArray) (w : World) (hx : x.size ≤ 9223372036854775807) (hy : y.size ≤ 9223372036854775807) (hbeg : ∀ a b W, Calls Try.prog 59 #[.string a, .string b] W fun e w' => e = .returned (.bool (headB a b)) ∧ ∃ q, w' = W.drewN q) :
    Calls Try.prog 99 #[.string x, .string y] w fun e w' => e = .returned (.tuple #[.string (leftP x y).1, .bool (leftP x y).2]) ∧ Below w.heap.size w w' := by
  by_cases h : y.size < x.size
  · have Hl := Lib.hid (show leftP x y = (x.extract y.size x.size, headB x y) by unfold leftP; rw [if_pos h])
    rw [Hl.out]
    have h1 : decide ((x.size : Int) > (y.size : Int)) = true := decide_eq_true (by omega)
    have h1' : decide (x.size > y.size) = true := decide_eq_true h
    have h2 : decide ((y.size : Int) < (x.size : Int)) = true := decide_eq_true (by omega)
    have h2' : decide (y.size < x.size) = true := decide_eq_true h
    have h3 : ¬ x.size < y.size := by omega
    have hb := fun W => hbeg x y W
    clear hbeg
    go_enter Try.func99, Try.ntmps99
    go_wp2
    go_quiet ((go_at_call 59; exact Calls.quiet_of (hb _)))
    go_wp2
    go_ret2
    refine ⟨?_, pw_below_drewN (Below.refl _ _) _⟩
    show Ending.returned (.tuple #[.string (x.extract (min (y.size : Int) (x.size : Int)).toNat x.size), .bool (headB x y)]) = _
    rw [show (min (y.size : Int) (x.size : Int)).toNat = y.size by omega]
  · by_cases h0 : x.size < y.size
    · have Hl := Lib.hid (show leftP x y = (y.extract x.size y.size, headB y x) by unfold leftP; rw [if_neg h, decide_eq_true h0]; rfl)
      rw [Hl.out]
      have h1 : decide ((x.size : Int) > (y.size : Int)) = false := decide_eq_false (by omega)
      have h1' : decide (x.size > y.size) = false := decide_eq_false h
      have h2 : decide ((x.size : Int) < (y.size : Int)) = true := decide_eq_true (by omega)
      have h2' : decide (x.size < y.size) = true := decide_eq_true h0
      have hb := fun W => hbeg y x W
      clear hbeg
      go_enter Try.func99, Try.ntmps99
      go_wp2
      go_quiet ((go_at_call 59; exact Calls.quiet_of (hb _)))
      go_wp2
      go_ret2
      refine ⟨?_, pw_below_drewN (Below.refl _ _) _⟩
      show Ending.returned (.tuple #[.string (y.extract (min (x.size : Int) (y.size : Int)).toNat y.size), .bool (headB y x)]) = _
      rw [show (min (x.size : Int) (y.size : Int)).toNat = x.size by omega]
    · have Hl := Lib.hid (show leftP x y = (y.extract x.size y.size, false) by unfold leftP; rw [if_neg h, decide_eq_false h0]; rfl)
      rw [Hl.out]
      have e : x.size = y.size := by omega
      have h1 : decide ((x.size : Int) > (y.size : Int)) = false := decide_eq_false (by omega)
      have h1' : decide (x.size > y.size) = false := decide_eq_false h
      have h2 : decide ((x.size : Int) < (y.size : Int)) = false := decide_eq_false (by omega)
      have h2' : decide (x.size < y.size) = false := decide_eq_false h0
      have hle : x.size ≤ y.size := by omega
      clear hbeg e
      go_enter Try.func99, Try.ntmps99
      go_wp2
      go_quiet (fail)
      go_wp2
      go_ret2
      refine ⟨?_, pw_below_drewN (Below.refl _ _) _⟩
      show Ending.returned (.tuple #[.string (y.extract (min (x.size : Int) (y.size : Int)).toNat y.size), .bool (false)]) = _
      rw [show (min (x.size : Int) (y.size : Int)).toNat = x.size by omega]
/-- A list of messages that the call has just laid out. -/
theorem rows_at {W : World} {b : Nat} {L : List (List Int)} (hn : L.length ≤ 9223372036854775807) (h : ∀ j, j < L.length → ∃ A c, W.cell? ⟨b, j, none⟩ = some (.slice A (L.getD j []).length c) ∧ (L.getD j []).length ≤ c ∧ Kd.C (Kd.int .i64) W A (L.getD j []).length (L.getD j [])) :
    Kd.C (Kd.slice 3 (Kd.int .i64)) W (some ⟨b, 0, none⟩) L.length L := by
  refine ⟨rfl, hn, fun _ => ⟨_, rfl, fun j p hj => ?_⟩⟩
  obtain ⟨hlt, hp⟩ := List.getElem?_eq_some_iff.1 hj
  obtain ⟨A, c, h1, h2, h3⟩ := h j hlt
  have e : L.getD j [] = p := by rw [List.getD_eq_getElem?_getD, hj]; rfl
  rw [e] at h1 h2 h3
  refine ⟨[.slice A p.length c], rfl, ⟨A, c, rfl, h2, h3⟩, fun i u hu => ?_⟩
  have hi : i = 0 := by
    have := (List.getElem?_eq_some_iff.1 hu).1
    simp at this; omega
  subst hi
  simp at hu
  subst hu
  rw [show j * (Kd.slice 3 (Kd.int .i64)).sz + 0 = j from Nat.mul_one j, add_none, Nat.zero_add]
  exact h1
def Msgs (A0 : Option Addr) (n0 c0 : Nat) (n : Nat) (L : World → Option Addr → Prop) (r : Int) (w : World) : Prop := ∀ W b, Below w.heap.size w W → L W (some ⟨b, 0, none⟩) → Calls Try.prog 66 #[.slice A0 n0 c0, .slice (some ⟨b, 0, none⟩) n n] W fun e w' => e = .returned (.int .i64 r) ∧ Below W.heap.size W w'
theorem rsound_e0 (A0 : Option Addr) (n0 c0 : Nat) (A1 : Option Addr) (n1 c1 : Nat) (e0 : Int) (w : World) (hne : e0 ≠ 0) (hv : RetI 33 #[.slice A0 n0 c0] e0 w) :
    Calls Try.prog 31 #[.slice A0 n0 c0, .slice A1 n1 c1] w fun e w' => e = .returned (.tuple #[.string ⟨#[]⟩, .int .i64 e0]) ∧ Below w.heap.size w w' := by
  have h1 : (e0 == 0) = false := by simpa using hne
  have h2 : (e0 != 0) = true := by simpa using hne
  clear hne
  unfold RetI at hv
  go_enter Try.func31, Try.ntmps31
  go_wp2_with (first | (go_at_call 33; go_must (with_reducible refine hv.mono ?_); rintro e w' ⟨rfl, hb⟩))
  go_ret2
  exact ⟨rfl, hb⟩
set_option maxHeartbeats 2000000 in
theorem rsound_e1 (A0 : Option Addr) (n0 c0 : Nat) (A1 : Option Addr) (n1 c1 : Nat) (e1 : Int) (w : World) (hne : e1 ≠ 0) (hv : RetI 33 #[.slice A0 n0 c0] 0 w) (hm : ∀ W, Below w.heap.size w W → RetI 66 #[.slice A0 n0 c0, .slice (some ⟨W.heap.size, 0, none⟩) 1 1] e1 (W.alloc (.cells #[.slice A1 n1 c1] 35))) :
    Calls Try.prog 31 #[.slice A0 n0 c0, .slice A1 n1 c1] w fun e w' => e = .returned (.tuple #[.string ⟨#[]⟩, .int .i64 e1]) ∧ Below w.heap.size w w' := by
  have h1 : (e1 == 0) = false := by simpa using hne
  have h2 : (e1 != 0) = true := by simpa using hne
  clear hne
  have HM := Lib.hid hm
  clear hm
  unfold RetI at hv
  go_enter Try.func31, Try.ntmps31
  go_wp2_with (first | (go_at_call 33; go_must (with_reducible refine hv.mono ?_); rintro _ w1 ⟨rfl, hb⟩; have hm1 := HM.out _ hb; unfold RetI at hm1) | (go_at_call 66; go_must (with_reducible refine hm1.mono ?_); rintro _ w2 ⟨rfl, hb2⟩))
  go_ret2
  exact ⟨rfl, (hb.alloc hb.size _).trans (hb2.mono (hb.alloc hb.size _).size)⟩
set_option maxHeartbeats 2000000 in
theorem rsound_ok (A0 : Option Addr) (n0 c0 : Nat) (A1 : Option Addr) (n1 c1 : Nat) (s : ByteArray) (w : World) (hv : RetI 33 #[.slice A0 n0 c0] 0 w) (hm : ∀ W, Below w.heap.size w W → RetI 66 #[.slice A0 n0 c0, .slice (some ⟨W.heap.size, 0, none⟩) 1 1] 0 (W.alloc (.cells #[.slice A1 n1 c1] 35)))
    (hs : AtLater w (RetS 67 #[.slice A0 n0 c0, .slice A1 n1 c1] s)) :
    Calls Try.prog 31 #[.slice A0 n0 c0, .slice A1 n1 c1] w fun e w' => e = .returned (.tuple #[.string s, .int .i64 0]) ∧ Below w.heap.size w w' := by
  have HM := Lib.hid hm
  have HS := hs.hid
  clear hm hs
  unfold RetI at hv
  go_enter Try.func31, Try.ntmps31
  go_wp2_with (first | (go_at_call 33; go_must (with_reducible refine hv.mono ?_); rintro _ w1 ⟨rfl, hb⟩; have hm1 := HM.out _ hb; unfold RetI at hm1; have hb1 := hb.alloc hb.size (.cells #[.slice A1 n1 c1] 35)) | (go_at_call 66; go_must (with_reducible refine hm1.mono ?_); rintro _ w2 ⟨rfl, hb2⟩; have hb3 := hb1.trans (hb2.mono hb1.size); have hs1 := HS.out _ hb3; unfold RetS at hs1) | (go_at_call 67; go_must (with_reducible refine hs1.mono ?_); rintro _ w3 ⟨rfl, hb4⟩))
  go_ret2
  exact ⟨rfl, hb3.trans (hb4.mono hb3.size)⟩
set_option maxHeartbeats 4000000 in
set_option maxRecDepth 100000 in
theorem ralike_e0 (A0 : Option Addr) (n0 c0 : Nat) (A1 : Option Addr) (n1 c1 : Nat) (A2 : Option Addr) (n2 c2 : Nat) (w : World) (e0 : Int) (hne : e0 ≠ 0) (hv : RetI 33 #[.slice A0 n0 c0] e0 w) :
    Calls Try.prog 39 #[.slice A0 n0 c0, .slice A1 n1 c1, .slice A2 n2 c2] w fun e w' => e = .returned (.int .i64 e0) ∧ Below w.heap.size w w' := by
  have h1 : (e0 == 0) = false := by simpa using hne
  have h2 : (e0 != 0) = true := by simpa using hne
  clear hne
  unfold RetI at hv
  go_enter Try.func39, Try.ntmps39
  go_wp2_with (first | (go_at_call 33; go_must (with_reducible refine hv.mono ?_); rintro e w' ⟨rfl, hb⟩))
  first | go_end0 | go_returns | go_ret
  exact ⟨rfl, hb⟩
set_option maxHeartbeats 4000000 in
set_option maxRecDepth 100000 in
theorem ralike_e1 (A0 : Option Addr) (n0 c0 : Nat) (A1 : Option Addr) (n1 c1 : Nat) (A2 : Option Addr) (n2 c2 : Nat) (w : World) (e1 : Int) (hne : e1 ≠ 0) (hv : RetI 33 #[.slice A0 n0 c0] 0 w) (hm : ∀ W, Below w.heap.size w W → RetI 66 #[.slice A0 n0 c0, .slice (some ⟨W.heap.size, 0, none⟩) 2 2] e1 (W.alloc (.cells #[.slice A1 n1 c1, .slice A2 n2 c2] 35))) :
    Calls Try.prog 39 #[.slice A0 n0 c0, .slice A1 n1 c1, .slice A2 n2 c2] w fun e w' => e = .returned (.int .i64 e1) ∧ Below w.heap.size w w' := by
  have h1 : (e1 == 0) = false := by simpa using hne
  have h2 : (e1 != 0) = true := by simpa using hne
  clear hne
  have HM := Lib.hid hm
  clear hm
  unfold RetI at hv
  go_enter Try.func39, Try.ntmps39
  go_wp2_with (first | (go_at_call 33; go_must (with_reducible refine hv.mono ?_); rintro _ w1 ⟨rfl, hb⟩; have hm1 := HM.out _ hb; unfold RetI at hm1; have hb1 := hb.alloc hb.size (.cells #[.slice A1 n1 c1, .slice A2 n2 c2] 35)) | (go_at_call 66; go_must (with_reducible refine hm1.mono ?_); rintro _ w2 ⟨rfl, hb2⟩; have hb3 := hb1.trans (hb2.mono hb1.size)))
  first | go_end0 | go_returns | go_ret
  exact ⟨rfl, hb3⟩
set_option maxHeartbeats 4000000 in
set_option maxRecDepth 100000 in
theorem ralike_eq (A0 : Option Addr) (n0 c0 : Nat) (A1 : Option Addr) (n1 c1 : Nat) (A2 : Option Addr) (n2 c2 : Nat) (w : World) (hv : RetI 33 #[.slice A0 n0 c0] 0 w) (hm : ∀ W, Below w.heap.size w W → RetI 66 #[.slice A0 n0 c0, .slice (some ⟨W.heap.size, 0, none⟩) 2 2] 0 (W.alloc (.cells #[.slice A1 n1 c1, .slice A2 n2 c2] 35))) (hq : AtLater w (RetB 51 #[.slice A1 n1 c1, .slice A2 n2 c2] true)) :
    Calls Try.prog 39 #[.slice A0 n0 c0, .slice A1 n1 c1, .slice A2 n2 c2] w fun e w' => e = .returned (.int .i64 7) ∧ Below w.heap.size w w' := by
  have HM := Lib.hid hm
  have HQ := hq.hid
  clear hm hq
  unfold RetI at hv
  go_enter Try.func39, Try.ntmps39
  go_wp2_with (first | (go_at_call 33; go_must (with_reducible refine hv.mono ?_); rintro _ w1 ⟨rfl, hb⟩; have hm1 := HM.out _ hb; unfold RetI at hm1; have hb1 := hb.alloc hb.size (.cells #[.slice A1 n1 c1, .slice A2 n2 c2] 35)) | (go_at_call 66; go_must (with_reducible refine hm1.mono ?_); rintro _ w2 ⟨rfl, hb2⟩; have hb3 := hb1.trans (hb2.mono hb1.size); have hq1 := HQ.out _ hb3; unfold RetB at hq1) | (go_at_call 51; go_must (with_reducible refine hq1.mono ?_); rintro _ w3 ⟨rfl, hb4⟩))
  first | go_end0 | go_returns | go_ret
  exact ⟨rfl, hb3.trans (hb4.mono hb3.size)⟩
set_option maxHeartbeats 4000000 in
set_option maxRecDepth 100000 in
theorem ralike_ne (A0 : Option Addr) (n0 c0 : Nat) (A1 : Option Addr) (n1 c1 : Nat) (A2 : Option Addr) (n2 c2 : Nat) (w : World) (hv : RetI 33 #[.slice A0 n0 c0] 0 w) (hm : ∀ W, Below w.heap.size w W → RetI 66 #[.slice A0 n0 c0, .slice (some ⟨W.heap.size, 0, none⟩) 2 2] 0 (W.alloc (.cells #[.slice A1 n1 c1, .slice A2 n2 c2] 35))) (hq : AtLater w (RetB 51 #[.slice A1 n1 c1, .slice A2 n2 c2] false)) (sa sb : ByteArray) (hsa : AtLater w (RetS 67 #[.slice A0 n0 c0, .slice A1 n1 c1] sa)) (hsb : AtLater w (RetS 67 #[.slice A0 n0 c0, .slice A2 n2 c2] sb)) (hs : (sa.toList != sb.toList) = true) :
    Calls Try.prog 39 #[.slice A0 n0 c0, .slice A1 n1 c1, .slice A2 n2 c2] w fun e w' => e = .returned (.int .i64 7) ∧ Below w.heap.size w w' := by
  have HM := Lib.hid hm
  have HQ := hq.hid
  have HSa := hsa.hid
  have HSb := hsb.hid
  have hs2 : (sa.toList == sb.toList) = false := by
    cases h : (sa.toList == sb.toList)
    · simp [bne, h] at hs ⊢
    · simp [bne, h] at hs ⊢
  clear hm hq hsa hsb
  unfold RetI at hv
  go_enter Try.func39, Try.ntmps39
  go_wp2_with (first | (go_at_call 33; go_must (with_reducible refine hv.mono ?_); rintro _ w1 ⟨rfl, hb⟩; have hm1 := HM.out _ hb; unfold RetI at hm1; have hb1 := hb.alloc hb.size (.cells #[.slice A1 n1 c1, .slice A2 n2 c2] 35)) | (go_at_call 66; go_must (with_reducible refine hm1.mono ?_); rintro _ w2 ⟨rfl, hb2⟩; have hb3 := hb1.trans (hb2.mono hb1.size); have hq1 := HQ.out _ hb3; unfold RetB at hq1) | (go_at_call 51; go_must (with_reducible refine hq1.mono ?_); rintro _ w3 ⟨rfl, hb4⟩; have hb5 := hb3.trans (hb4.mono hb3.size); have hca := HSa.out _ hb5; unfold RetS at hca) | (go_at_call 67; (with_reducible refine hca.mono ?_); rintro _ w4 ⟨rfl, hb6⟩; have hb7 := hb5.trans (hb6.mono hb5.size); have hcb := HSb.out _ hb7; unfold RetS at hcb) | (go_at_call 67; go_must (with_reducible refine hcb.mono ?_); rintro _ w5 ⟨rfl, hb8⟩; have hb9 := hb7.trans (hb8.mono hb7.size)))
  first | go_end0 | go_returns | go_ret
  exact ⟨rfl, hb9⟩
set_option maxHeartbeats 4000000 in
set_option maxRecDepth 100000 in
theorem ralike_ok (A0 : Option Addr) (n0 c0 : Nat) (A1 : Option Addr) (n1 c1 : Nat) (A2 : Option Addr) (n2 c2 : Nat) (w : World) (hv : RetI 33 #[.slice A0 n0 c0] 0 w) (hm : ∀ W, Below w.heap.size w W → RetI 66 #[.slice A0 n0 c0, .slice (some ⟨W.heap.size, 0, none⟩) 2 2] 0 (W.alloc (.cells #[.slice A1 n1 c1, .slice A2 n2 c2] 35))) (hq : AtLater w (RetB 51 #[.slice A1 n1 c1, .slice A2 n2 c2] false)) (sa sb : ByteArray) (hsa : AtLater w (RetS 67 #[.slice A0 n0 c0, .slice A1 n1 c1] sa)) (hsb : AtLater w (RetS 67 #[.slice A0 n0 c0, .slice A2 n2 c2] sb)) (hs : (sa.toList != sb.toList) = false) :
    Calls Try.prog 39 #[.slice A0 n0 c0, .slice A1 n1 c1, .slice A2 n2 c2] w fun e w' => e = .returned (.int .i64 0) ∧ Below w.heap.size w w' := by
  have HM := Lib.hid hm
  have HQ := hq.hid
  have HSa := hsa.hid
  have HSb := hsb.hid
  have hs2 : (sa.toList == sb.toList) = true := by
    cases h : (sa.toList == sb.toList)
    · simp [bne, h] at hs ⊢
    · simp [bne, h] at hs ⊢
  clear hm hq hsa hsb
  unfold RetI at hv
  go_enter Try.func39, Try.ntmps39
  go_wp2_with (first | (go_at_call 33; go_must (with_reducible refine hv.mono ?_); rintro _ w1 ⟨rfl, hb⟩; have hm1 := HM.out _ hb; unfold RetI at hm1; have hb1 := hb.alloc hb.size (.cells #[.slice A1 n1 c1, .slice A2 n2 c2] 35)) | (go_at_call 66; go_must (with_reducible refine hm1.mono ?_); rintro _ w2 ⟨rfl, hb2⟩; have hb3 := hb1.trans (hb2.mono hb1.size); have hq1 := HQ.out _ hb3; unfold RetB at hq1) | (go_at_call 51; go_must (with_reducible refine hq1.mono ?_); rintro _ w3 ⟨rfl, hb4⟩; have hb5 := hb3.trans (hb4.mono hb3.size); have hca := HSa.out _ hb5; unfold RetS at hca) | (go_at_call 67; (with_reducible refine hca.mono ?_); rintro _ w4 ⟨rfl, hb6⟩; have hb7 := hb5.trans (hb6.mono hb5.size); have hcb := HSb.out _ hb7; unfold RetS at hcb) | (go_at_call 67; go_must (with_reducible refine hcb.mono ?_); rintro _ w5 ⟨rfl, hb8⟩; have hb9 := hb7.trans (hb8.mono hb7.size)))
  first | go_end0 | go_returns | go_ret
  exact ⟨rfl, hb9⟩
end Go.Proofs.Ytpkafcoflgbnaaa.Q
