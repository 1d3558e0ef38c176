/- CheckAlike. -/
import Derived.Test.YtpkafcoflgbnaaaWLast
import Derived.Test.YtpkafcoflgbnaaaWMore
import Derived.Test.YtpkafcoflgbnaaaProg
import Derived.Test.YtpkafcoflgbnaaaShelf
import Derived.OwnWalk
import Derived.Handy
import Derived.Deep.DeepMust
import Derived.Lib.Hide
import Derived.Outline
import Derived.IntWalk
import Derived.Deep.RegionWith
import Derived.Test.YtpkafcoflgbnaaaWhG
namespace Go.Proofs.Ytpkafcoflgbnaaa.Q
open Go.RowKit Go.Proofs.YtpkafcoflgbnaaaW.PrintWords Go.Proofs.YtpkafcoflgbnaaaW.PrintLast Go.Proofs.YtpkafcoflgbnaaaW.PrintMore 
set_option linter.unusedVariables false
set_option linter.unusedSimpArgs false
/-! CheckAlike, way by way. -/
def AtLater (w : World) (P : World → Prop) : Prop := ∀ W, Below w.heap.size w W → P W
def RetI (f : Nat) (args : Array Value) (r : Int) (W : World) : Prop := Calls Try.prog f args W fun e w' => e = .returned (.int .i64 r) ∧ Below W.heap.size W w'
def RetB (f : Nat) (args : Array Value) (r : Bool) (W : World) : Prop := Calls Try.prog f args W fun e w' => e = .returned (.bool r) ∧ Below W.heap.size W w'
def RetS (f : Nat) (args : Array Value) (r : ByteArray) (W : World) : Prop := Calls Try.prog f args W fun e w' => e = .returned (.string r) ∧ Below W.heap.size W w'
theorem AtLater.hid {w : World} {P : World → Prop} (h : AtLater w P) : Hid (AtLater w P) := h
def alikeA (A0 : Option Addr) (n0 c0 : Nat) (A1 : Option Addr) (n1 c1 : Nat) (A2 : Option Addr) (n2 c2 : Nat) : Array Value := #[.slice A0 n0 c0, .slice A1 n1 c1, .slice A2 n2 c2]
set_option maxHeartbeats 4000000 in
set_option maxRecDepth 100000 in
theorem alike_e0 (A0 : Option Addr) (n0 c0 : Nat) (A1 : Option Addr) (n1 c1 : Nat) (A2 : Option Addr) (n2 c2 : Nat) (e0 : Int) (w : World) (hne : e0 ≠ 0) (hv : RetI 32 #[.slice A0 n0 c0] e0 w) :
    Calls Try.prog 40 #[.slice A0 n0 c0, .slice A1 n1 c1, .slice A2 n2 c2] w fun e w' => e = .returned (.int .i64 e0) ∧ Below w.heap.size w w' := by
  have h1 : (e0 == 0) = false := by simpa using hne
  have h2 : (e0 != 0) = true := by simpa using hne
  clear hne
  unfold RetI at hv
  go_enter Try.func40, Try.ntmps40
  go_wp2_with (first | (go_at_call 32; go_must (with_reducible refine hv.mono ?_); rintro e w' ⟨rfl, hb⟩))
  first | go_end0 | go_returns | go_ret
  exact ⟨rfl, hb⟩
set_option maxHeartbeats 4000000 in
set_option maxRecDepth 100000 in
theorem alike_l1 (A0 : Option Addr) (n0 c0 : Nat) (A1 : Option Addr) (n1 c1 : Nat) (A2 : Option Addr) (n2 c2 : Nat) (w : World) (hv : RetI 32 #[.slice A0 n0 c0] 0 w) (hl : (n1 : Int) > 400) (hm : n1 ≤ 9223372036854775807) :
    Calls Try.prog 40 #[.slice A0 n0 c0, .slice A1 n1 c1, .slice A2 n2 c2] w fun e w' => e = .returned (.int .i64 3) ∧ Below w.heap.size w w' := by
  have h1 : decide ((n1 : Int) > 400) = true := decide_eq_true hl
  have h1' : decide (n1 > 400) = true := decide_eq_true (by omega)
  clear hl
  unfold RetI at hv
  go_enter Try.func40, Try.ntmps40
  go_wp2_with (first | (go_at_call 32; go_must (with_reducible refine hv.mono ?_); rintro e w' ⟨rfl, hb⟩))
  refine wp_loop_rounds 1 ?_
  rw [rounds_succ]
  go_wp2
  first | go_end0 | go_returns | go_ret
  exact ⟨rfl, hb.alloc hb.size _⟩
set_option maxHeartbeats 4000000 in
set_option maxRecDepth 100000 in
theorem alike_l2 (A0 : Option Addr) (n0 c0 : Nat) (A1 : Option Addr) (n1 c1 : Nat) (A2 : Option Addr) (n2 c2 : Nat) (w : World) (hv : RetI 32 #[.slice A0 n0 c0] 0 w) (hl1 : n1 ≤ 400) (hl : (n2 : Int) > 400) (hm : n2 ≤ 9223372036854775807) :
    Calls Try.prog 40 #[.slice A0 n0 c0, .slice A1 n1 c1, .slice A2 n2 c2] w fun e w' => e = .returned (.int .i64 3) ∧ Below w.heap.size w w' := by
  have g1 : decide ((n1 : Int) > 400) = false := decide_eq_false (by omega)
  have g1' : decide (n1 > 400) = false := decide_eq_false (by omega)
  have g2 : decide ((n2 : Int) > 400) = true := decide_eq_true hl
  have g2' : decide (n2 > 400) = true := decide_eq_true (by omega)
  clear hl hl1
  unfold RetI at hv
  go_enter Try.func40, Try.ntmps40
  go_wp2_with (first | (go_at_call 32; go_must (with_reducible refine hv.mono ?_); rintro _ w1 ⟨rfl, hb⟩; have hb1 := hb.alloc hb.size (.cells #[.slice A1 n1 c1, .slice A2 n2 c2] 35); have hb2 := hb1.alloc hb1.size (.cells #[.slice A1 n1 c1, .slice A2 n2 c2] 35)))
  refine wp_loop_rounds 2 ?_
  rw [rounds_succ]
  go_wp2
  rw [rounds_succ]
  go_wp2
  first | go_end0 | go_returns | go_ret
  exact ⟨rfl, hb1⟩
set_option maxHeartbeats 4000000 in
set_option maxRecDepth 100000 in
theorem alike_e1 (A0 : Option Addr) (n0 c0 : Nat) (A1 : Option Addr) (n1 c1 : Nat) (A2 : Option Addr) (n2 c2 : Nat) (w : World) (hv : RetI 32 #[.slice A0 n0 c0] 0 w) (hl1 : n1 ≤ 400) (hl2 : n2 ≤ 400) (ea : Int) (hne : ea ≠ 0) (ha : AtLater w (RetI 64 #[.slice A0 n0 c0, .slice A1 n1 c1] ea)) :
    Calls Try.prog 40 #[.slice A0 n0 c0, .slice A1 n1 c1, .slice A2 n2 c2] w fun e w' => e = .returned (.int .i64 ea) ∧ Below w.heap.size w w' := by
  have g1 : decide ((n1 : Int) > 400) = false := decide_eq_false (by omega)
  have g1' : decide (n1 > 400) = false := decide_eq_false (by omega)
  have g2 : decide ((n2 : Int) > 400) = false := decide_eq_false (by omega)
  have g2' : decide (n2 > 400) = false := decide_eq_false (by omega)
  have k1 : (ea == 0) = false := by simpa using hne
  have k2 : (ea != 0) = true := by simpa using hne
  have HMa := ha.hid
  clear hne ha
  clear hl1 hl2
  unfold RetI at hv
  go_enter Try.func40, Try.ntmps40
  go_wp2_with (first | (go_at_call 32; go_must (with_reducible refine hv.mono ?_); rintro _ w1 ⟨rfl, hb⟩; have hb1 := hb.alloc hb.size (.cells #[.slice A1 n1 c1, .slice A2 n2 c2] 35); have hb2 := hb1.alloc hb1.size (.cells #[.slice A1 n1 c1, .slice A2 n2 c2] 35); have hma := HMa.out _ hb2))
  refine wp_loop_rounds 3 ?_
  rw [rounds_succ]
  go_wp2
  rw [rounds_succ]
  go_wp2
  rw [rounds_succ]
  go_wp2
  refine wp_loop_rounds 1 ?_
  rw [rounds_succ]
  unfold RetI at hma
  go_wp2_with (first | (go_at_call 64; go_must (with_reducible refine hma.mono ?_); rintro _ w2 ⟨rfl, hb3⟩))
  first | go_end0 | go_returns | go_ret
  exact ⟨rfl, hb2.trans (hb3.mono hb2.size)⟩
set_option maxHeartbeats 4000000 in
set_option maxRecDepth 100000 in
theorem alike_e2 (A0 : Option Addr) (n0 c0 : Nat) (A1 : Option Addr) (n1 c1 : Nat) (A2 : Option Addr) (n2 c2 : Nat) (w : World) (hv : RetI 32 #[.slice A0 n0 c0] 0 w) (hl1 : n1 ≤ 400) (hl2 : n2 ≤ 400) (ha : AtLater w (RetI 64 #[.slice A0 n0 c0, .slice A1 n1 c1] 0)) (eb : Int) (hne : eb ≠ 0) (hbm : AtLater w (RetI 64 #[.slice A0 n0 c0, .slice A2 n2 c2] eb)) :
    Calls Try.prog 40 #[.slice A0 n0 c0, .slice A1 n1 c1, .slice A2 n2 c2] w fun e w' => e = .returned (.int .i64 eb) ∧ Below w.heap.size w w' := by
  have g1 : decide ((n1 : Int) > 400) = false := decide_eq_false (by omega)
  have g1' : decide (n1 > 400) = false := decide_eq_false (by omega)
  have g2 : decide ((n2 : Int) > 400) = false := decide_eq_false (by omega)
  have g2' : decide (n2 > 400) = false := decide_eq_false (by omega)
  have HMa := ha.hid
  have HMb := hbm.hid
  clear ha hbm
  have k1 : (eb == 0) = false := by simpa using hne
  have k2 : (eb != 0) = true := by simpa using hne
  clear hne
  clear hl1 hl2
  unfold RetI at hv
  go_enter Try.func40, Try.ntmps40
  go_wp2_with (first | (go_at_call 32; go_must (with_reducible refine hv.mono ?_); rintro _ w1 ⟨rfl, hb⟩; have hb1 := hb.alloc hb.size (.cells #[.slice A1 n1 c1, .slice A2 n2 c2] 35); have hb2 := hb1.alloc hb1.size (.cells #[.slice A1 n1 c1, .slice A2 n2 c2] 35); have hma := HMa.out _ hb2; unfold RetI at hma))
  refine wp_loop_rounds 3 ?_
  rw [rounds_succ]
  go_wp2
  rw [rounds_succ]
  go_wp2
  rw [rounds_succ]
  go_wp2
  refine wp_loop_rounds 3 ?_
  rw [rounds_succ]
  go_wp2_with (first | (go_at_call 64; (with_reducible refine hma.mono ?_); rintro _ w2 ⟨rfl, hb3⟩; have hb4 := hb2.trans (hb3.mono hb2.size); have hmb := HMb.out _ hb4; unfold RetI at hmb; have hcl := hb3.cell (p := ⟨w1.heap.size + 1, 1, none⟩) (by simp)))
  rw [rounds_succ]
  go_wp2_with (first | (go_at_call 64; go_must (with_reducible refine hmb.mono ?_); rintro _ w3 ⟨rfl, hb5⟩; have hb6 := hb4.trans (hb5.mono hb4.size)))
  first | go_end0 | go_returns | go_ret
  exact ⟨rfl, hb6⟩
set_option maxHeartbeats 4000000 in
set_option maxRecDepth 100000 in
theorem alike_eq (A0 : Option Addr) (n0 c0 : Nat) (A1 : Option Addr) (n1 c1 : Nat) (A2 : Option Addr) (n2 c2 : Nat) (w : World) (hv : RetI 32 #[.slice A0 n0 c0] 0 w) (hl1 : n1 ≤ 400) (hl2 : n2 ≤ 400) (ha : AtLater w (RetI 64 #[.slice A0 n0 c0, .slice A1 n1 c1] 0)) (hbm : AtLater w (RetI 64 #[.slice A0 n0 c0, .slice A2 n2 c2] 0)) (hq : AtLater w (RetB 82 #[.slice A1 n1 c1, .slice A2 n2 c2] true)) :
    Calls Try.prog 40 #[.slice A0 n0 c0, .slice A1 n1 c1, .slice A2 n2 c2] w fun e w' => e = .returned (.int .i64 7) ∧ Below w.heap.size w w' := by
  have g1 : decide ((n1 : Int) > 400) = false := decide_eq_false (by omega)
  have g1' : decide (n1 > 400) = false := decide_eq_false (by omega)
  have g2 : decide ((n2 : Int) > 400) = false := decide_eq_false (by omega)
  have g2' : decide (n2 > 400) = false := decide_eq_false (by omega)
  have HMa := ha.hid
  have HMb := hbm.hid
  clear ha hbm
  have HEq := hq.hid
  clear hq
  clear hl1 hl2
  unfold RetI at hv
  go_enter Try.func40, Try.ntmps40
  go_wp2_with (first | (go_at_call 32; go_must (with_reducible refine hv.mono ?_); rintro _ w1 ⟨rfl, hb⟩; have hb1 := hb.alloc hb.size (.cells #[.slice A1 n1 c1, .slice A2 n2 c2] 35); have hb2 := hb1.alloc hb1.size (.cells #[.slice A1 n1 c1, .slice A2 n2 c2] 35); have hma := HMa.out _ hb2; unfold RetI at hma))
  refine wp_loop_rounds 3 ?_
  rw [rounds_succ]
  go_wp2
  rw [rounds_succ]
  go_wp2
  rw [rounds_succ]
  go_wp2
  refine wp_loop_rounds 3 ?_
  rw [rounds_succ]
  go_wp2_with (first | (go_at_call 64; (with_reducible refine hma.mono ?_); rintro _ w2 ⟨rfl, hb3⟩; have hb4 := hb2.trans (hb3.mono hb2.size); have hmb := HMb.out _ hb4; unfold RetI at hmb; have hcl := hb3.cell (p := ⟨w1.heap.size + 1, 1, none⟩) (by simp)))
  rw [rounds_succ]
  go_wp2_with (first | (go_at_call 64; go_must (with_reducible refine hmb.mono ?_); rintro _ w3 ⟨rfl, hb5⟩; have hb6 := hb4.trans (hb5.mono hb4.size); have heq := HEq.out _ hb6; unfold RetB at heq))
  rw [rounds_succ]
  go_wp2_with (first | (go_at_call 82; go_must (with_reducible refine heq.mono ?_); rintro _ w4 ⟨rfl, hb7⟩; have hb8 := hb6.trans (hb7.mono hb6.size)))
  first | go_end0 | go_returns | go_ret
  exact ⟨rfl, hb8⟩
set_option maxHeartbeats 4000000 in
set_option maxRecDepth 100000 in
theorem alike_ne (A0 : Option Addr) (n0 c0 : Nat) (A1 : Option Addr) (n1 c1 : Nat) (A2 : Option Addr) (n2 c2 : Nat) (w : World) (hv : RetI 32 #[.slice A0 n0 c0] 0 w) (hl1 : n1 ≤ 400) (hl2 : n2 ≤ 400) (ha : AtLater w (RetI 64 #[.slice A0 n0 c0, .slice A1 n1 c1] 0)) (hbm : AtLater w (RetI 64 #[.slice A0 n0 c0, .slice A2 n2 c2] 0)) (hq : AtLater w (RetB 82 #[.slice A1 n1 c1, .slice A2 n2 c2] false)) (sa sb : ByteArray) (hsa : AtLater w (RetS 65 #[.slice A0 n0 c0, .slice A1 n1 c1] sa)) (hsb : AtLater w (RetS 65 #[.slice A0 n0 c0, .slice A2 n2 c2] sb)) (hs : (sa.toList != sb.toList) = true) :
    Calls Try.prog 40 #[.slice A0 n0 c0, .slice A1 n1 c1, .slice A2 n2 c2] w fun e w' => e = .returned (.int .i64 7) ∧ Below w.heap.size w w' := by
  have g1 : decide ((n1 : Int) > 400) = false := decide_eq_false (by omega)
  have g1' : decide (n1 > 400) = false := decide_eq_false (by omega)
  have g2 : decide ((n2 : Int) > 400) = false := decide_eq_false (by omega)
  have g2' : decide (n2 > 400) = false := decide_eq_false (by omega)
  have HMa := ha.hid
  have HMb := hbm.hid
  clear ha hbm
  have HEq := hq.hid
  have HSa := hsa.hid
  have HSb := hsb.hid
  have hs2 : (sa.toList == sb.toList) = false := by
    cases h : (sa.toList == sb.toList)
    · simp [bne, h] at hs ⊢
    · simp [bne, h] at hs 
  clear hq hsa hsb
  clear hl1 hl2
  unfold RetI at hv
  go_enter Try.func40, Try.ntmps40
  go_wp2_with (first | (go_at_call 32; go_must (with_reducible refine hv.mono ?_); rintro _ w1 ⟨rfl, hb⟩; have hb1 := hb.alloc hb.size (.cells #[.slice A1 n1 c1, .slice A2 n2 c2] 35); have hb2 := hb1.alloc hb1.size (.cells #[.slice A1 n1 c1, .slice A2 n2 c2] 35); have hma := HMa.out _ hb2; unfold RetI at hma))
  refine wp_loop_rounds 3 ?_
  rw [rounds_succ]
  go_wp2
  rw [rounds_succ]
  go_wp2
  rw [rounds_succ]
  go_wp2
  refine wp_loop_rounds 3 ?_
  rw [rounds_succ]
  go_wp2_with (first | (go_at_call 64; (with_reducible refine hma.mono ?_); rintro _ w2 ⟨rfl, hb3⟩; have hb4 := hb2.trans (hb3.mono hb2.size); have hmb := HMb.out _ hb4; unfold RetI at hmb; have hcl := hb3.cell (p := ⟨w1.heap.size + 1, 1, none⟩) (by simp)))
  rw [rounds_succ]
  go_wp2_with (first | (go_at_call 64; go_must (with_reducible refine hmb.mono ?_); rintro _ w3 ⟨rfl, hb5⟩; have hb6 := hb4.trans (hb5.mono hb4.size); have heq := HEq.out _ hb6; unfold RetB at heq))
  rw [rounds_succ]
  go_wp2_with (first | (go_at_call 82; go_must (with_reducible refine heq.mono ?_); rintro _ w4 ⟨rfl, hb7⟩; have hb8 := hb6.trans (hb7.mono hb6.size); have hca := HSa.out _ hb8; unfold RetS at hca) | (go_at_call 65; (with_reducible refine hca.mono ?_); rintro _ w5 ⟨rfl, hb9⟩; have hb10 := hb8.trans (hb9.mono hb8.size); have hcb := HSb.out _ hb10; unfold RetS at hcb) | (go_at_call 65; go_must (with_reducible refine hcb.mono ?_); rintro _ w6 ⟨rfl, hb11⟩; have hb12 := hb10.trans (hb11.mono hb10.size)))
  first | go_end0 | go_returns | go_ret
  exact ⟨rfl, hb12⟩
set_option maxHeartbeats 4000000 in
set_option maxRecDepth 100000 in
theorem alike_ok (A0 : Option Addr) (n0 c0 : Nat) (A1 : Option Addr) (n1 c1 : Nat) (A2 : Option Addr) (n2 c2 : Nat) (w : World) (hv : RetI 32 #[.slice A0 n0 c0] 0 w) (hl1 : n1 ≤ 400) (hl2 : n2 ≤ 400) (ha : AtLater w (RetI 64 #[.slice A0 n0 c0, .slice A1 n1 c1] 0)) (hbm : AtLater w (RetI 64 #[.slice A0 n0 c0, .slice A2 n2 c2] 0)) (hq : AtLater w (RetB 82 #[.slice A1 n1 c1, .slice A2 n2 c2] false)) (sa sb : ByteArray) (hsa : AtLater w (RetS 65 #[.slice A0 n0 c0, .slice A1 n1 c1] sa)) (hsb : AtLater w (RetS 65 #[.slice A0 n0 c0, .slice A2 n2 c2] sb)) (hs : (sa.toList != sb.toList) = false) :
    Calls Try.prog 40 #[.slice A0 n0 c0, .slice A1 n1 c1, .slice A2 n2 c2] w fun e w' => e = .returned (.int .i64 0) ∧ Below w.heap.size w w' := by
  have g1 : decide ((n1 : Int) > 400) = false := decide_eq_false (by omega)
  have g1' : decide (n1 > 400) = false := decide_eq_false (by omega)
  have g2 : decide ((n2 : Int) > 400) = false := decide_eq_false (by omega)
  have g2' : decide (n2 > 400) = false := decide_eq_false (by omega)
  have HMa := ha.hid
  have HMb := hbm.hid
  clear ha hbm
  have HEq := hq.hid
  have HSa := hsa.hid
  have HSb := hsb.hid
  have hs2 : (sa.toList == sb.toList) = true := by
    cases h : (sa.toList == sb.toList)
    · simp [bne, h] at hs 
    · simp [bne, h] at hs ⊢
  clear hq hsa hsb
  clear hl1 hl2
  unfold RetI at hv
  go_enter Try.func40, Try.ntmps40
  go_wp2_with (first | (go_at_call 32; go_must (with_reducible refine hv.mono ?_); rintro _ w1 ⟨rfl, hb⟩; have hb1 := hb.alloc hb.size (.cells #[.slice A1 n1 c1, .slice A2 n2 c2] 35); have hb2 := hb1.alloc hb1.size (.cells #[.slice A1 n1 c1, .slice A2 n2 c2] 35); have hma := HMa.out _ hb2; unfold RetI at hma))
  refine wp_loop_rounds 3 ?_
  rw [rounds_succ]
  go_wp2
  rw [rounds_succ]
  go_wp2
  rw [rounds_succ]
  go_wp2
  refine wp_loop_rounds 3 ?_
  rw [rounds_succ]
  go_wp2_with (first | (go_at_call 64; (with_reducible refine hma.mono ?_); rintro _ w2 ⟨rfl, hb3⟩; have hb4 := hb2.trans (hb3.mono hb2.size); have hmb := HMb.out _ hb4; unfold RetI at hmb; have hcl := hb3.cell (p := ⟨w1.heap.size + 1, 1, none⟩) (by simp)))
  rw [rounds_succ]
  go_wp2_with (first | (go_at_call 64; go_must (with_reducible refine hmb.mono ?_); rintro _ w3 ⟨rfl, hb5⟩; have hb6 := hb4.trans (hb5.mono hb4.size); have heq := HEq.out _ hb6; unfold RetB at heq))
  rw [rounds_succ]
  go_wp2_with (first | (go_at_call 82; go_must (with_reducible refine heq.mono ?_); rintro _ w4 ⟨rfl, hb7⟩; have hb8 := hb6.trans (hb7.mono hb6.size); have hca := HSa.out _ hb8; unfold RetS at hca) | (go_at_call 65; (with_reducible refine hca.mono ?_); rintro _ w5 ⟨rfl, hb9⟩; have hb10 := hb8.trans (hb9.mono hb8.size); have hcb := HSb.out _ hb10; unfold RetS at hcb) | (go_at_call 65; go_must (with_reducible refine hcb.mono ?_); rintro _ w6 ⟨rfl, hb11⟩; have hb12 := hb10.trans (hb11.mono hb10.size)))
  first | go_end0 | go_returns | go_ret
  exact ⟨rfl, hb12⟩
end Go.Proofs.Ytpkafcoflgbnaaa.Q
