/- The reference's CheckAlike. -/
import Derived.Test.YtpkafcoflgbnaaaWLast
import Derived.Test.YtpkafcoflgbnaaaWMore
import Derived.Test.YtpkafcoflgbnaaaProg
import Derived.Test.YtpkafcoflgbnaaaShelf
import Derived.OwnWalk
import Derived.Handy
import Derived.Deep.DeepMust
import Derived.Lib.Hide
import Derived.Outline
import Derived.IntWalk
import Derived.Deep.RegionWith
import Derived.Test.YtpkafcoflgbnaaaWhS
namespace Go.Proofs.Ytpkafcoflgbnaaa.Q
open Go.RowKit Go.Proofs.YtpkafcoflgbnaaaW.PrintWords Go.Proofs.YtpkafcoflgbnaaaW.PrintLast Go.Proofs.YtpkafcoflgbnaaaW.PrintMore 
set_option linter.unusedVariables false
set_option linter.unusedSimpArgs false
set_option maxHeartbeats 4000000 in
set_option maxRecDepth 100000 in
theorem ralike_e0 (A0 : Option Addr) (n0 c0 : Nat) (A1 : Option Addr) (n1 c1 : Nat) (A2 : Option Addr) (n2 c2 : Nat) (w : World) (e0 : Int) (hne : e0 ≠ 0) (hv : RetI 33 #[.slice A0 n0 c0] e0 w) :
    Calls Try.prog 39 #[.slice A0 n0 c0, .slice A1 n1 c1, .slice A2 n2 c2] w fun e w' => e = .returned (.int .i64 e0) ∧ Below w.heap.size w w' := by
  have h1 : (e0 == 0) = false := by simpa using hne
  have h2 : (e0 != 0) = true := by simpa using hne
  clear hne
  unfold RetI at hv
  go_enter Try.func39, Try.ntmps39
  go_wp2_with (first | (go_at_call 33; go_must (with_reducible refine hv.mono ?_); rintro e w' ⟨rfl, hb⟩))
  first | go_end0 | go_returns | go_ret
  exact ⟨rfl, hb⟩
set_option maxHeartbeats 4000000 in
set_option maxRecDepth 100000 in
theorem ralike_e1 (A0 : Option Addr) (n0 c0 : Nat) (A1 : Option Addr) (n1 c1 : Nat) (A2 : Option Addr) (n2 c2 : Nat) (w : World) (e1 : Int) (hne : e1 ≠ 0) (hv : RetI 33 #[.slice A0 n0 c0] 0 w) (hm : ∀ W, Below w.heap.size w W → RetI 66 #[.slice A0 n0 c0, .slice (some ⟨W.heap.size, 0, none⟩) 2 2] e1 (W.alloc (.cells #[.slice A1 n1 c1, .slice A2 n2 c2] 35))) :
    Calls Try.prog 39 #[.slice A0 n0 c0, .slice A1 n1 c1, .slice A2 n2 c2] w fun e w' => e = .returned (.int .i64 e1) ∧ Below w.heap.size w w' := by
  have h1 : (e1 == 0) = false := by simpa using hne
  have h2 : (e1 != 0) = true := by simpa using hne
  clear hne
  have HM := Lib.hid hm
  clear hm
  unfold RetI at hv
  go_enter Try.func39, Try.ntmps39
  go_wp2_with (first | (go_at_call 33; go_must (with_reducible refine hv.mono ?_); rintro _ w1 ⟨rfl, hb⟩; have hm1 := HM.out _ hb; unfold RetI at hm1; have hb1 := hb.alloc hb.size (.cells #[.slice A1 n1 c1, .slice A2 n2 c2] 35)) | (go_at_call 66; go_must (with_reducible refine hm1.mono ?_); rintro _ w2 ⟨rfl, hb2⟩; have hb3 := hb1.trans (hb2.mono hb1.size)))
  first | go_end0 | go_returns | go_ret
  exact ⟨rfl, hb3⟩
set_option maxHeartbeats 4000000 in
set_option maxRecDepth 100000 in
theorem ralike_eq (A0 : Option Addr) (n0 c0 : Nat) (A1 : Option Addr) (n1 c1 : Nat) (A2 : Option Addr) (n2 c2 : Nat) (w : World) (hv : RetI 33 #[.slice A0 n0 c0] 0 w) (hm : ∀ W, Below w.heap.size w W → RetI 66 #[.slice A0 n0 c0, .slice (some ⟨W.heap.size, 0, none⟩) 2 2] 0 (W.alloc (.cells #[.slice A1 n1 c1, .slice A2 n2 c2] 35))) (hq : AtLater w (RetB 51 #[.slice A1 n1 c1, .slice A2 n2 c2] true)) :
    Calls Try.prog 39 #[.slice A0 n0 c0, .slice A1 n1 c1, .slice A2 n2 c2] w fun e w' => e = .returned (.int .i64 7) ∧ Below w.heap.size w w' := by
  have HM := Lib.hid hm
  have HQ := hq.hid
  clear hm hq
  unfold RetI at hv
  go_enter Try.func39, Try.ntmps39
  go_wp2_with (first | (go_at_call 33; go_must (with_reducible refine hv.mono ?_); rintro _ w1 ⟨rfl, hb⟩; have hm1 := HM.out _ hb; unfold RetI at hm1; have hb1 := hb.alloc hb.size (.cells #[.slice A1 n1 c1, .slice A2 n2 c2] 35)) | (go_at_call 66; go_must (with_reducible refine hm1.mono ?_); rintro _ w2 ⟨rfl, hb2⟩; have hb3 := hb1.trans (hb2.mono hb1.size); have hq1 := HQ.out _ hb3; unfold RetB at hq1) | (go_at_call 51; go_must (with_reducible refine hq1.mono ?_); rintro _ w3 ⟨rfl, hb4⟩))
  first | go_end0 | go_returns | go_ret
  exact ⟨rfl, hb3.trans (hb4.mono hb3.size)⟩
set_option maxHeartbeats 4000000 in
set_option maxRecDepth 100000 in
theorem ralike_ne (A0 : Option Addr) (n0 c0 : Nat) (A1 : Option Addr) (n1 c1 : Nat) (A2 : Option Addr) (n2 c2 : Nat) (w : World) (hv : RetI 33 #[.slice A0 n0 c0] 0 w) (hm : ∀ W, Below w.heap.size w W → RetI 66 #[.slice A0 n0 c0, .slice (some ⟨W.heap.size, 0, none⟩) 2 2] 0 (W.alloc (.cells #[.slice A1 n1 c1, .slice A2 n2 c2] 35))) (hq : AtLater w (RetB 51 #[.slice A1 n1 c1, .slice A2 n2 c2] false)) (sa sb : ByteArray) (hsa : AtLater w (RetS 67 #[.slice A0 n0 c0, .slice A1 n1 c1] sa)) (hsb : AtLater w (RetS 67 #[.slice A0 n0 c0, .slice A2 n2 c2] sb)) (hs : (sa.toList != sb.toList) = true) :
    Calls Try.prog 39 #[.slice A0 n0 c0, .slice A1 n1 c1, .slice A2 n2 c2] w fun e w' => e = .returned (.int .i64 7) ∧ Below w.heap.size w w' := by
  have HM := Lib.hid hm
  have HQ := hq.hid
  have HSa := hsa.hid
  have HSb := hsb.hid
  have hs2 : (sa.toList == sb.toList) = false := by
    cases h : (sa.toList == sb.toList)
    · simp [bne, h] at hs ⊢
    · simp [bne, h] at hs ⊢
  clear hm hq hsa hsb
  unfold RetI at hv
  go_enter Try.func39, Try.ntmps39
  go_wp2_with (first | (go_at_call 33; go_must (with_reducible refine hv.mono ?_); rintro _ w1 ⟨rfl, hb⟩; have hm1 := HM.out _ hb; unfold RetI at hm1; have hb1 := hb.alloc hb.size (.cells #[.slice A1 n1 c1, .slice A2 n2 c2] 35)) | (go_at_call 66; go_must (with_reducible refine hm1.mono ?_); rintro _ w2 ⟨rfl, hb2⟩; have hb3 := hb1.trans (hb2.mono hb1.size); have hq1 := HQ.out _ hb3; unfold RetB at hq1) | (go_at_call 51; go_must (with_reducible refine hq1.mono ?_); rintro _ w3 ⟨rfl, hb4⟩; have hb5 := hb3.trans (hb4.mono hb3.size); have hca := HSa.out _ hb5; unfold RetS at hca) | (go_at_call 67; (with_reducible refine hca.mono ?_); rintro _ w4 ⟨rfl, hb6⟩; have hb7 := hb5.trans (hb6.mono hb5.size); have hcb := HSb.out _ hb7; unfold RetS at hcb) | (go_at_call 67; go_must (with_reducible refine hcb.mono ?_); rintro _ w5 ⟨rfl, hb8⟩; have hb9 := hb7.trans (hb8.mono hb7.size)))
  first | go_end0 | go_returns | go_ret
  exact ⟨rfl, hb9⟩
set_option maxHeartbeats 4000000 in
set_option maxRecDepth 100000 in
theorem ralike_ok (A0 : Option Addr) (n0 c0 : Nat) (A1 : Option Addr) (n1 c1 : Nat) (A2 : Option Addr) (n2 c2 : Nat) (w : World) (hv : RetI 33 #[.slice A0 n0 c0] 0 w) (hm : ∀ W, Below w.heap.size w W → RetI 66 #[.slice A0 n0 c0, .slice (some ⟨W.heap.size, 0, none⟩) 2 2] 0 (W.alloc (.cells #[.slice A1 n1 c1, .slice A2 n2 c2] 35))) (hq : AtLater w (RetB 51 #[.slice A1 n1 c1, .slice A2 n2 c2] false)) (sa sb : ByteArray) (hsa : AtLater w (RetS 67 #[.slice A0 n0 c0, .slice A1 n1 c1] sa)) (hsb : AtLater w (RetS 67 #[.slice A0 n0 c0, .slice A2 n2 c2] sb)) (hs : (sa.toList != sb.toList) = false) :
    Calls Try.prog 39 #[.slice A0 n0 c0, .slice A1 n1 c1, .slice A2 n2 c2] w fun e w' => e = .returned (.int .i64 0) ∧ Below w.heap.size w w' := by
  have HM := Lib.hid hm
  have HQ := hq.hid
  have HSa := hsa.hid
  have HSb := hsb.hid
  have hs2 : (sa.toList == sb.toList) = true := by
    cases h : (sa.toList == sb.toList)
    · simp [bne, h] at hs ⊢
    · simp [bne, h] at hs ⊢
  clear hm hq hsa hsb
  unfold RetI at hv
  go_enter Try.func39, Try.ntmps39
  go_wp2_with (first | (go_at_call 33; go_must (with_reducible refine hv.mono ?_); rintro _ w1 ⟨rfl, hb⟩; have hm1 := HM.out _ hb; unfold RetI at hm1; have hb1 := hb.alloc hb.size (.cells #[.slice A1 n1 c1, .slice A2 n2 c2] 35)) | (go_at_call 66; go_must (with_reducible refine hm1.mono ?_); rintro _ w2 ⟨rfl, hb2⟩; have hb3 := hb1.trans (hb2.mono hb1.size); have hq1 := HQ.out _ hb3; unfold RetB at hq1) | (go_at_call 51; go_must (with_reducible refine hq1.mono ?_); rintro _ w3 ⟨rfl, hb4⟩; have hb5 := hb3.trans (hb4.mono hb3.size); have hca := HSa.out _ hb5; unfold RetS at hca) | (go_at_call 67; (with_reducible refine hca.mono ?_); rintro _ w4 ⟨rfl, hb6⟩; have hb7 := hb5.trans (hb6.mono hb5.size); have hcb := HSb.out _ hb7; unfold RetS at hcb) | (go_at_call 67; go_must (with_reducible refine hcb.mono ?_); rintro _ w5 ⟨rfl, hb8⟩; have hb9 := hb7.trans (hb8.mono hb7.size)))
  first | go_end0 | go_returns | go_ret
  exact ⟨rfl, hb9⟩
end Go.Proofs.Ytpkafcoflgbnaaa.Q
