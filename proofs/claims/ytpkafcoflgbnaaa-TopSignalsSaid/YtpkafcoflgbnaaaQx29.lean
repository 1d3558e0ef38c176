-- Written by a program of this session (wip/tools/gprint.py, over the kit's print); Lean checks it.
import Derived.Test.YtpkafcoflgbnaaaQx0
import Derived.Test.YtpkafcoflgbnaaaQx17
import Derived.Test.YtpkafcoflgbnaaaQx28
namespace Go.Proofs.Ytpkafcoflgbnaaa.Q
open Go.RowKit Go.Proofs.YtpkafcoflgbnaaaW.PrintWords Go.Proofs.YtpkafcoflgbnaaaW.PrintLast Go.Proofs.YtpkafcoflgbnaaaW.PrintMore
attribute [local go_sem] max2_int min2_int max_two min_two max_three min_three max_four min_four   -- for this text's walks alone
set_option linter.unusedVariables false
set_option linter.unusedSimpArgs false

/-! ### whistle_counts: function 87 -/
mutual
def whistle_counts.l0 : Nat → List ByteArray → ByteArray → List Int → Int → Option (List Int)
 | 0, _, _, _, _ => none
 | k + 1, x0, x1, x5, x6 => if x6 ≥ 0 then (whistle_counts.l1 k x0 x1 x5 x6 x0 (x0.length : Int) 0) else (some x5)
def whistle_counts.l1 : Nat → List ByteArray → ByteArray → List Int → Int → List ByteArray → Int → Int → Option (List Int)
 | 0, _, _, _, _, _, _, _ => none
 | k + 1, x0, x1, x5, x6, x24, x25, x26 => if x26 < x25 then (if 0 ≤ x26 then (if x26 < (x24.length : Int) then (if 0 ≤ x6 then (if x6 ≤ (x1.size : Int) then ((strings_HasPrefix.f (x1.extract (x6 : Int).toNat x1.size) (rdOf ByteArray.empty x24 x26)).bind fun t517 => (if t517 = true then (if x6 < (x5.length : Int) then (if 0 ≤ (wrap64 (x6 + ((rdOf ByteArray.empty x24 x26).size : Int))) then (if (wrap64 (x6 + ((rdOf ByteArray.empty x24 x26).size : Int))) < (x5.length : Int) then (whistle_counts.l1 k x0 x1 (x5.set (x6 : Int).toNat (wrap64 ((rd x5 x6) + (rd x5 (wrap64 (x6 + ((rdOf ByteArray.empty x24 x26).size : Int))))))) x6 x24 x25 (wrap64 (x26 + 1))) else (none)) else (none)) else (none)) else (whistle_counts.l1 k x0 x1 x5 x6 x24 x25 (wrap64 (x26 + 1))))) else (none)) else (none)) else (none)) else (none)) else (whistle_counts.l0 k x0 x1 x5 (wrap64 (x6 - 1)))
end
def whistle_counts.f (k : Nat) (l0 : List ByteArray) (a1 : ByteArray) : Option (List Int) := if 0 ≤ (wrap64 ((a1.size : Int) + 1)) then (if (wrap64 ((a1.size : Int) + 1) : Int).toNat ≤ 35184372088832 then ((some (List.replicate (wrap64 ((a1.size : Int) + 1) : Int).toNat 0 : List Int)).bind fun y512 => (if 0 ≤ (a1.size : Int) then (if (a1.size : Int) < (y512.length : Int) then (whistle_counts.l0 k l0 a1 (y512.set ((a1.size : Int) : Int).toNat 1) (wrap64 ((a1.size : Int) - 1))) else (none)) else (none))) else (none)) else (none)
theorem whistle_counts.mono_l : ∀ k, (∀ y0 y1 y2 y3, LeO (whistle_counts.l0 k y0 y1 y2 y3) (whistle_counts.l0 (k + 1) y0 y1 y2 y3)) ∧ (∀ y0 y1 y2 y3 y4 y5 y6, LeO (whistle_counts.l1 k y0 y1 y2 y3 y4 y5 y6) (whistle_counts.l1 (k + 1) y0 y1 y2 y3 y4 y5 y6))
 | 0 => ⟨fun _ _ _ _ r h => by simp [whistle_counts.l0] at h, fun _ _ _ _ _ _ _ r h => by simp [whistle_counts.l1] at h⟩
 | k + 1 => by
  obtain ⟨ih0, ih1⟩ := whistle_counts.mono_l k
  refine ⟨?_, ?_⟩
  ·intro y0 y1 y2 y3
   unfold whistle_counts.l0
   repeat' first
   | (with_reducible exact ih0 _ _ _ _)
   | (with_reducible exact ih1 _ _ _ _ _ _ _)
   | (with_reducible exact LeO.refl _)
   | (with_reducible exact LeO.none _)
   | (with_reducible refine LeO.ite ?_ ?_)
   | (with_reducible refine LeO.bind ?_ (fun _ => ?_))
   | exact ih0 _ _ _ _
   | exact ih1 _ _ _ _ _ _ _
   | exact LeO.none _
   | refine LeO.ite ?_ ?_
   | refine LeO.bind ?_ (fun _ => ?_)
  ·intro y0 y1 y2 y3 y4 y5 y6
   unfold whistle_counts.l1
   repeat' first
   | (with_reducible exact ih0 _ _ _ _)
   | (with_reducible exact ih1 _ _ _ _ _ _ _)
   | (with_reducible exact LeO.refl _)
   | (with_reducible exact LeO.none _)
   | (with_reducible refine LeO.ite ?_ ?_)
   | (with_reducible refine LeO.bind ?_ (fun _ => ?_))
   | exact ih0 _ _ _ _
   | exact ih1 _ _ _ _ _ _ _
   | exact LeO.none _
   | refine LeO.ite ?_ ?_
   | refine LeO.bind ?_ (fun _ => ?_)
theorem whistle_counts.mono : ∀ a0 a1 k, LeO (whistle_counts.f k a0 a1) (whistle_counts.f (k + 1) a0 a1) := by
 intro a0 a1 k
 obtain ⟨ih0, ih1⟩ := whistle_counts.mono_l k
 unfold whistle_counts.f
 repeat' first
   | (with_reducible exact ih0 _ _ _ _)
   | (with_reducible exact ih1 _ _ _ _ _ _ _)
   | (with_reducible exact LeO.refl _)
   | (with_reducible exact LeO.none _)
   | (with_reducible refine LeO.ite ?_ ?_)
   | (with_reducible refine LeO.bind ?_ (fun _ => ?_))
   | exact ih0 _ _ _ _
   | exact ih1 _ _ _ _ _ _ _
   | exact LeO.none _
   | refine LeO.ite ?_ ?_
   | refine LeO.bind ?_ (fun _ => ?_)
def whistle_counts.T10 : Bool × List (List Nat × List Nat) := (true, [([], []), ([], []), ([0, 1], [0, 1]), ([2], [2]), ([], []), ([], []), ([], []), ([6], [6]), ([5, 7], [5, 7]), ([4, 8], [4, 8]), ([9], [9]), ([3, 10], [3, 10]), ([0, 1, 0, 1, 2, 3, 4, 5, 6, 7, 8, 9, 10, 11], [0, 1]), ([12, 11, 0, 1, 2, 3, 4, 5, 6, 7, 8, 9, 10, 11], [11, 12])])
def whistle_counts.B10 : List Nat := [0, 0, 3, 7, 0, 0, 0, 64, 224, 496, 1008, 2047, 4095, 8191]
theorem whistle_counts.tab10 : rtab .any (opsOf Try.f87 10) = whistle_counts.T10 := by kernel_rfl
theorem whistle_counts.bits10 : waitsOk whistle_counts.T10.2 whistle_counts.B10 = true := by kernel_rfl
set_option maxHeartbeats 8000000 in
set_option maxRecDepth 100000 in
theorem whistle_counts.calls (k : Nat) (A0 : Option Addr) (c0 : Nat) (l0 : List ByteArray) (a1 : ByteArray) (r : List Int) (w : World) (hr0 : Kd.C Kd.string w A0 l0.length l0) (hc0 : l0.length ≤ c0) (h : whistle_counts.f k l0 a1 = some r) :
  Calls Try.prog 87 #[.slice A0 l0.length c0, .string a1] w fun e w' => ∃ v0_ : Value, e = .returned (v0_) ∧ Kd.R (Kd.int .i64) 3 w' w.heap.size (fun _ => True) v0_ r ∧ Below w.heap.size w w' := by
 have HR0 := Aside0.mk hr0
 have HC0 := Aside0.mk hc0
 clear hr0 hc0
 have HB := Aside0.mk (Below.refl w.heap.size w)
 have H : (if 0 ≤ (wrap64 ((a1.size : Int) + 1)) then (if (wrap64 ((a1.size : Int) + 1) : Int).toNat ≤ 35184372088832 then ((some (List.replicate (wrap64 ((a1.size : Int) + 1) : Int).toNat 0 : List Int)).bind fun y512 => (if 0 ≤ (a1.size : Int) then (if (a1.size : Int) < (y512.length : Int) then (whistle_counts.l0 k l0 a1 (y512.set ((a1.size : Int) : Int).toNat 1) (wrap64 ((a1.size : Int) - 1))) else (none)) else (none))) else (none)) else (none)) = some r := h
 clear h
 obtain ⟨ji3, hji3⟩ : ∃ j_ : Int, (wrap64 ((a1.size : Int) + 1)) = j_ := ⟨_, rfl⟩
 replace H : (if 0 ≤ (ji3) then (if (ji3 : Int).toNat ≤ 35184372088832 then ((some (List.replicate (ji3 : Int).toNat 0 : List Int)).bind fun y512 => (if 0 ≤ (a1.size : Int) then (if (a1.size : Int) < (y512.length : Int) then (whistle_counts.l0 k l0 a1 (y512.set ((a1.size : Int) : Int).toNat 1) (wrap64 ((a1.size : Int) - 1))) else (none)) else (none))) else (none)) else (none)) = some r := by first | (rw [hji3] at H; exact H) | (simp only [hji3] at H ⊢; exact H)
 have hji3w : (IntKind.i64.wrap ((a1.size : Int) + 1)) = ji3 := (i64_w _).trans hji3
 by_cases c4 : 0 ≤ (ji3)
 ·rw [if_pos c4] at H
  have c4b0 := eq_true c4
  have c4b1 : decide (0 ≤ (ji3)) = true := decide_eq_true c4
  clear c4
  by_cases c5 : (ji3 : Int).toNat ≤ 35184372088832
  ·rw [if_pos c5] at H
   have c5b0 := eq_true c5
   have c5b1 : decide ((ji3 : Int).toNat ≤ 35184372088832) = true := decide_eq_true c5
   clear c5
   obtain ⟨y512, hy512⟩ : ∃ y_ : List Int, y_ = (List.replicate (ji3 : Int).toNat 0) := ⟨_, rfl⟩
   replace H : (if 0 ≤ (a1.size : Int) then (if (a1.size : Int) < (y512.length : Int) then (whistle_counts.l0 k l0 a1 (y512.set ((a1.size : Int) : Int).toNat 1) (wrap64 ((a1.size : Int) - 1))) else (none)) else (none)) = some r := by first | (rw [hy512]; with_reducible exact H) | (have H2_ := (Option.bind_some _ _).symm.trans H; rw [hy512]; with_reducible exact H2_) | (have H2_ := (Option.bind_some _ _).symm.trans H; with_reducible exact H2_) | with_reducible exact H | (rw [hy512]; exact H) | exact H
   have Ny512 := Aside0.mk hy512
   clear hy512
   by_cases c6 : 0 ≤ (a1.size : Int)
   ·rw [if_pos c6] at H
    have c6b0 : decide (0 ≤ (a1.size : Int)) = true := decide_eq_true c6
    have c6b1 : decide (0 ≤ a1.size) = true := decide_eq_true (by omega)
    clear c6
    by_cases c7 : (a1.size : Int) < (y512.length : Int)
    ·rw [if_pos c7] at H
     have c7b0 : decide ((a1.size : Int) < (y512.length : Int)) = true := decide_eq_true c7
     have c7b1 : decide (a1.size < y512.length) = true := decide_eq_true (Int.ofNat_lt.mp c7)
     clear c7
     obtain ⟨y515, hy515⟩ : ∃ y_ : List Int, y_ = (y512.set ((a1.size : Int) : Int).toNat 1) := ⟨_, rfl⟩
     replace H : (whistle_counts.l0 k l0 a1 y515 (wrap64 ((a1.size : Int) - 1))) = some r := by first | (rw [hy515]; with_reducible exact H) | (have H2_ := (Option.bind_some _ _).symm.trans H; rw [hy515]; with_reducible exact H2_) | (have H2_ := (Option.bind_some _ _).symm.trans H; with_reducible exact H2_) | with_reducible exact H | (rw [hy515]; exact H) | exact H
     have Ny515 := Aside0.mk hy515
     clear hy515
     have H' := Aside0.mk H
     clear H
     go_enter Try.func87, Try.ntmps87
     go_wp2_with (first | ((with_reducible refine gate_dst (N := 12) rfl ?_); refine Kd.R_make (Kd.int .i64) _ 3 rfl (N := 12) rfl 35 _ _ rfl ji3 rfl rfl Try.underlying35 (.int .i64 0) 8 info3 rfl (by decide) (by omega) 0 (ok := fun _ => True) (okp := fun _ => True) rfl (fun _ hk => hk) trivial (of_decide_eq_true (by first | (with_reducible assumption) | assumption)) (Nat.le_trans (Nat.mul_le_mul_right _ (of_decide_eq_true (by first | (with_reducible assumption) | assumption) : ji3.toNat ≤ 35184372088832)) (by omega)) (Below.refl _ _) (Nat.le_refl _) ?_; intro v513 w9 ho10 hb hg_ hnew_; clear hg_ hnew_; (first | rw [← Ny512.out] at ho10 | (simp only [Int.reduceToNat] at ho10; rw [← Ny512.out] at ho10)); have n0_ := Aside0.mk (Kd.R_lower ho10 (below_size (by repeat (first | (with_reducible first | exact HB.out | apply below_alloc | apply pw_below_drewN | apply below_drew1) | exact HB.out)))); have n1_ := Aside0.mk (below_step (by repeat (first | (with_reducible first | exact HB.out | apply below_alloc | apply pw_below_drewN | apply below_drew1) | exact HB.out)) hb); clear HB; have HO514 := n0_; have HB := n1_; clear n0_ n1_; clear hb ho10; have p8 : 0 ≤ ((a1.size : Int) : Int) := of_decide_eq_true (by first | (with_reducible assumption) | assumption); have q8 : ((a1.size : Int) : Int) < ((y512.length : Int) : Int) := of_decide_eq_true (by first | (with_reducible assumption) | assumption); obtain ⟨go8, co8, eo8, gb8, gl8, cl8, HG8⟩ := Kd.R_form HO514.out (by omega); (first | cases eo8 | (injection eo8 with ea_ en_ ec_; (first | subst ea_ | (injection ea_ with ea_; subst ea_)); subst ec_; clear en_)); have GB8 := Aside0.mk gb8; have GG8 := Aside0.mk HG8; clear gb8 gl8 HG8; obtain ⟨hx8_0, hf8_0⟩ := Kd.R_celln 0 HO514.out ((a1.size : Int) : Int) p8 q8; rw [Int.toNat_natCast] at hx8_0 hf8_0; replace p8 := eq_true p8; replace q8 := eq_true q8; obtain ⟨hy11_, hz11_⟩ := Kd.R_celln 0 HO514.out ((a1.size : Int) : Int) (of_decide_eq_true (by first | (with_reducible assumption) | assumption)) (of_decide_eq_true (by first | (with_reducible assumption) | assumption)); rw [Int.toNat_natCast] at hy11_ hz11_; have HP11 := Kd.R_putg HO514.out ((a1.size : Int) : Int) 1; rw [Int.toNat_natCast] at HP11) | ((with_reducible refine gate_store (t := 3) (p := 16) rfl ?_); refine store_event (t := 3) (p := 16) (v := ?vo_w12) (w1 := (w9.setCell ⟨go8, a1.size, none⟩ (.int .i64 1))) ?hg ?ho ?hn ?hr ?_; (case ho => rfl); (case hg => rfl); (case hn => rfl); (case hr => first | (go_simp; done) | (go_simp; rfl)); intro w12 hw; have hg : w9.grownBy w12 (some go8) := (by rw [hw]; exact HP11.2); have hp_ : Kd.R (Kd.int .i64) 3 w12 w.heap.size (fun _ => True) (.slice (some ⟨go8, 0, none⟩) y512.length co8) y515 := (by rw [hw, Ny515.out]; exact HP11.1); clear HP11; have n0_ := Aside0.mk (hp_); have n1_ := Aside0.mk ((by rw [hw]; exact below_set (HB.out) GB8.out : Below w.heap.size w w12)); clear HO514; clear HB; have HO514 := n0_; have HB := n1_; clear n0_ n1_; clear hg hw hp_))
     go_loopg [6] k (fun kq v6 w' => ∃ (x5_1 : List Int) (x6_1 : Int), v6 = .int .i64 x6_1 ∧ Aside0 (whistle_counts.l0 kq l0 a1 x5_1 x6_1 = some r) ∧ Aside0 (kq ≤ k) ∧ Aside0 (Kd.R (Kd.int .i64) 3 w' w.heap.size (fun _ => True) (.slice (some ⟨go8, 0, none⟩) y512.length co8) x5_1) ∧ Aside0 (Below w.heap.size w w'))
     case atStart => exact ⟨(y515), (wrap64 ((a1.size : Int) - 1)), (by first | rfl | (simp; done) | (simp [*]; done)), H', ⟨Nat.le_refl _⟩, ⟨by (with_reducible repeat (first | apply Kd.R_alloc | apply Kd.R_drewN | apply Kd.R_drew)); exact HO514.out⟩, ⟨by repeat (first | (with_reducible first | exact HB.out | apply below_alloc | apply pw_below_drewN | apply below_drew1) | exact HB.out)⟩⟩
     case round =>
      clear H'
      try clear p2
      try clear c4
      try clear c4b0
      try clear c4b1
      try clear c5
      try clear c5b0
      try clear c5b1
      try clear c6
      try clear c6b0
      try clear c6b1
      try clear p6
      try clear c7
      try clear c7b0
      try clear c7b1
      try clear c8
      try clear p8
      try clear q8
      try clear hx8
      try clear hf8
      try clear hx8_0
      try clear p8
      try clear q8
      obtain ⟨x5_1, x6_1, rfl, HA, HK1, HO_5, HB⟩ := hrel
      have hl5_1 := (Kd.R_reads' HO_5.out).1
      rw [hl5_1] at HO_5
      (try simp only [hl5_1])
      cases gk with
      | zero => exact absurd HA.out (by simp [whistle_counts.l0])
      | succ k1 =>
       have H := HA.out
       clear HA
       simp only [whistle_counts.l0] at H
       by_cases c13 : x6_1 ≥ 0
       ·rw [if_pos c13] at H
        have c13b0 : decide (0 ≤ x6_1) = true := decide_eq_true c13
        clear c13
        have H' := Aside0.mk H
        clear H
        go_wp2
        go_loopg [26] k1 (fun kq v26 w' => ∃ (x5_2 : List Int) (x26_2 : Int), v26 = .int .i64 x26_2 ∧ Aside0 (whistle_counts.l1 kq l0 a1 x5_2 x6_1 l0 (l0.length : Int) x26_2 = some r) ∧ Aside0 (kq ≤ k1) ∧ Aside0 (Kd.R (Kd.int .i64) 3 w' w.heap.size (fun _ => True) (.slice (some ⟨go8, 0, none⟩) x5_1.length co8) x5_2) ∧ Aside0 (Below w.heap.size w w'))
        case atStart => exact ⟨(x5_1), (0), (by first | rfl | (simp; done) | (simp [*]; done)), H', ⟨Nat.le_refl _⟩, ⟨by (try simp only [hl5_1]); (with_reducible repeat (first | apply Kd.R_alloc | apply Kd.R_drewN | apply Kd.R_drew)); exact HO_5.out⟩, ⟨by repeat (first | (with_reducible first | exact HB.out | apply below_alloc | apply pw_below_drewN | apply below_drew1) | exact HB.out)⟩⟩
        case round =>
         clear H'
         try clear c1
         try clear p2
         try clear c4
         try clear c4b0
         try clear c4b1
         try clear c5
         try clear c5b0
         try clear c5b1
         try clear c6
         try clear c6b0
         try clear c6b1
         try clear p6
         try clear c7
         try clear c7b0
         try clear c7b1
         try clear c8
         try clear p8
         try clear q8
         try clear hx8
         try clear hf8
         try clear c13
         try clear c13b0
         try clear hx8_0
         try clear p2
         try clear p6
         try clear p8
         try clear q8
         obtain ⟨x5_2, x26_2, rfl, HA, HK2, HO_5, HB⟩ := hrel
         have hl5_2 := (Kd.R_reads' HO_5.out).1
         rw [hl5_2] at HO_5
         (try simp only [hl5_2])
         cases gk with
         | zero => exact absurd HA.out (by simp [whistle_counts.l1])
         | succ k2 =>
          have H := HA.out
          clear HA
          simp only [whistle_counts.l1] at H
          by_cases c14 : x26_2 < (l0.length : Int)
          ·rw [if_pos c14] at H
           have c14b0 : decide (x26_2 < (l0.length : Int)) = true := decide_eq_true c14
           clear c14
           by_cases c15 : 0 ≤ x26_2
           ·rw [if_pos c15] at H
            have c15b0 : decide (0 ≤ x26_2) = true := decide_eq_true c15
            clear c15
            by_cases c16 : x26_2 < (l0.length : Int)
            ·rw [if_pos c16] at H
             have c16b0 : decide (x26_2 < (l0.length : Int)) = true := decide_eq_true c16
             clear c16
             by_cases c17 : 0 ≤ x6_1
             ·rw [if_pos c17] at H
              have c17b0 := eq_true c17
              have c17b1 : decide (0 ≤ x6_1) = true := decide_eq_true c17
              clear c17
              by_cases c18 : x6_1 ≤ (a1.size : Int)
              ·rw [if_pos c18] at H
               have c18b0 := eq_true c18
               have c18b1 : decide (x6_1 ≤ (a1.size : Int)) = true := decide_eq_true c18
               clear c18
               replace H := Option.bind_eq_some_iff.mp H
               obtain ⟨t517, A190, H⟩ := H
               replace H : (if t517 = true then (if x6_1 < (x5_2.length : Int) then (if 0 ≤ (wrap64 (x6_1 + ((rdOf ByteArray.empty l0 x26_2).size : Int))) then (if (wrap64 (x6_1 + ((rdOf ByteArray.empty l0 x26_2).size : Int))) < (x5_2.length : Int) then (whistle_counts.l1 k2 l0 a1 (x5_2.set (x6_1 : Int).toNat (wrap64 ((rd x5_2 x6_1) + (rd x5_2 (wrap64 (x6_1 + ((rdOf ByteArray.empty l0 x26_2).size : Int))))))) x6_1 l0 (l0.length : Int) (wrap64 (x26_2 + 1))) else (none)) else (none)) else (none)) else (whistle_counts.l1 k2 l0 a1 x5_2 x6_1 l0 (l0.length : Int) (wrap64 (x26_2 + 1)))) = some r := H
               have A19 := Aside0.mk A190
               clear A190
               by_cases c20 : t517 = true
               ·subst c20
                have H1 : (if x6_1 < (x5_2.length : Int) then (if 0 ≤ (wrap64 (x6_1 + ((rdOf ByteArray.empty l0 x26_2).size : Int))) then (if (wrap64 (x6_1 + ((rdOf ByteArray.empty l0 x26_2).size : Int))) < (x5_2.length : Int) then (whistle_counts.l1 k2 l0 a1 (x5_2.set (x6_1 : Int).toNat (wrap64 ((rd x5_2 x6_1) + (rd x5_2 (wrap64 (x6_1 + ((rdOf ByteArray.empty l0 x26_2).size : Int))))))) x6_1 l0 (l0.length : Int) (wrap64 (x26_2 + 1))) else (none)) else (none)) else (none)) = some r := by rw [if_pos rfl] at H; exact H
                clear H
                have H := H1
                clear H1
                by_cases c21 : x6_1 < (x5_2.length : Int)
                ·rw [if_pos c21] at H
                 have c21b0 : decide (x6_1 < (x5_2.length : Int)) = true := decide_eq_true c21
                 clear c21
                 obtain ⟨ji22, hji22⟩ : ∃ j_ : Int, (wrap64 (x6_1 + ((rdOf ByteArray.empty l0 x26_2).size : Int))) = j_ := ⟨_, rfl⟩
                 replace H : (if 0 ≤ (ji22) then (if (ji22) < (x5_2.length : Int) then (whistle_counts.l1 k2 l0 a1 (x5_2.set (x6_1 : Int).toNat (wrap64 ((rd x5_2 x6_1) + (rd x5_2 (ji22))))) x6_1 l0 (l0.length : Int) (wrap64 (x26_2 + 1))) else (none)) else (none)) = some r := by first | (rw [hji22] at H; exact H) | (simp only [hji22] at H ⊢; exact H)
                 (try rw [hji22] at A19)
                 have hji22w : (IntKind.i64.wrap (x6_1 + ((rdOf ByteArray.empty l0 x26_2).size : Int))) = ji22 := (i64_w _).trans hji22
                 by_cases c23 : 0 ≤ (ji22)
                 ·rw [if_pos c23] at H
                  have c23b0 : decide (0 ≤ (ji22)) = true := decide_eq_true c23
                  clear c23
                  by_cases c24 : (ji22) < (x5_2.length : Int)
                  ·rw [if_pos c24] at H
                   have c24b0 : decide ((ji22) < (x5_2.length : Int)) = true := decide_eq_true c24
                   clear c24
                   obtain ⟨y520, hy520⟩ : ∃ y_ : List Int, y_ = (x5_2.set (x6_1 : Int).toNat (wrap64 ((rd x5_2 x6_1) + (rd x5_2 (ji22))))) := ⟨_, rfl⟩
                   replace H : (whistle_counts.l1 k2 l0 a1 y520 x6_1 l0 (l0.length : Int) (wrap64 (x26_2 + 1))) = some r := by first | (rw [hy520]; with_reducible exact H) | (have H2_ := (Option.bind_some _ _).symm.trans H; rw [hy520]; with_reducible exact H2_) | (have H2_ := (Option.bind_some _ _).symm.trans H; with_reducible exact H2_) | with_reducible exact H | (rw [hy520]; exact H) | exact H
                   have Ny520 := Aside0.mk hy520
                   clear hy520
                   have H' := Aside0.mk H
                   clear H
                   have p516 : 0 ≤ (x26_2 : Int) := of_decide_eq_true (by first | (with_reducible assumption) | assumption)
                   have q516 : x26_2 < (l0.length : Int) := of_decide_eq_true (by first | (with_reducible assumption) | assumption)
                   obtain ⟨ad516, e516, hx516_0⟩ := Kd.at_string HR0.out x26_2 p516 q516
                   cases e516
                   replace hx516_0 := (HB.out.cell (World.block_lt_of_cell? w _ hx516_0)).trans hx516_0
                   replace p516 := eq_true p516
                   replace q516 := eq_true q516
                   try go_wp2_with (first | ((with_reducible refine gate_callee (f := 58) rfl ?_); refine goesL_ (some 34) rfl rfl Try.func58 (by kernel_rfl) rfl #[.string (a1.extract (x6_1 : Int).toNat a1.size), .string (rdOf ByteArray.empty l0 x26_2)] rfl (by (try simp only [List.map_toArray, List.map_cons, List.map_nil]); first | done | rfl | (simp only [List.length_drop, List.length_take]; rfl)) ?_; (with_reducible refine (strings_HasPrefix.calls (a1.extract (x6_1 : Int).toNat a1.size) (rdOf ByteArray.empty l0 x26_2) true _ A19.out).mono ?_); rintro e w' ⟨rfl, ⟨nd, rfl⟩⟩; refine ⟨_, rfl, ?_⟩; (try (rw [drewN_self wr]; generalize hq_ : World.drewN wr _ = wr; have n0_ : Aside0 (Kd.R (Kd.int .i64) 3 wr w.heap.size (fun _ => True) (.slice (some ⟨go8, 0, none⟩) x5_2.length co8) x5_2) := ⟨by rw [← hq_]; exact (by (with_reducible repeat (first | apply Kd.R_alloc | apply Kd.R_drewN | apply Kd.R_drew)); exact HO_5.out)⟩; have n1_ : Aside0 (Below w.heap.size w wr) := ⟨by rw [← hq_]; exact (by repeat (first | (with_reducible first | exact HB.out | apply below_alloc | apply pw_below_drewN | apply below_drew1) | exact HB.out))⟩; clear HO_5 HB hq_; have HO_5 := n0_; have HB := n1_; clear n0_ n1_))))
                   have n0_ := Aside0.mk (Kd.R_drew HO_5.out)
                   have n1_ := Aside0.mk (below_drew1 HB.out)
                   clear HO_5
                   clear HB
                   have HO_5 := n0_
                   have HB := n1_
                   clear n0_ n1_
                   have p518 : 0 ≤ (x6_1 : Int) := of_decide_eq_true (by first | (with_reducible assumption) | assumption)
                   have q518 : x6_1 < (x5_2.length : Int) := of_decide_eq_true (by first | (with_reducible assumption) | assumption)
                   obtain ⟨ad518, e518, hx518_0⟩ := Kd.at_int (Kd.R_reads' HO_5.out).2.2 x6_1 p518 q518
                   obtain rfl : (⟨go8, 0, none⟩ : Addr) = ad518 := (by injection e518)
                   (first | simp only [add_plain] at hx518_0 | simp only [add_at] at hx518_0 | simp only [Addr.add, Nat.zero_add] at hx518_0 | skip)
                   replace p518 := eq_true p518
                   replace q518 := eq_true q518
                   have p519 : 0 ≤ ((ji22) : Int) := of_decide_eq_true (by first | (with_reducible assumption) | assumption)
                   have q519 : (ji22) < (x5_2.length : Int) := of_decide_eq_true (by first | (with_reducible assumption) | assumption)
                   obtain ⟨ad519, e519, hx519_0⟩ := Kd.at_int (Kd.R_reads' HO_5.out).2.2 (ji22) p519 q519
                   obtain rfl : (⟨go8, 0, none⟩ : Addr) = ad519 := (by injection e519)
                   (first | simp only [add_plain] at hx519_0 | simp only [add_at] at hx519_0 | simp only [Addr.add, Nat.zero_add] at hx519_0 | skip)
                   replace p519 := eq_true p519
                   replace q519 := eq_true q519
                   have p25 : 0 ≤ (x6_1 : Int) := of_decide_eq_true (by first | (with_reducible assumption) | assumption)
                   have q25 : (x6_1 : Int) < ((x5_2.length : Int) : Int) := of_decide_eq_true (by first | (with_reducible assumption) | assumption)
                   obtain ⟨hx25_0, hf25_0⟩ := Kd.R_celln 0 HO_5.out (x6_1 : Int) p25 q25
                   replace p25 := eq_true p25
                   replace q25 := eq_true q25
                   have HP27 := Kd.R_putn HO_5.out (x6_1 : Int) (wrap64 ((rd x5_2 x6_1) + (rd x5_2 (ji22))))
                   rw [← Ny520.out] at HP27
                   have HQ27 := Aside0.mk HP27
                   clear HP27
                   refine start_ (n := 14) (S := fun w' => w'.cell? ⟨go8, (x6_1).toNat, none⟩ = some (.int .i64 (rd x5_2 x6_1)) ∧ w'.cell? ⟨go8, ((ji22)).toNat, none⟩ = some (.int .i64 (rd x5_2 (ji22)))) (ds := [13]) #[false, false, false, false, false, false, false, false, false, false, false, false, false, false] (by kernel_rfl) rfl rfl ⟨hx518_0, hx519_0⟩ (fun hHeld => ?_); refine with_tabW whistle_counts.tab10 whistle_counts.bits10 (fun HT_ HW_ => ?_)
                   generalize wr.drew = w26 at HO_5 HB HQ27 hf25_0 hx25_0 hx518_0 hx519_0 hHeld ⊢
                   refine pure_ (i := 0) (N := some 35) (v := ?_) (a' := ?_) #[true, false, false, false, false, false, false, false, false, false, false, false, false, false] rfl rfl (any_of HT_.out (by kernel_rfl)) (fun _ _ _ h => h) (Or.inl ⟨by rfl, ?_⟩) ?_ ?_
                   rotate_left
                   ·intro w'
                    go_simp
                    with_reducible rfl
                   rotate_left
                   ·simp only [Act.put, List.setIfInBounds_toArray, List.set_cons_zero, List.set_cons_succ, i64_w, i32_w]
                    rfl
                   refine pure_ (i := 1) (N := some 36) (v := ?_) (a' := ?_) #[true, true, false, false, false, false, false, false, false, false, false, false, false, false] rfl rfl (any_of HT_.out (by kernel_rfl)) (fun _ _ _ h => h) (Or.inl ⟨by rfl, ?_⟩) ?_ ?_
                   rotate_left
                   ·intro w'
                    go_simp
                    with_reducible rfl
                   rotate_left
                   ·simp only [Act.put, List.setIfInBounds_toArray, List.set_cons_zero, List.set_cons_succ, i64_w, i32_w]
                    rfl
                   refine pure_ (i := 2) (N := some 37) (v := ?_) (a' := ?_) #[true, true, true, false, false, false, false, false, false, false, false, false, false, false] rfl rfl (any_of HT_.out (by kernel_rfl)) (fun _ _ _ h => h) (Or.inl ⟨by rfl, ?_⟩) ?_ ?_
                   rotate_left
                   ·intro w'
                    go_simp
                    with_reducible rfl
                   rotate_left
                   ·simp only [Act.put, List.setIfInBounds_toArray, List.set_cons_zero, List.set_cons_succ, i64_w, i32_w]
                    rfl
                   refine pure_ (i := 4) (N := some 39) (v := ?_) (a' := ?_) #[true, true, true, false, true, false, false, false, false, false, false, false, false, false] rfl rfl (any_of HT_.out (by kernel_rfl)) (fun _ _ _ h => h) (Or.inl ⟨by rfl, ?_⟩) ?_ ?_
                   rotate_left
                   ·intro w'
                    go_simp
                    with_reducible rfl
                   rotate_left
                   ·simp only [Act.put, List.setIfInBounds_toArray, List.set_cons_zero, List.set_cons_succ, i64_w, i32_w]
                    rfl
                   refine pure_ (i := 5) (N := some 40) (v := ?_) (a' := ?_) #[true, true, true, false, true, true, false, false, false, false, false, false, false, false] rfl rfl (any_of HT_.out (by kernel_rfl)) (fun _ _ _ h => h) (Or.inl ⟨by rfl, ?_⟩) ?_ ?_
                   rotate_left
                   ·intro w'
                    go_simp
                    with_reducible rfl
                   rotate_left
                   ·simp only [Act.put, List.setIfInBounds_toArray, List.set_cons_zero, List.set_cons_succ, i64_w, i32_w]
                    rfl
                   refine pure_ (i := 6) (N := some 41) (v := ?_) (a' := ?_) #[true, true, true, false, true, true, true, false, false, false, false, false, false, false] rfl rfl (any_of HT_.out (by kernel_rfl)) (fun _ _ _ h => h) (Or.inl ⟨by rfl, ?_⟩) ?_ ?_
                   rotate_left
                   ·intro w'
                    go_simp
                    with_reducible rfl
                   rotate_left
                   ·simp only [Act.put, List.setIfInBounds_toArray, List.set_cons_zero, List.set_cons_succ, i64_w, i32_w]
                    rfl
                   refine pure_ (i := 7) (N := some 42) (v := ?_) (a' := ?_) #[true, true, true, false, true, true, true, true, false, false, false, false, false, false] rfl rfl (any_of HT_.out (by kernel_rfl)) (fun _ _ _ h => h) (Or.inl ⟨by rfl, ?_⟩) ?_ ?_
                   rotate_left
                   ·intro w'
                    go_simp
                    with_reducible rfl
                   rotate_left
                   ·simp only [Act.put, List.setIfInBounds_toArray, List.set_cons_zero, List.set_cons_succ, i64_w, i32_w]
                    rfl
                   refine pure_ (i := 8) (N := some 43) (v := ?_) (a' := ?_) #[true, true, true, false, true, true, true, true, true, false, false, false, false, false] rfl rfl (any_of HT_.out (by kernel_rfl)) (fun _ _ _ h => h) (Or.inl ⟨by rfl, ?_⟩) ?_ ?_
                   rotate_left
                   ·intro w'
                    go_simp
                    with_reducible rfl
                   rotate_left
                   ·simp only [Act.put, List.setIfInBounds_toArray, List.set_cons_zero, List.set_cons_succ, i64_w, i32_w]
                    rfl
                   refine pure_ (i := 9) (N := some 44) (v := ?_) (a' := ?_) #[true, true, true, false, true, true, true, true, true, true, false, false, false, false] rfl rfl (any_of HT_.out (by kernel_rfl)) (fun _ _ _ h => h) (Or.inl ⟨by rfl, ?_⟩) ?_ ?_
                   rotate_left
                   ·intro w'
                    go_simp
                    with_reducible rfl
                   rotate_left
                   ·simp only [Act.put, List.setIfInBounds_toArray, List.set_cons_zero, List.set_cons_succ, i64_w, i32_w]
                    rfl
                   refine take_ (i := 3) (N := some 38) (v := ?_) (a' := ?_) #[true, true, true, true, true, true, true, true, true, true, false, false, false, false] rfl rfl (take_ofW HT_.out HW_.out (by kernel_rfl)) (fun _ _ _ h => h) (Or.inl ⟨by rfl, ?_⟩) hHeld ?_ ?_
                   rotate_left
                   ·rintro w' ⟨s0, s1⟩
                    go_simp
                    with_reducible rfl
                   rotate_left
                   ·simp only [Act.put, List.setIfInBounds_toArray, List.set_cons_zero, List.set_cons_succ, i64_w, i32_w]
                    rfl
                   refine take_ (i := 10) (N := some 45) (v := ?_) (a' := ?_) #[true, true, true, true, true, true, true, true, true, true, true, false, false, false] rfl rfl (take_ofW HT_.out HW_.out (by kernel_rfl)) (fun _ _ _ h => h) (Or.inl ⟨by rfl, ?_⟩) hHeld ?_ ?_
                   rotate_left
                   ·rintro w' ⟨s0, s1⟩
                    go_simp
                    with_reducible rfl
                   rotate_left
                   ·simp only [Act.put, List.setIfInBounds_toArray, List.set_cons_zero, List.set_cons_succ, i64_w, i32_w]
                    rfl
                   refine pure_ (i := 11) (N := some 46) (v := ?_) (a' := ?_) #[true, true, true, true, true, true, true, true, true, true, true, true, false, false] rfl rfl (any_of HT_.out (by kernel_rfl)) (fun _ _ _ h => h) (Or.inl ⟨by rfl, ?_⟩) ?_ ?_
                   rotate_left
                   ·intro w'
                    go_simp
                    with_reducible rfl
                   rotate_left
                   ·simp only [Act.put, List.setIfInBounds_toArray, List.set_cons_zero, List.set_cons_succ, i64_w, i32_w]
                    rfl
                   refine pure_ (i := 12) (N := some 47) (v := ?_) (a' := ?_) #[true, true, true, true, true, true, true, true, true, true, true, true, true, false] rfl rfl (any_of HT_.out (by kernel_rfl)) (fun _ _ _ h => h) (Or.inl ⟨by rfl, ?_⟩) ?_ ?_
                   rotate_left
                   ·intro w'
                    go_simp
                    with_reducible rfl
                   rotate_left
                   ·simp only [Act.put, List.setIfInBounds_toArray, List.set_cons_zero, List.set_cons_succ, i64_w, i32_w]
                    rfl
                   refine last_ (i := 13) (N := none) #[true, true, true, true, true, true, true, true, true, true, true, true, true, true] rfl rfl (one_of HT_.out (by kernel_rfl)) (by decide) (fun K hK => ?_)
                   refine skip_ (w1 := ?_) (by rfl) rfl ?_ ?_
                   rotate_left
                   ·go_simp
                    rfl
                   refine hK.out _ _ ?_
                   clear hK K
                   refine done_ (done_of HT_.out (by kernel_rfl)) ?_
                   try go_wp2
                   (try simp only [← hl5_2])
                   go_roundg k2
                   case measure => have := HK1.out; have := HK2.out; omega
                   case rel => exact ⟨(y520), (wrap64 (x26_2 + 1)), (by first | rfl | (simp; done) | (simp [*]; done)), H', ⟨by have := HK1.out; have := HK2.out; omega⟩, ⟨by (try simp only [hl5_1]); (try simp only [hl5_2]); (with_reducible repeat (first | apply Kd.R_alloc | apply Kd.R_drewN | apply Kd.R_drew)); exact HQ27.out⟩, ⟨by repeat (first | (with_reducible first | exact HB.out | apply below_alloc | apply pw_below_drewN | apply below_drew1 | refine below_set ?_ GB8.out) | exact HB.out)⟩⟩
                  ·rw [if_neg c24] at H
                   exact absurd H (by simp)
                 ·rw [if_neg c23] at H
                  exact absurd H (by simp)
                ·rw [if_neg c21] at H
                 exact absurd H (by simp)
               ·replace c20 := Bool.eq_false_iff.mpr c20
                subst c20
                have H1 : (whistle_counts.l1 k2 l0 a1 x5_2 x6_1 l0 (l0.length : Int) (wrap64 (x26_2 + 1))) = some r := by rw [if_neg (show ¬ (false = true) by decide)] at H; exact H
                clear H
                have H := H1
                clear H1
                have H' := Aside0.mk H
                clear H
                have p516 : 0 ≤ (x26_2 : Int) := of_decide_eq_true (by first | (with_reducible assumption) | assumption)
                have q516 : x26_2 < (l0.length : Int) := of_decide_eq_true (by first | (with_reducible assumption) | assumption)
                obtain ⟨ad516, e516, hx516_0⟩ := Kd.at_string HR0.out x26_2 p516 q516
                cases e516
                replace hx516_0 := (HB.out.cell (World.block_lt_of_cell? w _ hx516_0)).trans hx516_0
                replace p516 := eq_true p516
                replace q516 := eq_true q516
                go_wp2_with (first | ((with_reducible refine gate_callee (f := 58) rfl ?_); refine goesL_ (some 34) rfl rfl Try.func58 (by kernel_rfl) rfl #[.string (a1.extract (x6_1 : Int).toNat a1.size), .string (rdOf ByteArray.empty l0 x26_2)] rfl (by (try simp only [List.map_toArray, List.map_cons, List.map_nil]); first | done | rfl | (simp only [List.length_drop, List.length_take]; rfl)) ?_; (with_reducible refine (strings_HasPrefix.calls (a1.extract (x6_1 : Int).toNat a1.size) (rdOf ByteArray.empty l0 x26_2) false _ A19.out).mono ?_); rintro e w' ⟨rfl, ⟨nd, rfl⟩⟩; refine ⟨_, rfl, ?_⟩))
                (try simp only [← hl5_2])
                go_roundg k2
                case measure => have := HK1.out; have := HK2.out; omega
                case rel => exact ⟨(x5_2), (wrap64 (x26_2 + 1)), (by first | rfl | (simp; done) | (simp [*]; done)), H', ⟨by have := HK1.out; have := HK2.out; omega⟩, ⟨by (try simp only [hl5_1]); (try simp only [hl5_2]); (with_reducible repeat (first | apply Kd.R_alloc | apply Kd.R_drewN | apply Kd.R_drew)); exact HO_5.out⟩, ⟨by repeat (first | (with_reducible first | exact HB.out | apply below_alloc | apply pw_below_drewN | apply below_drew1) | exact HB.out)⟩⟩
              ·rw [if_neg c18] at H
               exact absurd H (by simp)
             ·rw [if_neg c17] at H
              exact absurd H (by simp)
            ·rw [if_neg c16] at H
             exact absurd H (by simp)
           ·rw [if_neg c15] at H
            exact absurd H (by simp)
          ·rw [if_neg c14] at H
           have c14b0 : decide (x26_2 < (l0.length : Int)) = false := decide_eq_false c14
           clear c14
           have H' := Aside0.mk H
           clear H
           go_wp2
           (try simp only [← hl5_1, ← hl5_2])
           go_roundg k2
           case measure => have := HK1.out; have := HK2.out; omega
           case rel => exact ⟨(x5_2), (wrap64 (x6_1 - 1)), (by first | rfl | (simp; done) | (simp [*]; done)), H', ⟨by have := HK1.out; have := HK2.out; omega⟩, ⟨by (try simp only [hl5_1]); (try simp only [hl5_2]); (with_reducible repeat (first | apply Kd.R_alloc | apply Kd.R_drewN | apply Kd.R_drew)); exact HO_5.out⟩, ⟨by repeat (first | (with_reducible first | exact HB.out | apply below_alloc | apply pw_below_drewN | apply below_drew1) | exact HB.out)⟩⟩
       ·rw [if_neg c13] at H
        have c13b0 : decide (0 ≤ x6_1) = false := decide_eq_false c13
        clear c13
        obtain rfl := Option.some.inj H
        go_wp2
        go_ret
        exact ⟨_, by first | rfl | (simp [errW_none, errW_some] <;> rfl) | (simp only [← hji3]; first | rfl | (simp [errW_none, errW_some] <;> rfl)) | (simp [*, errW_none, errW_some] <;> rfl), by (with_reducible repeat (first | apply Kd.R_alloc | apply Kd.R_drewN | apply Kd.R_drew)); exact HO_5.out, by repeat (first | (with_reducible first | exact HB.out | apply below_alloc | apply pw_below_drewN | apply below_drew1) | exact HB.out)⟩
    ·rw [if_neg c7] at H
     exact absurd H (by simp)
   ·rw [if_neg c6] at H
    exact absurd H (by simp)
  ·rw [if_neg c5] at H
   exact absurd H (by simp)
 ·rw [if_neg c4] at H
  exact absurd H (by simp)

/-! ### whistle_Heard: function 43 -/
def whistle_Heard.f (k : Nat) (l0 : List ByteArray) (a1 : ByteArray) : Option (Int × Int) := (whistle_heard.f k l0 a1).bind fun t521 => (if t521 = 0 then ((whistle_counts.f k l0 a1).bind fun t522 => (if 0 < (t522.length : Int) then (some (rd t522 0, 0)) else (none))) else (some (0, t521)))
theorem whistle_Heard.mono : ∀ a0 a1 k, LeO (whistle_Heard.f k a0 a1) (whistle_Heard.f (k + 1) a0 a1) := by
 intro a0 a1 k
 unfold whistle_Heard.f
 repeat' first
   | (with_reducible exact whistle_counts.mono _ _ _)
   | (with_reducible exact whistle_heard.mono _ _ _)
   | (with_reducible exact LeO.refl _)
   | (with_reducible exact LeO.none _)
   | (with_reducible refine LeO.ite ?_ ?_)
   | (with_reducible refine LeO.bind ?_ (fun _ => ?_))
   | exact whistle_counts.mono _ _ _
   | exact whistle_heard.mono _ _ _
   | exact LeO.none _
   | refine LeO.ite ?_ ?_
   | refine LeO.bind ?_ (fun _ => ?_)
set_option maxHeartbeats 8000000 in
set_option maxRecDepth 100000 in
theorem whistle_Heard.calls (k : Nat) (A0 : Option Addr) (c0 : Nat) (l0 : List ByteArray) (a1 : ByteArray) (r1 : Int) (r2 : Int) (w : World) (hr0 : Kd.C Kd.string w A0 l0.length l0) (hc0 : l0.length ≤ c0) (h : whistle_Heard.f k l0 a1 = some (r1, r2)) :
  Calls Try.prog 43 #[.slice A0 l0.length c0, .string a1] w fun e w' => e = .returned (.tuple #[.int .i64 r1, .int .i64 r2]) ∧ Below w.heap.size w w' := by
 have HR0 := Aside0.mk hr0
 have HC0 := Aside0.mk hc0
 clear hr0 hc0
 have HB := Aside0.mk (Below.refl w.heap.size w)
 have H : ((whistle_heard.f k l0 a1).bind fun t521 => (if t521 = 0 then ((whistle_counts.f k l0 a1).bind fun t522 => (if 0 < (t522.length : Int) then (some (rd t522 0, 0)) else (none))) else (some (0, t521)))) = some (r1, r2) := h
 clear h
 replace H := Option.bind_eq_some_iff.mp H
 obtain ⟨t521, A30, H⟩ := H
 replace H : (if t521 = 0 then ((whistle_counts.f k l0 a1).bind fun t522 => (if 0 < (t522.length : Int) then (some (rd t522 0, 0)) else (none))) else (some (0, t521))) = some (r1, r2) := H
 have A3 := Aside0.mk A30
 clear A30
 by_cases c4 : t521 = 0
 ·rw [if_pos c4] at H
  have c4b0 : (t521 == 0) = true := beq_iff_eq.mpr c4
  have c4b1 : (t521 != 0) = false := bne_eq_false_iff_eq.mpr c4
  clear c4
  replace H := Option.bind_eq_some_iff.mp H
  obtain ⟨t522, A50, H⟩ := H
  replace H : (if 0 < (t522.length : Int) then (some (rd t522 0, 0)) else (none)) = some (r1, r2) := H
  have A5 := Aside0.mk A50
  clear A50
  by_cases c6 : 0 < (t522.length : Int)
  ·rw [if_pos c6] at H
   have c6b0 : decide (0 < (t522.length : Int)) = true := decide_eq_true c6
   have c6b1 : decide (0 < t522.length) = true := decide_eq_true (by omega)
   clear c6
   simp only [Option.some.injEq, Prod.mk.injEq] at H
   obtain ⟨rfl, rfl⟩ := H
   go_enter Try.func43, Try.ntmps43
   go_wp2_with (first | ((with_reducible refine gate_callee (f := 83) rfl ?_); refine goesL_ (some 9) rfl rfl Try.func83 (by kernel_rfl) rfl #[.slice A0 l0.length c0, .string a1] rfl (by (try simp only [List.map_toArray, List.map_cons, List.map_nil]); first | done | rfl | (simp only [List.length_drop, List.length_take]; rfl)) ?_; (with_reducible refine (whistle_heard.calls k _ _ l0 a1 t521 _ ?side1 ?side2 A3.out).mono ?_); (case side1 => repeat (first | exact HR0.out | (with_reducible refine Kd.C_alloc ?_ _) | (with_reducible refine Kd.C_drewN ?_ _) | (with_reducible refine Kd.C_drew ?_))); (case side2 => exact HC0.out); rintro e w7 ⟨rfl, hb⟩; refine ⟨_, rfl, ?_⟩; have n0_ := Aside0.mk (below_step (by repeat (first | (with_reducible first | exact HB.out | apply below_alloc | apply pw_below_drewN | apply below_drew1) | exact HB.out)) hb); clear HB; have HB := n0_; clear n0_; (try clear hb); (try clear hb2); (try clear hk); (try clear hi)) | ((with_reducible refine gate_callee (f := 87) rfl ?_); refine goesL_ (some 15) rfl rfl Try.func87 (by kernel_rfl) rfl #[.slice A0 l0.length c0, .string a1] rfl (by (try simp only [List.map_toArray, List.map_cons, List.map_nil]); first | done | rfl | (simp only [List.length_drop, List.length_take]; rfl)) ?_; (with_reducible refine (whistle_counts.calls k _ _ l0 a1 t522 _ ?side1 ?side2 A5.out).mono ?_); (case side1 => repeat (first | exact (Kd.C_below HR0.out HB.out) | (with_reducible refine Kd.C_alloc ?_ _) | (with_reducible refine Kd.C_drewN ?_ _) | (with_reducible refine Kd.C_drew ?_))); (case side2 => exact HC0.out); rintro e w8 ⟨v523, rfl, ho0, hb⟩; refine ⟨_, rfl, ?_⟩; have n0_ := Aside0.mk (Kd.R_lower ho0 (below_size (by repeat (first | (with_reducible first | exact HB.out | apply below_alloc | apply pw_below_drewN | apply below_drew1) | exact HB.out)))); have n1_ := Aside0.mk (below_step (by repeat (first | (with_reducible first | exact HB.out | apply below_alloc | apply pw_below_drewN | apply below_drew1) | exact HB.out)) hb); clear HB; have HO524 := n0_; have HB := n1_; clear n0_ n1_; (try clear hb); (try clear hb2); (try clear hk); (try clear hi); (try clear ho0); obtain ⟨Ao9, co9, eo9⟩ := Kd.R_slice HO524.out; subst eo9; have p525 : 0 ≤ (0 : Int) := (by omega); have q525 : 0 < (t522.length : Int) := of_decide_eq_true (by first | (with_reducible assumption) | assumption); obtain ⟨ad525, e525, hx525_0⟩ := Kd.at_int (Kd.R_reads' HO524.out).2.2 0 p525 q525; cases e525; have qi525 : (0 < t522.length) = True := eq_true (by omega); (try rw [show ((0 : Int)).toNat = 0 from rfl] at hx525_0); (try rw [Addr.add_zero'] at hx525_0); replace p525 := eq_true p525; replace q525 := eq_true q525))
   go_ret2
   exact ⟨by first | rfl | (simp [errW_none, errW_some] <;> rfl) | (simp [*, errW_none, errW_some] <;> rfl), by repeat (first | (with_reducible first | exact HB.out | apply below_alloc | apply pw_below_drewN | apply below_drew1) | exact HB.out)⟩
  ·rw [if_neg c6] at H
   exact absurd H (by simp)
 ·rw [if_neg c4] at H
  have c4b0 : (t521 == 0) = false := beq_eq_false_iff_ne.mpr c4
  have c4b1 : (t521 != 0) = true := bne_iff_ne.mpr c4
  simp only [Option.some.injEq, Prod.mk.injEq] at H
  obtain ⟨rfl, rfl⟩ := H
  go_enter Try.func43, Try.ntmps43
  go_wp2_with (first | ((with_reducible refine gate_callee (f := 83) rfl ?_); refine goesL_ (some 9) rfl rfl Try.func83 (by kernel_rfl) rfl #[.slice A0 l0.length c0, .string a1] rfl (by (try simp only [List.map_toArray, List.map_cons, List.map_nil]); first | done | rfl | (simp only [List.length_drop, List.length_take]; rfl)) ?_; (with_reducible refine (whistle_heard.calls k _ _ l0 a1 t521 _ ?side1 ?side2 A3.out).mono ?_); (case side1 => repeat (first | exact HR0.out | (with_reducible refine Kd.C_alloc ?_ _) | (with_reducible refine Kd.C_drewN ?_ _) | (with_reducible refine Kd.C_drew ?_))); (case side2 => exact HC0.out); rintro e w10 ⟨rfl, hb⟩; refine ⟨_, rfl, ?_⟩; have n0_ := Aside0.mk (below_step (by repeat (first | (with_reducible first | exact HB.out | apply below_alloc | apply pw_below_drewN | apply below_drew1) | exact HB.out)) hb); clear HB; have HB := n0_; clear n0_; (try clear hb); (try clear hb2); (try clear hk); (try clear hi)))
  go_ret2
  exact ⟨by first | rfl | (simp [errW_none, errW_some] <;> rfl) | (simp [*, errW_none, errW_some] <;> rfl), by repeat (first | (with_reducible first | exact HB.out | apply below_alloc | apply pw_below_drewN | apply below_drew1) | exact HB.out)⟩

end Go.Proofs.Ytpkafcoflgbnaaa.Q
