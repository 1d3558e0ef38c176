-- Written by a program of this session (wip/tools/gprint.py, over the kit's print); Lean checks it.
import Derived.Test.YthihlapmkcelpaaDoorQx0
import Derived.Test.YthihlapmkcelpaaDoorQx2
import Derived.Test.YthihlapmkcelpaaDoorQx5
import Derived.Test.YthihlapmkcelpaaDoorQx7
import Derived.Test.YthihlapmkcelpaaDoorQx10
namespace Go.Proofs.YthihlapmkcelpaaDoor.Q
open Go.RowKit Go.Proofs.YthihlapmkcelpaaDoorW.PrintWords Go.Proofs.YthihlapmkcelpaaDoorW.PrintLast Go.Proofs.YthihlapmkcelpaaDoorW.PrintMore
attribute [local go_sem] max2_int min2_int max_two min_two max_three min_three max_four min_four   -- for this text's walks alone
set_option linter.unusedVariables false
set_option linter.unusedSimpArgs false

/-! ### wind_workers: function 86 -/
-- GIVEN wigeon/wind.workers rounds=0 making=0
def pipeAt (l : List S33) (i p : Nat) : Bool := inArc (rd_T33 l (i : Int)).f0.toNat (rd_T33 l (i : Int)).f1 p
/-- The pipes among the first ones that can be worked at a point, as bits. -/
def whoTo (l : List S33) (i p : Nat) : Nat := maskN (fun j => pipeAt l j p) i
def midW (l : List S33) (i p : Nat) : Nat → Nat := fun q => if q < p then whoTo l (i + 1) q else whoTo l i q
def encW (h : Nat → Nat) : Array Value := encF fun p => .int .u64 ((h p : Nat) : Int)
theorem encW_congr {f g : Nat → Nat} (h : ∀ p, p < 32 → f p = g p) : encW f = encW g := encF_congr fun p hp => by rw [h p hp]
structure WAt (w : World) (h : Nat → Nat) (w' : World) : Prop where
  res : w'.heap[w.heap.size]? = some (.cells (encW fun _ => 0) 93 (0, 0))
  out : w'.heap[w.heap.size + 1]? = some (.cells (encW h) 93 (0, 0))
  bel : Below w.heap.size w w'
theorem zeroW : (#[.int .u64 0, .int .u64 0, .int .u64 0, .int .u64 0, .int .u64 0, .int .u64 0, .int .u64 0, .int .u64 0, .int .u64 0, .int .u64 0, .int .u64 0, .int .u64 0, .int .u64 0, .int .u64 0, .int .u64 0, .int .u64 0, .int .u64 0, .int .u64 0, .int .u64 0, .int .u64 0, .int .u64 0, .int .u64 0, .int .u64 0, .int .u64 0, .int .u64 0, .int .u64 0, .int .u64 0, .int .u64 0, .int .u64 0, .int .u64 0, .int .u64 0, .int .u64 0] : Array Value) = encW (fun _ => 0) := by rfl
theorem WAt.new (w : World) (z : Array Value) (hz : z = encW fun _ => 0) : WAt w (fun _ => 0) ((w.alloc (.cells z 93)).alloc (.cells z 93)) := by
  subst hz
  have s1 : (w.alloc (.cells (encW fun _ => 0) 93)).heap.size = w.heap.size + 1 := by simp
  refine ⟨?_, ?_, ((Below.refl _ _).alloc (Nat.le_refl _) _).alloc (by omega) _⟩
  · rw [Below.heap_alloc _ _ _ (by omega)]
    exact heap_alloc_new _ _
  · have h := heap_alloc_new (w.alloc (.cells (encW fun _ => 0) 93)) (.cells (encW fun _ => 0) 93)
    rwa [s1] at h
theorem WAt.congr {w w' : World} {f g : Nat → Nat} (H : WAt w f w') (h : ∀ p, p < 32 → f p = g p) : WAt w g w' := ⟨H.res, by rw [← encW_congr h]; exact H.out, H.bel⟩
theorem WAt.below {w w' w'' : World} {h : Nat → Nat} (H : WAt w h w') (hb : Below w'.heap.size w' w'') : WAt w h w'' :=
  ⟨(hb.block _ (Array.getElem?_eq_some_iff.1 H.res).1).trans H.res, (hb.block _ (Array.getElem?_eq_some_iff.1 H.out).1).trans H.out, H.bel.trans (hb.mono (below_size H.bel))⟩
theorem WAt.cell {w w' : World} {h : Nat → Nat} (H : WAt w h w') {p : Nat} (hp : p < 32) : w'.cell? ⟨w.heap.size + 1, p, none⟩ = some (.int .u64 ((h p : Nat) : Int)) := by
  rw [cell_of_row w' _ p _ _ _ H.out]
  exact encF_get _ p hp
theorem WAt.free {w w' : World} {h : Nat → Nat} (H : WAt w h w') (p : Nat) : w'.frozen? ⟨w.heap.size + 1, p, none⟩ = false := frozen_of_row w' _ p _ _ H.out
theorem WAt.store {w w' : World} {h : Nat → Nat} (H : WAt w h w') (p v : Nat) : WAt w (updF h p v) (w'.setCell ⟨w.heap.size + 1, p, none⟩ (.int .u64 ((v : Nat) : Int))) := by
  refine ⟨?_, ?_, H.bel.setCell (by show w.heap.size ≤ w.heap.size + 1; omega) _⟩
  · rw [heap_setCell_other w' _ _ _ (show w.heap.size ≠ w.heap.size + 1 by omega)]; exact H.res
  · rw [heap_setCell_same w' _ p _ _ _ H.out]
    unfold encW
    rw [encF_set]
    refine congrArg (fun c => some (Obj.cells c 93 (0, 0))) (encF_congr fun q _ => ?_)
    unfold updF
    by_cases e : q = p
    · rw [if_pos e, if_pos e]
    · rw [if_neg e, if_neg e]
theorem info93 : (Tryd.prog.info? 93).map (·.size) = some 32 := by kernel_rfl
theorem encW_one (h : Nat → Nat) : (encW h).all (·.oneCell') = true := encF_one fun _ _ => rfl
theorem encW_size (h : Nat → Nat) : (encW h).size = 32 := encF_size _
theorem whoTo_lt (l : List S33) (i p : Nat) : whoTo l i p < 2 ^ i := maskN_lt _ i
theorem midW_zero (l : List S33) (i : Nat) : ∀ q, midW l i 0 q = whoTo l i q := fun q => if_neg (by omega)
theorem midW_all (l : List S33) (i : Nat) : ∀ q, q < 32 → midW l i 32 q = whoTo l (i + 1) q := fun q hq => if_pos hq
theorem midW_yes {l : List S33} {i p : Nat} (h : pipeAt l i p = true) : ∀ q, updF (midW l i p) p (whoTo l i p + 2 ^ i) q = midW l i (p + 1) q := fun q => by
  unfold updF midW
  by_cases e : q = p
  · rw [if_pos e, e, if_pos (by omega)]
    show _ = (if pipeAt l i p = true then whoTo l i p + 2 ^ i else whoTo l i p)
    rw [if_pos h]
  · rw [if_neg e]
    by_cases hq : q < p
    · rw [if_pos hq, if_pos (by omega)]
    · rw [if_neg hq, if_neg (by omega)]
theorem midW_no {l : List S33} {i p : Nat} (h : ¬ pipeAt l i p = true) : ∀ q, midW l i p q = midW l i (p + 1) q := fun q => by
  unfold midW
  by_cases e : q = p
  · rw [e, if_neg (by omega), if_pos (by omega)]
    show _ = (if pipeAt l i p = true then whoTo l i p + 2 ^ i else whoTo l i p)
    rw [if_neg h]
  · by_cases hq : q < p
    · rw [if_pos hq, if_pos (by omega)]
    · rw [if_neg hq, if_neg (by omega)]
theorem midW_at (l : List S33) (i p : Nat) : midW l i p p = whoTo l i p := if_neg (by omega)
theorem or_bit64 {m p : Nat} (hp : p < 32) (hm : m < 2 ^ p) : bits BinOp.or IntKind.u64 (m : Int) (2 ^ p % 18446744073709551616) = ((m + 2 ^ p : Nat) : Int) := by
  have h1 : 2 ^ p ≤ 2 ^ 31 := Nat.pow_le_pow_right (by decide) (by omega)
  have e : (2 ^ p % 18446744073709551616 : Int) = ((2 ^ p : Nat) : Int) := by
    rw [Int.natCast_pow]
    refine Int.emod_eq_of_lt (Int.pow_nonneg (by decide)) ?_
    have h2 : ((2 ^ p : Nat) : Int) < 18446744073709551616 := by omega
    rwa [Int.natCast_pow] at h2
  rw [e, u64_or_nat m (2 ^ p) (by omega) (by omega)]
  congr 1
  rw [Nat.or_comm]
  have := Nat.two_pow_add_eq_or_of_lt hm 1
  rw [Nat.mul_one] at this
  omega
theorem arcBits (f : Nat) (wd : Int) {p : Nat} (hp : p < 32) : (maskN (inArc f wd) 32).testBit p = inArc f wd p := by
  rw [maskN_testBit, decide_eq_true hp, Bool.true_and]
set_option maxHeartbeats 3200000 in
set_option maxRecDepth 100000 in
theorem workers.walk (A0 : Option Addr) (c0 : Nat) (l : List S33) (w : World) (hr0 : Kd.C k33 w A0 l.length l) (hc0 : l.length ≤ c0) (hlen : l.length ≤ 10) (hok : ∀ i : Nat, i < l.length → 0 ≤ (rd_T33 l (i : Int)).f0 ∧ (rd_T33 l (i : Int)).f0 ≤ 31) : Calls Tryd.prog 86 #[.slice A0 l.length c0] w fun e w' => e = .returned (.agg (encW (whoTo l l.length))) ∧ Below w.heap.size w w' := by
  have hmf : ∀ (fn : Fn) (first cap : Array Value) (w : World), (Instr.makeFunc fn first cap).run Tryd.prog w = .ok (.func fn first cap) w := fun _ _ _ _ => rfl
  have HR := Lib.hid (fun w' (hb : Below w.heap.size w w') => Kd.C_below hr0 hb)
  have HK := Lib.hid hok
  have HI := Lib.hid (show ∀ a b : Int, (Tryd.prog.info? 33).map (·.size) = some (#[Value.int .i64 a, Value.int .i64 b] : Array Value).size from fun a b => by kernel_rfl)
  clear hr0 hok
  go_enter Tryd.func86, Tryd.ntmps86
  go_wp2
  have H0 := Lib.hid (WAt.new w #[.int .u64 0, .int .u64 0, .int .u64 0, .int .u64 0, .int .u64 0, .int .u64 0, .int .u64 0, .int .u64 0, .int .u64 0, .int .u64 0, .int .u64 0, .int .u64 0, .int .u64 0, .int .u64 0, .int .u64 0, .int .u64 0, .int .u64 0, .int .u64 0, .int .u64 0, .int .u64 0, .int .u64 0, .int .u64 0, .int .u64 0, .int .u64 0, .int .u64 0, .int .u64 0, .int .u64 0, .int .u64 0, .int .u64 0, .int .u64 0, .int .u64 0, .int .u64 0] zeroW)
  generalize (w.alloc (.cells #[.int .u64 0, .int .u64 0, .int .u64 0, .int .u64 0, .int .u64 0, .int .u64 0, .int .u64 0, .int .u64 0, .int .u64 0, .int .u64 0, .int .u64 0, .int .u64 0, .int .u64 0, .int .u64 0, .int .u64 0, .int .u64 0, .int .u64 0, .int .u64 0, .int .u64 0, .int .u64 0, .int .u64 0, .int .u64 0, .int .u64 0, .int .u64 0, .int .u64 0, .int .u64 0, .int .u64 0, .int .u64 0, .int .u64 0, .int .u64 0, .int .u64 0, .int .u64 0] 93)).alloc (.cells #[.int .u64 0, .int .u64 0, .int .u64 0, .int .u64 0, .int .u64 0, .int .u64 0, .int .u64 0, .int .u64 0, .int .u64 0, .int .u64 0, .int .u64 0, .int .u64 0, .int .u64 0, .int .u64 0, .int .u64 0, .int .u64 0, .int .u64 0, .int .u64 0, .int .u64 0, .int .u64 0, .int .u64 0, .int .u64 0, .int .u64 0, .int .u64 0, .int .u64 0, .int .u64 0, .int .u64 0, .int .u64 0, .int .u64 0, .int .u64 0, .int .u64 0, .int .u64 0] 93) = W0 at *
  go_loopw [10] (fun v w' => ∃ i : Nat, i ≤ l.length ∧ v = .int .i64 (i : Int) ∧ WAt w (whoTo l i) w') (fun v _ => l.length - (intOf v).toNat)
  case atStart => exact ⟨0, by omega, rfl, H0.out⟩
  case round =>
    obtain ⟨i, hi, rfl, hM⟩ := hrel
    have HM := Lib.hid hM
    clear hM
    by_cases hlt : i < l.length
    · have hrel2 := HM.out.bel
      obtain ⟨z, hz⟩ : ∃ z : Int, z = (i : Int) := ⟨_, rfl⟩
      obtain ⟨ad, e1, hx0, hx1⟩ := at_T33 (HR.out wr hrel2) z (by omega) (by omega)
      cases e1
      rw [← hz]
      have hfz := congrArg (rd_T33 l) hz
      obtain ⟨hf0, hf1⟩ := HK.out i hlt
      have hpf : ∀ p, pipeAt l i p = inArc (rd_T33 l (i : Int)).f0.toNat (rd_T33 l (i : Int)).f1 p := fun _ => rfl
      rw [hfz] at hx0 hx1
      generalize (rd_T33 l (i : Int)).f1 = wd at *
      obtain ⟨f, hf⟩ := Int.eq_ofNat_of_zero_le hf0
      rw [hf] at hx0 hf1 hpf
      have hf32 : f < 32 := by omega
      rw [Int.toNat_natCast] at hpf
      have HO := Lib.hid (fun w => wind_of.walk f wd w hf32)
      have HH := Lib.hid (fun (p : Nat) (hp : p < 32) w => show Calls Tryd.prog 69 #[.int .u32 ((maskN (inArc f wd) 32 : Nat) : Int), .int .i64 (p : Int)] w fun e w' => e = .returned (.bool (pipeAt l i p)) ∧ w' = w by
        have h := has.walk (maskN (inArc f wd) 32) p w (mask32_lt _) hp
        rwa [arcBits f wd hp, ← hpf p] at h)
      have HM1 := Lib.hid (HM.out.below ((Below.refl _ _).alloc (Nat.le_refl _) (.cells #[.int .i64 (f : Int), .int .i64 wd] 33)))
      have HP1 := Lib.hid (heap_alloc_new wr (.cells #[.int .i64 (f : Int), .int .i64 wd] 33))
      have hd1 : decide (z < (l.length : Int)) = true := decide_eq_true (by omega)
      have hd2 : decide (0 ≤ z) = true := decide_eq_true (by omega)
      have hq1 : (z < (l.length : Int)) = True := eq_true (by omega)
      have hq2 : (0 ≤ z) = True := eq_true (by omega)
      generalize maskN (inArc f wd) 32 = m at *
      have Hz := Lib.hid hz
      clear hf hf0 hf1 hpf hrel2 hfz hz
      go_wp2_with (first | (refine wpList_load_row (o := ⟨some 15, _, _, _, _, _⟩) rfl 33 (.tmp 5) rfl wr.heap.size rfl 33 #[.int .i64 (f : Int), .int .i64 wd] (0, 0) _ HP1.out Tryd.underlying33 rfl (HI.out _ _) ?_) | (go_at_call 72; go_must (with_reducible refine (HO.out _).mono ?_); rintro _ w2 ⟨rfl, hb2⟩; have HM2 := Lib.hid (HM1.out.below hb2); clear hb2))
      clear HM HM1 HP1 HO HR HK
      go_loopw [18] (fun v w' => ∃ p : Nat, p ≤ 32 ∧ v = .int .i64 (p : Int) ∧ WAt w (midW l i p) w') (fun v _ => 32 - (intOf v).toNat)
      case atStart => exact ⟨0, by omega, rfl, HM2.out.congr fun q _ => (midW_zero l i q).symm⟩
      case round =>
        obtain ⟨p, hp, rfl, hN⟩ := hrel
        have HN := Lib.hid hN
        clear hN HM2
        by_cases hlp : p < 32
        · have HHp := Lib.hid (HH.out p hlp)
          have hpi : (p : Int) < 32 := by omega
          by_cases hb : pipeAt l i p = true
          · have HE := Lib.hid (midW_yes hb)
            rw [hb] at HHp
            have hcell := HN.out.cell hlp
            rw [midW_at] at hcell
            have hfree := HN.out.free p
            have Hor := Lib.hid (show bits BinOp.or IntKind.u64 (whoTo l i p : Int) (IntKind.u64.wrap (2 ^ min z.toNat 64)) = ((whoTo l i p + 2 ^ i : Nat) : Int) by rw [Hz.out, Int.toNat_natCast, Nat.min_eq_left (by omega)]; exact or_bit64 (by omega) (whoTo_lt l i p))
            have HX := Lib.hid (show WAt w (midW l i (p + 1)) (wr.setCell ⟨w.heap.size + 1, p, none⟩ (.int .u64 ((whoTo l i p + 2 ^ i : Nat) : Int))) from (HN.out.store p _).congr fun q _ => HE.out q)
            generalize whoTo l i p + 2 ^ i = m2 at *
            generalize whoTo l i p = m1 at *
            have hz0 : 0 ≤ z := by have := Hz.out; omega
            go_wp2_with (first | (go_at_call 69; go_must (with_reducible refine (HHp.out _).mono ?_); rintro _ _ ⟨rfl, rfl⟩))
            go_region
            go_wp2
            exact ⟨⟨p + 1, by omega, by go_num, by rw [Hor.out]; exact HX.out.below (below_drew1 (Below.refl _ _))⟩, by simp [intOf]; omega⟩
          · have HE := Lib.hid (midW_no hb)
            rw [Bool.eq_false_iff.mpr hb] at HHp
            go_wp2_with (first | (go_at_call 69; go_must (with_reducible refine (HHp.out _).mono ?_); rintro _ _ ⟨rfl, rfl⟩))
            exact ⟨⟨p + 1, by omega, by go_num, HN.out.congr fun q _ => HE.out q⟩, by simp [intOf]; omega⟩
        · obtain rfl : p = 32 := by omega
          have HE := Lib.hid (midW_all l i)
          have hw : IntKind.i64.wrap (z + 1) = ((i + 1 : Nat) : Int) := by have := Hz.out; rw [IntWalk.i64_in _ (by omega)]; omega
          have HX := Lib.hid (HN.out.congr HE.out)
          go_wp2
          exact ⟨⟨i + 1, by omega, congrArg (Value.int .i64) (by have := Hz.out; omega), HX.out⟩, by have := Hz.out; simp [intOf]; omega⟩
    · obtain rfl : i = l.length := by omega
      have HIw := Lib.hid (show (Tryd.prog.info? 93).map (·.size) = some (encW (whoTo l l.length)).size by rw [encW_size]; exact info93)
      have HEw := Lib.hid (show (encW fun _ => 0).size = (encW (whoTo l l.length)).size by rw [encW_size, encW_size])
      have hd1 : decide ((l.length : Int) < (l.length : Int)) = false := decide_eq_false (by omega)
      go_wp2_with (first | (refine wpList_load_row rfl 93 (.tmp 3) rfl (w.heap.size + 1) rfl 93 (encW (whoTo l l.length)) (0, 0) _ HM.out.out Tryd.underlying93 rfl HIw.out ?_) | (refine wpList_store_row rfl 93 (.tmp 2) (.tmp 33) rfl w.heap.size (encW (whoTo l l.length)) rfl rfl 93 (encW fun _ => 0) HM.out.res HIw.out HEw.out (encW_one _) ?_))
      refine bodyPost_ret (results_cell_row rfl _ _ w.heap.size 93 (encW (whoTo l l.length)) (0, 0) _ rfl (setRow_heap _ _ _ _ _ _ HM.out.res) Tryd.underlying93 rfl HIw.out) rfl ⟨rfl, below_setRow HM.out.bel (by omega) _⟩
/-- The bits of the pipes at the first winds. -/
def usedTo (l : List S33) (ch : List Int) : Nat → Nat
  | 0 => 0
  | j + 1 => usedTo l ch j ||| whoTo l l.length (rd ch (j : Int)).toNat
def apartFrom (l : List S33) (ch : List Int) : Nat → Nat → Int
  | 0, _ => 0
  | d + 1, j => if usedTo l ch j &&& whoTo l l.length (rd ch (j : Int)).toNat = 0 then apartFrom l ch d (j + 1) else 7
def workOk (l : List S33) : Bool := decide (l.length ≤ 10 ∧ ∀ i : Nat, i < l.length → (0 ≤ (rd_T33 l (i : Int)).f0 ∧ (rd_T33 l (i : Int)).f0 ≤ 31))
def windOk (ch : List Int) : Bool := decide (∀ i : Nat, i < ch.length → (0 ≤ rd ch (i : Int) ∧ rd ch (i : Int) ≤ 31))
theorem who_lt (l : List S33) (hlen : l.length ≤ 10) (p : Nat) : whoTo l l.length p < 1024 :=
  Nat.lt_of_lt_of_le (whoTo_lt l l.length p) (Nat.pow_le_pow_right (by decide) hlen)
theorem used_lt (l : List S33) (ch : List Int) (hlen : l.length ≤ 10) (j : Nat) : usedTo l ch j < 1024 := by
  induction j with
  | zero => show 0 < 1024; omega
  | succ j ih => exact Nat.or_lt_two_pow (n := 10) ih (who_lt l hlen _)
structure ChAt (w : World) (g : Nat) (cs : Array Value) (w' : World) : Prop where
  who : w'.heap[g]? = some (.cells cs 93 (0, 0))
  bel : Below w.heap.size w w'
theorem ChAt.cell {w w' : World} {g : Nat} {h : Nat → Nat} (H : ChAt w g (encW h) w') {p : Nat} (hp : p < 32) : w'.cell? ⟨g, p, none⟩ = some (.int .u64 ((h p : Nat) : Int)) := by
  rw [cell_of_row w' _ p _ _ _ H.who]
  exact encF_get _ p hp
theorem ChAt.below {w w' w'' : World} {g : Nat} {cs : Array Value} (H : ChAt w g cs w') (hb : Below w'.heap.size w' w'') : ChAt w g cs w'' :=
  ⟨(hb.block _ (Array.getElem?_eq_some_iff.1 H.who).1).trans H.who, H.bel.trans (hb.mono (below_size H.bel))⟩
set_option maxHeartbeats 3200000 in
set_option maxRecDepth 100000 in
theorem CheckApart.run (A0 : Option Addr) (c0 : Nat) (l0 : List S33) (A1 : Option Addr) (c1 : Nat) (l1 : List Int) (w : World) (hr1 : Kd.C (Kd.int .i64) w A1 l1.length l1) (hc0 : l0.length ≤ c0) (hc1 : l1.length ≤ c1)
    (HV : Hid (Calls Tryd.prog 50 #[.slice A0 l0.length c0] w fun e w' => e = .returned (.int .i64 0) ∧ Below w.heap.size w w'))
    (HA : Hid (∀ w', Below w.heap.size w w' → Calls Tryd.prog 88 #[.slice A1 l1.length c1, .int .i64 32] w' fun e w'' => e = .returned (.bool true) ∧ Below w'.heap.size w' w''))
    (HW : Hid (∀ w', Below w.heap.size w w' → Calls Tryd.prog 86 #[.slice A0 l0.length c0] w' fun e w'' => e = .returned (.agg (encW (whoTo l0 l0.length))) ∧ Below w'.heap.size w' w''))
    (hlen : l0.length ≤ 10) (hw : ∀ i : Nat, i < l1.length → 0 ≤ rd l1 (i : Int) ∧ rd l1 (i : Int) ≤ 31) : Calls Tryd.prog 41 #[.slice A0 l0.length c0, .slice A1 l1.length c1] w fun e w' => e = .returned (.int .i64 (apartFrom l0 l1 l1.length 0)) ∧ Below w.heap.size w w' := by
  generalize hout : apartFrom l0 l1 l1.length 0 = out
  have Hout := Lib.hid hout
  clear hout
  have HR := Lib.hid (fun w' (hb : Below w.heap.size w w') => Kd.C_below hr1 hb)
  have hmax := Kd.C_max hr1
  have HK := Lib.hid hw
  have HIw := Lib.hid (show (Tryd.prog.info? 93).map (·.size) = some (encW (whoTo l0 l0.length)).size by rw [encW_size]; exact info93)
  have HEw := Lib.hid (show (#[.int .u64 0, .int .u64 0, .int .u64 0, .int .u64 0, .int .u64 0, .int .u64 0, .int .u64 0, .int .u64 0, .int .u64 0, .int .u64 0, .int .u64 0, .int .u64 0, .int .u64 0, .int .u64 0, .int .u64 0, .int .u64 0, .int .u64 0, .int .u64 0, .int .u64 0, .int .u64 0, .int .u64 0, .int .u64 0, .int .u64 0, .int .u64 0, .int .u64 0, .int .u64 0, .int .u64 0, .int .u64 0, .int .u64 0, .int .u64 0, .int .u64 0, .int .u64 0] : Array Value).size = (encW (whoTo l0 l0.length)).size by rw [encW_size]; rfl)
  have HL := Lib.hid hlen
  clear hr1 hw
  go_enter Tryd.func41, Tryd.ntmps41
  go_wp2_with (first | (go_at_call 50; go_must (with_reducible refine HV.out.mono ?_); rintro _ w1 ⟨rfl, hb1⟩; have HB := Lib.hid hb1; clear hb1) | (go_at_call 88; go_must (with_reducible refine (HA.out _ HB.out).mono ?_); rintro _ w2 ⟨rfl, hb2⟩; have HN := Lib.hid (HB.out.trans (hb2.mono (below_size HB.out))); clear HB; have HB := HN; clear HN hb2) | (go_at_call 86; go_must (with_reducible refine (HW.out _ HB.out).mono ?_); rintro _ w3 ⟨rfl, hb3⟩; have HB3 := HB.out.trans (hb3.mono (below_size HB.out)); have HZ := Lib.hid (heap_alloc_new w3 (.cells #[.int .u64 0, .int .u64 0, .int .u64 0, .int .u64 0, .int .u64 0, .int .u64 0, .int .u64 0, .int .u64 0, .int .u64 0, .int .u64 0, .int .u64 0, .int .u64 0, .int .u64 0, .int .u64 0, .int .u64 0, .int .u64 0, .int .u64 0, .int .u64 0, .int .u64 0, .int .u64 0, .int .u64 0, .int .u64 0, .int .u64 0, .int .u64 0, .int .u64 0, .int .u64 0, .int .u64 0, .int .u64 0, .int .u64 0, .int .u64 0, .int .u64 0, .int .u64 0] 93)); have HM := Lib.hid (show ChAt w w3.heap.size (encW (whoTo l0 l0.length)) ((w3.alloc (.cells #[.int .u64 0, .int .u64 0, .int .u64 0, .int .u64 0, .int .u64 0, .int .u64 0, .int .u64 0, .int .u64 0, .int .u64 0, .int .u64 0, .int .u64 0, .int .u64 0, .int .u64 0, .int .u64 0, .int .u64 0, .int .u64 0, .int .u64 0, .int .u64 0, .int .u64 0, .int .u64 0, .int .u64 0, .int .u64 0, .int .u64 0, .int .u64 0, .int .u64 0, .int .u64 0, .int .u64 0, .int .u64 0, .int .u64 0, .int .u64 0, .int .u64 0, .int .u64 0] 93)).setRow w3.heap.size (encW (whoTo l0 l0.length))) from ⟨setRow_heap _ _ _ _ _ _ HZ.out, below_setRow (HB3.alloc (below_size HB3) _) (below_size HB3) _⟩); clear hb3 HB3) | (refine wpList_store_row rfl 93 (.tmp 6) (.tmp 19) rfl w3.heap.size (encW (whoTo l0 l0.length)) rfl rfl 93 #[.int .u64 0, .int .u64 0, .int .u64 0, .int .u64 0, .int .u64 0, .int .u64 0, .int .u64 0, .int .u64 0, .int .u64 0, .int .u64 0, .int .u64 0, .int .u64 0, .int .u64 0, .int .u64 0, .int .u64 0, .int .u64 0, .int .u64 0, .int .u64 0, .int .u64 0, .int .u64 0, .int .u64 0, .int .u64 0, .int .u64 0, .int .u64 0, .int .u64 0, .int .u64 0, .int .u64 0, .int .u64 0, .int .u64 0, .int .u64 0, .int .u64 0, .int .u64 0] HZ.out HIw.out HEw.out (encW_one _) ?_))
  clear HZ HV HA HW
  generalize w3.heap.size = g at *
  generalize (w3.alloc (.cells #[.int .u64 0, .int .u64 0, .int .u64 0, .int .u64 0, .int .u64 0, .int .u64 0, .int .u64 0, .int .u64 0, .int .u64 0, .int .u64 0, .int .u64 0, .int .u64 0, .int .u64 0, .int .u64 0, .int .u64 0, .int .u64 0, .int .u64 0, .int .u64 0, .int .u64 0, .int .u64 0, .int .u64 0, .int .u64 0, .int .u64 0, .int .u64 0, .int .u64 0, .int .u64 0, .int .u64 0, .int .u64 0, .int .u64 0, .int .u64 0, .int .u64 0, .int .u64 0] 93)).setRow g (encW (whoTo l0 l0.length)) = W0 at *
  go_loopw [7, 22] (fun v v2 w' => ∃ j : Nat, j ≤ l1.length ∧ v = .int .u64 ((usedTo l0 l1 j : Nat) : Int) ∧ v2 = .int .i64 (j : Int) ∧ apartFrom l0 l1 (l1.length - j) j = out ∧ w' = W0) (fun _ v2 _ => l1.length - (intOf v2).toNat)
  case atStart => exact ⟨0, by omega, rfl, rfl, Hout.out, rfl⟩
  case round =>
    obtain ⟨j, hj, rfl, rfl, ho, rfl⟩ := hrel
    have Ho := Lib.hid ho
    clear ho
    by_cases hlt : j < l1.length
    · obtain ⟨z, hz⟩ : ∃ z : Int, z = (j : Int) := ⟨_, rfl⟩
      obtain ⟨ad, e1, hx⟩ := Kd.at_int (HR.out wr HM.out.bel) z (by omega) (by omega)
      cases e1
      have hk := HK.out j hlt
      obtain ⟨p, hp⟩ := Int.eq_ofNat_of_zero_le hk.1
      have hp32 : p < 32 := by omega
      have hpi : (p : Int) < 32 := by omega
      have hxz : rd l1 z = (p : Int) := by rw [hz]; exact hp
      rw [hxz] at hx
      have hcell := HM.out.cell hp32
      have HU := Lib.hid (show usedTo l0 l1 (j + 1) = usedTo l0 l1 j ||| whoTo l0 l0.length p by show usedTo l0 l1 j ||| whoTo l0 l0.length (rd l1 (j : Int)).toNat = _; rw [hp, Int.toNat_natCast])
      have HF := Lib.hid (show apartFrom l0 l1 (l1.length - j) j = if usedTo l0 l1 j &&& whoTo l0 l0.length p = 0 then apartFrom l0 l1 (l1.length - (j + 1)) (j + 1) else 7 by
        rw [show l1.length - j = (l1.length - (j + 1)) + 1 by omega]
        show (if usedTo l0 l1 j &&& whoTo l0 l0.length (rd l1 (j : Int)).toNat = 0 then _ else _) = _
        rw [hp, Int.toNat_natCast])
      have hu1 := used_lt l0 l1 HL.out j
      have hu2 := who_lt l0 HL.out p
      have Hand := Lib.hid (u64_and_nat (usedTo l0 l1 j) (whoTo l0 l0.length p) (by omega) (by omega))
      have Hor := Lib.hid (u64_or_nat (usedTo l0 l1 j) (whoTo l0 l0.length p) (by omega) (by omega))
      have Hz := Lib.hid hz
      have hd1 : decide (z < (l1.length : Int)) = true := decide_eq_true (by omega)
      have hd2 : decide (0 ≤ z) = true := decide_eq_true (by omega)
      have hq1 : (z < (l1.length : Int)) = True := eq_true (by omega)
      have hq2 : (0 ≤ z) = True := eq_true (by omega)
      rw [← hz]
      clear hz hk hp hxz hu1 hu2
      generalize whoTo l0 l0.length p = m at *
      generalize usedTo l0 l1 j = u at *
      by_cases hc : u &&& m = 0
      · have hb : (bits BinOp.and IntKind.u64 (u : Int) (m : Int) != 0) = false := by rw [Hand.out, hc]; rfl
        have hb2 : (bits BinOp.and IntKind.u64 (u : Int) (m : Int) == 0) = true := by rw [Hand.out, hc]; rfl
        have HN := Lib.hid (show apartFrom l0 l1 (l1.length - (j + 1)) (j + 1) = out by rw [← Ho.out, HF.out, if_pos hc])
        have hw : IntKind.i64.wrap (z + 1) = z + 1 := IntWalk.i64_in _ (by have := Hz.out; omega)
        go_wp2
        exact ⟨⟨j + 1, by omega, by rw [HU.out, Hor.out], congrArg (Value.int .i64) (by have := Hz.out; omega), HN.out, trivial⟩, by have := Hz.out; simp [intOf]; omega⟩
      · have hc' : ((u &&& m : Nat) : Int) ≠ 0 := by omega
        have hb : (bits BinOp.and IntKind.u64 (u : Int) (m : Int) != 0) = true := by rw [Hand.out]; exact bne_iff_ne.mpr hc'
        have hb2 : (bits BinOp.and IntKind.u64 (u : Int) (m : Int) == 0) = false := by rw [Hand.out]; exact beq_eq_false_iff_ne.mpr hc'
        have HN := Lib.hid (show 7 = out by rw [← Ho.out, HF.out, if_neg hc])
        go_wp2
        go_ret
        exact ⟨by rw [← HN.out]; rfl, HM.out.bel⟩
    · obtain rfl : j = l1.length := by omega
      have HN := Lib.hid (show 0 = out by have h := Ho.out; rw [Nat.sub_self] at h; exact h)
      have hd1 : decide ((l1.length : Int) < (l1.length : Int)) = false := decide_eq_false (by omega)
      go_wp2
      go_ret
      exact ⟨by rw [← HN.out]; rfl, HM.out.bel⟩
/-! Winds that are apart, by a table over sets of pipes. -/
def rowI (L : List Int) : List Value := L.map (Value.int .i64)
/-- One set of pipes, at the point p with the pipes m. -/
def stepAt (B : Nat → List Int) (p m u : Nat) : Nat → List Int :=
  if u &&& m = 0 then (if u = 0 ∨ 0 < (B u).length then (if (B (u ||| m)).length < (B u).length + 1 then updF B (u ||| m) (B u ++ [(p : Int)]) else B) else B) else B
def stepTo (B : Nat → List Int) (p m : Nat) : Nat → Nat → List Int
  | 0 => B
  | u + 1 => stepAt (stepTo B p m u) p m u
def dpTo (who : Nat → Nat) (n : Nat) : Nat → Nat → List Int
  | 0 => fun _ => []
  | p + 1 => if who p = 0 then dpTo who n p else stepTo (dpTo who n p) p (who p) n
def longTo (B : Nat → List Int) : Nat → List Int
  | 0 => []
  | u + 1 => if (longTo B u).length < (B u).length then B u else longTo B u
theorem updF_len {B : Nat → List Int} {q k : Nat} {x : List Int} (hB : ∀ v, (B v).length ≤ k) (hx : x.length ≤ k) : ∀ v, (updF B q x v).length ≤ k := fun v => by
  unfold updF
  split
  · exact hx
  · exact hB v
/-- The table in the heap. -/
structure DP (w : World) (gW gB n : Nat) (who : Nat → Nat) (B : Nat → List Int) (w' : World) : Prop where
  row : ∃ cs : Array Value, w'.heap[gB]? = some (.cells cs 42 (0, 0)) ∧ cs.size = n ∧ ∀ u, u < n → ∃ v, cs[u]? = some v ∧ w'.ownsRow (gB + 1) 3 1 v (B u).length (rowI (B u))
  who_ : w'.heap[gW]? = some (.cells (encW who) 93 (0, 0))
  lt : gW < gB
  low : w.heap.size ≤ gW
  bel : Below w.heap.size w w'
theorem owns_form {w : World} {base : Nat} {v : Value} {L : List Int} (h : w.ownsRow base 3 1 v L.length (rowI L)) : ∃ A c, v = .slice A L.length c ∧ L.length ≤ c := by
  rcases h.2 with ⟨h1, h2⟩ | ⟨g, cap, cur, h1, _, _, h2, _⟩
  · exact ⟨none, 0, by rw [h1, h2], by omega⟩
  · exact ⟨_, cap, h1, h2⟩
theorem owns_below {w w' : World} {base : Nat} {v : Value} {L : List Int} (h : w.ownsRow base 3 1 v L.length (rowI L)) (hb : Below w.heap.size w w') : w'.ownsRow base 3 1 v L.length (rowI L) := by
  refine ⟨h.1, ?_⟩
  rcases h.2 with h1 | ⟨g, cap, cur, h1, h2, h3, h4⟩
  · exact .inl h1
  · exact .inr ⟨g, cap, cur, h1, h2, (hb.block _ (Array.getElem?_eq_some_iff.1 h3).1).trans h3, h4⟩
theorem owns_set {w : World} {gB : Nat} {v x : Value} {L : List Int} (h : w.ownsRow (gB + 1) 3 1 v L.length (rowI L)) (u : Nat) : (w.setCell ⟨gB, u, none⟩ x).ownsRow (gB + 1) 3 1 v L.length (rowI L) := by
  refine ⟨h.1, ?_⟩
  rcases h.2 with h1 | ⟨g, cap, cur, h1, h2, h3, h4⟩
  · exact .inl h1
  · exact .inr ⟨g, cap, cur, h1, h2, by rw [heap_setCell_other w _ _ _ (show g ≠ gB by omega)]; exact h3, h4⟩
theorem DP.below {w w' w'' : World} {gW gB n : Nat} {who : Nat → Nat} {B : Nat → List Int} (H : DP w gW gB n who B w') (hb : Below w'.heap.size w' w'') : DP w gW gB n who B w'' := by
  obtain ⟨cs, h1, h2, h3⟩ := H.row
  refine ⟨⟨cs, (hb.block _ (Array.getElem?_eq_some_iff.1 h1).1).trans h1, h2, fun u hu => ?_⟩, (hb.block _ (Array.getElem?_eq_some_iff.1 H.who_).1).trans H.who_, H.lt, H.low, H.bel.trans (hb.mono (below_size H.bel))⟩
  obtain ⟨v, hv, ho⟩ := h3 u hu
  exact ⟨v, hv, owns_below ho hb⟩
theorem DP.congr {w w' : World} {gW gB n : Nat} {who : Nat → Nat} {B C : Nat → List Int} (H : DP w gW gB n who B w') (h : ∀ u, u < n → B u = C u) : DP w gW gB n who C w' := by
  obtain ⟨cs, h1, h2, h3⟩ := H.row
  exact ⟨⟨cs, h1, h2, fun u hu => by rw [← h u hu]; exact h3 u hu⟩, H.who_, H.lt, H.low, H.bel⟩
theorem DP.sz {w w' : World} {gW gB n : Nat} {who : Nat → Nat} {B : Nat → List Int} (H : DP w gW gB n who B w') : gB < w'.heap.size := by
  obtain ⟨cs, h1, _⟩ := H.row
  exact (Array.getElem?_eq_some_iff.1 h1).1
theorem DP.whoCell {w w' : World} {gW gB n : Nat} {who : Nat → Nat} {B : Nat → List Int} (H : DP w gW gB n who B w') {p : Nat} (hp : p < 32) : w'.cell? ⟨gW, p, none⟩ = some (.int .u64 ((who p : Nat) : Int)) := by
  rw [cell_of_row w' _ p _ _ _ H.who_]
  exact encF_get _ p hp
theorem DP.at_ {w w' : World} {gW gB n : Nat} {who : Nat → Nat} {B : Nat → List Int} (H : DP w gW gB n who B w') {u : Nat} (hu : u < n) : ∃ A c, w'.cell? ⟨gB, u, none⟩ = some (.slice A (B u).length c) ∧ (B u).length ≤ c ∧ w'.ownsRow (gB + 1) 3 1 (.slice A (B u).length c) (B u).length (rowI (B u)) := by
  obtain ⟨cs, h1, h2, h3⟩ := H.row
  obtain ⟨v, hv, ho⟩ := h3 u hu
  obtain ⟨A, c, rfl, hc⟩ := owns_form ho
  refine ⟨A, c, ?_, hc, ho⟩
  rw [cell_of_row w' _ u _ _ _ h1]
  exact hv
theorem DP.free {w w' : World} {gW gB n : Nat} {who : Nat → Nat} {B : Nat → List Int} (H : DP w gW gB n who B w') (u : Nat) : w'.frozen? ⟨gB, u, none⟩ = false := by
  obtain ⟨cs, h1, _⟩ := H.row
  exact frozen_of_row w' _ u _ _ h1
theorem DP.store {w w' : World} {gW gB n : Nat} {who : Nat → Nat} {B : Nat → List Int} (H : DP w gW gB n who B w') {q : Nat} (hq : q < n) {L : List Int} {v : Value} (ho : w'.ownsRow (gB + 1) 3 1 v L.length (rowI L)) : DP w gW gB n who (updF B q L) (w'.setCell ⟨gB, q, none⟩ v) := by
  obtain ⟨cs, h1, h2, h3⟩ := H.row
  have hlt := H.lt
  have hlow := H.low
  refine ⟨⟨cs.setIfInBounds q v, heap_setCell_same w' _ q _ _ _ h1, by rw [Array.size_setIfInBounds]; exact h2, fun u hu => ?_⟩, ?_, H.lt, H.low, H.bel.setCell (by show w.heap.size ≤ gB; omega) _⟩
  · by_cases e : u = q
    · subst e
      refine ⟨v, by rw [Array.getElem?_setIfInBounds_self_of_lt (by omega)], ?_⟩
      rw [show updF B u L u = L from if_pos rfl]
      exact owns_set ho u
    · obtain ⟨x, hx, hox⟩ := h3 u hu
      refine ⟨x, by rw [Array.getElem?_setIfInBounds_ne (Ne.symm e)]; exact hx, ?_⟩
      rw [show updF B q L u = B u from if_neg e]
      exact owns_set hox q
  · rw [heap_setCell_other w' _ _ _ (show gW ≠ gB by omega)]
    exact H.who_
/-- slices.Clone of a row of the table. -/
theorem clone_own {w : World} {base : Nat} {A : Option Addr} {c : Nat} {L : List Int} (h : w.ownsRow base 3 1 (.slice A L.length c) L.length (rowI L)) (hl : L.length ≤ 1000) : Calls Tryd.prog 87 #[.slice A L.length c] w fun e w' => ∃ v', e = .returned v' ∧ w'.ownsRow w.heap.size 3 1 v' L.length (rowI L) ∧ Below w.heap.size w w' := by
  rcases h.2 with ⟨h1, h2⟩ | ⟨g, cap, cur, h1, _, h3, _, _, h4, h5⟩
  · have hL : L = [] := List.eq_nil_of_length_eq_zero h2
    subst hL
    injection h1 with e1 _ e3
    subst e1
    refine (Tryd.slices_Clone_int_nil _ _ w).mono ?_
    rintro _ _ ⟨rfl, rfl⟩
    exact ⟨_, rfl, World.ownsRow_nil _ _ _ _, Below.refl _ _⟩
  · injection h1 with e1 _ e3
    subst e1
    refine (Tryd.slices_Clone_int g 0 L.length c L w (Nat.le_refl _) (by omega) (fun j hj => ?_)).mono ?_
    · have hc := h.cellAt j (by omega)
      rw [Nat.zero_add, hc]
      unfold rowI
      rw [List.getElem?_map, List.getElem?_eq_getElem hj, List.getD_eq_getElem?_getD, List.getElem?_eq_getElem hj]
      rfl
    · rintro _ w2 ⟨v', rfl, ho, _, hb⟩
      rw [List.take_of_length_le (Nat.le_refl _)] at ho
      exact ⟨v', rfl, ho, hb⟩
theorem owns_base {w : World} {b base : Nat} {v : Value} {n : Nat} {xs : List Value} (h : w.ownsRow base 3 1 v n xs) (hb : b ≤ base) : w.ownsRow b 3 1 v n xs := by
  refine ⟨h.1, ?_⟩
  rcases h.2 with h1 | ⟨g, cap, cur, h1, h2, h3⟩
  · exact .inl h1
  · exact .inr ⟨g, cap, cur, h1, by omega, h3⟩
theorem rowI_snoc (L : List Int) (x : Int) : rowI (L ++ [x]) = rowI L ++ [.int .i64 x] := by unfold rowI; simp
theorem DP.grow {w wr w7 w8 : World} {gW gB n : Nat} {who : Nat → Nat} {B : Nat → List Int} {v' v2 : Value} {L : List Int} {x : Int} {o : Obj} (H : DP w gW gB n who B wr) (ho : w7.ownsRow wr.heap.size 3 1 v' L.length (rowI L)) (hb : Below wr.heap.size wr w7)
    (ho2 : w8.ownsRow wr.heap.size 3 1 v2 (L.length + 1) (rowI L ++ [.int .i64 x])) (hg2 : (w7.alloc o).grownBy w8 v'.ownBlock) : ∃ A3 c3, v2 = .slice A3 (L.length + 1) c3 ∧ DP w gW gB n who B w8 ∧ w8.ownsRow (gB + 1) 3 1 (.slice A3 (L.length + 1) c3) (L ++ [x]).length (rowI (L ++ [x])) := by
  have hl : (L ++ [x]).length = L.length + 1 := by simp
  have h3 : w8.ownsRow wr.heap.size 3 1 v2 (L ++ [x]).length (rowI (L ++ [x])) := by rw [hl, rowI_snoc]; exact ho2
  obtain ⟨A3, c3, e, _⟩ := owns_form h3
  rw [hl] at e
  subst e
  refine ⟨A3, c3, rfl, ?_, owns_base h3 H.sz⟩
  have hs := below_size hb
  exact H.below ((hb.alloc hs o).grown hg2 (by have := below_size (hb.alloc hs o); exact this) (fun k hk => (ho.lt k hk).1))
theorem new_cells (w : World) (x : Value) : ∀ (j : Nat) (u : Value), [x][j]? = some u → (w.alloc (.cells #[x] 3)).cell? ((⟨w.heap.size, 0, none⟩ : Addr).add j) = some u := by
  intro j u hu
  have hj : j = 0 := by
    have := (List.getElem?_eq_some_iff.1 hu).1
    simp at this
    omega
  subst hj
  have e : (⟨w.heap.size, 0, none⟩ : Addr).add 0 = ⟨w.heap.size, 0, none⟩ := rfl
  rw [e, cell_of_row _ w.heap.size 0 _ 3 (0, 0) (heap_alloc_new w _)]
  exact hu
theorem step_clash {B : Nat → List Int} {p m u : Nat} (h : u &&& m ≠ 0) : stepAt B p m u = B := if_neg h
theorem step_empty {B : Nat → List Int} {p m u : Nat} (h : u &&& m = 0) (h0 : u ≠ 0) (hl : ¬ 0 < (B u).length) : stepAt B p m u = B := by
  unfold stepAt
  rw [if_pos h, if_neg (by omega)]
theorem step_short {B : Nat → List Int} {p m u : Nat} (hl : ¬ (B (u ||| m)).length < (B u).length + 1) : stepAt B p m u = B := by
  unfold stepAt
  rw [if_neg hl]
  split
  · split <;> rfl
  · rfl
theorem wrap_u64_nat (u : Nat) (h : u < 18446744073709551616) : IntKind.u64.wrap (u : Int) = (u : Int) := by simp [IntKind.wrap, IntKind.bits, IntKind.signed]; omega
theorem step_longer {B : Nat → List Int} {p m u : Nat} (h : u &&& m = 0) (h0 : u = 0 ∨ 0 < (B u).length) (hl : (B (u ||| m)).length < (B u).length + 1) : stepAt B p m u = updF B (u ||| m) (B u ++ [(p : Int)]) := by
  unfold stepAt
  rw [if_pos h, if_pos h0, if_pos hl]
theorem dp_skip {who : Nat → Nat} {n p : Nat} (h : who p = 0) : dpTo who n (p + 1) = dpTo who n p := if_pos h
theorem dp_step {who : Nat → Nat} {n p : Nat} (h : who p ≠ 0) : dpTo who n (p + 1) = stepTo (dpTo who n p) p (who p) n := if_neg h
theorem longTo_le {B : Nat → List Int} {k : Nat} (h : ∀ v, (B v).length ≤ k) (u : Nat) : (longTo B u).length ≤ k := by
  induction u with
  | zero => show 0 ≤ k; omega
  | succ u ih =>
    unfold longTo
    split
    · exact h u
    · exact ih
theorem info42s : (Tryd.prog.info? 42).map (fun i => (i.zero, i.size, i.bytes)) = some (some (.slice none 0 0), 1, 24) := by kernel_rfl
theorem info3s : (Tryd.prog.info? 3).map (fun i => (i.zero, i.size, i.bytes)) = some (some (.int .i64 0), 1, 8) := by kernel_rfl
theorem made_get (z : Value) (hz : z.cells = #[z]) (n u : Nat) (h : u < n) : (madeCells z.cells (n * 1))[u]? = some z := by
  rw [hz]
  simp [madeCells, h, Nat.mod_one]
theorem DP.new {w w5 w6 : World} {gW n : Nat} {who : Nat → Nat} (H : ChAt w gW (encW who) w5) (hlow : w.heap.size ≤ gW) (ho : w6.ownsRow w5.heap.size 42 1 (.slice (some ⟨w5.heap.size, 0, none⟩) n n) n (madeCells (Value.slice none 0 0).cells (n * 1)).toList) (hg : w5.grownBy w6 none) : DP w gW w5.heap.size n who (fun _ => []) w6 := by
  have hw := (Array.getElem?_eq_some_iff.1 H.who).1
  have hb : Below w.heap.size w w6 := H.bel.grown hg (below_size H.bel) (fun k hk => by cases hk)
  refine ⟨?_, (hg.block _ hw (by simp)).trans H.who, hw, hlow, hb⟩
  rcases ho.2 with ⟨h1, _⟩ | ⟨g, cap, cur, h1, h2, h3, h4, h5, h6, h7⟩
  · cases h1
  · injection h1 with e1 _ e3
    injection e1 with e1
    injection e1 with e1
    subst e1
    subst e3
    refine ⟨cur, h3, by omega, fun u hu => ⟨.slice none 0 0, ?_, World.ownsRow_nil _ _ _ _⟩⟩
    have hc : cur.toList[u]? = (madeCells (Value.slice none 0 0).cells (n * 1)).toList[u]? := by rw [← h7, List.getElem?_take, if_pos (by omega)]
    rw [Array.getElem?_toList, Array.getElem?_toList, made_get _ rfl n u hu] at hc
    exact hc
set_option maxHeartbeats 6400000 in
set_option maxRecDepth 100000 in
theorem Apart.run (A0 : Option Addr) (c0 : Nat) (l0 : List S33) (w : World) (who : Nat → Nat) (e1 : Int) (n : Nat) (hc0 : l0.length ≤ c0)
    (HV : Hid (Calls Tryd.prog 50 #[.slice A0 l0.length c0] w fun e w' => e = .returned (.int .i64 0) ∧ Below w.heap.size w w'))
    (HW : Hid (∀ w', Below w.heap.size w w' → Calls Tryd.prog 86 #[.slice A0 l0.length c0] w' fun e w'' => e = .returned (.agg (encW who)) ∧ Below w'.heap.size w' w''))
    (HE : Hid (∀ w', Below w.heap.size w w' → Calls Tryd.prog 83 #[.slice A0 l0.length c0] w' fun e w'' => e = .returned (.int .u64 e1) ∧ Below w'.heap.size w' w''))
    (hE : IntKind.u64.wrap (e1 + 1) = (n : Int)) (hn1 : 1 ≤ n) (hn : n ≤ 1024) (hwho : ∀ p, who p < n) (hor : ∀ p u, u < n → u ||| who p < n) (hlen : ∀ p u, (dpTo who n p u).length ≤ p) (hlen2 : ∀ p u j, who p ≠ 0 → (stepTo (dpTo who n p) p (who p) u j).length ≤ p + 1) (B : Nat → List Int) (hBB : dpTo who n 32 = B) :
    Calls Tryd.prog 40 #[.slice A0 l0.length c0] w fun e w' => ∃ v, e = .returned (.tuple #[v, .int .i64 0]) ∧ w'.ownsRow w.heap.size 3 1 v (longTo B n).length (rowI (longTo B n)) ∧ Below w.heap.size w w' := by
  have HIw := Lib.hid (show (Tryd.prog.info? 93).map (·.size) = some (encW who).size by rw [encW_size]; exact info93)
  have HEw := Lib.hid (show (#[.int .u64 0, .int .u64 0, .int .u64 0, .int .u64 0, .int .u64 0, .int .u64 0, .int .u64 0, .int .u64 0, .int .u64 0, .int .u64 0, .int .u64 0, .int .u64 0, .int .u64 0, .int .u64 0, .int .u64 0, .int .u64 0, .int .u64 0, .int .u64 0, .int .u64 0, .int .u64 0, .int .u64 0, .int .u64 0, .int .u64 0, .int .u64 0, .int .u64 0, .int .u64 0, .int .u64 0, .int .u64 0, .int .u64 0, .int .u64 0, .int .u64 0, .int .u64 0] : Array Value).size = (encW who).size by rw [encW_size]; rfl)
  have Hwho := Lib.hid hwho
  have Hor := Lib.hid hor
  have HL := Lib.hid hlen
  have HL2 := Lib.hid hlen2
  have HBB := Lib.hid hBB
  clear hwho hor hlen hlen2 hBB
  obtain ⟨i42, hi42, hz42, hs42, hb42⟩ := info_parts info42s
  obtain ⟨i3, hi3, hz3, hs3, hb3⟩ := info_parts info3s
  have H42 := Lib.hid hi42
  have H3 := Lib.hid hi3
  clear hi42 hi3
  go_enter Tryd.func40, Tryd.ntmps40
  go_wp2_with (first | (go_at_call 50; go_must (with_reducible refine HV.out.mono ?_); rintro _ w1 ⟨rfl, hb1⟩; have HB := Lib.hid hb1; clear hb1) | (go_at_call 86; go_must (with_reducible refine (HW.out _ HB.out).mono ?_); rintro _ w3 ⟨rfl, hb3⟩; have HB3 := HB.out.trans (hb3.mono (below_size HB.out)); have hw3 := below_size HB3; have HZ := Lib.hid (heap_alloc_new w3 (.cells #[.int .u64 0, .int .u64 0, .int .u64 0, .int .u64 0, .int .u64 0, .int .u64 0, .int .u64 0, .int .u64 0, .int .u64 0, .int .u64 0, .int .u64 0, .int .u64 0, .int .u64 0, .int .u64 0, .int .u64 0, .int .u64 0, .int .u64 0, .int .u64 0, .int .u64 0, .int .u64 0, .int .u64 0, .int .u64 0, .int .u64 0, .int .u64 0, .int .u64 0, .int .u64 0, .int .u64 0, .int .u64 0, .int .u64 0, .int .u64 0, .int .u64 0, .int .u64 0] 93)); have HM := Lib.hid (show ChAt w w3.heap.size (encW who) ((w3.alloc (.cells #[.int .u64 0, .int .u64 0, .int .u64 0, .int .u64 0, .int .u64 0, .int .u64 0, .int .u64 0, .int .u64 0, .int .u64 0, .int .u64 0, .int .u64 0, .int .u64 0, .int .u64 0, .int .u64 0, .int .u64 0, .int .u64 0, .int .u64 0, .int .u64 0, .int .u64 0, .int .u64 0, .int .u64 0, .int .u64 0, .int .u64 0, .int .u64 0, .int .u64 0, .int .u64 0, .int .u64 0, .int .u64 0, .int .u64 0, .int .u64 0, .int .u64 0, .int .u64 0] 93)).setRow w3.heap.size (encW who)) from ⟨setRow_heap _ _ _ _ _ _ HZ.out, below_setRow (HB3.alloc hw3 _) hw3 _⟩); clear hb3 HB3) | (refine wpList_store_row rfl 93 (.tmp 5) (.tmp 20) rfl w3.heap.size (encW who) rfl rfl 93 #[.int .u64 0, .int .u64 0, .int .u64 0, .int .u64 0, .int .u64 0, .int .u64 0, .int .u64 0, .int .u64 0, .int .u64 0, .int .u64 0, .int .u64 0, .int .u64 0, .int .u64 0, .int .u64 0, .int .u64 0, .int .u64 0, .int .u64 0, .int .u64 0, .int .u64 0, .int .u64 0, .int .u64 0, .int .u64 0, .int .u64 0, .int .u64 0, .int .u64 0, .int .u64 0, .int .u64 0, .int .u64 0, .int .u64 0, .int .u64 0, .int .u64 0, .int .u64 0] HZ.out HIw.out HEw.out (encW_one _) ?_) | (go_at_call 83; go_must (with_reducible refine (HE.out _ HM.out.bel).mono ?_); rintro _ w5 ⟨rfl, hb5⟩; have HM5 := Lib.hid (HM.out.below hb5); clear hb5) | (at_make; refine wpList_make_full _ rfl (.tmp 23) (.tmp 23) 95 rfl w5.heap.size 42 i42 (.slice none 0 0) 1 Tryd.underlying95 H42.out hz42 hs42 .u64 .u64 (n : Int) (n : Int) n rfl rfl rfl rfl (by rw [hb42]; omega) (by unfold maxLen; omega) (Nat.le_refl _) ?_; intro w6 ho6 hg6; have HD := Lib.hid (DP.new HM5.out hw3 ho6 hg6); clear ho6 hg6))
  generalize w3.heap.size = gW at *
  generalize w5.heap.size = gB at *
  clear HZ HM HM5 HB HV HW HE
  go_loopw [25] (fun v w' => ∃ p : Nat, p ≤ 32 ∧ v = .int .i64 (p : Int) ∧ DP w gW gB n who (dpTo who n p) w') (fun v _ => 32 - (intOf v).toNat)
  case atStart => exact ⟨0, by omega, rfl, HD.out⟩
  case round =>
    obtain ⟨p, hp, rfl, hM⟩ := hrel
    have HM := Lib.hid hM
    clear hM HD
    by_cases hlt : p < 32
    · have hpi : (p : Int) < 32 := by omega
      have hcw := HM.out.whoCell hlt
      by_cases hm0 : who p = 0
      · rw [hm0] at hcw
        have HN := Lib.hid (show DP w gW gB n who (dpTo who n (p + 1)) wr by rw [dp_skip hm0]; exact HM.out)
        go_wp2
        exact ⟨⟨p + 1, by omega, by go_num, HN.out⟩, by simp [intOf]; omega⟩
      · obtain ⟨m, hm⟩ : ∃ m, who p = m := ⟨_, rfl⟩
        have HE2 := Lib.hid (dp_step (n := n) hm0)
        have hmn : m < n := by rw [← hm]; exact Hwho.out p
        have HorP := Lib.hid (fun u hu => hm ▸ Hor.out p u hu)
        have HL2p := Lib.hid (fun u j => hm ▸ HL2.out p u j hm0)
        rw [hm] at hcw hm0 HE2
        have Hm := Lib.hid hm
        clear hm
        have hmb : (((m : Nat) : Int) == 0) = false := beq_eq_false_iff_ne.mpr (by omega)
        go_wp2
        go_loopw [34] (fun v w' => ∃ u : Nat, u ≤ n ∧ v = .int .i64 (u : Int) ∧ DP w gW gB n who (stepTo (dpTo who n p) p m u) w') (fun v _ => n - (intOf v).toNat)
        case atStart => exact ⟨0, by omega, rfl, HM.out⟩
        case round =>
          obtain ⟨u, hu, rfl, hN⟩ := hrel
          have HN := Lib.hid hN
          clear hN HM hcw
          by_cases hun : u < n
          · have hui : (u : Int) < (n : Int) := by omega
            have hcm := HN.out.whoCell hlt
            rw [Hm.out] at hcm
            obtain ⟨A, c, hcu, hcl, hou⟩ := HN.out.at_ hun
            have hq : u ||| m < n := HorP.out u hun
            obtain ⟨Aq, cq, hcq, _, _⟩ := HN.out.at_ hq
            have hll : (stepTo (dpTo who n p) p m u u).length ≤ p + 1 := HL2p.out u u
            have hlq : (stepTo (dpTo who n p) p m u (u ||| m)).length ≤ p + 1 := HL2p.out u _
            have HC := Lib.hid (clone_own hou (by omega))
            have Hand := u64_and_nat u m (by omega) (by omega)
            have hor := u64_or_nat u m (by omega) (by omega)
            have hcv := wrap_u64_nat u (by omega)
            obtain ⟨q, hqe⟩ : ∃ q, u ||| m = q := ⟨_, rfl⟩
            have Hq := Lib.hid hqe
            rw [hqe] at hor hq hcq hlq
            have hqi : (q : Int) < (n : Int) := by omega
            obtain ⟨Lu, hLu⟩ : ∃ Lu, stepTo (dpTo who n p) p m u u = Lu := ⟨_, rfl⟩
            obtain ⟨Lq, hLq⟩ : ∃ Lq, stepTo (dpTo who n p) p m u q = Lq := ⟨_, rfl⟩
            have HLu := Lib.hid hLu
            have HLq := Lib.hid hLq
            rw [hLu] at hcu hcl hou hll HC
            rw [hLq] at hcq hlq
            clear hLu hLq hqe hou
            have hw1 := IntWalk.i64_in (((Lu.length : Nat) : Int) + 1) (by omega)
            by_cases ha : u &&& m = 0
            · have hb1 : (bits BinOp.and IntKind.u64 (u : Int) (m : Int) == 0) = true := by rw [Hand, ha]; rfl
              by_cases h0 : u = 0
              · have h0b : (((u : Nat) : Int) == 0) = true := by rw [h0]; rfl
                have H0 := Lib.hid h0
                clear h0
                by_cases hg : Lq.length < Lu.length + 1
                · have hgb : decide (((Lu.length : Nat) : Int) + 1 > ((Lq.length : Nat) : Int)) = true := decide_eq_true (by omega)
                  have HS2 := Lib.hid (show stepTo (dpTo who n p) p m (u + 1) = updF (stepTo (dpTo who n p) p m u) q (Lu ++ [(p : Int)]) by rw [← HLu.out, ← Hq.out]; exact step_longer ha (.inl H0.out) (by rw [Hq.out, HLq.out, HLu.out]; exact hg))
                  clear Hand hg
                  go_wp2_with (first | (go_at_call 87; go_must (with_reducible refine HC.out.mono ?_); rintro _ w7 ⟨v7, rfl, ho7, hb7⟩; have HO7 := Lib.hid ho7; have HB7 := Lib.hid hb7; have HS7 := Lib.hid (show wr.heap.size ≤ (w7.alloc (.cells #[.int .i64 (p : Int)] 3)).heap.size from below_size (hb7.alloc (below_size hb7) _)); clear ho7 hb7) | (at_builtin; refine wpList_append_own _ rfl (.tmp 75) (.tmp 77) 42 rfl wr.heap.size 3 i3 (.int .i64 0) 1 8 Tryd.underlying42 H3.out hz3 hs3 hb3 rfl (by decide) v7 Lu.length (rowI Lu) rfl (HO7.out.alloc _) ⟨w7.heap.size, 0, none⟩ 1 1 [.int .i64 (p : Int)] rfl rfl (new_cells w7 _) (by intro u hu; rw [List.mem_singleton] at hu; rw [hu]; rfl) (by unfold maxLen; omega) (by omega) HS7.out ?_; intro v8 w8 ho8 hg8 _; obtain ⟨A8, c8, rfl, hD8, ho9⟩ := DP.grow HN.out HO7.out HB7.out ho8 hg8; obtain ⟨A9, c9, hc9, _, _⟩ := hD8.at_ hq; have hf9 := hD8.free q; have HX := Lib.hid (hD8.store hq ho9); clear ho8 hg8 hD8 ho9))
                  exact ⟨⟨u + 1, by omega, by go_num, by rw [HS2.out]; exact HX.out⟩, by simp [intOf]; omega⟩
                · have hgb : decide (((Lu.length : Nat) : Int) + 1 > ((Lq.length : Nat) : Int)) = false := decide_eq_false (by omega)
                  have HN2 := Lib.hid (HN.out.congr (C := stepTo (dpTo who n p) p m (u + 1)) fun _ _ => by rw [show stepTo (dpTo who n p) p m (u + 1) = stepTo (dpTo who n p) p m u from step_short (by rw [Hq.out, HLq.out, HLu.out]; exact hg)])
                  clear Hand hg
                  go_wp2
                  exact ⟨⟨u + 1, by omega, by go_num, HN2.out⟩, by simp [intOf]; omega⟩
              · have h0b : (((u : Nat) : Int) == 0) = false := beq_eq_false_iff_ne.mpr (by omega)
                by_cases hl : 0 < Lu.length
                · have hlb : decide (((Lu.length : Nat) : Int) > 0) = true := decide_eq_true (by omega)
                  by_cases hg : Lq.length < Lu.length + 1
                  · have hgb : decide (((Lu.length : Nat) : Int) + 1 > ((Lq.length : Nat) : Int)) = true := decide_eq_true (by omega)
                    have HS2 := Lib.hid (show stepTo (dpTo who n p) p m (u + 1) = updF (stepTo (dpTo who n p) p m u) q (Lu ++ [(p : Int)]) by rw [← HLu.out, ← Hq.out]; exact step_longer ha (.inr (by rw [HLu.out]; exact hl)) (by rw [Hq.out, HLq.out, HLu.out]; exact hg))
                    clear Hand hg
                    go_wp2_with (first | (go_at_call 87; go_must (with_reducible refine HC.out.mono ?_); rintro _ w7 ⟨v7, rfl, ho7, hb7⟩; have HO7 := Lib.hid ho7; have HB7 := Lib.hid hb7; have HS7 := Lib.hid (show wr.heap.size ≤ (w7.alloc (.cells #[.int .i64 (p : Int)] 3)).heap.size from below_size (hb7.alloc (below_size hb7) _)); clear ho7 hb7) | (at_builtin; refine wpList_append_own _ rfl (.tmp 75) (.tmp 77) 42 rfl wr.heap.size 3 i3 (.int .i64 0) 1 8 Tryd.underlying42 H3.out hz3 hs3 hb3 rfl (by decide) v7 Lu.length (rowI Lu) rfl (HO7.out.alloc _) ⟨w7.heap.size, 0, none⟩ 1 1 [.int .i64 (p : Int)] rfl rfl (new_cells w7 _) (by intro u hu; rw [List.mem_singleton] at hu; rw [hu]; rfl) (by unfold maxLen; omega) (by omega) HS7.out ?_; intro v8 w8 ho8 hg8 _; obtain ⟨A8, c8, rfl, hD8, ho9⟩ := DP.grow HN.out HO7.out HB7.out ho8 hg8; obtain ⟨A9, c9, hc9, _, _⟩ := hD8.at_ hq; have hf9 := hD8.free q; have HX := Lib.hid (hD8.store hq ho9); clear ho8 hg8 hD8 ho9))
                    exact ⟨⟨u + 1, by omega, by go_num, by rw [HS2.out]; exact HX.out⟩, by simp [intOf]; omega⟩
                  · have hgb : decide (((Lu.length : Nat) : Int) + 1 > ((Lq.length : Nat) : Int)) = false := decide_eq_false (by omega)
                    have HN2 := Lib.hid (HN.out.congr (C := stepTo (dpTo who n p) p m (u + 1)) fun _ _ => by rw [show stepTo (dpTo who n p) p m (u + 1) = stepTo (dpTo who n p) p m u from step_short (by rw [Hq.out, HLq.out, HLu.out]; exact hg)])
                    clear Hand hg
                    go_wp2
                    exact ⟨⟨u + 1, by omega, by go_num, HN2.out⟩, by simp [intOf]; omega⟩
                · have hlb : decide (((Lu.length : Nat) : Int) > 0) = false := decide_eq_false (by omega)
                  have HN2 := Lib.hid (HN.out.congr (C := stepTo (dpTo who n p) p m (u + 1)) fun _ _ => by rw [show stepTo (dpTo who n p) p m (u + 1) = stepTo (dpTo who n p) p m u from step_empty ha h0 (by rw [HLu.out]; exact hl)])
                  clear Hand
                  go_wp2
                  exact ⟨⟨u + 1, by omega, by go_num, HN2.out⟩, by simp [intOf]; omega⟩
            · have hb1 : (bits BinOp.and IntKind.u64 (u : Int) (m : Int) == 0) = false := by rw [Hand]; exact beq_eq_false_iff_ne.mpr (by omega)
              have HN2 := Lib.hid (HN.out.congr (C := stepTo (dpTo who n p) p m (u + 1)) fun _ _ => by rw [show stepTo (dpTo who n p) p m (u + 1) = stepTo (dpTo who n p) p m u from step_clash ha])
              clear Hand
              go_wp2
              exact ⟨⟨u + 1, by omega, by go_num, HN2.out⟩, by simp [intOf]; omega⟩
          · obtain rfl : u = n := by omega
            have HX := Lib.hid (show DP w gW gB u who (dpTo who u (p + 1)) wr by rw [HE2.out]; exact HN.out)
            go_wp2
            exact ⟨⟨p + 1, by omega, by go_num, HX.out⟩, by simp [intOf]; omega⟩
    · obtain rfl : p = 32 := by omega
      have HL32 := Lib.hid (fun u => HBB.out ▸ HL.out 32 u)
      have HB := Lib.hid (show DP w gW gB n who B wr from HBB.out ▸ HM.out)
      clear HM
      go_wp2
      go_loopw [11, 84] (fun v v2 w' => ∃ u : Nat, u ≤ n ∧ v2 = .int .i64 (u : Int) ∧ w' = wr ∧ wr.ownsRow (gB + 1) 3 1 v (longTo B u).length (rowI (longTo B u))) (fun _ v2 _ => n - (intOf v2).toNat)
      case atStart => exact ⟨0, by omega, rfl, rfl, World.ownsRow_nil _ _ _ _⟩
      case round =>
        obtain ⟨u, hu, rfl, rfl, ho⟩ := hrel
        obtain ⟨A, c, rfl, hcl⟩ := owns_form ho
        have HO := Lib.hid ho
        clear ho
        have HLa := Lib.hid (longTo_le (fun v => HL32.out v) u)
        by_cases hun : u < n
        · have hui : (u : Int) < (n : Int) := by omega
          obtain ⟨A2, c2, hcu, hcl2, ho2⟩ := HB.out.at_ hun
          have HO2 := Lib.hid ho2
          clear ho2
          by_cases hg : (longTo B u).length < (B u).length
          · have hgb : decide ((((B u).length : Nat) : Int) > (((longTo B u).length : Nat) : Int)) = true := decide_eq_true (by omega)
            have hgn : decide ((longTo B u).length < (B u).length) = true := decide_eq_true hg
            have HN := Lib.hid (show longTo B (u + 1) = B u from if_pos hg)
            clear hg
            generalize longTo B u = La at *
            generalize B u = Lb at *
            go_wp2
            exact ⟨⟨u + 1, by omega, by go_num, trivial, by rw [HN.out]; exact HO2.out⟩, by simp [intOf]; omega⟩
          · have hgb : decide ((((B u).length : Nat) : Int) > (((longTo B u).length : Nat) : Int)) = false := decide_eq_false (by omega)
            have hgn : decide ((longTo B u).length < (B u).length) = false := decide_eq_false hg
            have HN := Lib.hid (show longTo B (u + 1) = longTo B u from if_neg hg)
            clear hg
            generalize longTo B u = La at *
            generalize B u = Lb at *
            go_wp2
            exact ⟨⟨u + 1, by omega, by go_num, trivial, by rw [HN.out]; exact HO.out⟩, by simp [intOf]; omega⟩
        · obtain rfl : u = n := by omega
          have HC := Lib.hid (clone_own HO.out (by have := HLa.out; omega))
          have HBl := Lib.hid HB.out.bel
          go_wp2_with (first | (go_at_call 87; go_must (with_reducible refine HC.out.mono ?_); rintro _ w7 ⟨v7, rfl, ho7, hb7⟩; have HO7 := Lib.hid ho7; have HB7 := Lib.hid hb7; clear ho7 hb7))
          go_ret2
          exact ⟨v7, rfl, owns_base HO7.out (below_size HBl.out), HBl.out.trans (HB7.out.mono (below_size HBl.out))⟩
theorem drawn_below {w w' : World} (h : Drawn0 w w') : Below w.heap.size w w' := by
  obtain ⟨nd, rfl⟩ := h
  exact pw_below_drewN (Below.refl _ _) nd

-- NOT PRINTED: function 87 (slices_Clone_int_int)

/-! ### wind_Apart: function 40 -/
-- GIVEN wigeon/wind.Apart rounds=1 making=1
def wind_Apart.f (k : Nat) (l0 : List S33) : Option (List Int × Int) :=
  (wind_ValidatePipes.f k l0).bind fun e => (if e = 0 then (if workOk l0 = true then some (longTo (dpTo (whoTo l0 l0.length) (2 ^ l0.length) 32) (2 ^ l0.length), 0) else none) else some ([], e))
theorem wind_Apart.mono : ∀ a0 k, LeO (wind_Apart.f k a0) (wind_Apart.f (k + 1) a0) := by
  intro a0 k
  unfold wind_Apart.f
  repeat' first
      | (with_reducible exact wind_ValidatePipes.mono _ _)
      | (with_reducible exact LeO.refl _)
      | (with_reducible exact LeO.none _)
      | (with_reducible refine LeO.ite ?_ ?_)
      | (with_reducible refine LeO.bind ?_ (fun _ => ?_))
theorem step_len {B : Nat → List Int} {k p m : Nat} (hB : ∀ v, (B v).length ≤ k) (hp : ∀ v, (B v).length ≤ p) (hk : p + 1 ≤ k) (u : Nat) : ∀ v, (stepAt B p m u v).length ≤ k := fun v => by
  unfold stepAt
  split
  · split
    · split
      · exact updF_len hB (by rw [List.length_append]; have := hp u; show _ + 1 ≤ k; omega) v
      · exact hB v
    · exact hB v
  · exact hB v
theorem clash_at {p m u q : Nat} (hm : m ≠ 0) (hq : q &&& m = 0) : q ≠ u ||| m := fun e => by
  subst e
  apply hm
  apply Nat.eq_of_testBit_eq
  intro i
  have h := congrArg (fun x => x.testBit i) hq
  simp only [Nat.testBit_and, Nat.testBit_or, Nat.zero_testBit] at h ⊢
  cases hb : m.testBit i
  · rfl
  · rw [hb] at h; simp at h
/-- Within one point's pass, sets that don't meet the point's pipes are as they were. -/
theorem step_same {B : Nat → List Int} {p m : Nat} (hm : m ≠ 0) (u q : Nat) (hq : q &&& m = 0) : stepTo B p m u q = B q := by
  induction u with
  | zero => rfl
  | succ u ih =>
    show stepAt (stepTo B p m u) p m u q = B q
    unfold stepAt
    split
    · split
      · split
        · show (if q = u ||| m then _ else stepTo B p m u q) = B q
          rw [if_neg (clash_at (p := p) hm hq)]
          exact ih
        · exact ih
      · exact ih
    · exact ih
theorem stepTo_len {B : Nat → List Int} {p m : Nat} (hm : m ≠ 0) (hB : ∀ v, (B v).length ≤ p) (u : Nat) : ∀ v, (stepTo B p m u v).length ≤ p + 1 := by
  induction u with
  | zero => exact fun v => Nat.le_succ_of_le (hB v)
  | succ u ih =>
    intro v
    show (stepAt (stepTo B p m u) p m u v).length ≤ p + 1
    unfold stepAt
    split
    · rename_i hu
      split
      · split
        · refine updF_len ih ?_ v
          rw [List.length_append, step_same hm u u hu]
          have := hB u
          show _ + 1 ≤ p + 1
          omega
        · exact ih v
      · exact ih v
    · exact ih v
theorem dpTo_len (who : Nat → Nat) (n p : Nat) : ∀ u, (dpTo who n p u).length ≤ p := by
  induction p with
  | zero => intro u; show ([] : List Int).length ≤ 0; exact Nat.le_refl _
  | succ p ih =>
    intro u
    by_cases h : who p = 0
    · rw [dp_skip h]; exact Nat.le_succ_of_le (ih u)
    · rw [dp_step h]; exact stepTo_len h ih n u
theorem shl_all {n : Nat} (h : n ≤ 10) : IntKind.u64.wrap (IntKind.u64.wrap ((shl .u64 1 (n : Int)) - 1) + 1) = ((2 ^ n : Nat) : Int) := by
  have : n = 0 ∨ n = 1 ∨ n = 2 ∨ n = 3 ∨ n = 4 ∨ n = 5 ∨ n = 6 ∨ n = 7 ∨ n = 8 ∨ n = 9 ∨ n = 10 := by omega
  rcases this with rfl | rfl | rfl | rfl | rfl | rfl | rfl | rfl | rfl | rfl | rfl <;> decide
set_option maxHeartbeats 3200000 in
set_option maxRecDepth 100000 in
theorem Apart.bad (A0 : Option Addr) (c0 : Nat) (l0 : List S33) (w : World) (e0 : Int) (h0 : e0 ≠ 0)
    (HV : Hid (Calls Tryd.prog 50 #[.slice A0 l0.length c0] w fun e w' => e = .returned (.int .i64 e0) ∧ Below w.heap.size w w')) : Calls Tryd.prog 40 #[.slice A0 l0.length c0] w fun e w' => e = .returned (.tuple #[.slice none 0 0, .int .i64 e0]) ∧ Below w.heap.size w w' := by
  have hd : (e0 != 0) = true := by simp [h0]
  clear h0
  go_enter Tryd.func40, Tryd.ntmps40
  go_wp2_with (first | (go_at_call 50; go_must (with_reducible refine HV.out.mono ?_); rintro _ w1 ⟨rfl, hb1⟩; have HB := Lib.hid hb1; clear hb1))
  go_ret2
  exact ⟨rfl, HB.out⟩
theorem wind_Apart.calls (k : Nat) (A0 : Option Addr) (c0 : Nat) (l0 : List (S33)) (r1 : List Int) (r2 : Int) (w : World) (hr0 : Kd.C k33 w A0 l0.length l0) (hc0 : l0.length ≤ c0) (h : wind_Apart.f k l0 = some (r1, r2)) :
    Calls Tryd.prog 40 #[.slice A0 l0.length c0] w fun e w' => ∃ v0_ : Value, e = .returned (.tuple #[v0_, .int .i64 r2]) ∧ Kd.R (Kd.int .i64) 3 w' w.heap.size (fun _ => True) v0_ r1 ∧ Below w.heap.size w w' := by
  obtain ⟨e, he, h⟩ := Option.bind_eq_some_iff.mp h
  have HV := Lib.hid (wind_ValidatePipes.calls k A0 c0 l0 e w hr0 hc0 he)
  by_cases h0 : e = 0
  · subst h0
    rw [if_pos rfl] at h
    by_cases h1 : workOk l0 = true
    · rw [if_pos h1] at h
      obtain ⟨rfl, rfl⟩ := Prod.mk.inj (Option.some.inj h)
      have g1 := of_decide_eq_true h1
      have hn : (2 : Nat) ^ l0.length ≤ 2 ^ 10 := Nat.pow_le_pow_right (by decide) g1.1
      have HE := Lib.hid (fun w' (hbw : Below w.heap.size w w') => (wind_everything.calls A0 c0 l0 _ w' (Kd.C_below hr0 hbw) hc0 rfl).mono (fun e w'' he => show e = .returned (.int .u64 (IntKind.u64.wrap ((shl .u64 1 (l0.length : Int)) - 1))) ∧ Below w'.heap.size w' w'' from ⟨he.1, drawn_below he.2⟩))
      refine (Apart.run A0 c0 l0 w (whoTo l0 l0.length) _ (2 ^ l0.length) hc0 HV (Lib.hid (fun w' hbw => workers.walk A0 c0 l0 w' (Kd.C_below hr0 hbw) hc0 g1.1 g1.2)) HE (shl_all g1.1) Nat.one_le_two_pow (by omega) (fun p => whoTo_lt l0 l0.length p) (fun p u hu => Nat.or_lt_two_pow hu (whoTo_lt l0 l0.length p)) (fun p u => dpTo_len _ _ p u) (fun p u j hp => stepTo_len hp (dpTo_len _ _ p) u j) _ rfl).mono ?_
      rintro _ w' ⟨v, rfl, ho, hb⟩
      exact ⟨v, rfl, Kd.R_of_own ho (fun _ _ => trivial), hb⟩
    · rw [if_neg h1] at h; cases h
  · rw [if_neg h0] at h
    obtain ⟨rfl, rfl⟩ := Prod.mk.inj (Option.some.inj h)
    refine (Apart.bad A0 c0 l0 w e h0 HV).mono ?_
    rintro _ w' ⟨rfl, hb⟩
    exact ⟨_, rfl, Kd.R_nil _ _ _ _ _, hb⟩

/-! ### wind_CheckApart: function 41 -/
-- GIVEN wigeon/wind.CheckApart rounds=1 making=1
def wind_CheckApart.f (k : Nat) (l0 : List S33) (l1 : List Int) : Option Int :=
  (wind_ValidatePipes.f k l0).bind fun e => (if e = 0 then ((wind_ascends.f k l1 32).bind fun b => (if b = true then (if workOk l0 = true then (if windOk l1 = true then some (apartFrom l0 l1 l1.length 0) else none) else none) else some 1)) else some e)
theorem wind_CheckApart.mono : ∀ a0 a1 k, LeO (wind_CheckApart.f k a0 a1) (wind_CheckApart.f (k + 1) a0 a1) := by
  intro a0 a1 k
  unfold wind_CheckApart.f
  repeat' first
      | (with_reducible exact wind_ValidatePipes.mono _ _)
      | (with_reducible exact wind_ascends.mono _ _ _)
      | (with_reducible exact LeO.refl _)
      | (with_reducible exact LeO.none _)
      | (with_reducible refine LeO.ite ?_ ?_)
      | (with_reducible refine LeO.bind ?_ (fun _ => ?_))
set_option maxHeartbeats 3200000 in
set_option maxRecDepth 100000 in
theorem CheckApart.bad (A0 : Option Addr) (c0 : Nat) (l0 : List S33) (A1 : Option Addr) (c1 : Nat) (l1 : List Int) (w : World) (e0 : Int) (h0 : e0 ≠ 0)
    (HV : Hid (Calls Tryd.prog 50 #[.slice A0 l0.length c0] w fun e w' => e = .returned (.int .i64 e0) ∧ Below w.heap.size w w')) : Calls Tryd.prog 41 #[.slice A0 l0.length c0, .slice A1 l1.length c1] w fun e w' => e = .returned (.int .i64 e0) ∧ Below w.heap.size w w' := by
  have hd : (e0 != 0) = true := by simp [h0]
  clear h0
  go_enter Tryd.func41, Tryd.ntmps41
  go_wp2_with (first | (go_at_call 50; go_must (with_reducible refine HV.out.mono ?_); rintro _ w1 ⟨rfl, hb1⟩; have HB := Lib.hid hb1; clear hb1))
  go_ret
  exact ⟨rfl, HB.out⟩
set_option maxHeartbeats 3200000 in
set_option maxRecDepth 100000 in
theorem CheckApart.no (A0 : Option Addr) (c0 : Nat) (l0 : List S33) (A1 : Option Addr) (c1 : Nat) (l1 : List Int) (w : World)
    (HV : Hid (Calls Tryd.prog 50 #[.slice A0 l0.length c0] w fun e w' => e = .returned (.int .i64 0) ∧ Below w.heap.size w w'))
    (HA : Hid (∀ w', Below w.heap.size w w' → Calls Tryd.prog 88 #[.slice A1 l1.length c1, .int .i64 32] w' fun e w'' => e = .returned (.bool false) ∧ Below w'.heap.size w' w'')) : Calls Tryd.prog 41 #[.slice A0 l0.length c0, .slice A1 l1.length c1] w fun e w' => e = .returned (.int .i64 1) ∧ Below w.heap.size w w' := by
  go_enter Tryd.func41, Tryd.ntmps41
  go_wp2_with (first | (go_at_call 50; go_must (with_reducible refine HV.out.mono ?_); rintro _ w1 ⟨rfl, hb1⟩; have HB := Lib.hid hb1; clear hb1) | (go_at_call 88; go_must (with_reducible refine (HA.out _ HB.out).mono ?_); rintro _ w2 ⟨rfl, hb2⟩; have HN := Lib.hid (HB.out.trans (hb2.mono (below_size HB.out))); clear HB; have HB := HN; clear HN hb2))
  go_ret
  exact ⟨rfl, HB.out⟩
theorem wind_CheckApart.calls (k : Nat) (A0 : Option Addr) (c0 : Nat) (l0 : List (S33)) (A1 : Option Addr) (c1 : Nat) (l1 : List Int) (r : Int) (w : World) (hr0 : Kd.C k33 w A0 l0.length l0) (hc0 : l0.length ≤ c0) (hr1 : Kd.C (Kd.int .i64) w A1 l1.length l1) (hc1 : l1.length ≤ c1) (h : wind_CheckApart.f k l0 l1 = some r) :
    Calls Tryd.prog 41 #[.slice A0 l0.length c0, .slice A1 l1.length c1] w fun e w' => e = .returned (.int .i64 r) ∧ Below w.heap.size w w' := by
  obtain ⟨e, he, h⟩ := Option.bind_eq_some_iff.mp h
  have HV := Lib.hid (wind_ValidatePipes.calls k A0 c0 l0 e w hr0 hc0 he)
  by_cases h0 : e = 0
  · subst h0
    rw [if_pos rfl] at h
    obtain ⟨b, hb, h⟩ := Option.bind_eq_some_iff.mp h
    have HA := Lib.hid (fun w' (hbw : Below w.heap.size w w') => (wind_ascends.calls k A1 c1 l1 32 b w' (Kd.C_below hr1 hbw) hc1 hb).mono (fun e w'' he => show e = .returned (.bool b) ∧ Below w'.heap.size w' w'' from ⟨he.1, drawn_below he.2⟩))
    cases b with
    | true =>
      rw [if_pos rfl] at h
      by_cases h1 : workOk l0 = true
      · by_cases h2 : windOk l1 = true
        · rw [if_pos h1, if_pos h2] at h
          obtain rfl := Option.some.inj h
          have g1 := of_decide_eq_true h1
          have g2 := of_decide_eq_true h2
          exact CheckApart.run A0 c0 l0 A1 c1 l1 w hr1 hc0 hc1 HV HA (Lib.hid (fun w' hbw => workers.walk A0 c0 l0 w' (Kd.C_below hr0 hbw) hc0 g1.1 g1.2)) g1.1 g2
        · rw [if_pos h1, if_neg h2] at h; cases h
      · rw [if_neg h1] at h; cases h
    | false =>
      rw [if_neg (by decide)] at h
      obtain rfl := Option.some.inj h
      exact CheckApart.no A0 c0 l0 A1 c1 l1 w HV HA
  · rw [if_neg h0] at h
    obtain rfl := Option.some.inj h
    exact CheckApart.bad A0 c0 l0 A1 c1 l1 w e h0 HV

end Go.Proofs.YthihlapmkcelpaaDoor.Q
