-- Written by a program of this session (wip/tools/gprint.py, over the kit's print); Lean checks it.
import Derived.Test.YthihlapmkcelpaaDoorQx0
import Derived.Test.YthihlapmkcelpaaDoorQx5
namespace Go.Proofs.YthihlapmkcelpaaDoor.Q
open Go.RowKit Go.Proofs.YthihlapmkcelpaaDoorW.PrintWords Go.Proofs.YthihlapmkcelpaaDoorW.PrintLast Go.Proofs.YthihlapmkcelpaaDoorW.PrintMore
attribute [local go_sem] max2_int min2_int max_two min_two max_three min_three max_four min_four   -- for this text's walks alone
set_option linter.unusedVariables false
set_option linter.unusedSimpArgs false

/-! ### wigeonref03_Arcs: function 31 -/
-- GIVEN wigeon/wigeonref03.Arcs rounds=0 making=1
def widS (n p : Nat) : Nat → Nat → Nat
  | w, 0 => w
  | w, d + 1 => if n.testBit ((p + w) % 32) = true then widS n p (w + 1) d else w
theorem widS_spec (n p d : Nat) : ∀ w, w ≤ widS n p w d ∧ widS n p w d ≤ w + d ∧ (∀ u, w ≤ u → u < widS n p w d → n.testBit ((p + u) % 32) = true) ∧ (widS n p w d < w + d → n.testBit ((p + widS n p w d) % 32) = false) := by
  induction d with
  | zero => intro w; exact ⟨Nat.le_refl _, Nat.le_refl _, fun u h1 h2 => by unfold widS at h2; omega, fun h => by unfold widS at h; omega⟩
  | succ d ih =>
    intro w
    unfold widS
    by_cases hb : n.testBit ((p + w) % 32) = true
    · rw [if_pos hb]
      obtain ⟨h1, h2, h3, h4⟩ := ih (w + 1)
      refine ⟨by omega, by omega, fun u h5 h6 => ?_, fun h => h4 (by omega)⟩
      by_cases e : u = w
      · rw [e]; exact hb
      · exact h3 u (by omega) h6
    · rw [if_neg hb]
      exact ⟨Nat.le_refl _, by omega, fun u h5 h6 => by omega, fun _ => Bool.eq_false_iff.mpr hb⟩
/-- The width of the arc that begins at a place. -/
def widQ (n p : Nat) : Nat := widS n p 1 32
theorem full_or {n : Nat} (hn : n < 4294967296) (hf : n ≠ 4294967295) : ∃ q, q < 32 ∧ n.testBit q = false := by
  apply Classical.byContradiction
  intro h
  apply hf
  apply Nat.eq_of_testBit_eq
  intro i
  by_cases hi : i < 32
  · have h1 : n.testBit i = true := by
      cases hb : n.testBit i with
      | true => rfl
      | false => exact absurd ⟨i, hi, hb⟩ h
    rw [h1]
    exact ((by decide +kernel : ∀ j : Fin 32, (4294967295 : Nat).testBit j.val = true) ⟨i, hi⟩).symm
  · have := Nat.pow_le_pow_right (n := 2) (by decide) (show 32 ≤ i by omega)
    rw [Nat.testBit_lt_two_pow (by omega), Nat.testBit_lt_two_pow (by omega)]
theorem widQ_spec {n : Nat} (hn : n < 4294967296) (hf : n ≠ 4294967295) (p : Nat) : 1 ≤ widQ n p ∧ widQ n p ≤ 32 ∧ (∀ u, 1 ≤ u → u < widQ n p → n.testBit ((p + u) % 32) = true) ∧ n.testBit ((p + widQ n p) % 32) = false := by
  obtain ⟨h1, h2, h3, h4⟩ := widS_spec n p 32 1
  have hlt : widS n p 1 32 < 1 + 32 := by
    obtain ⟨q, hq, hb⟩ := full_or hn hf
    apply Classical.byContradiction
    intro hge
    have h5 := h3 ((q + 32 - p % 32 - 1) % 32 + 1) (by omega) (by omega)
    rw [show (p + ((q + 32 - p % 32 - 1) % 32 + 1)) % 32 = q by omega, hb] at h5
    exact absurd h5 (by decide)
  exact ⟨h1, by unfold widQ; omega, h3, h4 hlt⟩
def begins (n p : Nat) : Bool := n.testBit p && !n.testBit ((p + 31) % 32)
def arcsTo (n : Nat) : Nat → List S33
  | 0 => []
  | p + 1 => if begins n p = true then arcsTo n p ++ [⟨(p : Int), ((widQ n p : Nat) : Int)⟩] else arcsTo n p
theorem arcsTo_length (n p : Nat) : (arcsTo n p).length ≤ p := by
  induction p with
  | zero => exact Nat.le_refl _
  | succ p ih =>
    unfold arcsTo
    split
    · rw [List.length_append, List.length_singleton]; omega
    · omega
def arcsP (n : Int) : List S33 × Int := if setOk n = true then (if n = 4294967295 then ([⟨0, 32⟩], 0) else (arcsTo n.toNat 32, 0)) else ([], 1)
structure ArcsAt (w : World) (g : Nat) (h : Nat → Bool) (v : Value) (l : List S33) (w' : World) : Prop where
  out : Kd.R k33 33 w' w.heap.size (fun k => k ≠ g) v l
  row : BoolsAt w' g h
  bel : Below w.heap.size w w'
theorem ArcsAt.new {w w1 : World} (hb : Below w.heap.size w w1) (f : Nat → Bool) (z : Array Value) (hz : z = encB noneB) : ArcsAt w w1.heap.size f (.slice none 0 0) [] ((w1.alloc (.cells z 77)).setRow w1.heap.size (encB f)) := by
  subst hz
  have hs := below_size hb
  exact ⟨Kd.R_nil _ _ _ _ _, (BoolsAt.new w1 noneB).row f, below_setRow (hb.alloc hs _) hs _⟩
theorem and_prev {p : Nat} (hp : p < 32) : bits .and .i64 ((p : Int) - 1) 31 = (((p + 31) % 32 : Nat) : Int) := by rw [i64_and31]; omega
theorem and_on (p u : Nat) : bits .and .i64 ((p : Int) + (u : Int)) 31 = (((p + u) % 32 : Nat) : Int) := by rw [i64_and31]; omega
set_option maxHeartbeats 8000000 in
set_option maxRecDepth 100000 in
theorem ref_Arcs.walk (n : Int) (w : World) : Calls Tryd.prog 31 #[.int .i64 n] w fun e w' => ∃ v0_ : Value, e = .returned (.tuple #[v0_, .int .i64 (arcsP n).2]) ∧ Kd.R k33 33 w' w.heap.size (fun _ => True) v0_ (arcsP n).1 ∧ Below w.heap.size w w' := by
  have HS := Lib.hid (fun w => wigeonref03_isSet.calls n _ w (ref_isSet_eq n))
  by_cases h : setOk n = true
  · rw [h] at HS
    by_cases hf : n = 4294967295
    · have he : arcsP n = ([⟨0, 32⟩], 0) := by unfold arcsP; rw [if_pos h, if_pos hf]
      rw [he]
      subst hf
      have HB := Lib.hid (Below.refl w.heap.size w)
      go_enter Tryd.func31, Tryd.ntmps31
      go_wp2_with (first | (go_at_call 65; go_must (with_reducible refine (HS.out _).mono ?_); rintro _ _ ⟨rfl, ⟨nd, rfl⟩⟩) | ((with_reducible refine gate_dst (N := 14) rfl ?_); refine Kd.R_lit k33 _ 33 ?hg (N := 14) ?hd (xs := ([(⟨0, 32⟩ : S33)] : List (S33))) (inner := [.int .i64 0, .int .i64 32]) (ok := fun _ => True) (okp := fun _ => True) ?hr ?hp (fun _ hk => hk) trivial (Below.refl _ _) (Nat.le_refl _) (by simp) ?_; (case hd => rfl); (case hg => rfl); (case hr => first | (go_simp; done) | (go_simp; rfl)); (case hp => exact (Reps.c2 (show Kd.M k33 _ _ _ (⟨0, 32⟩ : S33) [.int .i64 0, .int .i64 32] from (k33_mkM _ _ _ (⟨0, 32⟩ : S33) )) (Reps.none _ _))); intro v252 w6 ho7 hb hg_ hnew_; clear hg_ hnew_; have HBd := Lib.hid (pw_below_drewN HB.out nd); have HO := Lib.hid (Kd.R_lower ho7 (below_size HBd.out)); have HB6 := Lib.hid (below_step HBd.out hb); clear hb ho7))
      go_ret2
      exact ⟨_, rfl, HO.out, HB6.out⟩
    · have he : arcsP n = (arcsTo n.toNat 32, 0) := by unfold arcsP; rw [if_pos h, if_neg hf]
      rw [he]
      have hr := of_decide_eq_true h
      obtain ⟨m, rfl⟩ := Int.eq_ofNat_of_zero_le hr.1
      have hm : m < 4294967296 := by omega
      have hmf : m ≠ 4294967295 := by omega
      have hd : ((m : Int) == 4294967295) = false := by simp; omega
      rw [Int.toNat_natCast]
      have HO := Lib.hid (fun w => ref_open.walk m w (by omega))
      have HW := Lib.hid (fun p => widQ_spec hm hmf p)
      have HE := Lib.hid (show (encB noneB).size = (encB (bitsB m)).size by rw [encB_size, encB_size])
      clear he h hr hf
      go_enter Tryd.func31, Tryd.ntmps31
      go_wp2_with (first | (go_at_call 65; go_must (with_reducible refine (HS.out _).mono ?_); rintro _ _ ⟨rfl, ⟨nd, rfl⟩⟩) | (go_at_call 66; go_must (with_reducible refine (HO.out _).mono ?_); rintro _ w1 ⟨rfl, hb1⟩; have HB1 := Lib.hid ((pw_below_drewN (Below.refl w.heap.size w) nd).trans hb1); have HZ1 := Lib.hid (show BoolsAt (w1.alloc (.cells #[.bool false, .bool false, .bool false, .bool false, .bool false, .bool false, .bool false, .bool false, .bool false, .bool false, .bool false, .bool false, .bool false, .bool false, .bool false, .bool false, .bool false, .bool false, .bool false, .bool false, .bool false, .bool false, .bool false, .bool false, .bool false, .bool false, .bool false, .bool false, .bool false, .bool false, .bool false, .bool false] 77)) w1.heap.size noneB from zeroB ▸ BoolsAt.new w1 noneB); clear hb1) | (refine wpList_store_row rfl 77 (.tmp 4) (.tmp 16) rfl w1.heap.size (encB (bitsB m)) rfl rfl 77 (encB noneB) HZ1.out (infoB (bitsB m)) HE.out (encB_one (bitsB m)) ?_))
      have H0 := Lib.hid (ArcsAt.new HB1.out (bitsB m) #[.bool false, .bool false, .bool false, .bool false, .bool false, .bool false, .bool false, .bool false, .bool false, .bool false, .bool false, .bool false, .bool false, .bool false, .bool false, .bool false, .bool false, .bool false, .bool false, .bool false, .bool false, .bool false, .bool false, .bool false, .bool false, .bool false, .bool false, .bool false, .bool false, .bool false, .bool false, .bool false] zeroB)
      have Hg := Lib.hid (show w.heap.size ≤ w1.heap.size from below_size HB1.out)
      generalize ((w1.alloc (.cells #[.bool false, .bool false, .bool false, .bool false, .bool false, .bool false, .bool false, .bool false, .bool false, .bool false, .bool false, .bool false, .bool false, .bool false, .bool false, .bool false, .bool false, .bool false, .bool false, .bool false, .bool false, .bool false, .bool false, .bool false, .bool false, .bool false, .bool false, .bool false, .bool false, .bool false, .bool false, .bool false] 77)).setRow w1.heap.size (encB (bitsB m))) = W0 at *
      generalize w1.heap.size = g at *
      go_loopw [5, 6] (fun v v2 w' => ∃ p : Nat, p ≤ 32 ∧ v2 = .int .i64 (p : Int) ∧ ArcsAt w g (bitsB m) v (arcsTo m p) w') (fun _ v2 _ => (32 - intOf v2).toNat)
      case atStart => exact ⟨0, by omega, rfl, H0.out⟩
      case round =>
        obtain ⟨p, hp, rfl, hM⟩ := hrel
        have HM := Lib.hid hM
        generalize u5 = vv at *
        clear hM
        by_cases hlt : p < 32
        · have hcell := HM.out.row.cell p hlt
          have hcell2 := HM.out.row.cell ((p + 31) % 32) (Nat.mod_lt _ (by decide))
          have HA := Lib.hid (fun w => show Calls Tryd.prog 67 #[.int .i64 ((p : Int) - 1)] w fun e w' => e = .returned (.int .i64 (((p + 31) % 32 : Nat) : Int)) ∧ w' = w from and_prev hlt ▸ around_walk ((p : Int) - 1) w)
          have hw := IntWalk.i64_in ((p : Int) - 1) (by omega)
          have hqi : (((p + 31) % 32 : Nat) : Int) < 32 := by omega
          have hq : (p + 31) % 32 < 32 := Nat.mod_lt _ (by decide)
          have Hnx := Lib.hid (show arcsTo m (p + 1) = if begins m p = true then arcsTo m p ++ [⟨(p : Int), ((widQ m p : Nat) : Int)⟩] else arcsTo m p from rfl)
          have Hlen := Lib.hid (arcsTo_length m p)
          have Hp := Lib.hid hlt
          have HWp := Lib.hid (HW.out p)
          unfold bitsB at hcell hcell2
          have Hbe := Lib.hid (show begins m p = (m.testBit p && !m.testBit ((p + 31) % 32)) from rfl)
          generalize (p + 31) % 32 = q at *
          generalize widQ m p = r at *
          generalize begins m p = bb at *
          generalize arcsTo m p = l at *
          cases hb : m.testBit p with
          | false =>
            rw [hb] at hcell
            have hbb : bb = false := by rw [Hbe.out, hb]; rfl
            subst hbb
            go_wp2_with (first | (go_at_call 67; go_must (with_reducible refine (HA.out _).mono ?_); rintro _ _ ⟨rfl, rfl⟩))
            exact ⟨⟨p + 1, by omega, by go_num, by rw [Hnx.out]; exact HM.out⟩, by simp [intOf]; omega⟩
          | true =>
            rw [hb] at hcell
            cases hb2 : m.testBit q with
            | true =>
              rw [hb2] at hcell2
              have hbb : bb = false := by rw [Hbe.out, hb, hb2]; rfl
              subst hbb
              go_wp2_with (first | (go_at_call 67; go_must (with_reducible refine (HA.out _).mono ?_); rintro _ _ ⟨rfl, rfl⟩))
              exact ⟨⟨p + 1, by omega, by go_num, by rw [Hnx.out]; exact HM.out⟩, by simp [intOf]; omega⟩
            | false =>
              rw [hb2] at hcell2
              have hbb : bb = true := by rw [Hbe.out, hb, hb2]; rfl
              subst hbb
              go_wp2_with (first | (go_at_call 67; go_must (with_reducible refine (HA.out _).mono ?_); rintro _ _ ⟨rfl, rfl⟩))
              go_loopw [7] (fun v w' => ∃ u : Nat, 1 ≤ u ∧ u ≤ r ∧ v = .int .i64 (u : Int) ∧ ArcsAt w g (bitsB m) vv l w') (fun v _ => r - (intOf v).toNat)
              case atStart => exact ⟨1, by omega, HWp.out.1, rfl, HM.out⟩
              case round =>
                obtain ⟨u, hu1, hu2, rfl, hM2⟩ := hrel
                clear HM
                have HM := Lib.hid hM2
                clear hM2
                have hr32 := HWp.out.2.1
                have hqu : (p + u) % 32 < 32 := Nat.mod_lt _ (by decide)
                have hcu := HM.out.row.cell ((p + u) % 32) hqu
                unfold bitsB at hcu
                have hqui : (((p + u) % 32 : Nat) : Int) < 32 := by omega
                have HA2 := Lib.hid (fun w => show Calls Tryd.prog 67 #[.int .i64 ((p : Int) + (u : Int))] w fun e w' => e = .returned (.int .i64 (((p + u) % 32 : Nat) : Int)) ∧ w' = w from and_on p u ▸ around_walk ((p : Int) + (u : Int)) w)
                have hw3 := IntWalk.i64_in ((p : Int) + (u : Int)) (by omega)
                by_cases hur : u < r
                · rw [HWp.out.2.2.1 u hu1 hur] at hcu
                  generalize (p + u) % 32 = q2 at *
                  go_wp2_with (first | (go_at_call 67; go_must (with_reducible refine (HA2.out _).mono ?_); rintro _ _ ⟨rfl, rfl⟩))
                  exact ⟨⟨u + 1, by omega, by omega, by go_num, HM.out⟩, by simp [intOf]; omega⟩
                · have hue : u = r := by omega
                  subst hue
                  rw [HWp.out.2.2.2] at hcu
                  generalize (p + u) % 32 = q2 at *
                  go_wp2_with (first | (go_at_call 67; go_must (with_reducible refine (HA2.out _).mono ?_); rintro _ _ ⟨rfl, rfl⟩) | ((with_reducible refine gate_builtin (b := .append) (xs := #[.tmp 40, .tmp 44]) rfl ?_); at_builtin; refine Kd.R_append k33 (w0 := w) w.heap.size rfl (.tmp 40) (.tmp 44) 36 33 (.agg #[(.int .i64 0), (.int .i64 0)]) 16 rfl Tryd.underlying36 info33 rfl (by decide) (by omega) vv l (⟨(p : Int), (u : Int)⟩ : S33) [.int .i64 (p : Int), .int .i64 (u : Int)] (fun k_ => k_ ≠ g) (fun _ => False) rfl rfl ?aP (fun _ hk => hk.elim) ?aF ?aO ?aB ?aS ?aL ?_; (case aP => exact k33_mkM _ _ _ (⟨(p : Int), (u : Int)⟩ : S33)); (case aB => exact HM.out.bel); (case aF => exact (fun k_ hk => Kd.freshB (g := g) (o := .cells (encB (bitsB m)) 77 (0, 0)) HM.out.row k_ hk)); (case aO => exact HM.out.out); (case aS => exact below_size HM.out.bel); (case aL => have := Hlen.out; have := Hp.out; omega); intro v261 w23 ho hb hg hat; have HN := Lib.hid (show ArcsAt w g (bitsB m) v261 (l ++ [⟨(p : Int), (u : Int)⟩]) w23 from ⟨ho, blk_grown (g := g) (o := .cells (encB (bitsB m)) 77 (0, 0)) HM.out.row hg (Kd.R_away HM.out.out (fun _ hk => hk)), hb⟩); clear ho hb hg hat))
                  exact ⟨⟨p + 1, by omega, by go_num, by rw [Hnx.out]; exact HN.out⟩, by simp [intOf]; omega⟩
        · have hp32 : p = 32 := by omega
          subst hp32
          go_wp2
          go_ret2
          exact ⟨_, rfl, Kd.R_mono HM.out.out (fun _ _ => trivial), HM.out.bel⟩
  · have he : arcsP n = ([], 1) := by unfold arcsP; rw [if_neg h]
    rw [he]
    rw [Bool.eq_false_iff.mpr h] at HS
    go_enter Tryd.func31, Tryd.ntmps31
    go_wp2_with (first | (go_at_call 65; go_must (with_reducible refine (HS.out _).mono ?_); rintro _ _ ⟨rfl, ⟨nd, rfl⟩⟩))
    go_ret2
    exact ⟨_, rfl, Kd.R_nil _ _ _ _ _, pw_below_drewN (Below.refl _ _) nd⟩
def wigeonref03_Arcs.f (n : Int) : Option (List S33 × Int) := some (arcsP n)
theorem wigeonref03_Arcs.calls (n : Int) (r1 : List (S33)) (r2 : Int) (w : World) (h : wigeonref03_Arcs.f n = some (r1, r2)) :
    Calls Tryd.prog 31 #[.int .i64 n] w fun e w' => ∃ v0_ : Value, e = .returned (.tuple #[v0_, .int .i64 r2]) ∧ Kd.R k33 33 w' w.heap.size (fun _ => True) v0_ r1 ∧ Below w.heap.size w w' := by
  have h := Option.some.inj h
  have hw := ref_Arcs.walk n w
  rw [h] at hw
  exact hw

end Go.Proofs.YthihlapmkcelpaaDoor.Q
