/- Cheapest: the walk. For all weights. -/
import Derived.Test.YtpkafcoflgbnaaaWLast
import Derived.Test.YtpkafcoflgbnaaaWMore
import Derived.Test.YtpkafcoflgbnaaaProg
import Derived.Test.YtpkafcoflgbnaaaShelf
import Derived.OwnWalk
import Derived.Handy
import Derived.Deep.DeepMust
import Derived.Lib.Hide
import Derived.Outline
import Derived.IntWalk
import Derived.Deep.RegionWith
import Derived.Lib.OwnBridge
import Derived.Deep.DeepCutAuto
import Derived.Deep.RegionHeld3
import Derived.StillTailTactics
import Derived.Deep.RegionLawGrows
import Derived.Test.YtpkafcoflgbnaaaWhP3
namespace Go.Proofs.Ytpkafcoflgbnaaa.Q
open Go.RowKit Go.Proofs.YtpkafcoflgbnaaaW.PrintWords Go.Proofs.YtpkafcoflgbnaaaW.PrintLast Go.Proofs.YtpkafcoflgbnaaaW.PrintMore Go.Shelf
set_option linter.unusedVariables false
set_option linter.unusedSimpArgs false
set_option maxHeartbeats 8000000 in
set_option maxRecDepth 100000 in
theorem cheap_ok (A0 : Option Addr) (c0 : Nat) (ws : List Int) (R : List Nat) (cst : Int) (w : World) (hr0 : Kd.C (Kd.int .i64) w A0 ws.length ws)
    (hv : Calls Try.prog 88 #[.slice A0 ws.length c0] w fun e w' => e = .returned (.int .i64 0) ∧ Below w.heap.size w w')
    (hcost : ∀ (w' : World) (lb : Nat), Below w.heap.size w w' → Kd.C (Kd.int .i64) w' (some ⟨lb, 0, none⟩) ws.length (R.map fun n : Nat => (n : Int)) → Calls Try.prog 92 #[.slice A0 ws.length c0, .slice (some ⟨lb, 0, none⟩) ws.length ws.length] w' fun e w'' => e = .returned (.int .i64 cst) ∧ Below w'.heap.size w' w'')
    (hl : 0 < ws.length) (h12 : ws.length ≤ 12) (hin : ∀ i : Int, 0 ≤ i → i < (ws.length : Int) → 0 ≤ rd ws i ∧ rd ws i ≤ 1000) (hR : cheapL ws = R) :
    Calls Try.prog 44 #[.slice A0 ws.length c0] w fun e w' => ∃ v, e = .returned (.tuple #[v, .int .i64 cst, .int .i64 0]) ∧ w'.ownsRow w.heap.size 3 1 v R.length (numsV R) ∧ Below w.heap.size w w' := by
  obtain ⟨i3, hi3, hz30, hz31, hz32⟩ := info_parts (show (Try.prog.info? 3).map (fun i => (i.zero, i.size, i.bytes)) = some (some (.int .i64 0), 1, 8) by kernel_rfl)
  obtain ⟨i97, hi97, hz970, hz971, hz972⟩ := info_parts info97
  have HI := Lib.hid hin
  have HR := Lib.hid hr0
  have HC := Lib.hid hcost
  have HRR := Lib.hid hR
  clear hin hr0 hcost hR
  go_enter Try.func44, Try.ntmps44
  go_wp2_with (first | (go_at_call 88; go_must (with_reducible refine hv.mono ?_); rintro _ w1 ⟨rfl, hb1⟩) | (at_make; refine wpList_make_full _ rfl _ _ 35 rfl _ 3 i3 (.int .i64 0) 1 Try.underlying35 hi3 hz30 hz31 _ _ _ _ ws.length rfl rfl rfl rfl (by rw [hz32]; omega) (by unfold maxLen; omega) (Nat.le_refl _) ?_; intro w4 ho4 hg4))
  have hB4 : Below w.heap.size w w4 := hb1.grown hg4 hb1.size (fun k e => by cases e)
  have hlb : ∃ lb, w1.heap.size = lb := ⟨_, rfl⟩
  obtain ⟨lb, hlb⟩ := hlb
  have hlbw : w.heap.size ≤ lb := by rw [← hlb]; exact hb1.size
  rw [hlb] at ho4
  simp only [hlb]
  have hs4 := (ho4.lt lb rfl).2
  clear hv hb1
  go_loopw [23, 7] (fun p q wr => ∃ (k : Nat) (es : List BrV) (qv : Value), k ≤ ws.length ∧ p = .int .i64 (k : Int) ∧ qv = q ∧ wr.ownsRow w4.heap.size 97 2 qv k (cellsBr es) ∧ Brs (SigAt wr w4.heap.size) es ((startB ws).take k) ∧ Below w4.heap.size w4 wr) (fun p _ _ => ws.length - (intOf p).toNat)
  case atStart => exact ⟨0, [], _, Nat.zero_le _, rfl, rfl, World.ownsRow_nil _ _ _ _, brs_nil _, Below.refl _ _⟩
  case round =>
    obtain ⟨k, es, q, hk, rfl, rfl, ho, hbr, hb⟩ := hrel
    by_cases hlt : k < ws.length
    · have hdk : decide ((k : Int) < (ws.length : Int)) = true := decide_eq_true (by omega)
      have hdk0 : decide (0 ≤ (k : Int)) = true := decide_eq_true (by omega)
      have hbr2 : Below w.heap.size w wr := hB4.trans (hb.mono (by omega))
      obtain ⟨ad, hA, hcl⟩ := Kd.at_int (Kd.C_below HR.out hbr2) (k : Int) (by omega) (by omega)
      subst hA
      obtain ⟨x, hx⟩ : ∃ x, rd ws (k : Int) = x := ⟨_, rfl⟩
      rw [hx, Int.toNat_natCast] at hcl
      have HX := Lib.hid hx
      have HO := Lib.hid ho
      have HBR := Lib.hid hbr
      clear hx ho hbr
      go_wp2_with (first | (at_builtin; refine wpList_append_own _ rfl _ _ 95 rfl w4.heap.size 97 i97 (.agg #[.int .i64 0, .slice none 0 0]) 2 32 Try.underlying95 hi97 hz970 hz971 hz972 rfl (by decide) _ k (cellsBr es) rfl ((HO.out.alloc _).alloc _) ⟨wr.heap.size + 1, 0, none⟩ 1 1 [.int .i64 x, .slice (some ⟨wr.heap.size, 0, none⟩) 1 1] rfl rfl (two_new _ _ _ _ _) (fun u hu => by rcases List.mem_cons.1 hu with rfl | hu; rfl; obtain rfl := List.mem_singleton.1 hu; rfl) (by unfold maxLen; omega) (by omega) (by simp; have := hb.size; omega) ?_; intro v' w5 ho5 hg5 hn5))
      go_roundw
      case rel =>
        have hx := HX.out
        have hin := HI.out (k : Int) (by omega) (by omega)
        rw [hx] at hin
        have hxx : ((x.toNat : Nat) : Int) = x := by omega
        have hb5 : Below w4.heap.size w4 w5 := (((hb.alloc hb.size _).alloc (by simp; have := hb.size; omega) _).grown hg5 (by simp; have := hb.size; omega) (fun j e => ((HO.out.lt j e).1)))
        refine ⟨k + 1, es ++ [(x.toNat, .slice (some ⟨wr.heap.size, 0, none⟩) 1 1)], v', by omega, by simp, rfl, ?_, ?_, hb5⟩
        · rw [cellsBr_app]
          show w5.ownsRow _ 97 2 v' (k + 1) (cellsBr es ++ [.int .i64 ((x.toNat : Nat) : Int), _])
          rw [hxx]; exact ho5
        · rw [startB_take ws k hlt]
          have hrow : ∀ j, q.ownBlock = some j → j < w4.heap.size ∨ ∃ cur, ((wr.alloc (.cells #[.int .i64 (k : Int)] 3)).alloc (.cells #[.int .i64 x, .slice (some ⟨wr.heap.size, 0, none⟩) 1 1] 97)).heap[j]? = some (.cells cur 97 (0, 0)) := fun j e => .inr (cur_row ((HO.out.alloc _).alloc _) j e)
          have hbb : Below wr.heap.size wr ((wr.alloc (.cells #[.int .i64 (k : Int)] 3)).alloc (.cells #[.int .i64 x, .slice (some ⟨wr.heap.size, 0, none⟩) 1 1] 97)) := ((Below.refl _ _).alloc (Nat.le_refl _) _).alloc (by simp) _
          refine (HBR.out.mono fun v S hs => (hs.below hbb).grown hg5 hrow).snoc (by rw [hx]) ?_
          exact (sig_new wr w4.heap.size k hb.size _).grown hg5 hrow
      case measure => simp [intOf]; omega
    · obtain rfl : k = ws.length := by omega
      have hdk : decide ((ws.length : Int) < (ws.length : Int)) = false := decide_eq_false (by omega)
      have hst : (startB ws).length = ws.length := by unfold startB; simp
      rw [List.take_of_length_le (by omega)] at hbr
      obtain ⟨gb, cap, hq, hgb, hop⟩ := open_of_owns ho hl
      subst hq
      have hol := own_below ho4 hb
      rw [numsV_zero] at hol
      have hC := HC.out
      have hgood := Good.start HI.out
      have hrun := HRR.out
      unfold cheapL at hrun
      clear ho
      by_cases h1 : ws.length = 1
      · have hd1 : decide ((ws.length : Int) = 1) = true := decide_eq_true (by omega)
        have hd2 : ((ws.length : Int) == 1) = true := by rw [h1]; rfl
        have hd3 : decide ((ws.length : Int) > 1) = false := decide_eq_false (by omega)
        have hd3b : decide ((1 : Int) < (ws.length : Int)) = false := decide_eq_false (by omega)
        have hd4 : decide (0 < (ws.length : Int)) = true := decide_eq_true (by omega)
        have hRone : R = [1] := by
          rw [← hrun, h1]
          unfold firstL
          rw [if_pos rfl]
          unfold cheapRun
          rw [if_pos (by omega)]
        have hnums : (numsV (List.replicate ws.length 0)).set 0 (.int .i64 1) = numsV [1] := by rw [h1]; rfl
        have hlen1 : [1].length = ws.length := h1.symm
        have hci := (hol.cellAt 0 (by omega)).trans (numsV_get (List.replicate ws.length 0) 0 (by simpa using hl))
        have hfi := hol.frozenAt 0
        have hst1 := hol.stored 0 (.int .i64 1)
        rw [hnums] at hst1
        have HST := Lib.hid hst1
        have hB5 : Below w.heap.size w wr := hB4.trans (hb.mono (by omega))
        have hB6 := hB5.grown hst1.2 hB5.size (fun j e => by cases e; exact hlbw)
        have hco := hC _ lb hB6 (by rw [hRone]; exact C_of_nums hst1.1 hlen1 h12)
        have HH := Lib.hid (And.intro h1 (And.intro hnums hlen1))
        have HRO := Lib.hid hRone
        clear hst1 hC HC hB6 h1 hnums hlen1 hRone hrun hgood hbr hol hst HRR
        go_wp2
        refine wp_loop_rounds 1 ?_
        rw [rounds_succ]
        go_wp2_with (first | (go_at_call 92; go_must (with_reducible refine hco.mono ?_); rintro _ w8 ⟨rfl, hb8⟩))
        first | go_ret3 | go_ret2 | go_ret
        have ho8 := own_below HST.out.1 hb8
        refine ⟨_, rfl, ?_, ?_⟩
        · rw [HRO.out, HH.out.2.2]
          exact owns_base2 ho8 hlbw
        · have hB6 := hB5.grown HST.out.2 hB5.size (fun j e => by cases e; exact hlbw)
          exact hB6.trans (hb8.mono hB6.size)
      · have hd1 : decide ((ws.length : Int) = 1) = false := decide_eq_false (by omega)
        have hd2 : ((ws.length : Int) == 1) = false := by simpa using hd1
        have hfl : firstL ws.length = List.replicate ws.length 0 := by unfold firstL; rw [if_neg h1]
        rw [hfl] at hrun hgood
        have HRU := Lib.hid hrun
        have HGD := Lib.hid hgood
        have HOL := Lib.hid hol
        have HOP := Lib.hid hop
        have HBR := Lib.hid hbr
        clear hrun hgood hol hop hbr hC HRR
        go_wp2
        go_loopg [7] ws.length (ChRel ws.length lb w4.heap.size R w4)
        case atStart =>
          refine ⟨startB ws, List.replicate ws.length 0, es, gb, 0, cap, by rw [hst], by omega, by omega, HGD.out, by rw [hst]; exact HRU.out, HOL.out, HOP.out, hgb, HBR.out, hb.mono (by omega)⟩
        case round =>
          obtain ⟨o, l, es, gq, off, cq, rfl, ho1, hog, hgd, hrn, hlr, hopn, hgq, hbrs, hbw⟩ := hrel
          by_cases h2 : 2 ≤ o.length
          · have hgt : decide ((o.length : Int) > 1) = true := decide_eq_true (by omega)
            have hgt2 : decide ((1 : Int) < (o.length : Int)) = true := decide_eq_true (by omega)
            have hgt0 : decide ((0 : Int) < (o.length : Int)) = true := decide_eq_true (by omega)
            obtain ⟨v1, v2, er, hse, hp1, hp2, hper⟩ := sort_two hbrs h2
            have hsz := hgd.size
            have hsort := brsort_calls gq off cq es wr hopn (by rw [hbrs.1]; omega) (by rw [hbrs.1]; omega) hbrs.oneCell
            rw [hbrs.1, hse] at hsort
            have htyp := hopn.type w4.heap.size
            obtain ⟨a, b, r, hcs, hbo, hso, hperm, -, -⟩ := sortB_cases h2
            have HTY := Lib.hid htyp
            clear hopn htyp
            go_upto_region 15 with (first | (go_at_call 89; go_must (with_reducible refine hsort.mono ?_); rintro _ w5 ⟨rfl, ho5, hg5⟩))
            have htyp := HTY.out
            have ha : brAt (sortB o) 0 = a := by rw [hcs]; rfl
            have hb2 : brAt (sortB o) 1 = b := by rw [hcs]; rfl
            have hda := hgd.perm hperm
            have hjoin := hda.join
            rw [ha] at hp1 ho5
            rw [hb2] at hp2 ho5
            have hla := hda.br_len (b := a) (by simp)
            have hlb2 := hda.br_len (b := b) (by simp)
            have hbd : a.1 ≤ 12000 ∧ b.1 ≤ 12000 := by
              have x1 := hda.wt a (by simp)
              have x2 := hda.wt b (by simp)
              constructor <;> omega
            obtain ⟨hba, hbb⟩ := hbd
            have k1 := (ho5.cell (j := 0) rfl).1
            have k2 := (ho5.cell (j := 1) rfl).1
            have k3 := (ho5.cell (j := 2) rfl).1
            have k4 := (ho5.cell (j := 3) rfl).1
            rw [Nat.add_zero] at k1
            have n1 := World.new_ne w5 _ k1
            have n2 := World.new_ne w5 _ k2
            have n3 := World.new_ne w5 _ k3
            have n4 := World.new_ne w5 _ k4
            have i0 : (0 : Int) < (o.length : Int) := by omega
            have i1 : (1 : Int) < (o.length : Int) := by omega
            have i1n : 1 < o.length := by omega
            have i0n : 0 < o.length := by omega
            have hsig1 : SigAt w5 w4.heap.size v1 a.2 := hp1.grown hg5 htyp
            have hsig2 : SigAt w5 w4.heap.size v2 b.2 := hp2.grown hg5 htyp
            obtain ⟨b1, c1, e1⟩ : ∃ b1 c1, v1 = .slice (some ⟨b1, 0, none⟩) a.2.length c1 := by obtain ⟨x, y, _, e, _⟩ := hsig1; exact ⟨x, y, e⟩
            obtain ⟨b2, c2, e2⟩ : ∃ b2 c2, v2 = .slice (some ⟨b2, 0, none⟩) b.2.length c2 := by obtain ⟨x, y, _, e, _⟩ := hsig2; exact ⟨x, y, e⟩
            obtain ⟨m1, hm1⟩ : ∃ m, a.2.length = m := ⟨_, rfl⟩
            obtain ⟨m2, hm2⟩ : ∃ m, b.2.length = m := ⟨_, rfl⟩
            rw [hm1] at e1
            rw [hm2] at e2
            subst e1 e2
            have hbs : w4.heap.size ≤ w5.heap.size := by have := hbw.size; have := hg5.size; omega
            have h0m : 0 < m1 := by rw [← hm1]; exact List.length_pos_iff.2 (hda.ne a (by simp))
            have hmm : m1 + m2 ≤ 100 := by omega
            have hper5 : Brs (SigAt w5 w4.heap.size) er r := by
              rw [hcs] at hper
              exact hper.mono fun v S hs => hs.grown hg5 htyp
            have HPE := Lib.hid hper5
            have HJO := Lib.hid hjoin
            have HGO := Lib.hid (And.intro hbo hso)
            clear htyp hper5 hjoin hbo hso hper hda
            have HM := Lib.hid (And.intro hm1 hm2)
            clear hm1 hm2
            go_cut [10] (fun v10 wx => ∃ (tb : Nat) (v3 : Value), v10 = .pointer (some ⟨tb, 0, none⟩) ∧ wx.heap[tb]? = some (.cells #[.int .i64 ((a.1 : Int) + (b.1 : Int)), v3] 97 (0, 0)) ∧ SigAt wx w4.heap.size v3 (a.2 ++ b.2) ∧ Below w5.heap.size w5 wx ∧ w5.heap.size ≤ tb)
            case first =>
              have HS1 := Lib.hid hsig1
              have HS2 := Lib.hid hsig2
              have HO5 := Lib.hid ho5
              clear hsig1 hsig2 ho5 hsort hg5 hbrs hp1 hp2
              have hWA : Below w5.heap.size w5 (w5.alloc (.cells #[.slice (some ⟨b1, 0, none⟩) m1 c1, .slice (some ⟨b2, 0, none⟩) m2 c2] 35)) := (Below.refl _ _).alloc (Nat.le_refl _) _
              have hWC : Below w5.heap.size w5 ((w5.alloc (.cells #[.slice (some ⟨b1, 0, none⟩) m1 c1, .slice (some ⟨b2, 0, none⟩) m2 c2] 35)).alloc (.cells #[.int .i64 0, .slice none 0 0] 97)) := ((Below.refl _ _).alloc (Nat.le_refl _) _).alloc (by simp) _
              have hWB : Below w5.heap.size w5 ((w5.alloc (.cells #[.int .i64 0, .slice none 0 0] 97)).alloc (.cells #[.slice (some ⟨b1, 0, none⟩) m1 c1, .slice (some ⟨b2, 0, none⟩) m2 c2] 35)) := ((Below.refl _ _).alloc (Nat.le_refl _) _).alloc (by simp) _
              have JA := Lib.hid (joined_calls w5 (w5.alloc (.cells #[.slice (some ⟨b1, 0, none⟩) m1 c1, .slice (some ⟨b2, 0, none⟩) m2 c2] 35)).drew w4.heap.size w5.heap.size m1 m2 a.2 b.2 (.slice (some ⟨b1, 0, none⟩) m1 c1) (.slice (some ⟨b2, 0, none⟩) m2 c2) (fun w' => w'.cell? ⟨gq, off, none⟩ = some (.int .i64 (a.1 : Int)) ∧ w'.cell? ⟨gq, off + 1, none⟩ = some (.slice (some ⟨b1, 0, none⟩) m1 c1) ∧ w'.cell? ⟨gq, off + 2, none⟩ = some (.int .i64 (b.1 : Int)) ∧ w'.cell? ⟨gq, off + 3, none⟩ = some (.slice (some ⟨b2, 0, none⟩) m2 c2))
                hWA.drew hbs (pair_new _ _ _ _).1 (pair_new _ _ _ _).2 HS1.out HS2.out HM.out.1 HM.out.2 h0m hmm (fun w' hg => ⟨hg.cell ((hWA.cell (p := ⟨gq, off, none⟩) (HO5.out.lt)).trans k1) (by simp), hg.cell ((hWA.cell (p := ⟨gq, off + 1, none⟩) (HO5.out.lt)).trans k2) (by simp), hg.cell ((hWA.cell (p := ⟨gq, off + 2, none⟩) (HO5.out.lt)).trans k3) (by simp), hg.cell ((hWA.cell (p := ⟨gq, off + 3, none⟩) (HO5.out.lt)).trans k4) (by simp)⟩))
              have hzC := alloc_next w5 (.cells #[.slice (some ⟨b1, 0, none⟩) m1 c1, .slice (some ⟨b2, 0, none⟩) m2 c2] 35) #[.int .i64 0, .slice none 0 0] 97
              have JC := Lib.hid (joined_calls w5 ((w5.alloc (.cells #[.slice (some ⟨b1, 0, none⟩) m1 c1, .slice (some ⟨b2, 0, none⟩) m2 c2] 35)).alloc (.cells #[.int .i64 0, .slice none 0 0] 97)).drew w4.heap.size w5.heap.size m1 m2 a.2 b.2 (.slice (some ⟨b1, 0, none⟩) m1 c1) (.slice (some ⟨b2, 0, none⟩) m2 c2) (fun w' => w'.cell? ⟨gq, off, none⟩ = some (.int .i64 (a.1 : Int)) ∧ w'.cell? ⟨gq, off + 1, none⟩ = some (.slice (some ⟨b1, 0, none⟩) m1 c1) ∧ w'.cell? ⟨gq, off + 2, none⟩ = some (.int .i64 (b.1 : Int)) ∧ w'.cell? ⟨gq, off + 3, none⟩ = some (.slice (some ⟨b2, 0, none⟩) m2 c2) ∧ w'.heap[w5.heap.size + 1]? = some (.cells #[.int .i64 0, .slice none 0 0] 97 (0, 0)))
                hWC.drew hbs (cell_two w5 _ _ _ _).1 (cell_two w5 _ _ _ _).2 HS1.out HS2.out HM.out.1 HM.out.2 h0m hmm (fun w' hg => ⟨hg.cell ((hWC.cell (p := ⟨gq, off, none⟩) (HO5.out.lt)).trans k1) (by simp), hg.cell ((hWC.cell (p := ⟨gq, off + 1, none⟩) (HO5.out.lt)).trans k2) (by simp), hg.cell ((hWC.cell (p := ⟨gq, off + 2, none⟩) (HO5.out.lt)).trans k3) (by simp), hg.cell ((hWC.cell (p := ⟨gq, off + 3, none⟩) (HO5.out.lt)).trans k4) (by simp), zero_kept hzC hg⟩))
              have hzB := alloc_first w5 #[.int .i64 0, .slice none 0 0] 97 (.cells #[.slice (some ⟨b1, 0, none⟩) m1 c1, .slice (some ⟨b2, 0, none⟩) m2 c2] 35)
              have JB := Lib.hid (joined_calls w5 ((w5.alloc (.cells #[.int .i64 0, .slice none 0 0] 97)).alloc (.cells #[.slice (some ⟨b1, 0, none⟩) m1 c1, .slice (some ⟨b2, 0, none⟩) m2 c2] 35)).drew w4.heap.size (w5.heap.size + 1) m1 m2 a.2 b.2 (.slice (some ⟨b1, 0, none⟩) m1 c1) (.slice (some ⟨b2, 0, none⟩) m2 c2) (fun w' => w'.cell? ⟨gq, off, none⟩ = some (.int .i64 (a.1 : Int)) ∧ w'.cell? ⟨gq, off + 1, none⟩ = some (.slice (some ⟨b1, 0, none⟩) m1 c1) ∧ w'.cell? ⟨gq, off + 2, none⟩ = some (.int .i64 (b.1 : Int)) ∧ w'.cell? ⟨gq, off + 3, none⟩ = some (.slice (some ⟨b2, 0, none⟩) m2 c2) ∧ w'.heap[w5.heap.size]? = some (.cells #[.int .i64 0, .slice none 0 0] 97 (0, 0)))
                hWB.drew hbs (two_new _ _ _ _ _ 0 _ rfl) (two_new _ _ _ _ _ 1 _ rfl) HS1.out HS2.out HM.out.1 HM.out.2 h0m hmm (fun w' hg => ⟨hg.cell ((hWB.cell (p := ⟨gq, off, none⟩) (HO5.out.lt)).trans k1) (by simp), hg.cell ((hWB.cell (p := ⟨gq, off + 1, none⟩) (HO5.out.lt)).trans k2) (by simp), hg.cell ((hWB.cell (p := ⟨gq, off + 2, none⟩) (HO5.out.lt)).trans k3) (by simp), hg.cell ((hWB.cell (p := ⟨gq, off + 3, none⟩) (HO5.out.lt)).trans k4) (by simp), zero_kept hzB hg⟩))
              clear hWA hWB hWC hzB hzC
              have hglt := HO5.out.lt
              have ne0 : w5.heap.size ≠ gq := by omega
              have ne1 : w5.heap.size + 1 ≠ gq := by omega
              have hwr : IntKind.i64.wrap ((a.1 : Int) + (b.1 : Int)) = (a.1 : Int) + (b.1 : Int) := by rw [IntKind.wrap_i64]; omega
              go_region_held3 (fun w' => w'.cell? ⟨gq, off, none⟩ = some (.int .i64 (a.1 : Int)) ∧ w'.cell? ⟨gq, off + 1, none⟩ = some (.slice (some ⟨b1, 0, none⟩) m1 c1) ∧ w'.cell? ⟨gq, off + 2, none⟩ = some (.int .i64 (b.1 : Int)) ∧ w'.cell? ⟨gq, off + 3, none⟩ = some (.slice (some ⟨b2, 0, none⟩) m2 c2)) (go_keep) (first | (go_at_call 91; (with_reducible refine (JA.out).mono ?_); rintro e w6 ⟨b3, c3, rfl, HSG, HBL, q1, q2, q3, q4⟩) | (go_at_call 91; (with_reducible refine (JC.out).mono ?_); rintro e w6 ⟨b3, c3, rfl, HSG, HBL, q1, q2, q3, q4, hz⟩; have HZ := Lib.hid hz; have z1 := (pair_is hz).1; have z2 := (pair_is hz).2.1; have z3 := (pair_is hz).2.2.1; have z4 := (pair_is hz).2.2.2; clear hz) | (go_at_call 91; (with_reducible refine (JB.out).mono ?_); rintro e w6 ⟨b3, c3, rfl, HSG, HBL, q1, q2, q3, q4, hz⟩; have HZ := Lib.hid hz; have z1 := (pair_is hz).1; have z2 := (pair_is hz).2.1; have z3 := (pair_is hz).2.2.1; have z4 := (pair_is hz).2.2.2; clear hz))
              · go_wp2_with fail
                go_meet
                have hs6 := HBL.out.size
                exact ⟨w6.heap.size, _, rfl, heap_alloc_new w6 _, HSG.out.below ((Below.refl _ _).alloc (Nat.le_refl _) _), HBL.out.alloc hs6 _, hs6⟩
              · go_wp2_with fail
                go_meet
                exact ⟨w5.heap.size + 1, _, rfl, pair_set HZ.out, HSG.out.pair HZ.out, (HBL.out.setCell (by simp) _).setCell (by simp) _, by omega⟩
              · go_wp2_with fail
                go_meet
                exact ⟨w5.heap.size, _, rfl, pair_set HZ.out, HSG.out.pair HZ.out, (HBL.out.setCell (by simp) _).setCell (by simp) _, by omega⟩
            case rest =>
              obtain ⟨tb, v3, rfl, hz, hs3, hbw2, htb⟩ := hcut
              have hs3' := hs3
              obtain ⟨b3, c3, cur3, e3, hb3, hh3, hj3, -⟩ := hs3'
              rw [List.length_append, HM.out.1, HM.out.2] at e3
              subst e3
              have HS3 := Lib.hid hs3
              have HJ3 := Lib.hid hj3
              have hop2 := ho5.below hbw2 ho5.lt
              have hlr5 := hlr.kept hg5 (.inr (by simp [Value.ownBlock]; omega))
              have hlr6 := own_below hlr5 hbw2
              have HOP := Lib.hid hop2
              have HOP5lt := Lib.hid ho5.lt
              have HLR := Lib.hid hlr6
              have HHZ := Lib.hid hz
              have hsum : (numsV [])= [] := rfl
              have hS : (a.2 ++ b.2).length = m1 + m2 := by rw [List.length_append, HM.out.1, HM.out.2]
              obtain ⟨S, hSe⟩ : ∃ S, a.2 ++ b.2 = S := ⟨_, rfl⟩
              rw [hSe] at hS HS3 HJ3
              have HSE := Lib.hid hSe
              clear hs3 hj3 hop2 hlr5 hlr6 hlr hsig1 hsig2 ho5 hsort hSe hsum
              have hz1 := (pair_is hz).2.1
              have hp0 := (pair_is hz).1
              go_wp2
              have hgood2 : (∀ i ∈ S, i < ws.length) ∧ S.length ≤ ws.length := by rw [← HSE.out]; exact ⟨HJO.out.2.2.1, HJO.out.1.br_len (b := joinB a b) (by simp)⟩
              have hlen := hgd.len
              have hsmall := hgd.small
              clear hz hz1 hp0
              obtain ⟨wo, rfl⟩ : ∃ wo : World, wo = wc := ⟨_, rfl⟩
              go_loopw [69] (fun p wr => ∃ k : Nat, k ≤ m1 + m2 ∧ p = .int .i64 (k : Int) ∧ wr.ownsRow lb 3 1 (.slice (some ⟨lb, 0, none⟩) ws.length ws.length) ws.length (numsV (bump l (S.take k))) ∧ wo.grownBy wr (some lb)) (fun p _ => m1 + m2 - (intOf p).toNat)
              case atStart => exact ⟨0, Nat.zero_le _, rfl, HLR.out, World.grownBy.refl _ _⟩
              case round =>
                obtain ⟨k, hk, rfl, hlk, hgk⟩ := hrel
                by_cases hlt2 : k < m1 + m2
                · have hkd : decide ((k : Int) < (m1 : Int) + (m2 : Int)) = true := decide_eq_true (by omega)
                  have hkd0 : decide (0 ≤ (k : Int)) = true := decide_eq_true (by omega)
                  have hkS : k < S.length := by omega
                  have hsg := (HS3.out.grown hgk (fun j e => by cases e; exact .inl hs4))
                  have hck := (hgk.cell (HJ3.out k _ (numsV_get S k hkS)) (by intro e; have e : b3 = lb := Option.some.inj e; omega))
                  obtain ⟨i, hi⟩ : ∃ i, S.getD k 0 = i := ⟨_, rfl⟩
                  rw [hi] at hck
                  have hiS : i ∈ S := by rw [← hi, List.getD_eq_getElem?_getD, List.getElem?_eq_getElem hkS]; exact List.getElem_mem _
                  have hin2 := hgood2.1 i hiS
                  have hbl : i < (bump l (S.take k)).length := by rw [bump_len, hlen]; exact hin2
                  have hci2 := (hlk.cellAt i (by omega)).trans (numsV_get (bump l (S.take k)) i hbl)
                  have hfi2 := hlk.frozenAt i
                  have hbv : (bump l (S.take k)).getD i 0 ≤ ws.length + (S.take k).length := bump_le _ _ _ _ hsmall
                  obtain ⟨bv, hbve⟩ : ∃ bv, (bump l (S.take k)).getD i 0 = bv := ⟨_, rfl⟩
                  rw [hbve] at hci2 hbv
                  have hbv2 : bv ≤ 100 := by rw [List.length_take] at hbv; omega
                  have hst2 := hlk.stored i (.int .i64 ((bv : Int) + 1))
                  have hi0 : decide (0 ≤ (i : Int)) = true := decide_eq_true (by omega)
                  have hi1' : decide ((i : Int) < (ws.length : Int)) = true := decide_eq_true (by omega)
                  have HST2 := Lib.hid hst2
                  have HIE := Lib.hid (And.intro hi hbve)
                  clear hst2 hi hbve hsg hbv hbl hiS hlk
                  go_wp2
                  go_roundw
                  case rel =>
                    refine ⟨k + 1, by omega, by simp, ?_, ?_⟩
                    · have e1 : S.take (k + 1) = S.take k ++ [i] := by rw [List.take_succ_eq_append_getElem hkS, ← HIE.out.1, List.getD_eq_getElem?_getD, List.getElem?_eq_getElem hkS]; rfl
                      rw [e1, bump_snoc, HIE.out.2]
                      have := HST2.out.1
                      unfold numsV at this ⊢
                      rw [List.map_set]
                      exact this
                    · exact ⟨HST2.out.2.os.trans hgk.os, HST2.out.2.tape.trans hgk.tape, HST2.out.2.output.trans hgk.output, Nat.le_trans hgk.size HST2.out.2.size, fun j hj hne => (HST2.out.2.block j (Nat.lt_of_lt_of_le hj hgk.size) hne).trans (hgk.block j hj hne)⟩
                  case measure => simp [intOf]; omega
                · obtain rfl : k = m1 + m2 := by omega
                  have hkd : decide (((m1 + m2 : Nat) : Int) < (m1 : Int) + (m2 : Int)) = false := decide_eq_false (by omega)
                  rw [List.take_of_length_le (by omega)] at hlk
                  have hopk := HOP.out.kept hgk (by intro e; have e : gq = lb := Option.some.inj e; omega)
                  obtain ⟨hdr, hc2, hce⟩ := hopk.drop
                  have hzk : wr.heap[tb]? = some (.cells #[.int .i64 ((a.1 : Int) + (b.1 : Int)), .slice (some ⟨b3, 0, none⟩) (m1 + m2) c3] 97 (0, 0)) := (hgk.block tb (Array.getElem?_eq_some_iff.1 HHZ.out).1 (by intro e; have e : tb = lb := Option.some.inj e; omega)).trans HHZ.out
                  have hz0 := (pair_is hzk).1
                  have hz1 := (pair_is hzk).2.1
                  have hsg := (HS3.out.grown hgk (fun j e => by cases e; exact .inl hs4))
                  have hpk : Brs (SigAt wr w4.heap.size) er r := HPE.out.mono fun v S hs => (hs.below hbw2).grown hgk (fun j e => by cases e; exact .inl hs4)
                  have hel : er.length + 2 = o.length := by rw [HPE.out.1]; have := hperm.length_eq; simp at this; omega
                  have hntb : some tb ≠ some gq := by intro e; have e : tb = gq := Option.some.inj e; have := HOP5lt.out; omega
                  have hzk0 := Lib.hid hzk
                  have HHK0 := Lib.hid (fun e => (hce e).2)
                  have HHK := Lib.hid (And.intro hlk (And.intro hopk (And.intro hdr (And.intro hsg hpk))))
                  have hgk0 := hgk
                  clear hlk hopk hdr hsg hpk hzk
                  have i2 : (2 : Int) ≤ (o.length : Int) := by omega
                  have hws := hbw.size
                  have hws5 := hg5.size
                  have hws6 := hbw2.size
                  have hws7 := hgk.size
                  have HBW := Lib.hid (((hbw.grown hg5 (by omega) (fun j e => by cases e; omega)).trans (hbw2.mono (by omega))).grown hgk (by omega) (fun j e => by cases e; exact Nat.le_refl _))
                  have htbs := (Array.getElem?_eq_some_iff.1 hzk0.out).1
                  have HEL := Lib.hid hel
                  have HN : Hid (some tb ≠ some gq) := Lib.hid hntb
                  have hW8 : Below wr.heap.size wr ((wr.alloc (.cells #[.int .i64 ((a.1 : Int) + (b.1 : Int)), .slice (some ⟨b3, 0, none⟩) (m1 + m2) c3] 97)).drew) := ((Below.refl _ _).alloc (Nat.le_refl _) _).drew
                  have HW8 := Lib.hid (And.intro ((hW8.cell (p := ⟨tb, 0, none⟩) htbs).trans hz0) ((hW8.cell (p := ⟨tb, 1, none⟩) htbs).trans hz1))
                  have HB8 := Lib.hid hW8
                  clear hW8 hel hntb htbs
                  by_cases hq2 : cq = 2
                  · subst hq2
                    have hr0 := (hce rfl).1
                    have hl2 : o.length = 2 := by have := HEL.out; rw [hr0] at this; simp at this; omega
                    clear hce
                    go_wp2
                    go_region_held3 (fun w' => w'.cell? ⟨tb, 0, none⟩ = some (.int .i64 ((a.1 : Int) + (b.1 : Int))) ∧ w'.cell? ⟨tb, 1, none⟩ = some (.slice (some ⟨b3, 0, none⟩) (m1 + m2) c3)) (go_keep) ((refine step_open (by rfl) _ _ (by rfl) gq off 0 0 [] (by rfl) ((HHK0.out trivial).below HB8.out ((HHK0.out trivial).lt)) (by have := HEL.out; first | rfl | omega) ⟨wr.heap.size, 0, none⟩ (a.1 + b.1, .slice (some ⟨b3, 0, none⟩) (m1 + m2) c3) (by rfl) (one_new _ _ _ _) rfl (by omega) ?_; intro g2 off2 cap2 w7 ho7 hg7 hat7; have q1 : w7.cell? ⟨tb, 0, none⟩ = some (.int .i64 ((a.1 : Int) + (b.1 : Int))) := hg7.cell (HW8.out.1) HN.out; have q2 : w7.cell? ⟨tb, 1, none⟩ = some (.slice (some ⟨b3, 0, none⟩) (m1 + m2) c3) := hg7.cell (HW8.out.2) HN.out; have HO7 := Lib.hid ho7; have HG7 := Lib.hid hg7; have HA7 := Lib.hid hat7; clear ho7 hg7 hat7))
                    go_wp2_with fail
                    go_roundg (o.length - 2)
                    case measure => omega
                    case rel => subst hr0; exact rel_next (N := 0) hgd h2 HGO.out.1 HGO.out.2 hrn hs4 hgq (by omega) (HSE.out ▸ HHK.out.1) HHK.out.2.1 (HSE.out ▸ HHK.out.2.2.2.1) HHK.out.2.2.2.2 HBW.out (by omega) HB8.out HO7.out HG7.out HA7.out (by omega)
                  · have hcq : (2 : Int) < (cq : Int) := by omega
                    clear hce
                    go_wp2
                    go_region_held3 (fun w' => w'.cell? ⟨tb, 0, none⟩ = some (.int .i64 ((a.1 : Int) + (b.1 : Int))) ∧ w'.cell? ⟨tb, 1, none⟩ = some (.slice (some ⟨b3, 0, none⟩) (m1 + m2) c3)) (go_keep) ((refine step_open (by rfl) _ _ (by rfl) gq (off + 4) (o.length - 2) (cq - 2) er (by rfl) (HHK.out.2.2.1.below HB8.out (HHK.out.2.2.1.lt)) (by have := HEL.out; first | rfl | omega) ⟨wr.heap.size, 0, none⟩ (a.1 + b.1, .slice (some ⟨b3, 0, none⟩) (m1 + m2) c3) (by rfl) (one_new _ _ _ _) rfl (by omega) ?_; intro g2 off2 cap2 w7 ho7 hg7 hat7; have q1 : w7.cell? ⟨tb, 0, none⟩ = some (.int .i64 ((a.1 : Int) + (b.1 : Int))) := hg7.cell (HW8.out.1) HN.out; have q2 : w7.cell? ⟨tb, 1, none⟩ = some (.slice (some ⟨b3, 0, none⟩) (m1 + m2) c3) := hg7.cell (HW8.out.2) HN.out; have HO7 := Lib.hid ho7; have HG7 := Lib.hid hg7; have HA7 := Lib.hid hat7; clear ho7 hg7 hat7))
                    go_wp2_with fail
                    go_roundg (o.length - 2)
                    case measure => omega
                    case rel => exact rel_next (N := o.length - 2) hgd h2 HGO.out.1 HGO.out.2 hrn hs4 hgq (by omega) (HSE.out ▸ HHK.out.1) HHK.out.2.1 (HSE.out ▸ HHK.out.2.2.2.1) HHK.out.2.2.2.2 HBW.out (by omega) HB8.out HO7.out HG7.out HA7.out (by omega)
          · have h1o : o.length = 1 := by omega
            have hgt : decide ((o.length : Int) > 1) = false := decide_eq_false (by omega)
            have hgt2 : decide ((1 : Int) < (o.length : Int)) = false := decide_eq_false (by omega)
            have hRl : l = R := by
              rw [h1o] at hrn
              unfold cheapRun at hrn
              rwa [if_pos (by omega)] at hrn
            subst hRl
            have hB6 : Below w.heap.size w wr := hB4.trans (hbw.mono (by omega))
            have hco := HC.out _ lb hB6 (C_of_nums hlr hgd.len h12)
            have HLR := Lib.hid hlr
            have HGD2 := Lib.hid hgd.len
            clear hlr hopn hbrs hrn hgd h1o
            go_wp2_with (first | (go_at_call 92; go_must (with_reducible refine hco.mono ?_); rintro _ w8 ⟨rfl, hb8⟩))
            first | go_ret3 | go_ret2 | go_ret
            have ho8 := own_below HLR.out hb8
            refine ⟨_, rfl, ?_, hB6.trans (hb8.mono hB6.size)⟩
            rw [HGD2.out]
            exact owns_base2 ho8 hlbw
end Go.Proofs.Ytpkafcoflgbnaaa.Q
