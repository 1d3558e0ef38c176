/- The reference's Best walked. For all roses that are valid, widths 1 to 32. -/
import Derived.Test.YthihlapmkcelpaaDoorProg
import Derived.Below
import Derived.Deep.Draws
import Derived.Deep.AppendLies
import Derived.Maps.AppendAt
import Derived.OwnWalk
import Derived.Laws.BytesArg
import Derived.Laws.MakeOwn
import Derived.Laws.OwnMore
import Derived.Deep.OwnRows
import Derived.Tactics
import Derived.Lib.ConvBytes
import Derived.Laws.Slices
import Derived.WalkKit
import Derived.KernelRfl
import Derived.RowKit3
import Derived.Deep.LoopGhost
import Derived.Deep.QuietTactic
import Derived.BigQuiet
import Derived.WideLaws
import Derived.Deep.DeepCutAuto
import Derived.Deep.CutBlock
import Derived.Deep.RegionHeld3
import Derived.Laws.Rows
import Derived.Lib.AppendStr
import Derived.ArgAppend
import Derived.Laws.IdiomCopy
import Derived.OrdersHeld
import Derived.Laws.BitsLemmas
import Derived.RowKit
import Derived.Deep.DeepMust
import Derived.Deep.RegionWith
import Derived.IntWalk
import Derived.Laws.Bits64
import Derived.Laws.BitsAllLaws
import Derived.Laws.CopyOwn
import Derived.Laws.EntriesVeiled
import Derived.Laws.Tables
import Derived.Lib.Hide
import Derived.Lib.LaidTab
import Derived.Outline
import Derived.StillTailTactics
import Derived.Test.YthihlapmkcelpaaDoorShelf
import Derived.Test.YthihlapmkcelpaaDoorWWords
import Derived.Test.YthihlapmkcelpaaDoorWLast
import Derived.Test.YthihlapmkcelpaaDoorWTab
import Derived.Test.YthihlapmkcelpaaDoorWFour
import Derived.Test.YthihlapmkcelpaaDoorWQPut
import Derived.Test.YthihlapmkcelpaaDoorWApart
import Derived.Test.YthihlapmkcelpaaDoorWArr
import Derived.Test.YthihlapmkcelpaaDoorWZeros
import Derived.Test.YthihlapmkcelpaaDoorWFoot
import Derived.Test.YthihlapmkcelpaaDoorWKept
import Derived.Test.YthihlapmkcelpaaDoorWShare
import Derived.Test.YthihlapmkcelpaaDoorWN
import Derived.Test.YthihlapmkcelpaaDoorWFootNe
import Derived.Test.YthihlapmkcelpaaDoorWAt
import Derived.Test.YthihlapmkcelpaaDoorWEqStruct
import Derived.Test.YthihlapmkcelpaaDoorWRepsOne
import Derived.Test.YthihlapmkcelpaaDoorWInv
import Derived.Test.YthihlapmkcelpaaDoorWInvWords
import Derived.Test.YthihlapmkcelpaaDoorWGuard
import Derived.Test.YthihlapmkcelpaaDoorWNEv
import Derived.Test.YthihlapmkcelpaaDoorWMore
import Derived.Outline
import Derived.Lib.Hide
import Derived.Deep.DeepMust
import Derived.Deep.RegionWith
import Derived.IntWalk
import Derived.Laws.Tables
import Derived.Laws.BitsAllLaws
import Derived.Laws.CopyOwn
import Derived.StillTailTactics
import Derived.Laws.EntriesVeiled
import Derived.Test.YthihlapmkcelpaaDoorShelf
import Derived.Test.YthihlapmkcelpaaDoorQx2
import Derived.Test.YthihlapmkcelpaaDoorRoseB
import Derived.Deep.RegionHeld3
namespace Go.Proofs.YthihlapmkcelpaaDoor.Q
open Go.RowKit Go.Proofs.YthihlapmkcelpaaDoorW.PrintWords Go.Proofs.YthihlapmkcelpaaDoorW.PrintLast Go.Proofs.YthihlapmkcelpaaDoorW.PrintMore
set_option linter.unusedVariables false
set_option linter.unusedSimpArgs false

structure RB (w : World) (l : List Int) (g : Nat) (a b : Int) (k : Nat) (c d : Int) (w' : World) : Prop where
  at_ : BestAt w l g a b w'
  row : w'.heap[k]? = some (.cells #[.int .i64 c, .int .i64 d] 33 (0, 0))
theorem RB.below {w w' w'' : World} {l : List Int} {g k : Nat} {a b c d : Int} (H : RB w l g a b k c d w') (hb : Below w'.heap.size w' w'') : RB w l g a b k c d w'' := ⟨H.at_.below hb, row_below H.row hb⟩
theorem range_of {w : World} {g t : Nat} {L : List Value} (h : w.heap[g]? = some (.cells L.toArray t (0, 0))) : w.rangeAt g 0 L := fun j v hv => by
  rw [cell_of_row w g (0 + j) _ _ _ h, Nat.zero_add, List.getElem?_toArray]
  exact hv
theorem arc_from {w : World} {g t : Nat} {a b : Value} (h : w.heap[g]? = some (.cells #[a, b] t (0, 0))) : w.cell? ⟨g, 0, none⟩ = some a := by rw [cell_of_row w g 0 _ _ _ h]; rfl
theorem arc_width {w : World} {g t : Nat} {a b : Value} (h : w.heap[g]? = some (.cells #[a, b] t (0, 0))) : w.cell? ⟨g, 1, none⟩ = some b := by rw [cell_of_row w g 1 _ _ _ h]; rfl
theorem RB.all {w wr w' : World} {l : List Int} {g k : Nat} {a b c d : Int} {L : List Value} (H : RB w l g a b k c d wr) (hL : encL l = L.toArray) (hb : Below wr.heap.size wr w') :
    Below wr.heap.size wr w' ∧ w'.rangeAt w.heap.size 0 L ∧ w'.cell? ⟨g, 0, none⟩ = some (.int .i64 a) ∧ w'.cell? ⟨g, 1, none⟩ = some (.int .i64 b) ∧ w'.cell? ⟨k, 0, none⟩ = some (.int .i64 c) ∧ w'.cell? ⟨k, 1, none⟩ = some (.int .i64 d) := by
  have h := H.below hb
  have hr := h.at_.rose
  rw [hL] at hr
  exact ⟨hb, range_of hr, arc_from h.at_.best, arc_width h.at_.best, arc_from h.row, arc_width h.row⟩
theorem RB.next {w wr wc w' : World} {l : List Int} {g k : Nat} {a b c d : Int} {L : List Value} (H : RB w l g a b k c d wr) (hL : encL l = L.toArray) (h2 : Below wc.heap.size wc w') (h1 : Below wr.heap.size wr wc) :
    Below wr.heap.size wr w' ∧ w'.rangeAt w.heap.size 0 L ∧ w'.cell? ⟨g, 0, none⟩ = some (.int .i64 a) ∧ w'.cell? ⟨g, 1, none⟩ = some (.int .i64 b) ∧ w'.cell? ⟨k, 0, none⟩ = some (.int .i64 c) ∧ w'.cell? ⟨k, 1, none⟩ = some (.int .i64 d) :=
  H.all hL (h1.trans (h2.mono (below_size h1)))
theorem sees {w' : World} {k g : Nat} {a b : Value} {L : List Value} (h1 : w'.heap[k]? = some (.cells L.toArray 45 (0, 0))) (h2 : w'.heap[g]? = some (.cells #[a, b] 33 (0, 0))) :
    w'.rangeAt k 0 L ∧ w'.cell? ⟨g, 0, none⟩ = some a ∧ w'.cell? ⟨g, 1, none⟩ = some b := ⟨range_of h1, arc_from h2, arc_width h2⟩
set_option maxHeartbeats 4000000 in
set_option maxRecDepth 100000 in
theorem refBest.walk_ok (l : List Int) (hl : l.length = 32) (h1 : roseOk l = true) (n : Nat) (hn1 : 1 ≤ n) (hn2 : n ≤ 32) (w : World) : Calls Tryd.prog 45 #[.agg (encL l), .int .i64 (n : Int)] w fun e w' => e = .returned (.tuple #[.agg #[.int .i64 (rb l n 32 : Int), .int .i64 (n : Int)], .int .i64 (sumTo l (rb l n 32) n), .int .i64 0]) ∧ Below w.heap.size w w' := by
  have HR := Lib.hid (fun w => refRose.walk l hl w)
  rw [if_pos h1] at HR
  have HS := Lib.hid (fun (p : Nat) (hp : p < 32) w => show Calls Tryd.prog 90 #[.agg (encL l), .agg #[.int .i64 (p : Int), .int .i64 (n : Int)]] w fun e w' => e = .returned (.int .i64 (sumTo l p n)) ∧ Below w.heap.size w w' from rsum_eq l hp hn2 ▸ refsum.walk l hl h1 p (n : Int) hp w)
  have HI := Lib.hid (fun a b => infoArc a b)
  have hi45 : (Tryd.prog.info? 45).map (·.size) = some (encL l).size := by rw [encL_size, hl]; exact info45
  obtain ⟨L, hL⟩ : ∃ L : List Value, encL l = L.toArray := ⟨(encL l).toList, by simp⟩
  rw [hL] at HR HS hi45 ⊢
  have HL := Lib.hid hL
  have HI45 := Lib.hid hi45
  have H00 := Lib.hid (RoseAt.new w l #[.int .i64 0, .int .i64 0] 45)
  rw [hL] at H00
  have hd1 : decide ((n : Int) < 1) = false := decide_eq_false (by omega)
  have hd2 : decide ((n : Int) > 32) = false := decide_eq_false (by omega)
  clear h1 hl hL hi45
  go_enter Tryd.func45, Tryd.ntmps45
  go_wp2_with (first | (refine wpList_load_row (o := ⟨some 11, _, _, _, _, _⟩) rfl 45 (.tmp 2) rfl w.heap.size rfl 45 L.toArray (0, 0) _ (HL.out ▸ H00.out.rose) Tryd.underlying45 rfl HI45.out ?_) | (go_at_call 89; go_must (with_reducible refine (HR.out _).mono ?_); rintro _ w2 ⟨rfl, hb2⟩; have HM2 := Lib.hid (H00.out.below hb2); have HB2 := Lib.hid (BestAt.new HM2.out 0 (n : Int)); clear hb2))
  generalize w2.heap.size = g at *
  generalize w2.alloc (.cells #[.int .i64 0, .int .i64 (n : Int)] 33) = W0 at *
  go_loopw [9] (fun v w' => ∃ p : Nat, 1 ≤ p ∧ p ≤ 32 ∧ v = .int .i64 (p : Int) ∧ BestAt w l g (rb l n p : Int) (n : Int) w') (fun v _ => 32 - (intOf v).toNat)
  case atStart => exact ⟨1, by omega, by omega, rfl, by rw [rb_one]; exact HB2.out⟩
  case round =>
    obtain ⟨p, hp1, hp, rfl, hM⟩ := hrel
    have HM := Lib.hid hM
    clear hM HB2 HM2 HR
    by_cases hlt : p < 32
    · have HSp := Lib.hid (HS.out p hlt)
      have hq : rb l n p < 32 := rb_lt l n p hp
      have HSq := Lib.hid (HS.out (rb l n p) hq)
      have HRB : Hid (RB w l g (rb l n p : Int) (n : Int) wr.heap.size (p : Int) (n : Int) (wr.alloc (.cells #[.int .i64 (p : Int), .int .i64 (n : Int)] 33))) := Lib.hid ⟨HM.out.alloc _, heap_alloc_new _ _⟩
      have HN := Lib.hid (show rb l n (p + 1) = if sumTo l (rb l n p) n < sumTo l p n then p else rb l n p from rfl)
      clear HS
      generalize sumTo l p n = s at *
      generalize rb l n p = q at *
      generalize sumTo l q n = m at *
      go_wp2
      generalize wr.heap.size = k at *
      generalize wr.alloc (.cells #[.int .i64 (p : Int), .int .i64 (n : Int)] 33) = wq at *
      have hu45 := Tryd.underlying45
      have hi45 : (Tryd.prog.info? 45).map (·.size) = some L.length := by rw [HI45.out, List.size_toArray]
      refine wp_region_held_drew (S := (fun w' => Below wq.heap.size wq w' ∧ w'.rangeAt w.heap.size 0 L ∧ w'.cell? ⟨g, 0, none⟩ = some (.int .i64 (q : Int)) ∧ w'.cell? ⟨g, 1, none⟩ = some (.int .i64 (n : Int)) ∧ w'.cell? ⟨k, 0, none⟩ = some (.int .i64 (p : Int)) ∧ w'.cell? ⟨k, 1, none⟩ = some (.int .i64 (n : Int)))) (by kernel_rfl) (RB.all HRB.out HL.out (below_drew1 (Below.refl _ _))) (fun hH0 => ?_)
      refine wpAnyH_take (i := 0) (oi := ⟨some 33, .load 45 (.tmp 2), 45, _, _, _⟩) (v := .agg L.toArray) rfl (by kernel_rfl) (by kernel_rfl) (by kernel_rfl) (fun _ _ _ h => h) (yieldsIf_load_mid (by rfl) 45 (.tmp 2) rfl w.heap.size 0 rfl L _ (fun _ h => h.2.1) hu45 rfl hi45) hH0 ?_
      (try simp only [Act.put, List.setIfInBounds_toArray, List.set_cons_zero, List.set_cons_succ])
      refine wpAnyH_take (i := 1) (oi := ⟨some 34, .load 33 (.tmp 10), 33, _, _, _⟩) (v := .agg #[.int .i64 (p : Int), .int .i64 (n : Int)]) rfl (by kernel_rfl) (by kernel_rfl) (by kernel_rfl) (fun _ _ _ h => h) (Or.inl ⟨by rfl, fun w1 h => (by obtain ⟨_, _, h1, h2, h3, h4⟩ := h; go_simp)⟩) hH0 ?_
      (try simp only [Act.put, List.setIfInBounds_toArray, List.set_cons_zero, List.set_cons_succ])
      refine wpAnyH_take (i := 3) (oi := ⟨some 36, .load 45 (.tmp 2), 45, _, _, _⟩) (v := .agg L.toArray) rfl (by kernel_rfl) (by kernel_rfl) (by kernel_rfl) (fun _ _ _ h => h) (yieldsIf_load_mid (by rfl) 45 (.tmp 2) rfl w.heap.size 0 rfl L _ (fun _ h => h.2.1) hu45 rfl hi45) hH0 ?_
      (try simp only [Act.put, List.setIfInBounds_toArray, List.set_cons_zero, List.set_cons_succ])
      refine wpAnyH_take (i := 4) (oi := ⟨some 37, .load 33 (.tmp 8), 33, _, _, _⟩) (v := .agg #[.int .i64 (q : Int), .int .i64 (n : Int)]) rfl (by kernel_rfl) (by kernel_rfl) (by kernel_rfl) (fun _ _ _ h => h) (Or.inl ⟨by rfl, fun w1 h => (by obtain ⟨_, _, h1, h2, h3, h4⟩ := h; go_simp)⟩) hH0 ?_
      (try simp only [Act.put, List.setIfInBounds_toArray, List.set_cons_zero, List.set_cons_succ])
      refine wpAnyH_ready (rs := [2]) (by kernel_rfl) (by simp) ?_
      refine AllReadyH.cons rfl (fun K hK => ?_) AllReadyH.nil
      go_simp
      (with_reducible refine (HSp.out _).mono ?_)
      rintro _ w3 ⟨rfl, hb3⟩
      go_wp2_with fail
      refine hK.out _ _ (RB.next HRB.out HL.out hb3 hH0.1) (fun hH3 => ?_)
      clear hK K
      (try simp only [Act.put, List.setIfInBounds_toArray, List.set_cons_zero, List.set_cons_succ])
      refine wpAnyH_ready (rs := [5]) (by kernel_rfl) (by simp) ?_
      refine AllReadyH.cons rfl (fun K hK => ?_) AllReadyH.nil
      go_simp
      (with_reducible refine (HSq.out _).mono ?_)
      rintro _ w4 ⟨rfl, hb4⟩
      go_wp2_with fail
      refine hK.out _ _ (RB.next HRB.out HL.out hb4 hH3.1) (fun hH4 => ?_)
      clear hK K
      (try simp only [Act.put, List.setIfInBounds_toArray, List.set_cons_zero, List.set_cons_succ])
      refine wpAnyH_take (i := 6) (oi := ⟨some 39, .binOp .gtr 3 (.tmp 35) (.tmp 38) 3, 4, _, _, _⟩) (v := .bool (decide (s > m))) rfl (by kernel_rfl) (by kernel_rfl) (by kernel_rfl) (fun _ _ _ h => h) (Or.inl ⟨by rfl, fun w1 h => (by go_simp)⟩) hH4 ?_
      (try simp only [Act.put, List.setIfInBounds_toArray, List.set_cons_zero, List.set_cons_succ])
      refine wpAnyH_done (by kernel_rfl) ?_ _
      have HM4 := Lib.hid (HRB.out.below hH4.1)
      clear hH0 hH3 hb3 hb4
      by_cases hm : m < s
      · rw [decide_eq_true (show s > m from hm)]
        have HN2 := Lib.hid (show rb l n (p + 1) = p by rw [HN.out, if_pos hm])
        clear hm hH4
        go_wp2_with (first | (refine wpList_load_row (o := ⟨some 40, _, _, _, _, _⟩) rfl 33 (.tmp 10) rfl k rfl 33 #[.int .i64 (p : Int), .int .i64 (n : Int)] (0, 0) _ HM4.out.row Tryd.underlying33 rfl (HI.out _ _) ?_) | (refine wpList_store_row rfl 33 (.tmp 8) (.tmp 40) rfl g #[.int .i64 (p : Int), .int .i64 (n : Int)] rfl rfl 33 #[.int .i64 (q : Int), .int .i64 (n : Int)] HM4.out.at_.best (HI.out _ _) rfl (arc_one _ _) ?_))
        exact ⟨⟨p + 1, by omega, by omega, by go_num, by rw [HN2.out]; exact HM4.out.at_.set _ _⟩, by simp [intOf]; omega⟩
      · rw [decide_eq_false (show ¬ s > m from hm)]
        have HN2 := Lib.hid (show rb l n (p + 1) = q by rw [HN.out, if_neg hm])
        clear hm hH4
        go_wp2
        exact ⟨⟨p + 1, by omega, by omega, by go_num, by rw [HN2.out]; exact HM4.out.at_⟩, by simp [intOf]; omega⟩
    · obtain rfl : p = 32 := by omega
      have hq : rb l n 32 < 32 := rb_lt l n 32 (by omega)
      have HSq := Lib.hid (HS.out (rb l n 32) hq)
      clear HS
      have HMd := Lib.hid (HM.out.below (below_drew1 (Below.refl wr.heap.size wr)))
      go_wp2
      have hu45 := Tryd.underlying45
      have hi45 : (Tryd.prog.info? 45).map (·.size) = some L.length := by rw [HI45.out, List.size_toArray]
      refine wp_region_held_drew (S := (fun w' => w'.rangeAt w.heap.size 0 L ∧ w'.cell? ⟨g, 0, none⟩ = some (.int .i64 (rb l n 32 : Int)) ∧ w'.cell? ⟨g, 1, none⟩ = some (.int .i64 (n : Int)))) (by kernel_rfl) (sees (HL.out ▸ HMd.out.rose) HMd.out.best) (fun hH0 => ?_)
      refine wpAnyH_take (i := 0) (oi := ⟨some 41, .load 33 (.tmp 8), 33, _, _, _⟩) (v := .agg #[.int .i64 (rb l n 32 : Int), .int .i64 (n : Int)]) rfl (by kernel_rfl) (by kernel_rfl) (by kernel_rfl) (fun _ _ _ h => h) (Or.inl ⟨by rfl, fun w1 h => (by obtain ⟨_, h1, h2⟩ := h; go_simp)⟩) hH0 ?_
      (try simp only [Act.put, List.setIfInBounds_toArray, List.set_cons_zero, List.set_cons_succ])
      refine wpAnyH_take (i := 1) (oi := ⟨some 42, .load 45 (.tmp 2), 45, _, _, _⟩) (v := .agg L.toArray) rfl (by kernel_rfl) (by kernel_rfl) (by kernel_rfl) (fun _ _ _ h => h) (yieldsIf_load_mid (by rfl) 45 (.tmp 2) rfl w.heap.size 0 rfl L _ (fun _ h => h.1) hu45 rfl hi45) hH0 ?_
      (try simp only [Act.put, List.setIfInBounds_toArray, List.set_cons_zero, List.set_cons_succ])
      refine wpAnyH_take (i := 2) (oi := ⟨some 43, .load 33 (.tmp 8), 33, _, _, _⟩) (v := .agg #[.int .i64 (rb l n 32 : Int), .int .i64 (n : Int)]) rfl (by kernel_rfl) (by kernel_rfl) (by kernel_rfl) (fun _ _ _ h => h) (Or.inl ⟨by rfl, fun w1 h => (by obtain ⟨_, h1, h2⟩ := h; go_simp)⟩) hH0 ?_
      (try simp only [Act.put, List.setIfInBounds_toArray, List.set_cons_zero, List.set_cons_succ])
      refine wpAnyH_ready (rs := [3]) (by kernel_rfl) (by simp) ?_
      refine AllReadyH.cons rfl (fun K hK => ?_) AllReadyH.nil
      go_simp
      (with_reducible refine (HSq.out _).mono ?_)
      rintro _ w3 ⟨rfl, hb3⟩
      go_wp2_with fail
      have HM3 := Lib.hid (HMd.out.below hb3)
      refine hK.out _ _ (sees (HL.out ▸ HM3.out.rose) HM3.out.best) (fun hH3 => ?_)
      clear hK K
      (try simp only [Act.put, List.setIfInBounds_toArray, List.set_cons_zero, List.set_cons_succ])
      refine wpAnyH_ready (rs := [4]) (by kernel_rfl) (by simp) ?_
      refine AllReadyH.cons (o := ⟨none, .store 33 (.tmp 4) (.tmp 41), 0, _, _, _⟩) rfl (fun K hK => ?_) AllReadyH.nil
      rw [if_pos (by rfl)]
      refine wp_store_row 33 (.tmp 4) (.tmp 41) rfl (w.heap.size + 1) #[.int .i64 (rb l n 32 : Int), .int .i64 (n : Int)] rfl rfl 33 #[.int .i64 0, .int .i64 0] HM3.out.res (HI.out _ _) rfl (arc_one _ _) ?_
      have hfar := HM3.out.far
      refine hK.out _ _ (sees (by rw [setRow_other _ _ _ _ (by omega)]; exact HL.out ▸ HM3.out.rose) (by rw [setRow_other _ _ _ _ (by omega)]; exact HM3.out.best)) (fun hH4 => ?_)
      clear hK K
      (try simp only [Act.put, List.setIfInBounds_toArray, List.set_cons_zero, List.set_cons_succ])
      refine wpAnyH_ready (rs := [5]) (by kernel_rfl) (by simp) ?_
      refine AllReadyH.cons rfl (fun K hK => ?_) AllReadyH.nil
      go_simp
      refine hK.out _ _ hH4 (fun hH5 => ?_)
      clear hK K
      (try simp only [Act.put, List.setIfInBounds_toArray, List.set_cons_zero, List.set_cons_succ])
      refine wpAnyH_ready (rs := [6]) (by kernel_rfl) (by simp) ?_
      refine AllReadyH.cons rfl (fun K hK => ?_) AllReadyH.nil
      go_simp
      refine hK.out _ _ hH5 (fun hH6 => ?_)
      clear hK K
      (try simp only [Act.put, List.setIfInBounds_toArray, List.set_cons_zero, List.set_cons_succ])
      refine wpAnyH_done (by kernel_rfl) ?_ _
      clear hH0 hH3 hH4 hH5 hH6 hb3
      go_wp2
      (try simp only [Exit.inBlock, Exit.then])
      refine bodyPost_ret (results_ctt rfl _ _ (w.heap.size + 1) 33 #[.int .i64 (rb l n 32 : Int), .int .i64 (n : Int)] (0, 0) _ rfl (setRow_heap _ _ _ _ _ _ HM3.out.res) Tryd.underlying33 rfl (HI.out _ _)) rfl ⟨by first | rfl | (simp; done), below_setRow HM3.out.bel (by omega) _⟩

end Go.Proofs.YthihlapmkcelpaaDoor.Q
