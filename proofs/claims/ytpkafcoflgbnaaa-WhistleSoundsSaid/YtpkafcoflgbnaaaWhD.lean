/- ends. -/
import Derived.Test.YtpkafcoflgbnaaaWLast
import Derived.Test.YtpkafcoflgbnaaaWMore
import Derived.Test.YtpkafcoflgbnaaaProg
import Derived.Test.YtpkafcoflgbnaaaShelf
import Derived.OwnWalk
import Derived.Handy
import Derived.Deep.DeepMust
import Derived.Lib.Hide
import Derived.Outline
import Derived.IntWalk
import Derived.Deep.RegionWith
import Derived.RangeFuncBox
import Derived.Sort.OwnSorted
import Derived.Lib.OwnBridge
import Derived.Test.YtpkafcoflgbnaaaWhC
namespace Go.Proofs.Ytpkafcoflgbnaaa.Q
open Go.RowKit Go.Proofs.YtpkafcoflgbnaaaW.PrintWords Go.Proofs.YtpkafcoflgbnaaaW.PrintLast Go.Proofs.YtpkafcoflgbnaaaW.PrintMore 
set_option linter.unusedVariables false
set_option linter.unusedSimpArgs false
theorem EndsAt.below {w : World} {o : List ByteArray} {W : World} (h : EndsAt w o W) : Below w.heap.size w W := by obtain ⟨v, h1, h2, h3⟩ := h; exact h3
theorem EndsAt.box {w : World} {o : List ByteArray} {W : World} (h : EndsAt w o W) : ∃ v, W.cell? ⟨w.heap.size, 0, none⟩ = some v ∧ ((v = .slice none 0 0 ∧ o = []) ∨ ∃ g cap, v = .slice (some ⟨g, 0, none⟩) o.length cap ∧ ∀ j, j < o.length → W.cell? ⟨g, j, none⟩ = some (.string (o.getD j ByteArray.empty))) := by
  obtain ⟨v, hb, ho, hB⟩ := h
  refine ⟨v, hb.cell, ?_⟩
  rcases own_str ho with hn | ⟨g, cap, h1, h2, h3, h4⟩
  · exact .inl hn
  · exact .inr ⟨g, cap, h1, fun j hj => by have := h4 j hj; rwa [Nat.zero_add] at this⟩
theorem EndsAt.boxp {w : World} {o : List ByteArray} {W : World} (h : EndsAt w o W) (hp : 0 < o.length) : ∃ g cap, W.cell? ⟨w.heap.size, 0, none⟩ = some (.slice (some ⟨g, 0, none⟩) o.length cap) ∧ ∀ j, j < o.length → W.cell? ⟨g, j, none⟩ = some (.string (o.getD j ByteArray.empty)) := by
  obtain ⟨v, hv, hc⟩ := h.box
  rcases hc with ⟨_, he⟩ | ⟨g, cap, rfl, hcells⟩
  · rw [he] at hp; simp at hp
  · exact ⟨g, cap, hv, hcells⟩
theorem EndsAt.row {w : World} {o : List ByteArray} {W : World} (h : EndsAt w o W) {g cap : Nat} (hv : W.cell? ⟨w.heap.size, 0, none⟩ = some (.slice (some ⟨g, 0, none⟩) o.length cap)) :
    Boxed W w.heap.size 22 (.slice (some ⟨g, 0, none⟩) o.length cap) ∧ W.ownsRow w.heap.size 9 1 (.slice (some ⟨g, 0, none⟩) o.length cap) o.length (o.map Value.string) ∧ Below w.heap.size w W := by
  obtain ⟨v, hb, ho, hB⟩ := h
  have e := hb.cell.symm.trans hv
  cases e
  exact ⟨hb, ho, hB⟩
theorem map_enc (o : List ByteArray) : (o.map (·.data.toList)).map encStr = o.map Value.string := Go.Lib.map_encStr o
theorem EndsAt.holds {w : World} {o : List ByteArray} {W : World} (h : EndsAt w o W) {g cap : Nat} (hv : W.cell? ⟨w.heap.size, 0, none⟩ = some (.slice (some ⟨g, 0, none⟩) o.length cap)) :
    Go.Sort.Holds encStr W g 0 (o.map (·.data.toList)).toArray ∧ g < W.heap.size := by
  obtain ⟨hb, ho, hB⟩ := h.row hv
  rw [← map_enc] at ho
  obtain ⟨g', cap', e, h1, h2, h3, h4, h5, h6⟩ := Go.Lib.holds_of_ownsRow ho (by intro h; cases h)
  cases e
  exact ⟨h6, h2⟩
theorem sortS_enc (o : List ByteArray) : (sortS o).map Value.string = ((o.map (·.data.toList)).mergeSort fun x y => decide (x ≤ y)).map encStr := by
  unfold sortS
  rw [List.map_map]
  apply List.map_congr_left
  intro x _
  simp [encStr]
theorem EndsAt.sorted {w : World} {o : List ByteArray} {W : World} (h : EndsAt w o W) {g cap : Nat} (hv : W.cell? ⟨w.heap.size, 0, none⟩ = some (.slice (some ⟨g, 0, none⟩) o.length cap)) (n : Nat) (os : Array Obj) :
    (Go.Sort.grow (Go.Sort.putRow encStr (Go.Sort.ahead W n) g 0 ((o.map (·.data.toList)).mergeSort fun x y => decide (x ≤ y)).toArray) os).cell? ⟨w.heap.size, 0, none⟩ = some (.slice (some ⟨g, 0, none⟩) o.length cap) ∧
    (Go.Sort.grow (Go.Sort.putRow encStr (Go.Sort.ahead W n) g 0 ((o.map (·.data.toList)).mergeSort fun x y => decide (x ≤ y)).toArray) os).ownsRow w.heap.size 9 1 (.slice (some ⟨g, 0, none⟩) o.length cap) o.length ((sortS o).map Value.string) ∧
    Below w.heap.size w (Go.Sort.grow (Go.Sort.putRow encStr (Go.Sort.ahead W n) g 0 ((o.map (·.data.toList)).mergeSort fun x y => decide (x ≤ y)).toArray) os) := by
  obtain ⟨hb, ho, hB⟩ := h.row hv
  obtain ⟨cur, hcur, hcs, hbg, hncap, hcm⟩ : ∃ cur, W.heap[g]? = some (.cells cur 9 (0, 0)) ∧ cur.size = cap * 1 ∧ w.heap.size ≤ g ∧ o.length ≤ cap ∧ cap ≤ maxLen := by
    rcases ho.2 with ⟨e, _⟩ | ⟨g', cap', cur, e, h1, hg, h2, h3, hs, _⟩
    · cases e
    · cases e; exact ⟨cur, hg, hs, h1, h2, h3⟩
  have hgr := grownBy_sorted (w := W) (g := g) (os := os) (n := n) ((o.map (·.data.toList)).mergeSort fun x y => decide (x ≤ y)).toArray
  have hne : some w.heap.size ≠ some g := by
    intro e; injection e with e
    rw [← e] at hcur
    have := (show W.heap[w.heap.size]? = _ from hb).symm.trans hcur
    injection this with this; injection this with _ h2; cases h2
  refine ⟨(hb.kept hgr hne).cell, ?_, hB.grown hgr hB.size (fun j e => by cases e; exact hbg)⟩
  have hS := ownsRow_sorted (w := W) (base := w.heap.size) (n := n) (os := os) (ts := (o.map (·.data.toList)).mergeSort fun x y => decide (x ≤ y)) (ss := o.map (·.data.toList)) (by simp) hbg hcur (by simpa using hncap) hcm hcs
  rw [List.length_map] at hS
  rw [sortS_enc]
  exact hS
set_option maxHeartbeats 8000000 in
set_option maxRecDepth 100000 in
theorem ends_walk (k : Nat) (A0 : Option Addr) (c0 : Nat) (C r : List ByteArray) (w : World) (hr0 : Kd.C Kd.string w A0 C.length C) (hC : C.length ≤ 100) (hgo : goB C k (outA C C.length) 0 = some r) :
    Calls Try.prog 52 #[.slice A0 C.length c0] w fun e w' => ∃ v0, e = .returned v0 ∧ w'.ownsRow w.heap.size 9 1 v0 r.length ((sortS r).map Value.string) ∧ Below w.heap.size w w' := by
  have hs0 := EndsAt.start w
  have hcode := fun W hB j hj => @code_at w W A0 C hr0 hB j hj
  have HC := Lib.hid hcode
  have Hgo := Lib.hid hgo
  clear hcode hr0 hgo
  go_enter Try.func52, Try.ntmps52
  go_wp2
  go_loopw [15] (fun p wr => ∃ i : Nat, i ≤ C.length ∧ p = .int .i64 (i : Int) ∧ EndsAt w (outA C i) wr) (fun p _ => C.length - (intOf p).toNat)
  case atStart => exact ⟨0, Nat.zero_le _, rfl, hs0⟩
  case round =>
    obtain ⟨i, hi, rfl, hE⟩ := hrel
    by_cases hlt : i < C.length
    · have hdi : decide ((i : Int) < (C.length : Int)) = true := decide_eq_true (by omega)
      have hdi0 : decide (0 ≤ (i : Int)) = true := decide_eq_true (by omega)
      obtain ⟨ad, rfl, hci⟩ := HC.out _ hE.below i hlt
      have hoi := outA_le C i
      have hoi2 : i * C.length ≤ 100 * 100 := Nat.mul_le_mul (by omega) hC
      have hst : outA C (i + 1) = inA C (C.getD i ByteArray.empty) C.length (outA C i) := rfl
      have Hst := Lib.hid hst
      clear hst
      generalize C.getD i ByteArray.empty = x at *
      go_wp2
      obtain ⟨wo, rfl⟩ : ∃ wo : World, wo = wr := ⟨_, rfl⟩
      go_loopw [21] (fun p wr => ∃ j : Nat, j ≤ C.length ∧ p = .int .i64 (j : Int) ∧ EndsAt w (inA C x j (outA C i)) wr) (fun p _ => C.length - (intOf p).toNat)
      case atStart => exact ⟨0, Nat.zero_le _, rfl, hE⟩
      case round =>
        obtain ⟨j, hj, rfl, hEj⟩ := hrel
        by_cases hjt : j < C.length
        · have hdj : decide ((j : Int) < (C.length : Int)) = true := decide_eq_true (by omega)
          have hdj0 : decide (0 ≤ (j : Int)) = true := decide_eq_true (by omega)
          obtain ⟨ad2, e2, hcj⟩ := HC.out _ hEj.below j hjt
          cases e2
          have hoj := inA_le C x j (outA C i)
          have Hsj := Lib.hid (show inA C x (j + 1) (outA C i) = cutO (inA C x j (outA C i)) (C.getD j ByteArray.empty) x from rfl)
          generalize C.getD j ByteArray.empty = y at *
          have hadd := hEj.add (restB y x) (headB y x) (by omega)
          go_wp2_with (first | (go_at_call 79; go_must (with_reducible refine (cut_calls _ _ _).mono ?_); rintro e w' ⟨rfl, rfl⟩) | (go_at_call 97; go_must (with_reducible refine hadd.mono ?_); rintro e w' ⟨rfl, hE2⟩))
          go_roundw
          case rel => exact ⟨j + 1, by omega, by simp, by rw [Hsj.out]; exact hE2⟩
          case measure => simp [intOf]; omega
        · obtain rfl : j = C.length := by omega
          have hdj : decide ((C.length : Int) < (C.length : Int)) = false := decide_eq_false (by omega)
          go_wp2
          go_roundw
          case rel => exact ⟨i + 1, by omega, by simp, by rw [Hst.out]; exact hEj⟩
          case measure => simp [intOf]; omega
    · obtain rfl : i = C.length := by omega
      have hdi : decide ((C.length : Int) < (C.length : Int)) = false := decide_eq_false (by omega)
      go_wp2
      clear hlt hdi hi
      go_loopg [9] k (fun f p wr => ∃ (i : Nat) (o : List ByteArray), p = .int .i64 (i : Int) ∧ i ≤ o.length ∧ EndsAt w o wr ∧ Hid (goB C f o i = some r))
      case atStart => exact ⟨0, outA C C.length, rfl, Nat.zero_le _, hE, Hgo⟩
      case round =>
        clear hE Hgo
        obtain ⟨i, o, rfl, hi, hE, HG⟩ := hrel
        cases gk with
        | zero => exact absurd HG.out (by simp [goB])
        | succ f =>
          have hg := HG.out
          clear HG
          unfold goB at hg
          split at hg
          · rename_i ho
            obtain ⟨v, hv, hvc⟩ := hE.box
            by_cases hlt : i < o.length
            · rw [if_pos hlt] at hg
              rcases hvc with ⟨_, he⟩ | ⟨g, cap, rfl, hcells⟩
              · rw [he] at hlt; simp at hlt
              · have hdi : decide ((i : Int) < (o.length : Int)) = true := decide_eq_true (by omega)
                have hdi0 : decide (0 ≤ (i : Int)) = true := decide_eq_true (by omega)
                have hge := inB_get C (o.getD i ByteArray.empty) i
                have hgl := inB_ge C (o.getD i ByteArray.empty)
                have hgu := inB_le C (o.getD i ByteArray.empty)
                have Hget := Lib.hid hge
                have Hgl := Lib.hid hgl
                have Hgu := Lib.hid hgu
                have Hg := Lib.hid hg
                obtain ⟨e, he⟩ : ∃ e, o.getD i ByteArray.empty = e := ⟨_, rfl⟩
                rw [he] at Hget Hgl Hgu Hg
                clear hge hgl hgu hg
                have He := Lib.hid he
                clear he hcells
                go_wp2
                obtain ⟨wo, rfl⟩ : ∃ wo : World, wo = wr := ⟨_, rfl⟩
                clear hv
                go_loopw [42] (fun p wr => ∃ j : Nat, j ≤ C.length ∧ p = .int .i64 (j : Int) ∧ EndsAt w (inB C e j o) wr) (fun p _ => C.length - (intOf p).toNat)
                case atStart => exact ⟨0, Nat.zero_le _, rfl, hE⟩
                case round =>
                  clear hE
                  obtain ⟨j, hj, rfl, hE⟩ := hrel
                  by_cases hjt : j < C.length
                  · have hdj : decide ((j : Int) < (C.length : Int)) = true := decide_eq_true (by omega)
                    have hdj0 : decide (0 ≤ (j : Int)) = true := decide_eq_true (by omega)
                    obtain ⟨ad2, e2, hcj⟩ := HC.out _ hE.below j hjt
                    subst e2
                    have hg1 := Hget.out j o hlt
                    have hg2 := Hgl.out j o
                    have hg3 := Hgu.out j o
                    rw [He.out] at hg1
                    have Hsj := Lib.hid (show inB C e (j + 1) o = cutO (cutO (inB C e j o) e (C.getD j ByteArray.empty)) (C.getD j ByteArray.empty) e from rfl)
                    generalize C.getD j ByteArray.empty = x at *
                    generalize inB C e j o = P at *
                    have hP1 := addO_ge P (restB e x) (headB e x)
                    have hP2 := addO_le P (restB e x) (headB e x)
                    have hP3 := addO_get P (restB e x) (headB e x) i (by omega)
                    rw [hg1] at hP3
                    obtain ⟨v1, hv1, hvc1⟩ := hE.box
                    rcases hvc1 with ⟨_, he1⟩ | ⟨g1, cap1, rfl, hcells1⟩
                    · have := congrArg List.length he1; simp only [List.length_nil] at this; omega
                    · have hci := hcells1 i (by omega)
                      rw [hg1] at hci
                      have hpi : decide ((i : Int) < (P.length : Int)) = true := decide_eq_true (by omega)
                      have hadd1 := hE.add (restB e x) (headB e x) (by omega)
                      clear hg1
                      have HP3 := Lib.hid hP3
                      clear hP3 hcells1
                      rw [show addO P (restB e x) (headB e x) = cutO P e x from rfl] at hP1 hP2 HP3 hadd1
                      generalize cutO P e x = P2 at *
                      have hpi2 : decide ((i : Int) < (P2.length : Int)) = true := decide_eq_true (by omega)
                      go_wp2_with (first | (go_at_call 79; go_must (with_reducible refine (cut_calls _ _ _).mono ?_); rintro _ w' ⟨rfl, rfl⟩) | (go_at_call 97; (with_reducible refine hadd1.mono ?_); rintro _ w2 ⟨rfl, hE2⟩; obtain ⟨g2, cap2, hv2, hcells2⟩ := hE2.boxp (by omega); have hci2 := hcells2 i (by omega); rw [HP3.out] at hci2; have hadd2 := hE2.add (restB x e) (headB x e) (by omega); clear hcells2) | (go_at_call 97; go_must (with_reducible refine hadd2.mono ?_); rintro _ w3 ⟨rfl, hE3⟩))
                      go_roundw
                      case rel => exact ⟨j + 1, by omega, by simp, by rw [Hsj.out]; exact hE3⟩
                      case measure => simp [intOf]; omega
                  · obtain rfl : j = C.length := by omega
                    have hdj : decide ((C.length : Int) < (C.length : Int)) = false := decide_eq_false (by omega)
                    have hg2 := Hgl.out C.length o
                    go_wp2
                    go_roundg f
                    case measure => omega
                    case rel => exact ⟨i + 1, _, by simp, by omega, hE, Hg⟩
            · obtain rfl : i = o.length := by omega
              have hdi : decide ((o.length : Int) < (o.length : Int)) = false := decide_eq_false (by omega)
              rw [if_neg hlt] at hg
              obtain rfl := Option.some.inj hg
              clear hg
              rcases hvc with ⟨rfl, rfl⟩ | ⟨g, cap, rfl, hcells⟩
              · go_wp2_with (first | (go_at_call 98; go_must (with_reducible refine (Try.slices_Sort_string_none none 0 _).mono ?_); rintro _ w' ⟨rfl, rfl⟩))
                first | go_end0 | go_returns | go_ret
                exact ⟨.slice none 0 0, rfl, by rw [show sortS [] = [] by unfold sortS; simp]; exact World.ownsRow_nil _ _ _ _, hE.below⟩
              · obtain ⟨HS, hgl⟩ := hE.holds hv
                have hsort := Try.slices_Sort_string g 0 cap (o.map (·.data.toList)) wr HS hgl (by rw [List.length_map]; omega)
                rw [List.length_map] at hsort
                have hend := fun n os => hE.sorted hv n os
                have Hend := Lib.hid hend
                clear hend hcells
                have hend2 := fun n os => (Hend.out n os).1
                go_wp2_with (first | (go_at_call 98; go_must (with_reducible refine hsort.mono ?_); rintro _ w' ⟨rfl, n, os, rfl⟩; have hbox2 := hend2 n os))
                first | go_end0 | go_returns | go_ret
                exact ⟨_, rfl, (Hend.out n os).2.1, (Hend.out n os).2.2⟩
          · cases hg
end Go.Proofs.Ytpkafcoflgbnaaa.Q
