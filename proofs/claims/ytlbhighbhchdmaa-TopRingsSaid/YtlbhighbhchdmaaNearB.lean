/- Near of a ring: what is tried and what is found. For all texts of the form of a ring. -/
import Derived.Test.YtlbhighbhchdmaaQx9
import Derived.Test.YtlbhighbhchdmaaQx22
import Derived.Test.YtlbhighbhchdmaaShelf
import Derived.OwnWalk
import Derived.Handy
import Derived.Laws.RangeAny
import Derived.Laws.Runes
import Derived.Lib.OthersKept
import Derived.Lib.OwnBridge
import Derived.Sort.OwnSorted
import Derived.Lib.SlicesCompact
import Derived.Deep.DeepMust
import Derived.Test.YtlbhighbhchdmaaNearA
namespace Go.Proofs.Ytlbhighbhchdmaa.Q
open Go.RowKit Go.Proofs.YtlbhighbhchdmaaW.PrintWords Go.Proofs.YtlbhighbhchdmaaW.PrintLast Go.Proofs.YtlbhighbhchdmaaW.PrintMore
set_option linter.unusedVariables false
set_option linter.unusedSimpArgs false
def keepB (e : ByteArray → Int) (s : ByteArray) (L : List ByteArray) (b : ByteArray) : List ByteArray := if b ≠ s ∧ e b = 0 then L ++ [b] else L
theorem keepB_len (e : ByteArray → Int) (s : ByteArray) (L : List ByteArray) (b : ByteArray) : (keepB e s L b).length ≤ L.length + 1 := by
  unfold keepB
  split
  · rw [List.length_append]; exact Nat.le_refl _
  · omega
def by8 (s : ByteArray) (i : Nat) : UInt8 := s.data.getD i 0
def swapB (s : ByteArray) (i : Nat) : ByteArray := putB (putB s i (by8 s (i + 1))) (i + 1) (by8 s i)
/-- What is found with c digits tried at a place. -/
def digL (e : ByteArray → Int) (s : ByteArray) (i : Nat) (L : List ByteArray) : Nat → List ByteArray
  | 0 => L
  | c + 1 => keepB e s (digL e s i L c) (putB s i (dig8 c))
/-- What is found with the first places done. -/
def placeL (e : ByteArray → Int) (s : ByteArray) (n : Nat) : Nat → List ByteArray
  | 0 => []
  | j + 1 => if j + 1 < 6 then keepB e s (digL e s (n + j) (placeL e s n j) 10) (swapB s (n + j)) else digL e s (n + j) (placeL e s n j) 10
theorem digL_len (e : ByteArray → Int) (s : ByteArray) (i : Nat) (L : List ByteArray) (c : Nat) : (digL e s i L c).length ≤ L.length + c := by
  induction c with
  | zero => exact Nat.le_refl _
  | succ c ih =>
    have := keepB_len e s (digL e s i L c) (putB s i (dig8 c))
    show (keepB e s (digL e s i L c) (putB s i (dig8 c))).length ≤ _
    omega
theorem placeL_len (e : ByteArray → Int) (s : ByteArray) (n j : Nat) : (placeL e s n j).length ≤ 11 * j := by
  induction j with
  | zero => exact Nat.le_refl _
  | succ j ih =>
    have h1 := digL_len e s (n + j) (placeL e s n j) 10
    unfold placeL
    split
    · have := keepB_len e s (digL e s (n + j) (placeL e s n j) 10) (swapB s (n + j))
      omega
    · omega
theorem bt_by8 (s : ByteArray) {i : Nat} (h : i < s.size) : bt s (i : Int) = (((by8 s i).toNat : Nat) : Int) := by
  rw [bt_of h]
  congr 2
  unfold by8
  have h2 : i < s.data.size := h
  rw [Array.getD_eq_getD_getElem?, Array.getElem?_eq_getElem h2]
  rfl
theorem NearAt.setB {w wr : World} {gs go gb : Nat} {s b : ByteArray} {L : List ByteArray} (H : NearAt w gs go s L wr) (hR : BRow wr gb b) (hgb : go < gb) (i : Nat) (x : Value) : NearAt w gs go s L (wr.setCell ⟨gb, i, none⟩ x) := by
  obtain ⟨v, h1, h2⟩ := H.out
  have hlt := H.lt
  have hlow := H.low
  have hne := owns_ne h2 hR
  refine ⟨by rw [heap_setCell_other wr _ _ _ (show gs ≠ gb by omega)]; exact H.txt, ⟨v, by rw [heap_setCell_other wr _ _ _ (show go ≠ gb by omega)]; exact h1, h2.1, ?_⟩, H.lt, H.low, H.bel.setCell (by show w.heap.size ≤ gb; omega) _⟩
  rcases h2.2 with g1 | ⟨g, cap, cur, g1, g2, g3, g4⟩
  · exact .inl g1
  · refine .inr ⟨g, cap, cur, g1, g2, ?_, g4⟩
    have hg : g ≠ gb := fun e => hne (by rw [g1, e]; rfl)
    rw [heap_setCell_other wr _ _ _ hg]
    exact g3
def rowB (s : ByteArray) (i : Nat) : Nat → ByteArray
  | 0 => s
  | c + 1 => putB s i (dig8 c)
theorem rowB_size (s : ByteArray) (i c : Nat) : (rowB s i c).size = s.size := by
  cases c with
  | zero => rfl
  | succ c => exact putB_size s i _
theorem rowB_put (s : ByteArray) (i c : Nat) : putB (rowB s i c) i (dig8 c) = rowB s i (c + 1) := by
  cases c with
  | zero => rfl
  | succ c => exact putB_putB s i _ _
/-- What Near hands back: the found texts sorted, each once. -/
def nearR (L : List ByteArray) : List ByteArray := (Go.Lib.compact ((L.map (·.data.toList)).mergeSort fun x y => decide (x ≤ y))).map fun x => ⟨x.toArray⟩
theorem nearR_encs (L : List ByteArray) : encs Value.string (nearR L) = (Go.Lib.compact ((L.map (·.data.toList)).mergeSort fun x y => decide (x ≤ y))).map encStr := by
  unfold encs nearR
  rw [List.map_map]
  rfl
theorem nearR_nil : nearR [] = [] := by unfold nearR; rw [List.map_nil, List.mergeSort_nil]; rfl
theorem near_left {w w1 : World} {g cap n nn q : Nat} {os : Array Obj} {ss : List (List UInt8)} (hown : w1.ownsRow w.heap.size 9 1 (.slice (some ⟨g, 0, none⟩) n cap) n (ss.map encStr)) (hbel : Below w.heap.size w w1) (hbg : w.heap.size ≤ g) (hlen : ss.length = n) :
    (Go.Sort.putRow encStr (Go.Sort.ahead (Go.Sort.grow (Go.Sort.putRow encStr (Go.Sort.ahead w1 nn) g 0 (ss.mergeSort fun x y => decide (x ≤ y)).toArray) os) q) g 0 (Go.Lib.compact (ss.mergeSort fun x y => decide (x ≤ y)) ++ List.replicate (n - (Go.Lib.compact (ss.mergeSort fun x y => decide (x ≤ y))).length) []).toArray).ownsRow w.heap.size 9 1 (.slice (some ⟨g, 0, none⟩) (Go.Lib.compact (ss.mergeSort fun x y => decide (x ≤ y))).length cap) (Go.Lib.compact (ss.mergeSort fun x y => decide (x ≤ y))).length ((Go.Lib.compact (ss.mergeSort fun x y => decide (x ≤ y))).map encStr) ∧
    Below w.heap.size w (Go.Sort.putRow encStr (Go.Sort.ahead (Go.Sort.grow (Go.Sort.putRow encStr (Go.Sort.ahead w1 nn) g 0 (ss.mergeSort fun x y => decide (x ≤ y)).toArray) os) q) g 0 (Go.Lib.compact (ss.mergeSort fun x y => decide (x ≤ y)) ++ List.replicate (n - (Go.Lib.compact (ss.mergeSort fun x y => decide (x ≤ y))).length) []).toArray) := by
  have hl2 : (ss.mergeSort fun x y => decide (x ≤ y)).length = ss.length := List.length_mergeSort ss
  have hle := Go.Lib.compact_length_le (ss.mergeSort fun x y => decide (x ≤ y))
  subst hlen
  rcases hown.2 with ⟨h0, _⟩ | ⟨g', cap', cur, hv, hbase, hb, h1, h2, h3, h4⟩
  · cases h0
  cases hv
  have hs := ownsRow_sorted (n := nn) (os := os) (ts := ss.mergeSort fun x y => decide (x ≤ y)) hl2 hbase hb h1 h2 h3
  have hc := Go.Lib.ownsRow_putRow (q := q) (k := (Go.Lib.compact (ss.mergeSort fun x y => decide (x ≤ y))).length) (ys := Go.Lib.compact (ss.mergeSort fun x y => decide (x ≤ y)) ++ List.replicate (ss.length - (Go.Lib.compact (ss.mergeSort fun x y => decide (x ≤ y))).length) []) hs (by simp; omega) (by omega)
  rw [List.take_left] at hc
  exact ⟨hc, Go.Lib.below_putRow (hbel.grown (grownBy_sorted _) hbel.size (fun j hj => by cases hj; exact hbase)) hbg⟩
/-- Near's candidates, in the program's order. -/
def candN (s : ByteArray) (n : Nat) : List ByteArray := (List.range 6).flatMap fun i => ((List.range 10).map fun c => putB s (n + i) (dig8 c)) ++ (if i + 1 < 6 then [swapB s (n + i)] else [])
theorem cand_put {s : ByteArray} {n i c : Nat} (hi : i < 6) (hc : c < 10) : putB s (n + i) (dig8 c) ∈ candN s n :=
  List.mem_flatMap.2 ⟨i, List.mem_range.2 hi, List.mem_append.2 (.inl (List.mem_map.2 ⟨c, List.mem_range.2 hc, rfl⟩))⟩
theorem cand_swap {s : ByteArray} {n i : Nat} (hi : i + 1 < 6) : swapB s (n + i) ∈ candN s n :=
  List.mem_flatMap.2 ⟨i, List.mem_range.2 (by omega), List.mem_append.2 (.inr (by rw [if_pos hi]; exact List.mem_cons_self ..))⟩
set_option maxHeartbeats 3200000 in
set_option maxRecDepth 100000 in
theorem Near.good (s : ByteArray) (n : Nat) (w : World) (h7 : 7 ≤ s.size) (h8 : s.size ≤ 8) (hn : n + 6 = s.size) (e : ByteArray → Int)
    (HF : Hid (∀ w, Calls Try.prog 71 #[.string s, .string ⟨#[]⟩] w fun e w' => e = .returned (.tuple #[.int .i64 (n : Int), .bool true]) ∧ Below w.heap.size w w'))
    (HV : Hid (∀ b : ByteArray, b ∈ candN s n → ∀ w, Calls Try.prog 36 #[.string b] w fun r w' => r = .returned (.int .i64 (e b)) ∧ Below w.heap.size w w')) :
    Calls Try.prog 50 #[.string s] w fun r w' => ∃ v, r = .returned (.tuple #[v, .int .i64 0]) ∧ Kd.R Kd.string 9 w' w.heap.size (fun _ => True) v (nearR (placeL e s n 6)) ∧ Below w.heap.size w w' := by
  have HW := Lib.hid (rfl : w.heap.size = w.heap.size)
  have hmf : ∀ (fn : Fn) (first cap : Array Value) (w : World), (Instr.makeFunc fn first cap).run Try.prog w = .ok (.func fn first cap) w := fun _ _ _ _ => rfl
  have kb := fun W => print_bytes (P := Try.prog) 9 77 5 Try.underlying9 Try.underlying77 Try.underlying5 s W
  go_enter Try.func50, Try.ntmps50
  go_wp2_with (first | (go_at_call 71; go_must (with_reducible refine (HF.out _).mono ?_); rintro _ w1 ⟨rfl, hb1⟩; have HB1 := Lib.hid hb1; have HT := Lib.hid ((hb1.block w.heap.size (by simp)).trans (heap_alloc_new w (.cells #[.string s] 9))); have HL1 := Lib.hid (show w.heap.size < w1.heap.size from (Array.getElem?_eq_some_iff.1 HT.out).1); have HBw := Lib.hid (show Below w.heap.size w w1 from ((Below.refl _ w).alloc (Nat.le_refl _) _).trans (hb1.mono (by simp))); clear hb1))
  have H0 := Lib.hid (show NearAt w w.heap.size w1.heap.size s [] (w1.alloc (.cells #[.slice none 0 0] 54)) from ⟨by rw [Below.heap_alloc _ _ _ HL1.out]; exact HT.out, ⟨_, heap_alloc_new w1 _, World.ownsRow_nil _ _ _ _⟩, HL1.out, Nat.le_refl _, HBw.out.alloc (by have := HL1.out; omega) _⟩)
  have HG := Lib.hid (show w1.heap.size < (w1.alloc (.cells #[.slice none 0 0] 54)).heap.size by simp)
  generalize w1.heap.size = go at *
  generalize w1.alloc (.cells #[.slice none 0 0] 54) = W0 at *
  generalize w.heap.size = gs at *
  go_loopw [8] (fun v w' => ∃ j : Nat, j ≤ 6 ∧ v = .int .i64 ((n + j : Nat) : Int) ∧ NearAt w gs go s (placeL e s n j) w') (fun v _ => s.size - (intOf v).toNat)
  case atStart => exact ⟨0, by omega, rfl, H0.out⟩
  case round =>
    obtain ⟨j, hj, rfl, hN⟩ := hrel
    have HN := Lib.hid hN
    clear hN H0
    have htx := HN.out.txtCell
    by_cases hlt : j < 6
    · obtain ⟨i, hi⟩ : ∃ i, n + j = i := ⟨_, rfl⟩
      rw [hi]
      have his : i < s.size := by omega
      have hii : (i : Int) < (s.size : Int) := by omega
      have hdi : decide ((i : Int) < (s.size : Int)) = true := decide_eq_true hii
      go_wp2
      have HR0 := Lib.hid (BRow.made wr s)
      have HN0 := Lib.hid (HN.out.below (bytes_below (Below.refl wr.heap.size wr) (Nat.le_refl _) 5 s))
      have HGb := Lib.hid (show go < wr.heap.size from by obtain ⟨v, h1, _⟩ := HN.out.out; exact (Array.getElem?_eq_some_iff.1 h1).1)
      have hLp := placeL_len e s n j
      obtain ⟨Lp, hLpe⟩ : ∃ Lp, placeL e s n j = Lp := ⟨_, rfl⟩
      have HLp := Lib.hid hLpe
      rw [hLpe] at hLp HN0
      clear hLpe
      generalize Lib.bytesWorld wr 5 s = W1 at *
      generalize grownCap wr s.size 0 5 = cap at *
      generalize wr.heap.size = gb at *
      go_loopw [10] (fun v w' => ∃ c : Nat, c ≤ 10 ∧ v = .int .u8 ((48 + c : Nat) : Int) ∧ NearAt w gs go s (digL e s i Lp c) w' ∧ BRow w' gb (rowB s i c)) (fun v _ => 58 - (intOf v).toNat)
      case atStart => exact ⟨0, by omega, rfl, HN0.out, HR0.out⟩
      case round =>
        obtain ⟨c, hc, rfl, hM, hR⟩ := hrel
        have HM := Lib.hid hM
        have HR := Lib.hid hR
        clear hM hR HN0 HR0
        by_cases hlc : c < 10
        · have hdc : decide (((48 + c : Nat) : Int) ≤ 57) = true := decide_eq_true (by omega)
          have hcell := HR.out.cell i (by rw [rowB_size]; exact his)
          have hfree := HR.out.free i (by rw [rowB_size]; exact his)
          have HR2 := Lib.hid (rowB_put s i c ▸ HR.out.store i (by rw [rowB_size]; exact his) (dig8 c) (((48 + c : Nat) : Int)) (by rw [dig8_nat hlc]))
          have HM2 := Lib.hid (HM.out.setB HR.out HGb.out i (.int .u8 (((48 + c : Nat) : Int))))
          have hsz : (rowB s i (c + 1)).size = s.size := rowB_size s i (c + 1)
          have hdl := digL_len e s i Lp c
          have HC := Lib.hid (Near1.walk s (rowB s i (c + 1)) w _ gs go gb cap (digL e s i Lp c) HM2.out HR2.out HGb.out (by omega) (by omega) (e (rowB s i (c + 1))) (Lib.hid (HV.out _ (hi ▸ cand_put (by omega) hlc))))
          rw [hsz] at HC
          have Hk := Lib.hid (show (if rowB s i (c + 1) ≠ s ∧ e (rowB s i (c + 1)) = 0 then digL e s i Lp c ++ [rowB s i (c + 1)] else digL e s i Lp c) = digL e s i Lp (c + 1) from rfl)
          rw [Hk.out] at HC
          have hwc : IntKind.u8.wrap (((48 + c : Nat) : Int) + 1) = ((48 + (c + 1) : Nat) : Int) := by simp [IntKind.wrap, IntKind.bits, IntKind.signed]; omega
          generalize hz : ((48 + c : Nat) : Int) = z at *
          go_wp2_with (first | (go_at_call 84; go_must (with_reducible refine HC.out.mono ?_); rintro _ w5 ⟨rfl, hm5, hr5, _⟩; have HM5 := Lib.hid hm5; have HR5 := Lib.hid hr5; clear hm5 hr5))
          exact ⟨⟨c + 1, by omega, by first | exact congrArg (Value.int .u8) hwc | (rw [hwc]) | rfl, HM5.out, HR5.out⟩, by have := hz; simp [intOf]; omega⟩
        · obtain rfl : c = 10 := by omega
          have hdc : decide (((48 + 10 : Nat) : Int) ≤ 57) = false := by decide
          have hw1 := IntWalk.i64_in ((i : Int) + 1) (by omega)
          have htx2 := HM.out.txtCell
          obtain ⟨i1, hi1⟩ : ∃ i1, i + 1 = i1 := ⟨_, rfl⟩
          have hw2 : IntKind.i64.wrap ((i : Int) + 1) = (i1 : Int) := by rw [hw1]; omega
          by_cases hj1 : j + 1 < 6
          · have hdj : decide ((i1 : Int) < (s.size : Int)) = true := decide_eq_true (by omega)
            have hi1s : i1 < s.size := by omega
            have hi1i : (i1 : Int) < (s.size : Int) := by omega
            have HRs := Lib.hid (BRow.made wr s)
            have HMs := Lib.hid (HM.out.below (bytes_below (Below.refl wr.heap.size wr) (Nat.le_refl _) 5 s))
            have HGs := Lib.hid (show go < wr.heap.size from by obtain ⟨v, h1, _⟩ := HM.out.out; exact (Array.getElem?_eq_some_iff.1 h1).1)
            have hdl := digL_len e s i Lp 10
            go_wp2
            generalize Lib.bytesWorld wr 5 s = W2 at *
            generalize grownCap wr s.size 0 5 = cap2 at *
            generalize wr.heap.size = gs2 at *
            have hca := HRs.out.cell i his
            have hcb := HRs.out.cell i1 hi1s
            have hfa := HRs.out.free i his
            have hfb := HRs.out.free i1 hi1s
            rw [bt_by8 s his] at hca
            rw [bt_by8 s hi1s] at hcb
            have HRx := Lib.hid (show BRow ((W2.setCell ⟨gs2, i, none⟩ (.int .u8 (((by8 s i1).toNat : Nat) : Int))).setCell ⟨gs2, i1, none⟩ (.int .u8 (((by8 s i).toNat : Nat) : Int))).drew gs2 (swapB s i) from by
              have h1 := (HRs.out.store i his (by8 s i1) _ rfl).store i1 (by rw [putB_size]; exact hi1s) (by8 s i) _ rfl
              have h2 := h1.below (below_drew1 (Below.refl _ _))
              unfold swapB
              rw [hi1]
              exact h2)
            have HMx := Lib.hid (show NearAt w gs go s (digL e s i Lp 10) ((W2.setCell ⟨gs2, i, none⟩ (.int .u8 (((by8 s i1).toNat : Nat) : Int))).setCell ⟨gs2, i1, none⟩ (.int .u8 (((by8 s i).toNat : Nat) : Int))).drew from ((HMs.out.setB HRs.out HGs.out i _).setB (HRs.out.store i his (by8 s i1) _ rfl) HGs.out i1 _).below (below_drew1 (Below.refl _ _)))
            have hsw : (swapB s i).size = s.size := by unfold swapB; rw [putB_size, putB_size]
            have HC2 := Lib.hid (Near1.walk s (swapB s i) w _ gs go gs2 cap2 (digL e s i Lp 10) HMx.out HRx.out HGs.out (by omega) (by omega) (e (swapB s i)) (Lib.hid (HV.out _ (hi ▸ cand_swap hj1))))
            rw [hsw] at HC2
            have Hp := Lib.hid (show placeL e s n (j + 1) = keepB e s (digL e s i Lp 10) (swapB s i) by show (if j + 1 < 6 then keepB e s (digL e s (n + j) (placeL e s n j) 10) (swapB s (n + j)) else _) = _; rw [if_pos hj1, HLp.out, hi])
            have Hk2 := Lib.hid (show (if swapB s i ≠ s ∧ e (swapB s i) = 0 then digL e s i Lp 10 ++ [swapB s i] else digL e s i Lp 10) = placeL e s n (j + 1) from Hp.out.symm)
            rw [Hk2.out] at HC2
            go_region
            clear hca hcb hfa hfb HRx HMx HRs HMs
            generalize ((W2.setCell ⟨gs2, i, none⟩ (.int .u8 (((by8 s i1).toNat : Nat) : Int))).setCell ⟨gs2, i1, none⟩ (.int .u8 (((by8 s i).toNat : Nat) : Int))).drew = W3 at *
            go_wp2_with (first | (go_at_call 84; go_must (with_reducible refine HC2.out.mono ?_); rintro _ w6 ⟨rfl, hm6, _, _⟩; have HM6 := Lib.hid hm6; clear hm6))
            exact ⟨⟨j + 1, by omega, congrArg (Value.int .i64) (by omega), HM6.out⟩, by simp [intOf]; omega⟩
          · have hdj : decide ((i1 : Int) < (s.size : Int)) = false := decide_eq_false (by omega)
            have Hp := Lib.hid (show placeL e s n (j + 1) = digL e s i Lp 10 by show (if j + 1 < 6 then _ else digL e s (n + j) (placeL e s n j) 10) = _; rw [if_neg hj1, HLp.out, hi])
            go_wp2
            exact ⟨⟨j + 1, by omega, congrArg (Value.int .i64) (by omega), by rw [Hp.out]; exact HM.out⟩, by simp [intOf]; omega⟩
    · obtain rfl : j = 6 := by omega
      have hde : decide (((n + 6 : Nat) : Int) < (s.size : Int)) = false := decide_eq_false (by omega)
      obtain ⟨v, hrow, hown⟩ := HN.out.out
      obtain ⟨A, c, rfl, hcl⟩ := ownsS_form hown
      have hLp := placeL_len e s n 6
      have HL2 := Lib.hid HN.out.low
      have HLT := Lib.hid HN.out.lt
      have Hbel := Lib.hid HN.out.bel
      obtain ⟨L, hLe⟩ : ∃ L, placeL e s n 6 = L := ⟨_, rfl⟩
      rw [hLe] at hown hcl hLp
      have HLE := Lib.hid hLe
      clear hLe HN
      have hcell : wr.cell? ⟨go, 0, none⟩ = some (.slice A L.length c) := by rw [cell_of_row wr go 0 _ _ _ hrow, HLE.out]; rfl
      have Hrow := Lib.hid hrow
      have Hgo := Lib.hid (Array.getElem?_eq_some_iff.1 hrow).1
      clear hrow
      by_cases hz : L.length = 0
      · obtain rfl := List.eq_nil_of_length_eq_zero hz
        have Hown := Lib.hid hown
        clear hown hcl hLp
        have hcell : wr.cell? ⟨go, 0, none⟩ = some (.slice A 0 c) := hcell
        go_wp2_with (first | (go_at_call 85; go_must (with_reducible refine (Try.slices_Sort_string_none A c wr).mono ?_); rintro _ w1 ⟨rfl, rfl⟩) | (go_at_call 86; go_must (with_reducible refine (Try.slices_Compact_string_empty A c _).mono ?_); rintro _ w2 ⟨rfl, rfl⟩))
        first | go_end0 | go_returns | go_ret
        exact ⟨.slice A 0 c, rfl, by rw [HLE.out, nearR_nil]; exact Kd.R_of_own (own_weaken (Hown.out) (by have := HL2.out; have := HLT.out; omega)) (fun _ _ => trivial), Hbel.out⟩
      · have hown2 : wr.ownsRow w.heap.size 9 1 (.slice A L.length c) L.length ((L.map (·.data.toList)).map encStr) := by rw [Go.Lib.map_encStr]; exact own_weaken hown (by have := HL2.out; have := HLT.out; omega)
        have hown3 : wr.ownsRow (go + 1) 9 1 (.slice A L.length c) L.length ((L.map (·.data.toList)).map encStr) := by rw [Go.Lib.map_encStr]; exact hown
        obtain ⟨g, cap, hv, hbg, hgl, hncap, hcm, hlen, hH⟩ := Go.Lib.holds_of_ownsRow hown3 (by intro h; injection h with h1 h2 h3; omega)
        injection hv with hv1 hv2 hv3
        subst hv1
        subst hv3
        obtain ⟨N, hN⟩ : ∃ N, L.length = N := ⟨_, rfl⟩
        obtain ⟨ss, hss⟩ : ∃ ss, L.map (·.data.toList) = ss := ⟨_, rfl⟩
        rw [hss] at hown2 hlen hH
        have HSS := Lib.hid hss
        have HSZ := Lib.hid (show ss.length < 4611686018427387904 by omega)
        have hsort := fun W hH2 h2 => Try.slices_Sort_string g 0 c ss W hH2 h2 HSZ.out
        rw [hN] at hown2 hlen hcell hncap
        rw [hlen] at hsort
        have hl2 : (ss.mergeSort fun x y => decide (x ≤ y)).length = N := by rw [List.length_mergeSort]; exact hlen
        have hcomp := fun W hH2 h2 => Try.slices_Compact_string g 0 c (ss.mergeSort fun x y => decide (x ≤ y)) W hH2 (by omega) h2
        rw [hl2] at hcomp
        have HH := Lib.hid hH
        have HO := Lib.hid hown2
        have HG := Lib.hid hgl
        have HBG := Lib.hid hbg
        have HLEN := Lib.hid hlen
        have HL22 := Lib.hid hl2
        have HNC := Lib.hid hncap
        have HSORT := Lib.hid hsort
        have HCOMP := Lib.hid hcomp
        clear hown hown2 hown3 hH hss hcl hLp hlen hl2 hN hgl hbg hncap hcm hsort hcomp hz hv2
        go_wp2_with (first | (go_at_call 85; go_must (with_reducible refine (HSORT.out wr HH.out HG.out).mono ?_); rintro _ w1 ⟨rfl, nn, os, rfl⟩
                              have hcell2 : (Go.Sort.grow (Go.Sort.putRow encStr (Go.Sort.ahead wr nn) g 0 (ss.mergeSort fun x y => decide (x ≤ y)).toArray) os).cell? ⟨go, 0, none⟩ = some (.slice (some ⟨g, 0, none⟩) N c) := by
                                rw [cell_of_row _ go 0 _ _ _ (((grownBy_sorted _).block go Hgo.out (by intro e; have := HBG.out; injection e with e; omega)).trans Hrow.out)]
                                have hN3 := HLEN.out
                                rw [← HSS.out, List.length_map] at hN3
                                simp [hN3, HLE.out]
                              have HH2 := Lib.hid (Go.Sort.holds_grow encStr _ os g 0 _ (by simpa [Go.Sort.putRow, Go.Sort.mapBlock, Go.Sort.ahead] using HG.out) (Go.Sort.holds_putRow encStr _ g 0 _ (ss.mergeSort fun x y => decide (x ≤ y)).toArray (Go.Sort.holds_ahead encStr wr nn g 0 _ HH.out) (by simp)))
                              clear hcell)
                           | (go_at_call 86; go_must (with_reducible refine (HCOMP.out _ HH2.out HNC.out).mono ?_); rintro _ w2 ⟨rfl, q, rfl⟩))
        first | go_end0 | go_returns | go_ret
        obtain ⟨h1, h2⟩ := near_left (nn := nn) (os := os) (q := q) HO.out Hbel.out (by have := HBG.out; have := HL2.out; have := HLT.out; omega) HLEN.out
        refine ⟨.slice (some ⟨g, 0, none⟩) (Go.Lib.compact (ss.mergeSort fun x y => decide (x ≤ y))).length c, rfl, ?_, h2⟩
        have hlr : (nearR L).length = (Go.Lib.compact (ss.mergeSort fun x y => decide (x ≤ y))).length := by unfold nearR; rw [HSS.out, List.length_map]
        refine Kd.R_of_own ?_ (fun _ _ => trivial)
        rw [HLE.out, nearR_encs, hlr, HSS.out]
        exact h1
end Go.Proofs.Ytlbhighbhchdmaa.Q
