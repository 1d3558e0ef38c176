/- Core and Against: what the deferred closures make of a panic. For all purses. -/
import Derived.Test.YtjphklemnhgkiaaDoorWLast
import Derived.Test.YtjphklemnhgkiaaDoorWMore
import Derived.Test.YtjphklemnhgkiaaDoorProg
import Derived.Test.YtjphklemnhgkiaaDoorShelf
import Derived.OwnWalk
import Derived.Handy
import Derived.Deep.DeepMust
import Derived.Lib.Hide
import Derived.Outline
import Derived.IntWalk
import Derived.Deep.RegionWith
import Derived.Recover
import Derived.Defers
import Derived.Test.YtjphklemnhgkiaaDoorPuS
namespace Go.Proofs.YtjphklemnhgkiaaDoor.Q
open Go.RowKit Go.Proofs.YtjphklemnhgkiaaDoorW.PrintWords Go.Proofs.YtjphklemnhgkiaaDoorW.PrintLast Go.Proofs.YtjphklemnhgkiaaDoorW.PrintMore 
set_option linter.unusedVariables false
set_option linter.unusedSimpArgs false
/-! Core and Against: what the deferred closures make of search's panic. -/
theorem is31 (v : Value) (w : World) : (Instr.typeAssert (.iface 31 v) 20 31 true).run Tryd.prog w = .ok (.tuple #[v, .bool true]) w := by kernel_rfl
theorem is25 (v : Value) (w : World) : (Instr.typeAssert (.iface 25 v) 20 25 true).run Tryd.prog w = .ok (.tuple #[v, .bool true]) w := by kernel_rfl
theorem no31 (v : Value) (w : World) : (Instr.typeAssert (.iface 25 v) 20 31 true).run Tryd.prog w = .ok (.tuple #[.agg #[.int .i64 0, .slice none 0 0], .bool false]) w := by kernel_rfl
theorem no25 (v : Value) (w : World) : (Instr.typeAssert (.iface 31 v) 20 25 true).run Tryd.prog w = .ok (.tuple #[.agg #[.int .i64 0, .slice none 0 0], .bool false]) w := by kernel_rfl
theorem boxes_ne {w : World} {g g' : Nat} {t t' : TypeId} {cs cs' : Array Value} (h : w.heap[g]? = some (.cells cs t (0, 0))) (h' : w.heap[g']? = some (.cells cs' t' (0, 0))) (hne : t ≠ t') : g ≠ g' := blk_ne h h' hne
theorem R_set {α : Type} {dd : Kd α} {e base g t i : Nat} {w : World} {v : Value} {xs : List α} {cells : Array Value} (h : dd.R e w base (fun _ => True) v xs) (hb : w.heap[g]? = some (.cells cells t (0, 0))) (ht : ∀ q, q ∈ e :: dd.E → q ≠ t) (u : Value) : dd.R e (w.setCell ⟨g, i, none⟩ u) base (fun _ => True) v xs :=
  Kd.R_mono (Kd.R_far (p := ⟨g, i, none⟩) (Kd.R_types h hb ht) (fun _ hk => hk.2) u) (fun _ _ => trivial)
theorem five {α : Type} {dd : Kd α} {e : Nat} {w0 w2 : World} {gb bp bf t : Nat} {d : Int} {v V : Value} {xs : List α} (HB : Below w0.heap.size w0 w2) (g1 : w0.heap.size ≤ bp) (g2 : w0.heap.size ≤ bf) (g3 : w0.heap.size ≤ gb)
    (BB : w2.heap[gb]? = some (.cells #[.int .i64 0, .slice none 0 0] t (0, 0))) (BP : w2.heap[bp]? = some (.cells #[.int .i64 0, .slice none 0 0] t (0, 0))) (BF : w2.heap[bf]? = some (.cells #[.bool false] 4 (0, 0))) (n3 : gb ≠ bp) (n4 : gb ≠ bf) (n1 : bp ≠ bf)
    (HR : dd.R e w2 w0.heap.size (fun _ => True) V xs) (ht : ∀ q, q ∈ e :: dd.E → q ≠ t) (h4 : ∀ q, q ∈ e :: dd.E → q ≠ 4) :
    Below w0.heap.size w0 (((((w2.setCell ⟨gb, 0, none⟩ (.int .i64 d)).setCell ⟨gb, 1, none⟩ v).setCell ⟨bp, 0, none⟩ (.int .i64 d)).setCell ⟨bp, 1, none⟩ v).setCell ⟨bf, 0, none⟩ (.bool true)) ∧
    (((((w2.setCell ⟨gb, 0, none⟩ (.int .i64 d)).setCell ⟨gb, 1, none⟩ v).setCell ⟨bp, 0, none⟩ (.int .i64 d)).setCell ⟨bp, 1, none⟩ v).setCell ⟨bf, 0, none⟩ (.bool true)).heap[bp]? = some (.cells #[.int .i64 d, v] t (0, 0)) ∧
    (((((w2.setCell ⟨gb, 0, none⟩ (.int .i64 d)).setCell ⟨gb, 1, none⟩ v).setCell ⟨bp, 0, none⟩ (.int .i64 d)).setCell ⟨bp, 1, none⟩ v).setCell ⟨bf, 0, none⟩ (.bool true)).heap[bf]? = some (.cells #[.bool true] 4 (0, 0)) ∧
    dd.R e (((((w2.setCell ⟨gb, 0, none⟩ (.int .i64 d)).setCell ⟨gb, 1, none⟩ v).setCell ⟨bp, 0, none⟩ (.int .i64 d)).setCell ⟨bp, 1, none⟩ v).setCell ⟨bf, 0, none⟩ (.bool true)) w0.heap.size (fun _ => True) V xs := by
  have b1 : (w2.setCell ⟨gb, 0, none⟩ (.int .i64 d)).heap[gb]? = some (.cells #[.int .i64 d, .slice none 0 0] t (0, 0)) := blk_put BB 0 _ rfl
  have p1 := blk_far BP (p := ⟨gb, 0, none⟩) (Ne.symm n3) (.int .i64 d)
  have f1 := blk_far BF (p := ⟨gb, 0, none⟩) (Ne.symm n4) (.int .i64 d)
  have r1 := R_set (i := 0) HR BB ht (.int .i64 d)
  have p2 := blk_far p1 (p := ⟨gb, 1, none⟩) (Ne.symm n3) v
  have f2 := blk_far f1 (p := ⟨gb, 1, none⟩) (Ne.symm n4) v
  have r2 := R_set (i := 1) r1 b1 ht v
  have p3 := blk_put p2 0 (.int .i64 d) rfl
  have f3 := blk_far f2 (p := ⟨bp, 0, none⟩) (Ne.symm n1) (.int .i64 d)
  have r3 := R_set (i := 0) r2 p2 ht (.int .i64 d)
  have p4 := blk_put p3 1 v rfl
  have f4 := blk_far f3 (p := ⟨bp, 1, none⟩) (Ne.symm n1) v
  have r4 := R_set (i := 1) r3 p3 ht v
  have p5 := blk_far p4 (p := ⟨bf, 0, none⟩) n1 (.bool true)
  have f5 := blk_put f4 0 (.bool true) rfl
  have r5 := R_set (i := 0) r4 f4 h4 (.bool true)
  exact ⟨below_set (below_set (below_set (below_set (below_set HB g3) g3) g1) g1) g2, p5, f5, r5⟩
set_option maxRecDepth 100000 in
set_option maxHeartbeats 4000000 in
theorem core_yes (w0 : World) (bp bf : Nat) (w : World) (d : Int) (A : Option Addr) (c : Nat) (xs : List Int) (hB : Below w0.heap.size w0 w) (g1 : w0.heap.size ≤ bp) (g2 : w0.heap.size ≤ bf) (hp : w.heap[bp]? = some (.cells #[.int .i64 0, .slice none 0 0] 31 (0, 0))) (hf : w.heap[bf]? = some (.cells #[.bool false] 4 (0, 0)))
    (hr : Kd.R (Kd.int .i64) 3 w w0.heap.size (fun _ => True) (.slice A xs.length c) xs) :
    CallsD Tryd.prog 56 #[.pointer (some ⟨bp, 0, none⟩), .pointer (some ⟨bf, 0, none⟩)] (.panicking [{ v := .iface 31 (.agg #[.int .i64 d, .slice A xs.length c]), recovered := false }]) w fun e u' w' =>
      e = .returned (.tuple #[]) ∧ u' = .panicking [{ v := .iface 31 (.agg #[.int .i64 d, .slice A xs.length c]), recovered := true }] ∧ Below w0.heap.size w0 w' ∧ w'.heap[bp]? = some (.cells #[.int .i64 d, .slice A xs.length c] 31 (0, 0)) ∧ w'.heap[bf]? = some (.cells #[.bool true] 4 (0, 0)) ∧ Kd.R (Kd.int .i64) 3 w' w0.heap.size (fun _ => True) (.slice A xs.length c) xs := by
  have HR := Aside0.mk hr
  have HB := Aside0.mk hB
  have BP := Aside0.mk hp
  have BF := Aside0.mk hf
  have N1 := Aside0.mk (boxes_ne hp hf (by decide))
  have N2 := Aside0.mk (boxes_ne hf hp (by decide))
  have G1 := Aside0.mk g1
  have G2 := Aside0.mk g2
  have hy := is31
  clear hr hB hp hf g1 g2
  refine callsD_of_wpS Tryd.func56 rfl fun c₀ cs hu => ?_
  apply wpS_seq
  apply wpS_region
  simp [wpOpsS, go_sem, recoverD, hu, Tryd.ntmps56, Exit.thenS]
  simp only [Array.replicate_succ, Array.replicate_zero, List.push_toArray, List.append_toArray, List.nil_append, List.cons_append, List.setIfInBounds_toArray, List.set_cons_succ, List.set_cons_zero]
  refine wpS_of_wp ?_
  clear hu
  go_wp2_with (first | ((with_reducible refine gate_dst (N := 2) rfl ?_); refine box_event ?hg (N := 2) ?hd (cs := #[.int .i64 0, .slice none 0 0]) (t := 31) ?hr ?_; (case hd => rfl); (case hg => rfl); (case hr => first | (go_simp; done) | (go_simp; rfl)); intro gb hg w2 hbox hb; have n0_ := Aside0.mk (blk_below BP.out hb); have n1_ := Aside0.mk (blk_below BF.out hb); have n2_ := Aside0.mk (Kd.R_below HR.out hb); have n3_ := Aside0.mk (below_step HB.out hb); have n4_ := Aside0.mk hbox; have n5_ := Aside0.mk (show gb ≠ bp by rw [hg]; exact Nat.ne_of_gt (blk_lt BP.out)); have n6_ := Aside0.mk (show gb ≠ bf by rw [hg]; exact Nat.ne_of_gt (blk_lt BF.out)); have n7_ := Aside0.mk (show w0.heap.size ≤ gb by rw [hg]; exact below_size HB.out); clear BP BF HR HB hbox hb hg; have BP := n0_; have BF := n1_; have HR := n2_; have HB := n3_; have BB := n4_; have N3 := n5_; have N4 := n6_; have G3 := n7_; clear n0_ n1_ n2_ n3_ n4_ n5_ n6_ n7_; have hnb1 := N3.out; have hnb2 := N4.out; have hnb3 := hnb1.symm; have hnb4 := hnb2.symm; have hnb5 := N1.out; have hnb6 := N2.out; have hc0 : w2.cell? ⟨gb, 0, none⟩ = some (.int .i64 0) := (blk_cell BB.out 0).trans rfl; have hc1 : w2.cell? ⟨gb, 1, none⟩ = some (.slice none 0 0) := (blk_cell BB.out 1).trans rfl; have hf0 := blk_frozen BB.out 0; have hf1 := blk_frozen BB.out 1; have hc2 : w2.cell? ⟨bp, 0, none⟩ = some (.int .i64 0) := (blk_cell BP.out 0).trans rfl; have hc3 : w2.cell? ⟨bp, 1, none⟩ = some (.slice none 0 0) := (blk_cell BP.out 1).trans rfl; have hf2 := blk_frozen BP.out 0; have hf3 := blk_frozen BP.out 1; have hc4 : w2.cell? ⟨bf, 0, none⟩ = some (.bool false) := (blk_cell BF.out 0).trans rfl; have hf4 := blk_frozen BF.out 0))
  exact ⟨rfl, _, rfl, .tuple #[], results_none rfl _ _ _, rfl, rfl, five HB.out G1.out G2.out G3.out BB.out BP.out BF.out N3.out N4.out N1.out HR.out (by decide) (by decide)⟩
set_option maxRecDepth 100000 in
set_option maxHeartbeats 4000000 in
theorem against_yes (w0 : World) (bp bf : Nat) (w : World) (d : Int) (A : Option Addr) (c : Nat) (xs : List S59) (hB : Below w0.heap.size w0 w) (g1 : w0.heap.size ≤ bp) (g2 : w0.heap.size ≤ bf) (hp : w.heap[bp]? = some (.cells #[.int .i64 0, .slice none 0 0] 25 (0, 0))) (hf : w.heap[bf]? = some (.cells #[.bool false] 4 (0, 0)))
    (hr : Kd.R k59 59 w w0.heap.size (fun _ => True) (.slice A xs.length c) xs) :
    CallsD Tryd.prog 72 #[.pointer (some ⟨bp, 0, none⟩), .pointer (some ⟨bf, 0, none⟩)] (.panicking [{ v := .iface 25 (.agg #[.int .i64 d, .slice A xs.length c]), recovered := false }]) w fun e u' w' =>
      e = .returned (.tuple #[]) ∧ u' = .panicking [{ v := .iface 25 (.agg #[.int .i64 d, .slice A xs.length c]), recovered := true }] ∧ Below w0.heap.size w0 w' ∧ w'.heap[bp]? = some (.cells #[.int .i64 d, .slice A xs.length c] 25 (0, 0)) ∧ w'.heap[bf]? = some (.cells #[.bool true] 4 (0, 0)) ∧ Kd.R k59 59 w' w0.heap.size (fun _ => True) (.slice A xs.length c) xs := by
  have HR := Aside0.mk hr
  have HB := Aside0.mk hB
  have BP := Aside0.mk hp
  have BF := Aside0.mk hf
  have N1 := Aside0.mk (boxes_ne hp hf (by decide))
  have N2 := Aside0.mk (boxes_ne hf hp (by decide))
  have G1 := Aside0.mk g1
  have G2 := Aside0.mk g2
  have hy := is25
  clear hr hB hp hf g1 g2
  refine callsD_of_wpS Tryd.func72 rfl fun c₀ cs hu => ?_
  apply wpS_seq
  apply wpS_region
  simp [wpOpsS, go_sem, recoverD, hu, Tryd.ntmps72, Exit.thenS]
  simp only [Array.replicate_succ, Array.replicate_zero, List.push_toArray, List.append_toArray, List.nil_append, List.cons_append, List.setIfInBounds_toArray, List.set_cons_succ, List.set_cons_zero]
  refine wpS_of_wp ?_
  clear hu
  go_wp2_with (first | ((with_reducible refine gate_dst (N := 2) rfl ?_); refine box_event ?hg (N := 2) ?hd (cs := #[.int .i64 0, .slice none 0 0]) (t := 25) ?hr ?_; (case hd => rfl); (case hg => rfl); (case hr => first | (go_simp; done) | (go_simp; rfl)); intro gb hg w2 hbox hb; have n0_ := Aside0.mk (blk_below BP.out hb); have n1_ := Aside0.mk (blk_below BF.out hb); have n2_ := Aside0.mk (Kd.R_below HR.out hb); have n3_ := Aside0.mk (below_step HB.out hb); have n4_ := Aside0.mk hbox; have n5_ := Aside0.mk (show gb ≠ bp by rw [hg]; exact Nat.ne_of_gt (blk_lt BP.out)); have n6_ := Aside0.mk (show gb ≠ bf by rw [hg]; exact Nat.ne_of_gt (blk_lt BF.out)); have n7_ := Aside0.mk (show w0.heap.size ≤ gb by rw [hg]; exact below_size HB.out); clear BP BF HR HB hbox hb hg; have BP := n0_; have BF := n1_; have HR := n2_; have HB := n3_; have BB := n4_; have N3 := n5_; have N4 := n6_; have G3 := n7_; clear n0_ n1_ n2_ n3_ n4_ n5_ n6_ n7_; have hnb1 := N3.out; have hnb2 := N4.out; have hnb3 := hnb1.symm; have hnb4 := hnb2.symm; have hnb5 := N1.out; have hnb6 := N2.out; have hc0 : w2.cell? ⟨gb, 0, none⟩ = some (.int .i64 0) := (blk_cell BB.out 0).trans rfl; have hc1 : w2.cell? ⟨gb, 1, none⟩ = some (.slice none 0 0) := (blk_cell BB.out 1).trans rfl; have hf0 := blk_frozen BB.out 0; have hf1 := blk_frozen BB.out 1; have hc2 : w2.cell? ⟨bp, 0, none⟩ = some (.int .i64 0) := (blk_cell BP.out 0).trans rfl; have hc3 : w2.cell? ⟨bp, 1, none⟩ = some (.slice none 0 0) := (blk_cell BP.out 1).trans rfl; have hf2 := blk_frozen BP.out 0; have hf3 := blk_frozen BP.out 1; have hc4 : w2.cell? ⟨bf, 0, none⟩ = some (.bool false) := (blk_cell BF.out 0).trans rfl; have hf4 := blk_frozen BF.out 0))
  exact ⟨rfl, _, rfl, .tuple #[], results_none rfl _ _ _, rfl, rfl, five HB.out G1.out G2.out G3.out BB.out BP.out BF.out N3.out N4.out N1.out HR.out (by decide) (by decide)⟩
set_option maxRecDepth 100000 in
set_option maxHeartbeats 4000000 in
theorem core_no (w0 : World) (bp bf : Nat) (w : World) (d : Int) (A : Option Addr) (n c : Nat) (hB : Below w0.heap.size w0 w) (hp : w.heap[bp]? = some (.cells #[.int .i64 0, .slice none 0 0] 31 (0, 0))) (hf : w.heap[bf]? = some (.cells #[.bool false] 4 (0, 0))) :
    CallsD Tryd.prog 56 #[.pointer (some ⟨bp, 0, none⟩), .pointer (some ⟨bf, 0, none⟩)] (.panicking [{ v := .iface 25 (.agg #[.int .i64 d, .slice A n c]), recovered := false }]) w fun e u' w' =>
      e = .returned (.tuple #[]) ∧ u' = .panicking [{ v := .iface 25 (.agg #[.int .i64 d, .slice A n c]), recovered := true }] ∧ Below w0.heap.size w0 w' ∧ w'.heap[bp]? = some (.cells #[.int .i64 0, .slice none 0 0] 31 (0, 0)) ∧ w'.heap[bf]? = some (.cells #[.bool false] 4 (0, 0)) := by
  have HB := Aside0.mk hB
  have BP := Aside0.mk hp
  have BF := Aside0.mk hf
  have hy := is25
  have hn := no31
  clear hB hp hf
  refine callsD_of_wpS Tryd.func56 rfl fun c₀ cs hu => ?_
  apply wpS_seq
  apply wpS_region
  simp [wpOpsS, go_sem, recoverD, hu, Tryd.ntmps56, Exit.thenS]
  simp only [Array.replicate_succ, Array.replicate_zero, List.push_toArray, List.append_toArray, List.nil_append, List.cons_append, List.setIfInBounds_toArray, List.set_cons_succ, List.set_cons_zero]
  refine wpS_of_wp ?_
  clear hu
  go_wp2_with (first | ((with_reducible refine gate_dst (N := 3) rfl ?_); refine box_event ?hg (N := 3) ?hd (cs := #[.int .i64 0, .slice none 0 0]) (t := 25) ?hr ?_; (case hd => rfl); (case hg => rfl); (case hr => first | (go_simp; done) | (go_simp; rfl)); intro gb hg w2 hbox hb; have n0_ := Aside0.mk (blk_below BP.out hb); have n1_ := Aside0.mk (blk_below BF.out hb); have n3_ := Aside0.mk (below_step HB.out hb); have n4_ := Aside0.mk hbox; have n5_ := Aside0.mk (show gb ≠ bp by rw [hg]; exact Nat.ne_of_gt (blk_lt BP.out)); have n6_ := Aside0.mk (show gb ≠ bf by rw [hg]; exact Nat.ne_of_gt (blk_lt BF.out)); have n7_ := Aside0.mk (show w0.heap.size ≤ gb by rw [hg]; exact below_size HB.out); clear BP BF HB hbox hb hg; have BP := n0_; have BF := n1_; have HB := n3_; have BB := n4_; have N3 := n5_; have N4 := n6_; have G3 := n7_; clear n0_ n1_ n3_ n4_ n5_ n6_ n7_; have hc0 : w2.cell? ⟨gb, 0, none⟩ = some (.int .i64 0) := (blk_cell BB.out 0).trans rfl; have hc1 : w2.cell? ⟨gb, 1, none⟩ = some (.slice none 0 0) := (blk_cell BB.out 1).trans rfl; have hf0 := blk_frozen BB.out 0; have hf1 := blk_frozen BB.out 1))
  exact ⟨rfl, _, rfl, .tuple #[], results_none rfl _ _ _, rfl, rfl, below_set (below_set HB.out G3.out) G3.out, blk_far (blk_far BP.out (p := ⟨gb, 0, none⟩) (Ne.symm N3.out) _) (p := ⟨gb, 1, none⟩) (Ne.symm N3.out) _, blk_far (blk_far BF.out (p := ⟨gb, 0, none⟩) (Ne.symm N4.out) _) (p := ⟨gb, 1, none⟩) (Ne.symm N4.out) _⟩
set_option maxRecDepth 100000 in
set_option maxHeartbeats 4000000 in
theorem against_no (w0 : World) (bp bf : Nat) (w : World) (d : Int) (A : Option Addr) (n c : Nat) (hB : Below w0.heap.size w0 w) (hp : w.heap[bp]? = some (.cells #[.int .i64 0, .slice none 0 0] 25 (0, 0))) (hf : w.heap[bf]? = some (.cells #[.bool false] 4 (0, 0))) :
    CallsD Tryd.prog 72 #[.pointer (some ⟨bp, 0, none⟩), .pointer (some ⟨bf, 0, none⟩)] (.panicking [{ v := .iface 31 (.agg #[.int .i64 d, .slice A n c]), recovered := false }]) w fun e u' w' =>
      e = .returned (.tuple #[]) ∧ u' = .panicking [{ v := .iface 31 (.agg #[.int .i64 d, .slice A n c]), recovered := true }] ∧ Below w0.heap.size w0 w' ∧ w'.heap[bp]? = some (.cells #[.int .i64 0, .slice none 0 0] 25 (0, 0)) ∧ w'.heap[bf]? = some (.cells #[.bool false] 4 (0, 0)) := by
  have HB := Aside0.mk hB
  have BP := Aside0.mk hp
  have BF := Aside0.mk hf
  have hy := is31
  have hn := no25
  clear hB hp hf
  refine callsD_of_wpS Tryd.func72 rfl fun c₀ cs hu => ?_
  apply wpS_seq
  apply wpS_region
  simp [wpOpsS, go_sem, recoverD, hu, Tryd.ntmps72, Exit.thenS]
  simp only [Array.replicate_succ, Array.replicate_zero, List.push_toArray, List.append_toArray, List.nil_append, List.cons_append, List.setIfInBounds_toArray, List.set_cons_succ, List.set_cons_zero]
  refine wpS_of_wp ?_
  clear hu
  go_wp2_with (first | ((with_reducible refine gate_dst (N := 3) rfl ?_); refine box_event ?hg (N := 3) ?hd (cs := #[.int .i64 0, .slice none 0 0]) (t := 31) ?hr ?_; (case hd => rfl); (case hg => rfl); (case hr => first | (go_simp; done) | (go_simp; rfl)); intro gb hg w2 hbox hb; have n0_ := Aside0.mk (blk_below BP.out hb); have n1_ := Aside0.mk (blk_below BF.out hb); have n3_ := Aside0.mk (below_step HB.out hb); have n4_ := Aside0.mk hbox; have n5_ := Aside0.mk (show gb ≠ bp by rw [hg]; exact Nat.ne_of_gt (blk_lt BP.out)); have n6_ := Aside0.mk (show gb ≠ bf by rw [hg]; exact Nat.ne_of_gt (blk_lt BF.out)); have n7_ := Aside0.mk (show w0.heap.size ≤ gb by rw [hg]; exact below_size HB.out); clear BP BF HB hbox hb hg; have BP := n0_; have BF := n1_; have HB := n3_; have BB := n4_; have N3 := n5_; have N4 := n6_; have G3 := n7_; clear n0_ n1_ n3_ n4_ n5_ n6_ n7_; have hc0 : w2.cell? ⟨gb, 0, none⟩ = some (.int .i64 0) := (blk_cell BB.out 0).trans rfl; have hc1 : w2.cell? ⟨gb, 1, none⟩ = some (.slice none 0 0) := (blk_cell BB.out 1).trans rfl; have hf0 := blk_frozen BB.out 0; have hf1 := blk_frozen BB.out 1))
  exact ⟨rfl, _, rfl, .tuple #[], results_none rfl _ _ _, rfl, rfl, below_set (below_set HB.out G3.out) G3.out, blk_far (blk_far BP.out (p := ⟨gb, 0, none⟩) (Ne.symm N3.out) _) (p := ⟨gb, 1, none⟩) (Ne.symm N3.out) _, blk_far (blk_far BF.out (p := ⟨gb, 0, none⟩) (Ne.symm N4.out) _) (p := ⟨gb, 1, none⟩) (Ne.symm N4.out) _⟩
/-! What Core and Against hand back, out of their results' variables. -/
theorem core_results (tmps : Array Value) (w : World) (bp bf : Nat) (d : Int) (v : Value) (b : Bool) (x : Int) (hv : v.oneCell' = true) (h2 : tmps.getD 2 undef = .pointer (some ⟨bp, 0, none⟩)) (h3 : tmps.getD 3 undef = .pointer (some ⟨bf, 0, none⟩)) (h4 : tmps.getD 4 undef = .int .i64 x)
    (hp : w.heap[bp]? = some (.cells #[.int .i64 d, v] 31 (0, 0))) (hf : w.heap[bf]? = some (.cells #[.bool b] 4 (0, 0))) : (results Tryd.f19 tmps).run Tryd.prog w = .ok (.tuple #[.agg #[.int .i64 d, v], .bool b, .int .i64 x]) w := by
  have hc : w.cell? ⟨bf, 0, none⟩ = some (.bool b) := (blk_cell hf 0).trans rfl
  have hc0 : w.cell? ⟨bp, 0, none⟩ = some (.int .i64 d) := (blk_cell hp 0).trans rfl
  have hc1 : w.cell? ⟨bp, 1, none⟩ = some v := (blk_cell hp 1).trans rfl
  rw [Array.getD_eq_getD_getElem?] at h2 h3 h4
  unfold results
  rw [Tryd.results19]
  simp [asAddr, h2, h3, h4, go_sem, hc, hc0, hc1]
theorem against_results (tmps : Array Value) (w : World) (bp bf : Nat) (d : Int) (v : Value) (b : Bool) (x : Int) (hv : v.oneCell' = true) (h2 : tmps.getD 2 undef = .pointer (some ⟨bp, 0, none⟩)) (h3 : tmps.getD 3 undef = .pointer (some ⟨bf, 0, none⟩)) (h4 : tmps.getD 4 undef = .int .i64 x)
    (hp : w.heap[bp]? = some (.cells #[.int .i64 d, v] 25 (0, 0))) (hf : w.heap[bf]? = some (.cells #[.bool b] 4 (0, 0))) : (results Tryd.f33 tmps).run Tryd.prog w = .ok (.tuple #[.agg #[.int .i64 d, v], .bool b, .int .i64 x]) w := by
  have hc : w.cell? ⟨bf, 0, none⟩ = some (.bool b) := (blk_cell hf 0).trans rfl
  have hc0 : w.cell? ⟨bp, 0, none⟩ = some (.int .i64 d) := (blk_cell hp 0).trans rfl
  have hc1 : w.cell? ⟨bp, 1, none⟩ = some v := (blk_cell hp 1).trans rfl
  rw [Array.getD_eq_getD_getElem?] at h2 h3 h4
  unfold results
  rw [Tryd.results33]
  simp [asAddr, h2, h3, h4, go_sem, hc, hc0, hc1]
end Go.Proofs.YtjphklemnhgkiaaDoor.Q
