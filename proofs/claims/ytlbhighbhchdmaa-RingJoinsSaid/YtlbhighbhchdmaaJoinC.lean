/- Blocks sorted by their series and numbers, as Join of the rings does it. For all lists of blocks of at most 12. -/
import Derived.Test.YtlbhighbhchdmaaQx0
import Derived.Test.YtlbhighbhchdmaaShelf
import Derived.Test.YtlbhighbhchdmaaLeq
import Derived.Shelf.SlSortCmp.SmallK
import Derived.OwnWalk
import Derived.Handy
import Derived.Deep.DeepMust
import Derived.Deep.RegionWith
import Derived.Test.YtlbhighbhchdmaaJoinA
import Derived.StillTailTactics
import Derived.Outline
namespace Go.Proofs.Ytlbhighbhchdmaa.Q
open Go.RowKit Go.Proofs.YtlbhighbhchdmaaW.PrintWords Go.Proofs.YtlbhighbhchdmaaW.PrintLast Go.Proofs.YtlbhighbhchdmaaW.PrintMore
set_option linter.unusedVariables false
set_option linter.unusedSimpArgs false
theorem two_cells (W : World) (c d : Value) (t : TypeId) : (W.alloc (.cells #[c, d] t)).drew.cell? ⟨W.heap.size, 0, none⟩ = some c ∧ (W.alloc (.cells #[c, d] t)).drew.cell? ⟨W.heap.size, 1, none⟩ = some d := by
  have h : (W.alloc (.cells #[c, d] t)).drew.heap[W.heap.size]? = some (.cells #[c, d] t (0, 0)) := heap_alloc_new W (.cells #[c, d] t)
  exact ⟨by rw [cell_of_row _ _ 0 _ _ _ h]; rfl, by rw [cell_of_row _ _ 1 _ _ _ h]; rfl⟩
theorem box_cells (W : World) (a b c a2 b2 c2 : Value) (t : TypeId) : ((W.alloc (.cells #[a, b, c] t)).alloc (.cells #[a2, b2, c2] t)).cell? ⟨W.heap.size, 0, none⟩ = some a ∧ ((W.alloc (.cells #[a, b, c] t)).alloc (.cells #[a2, b2, c2] t)).cell? ⟨W.heap.size, 1, none⟩ = some b ∧ ((W.alloc (.cells #[a, b, c] t)).alloc (.cells #[a2, b2, c2] t)).cell? ⟨W.heap.size + 1, 0, none⟩ = some a2 ∧ ((W.alloc (.cells #[a, b, c] t)).alloc (.cells #[a2, b2, c2] t)).cell? ⟨W.heap.size + 1, 1, none⟩ = some b2 := by
  have h := heap_alloc_new W (.cells #[a, b, c] t)
  have h1 : ((W.alloc (.cells #[a, b, c] t)).alloc (.cells #[a2, b2, c2] t)).heap[W.heap.size]? = some (.cells #[a, b, c] t (0, 0)) := (Below.heap_alloc _ _ _ (by simp)).trans h
  have h2 := heap_alloc_new (W.alloc (.cells #[a, b, c] t)) (.cells #[a2, b2, c2] t)
  rw [World.size_alloc] at h2
  exact ⟨by rw [cell_of_row _ _ 0 _ _ _ h1]; rfl, by rw [cell_of_row _ _ 1 _ _ _ h1]; rfl, by rw [cell_of_row _ _ 0 _ _ _ h2]; rfl, by rw [cell_of_row _ _ 1 _ _ _ h2]; rfl⟩
set_option maxHeartbeats 3200000 in
set_option maxRecDepth 100000 in
/-- The comparison of two blocks. -/
theorem less_calls (x y : S79) (W : World) : Calls Try.prog 90 #[.agg #[.string x.f0, .int .i64 x.f1, .int .i64 x.f2], .agg #[.string y.f0, .int .i64 y.f1, .int .i64 y.f2]] W fun e w' => e = .returned (.int .i64 (cmpB x y)) ∧ ∃ q os', w' = Go.Sort.grow (W.drewN q) os' := by
  have HS := Lib.hid (fun w => cmpStr_calls x.f0 y.f0 w)
  have HI := Lib.hid (fun w => cmpInt_calls x.f1 y.f1 w)
  have Hc := Lib.hid (show cmpB x y = if cmpStr x.f0 y.f0 ≠ 0 then cmpStr x.f0 y.f0 else cmpInt x.f1 y.f1 from rfl)
  rw [Hc.out]
  have HO := Lib.hid (fun g cap w h1 h2 => or_calls (cmpStr x.f0 y.f0) (cmpInt x.f1 y.f1) g cap w h1 h2)
  generalize cmpStr x.f0 y.f0 = c at *
  generalize cmpInt x.f1 y.f1 = d at *
  generalize (if c ≠ 0 then c else d) = r at *
  clear Hc
  go_enter Try.func90, Try.ntmps90
  go_wp2
  obtain ⟨h1, h2, h3, h4⟩ := box_cells W (.string x.f0) (.int .i64 x.f1) (.int .i64 x.f2) (.string y.f0) (.int .i64 y.f1) (.int .i64 y.f2) 79
  have HG := Lib.hid (show (W.alloc (.cells #[.string x.f0, .int .i64 x.f1, .int .i64 x.f2] 79)).alloc (.cells #[.string y.f0, .int .i64 y.f1, .int .i64 y.f2] 79) = Go.Sort.grow (W.drewN 0) #[.cells #[.string x.f0, .int .i64 x.f1, .int .i64 x.f2] 79, .cells #[.string y.f0, .int .i64 y.f1, .int .i64 y.f2] 79] from rfl)
  generalize (W.alloc (.cells #[.string x.f0, .int .i64 x.f1, .int .i64 x.f2] 79)).alloc (.cells #[.string y.f0, .int .i64 y.f1, .int .i64 y.f2] 79) = W2 at *
  go_still_tail 10, (by kernel_rfl)
  repeat still_step
  still_call (HS.out _)
  repeat still_step
  still_call (HI.out _)
  repeat still_step
  refine wpStill_nil ?_
  change wpList _ _ _ _ _ W2.drew
  go_wp2_with (go_at_call 91; go_must (with_reducible refine (HO.out _ 2 _ (two_cells W2 _ _ 3).1 (two_cells W2 _ _ 3).2).mono ?_); rintro _ _ ⟨rfl, rfl⟩)
  first | go_end0 | go_returns | go_ret
  refine ⟨rfl, 1, #[.cells #[.string x.f0, .int .i64 x.f1, .int .i64 x.f2] 79, .cells #[.string y.f0, .int .i64 y.f1, .int .i64 y.f2] 79, .cells #[.int .i64 c, .int .i64 d] 3], ?_⟩
  rw [HG.out]
  rfl
end Go.Proofs.Ytlbhighbhchdmaa.Q
