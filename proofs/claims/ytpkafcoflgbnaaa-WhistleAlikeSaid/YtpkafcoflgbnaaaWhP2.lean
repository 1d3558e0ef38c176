/- slices.Concat of two lists of numbers. For short ones. -/
import Derived.Test.YtpkafcoflgbnaaaWLast
import Derived.Test.YtpkafcoflgbnaaaWMore
import Derived.Test.YtpkafcoflgbnaaaProg
import Derived.Test.YtpkafcoflgbnaaaShelf
import Derived.OwnWalk
import Derived.Handy
import Derived.Deep.DeepMust
import Derived.Lib.Hide
import Derived.Outline
import Derived.IntWalk
import Derived.Deep.RegionWith
import Derived.Lib.OwnBridge
import Derived.Test.YtpkafcoflgbnaaaWhP1
namespace Go.Proofs.Ytpkafcoflgbnaaa.Q
open Go.RowKit Go.Proofs.YtpkafcoflgbnaaaW.PrintWords Go.Proofs.YtpkafcoflgbnaaaW.PrintLast Go.Proofs.YtpkafcoflgbnaaaW.PrintMore Go.Shelf
set_option linter.unusedVariables false
set_option linter.unusedSimpArgs false
/-! slices.Concat of two lists of numbers. -/
def numsV (S : List Nat) : List Value := S.map fun i : Nat => Value.int .i64 (i : Int)
/-- A list of numbers that lies in a block of its own, from a block on. -/
def SigAt (W : World) (base : Nat) (v : Value) (S : List Nat) : Prop :=
  ∃ b c cur, v = .slice (some ⟨b, 0, none⟩) S.length c ∧ base ≤ b ∧ W.heap[b]? = some (.cells cur 3 (0, 0)) ∧ (∀ j u, (numsV S)[j]? = some u → W.cell? ⟨b, j, none⟩ = some u) ∧ S.length ≤ c ∧ c ≤ maxLen ∧ cur.size = c * 1 ∧ cur.toList.take (S.length * 1) = numsV S
theorem numsV_len (S : List Nat) : (numsV S).length = S.length := by unfold numsV; rw [List.length_map]
theorem numsV_app (S T : List Nat) : numsV (S ++ T) = numsV S ++ numsV T := by unfold numsV; rw [List.map_append]
theorem numsV_one (S : List Nat) : ∀ u ∈ numsV S, u.oneCell' = true := by
  intro u hu
  obtain ⟨i, -, rfl⟩ := List.mem_map.1 hu
  rfl
theorem numsV_get (S : List Nat) (j : Nat) (h : j < S.length) : (numsV S)[j]? = some (.int .i64 (S.getD j 0 : Nat)) := by
  unfold numsV
  rw [List.getElem?_map, List.getElem?_eq_getElem h, List.getD_eq_getElem?_getD, List.getElem?_eq_getElem h]; rfl
theorem SigAt.keep {W W' : World} {base : Nat} {v : Value} {S : List Nat} (h : SigAt W base v S) (hk : ∀ b, base ≤ b → (∃ cur, W.heap[b]? = some (.cells cur 3 (0, 0))) → W'.heap[b]? = W.heap[b]?) : SigAt W' base v S := by
  obtain ⟨b, c, cur, rfl, hb, hh, hj, hx⟩ := h
  have he := hk b hb ⟨cur, hh⟩
  exact ⟨b, c, cur, rfl, hb, he.trans hh, fun j u hu => (World.cell?_of_block he).trans (hj j u hu), hx⟩
theorem SigAt.below {W W' : World} {base : Nat} {v : Value} {S : List Nat} (h : SigAt W base v S) (hb : Below W.heap.size W W') : SigAt W' base v S :=
  h.keep fun b _ ⟨_, hh⟩ => hb.block b (Array.getElem?_eq_some_iff.1 hh).1
theorem SigAt.grown {W W' : World} {base : Nat} {v : Value} {S : List Nat} {row : Option Nat} (h : SigAt W base v S) (hg : W.grownBy W' row) (hr : ∀ k, row = some k → k < base ∨ ∃ cur, W.heap[k]? = some (.cells cur 97 (0, 0))) : SigAt W' base v S :=
  h.keep fun b hb ⟨cur, hh⟩ => hg.block b (Array.getElem?_eq_some_iff.1 hh).1 fun e => by
    rcases hr b e.symm with h1 | ⟨cur', h1⟩
    · omega
    · rw [hh] at h1; injection h1 with h1; injection h1 with _ h1; exact absurd h1 (by decide)
theorem SigAt.oneCell {W : World} {base : Nat} {v : Value} {S : List Nat} (h : SigAt W base v S) : v.oneCell' = true := by
  obtain ⟨b, c, cur, rfl, -⟩ := h
  rfl
theorem SigAt.owns {W : World} {base : Nat} {v : Value} {S : List Nat} (h : SigAt W base v S) : W.ownsRow base 3 1 v S.length (numsV S) := by
  obtain ⟨b, c, cur, rfl, hb, hh, -, h1, h2, h3, h4⟩ := h
  exact ⟨by rw [numsV_len, Nat.mul_one], .inr ⟨b, c, cur, rfl, hb, hh, h1, h2, h3, h4⟩⟩
theorem grow_calls (n : Nat) (h0 : 0 < n) (h1 : n ≤ 1000) (w : World) : Calls Try.prog 111 #[.slice none 0 0, .int .i64 n] w fun e w' =>
    ∃ cap, e = .returned (.slice (some ⟨w.heap.size, 0, none⟩) 0 cap) ∧ n ≤ cap ∧ w'.ownsRow w.heap.size 3 1 (.slice (some ⟨w.heap.size, 0, none⟩) 0 cap) 0 [] ∧ w.grownBy w' none := by
  obtain ⟨i3, hi3, hz30, hz31, hz32⟩ := info_parts (show (Try.prog.info? 3).map (fun i => (i.zero, i.size, i.bytes)) = some (some (.int .i64 0), 1, 8) by kernel_rfl)
  have h := Any8.slices_Grow_grow Try.growI i3 (.int .i64 0) hi3 hz30 (by rw [hz31]; decide) none 0 0 n [] w (Nat.le_refl _) (by omega) (by rw [hz32]; omega) (by omega) (by simp) (fun _ => rfl) (by intro a e; cases e)
  refine Calls.mono (show Calls Try.prog 111 _ _ _ from h) ?_
  rintro e w' ⟨rfl, rfl⟩
  have hge := grownCap_ge w (0 + n) 0 3
  have hle := grownCap_le_maxLen w (0 + n) 0 3 (by unfold maxLen; omega)
  refine ⟨_, rfl, by show n ≤ grownCap w (0 + n) 0 3; omega, ?_, ⟨rfl, rfl, rfl, by simp, fun k hk _ => heap_alloc_old w.drew _ hk⟩⟩
  have := World.ownsRow_made (base := w.heap.size) (size := 1) (e := 3) w.drew (([] : List Value).toArray ++ Builtin.zeroCells (Value.int IntKind.i64 0).cells (0 + n - 0) ++ Builtin.zeroCells (Value.int IntKind.i64 0).cells (grownCap w (0 + n) 0 3 - (0 + n))) (grownCap w (0 + n) 0 3) (Nat.le_refl _) hle (by
    simp only [Array.size_append, List.size_toArray, size_zeroCells, List.length_nil]
    show 0 + (0 + n - 0) * 1 + (grownCap w (0 + n) 0 3 - (0 + n)) * 1 = grownCap w (0 + n) 0 3 * 1
    omega)
  exact this
set_option maxHeartbeats 3200000 in
set_option maxRecDepth 100000 in
theorem concat_calls (W : World) (cb : Nat) (S T : List Nat) (v1 v2 : Value) (hc1 : W.cell? ⟨cb, 0, none⟩ = some v1) (hc2 : W.cell? ⟨cb, 1, none⟩ = some v2) (base : Nat) (hS : SigAt W base v1 S) (hT : SigAt W base v2 T) (h0 : 0 < S.length) (hlen : S.length + T.length ≤ 100) :
    Calls Try.prog 91 #[.slice (some ⟨cb, 0, none⟩) 2 2] W fun e w' => ∃ v, e = .returned v ∧ w'.ownsRow W.heap.size 3 1 v (S ++ T).length (numsV (S ++ T)) ∧ W.grownBy w' none := by
  obtain ⟨i3, hi3, hz30, hz31, hz32⟩ := info_parts (show (Try.prog.info? 3).map (fun i => (i.zero, i.size, i.bytes)) = some (some (.int .i64 0), 1, 8) by kernel_rfl)
  obtain ⟨b1, c1, _, rfl, -, -, hj1, -⟩ := hS
  obtain ⟨b2, c2, _, rfl, -, -, hj2, -⟩ := hT
  have hcb : cb < W.heap.size := World.block_lt_of_cell? _ _ hc1
  obtain ⟨n1, hn1⟩ : ∃ n, S.length = n := ⟨_, rfl⟩
  obtain ⟨n2, hn2⟩ : ∃ n, T.length = n := ⟨_, rfl⟩
  have hg := grow_calls (n1 + n2) (by omega) (by omega) W
  rw [Int.natCast_add] at hg
  have HJ1 := Lib.hid hj1
  have HJ2 := Lib.hid hj2
  have HN := Lib.hid (And.intro hn1 hn2)
  rw [hn1] at hc1 h0 hlen
  rw [hn2] at hc2 hlen
  clear hj1 hj2 hn1 hn2
  rw [show (S ++ T).length = n1 + n2 by rw [List.length_append, HN.out.1, HN.out.2]]
  have e0 : decide (((0 : Nat) : Int) < 2) = true := rfl
  have e1 : decide (((1 : Nat) : Int) < 2) = true := rfl
  have e2 : decide (((2 : Nat) : Int) < 2) = false := rfl
  have s0 : decide (((0 : Nat) : Int) + (n1 : Int) < 0) = false := decide_eq_false (by omega)
  have s1 : decide ((n1 : Int) < 0) = false := decide_eq_false (by omega)
  have s2 : decide ((n1 : Int) + (n2 : Int) < 0) = false := decide_eq_false (by omega)
  go_enter Try.func91, Try.ntmps91
  go_wp2
  refine wp_loop_rounds 3 ?_
  rw [rounds_succ]
  go_wp2
  rw [rounds_succ]
  go_wp2
  rw [rounds_succ]
  go_wp2_with (first | (go_at_call 111; go_must (with_reducible refine hg.mono ?_); rintro _ w1 ⟨cap, rfl, hcap, ho1, hg1⟩))
  have hc11 := hg1.cell hc1 (by simp)
  have hc21 := hg1.cell hc2 (by simp)
  clear hg
  refine wp_loop_rounds 3 ?_
  rw [rounds_succ]
  go_wp2_with (first | (at_builtin; refine wpList_append_fits _ rfl _ _ 35 rfl W.heap.size 3 i3 1 Try.underlying35 hi3 hz31 W.heap.size 0 cap [] rfl ho1 ⟨b1, 0, none⟩ n1 c1 (numsV S) rfl (by rw [numsV_len, HN.out.1]; omega) (fun j u hu => by rw [Addr.add_lit, Nat.zero_add]; exact hg1.cell (HJ1.out j u hu) (by simp)) (numsV_one S) (by omega) ?_; intro w2 ho2 hg2))
  have hg12 : W.grownBy w2 none := ⟨hg2.os.trans hg1.os, hg2.tape.trans hg1.tape, hg2.output.trans hg1.output, Nat.le_trans hg1.size hg2.size, fun k hk _ => (hg2.block k (Nat.lt_of_lt_of_le hk hg1.size) (by intro e; injection e with e; omega)).trans (hg1.block k hk (by simp))⟩
  have hc12 := hg12.cell hc1 (by simp)
  have hc22 := hg12.cell hc2 (by simp)
  simp only [Nat.zero_add, List.nil_append] at ho2
  rw [rounds_succ]
  go_wp2_with (first | (at_builtin; refine wpList_append_fits _ rfl _ _ 35 rfl W.heap.size 3 i3 1 Try.underlying35 hi3 hz31 W.heap.size n1 cap (numsV S) rfl ho2 ⟨b2, 0, none⟩ n2 c2 (numsV T) rfl (by rw [numsV_len, HN.out.2]; omega) (fun j u hu => by rw [Addr.add_lit, Nat.zero_add]; exact hg12.cell (HJ2.out j u hu) (by simp)) (numsV_one T) (by omega) ?_; intro w3 ho3 hg3))
  have hg13 : W.grownBy w3 none := ⟨hg3.os.trans hg12.os, hg3.tape.trans hg12.tape, hg3.output.trans hg12.output, Nat.le_trans hg12.size hg3.size, fun k hk _ => (hg3.block k (Nat.lt_of_lt_of_le hk hg12.size) (by intro e; injection e with e; omega)).trans (hg12.block k hk (by simp))⟩
  rw [rounds_succ]
  go_wp2
  first | go_ret | go_returns | go_end0
  exact ⟨_, rfl, by rw [numsV_app]; exact ho3, hg13⟩
end Go.Proofs.Ytpkafcoflgbnaaa.Q
