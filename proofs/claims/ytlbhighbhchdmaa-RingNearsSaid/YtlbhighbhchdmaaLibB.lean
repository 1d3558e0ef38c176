import Derived.Test.YtlbhighbhchdmaaQx2
import Derived.Test.YtlbhighbhchdmaaQx4
import Derived.Test.YtlbhighbhchdmaaLibA
namespace Go.Proofs.Ytlbhighbhchdmaa.Pure
open Go.RowKit Go.Proofs.Ytlbhighbhchdmaa.Q Go.Proofs.YtlbhighbhchdmaaW.PrintWords Go.Proofs.YtlbhighbhchdmaaW.PrintLast

/-! What the program's functions on digits come to. -/

theorem w64 {n : Int} (h0 : -9223372036854775808 ≤ n) (h1 : n < 9223372036854775808) : wrap64 n = n := by
  unfold wrap64
  omega
theorem wf64 {a : Int} (h : (Lit.int .i64 a).wf = true) : -9223372036854775808 ≤ a ∧ a < 9223372036854775808 := by
  simp [Lit.wf, IntKind.min, IntKind.max, IntKind.signed, IntKind.bits] at h
  omega
theorem rd_map (l : List Nat) (i : Nat) : rd (l.map (fun n : Nat => (n : Int))) (i : Int) = ((l.getD i 0 : Nat) : Int) := by
  unfold rd
  rw [Int.toNat_natCast, List.getD_eq_getElem?_getD, List.getD_eq_getElem?_getD, List.getElem?_map]
  cases l[i]? <;> rfl
theorem digs_of (l : List Int) (h : ∀ x ∈ l, 0 ≤ x ∧ x ≤ 9) : ∃ m : List Nat, l = m.map (fun n : Nat => (n : Int)) ∧ Digs m := by
  refine ⟨l.map Int.toNat, ?_, ?_⟩
  · rw [List.map_map]
    conv => lhs; rw [← List.map_id l]
    apply List.map_congr_left
    intro x hx
    have := (h x hx).1
    simp; omega
  · refine Digs.of fun y hy => ?_
    obtain ⟨x, hx, rfl⟩ := List.mem_map.1 hy
    have := h x hx
    omega

theorem digit_eq (x : Int) : ring_digit.f x = some (decide (0 ≤ x ∧ x ≤ 9)) := by
  unfold ring_digit.f
  by_cases h : x ≥ 0
  · rw [if_pos h]
    have h' : 0 ≤ x := h
    simp [h']
  · rw [if_neg h]
    have h' : ¬ 0 ≤ x := h
    simp [h']
theorem isDigit_eq (x : Int) : wigeonref01_isDigit.f x = some (decide (0 ≤ x ∧ x ≤ 9)) := digit_eq x

theorem times_one : ∀ x y : Fin 10, ring_times.f 1 (x.val : Int) (y.val : Int) = some ((tm x.val y.val : Nat) : Int) := by decide +kernel
theorem times_ev {x y : Nat} (hx : x < 10) (hy : y < 10) : Ev (fun k => ring_times.f k (x : Int) (y : Int)) ((tm x y : Nat) : Int) :=
  Ev.of (fun k => ring_times.mono _ _ k) (times_one ⟨x, hx⟩ ⟨y, hy⟩)
theorem undo_all : ∀ x : Fin 10, ring_undo.f (x.val : Int) = some ((ud x.val : Nat) : Int) := by decide +kernel
theorem undo_eq {x : Nat} (hx : x < 10) : ring_undo.f (x : Int) = some ((ud x : Nat) : Int) := undo_all ⟨x, hx⟩
theorem turn_all : ∀ x : Fin 10, ring_turn.f (x.val : Int) = some ((tn1 x.val : Nat) : Int) := by decide +kernel
theorem turn_eq {x : Nat} (hx : x < 10) : ring_turn.f (x : Int) = some ((tn1 x : Nat) : Int) := turn_all ⟨x, hx⟩

theorem turned_loop (d : Nat) : ∀ (x : Nat) (n i : Int), x < 10 → 0 ≤ i → i + d = n → n ≤ 1000000 → Ev (fun k => ring_turned.l0 k (x : Int) n i) ((tn x d : Nat) : Int) := by
  induction d with
  | zero =>
    intro x n i hx hi hd hn
    refine Ev.step (fun k => by rw [ring_turned.l0]) ?_
    exact Ev.ifn (by omega) (Ev.now _)
  | succ d ih =>
    intro x n i hx hi hd hn
    refine Ev.step (fun k => by rw [ring_turned.l0]) ?_
    refine Ev.ifp (by omega) (Ev.bindc (turn_eq hx) ?_)
    rw [w64 (by omega) (by omega)]
    exact ih (tn1 x) n (i + 1) (tn1_lt x) (by omega) (by omega) hn
theorem turned_ev {x : Nat} (hx : x < 10) (n : Nat) (hn : n ≤ 1000000) : Ev (fun k => ring_turned.f k (x : Int) (n : Int)) ((tn x n : Nat) : Int) :=
  turned_loop n x n 0 hx (by omega) (by omega) (by omega)

theorem sum_loop (l : List Nat) (hl : Digs l) (hlen : l.length ≤ 1000) (b : Nat) (hb : b ≤ 1000) (n : Nat) : ∀ (c : Nat), c < 10 → n ≤ l.length →
    Ev (fun k => ring_sum.l0 k (l.map (fun n : Nat => (n : Int))) (b : Int) (c : Int) ((n : Int) - 1)) ((sumN l b c n : Nat) : Int) := by
  induction n with
  | zero =>
    intro c hc hn
    refine Ev.step (fun k => by rw [ring_sum.l0]) ?_
    exact Ev.ifn (by omega) (Ev.now _)
  | succ n ih =>
    intro c hc hn
    refine Ev.step (fun k => by rw [ring_sum.l0]) ?_
    refine Ev.ifp (by omega) (Ev.ifp (by omega) (Ev.ifp (by rw [List.length_map]; omega) ?_))
    have e1 : ((n + 1 : Nat) : Int) - 1 = (n : Int) := by omega
    rw [e1, List.length_map, w64 (n := (l.length : Int) - 1) (by omega) (by omega), w64 (n := (l.length : Int) - 1 - n) (by omega) (by omega), w64 (n := (l.length : Int) - 1 - n + b) (by omega) (by omega), w64 (n := (n : Int) - 1) (by omega) (by omega), rd_map]
    have e2 : (l.length : Int) - 1 - n + b = ((l.length - 1 - n + b : Nat) : Int) := by omega
    rw [e2]
    refine Ev.bind (turned_ev (hl n) _ (by omega)) (Ev.bind (times_ev hc (tn_lt (hl n) _)) ?_)
    exact ih _ (tm_lt hc (tn_lt (hl n) _)) (by omega)
theorem sum_ev (l : List Nat) (hl : Digs l) (hlen : l.length ≤ 1000) (b : Nat) (hb : b ≤ 1000) :
    Ev (fun k => ring_sum.f k (l.map (fun n : Nat => (n : Int))) (b : Int)) ((sum0 l b : Nat) : Int) := by
  have h := sum_loop l hl hlen b hb l.length 0 (by decide) (Nat.le_refl _)
  unfold ring_sum.f
  rw [List.length_map, w64 (by omega) (by omega)]
  exact h

/-- What a list of digits is refused with. -/
def listedP (l : List Int) (most : Int) : Int := if (l.length : Int) > most then 3 else if l.all (fun x => decide (0 ≤ x ∧ x ≤ 9)) then 0 else 1
theorem listedP_zero {l : List Int} {most : Int} (h : listedP l most = 0) : (l.length : Int) ≤ most ∧ ∀ x ∈ l, 0 ≤ x ∧ x ≤ 9 := by
  unfold listedP at h
  split at h
  · omega
  · split at h
    · rename_i h1 h2
      rw [List.all_eq_true] at h2
      exact ⟨by omega, fun x hx => of_decide_eq_true (h2 x hx)⟩
    · omega
theorem listedP_of {l : List Int} {most : Int} (h : (l.length : Int) ≤ most) (h2 : ∀ x ∈ l, 0 ≤ x ∧ x ≤ 9) : listedP l most = 0 := by
  unfold listedP
  rw [if_neg (by omega), if_pos]
  rw [List.all_eq_true]
  exact fun x hx => decide_eq_true (h2 x hx)
theorem rd_lt (l : List Int) (i : Nat) (h : i < l.length) : rd l (i : Int) = l[i] := by
  unfold rd
  rw [Int.toNat_natCast, List.getD_eq_getElem?_getD, List.getElem?_eq_getElem h]; rfl
theorem listed_loop (l : List Int) (hlen : l.length ≤ 1000) (d : Nat) : ∀ i : Nat, i + d = l.length →
    Ev (fun k => ring_listed.l0 k l (l.length : Int) (i : Int)) (if (l.drop i).all (fun x => decide (0 ≤ x ∧ x ≤ 9)) then 0 else 1) := by
  induction d with
  | zero =>
    intro i hi
    refine Ev.step (fun k => by rw [ring_listed.l0]) ?_
    refine Ev.ifn (by omega) ?_
    rw [List.drop_of_length_le (by omega)]
    exact Ev.now _
  | succ d ih =>
    intro i hi
    refine Ev.step (fun k => by rw [ring_listed.l0]) ?_
    refine Ev.ifp (by omega) (Ev.ifp (by omega) (Ev.ifp (by omega) (Ev.bindc (digit_eq _) ?_)))
    rw [rd_lt l i (by omega), List.drop_eq_getElem_cons (show i < l.length by omega), List.all_cons]
    by_cases h : 0 ≤ l[i] ∧ l[i] ≤ 9
    · refine Ev.ifp (by simp [h]) ?_
      rw [w64 (by omega) (by omega)]
      have e : ((i : Int) + 1) = ((i + 1 : Nat) : Int) := by omega
      rw [e, show decide (0 ≤ l[i] ∧ l[i] ≤ 9) = true from decide_eq_true h, Bool.true_and]
      exact ih (i + 1) (by omega)
    · refine Ev.ifn (by simp [h]) ?_
      rw [show decide (0 ≤ l[i] ∧ l[i] ≤ 9) = false from decide_eq_false h, Bool.false_and]
      exact Ev.now _
theorem listed_ev (l : List Int) (most : Int) (hm : most ≤ 1000) : Ev (fun k => ring_listed.f k l most) (listedP l most) := by
  unfold ring_listed.f listedP
  by_cases h : (l.length : Int) > most
  · simp only [if_pos h]
    exact Ev.now _
  · simp only [if_neg h]
    exact listed_loop l (by omega) l.length 0 (by omega)

def CheckP (l : List Int) : Int × Int := if listedP l 11 = 0 then (((ud (sum0 (l.map Int.toNat) 1) : Nat) : Int), 0) else (0, listedP l 11)
theorem map_toNat (m : List Nat) : (m.map (fun n : Nat => (n : Int))).map Int.toNat = m := by
  rw [List.map_map]
  conv => rhs; rw [← List.map_id m]
  exact List.map_congr_left fun x _ => by simp
theorem check_ev (l : List Int) : Ev (fun k => ring_CheckDigit.f k l) (CheckP l) := by
  unfold ring_CheckDigit.f CheckP
  refine Ev.bind (listed_ev l 11 (by omega)) ?_
  by_cases h : listedP l 11 = 0
  · simp only [if_pos h]
    obtain ⟨hl, hd⟩ := listedP_zero h
    obtain ⟨m, rfl, hm⟩ := digs_of l hd
    rw [List.length_map] at hl
    refine Ev.bind (sum_ev m hm (by omega) 1 (by omega)) ?_
    rw [map_toNat]
    exact Ev.bindc (undo_eq (sum0_lt hm 1)) (Ev.now _)
  · simp only [if_neg h]
    exact Ev.now _

def TimesP (x y : Int) : Int × Int := if (0 ≤ x ∧ x ≤ 9) ∧ (0 ≤ y ∧ y ≤ 9) then (((tm x.toNat y.toNat : Nat) : Int), 0) else (0, 1)
theorem Times_ev (x y : Int) : Ev (fun k => ring_Times.f k x y) (TimesP x y) := by
  unfold ring_Times.f TimesP
  refine Ev.bindc (digit_eq x) ?_
  by_cases hx : 0 ≤ x ∧ x ≤ 9
  · refine Ev.ifp (by simp [hx]) (Ev.bindc (digit_eq y) ?_)
    by_cases hy : 0 ≤ y ∧ y ≤ 9
    · refine Ev.ifp (by simp [hy]) ?_
      rw [if_pos ⟨hx, hy⟩]
      obtain ⟨n, rfl⟩ := Int.eq_ofNat_of_zero_le hx.1
      obtain ⟨m, rfl⟩ := Int.eq_ofNat_of_zero_le hy.1
      exact Ev.bind (times_ev (by omega) (by omega)) (Ev.now _)
    · refine Ev.ifn (by simp [hy]) ?_
      rw [if_neg (fun h => hy h.2)]
      exact Ev.now _
  · refine Ev.ifn (by simp [hx]) ?_
    rw [if_neg (fun h => hx h.1)]
    exact Ev.now _
def UndoP (x : Int) : Int × Int := if 0 ≤ x ∧ x ≤ 9 then (((ud x.toNat : Nat) : Int), 0) else (0, 1)
theorem Undo_eq (x : Int) : ring_Undo.f x = some (UndoP x) := by
  unfold ring_Undo.f UndoP
  rw [digit_eq]
  simp only [Option.bind_some]
  by_cases hx : 0 ≤ x ∧ x ≤ 9
  · rw [if_pos (by simp [hx]), if_pos hx]
    obtain ⟨n, rfl⟩ := Int.eq_ofNat_of_zero_le hx.1
    rw [undo_eq (by omega)]
    rfl
  · rw [if_neg (by simp [hx]), if_neg hx]
theorem known_ev : Ev (fun k => wigeonlaw01_known.f k) true := Ev.of (fun k => wigeonlaw01_known.mono k) (k := 20) (by decide +kernel)
theorem known_bind : Ev (fun k => (wigeonlaw01_known.f k).bind fun t => some t) true := Ev.bind known_ev (Ev.now _)

end Go.Proofs.Ytlbhighbhchdmaa.Pure
