import Derived.Test.YtlbhighbhchdmaaQx4
import Derived.Test.YtlbhighbhchdmaaQx7
import Derived.Test.YtlbhighbhchdmaaLibB
namespace Go.Proofs.Ytlbhighbhchdmaa.Pure
open Go.RowKit Go.Proofs.Ytlbhighbhchdmaa.Q Go.Proofs.YtlbhighbhchdmaaW.PrintWords Go.Proofs.YtlbhighbhchdmaaW.PrintLast

/-! What the reference's functions on digits come to: the same. -/

theorem rtimes_all : ∀ x y : Fin 10, wigeonref01_times.f (x.val : Int) (y.val : Int) = some ((tm x.val y.val : Nat) : Int) := by decide +kernel
theorem rtimes_eq {x y : Nat} (hx : x < 10) (hy : y < 10) : wigeonref01_times.f (x : Int) (y : Int) = some ((tm x y : Nat) : Int) := rtimes_all ⟨x, hx⟩ ⟨y, hy⟩
theorem rTimes_eq (x y : Int) : wigeonref01_Times.f x y = some (TimesP x y) := by
  unfold wigeonref01_Times.f TimesP
  rw [isDigit_eq]
  simp only [Option.bind_some]
  by_cases hx : 0 ≤ x ∧ x ≤ 9
  · rw [if_pos (by simp [hx]), isDigit_eq]
    simp only [Option.bind_some]
    by_cases hy : 0 ≤ y ∧ y ≤ 9
    · rw [if_pos (by simp [hy]), if_pos ⟨hx, hy⟩]
      obtain ⟨n, rfl⟩ := Int.eq_ofNat_of_zero_le hx.1
      obtain ⟨m, rfl⟩ := Int.eq_ofNat_of_zero_le hy.1
      rw [rtimes_eq (by omega) (by omega)]
      rfl
    · rw [if_neg (by simp [hy]), if_neg (fun h => hy h.2)]
  · rw [if_neg (by simp [hx]), if_neg (fun h => hx h.1)]
theorem rundo_one : ∀ x : Fin 10, wigeonref01_undo.f 30 (x.val : Int) = some ((ud x.val : Nat) : Int) := by decide +kernel
theorem rUndo_ev (x : Int) : Ev (fun k => wigeonref01_Undo.f k x) (UndoP x) := by
  unfold wigeonref01_Undo.f UndoP
  refine Ev.bindc (isDigit_eq x) ?_
  by_cases hx : 0 ≤ x ∧ x ≤ 9
  · refine Ev.ifp (by simp [hx]) ?_
    rw [if_pos hx]
    obtain ⟨n, rfl⟩ := Int.eq_ofNat_of_zero_le hx.1
    exact Ev.bind (Ev.of (fun k => wigeonref01_undo.mono _ k) (rundo_one ⟨n, by omega⟩)) (Ev.now _)
  · refine Ev.ifn (by simp [hx]) ?_
    rw [if_neg hx]
    exact Ev.now _
theorem rturn_eq {x : Nat} (hx : x < 10) : wigeonref01_turn.f (x : Int) = some ((tn1 x : Nat) : Int) := turn_eq hx
theorem rturned_loop (d : Nat) : ∀ (x : Nat) (n i : Int), x < 10 → 0 ≤ i → i + d = n → n ≤ 1000000 → Ev (fun k => wigeonref01_turned.l0 k (x : Int) n i) ((tn x d : Nat) : Int) := by
  induction d with
  | zero =>
    intro x n i hx hi hd hn
    refine Ev.step (fun k => by rw [wigeonref01_turned.l0]) ?_
    exact Ev.ifn (by omega) (Ev.now _)
  | succ d ih =>
    intro x n i hx hi hd hn
    refine Ev.step (fun k => by rw [wigeonref01_turned.l0]) ?_
    refine Ev.ifp (by omega) (Ev.bindc (rturn_eq hx) ?_)
    rw [w64 (by omega) (by omega)]
    exact ih (tn1 x) n (i + 1) (tn1_lt x) (by omega) (by omega) hn
theorem rturned_ev {x : Nat} (hx : x < 10) (n : Nat) (hn : n ≤ 1000000) : Ev (fun k => wigeonref01_turned.f k (x : Int) (n : Int)) ((tn x n : Nat) : Int) :=
  rturned_loop n x n 0 hx (by omega) (by omega) (by omega)
theorem rsum_loop (l : List Nat) (hl : Digs l) (hlen : l.length ≤ 1000) (n : Nat) : ∀ (c : Nat), c < 10 → n ≤ l.length →
    Ev (fun k => wigeonref01_sum.l0 k (l.map (fun n : Nat => (n : Int))) (c : Int) ((n : Int) - 1)) ((sumN l 0 c n : Nat) : Int) := by
  induction n with
  | zero =>
    intro c hc hn
    refine Ev.step (fun k => by rw [wigeonref01_sum.l0]) ?_
    exact Ev.ifn (by omega) (Ev.now _)
  | succ n ih =>
    intro c hc hn
    refine Ev.step (fun k => by rw [wigeonref01_sum.l0]) ?_
    refine Ev.ifp (by omega) (Ev.ifp (by omega) (Ev.ifp (by rw [List.length_map]; omega) ?_))
    have e1 : ((n + 1 : Nat) : Int) - 1 = (n : Int) := by omega
    rw [e1, List.length_map, w64 (n := (l.length : Int) - 1) (by omega) (by omega), w64 (n := (l.length : Int) - 1 - n) (by omega) (by omega), w64 (n := (n : Int) - 1) (by omega) (by omega), rd_map]
    have e2 : (l.length : Int) - 1 - n = ((l.length - 1 - n + 0 : Nat) : Int) := by omega
    rw [e2]
    refine Ev.bind (rturned_ev (hl n) _ (by omega)) (Ev.bindc (rtimes_eq hc (tn_lt (hl n) _)) ?_)
    exact ih _ (tm_lt hc (tn_lt (hl n) _)) (by omega)
theorem rsum_ev (l : List Nat) (hl : Digs l) (hlen : l.length ≤ 1000) :
    Ev (fun k => wigeonref01_sum.f k (l.map (fun n : Nat => (n : Int)))) ((sum0 l 0 : Nat) : Int) := by
  have h := rsum_loop l hl hlen l.length 0 (by decide) (Nat.le_refl _)
  unfold wigeonref01_sum.f
  rw [List.length_map, w64 (by omega) (by omega)]
  exact h
theorem rdigits_loop (l : List Int) (hlen : l.length ≤ 1000) (d : Nat) : ∀ i : Nat, i + d = l.length →
    Ev (fun k => wigeonref01_digits.l0 k l (i : Int)) (if (l.drop i).all (fun x => decide (0 ≤ x ∧ x ≤ 9)) then 0 else 1) := by
  induction d with
  | zero =>
    intro i hi
    refine Ev.step (fun k => by rw [wigeonref01_digits.l0]) ?_
    refine Ev.ifn (by omega) ?_
    rw [List.drop_of_length_le (by omega)]
    exact Ev.now _
  | succ d ih =>
    intro i hi
    refine Ev.step (fun k => by rw [wigeonref01_digits.l0]) ?_
    refine Ev.ifp (by omega) (Ev.ifp (by omega) (Ev.bindc (isDigit_eq _) ?_))
    rw [rd_lt l i (by omega), List.drop_eq_getElem_cons (show i < l.length by omega), List.all_cons]
    by_cases h : 0 ≤ l[i] ∧ l[i] ≤ 9
    · refine Ev.ifp (by simp [h]) ?_
      rw [w64 (by omega) (by omega)]
      have e : ((i : Int) + 1) = ((i + 1 : Nat) : Int) := by omega
      rw [e, show decide (0 ≤ l[i] ∧ l[i] ≤ 9) = true from decide_eq_true h, Bool.true_and]
      exact ih (i + 1) (by omega)
    · refine Ev.ifn (by simp [h]) ?_
      rw [show decide (0 ≤ l[i] ∧ l[i] ≤ 9) = false from decide_eq_false h, Bool.false_and]
      exact Ev.now _
theorem rdigits_ev (l : List Int) (most : Int) (hm : most ≤ 1000) : Ev (fun k => wigeonref01_digits.f k l most) (listedP l most) := by
  unfold wigeonref01_digits.f listedP
  by_cases h : (l.length : Int) > most
  · simp only [if_pos h]
    exact Ev.now _
  · simp only [if_neg h]
    exact rdigits_loop l (by omega) l.length 0 (by omega)
def SumP (l : List Int) : Int × Int := if listedP l 12 = 0 then (((sum0 (l.map Int.toNat) 0 : Nat) : Int), 0) else (0, listedP l 12)
theorem Sum_ev (l : List Int) : Ev (fun k => ring_Sum.f k l) (SumP l) := by
  unfold ring_Sum.f SumP
  refine Ev.bind (listed_ev l 12 (by omega)) ?_
  by_cases h : listedP l 12 = 0
  · simp only [if_pos h]
    obtain ⟨hl, hd⟩ := listedP_zero h
    obtain ⟨m, rfl, hm⟩ := digs_of l hd
    rw [List.length_map] at hl
    refine Ev.bind (sum_ev m hm (by omega) 0 (by omega)) ?_
    rw [map_toNat]
    exact Ev.now _
  · simp only [if_neg h]
    exact Ev.now _
theorem rSum_ev (l : List Int) : Ev (fun k => wigeonref01_Sum.f k l) (SumP l) := by
  unfold wigeonref01_Sum.f SumP
  refine Ev.bind (rdigits_ev l 12 (by omega)) ?_
  by_cases h : listedP l 12 = 0
  · simp only [if_pos h]
    obtain ⟨hl, hd⟩ := listedP_zero h
    obtain ⟨m, rfl, hm⟩ := digs_of l hd
    rw [List.length_map] at hl
    refine Ev.bind (rsum_ev m hm (by omega)) ?_
    rw [map_toNat]
    exact Ev.now _
  · simp only [if_neg h]
    exact Ev.now _
theorem rcheck_loop (l : List Nat) (hl : Digs l) (hlen : l.length ≤ 100) (j : Nat) : ∀ d : Nat, d + j = 9 → (∀ x, x < d → sum0 (l ++ [x]) 0 ≠ 0) →
    Ev (fun k => wigeonref01_checkDigit.l0 k (l.map (fun n : Nat => (n : Int))) (d : Int)) ((ud (sum0 l 1) : Nat) : Int) := by
  induction j with
  | zero =>
    intro d hd hn
    refine Ev.step (fun k => by rw [wigeonref01_checkDigit.l0]) ?_
    refine Ev.ifn (by omega) (Ev.val ?_)
    have h1 := ud_lt (sum0_lt hl 1)
    have h2 : ¬ ud (sum0 l 1) < d := fun h => hn _ h (check_zero hl)
    omega
  | succ j ih =>
    intro d hd hn
    refine Ev.step (fun k => by rw [wigeonref01_checkDigit.l0]) ?_
    refine Ev.ifp (by omega) (Ev.some_bind (Ev.ifp (by simp only [List.length_map, List.length_nil]; omega) (Ev.some_bind (Ev.ifp (by simp only [List.length_append, List.length_map, List.length_nil]; omega) ?_))))
    have e : ([] ++ l.map (fun n : Nat => (n : Int))) ++ [(d : Int)] = (l ++ [d]).map (fun n : Nat => (n : Int)) := by simp
    rw [e]
    refine Ev.bind (rsum_ev (l ++ [d]) (hl.snoc (by omega)) (by simp; omega)) ?_
    by_cases h0 : sum0 (l ++ [d]) 0 = 0
    · refine Ev.ifp (by rw [h0]; rfl) (Ev.val ?_)
      rw [check_only hl (by omega) h0]
    · refine Ev.ifn (by omega) ?_
      rw [w64 (by omega) (by omega)]
      have e2 : (d : Int) + 1 = ((d + 1 : Nat) : Int) := by omega
      rw [e2]
      refine ih (d + 1) (by omega) fun x hx => ?_
      by_cases hxd : x = d
      · rw [hxd]; exact h0
      · exact hn x (by omega)
theorem rCheck_ev (l : List Int) : Ev (fun k => wigeonref01_CheckDigit.f k l) (CheckP l) := by
  unfold wigeonref01_CheckDigit.f CheckP
  refine Ev.bind (rdigits_ev l 11 (by omega)) ?_
  by_cases h : listedP l 11 = 0
  · simp only [if_pos h]
    obtain ⟨hl, hd⟩ := listedP_zero h
    obtain ⟨m, rfl, hm⟩ := digs_of l hd
    rw [List.length_map] at hl
    rw [map_toNat]
    exact Ev.bind (rcheck_loop m hm (by omega) 9 0 rfl (fun x hx => by omega)) (Ev.now _)
  · simp only [if_neg h]
    exact Ev.now _
def TurnP (x n : Int) : Int × Int := if (0 ≤ x ∧ x ≤ 9) ∧ (0 ≤ n ∧ n ≤ 1000) then (((tn x.toNat n.toNat : Nat) : Int), 0) else (0, 1)
theorem Turn_ev (x n : Int) : Ev (fun k => ring_Turn.f k x n) (TurnP x n) := by
  unfold ring_Turn.f TurnP
  refine Ev.bindc (digit_eq x) ?_
  by_cases hx : 0 ≤ x ∧ x ≤ 9
  · refine Ev.ifp (by simp [hx]) ?_
    by_cases h1 : n < 0
    · refine Ev.ifp h1 ?_
      rw [if_neg (by omega)]
      exact Ev.now _
    · refine Ev.ifn h1 ?_
      by_cases h2 : n > 1000
      · refine Ev.ifp h2 ?_
        rw [if_neg (by omega)]
        exact Ev.now _
      · refine Ev.ifn h2 ?_
        rw [if_pos (by omega)]
        obtain ⟨m, rfl⟩ := Int.eq_ofNat_of_zero_le hx.1
        obtain ⟨p, rfl⟩ := Int.eq_ofNat_of_zero_le (show 0 ≤ n by omega)
        exact Ev.bind (turned_ev (by omega) p (by omega)) (Ev.now _)
  · refine Ev.ifn (by simp [hx]) ?_
    rw [if_neg (fun h => hx h.1)]
    exact Ev.now _
theorem rTurn_ev (x n : Int) : Ev (fun k => wigeonref01_Turn.f k x n) (TurnP x n) := by
  unfold wigeonref01_Turn.f TurnP
  refine Ev.bindc (isDigit_eq x) ?_
  by_cases hx : 0 ≤ x ∧ x ≤ 9
  · refine Ev.ifp (by simp [hx]) ?_
    by_cases h1 : n < 0
    · refine Ev.ifp h1 ?_
      rw [if_neg (by omega)]
      exact Ev.now _
    · refine Ev.ifn h1 ?_
      by_cases h2 : n > 1000
      · refine Ev.ifp h2 ?_
        rw [if_neg (by omega)]
        exact Ev.now _
      · refine Ev.ifn h2 ?_
        rw [if_pos (by omega)]
        obtain ⟨m, rfl⟩ := Int.eq_ofNat_of_zero_le hx.1
        obtain ⟨p, rfl⟩ := Int.eq_ofNat_of_zero_le (show 0 ≤ n by omega)
        exact Ev.bind (rturned_ev (by omega) p (by omega)) (Ev.now _)
  · refine Ev.ifn (by simp [hx]) ?_
    rw [if_neg (fun h => hx h.1)]
    exact Ev.now _

end Go.Proofs.Ytlbhighbhchdmaa.Pure
