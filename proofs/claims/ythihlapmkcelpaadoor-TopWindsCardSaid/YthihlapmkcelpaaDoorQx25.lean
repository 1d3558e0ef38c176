-- Written by a program of this session (wip/tools/gprint.py, over the kit's print); Lean checks it.
import Derived.Test.YthihlapmkcelpaaDoorQx0
import Derived.Test.YthihlapmkcelpaaDoorQx2
import Derived.Test.YthihlapmkcelpaaDoorQx5
import Derived.Test.YthihlapmkcelpaaDoorQx7
import Derived.Test.YthihlapmkcelpaaDoorQx10
import Derived.Test.YthihlapmkcelpaaDoorQx16
import Derived.Test.YthihlapmkcelpaaDoorQx19
namespace Go.Proofs.YthihlapmkcelpaaDoor.Q
open Go.RowKit Go.Proofs.YthihlapmkcelpaaDoorW.PrintWords Go.Proofs.YthihlapmkcelpaaDoorW.PrintLast Go.Proofs.YthihlapmkcelpaaDoorW.PrintMore
attribute [local go_sem] max2_int min2_int max_two min_two max_three min_three max_four min_four   -- for this text's walks alone
set_option linter.unusedVariables false
set_option linter.unusedSimpArgs false

/-! ### wigeontop_TopWinds: function 9 -/
mutual
def wigeontop_TopWinds.j0 : Nat → List (S33) → List Int → Int → Bool → Option (Bool)
 | 0, _, _, _, _ => none
 | k + 1, x0, x1, x2, x46 => if x46 = true then (some false) else ((wigeonlaw03_Many.f x0).bind fun t403 => (if t403 = true then (wigeontop_TopWinds.j1 k x0 x1 x2 true) else (wigeontop_TopWinds.j1 k x0 x1 x2 (decide ((x1.length : Int) > 59)))))
def wigeontop_TopWinds.j1 : Nat → List (S33) → List Int → Int → Bool → Option (Bool)
 | 0, _, _, _, _ => none
 | k + 1, x0, x1, x2, x53 => if x53 = true then (some true) else ((wind_Lee.f k x0).bind fun bt404 => (if bt404.2 = 0 then ((wind_Fewest.f k x0).bind fun bt406 => ((wind_Apart.f k x0).bind fun bt411 => (if bt406.2.2 = 0 then (if bt411.2 = 0 then (if (bt406.2.1 != (bt404.1 == 0)) = true then (wigeontop_TopWinds.j2 k x0 x1 x2 bt404.1 bt406.1 bt406.2.1 bt411.1 true) else ((wind_CheckApart.f k x0 bt411.1).bind fun t415 => (if t415 = 0 then (if bt406.2.1 = true then (wigeontop_TopWinds.j2 k x0 x1 x2 bt404.1 bt406.1 bt406.2.1 bt411.1 (decide ((bt411.1.length : Int) > (bt406.1.length : Int)))) else (wigeontop_TopWinds.j2 k x0 x1 x2 bt404.1 bt406.1 bt406.2.1 bt411.1 false)) else (wigeontop_TopWinds.j2 k x0 x1 x2 bt404.1 bt406.1 bt406.2.1 bt411.1 true)))) else (wigeontop_TopWinds.j2 k x0 x1 x2 bt404.1 bt406.1 bt406.2.1 bt411.1 true)) else (wigeontop_TopWinds.j2 k x0 x1 x2 bt404.1 bt406.1 bt406.2.1 bt411.1 true)))) else (some (bt404.1 == 0))))
def wigeontop_TopWinds.j2 : Nat → List (S33) → List Int → Int → Int → List Int → Bool → List Int → Bool → Option (Bool)
 | 0, _, _, _, _, _, _, _, _ => none
 | k + 1, x0, x1, x2, x9, x11, x12, x14, x101 => if x101 = true then (some false) else ((wind_Covers.f k x0 x11).bind fun bt416 => (if bt416.2 = 0 then (wigeontop_TopWinds.j3 k x0 x1 x2 x9 x14 (bt416.1 != x12)) else (wigeontop_TopWinds.j3 k x0 x1 x2 x9 x14 true)))
def wigeontop_TopWinds.j3 : Nat → List (S33) → List Int → Int → Int → List Int → Bool → Option (Bool)
 | 0, _, _, _, _, _, _ => none
 | k + 1, x0, x1, x2, x9, x14, x114 => if x114 = true then (some false) else (if (Int.tmod x2 32) < 0 then (wigeontop_TopWinds.j4 k x0 x1 (wrap64 ((Int.tmod x2 32) + 32)) x9 x14) else (wigeontop_TopWinds.j4 k x0 x1 (Int.tmod x2 32) x9 x14))
def wigeontop_TopWinds.j4 : Nat → List (S33) → List Int → Int → Int → List Int → Option (Bool)
 | 0, _, _, _, _, _ => none
 | k + 1, x0, x1, x2, x9, x14 => wigeontop_TopWinds.l0 k x0 x1 x2 x9 x14 ([] : List (S33)) 0
def wigeontop_TopWinds.l0 : Nat → List (S33) → List Int → Int → Int → List Int → List (S33) → Int → Option (Bool)
 | 0, _, _, _, _, _, _, _ => none
 | k + 1, x0, x1, x2, x9, x14, x18, x19 => if x19 < (x0.length : Int) then (if 0 ≤ x19 then (if x18.length < 8796093022208 then ((wind_Points.f ((rd_T33 x0 x19).f0) ((rd_T33 x0 x19).f1)).bind fun bt425 => ((wind_Points.f (Int.tmod (wrap64 (((rd_T33 x0 x19).f0) + x2)) 32) ((rd_T33 x0 x19).f1)).bind fun bt427 => ((wind_Turn.f bt425.1 x2).bind fun bt429 => (if bt425.2 = 0 then (if bt427.2 = 0 then (if bt429.2 = 0 then (if bt427.1 = bt429.1 then (wigeontop_TopWinds.l0 k x0 x1 x2 x9 x14 (x18 ++ [(⟨Int.tmod (wrap64 (((rd_T33 x0 x19).f0) + x2)) 32, (rd_T33 x0 x19).f1⟩ : S33)]) (wrap64 (x19 + 1))) else (some false)) else (some false)) else (some false)) else (some false))))) else (none)) else (none)) else ((wind_Lee.f k x18).bind fun bt431 => ((wind_Turn.f x9 x2).bind fun bt433 => ((wind_Apart.f k x18).bind fun bt435 => (if bt431.2 = 0 then (if bt433.2 = 0 then (if bt435.2 = 0 then (if bt431.1 = bt433.1 then (wigeontop_TopWinds.j6 k x1 ((bt435.1.length : Int) != (x14.length : Int))) else (wigeontop_TopWinds.j6 k x1 true)) else (wigeontop_TopWinds.j6 k x1 true)) else (wigeontop_TopWinds.j6 k x1 true)) else (wigeontop_TopWinds.j6 k x1 true)))))
def wigeontop_TopWinds.j6 : Nat → List Int → Bool → Option (Bool)
 | 0, _, _ => none
 | k + 1, x1, x216 => if x216 = true then (some false) else ((wind_Veer.f x1).bind fun bt439 => (if bt439.2 = 0 then (if (x1.length : Int) = 0 then (some true) else (if 0 ≤ (wrap64 ((x1.length : Int) - 1)) then (if (wrap64 ((x1.length : Int) - 1)) < (x1.length : Int) then (if 0 < (x1.length : Int) then ((wind_Across.f (rd x1 (wrap64 ((x1.length : Int) - 1))) (rd x1 0)).bind fun bt443 => (if bt443.2 = 0 then (some ((Int.tmod (wrap64 (bt439.1 + bt443.1)) 32) == 0)) else (some false))) else (none)) else (none)) else (none))) else (some true)))
end
def wigeontop_TopWinds.f (k : Nat) (l0 : List (S33)) (l1 : List Int) (a2 : Int) : Option (Bool) := (wind_Across.f 0 16).bind fun bt401 => (if bt401.2 = 0 then (wigeontop_TopWinds.j0 k l0 l1 a2 (bt401.1 != 16)) else (wigeontop_TopWinds.j0 k l0 l1 a2 true))
theorem wigeontop_TopWinds.mono_l : ∀ k, (∀ y0 y1 y2 y3, LeO (wigeontop_TopWinds.j0 k y0 y1 y2 y3) (wigeontop_TopWinds.j0 (k + 1) y0 y1 y2 y3)) ∧ (∀ y0 y1 y2 y3, LeO (wigeontop_TopWinds.j1 k y0 y1 y2 y3) (wigeontop_TopWinds.j1 (k + 1) y0 y1 y2 y3)) ∧ (∀ y0 y1 y2 y3 y4 y5 y6 y7, LeO (wigeontop_TopWinds.j2 k y0 y1 y2 y3 y4 y5 y6 y7) (wigeontop_TopWinds.j2 (k + 1) y0 y1 y2 y3 y4 y5 y6 y7)) ∧ (∀ y0 y1 y2 y3 y4 y5, LeO (wigeontop_TopWinds.j3 k y0 y1 y2 y3 y4 y5) (wigeontop_TopWinds.j3 (k + 1) y0 y1 y2 y3 y4 y5)) ∧ (∀ y0 y1 y2 y3 y4, LeO (wigeontop_TopWinds.j4 k y0 y1 y2 y3 y4) (wigeontop_TopWinds.j4 (k + 1) y0 y1 y2 y3 y4)) ∧ (∀ y0 y1 y2 y3 y4 y5 y6, LeO (wigeontop_TopWinds.l0 k y0 y1 y2 y3 y4 y5 y6) (wigeontop_TopWinds.l0 (k + 1) y0 y1 y2 y3 y4 y5 y6)) ∧ (∀ y0 y1, LeO (wigeontop_TopWinds.j6 k y0 y1) (wigeontop_TopWinds.j6 (k + 1) y0 y1))
 | 0 => ⟨fun _ _ _ _ r h => by simp [wigeontop_TopWinds.j0] at h, fun _ _ _ _ r h => by simp [wigeontop_TopWinds.j1] at h, fun _ _ _ _ _ _ _ _ r h => by simp [wigeontop_TopWinds.j2] at h, fun _ _ _ _ _ _ r h => by simp [wigeontop_TopWinds.j3] at h, fun _ _ _ _ _ r h => by simp [wigeontop_TopWinds.j4] at h, fun _ _ _ _ _ _ _ r h => by simp [wigeontop_TopWinds.l0] at h, fun _ _ r h => by simp [wigeontop_TopWinds.j6] at h⟩
 | k + 1 => by
  obtain ⟨ih0, ih1, ih2, ih3, ih4, ih5, ih6⟩ := wigeontop_TopWinds.mono_l k
  refine ⟨?_, ?_, ?_, ?_, ?_, ?_, ?_⟩
  ·intro y0 y1 y2 y3
   unfold wigeontop_TopWinds.j0
   repeat' first
   | (with_reducible exact ih0 _ _ _ _)
   | (with_reducible exact ih1 _ _ _ _)
   | (with_reducible exact ih2 _ _ _ _ _ _ _ _)
   | (with_reducible exact ih3 _ _ _ _ _ _)
   | (with_reducible exact ih4 _ _ _ _ _)
   | (with_reducible exact ih5 _ _ _ _ _ _ _)
   | (with_reducible exact ih6 _ _)
   | (with_reducible exact wind_Apart.mono _ _)
   | (with_reducible exact wind_CheckApart.mono _ _ _)
   | (with_reducible exact wind_Covers.mono _ _ _)
   | (with_reducible exact wind_Fewest.mono _ _)
   | (with_reducible exact wind_Lee.mono _ _)
   | (with_reducible exact LeO.refl _)
   | (with_reducible exact LeO.none _)
   | (with_reducible refine LeO.ite ?_ ?_)
   | (with_reducible refine LeO.bind ?_ (fun _ => ?_))
   | exact ih0 _ _ _ _
   | exact ih1 _ _ _ _
   | exact ih2 _ _ _ _ _ _ _ _
   | exact ih3 _ _ _ _ _ _
   | exact ih4 _ _ _ _ _
   | exact ih5 _ _ _ _ _ _ _
   | exact ih6 _ _
   | exact wind_Apart.mono _ _
   | exact wind_CheckApart.mono _ _ _
   | exact wind_Covers.mono _ _ _
   | exact wind_Fewest.mono _ _
   | exact wind_Lee.mono _ _
   | exact LeO.none _
   | refine LeO.ite ?_ ?_
   | refine LeO.bind ?_ (fun _ => ?_)
  ·intro y0 y1 y2 y3
   unfold wigeontop_TopWinds.j1
   repeat' first
   | (with_reducible exact ih0 _ _ _ _)
   | (with_reducible exact ih1 _ _ _ _)
   | (with_reducible exact ih2 _ _ _ _ _ _ _ _)
   | (with_reducible exact ih3 _ _ _ _ _ _)
   | (with_reducible exact ih4 _ _ _ _ _)
   | (with_reducible exact ih5 _ _ _ _ _ _ _)
   | (with_reducible exact ih6 _ _)
   | (with_reducible exact wind_Apart.mono _ _)
   | (with_reducible exact wind_CheckApart.mono _ _ _)
   | (with_reducible exact wind_Covers.mono _ _ _)
   | (with_reducible exact wind_Fewest.mono _ _)
   | (with_reducible exact wind_Lee.mono _ _)
   | (with_reducible exact LeO.refl _)
   | (with_reducible exact LeO.none _)
   | (with_reducible refine LeO.ite ?_ ?_)
   | (with_reducible refine LeO.bind ?_ (fun _ => ?_))
   | exact ih0 _ _ _ _
   | exact ih1 _ _ _ _
   | exact ih2 _ _ _ _ _ _ _ _
   | exact ih3 _ _ _ _ _ _
   | exact ih4 _ _ _ _ _
   | exact ih5 _ _ _ _ _ _ _
   | exact ih6 _ _
   | exact wind_Apart.mono _ _
   | exact wind_CheckApart.mono _ _ _
   | exact wind_Covers.mono _ _ _
   | exact wind_Fewest.mono _ _
   | exact wind_Lee.mono _ _
   | exact LeO.none _
   | refine LeO.ite ?_ ?_
   | refine LeO.bind ?_ (fun _ => ?_)
  ·intro y0 y1 y2 y3 y4 y5 y6 y7
   unfold wigeontop_TopWinds.j2
   repeat' first
   | (with_reducible exact ih0 _ _ _ _)
   | (with_reducible exact ih1 _ _ _ _)
   | (with_reducible exact ih2 _ _ _ _ _ _ _ _)
   | (with_reducible exact ih3 _ _ _ _ _ _)
   | (with_reducible exact ih4 _ _ _ _ _)
   | (with_reducible exact ih5 _ _ _ _ _ _ _)
   | (with_reducible exact ih6 _ _)
   | (with_reducible exact wind_Apart.mono _ _)
   | (with_reducible exact wind_CheckApart.mono _ _ _)
   | (with_reducible exact wind_Covers.mono _ _ _)
   | (with_reducible exact wind_Fewest.mono _ _)
   | (with_reducible exact wind_Lee.mono _ _)
   | (with_reducible exact LeO.refl _)
   | (with_reducible exact LeO.none _)
   | (with_reducible refine LeO.ite ?_ ?_)
   | (with_reducible refine LeO.bind ?_ (fun _ => ?_))
   | exact ih0 _ _ _ _
   | exact ih1 _ _ _ _
   | exact ih2 _ _ _ _ _ _ _ _
   | exact ih3 _ _ _ _ _ _
   | exact ih4 _ _ _ _ _
   | exact ih5 _ _ _ _ _ _ _
   | exact ih6 _ _
   | exact wind_Apart.mono _ _
   | exact wind_CheckApart.mono _ _ _
   | exact wind_Covers.mono _ _ _
   | exact wind_Fewest.mono _ _
   | exact wind_Lee.mono _ _
   | exact LeO.none _
   | refine LeO.ite ?_ ?_
   | refine LeO.bind ?_ (fun _ => ?_)
  ·intro y0 y1 y2 y3 y4 y5
   unfold wigeontop_TopWinds.j3
   repeat' first
   | (with_reducible exact ih0 _ _ _ _)
   | (with_reducible exact ih1 _ _ _ _)
   | (with_reducible exact ih2 _ _ _ _ _ _ _ _)
   | (with_reducible exact ih3 _ _ _ _ _ _)
   | (with_reducible exact ih4 _ _ _ _ _)
   | (with_reducible exact ih5 _ _ _ _ _ _ _)
   | (with_reducible exact ih6 _ _)
   | (with_reducible exact wind_Apart.mono _ _)
   | (with_reducible exact wind_CheckApart.mono _ _ _)
   | (with_reducible exact wind_Covers.mono _ _ _)
   | (with_reducible exact wind_Fewest.mono _ _)
   | (with_reducible exact wind_Lee.mono _ _)
   | (with_reducible exact LeO.refl _)
   | (with_reducible exact LeO.none _)
   | (with_reducible refine LeO.ite ?_ ?_)
   | (with_reducible refine LeO.bind ?_ (fun _ => ?_))
   | exact ih0 _ _ _ _
   | exact ih1 _ _ _ _
   | exact ih2 _ _ _ _ _ _ _ _
   | exact ih3 _ _ _ _ _ _
   | exact ih4 _ _ _ _ _
   | exact ih5 _ _ _ _ _ _ _
   | exact ih6 _ _
   | exact wind_Apart.mono _ _
   | exact wind_CheckApart.mono _ _ _
   | exact wind_Covers.mono _ _ _
   | exact wind_Fewest.mono _ _
   | exact wind_Lee.mono _ _
   | exact LeO.none _
   | refine LeO.ite ?_ ?_
   | refine LeO.bind ?_ (fun _ => ?_)
  ·intro y0 y1 y2 y3 y4
   unfold wigeontop_TopWinds.j4
   repeat' first
   | (with_reducible exact ih0 _ _ _ _)
   | (with_reducible exact ih1 _ _ _ _)
   | (with_reducible exact ih2 _ _ _ _ _ _ _ _)
   | (with_reducible exact ih3 _ _ _ _ _ _)
   | (with_reducible exact ih4 _ _ _ _ _)
   | (with_reducible exact ih5 _ _ _ _ _ _ _)
   | (with_reducible exact ih6 _ _)
   | (with_reducible exact wind_Apart.mono _ _)
   | (with_reducible exact wind_CheckApart.mono _ _ _)
   | (with_reducible exact wind_Covers.mono _ _ _)
   | (with_reducible exact wind_Fewest.mono _ _)
   | (with_reducible exact wind_Lee.mono _ _)
   | (with_reducible exact LeO.refl _)
   | (with_reducible exact LeO.none _)
   | (with_reducible refine LeO.ite ?_ ?_)
   | (with_reducible refine LeO.bind ?_ (fun _ => ?_))
   | exact ih0 _ _ _ _
   | exact ih1 _ _ _ _
   | exact ih2 _ _ _ _ _ _ _ _
   | exact ih3 _ _ _ _ _ _
   | exact ih4 _ _ _ _ _
   | exact ih5 _ _ _ _ _ _ _
   | exact ih6 _ _
   | exact wind_Apart.mono _ _
   | exact wind_CheckApart.mono _ _ _
   | exact wind_Covers.mono _ _ _
   | exact wind_Fewest.mono _ _
   | exact wind_Lee.mono _ _
   | exact LeO.none _
   | refine LeO.ite ?_ ?_
   | refine LeO.bind ?_ (fun _ => ?_)
  ·intro y0 y1 y2 y3 y4 y5 y6
   unfold wigeontop_TopWinds.l0
   repeat' first
   | (with_reducible exact ih0 _ _ _ _)
   | (with_reducible exact ih1 _ _ _ _)
   | (with_reducible exact ih2 _ _ _ _ _ _ _ _)
   | (with_reducible exact ih3 _ _ _ _ _ _)
   | (with_reducible exact ih4 _ _ _ _ _)
   | (with_reducible exact ih5 _ _ _ _ _ _ _)
   | (with_reducible exact ih6 _ _)
   | (with_reducible exact wind_Apart.mono _ _)
   | (with_reducible exact wind_CheckApart.mono _ _ _)
   | (with_reducible exact wind_Covers.mono _ _ _)
   | (with_reducible exact wind_Fewest.mono _ _)
   | (with_reducible exact wind_Lee.mono _ _)
   | (with_reducible exact LeO.refl _)
   | (with_reducible exact LeO.none _)
   | (with_reducible refine LeO.ite ?_ ?_)
   | (with_reducible refine LeO.bind ?_ (fun _ => ?_))
   | exact ih0 _ _ _ _
   | exact ih1 _ _ _ _
   | exact ih2 _ _ _ _ _ _ _ _
   | exact ih3 _ _ _ _ _ _
   | exact ih4 _ _ _ _ _
   | exact ih5 _ _ _ _ _ _ _
   | exact ih6 _ _
   | exact wind_Apart.mono _ _
   | exact wind_CheckApart.mono _ _ _
   | exact wind_Covers.mono _ _ _
   | exact wind_Fewest.mono _ _
   | exact wind_Lee.mono _ _
   | exact LeO.none _
   | refine LeO.ite ?_ ?_
   | refine LeO.bind ?_ (fun _ => ?_)
  ·intro y0 y1
   unfold wigeontop_TopWinds.j6
   repeat' first
   | (with_reducible exact ih0 _ _ _ _)
   | (with_reducible exact ih1 _ _ _ _)
   | (with_reducible exact ih2 _ _ _ _ _ _ _ _)
   | (with_reducible exact ih3 _ _ _ _ _ _)
   | (with_reducible exact ih4 _ _ _ _ _)
   | (with_reducible exact ih5 _ _ _ _ _ _ _)
   | (with_reducible exact ih6 _ _)
   | (with_reducible exact wind_Apart.mono _ _)
   | (with_reducible exact wind_CheckApart.mono _ _ _)
   | (with_reducible exact wind_Covers.mono _ _ _)
   | (with_reducible exact wind_Fewest.mono _ _)
   | (with_reducible exact wind_Lee.mono _ _)
   | (with_reducible exact LeO.refl _)
   | (with_reducible exact LeO.none _)
   | (with_reducible refine LeO.ite ?_ ?_)
   | (with_reducible refine LeO.bind ?_ (fun _ => ?_))
   | exact ih0 _ _ _ _
   | exact ih1 _ _ _ _
   | exact ih2 _ _ _ _ _ _ _ _
   | exact ih3 _ _ _ _ _ _
   | exact ih4 _ _ _ _ _
   | exact ih5 _ _ _ _ _ _ _
   | exact ih6 _ _
   | exact wind_Apart.mono _ _
   | exact wind_CheckApart.mono _ _ _
   | exact wind_Covers.mono _ _ _
   | exact wind_Fewest.mono _ _
   | exact wind_Lee.mono _ _
   | exact LeO.none _
   | refine LeO.ite ?_ ?_
   | refine LeO.bind ?_ (fun _ => ?_)
theorem wigeontop_TopWinds.mono : ∀ a0 a1 a2 k, LeO (wigeontop_TopWinds.f k a0 a1 a2) (wigeontop_TopWinds.f (k + 1) a0 a1 a2) := by
 intro a0 a1 a2 k
 obtain ⟨ih0, ih1, ih2, ih3, ih4, ih5, ih6⟩ := wigeontop_TopWinds.mono_l k
 unfold wigeontop_TopWinds.f
 repeat' first
   | (with_reducible exact ih0 _ _ _ _)
   | (with_reducible exact ih1 _ _ _ _)
   | (with_reducible exact ih2 _ _ _ _ _ _ _ _)
   | (with_reducible exact ih3 _ _ _ _ _ _)
   | (with_reducible exact ih4 _ _ _ _ _)
   | (with_reducible exact ih5 _ _ _ _ _ _ _)
   | (with_reducible exact ih6 _ _)
   | (with_reducible exact wind_Apart.mono _ _)
   | (with_reducible exact wind_CheckApart.mono _ _ _)
   | (with_reducible exact wind_Covers.mono _ _ _)
   | (with_reducible exact wind_Fewest.mono _ _)
   | (with_reducible exact wind_Lee.mono _ _)
   | (with_reducible exact LeO.refl _)
   | (with_reducible exact LeO.none _)
   | (with_reducible refine LeO.ite ?_ ?_)
   | (with_reducible refine LeO.bind ?_ (fun _ => ?_))
   | exact ih0 _ _ _ _
   | exact ih1 _ _ _ _
   | exact ih2 _ _ _ _ _ _ _ _
   | exact ih3 _ _ _ _ _ _
   | exact ih4 _ _ _ _ _
   | exact ih5 _ _ _ _ _ _ _
   | exact ih6 _ _
   | exact wind_Apart.mono _ _
   | exact wind_CheckApart.mono _ _ _
   | exact wind_Covers.mono _ _ _
   | exact wind_Fewest.mono _ _
   | exact wind_Lee.mono _ _
   | exact LeO.none _
   | refine LeO.ite ?_ ?_
   | refine LeO.bind ?_ (fun _ => ?_)
def wigeontop_TopWinds.T23 : Bool × List (List Nat × List Nat) := (true, [([], []), ([], []), ([0, 1], [0, 1]), ([2], [2]), ([3], [3]), ([], []), ([4, 5], [4, 5]), ([6], [6]), ([], []), ([], []), ([8, 9], [8, 9]), ([10], [10]), ([11], [11]), ([7, 12], [7, 12]), ([], []), ([14, 13, 0, 1, 2, 3, 4, 5, 6, 7, 8, 9, 10, 11, 12, 13, 14], [13, 14])])
def wigeontop_TopWinds.B23 : List Nat := [0, 0, 3, 7, 15, 0, 63, 127, 0, 0, 768, 1792, 3840, 8191, 0, 32767]
theorem wigeontop_TopWinds.tab23 : rtab .any (opsOf Tryd.f9 23) = wigeontop_TopWinds.T23 := by kernel_rfl
theorem wigeontop_TopWinds.bits23 : waitsOk wigeontop_TopWinds.T23.2 wigeontop_TopWinds.B23 = true := by kernel_rfl
def wigeontop_TopWinds.T38 : Bool × List (List Nat × List Nat) := (true, [([], []), ([], []), ([1], [1]), ([2], [2]), ([0, 3], [0, 3]), ([4], [4]), ([], []), ([6], [6]), ([7], [7]), ([5, 8], [5, 8]), ([9], [9]), ([10], [10]), ([10], [10]), ([11, 9, 0, 1, 2, 3, 4, 5, 6, 7, 8, 9, 10, 11], [11]), ([12, 13, 0, 1, 2, 3, 4, 5, 6, 7, 8, 9, 10, 11, 12, 13], [12])])
def wigeontop_TopWinds.B38 : List Nat := [0, 0, 2, 6, 15, 31, 0, 64, 192, 511, 1023, 2047, 2047, 4095, 16383]
theorem wigeontop_TopWinds.tab38 : rtab .any (opsOf Tryd.f9 38) = wigeontop_TopWinds.T38 := by kernel_rfl
theorem wigeontop_TopWinds.bits38 : waitsOk wigeontop_TopWinds.T38.2 wigeontop_TopWinds.B38 = true := by kernel_rfl
theorem wigeontop_TopWinds.dead0 {k x0 x1 x2 r} (h : wigeontop_TopWinds.j0 k x0 x1 x2 true = some r) : r = false := by
  cases k with
  | zero => simp [wigeontop_TopWinds.j0] at h
  | succ k =>
    rw [wigeontop_TopWinds.j0, if_pos rfl] at h
    exact (Option.some.inj h).symm
theorem wigeontop_TopWinds.dead2 {k x0 x1 x2 x3 x4 x5 x6 r} (h : wigeontop_TopWinds.j2 k x0 x1 x2 x3 x4 x5 x6 true = some r) : r = false := by
  cases k with
  | zero => simp [wigeontop_TopWinds.j2] at h
  | succ k =>
    rw [wigeontop_TopWinds.j2, if_pos rfl] at h
    exact (Option.some.inj h).symm
theorem wigeontop_TopWinds.dead3 {k x0 x1 x2 x3 x4 r} (h : wigeontop_TopWinds.j3 k x0 x1 x2 x3 x4 true = some r) : r = false := by
  cases k with
  | zero => simp [wigeontop_TopWinds.j3] at h
  | succ k =>
    rw [wigeontop_TopWinds.j3, if_pos rfl] at h
    exact (Option.some.inj h).symm
theorem wigeontop_TopWinds.dead6 {k x0 r} (h : wigeontop_TopWinds.j6 k x0 true = some r) : r = false := by
  cases k with
  | zero => simp [wigeontop_TopWinds.j6] at h
  | succ k =>
    rw [wigeontop_TopWinds.j6, if_pos rfl] at h
    exact (Option.some.inj h).symm
set_option maxHeartbeats 8000000 in
set_option maxRecDepth 100000 in
theorem wigeontop_TopWinds.calls (k : Nat) (A0 : Option Addr) (c0 : Nat) (l0 : List (S33)) (A1 : Option Addr) (c1 : Nat) (l1 : List Int) (a2 : Int) (r : Bool) (w : World) (HT : Hid (BitsW w)) (hr0 : Kd.C k33 w A0 l0.length l0) (hc0 : l0.length ≤ c0) (hr1 : Kd.C (Kd.int .i64) w A1 l1.length l1) (hc1 : l1.length ≤ c1) (h : wigeontop_TopWinds.f k l0 l1 a2 = some r) (hr : r = true) :
  Calls Tryd.prog 9 #[.slice A0 l0.length c0, .slice A1 l1.length c1, .int .i64 a2] w fun e w' => e = .returned (.bool r) ∧ Below w.heap.size w w' := by
 have HRT := Aside0.mk hr
 clear hr
 have hu33 := Tryd.underlying33
 have HR0 := Aside0.mk hr0
 have HC0 := Aside0.mk hc0
 clear hr0 hc0
 have HR1 := Aside0.mk hr1
 have HC1 := Aside0.mk hc1
 clear hr1 hc1
 have HB := Aside0.mk (Below.refl w.heap.size w)
 have H : ((wind_Across.f 0 16).bind fun bt401 => (if bt401.2 = 0 then (wigeontop_TopWinds.j0 k l0 l1 a2 (bt401.1 != 16)) else (wigeontop_TopWinds.j0 k l0 l1 a2 true))) = some r := h
 clear h
 replace H := Option.bind_eq_some_iff.mp H
 obtain ⟨⟨t401, t402⟩, A40, H⟩ := H
 replace H : (if t402 = 0 then (wigeontop_TopWinds.j0 k l0 l1 a2 (t401 != 16)) else (wigeontop_TopWinds.j0 k l0 l1 a2 true)) = some r := H
 have A4 := Aside0.mk A40
 clear A40
 have HC5 := Aside0.mk H
 clear H
 go_enter Tryd.func9, Tryd.ntmps9
 go_upto_region 2 with (first | ((with_reducible refine gate_callee (f := 32) rfl ?_); refine goesL_ (some 38) rfl rfl Tryd.func32 (by kernel_rfl) rfl #[.int .i64 0, .int .i64 16] rfl (by (try simp only [List.map_toArray, List.map_cons, List.map_nil]); first | done | rfl | (simp only [List.length_drop, List.length_take]; rfl)) ?_; (with_reducible refine (wind_Across.calls 0 16 t401 t402 _ A4.out).mono ?_); rintro e w' ⟨rfl, ⟨nd, rfl⟩⟩; refine ⟨_, rfl, ?_⟩))
 (try simp only [Act.put, List.setIfInBounds_toArray, List.set_cons_zero, List.set_cons_succ])
 go_cut [46] (fun v46 wc => ∃ (kq : Nat) (x46_4 : Bool), v46 = .bool x46_4 ∧ Aside0 (wigeontop_TopWinds.j0 kq l0 l1 a2 x46_4 = some r) ∧ Aside0 (kq ≤ k) ∧ Aside0 (Below w.heap.size w wc))
 case first =>
  as_aux_lemma =>
   have H := HC5.out
   clear HC5
   by_cases c6 : t402 = 0
   ·rw [if_pos c6] at H
    have c6b0 : (t402 == 0) = true := beq_iff_eq.mpr c6
    have c6b1 : (t402 != 0) = false := bne_eq_false_iff_eq.mpr c6
    clear c6
    (first | rw [c6b0] | (simp only [i64_w, i32_w]; rw [c6b0]) | skip)
    have H' := Aside0.mk H
    clear H
    go_wp2
    go_meet
    case rel => exact ⟨_, ((t401 != 16)), (by first | rfl | (simp; done) | (simp [*]; done)), H', ⟨by first | omega | exact Nat.le_refl _⟩, ⟨by repeat (first | (with_reducible first | exact HB.out | apply below_alloc | apply pw_below_drewN | apply below_drew1) | exact HB.out)⟩⟩
   ·rw [if_neg c6] at H
    exact absurd HRT.out (by rw [wigeontop_TopWinds.dead0 H]; decide)
 case rest =>
  as_aux_lemma =>
   clear HC5
   try clear c1
   try clear p2
   try clear c3
   try clear c6
   try clear c6b0
   try clear c6b1
   obtain ⟨kq, x46_4, rfl, HA, HJ4, HB⟩ := hcut
   cases kq with
   | zero => exact absurd HA.out (by simp [wigeontop_TopWinds.j0])
   | succ kj4 =>
    have H := HA.out
    clear HA
    simp only [wigeontop_TopWinds.j0] at H
    by_cases c7 : x46_4 = true
    ·subst c7
     have H1 : (some false) = some r := by rw [if_pos rfl] at H; exact H
     clear H
     have H := H1
     clear H1
     obtain rfl := Option.some.inj H
     exact absurd HRT.out (by decide)
    ·replace c7 := Bool.eq_false_iff.mpr c7
     subst c7
     have H1 : ((wigeonlaw03_Many.f l0).bind fun t403 => (if t403 = true then (wigeontop_TopWinds.j1 kj4 l0 l1 a2 true) else (wigeontop_TopWinds.j1 kj4 l0 l1 a2 (decide ((l1.length : Int) > 59))))) = some r := by rw [if_neg (show ¬ (false = true) by decide)] at H; exact H
     clear H
     have H := H1
     clear H1
     have HC8 := Aside0.mk H
     clear H
     go_upto_region 4 with (fail)
     go_cut [53] (fun v53 wc => ∃ (kq : Nat) (x53_7 : Bool), v53 = .bool x53_7 ∧ Aside0 (wigeontop_TopWinds.j1 kq l0 l1 a2 x53_7 = some r) ∧ Aside0 (kq ≤ kj4) ∧ Aside0 (Below w.heap.size w wc))
     case first =>
      as_aux_lemma =>
       have H := HC8.out
       clear HC8
       replace H := Option.bind_eq_some_iff.mp H
       obtain ⟨t403, A90, H⟩ := H
       replace H : (if t403 = true then (wigeontop_TopWinds.j1 kj4 l0 l1 a2 true) else (wigeontop_TopWinds.j1 kj4 l0 l1 a2 (decide ((l1.length : Int) > 59)))) = some r := H
       have A9 := Aside0.mk A90
       clear A90
       by_cases c10 : t403 = true
       ·subst c10
        have H1 : (wigeontop_TopWinds.j1 kj4 l0 l1 a2 true) = some r := by rw [if_pos rfl] at H; exact H
        clear H
        have H := H1
        clear H1
        have H' := Aside0.mk H
        clear H
        go_wp2_with (first | ((with_reducible refine gate_callee (f := 37) rfl ?_); refine goesL_ (some 48) rfl rfl Tryd.func37 (by kernel_rfl) rfl #[.slice A0 l0.length c0] rfl (by (try simp only [List.map_toArray, List.map_cons, List.map_nil]); first | done | rfl | (simp only [List.length_drop, List.length_take]; rfl)) ?_; (with_reducible refine (wigeonlaw03_Many.calls _ _ l0 true _ ?side1 ?side2 A9.out).mono ?_); (case side1 => repeat (first | exact (Kd.C_below HR0.out HB.out) | (with_reducible refine Kd.C_alloc ?_ _) | (with_reducible refine Kd.C_drewN ?_ _) | (with_reducible refine Kd.C_drew ?_))); (case side2 => exact HC0.out); rintro e w' ⟨rfl, ⟨nd, rfl⟩⟩; refine ⟨_, rfl, ?_⟩))
        go_meet
        case rel => exact ⟨_, (true), (by first | rfl | (simp; done) | (simp [*]; done)), H', ⟨by have := HJ4.out; first | omega | exact Nat.le_refl _⟩, ⟨by repeat (first | (with_reducible first | exact HB.out | apply below_alloc | apply pw_below_drewN | apply below_drew1) | exact HB.out)⟩⟩
       ·replace c10 := Bool.eq_false_iff.mpr c10
        subst c10
        have H1 : (wigeontop_TopWinds.j1 kj4 l0 l1 a2 (decide ((l1.length : Int) > 59))) = some r := by rw [if_neg (show ¬ (false = true) by decide)] at H; exact H
        clear H
        have H := H1
        clear H1
        have H' := Aside0.mk H
        clear H
        go_wp2_with (first | ((with_reducible refine gate_callee (f := 37) rfl ?_); refine goesL_ (some 48) rfl rfl Tryd.func37 (by kernel_rfl) rfl #[.slice A0 l0.length c0] rfl (by (try simp only [List.map_toArray, List.map_cons, List.map_nil]); first | done | rfl | (simp only [List.length_drop, List.length_take]; rfl)) ?_; (with_reducible refine (wigeonlaw03_Many.calls _ _ l0 false _ ?side1 ?side2 A9.out).mono ?_); (case side1 => repeat (first | exact (Kd.C_below HR0.out HB.out) | (with_reducible refine Kd.C_alloc ?_ _) | (with_reducible refine Kd.C_drewN ?_ _) | (with_reducible refine Kd.C_drew ?_))); (case side2 => exact HC0.out); rintro e w' ⟨rfl, ⟨nd, rfl⟩⟩; refine ⟨_, rfl, ?_⟩))
        go_meet
        case rel => exact ⟨_, (decide ((l1.length : Int) > 59)), (by first | rfl | (simp; done) | (simp [*]; done)), H', ⟨by have := HJ4.out; first | omega | exact Nat.le_refl _⟩, ⟨by repeat (first | (with_reducible first | exact HB.out | apply below_alloc | apply pw_below_drewN | apply below_drew1) | exact HB.out)⟩⟩
     case rest =>
      as_aux_lemma =>
       clear HC8
       try clear c1
       try clear p2
       try clear c3
       try clear c6
       try clear c6b0
       try clear c6b1
       try clear c7
       try clear c9
       try clear c10
       try clear p2
       obtain ⟨kq, x53_7, rfl, HA, HJ7, HB⟩ := hcut
       cases kq with
       | zero => exact absurd HA.out (by simp [wigeontop_TopWinds.j1])
       | succ kj7 =>
        have H := HA.out
        clear HA
        simp only [wigeontop_TopWinds.j1] at H
        by_cases c11 : x53_7 = true
        ·subst c11
         have H1 : (some true) = some r := by rw [if_pos rfl] at H; exact H
         clear H
         have H := H1
         clear H1
         obtain rfl := Option.some.inj H
         go_wp2
         go_ret
         exact ⟨by first | rfl | (simp [errW_none, errW_some] <;> rfl) | (simp [*, errW_none, errW_some] <;> rfl), by repeat (first | (with_reducible first | exact HB.out | apply below_alloc | apply pw_below_drewN | apply below_drew1) | exact HB.out)⟩
        ·replace c11 := Bool.eq_false_iff.mpr c11
         subst c11
         have H1 : ((wind_Lee.f kj7 l0).bind fun bt404 => (if bt404.2 = 0 then ((wind_Fewest.f kj7 l0).bind fun bt406 => ((wind_Apart.f kj7 l0).bind fun bt411 => (if bt406.2.2 = 0 then (if bt411.2 = 0 then (if (bt406.2.1 != (bt404.1 == 0)) = true then (wigeontop_TopWinds.j2 kj7 l0 l1 a2 bt404.1 bt406.1 bt406.2.1 bt411.1 true) else ((wind_CheckApart.f kj7 l0 bt411.1).bind fun t415 => (if t415 = 0 then (if bt406.2.1 = true then (wigeontop_TopWinds.j2 kj7 l0 l1 a2 bt404.1 bt406.1 bt406.2.1 bt411.1 (decide ((bt411.1.length : Int) > (bt406.1.length : Int)))) else (wigeontop_TopWinds.j2 kj7 l0 l1 a2 bt404.1 bt406.1 bt406.2.1 bt411.1 false)) else (wigeontop_TopWinds.j2 kj7 l0 l1 a2 bt404.1 bt406.1 bt406.2.1 bt411.1 true)))) else (wigeontop_TopWinds.j2 kj7 l0 l1 a2 bt404.1 bt406.1 bt406.2.1 bt411.1 true)) else (wigeontop_TopWinds.j2 kj7 l0 l1 a2 bt404.1 bt406.1 bt406.2.1 bt411.1 true)))) else (some (bt404.1 == 0)))) = some r := by rw [if_neg (show ¬ (false = true) by decide)] at H; exact H
         clear H
         have H := H1
         clear H1
         replace H := Option.bind_eq_some_iff.mp H
         obtain ⟨⟨t404, t405⟩, A120, H⟩ := H
         replace H : (if t405 = 0 then ((wind_Fewest.f kj7 l0).bind fun bt406 => ((wind_Apart.f kj7 l0).bind fun bt411 => (if bt406.2.2 = 0 then (if bt411.2 = 0 then (if (bt406.2.1 != (t404 == 0)) = true then (wigeontop_TopWinds.j2 kj7 l0 l1 a2 t404 bt406.1 bt406.2.1 bt411.1 true) else ((wind_CheckApart.f kj7 l0 bt411.1).bind fun t415 => (if t415 = 0 then (if bt406.2.1 = true then (wigeontop_TopWinds.j2 kj7 l0 l1 a2 t404 bt406.1 bt406.2.1 bt411.1 (decide ((bt411.1.length : Int) > (bt406.1.length : Int)))) else (wigeontop_TopWinds.j2 kj7 l0 l1 a2 t404 bt406.1 bt406.2.1 bt411.1 false)) else (wigeontop_TopWinds.j2 kj7 l0 l1 a2 t404 bt406.1 bt406.2.1 bt411.1 true)))) else (wigeontop_TopWinds.j2 kj7 l0 l1 a2 t404 bt406.1 bt406.2.1 bt411.1 true)) else (wigeontop_TopWinds.j2 kj7 l0 l1 a2 t404 bt406.1 bt406.2.1 bt411.1 true)))) else (some (t404 == 0))) = some r := H
         have A12 := Aside0.mk A120
         clear A120
         by_cases c13 : t405 = 0
         ·rw [if_pos c13] at H
          have c13b0 : (t405 == 0) = true := beq_iff_eq.mpr c13
          have c13b1 : (t405 != 0) = false := bne_eq_false_iff_eq.mpr c13
          clear c13
          replace H := Option.bind_eq_some_iff.mp H
          obtain ⟨⟨t406, t407, t408⟩, A140, H⟩ := H
          replace H : ((wind_Apart.f kj7 l0).bind fun bt411 => (if t408 = 0 then (if bt411.2 = 0 then (if (t407 != (t404 == 0)) = true then (wigeontop_TopWinds.j2 kj7 l0 l1 a2 t404 t406 t407 bt411.1 true) else ((wind_CheckApart.f kj7 l0 bt411.1).bind fun t415 => (if t415 = 0 then (if t407 = true then (wigeontop_TopWinds.j2 kj7 l0 l1 a2 t404 t406 t407 bt411.1 (decide ((bt411.1.length : Int) > (t406.length : Int)))) else (wigeontop_TopWinds.j2 kj7 l0 l1 a2 t404 t406 t407 bt411.1 false)) else (wigeontop_TopWinds.j2 kj7 l0 l1 a2 t404 t406 t407 bt411.1 true)))) else (wigeontop_TopWinds.j2 kj7 l0 l1 a2 t404 t406 t407 bt411.1 true)) else (wigeontop_TopWinds.j2 kj7 l0 l1 a2 t404 t406 t407 bt411.1 true))) = some r := H
          have A14 := Aside0.mk A140
          clear A140
          replace H := Option.bind_eq_some_iff.mp H
          obtain ⟨⟨t411, t412⟩, A150, H⟩ := H
          replace H : (if t408 = 0 then (if t412 = 0 then (if (t407 != (t404 == 0)) = true then (wigeontop_TopWinds.j2 kj7 l0 l1 a2 t404 t406 t407 t411 true) else ((wind_CheckApart.f kj7 l0 t411).bind fun t415 => (if t415 = 0 then (if t407 = true then (wigeontop_TopWinds.j2 kj7 l0 l1 a2 t404 t406 t407 t411 (decide ((t411.length : Int) > (t406.length : Int)))) else (wigeontop_TopWinds.j2 kj7 l0 l1 a2 t404 t406 t407 t411 false)) else (wigeontop_TopWinds.j2 kj7 l0 l1 a2 t404 t406 t407 t411 true)))) else (wigeontop_TopWinds.j2 kj7 l0 l1 a2 t404 t406 t407 t411 true)) else (wigeontop_TopWinds.j2 kj7 l0 l1 a2 t404 t406 t407 t411 true)) = some r := H
          have A15 := Aside0.mk A150
          clear A150
          have HC16 := Aside0.mk H
          clear H
          go_upto_region 11 with (first | ((with_reducible refine gate_callee (f := 38) rfl ?_); refine goesL_ (some 56) rfl rfl Tryd.func38 (by kernel_rfl) rfl #[.slice A0 l0.length c0] rfl (by (try simp only [List.map_toArray, List.map_cons, List.map_nil]); first | done | rfl | (simp only [List.length_drop, List.length_take]; rfl)) ?_; (with_reducible refine (wind_Lee.calls kj7 _ _ l0 t404 t405 _ ?side1 ?side2 A12.out).mono ?_); (case side1 => repeat (first | exact (Kd.C_below HR0.out HB.out) | (with_reducible refine Kd.C_alloc ?_ _) | (with_reducible refine Kd.C_drewN ?_ _) | (with_reducible refine Kd.C_drew ?_))); (case side2 => exact HC0.out); rintro e w17 ⟨rfl, hb⟩; refine ⟨_, rfl, ?_⟩; have n0_ := Aside0.mk (below_step (by repeat (first | (with_reducible first | exact HB.out | apply below_alloc | apply pw_below_drewN | apply below_drew1) | exact HB.out)) hb); clear HB; have HB := n0_; clear n0_; (try clear hb); (try clear hb2); (try clear hk); (try clear hi)) | ((with_reducible refine gate_callee (f := 39) rfl ?_); refine goesL_ (some 65) rfl rfl Tryd.func39 (by kernel_rfl) rfl #[.slice A0 l0.length c0] rfl (by (try simp only [List.map_toArray, List.map_cons, List.map_nil]); first | done | rfl | (simp only [List.length_drop, List.length_take]; rfl)) ?_; (with_reducible refine (wind_Fewest.calls kj7 _ _ l0 t406 t407 t408 _ ?side1 ?side2 A14.out).mono ?_); (case side1 => repeat (first | exact (Kd.C_below HR0.out HB.out) | (with_reducible refine Kd.C_alloc ?_ _) | (with_reducible refine Kd.C_drewN ?_ _) | (with_reducible refine Kd.C_drew ?_))); (case side2 => exact HC0.out); rintro e w18 ⟨v409, rfl, ho0, hb⟩; refine ⟨_, rfl, ?_⟩; have n0_ := Aside0.mk (Kd.R_lower ho0 (below_size (by repeat (first | (with_reducible first | exact HB.out | apply below_alloc | apply pw_below_drewN | apply below_drew1) | exact HB.out)))); have n1_ := Aside0.mk (below_step (by repeat (first | (with_reducible first | exact HB.out | apply below_alloc | apply pw_below_drewN | apply below_drew1) | exact HB.out)) hb); clear HB; have HO410 := n0_; have HB := n1_; clear n0_ n1_; (try clear hb); (try clear hb2); (try clear hk); (try clear hi); (try clear ho0)) | ((with_reducible refine gate_callee (f := 40) rfl ?_); refine goesL_ (some 71) rfl rfl Tryd.func40 (by kernel_rfl) rfl #[.slice A0 l0.length c0] rfl (by (try simp only [List.map_toArray, List.map_cons, List.map_nil]); first | done | rfl | (simp only [List.length_drop, List.length_take]; rfl)) ?_; (with_reducible refine (wind_Apart.calls kj7 _ _ l0 t411 t412 _ ?side1 ?side2 A15.out).mono ?_); (case side1 => repeat (first | exact (Kd.C_below HR0.out HB.out) | (with_reducible refine Kd.C_alloc ?_ _) | (with_reducible refine Kd.C_drewN ?_ _) | (with_reducible refine Kd.C_drew ?_))); (case side2 => exact HC0.out); rintro e w19 ⟨v413, rfl, ho0, hb⟩; refine ⟨_, rfl, ?_⟩; have n0_ := Aside0.mk (Kd.R_elder' (by (with_reducible repeat (first | apply Kd.R_alloc | apply Kd.R_drewN | apply Kd.R_drew)); exact HO410.out) (Kd.R_base ho0) hb); have n1_ := Aside0.mk (Kd.R_lower (Kd.R_new' ho0 (Kd.R_lt (by (with_reducible repeat (first | apply Kd.R_alloc | apply Kd.R_drewN | apply Kd.R_drew)); exact HO410.out))) (below_size (by repeat (first | (with_reducible first | exact HB.out | apply below_alloc | apply pw_below_drewN | apply below_drew1) | exact HB.out)))); have n2_ := Aside0.mk (below_step (by repeat (first | (with_reducible first | exact HB.out | apply below_alloc | apply pw_below_drewN | apply below_drew1) | exact HB.out)) hb); clear HO410; clear HB; have HO410 := n0_; have HO414 := n1_; have HB := n2_; clear n0_ n1_ n2_; (try clear hb); (try clear hb2); (try clear hk); (try clear hi); (try clear ho0)))
          (try simp only [Act.put, List.setIfInBounds_toArray, List.set_cons_zero, List.set_cons_succ])
          go_cut [101] (fun v101 wc => ∃ (kq : Nat) (x101_15 : Bool), v101 = .bool x101_15 ∧ Aside0 (wigeontop_TopWinds.j2 kq l0 l1 a2 t404 t406 t407 t411 x101_15 = some r) ∧ Aside0 (kq ≤ kj7) ∧ Aside0 (Kd.R (Kd.int .i64) 3 wc w.heap.size (fun k_ => some k_ ≠ (v413 : Value).ownBlock) v409 t406) ∧ Aside0 (Kd.R (Kd.int .i64) 3 wc w.heap.size (fun k_ => some k_ ≠ (v409 : Value).ownBlock) v413 t411) ∧ Aside0 (Below w.heap.size w wc))
          case first =>
           as_aux_lemma =>
            have H := HC16.out
            clear HC16
            by_cases c20 : t408 = 0
            ·rw [if_pos c20] at H
             have c20b0 : (t408 == 0) = true := beq_iff_eq.mpr c20
             have c20b1 : (t408 != 0) = false := bne_eq_false_iff_eq.mpr c20
             clear c20
             (first | rw [c20b0] | (simp only [i64_w, i32_w]; rw [c20b0]) | skip)
             by_cases c21 : t412 = 0
             ·rw [if_pos c21] at H
              have c21b0 : (t412 == 0) = true := beq_iff_eq.mpr c21
              have c21b1 : (t412 != 0) = false := bne_eq_false_iff_eq.mpr c21
              clear c21
              by_cases c22 : (t407 != (t404 == 0)) = true
              ·rw [if_pos c22] at H
               exact absurd HRT.out (by rw [wigeontop_TopWinds.dead2 H]; decide)
              ·rw [if_neg c22] at H
               have c22b0 : (t407 != (t404 == 0)) = false := by simpa using c22
               (try (have c22b1 : decide (t407 = (t404 == 0)) = true := by simpa using c22))
               (try (have c22b2 : (t407 == (t404 == 0)) = true := by simpa using c22))
               clear c22
               replace H := Option.bind_eq_some_iff.mp H
               obtain ⟨t415, A230, H⟩ := H
               replace H : (if t415 = 0 then (if t407 = true then (wigeontop_TopWinds.j2 kj7 l0 l1 a2 t404 t406 t407 t411 (decide ((t411.length : Int) > (t406.length : Int)))) else (wigeontop_TopWinds.j2 kj7 l0 l1 a2 t404 t406 t407 t411 false)) else (wigeontop_TopWinds.j2 kj7 l0 l1 a2 t404 t406 t407 t411 true)) = some r := H
               have A23 := Aside0.mk A230
               clear A230
               by_cases c24 : t415 = 0
               ·rw [if_pos c24] at H
                have c24b0 : (t415 == 0) = true := beq_iff_eq.mpr c24
                have c24b1 : (t415 != 0) = false := bne_eq_false_iff_eq.mpr c24
                clear c24
                by_cases c25 : t407 = true
                ·subst c25
                 have H1 : (wigeontop_TopWinds.j2 kj7 l0 l1 a2 t404 t406 true t411 (decide ((t411.length : Int) > (t406.length : Int)))) = some r := by rw [if_pos rfl] at H; exact H
                 clear H
                 have H := H1
                 clear H1
                 have H' := Aside0.mk H
                 clear H
                 obtain ⟨Ao26, co26, eo26⟩ := Kd.R_slice HO414.out
                 subst eo26
                 go_wp2_with (first | (go_at_call 41; (with_reducible refine (wind_CheckApart.calls kj7 _ _ l0 _ _ t411 t415 _ ?side1 ?side2 ?side3 ?side4 A23.out).mono ?_); (case side1 => repeat (first | exact (Kd.C_below HR0.out HB.out) | (with_reducible refine Kd.C_alloc ?_ _) | (with_reducible refine Kd.C_drewN ?_ _) | (with_reducible refine Kd.C_drew ?_))); (case side2 => exact HC0.out); (case side3 => repeat (first | exact (Kd.R_reads' HO414.out).2.2 | (with_reducible refine Kd.C_alloc ?_ _) | (with_reducible refine Kd.C_drewN ?_ _) | (with_reducible refine Kd.C_drew ?_))); (case side4 => exact (Kd.R_reads' HO414.out).2.1); rintro e w27 ⟨rfl, hb⟩; have n0_ := Aside0.mk (Kd.R_below (by (with_reducible repeat (first | apply Kd.R_alloc | apply Kd.R_drewN | apply Kd.R_drew)); exact HO410.out) hb); have n1_ := Aside0.mk (Kd.R_below (by (with_reducible repeat (first | apply Kd.R_alloc | apply Kd.R_drewN | apply Kd.R_drew)); exact HO414.out) hb); have n2_ := Aside0.mk (below_step (by repeat (first | (with_reducible first | exact HB.out | apply below_alloc | apply pw_below_drewN | apply below_drew1) | exact HB.out)) hb); clear HO410; clear HO414; clear HB; have HO410 := n0_; have HO414 := n1_; have HB := n2_; clear n0_ n1_ n2_; (try clear hb); (try clear hb2); (try clear hk); (try clear hi); obtain ⟨Ao28, co28, eo28⟩ := Kd.R_slice HO410.out; subst eo28))
                 go_meet
                 case rel => exact ⟨_, (decide ((t411.length : Int) > (t406.length : Int))), (by first | rfl | (simp; done) | (simp [*]; done)), H', ⟨by have := HJ4.out; have := HJ7.out; first | omega | exact Nat.le_refl _⟩, ⟨by (with_reducible repeat (first | apply Kd.R_alloc | apply Kd.R_drewN | apply Kd.R_drew)); exact Kd.R_mono HO410.out (fun _ hk => hk.2)⟩, ⟨by (with_reducible repeat (first | apply Kd.R_alloc | apply Kd.R_drewN | apply Kd.R_drew)); exact Kd.R_mono HO414.out (fun _ hk => hk.2)⟩, ⟨by repeat (first | (with_reducible first | exact HB.out | apply below_alloc | apply pw_below_drewN | apply below_drew1) | exact HB.out)⟩⟩
                ·replace c25 := Bool.eq_false_iff.mpr c25
                 subst c25
                 have H1 : (wigeontop_TopWinds.j2 kj7 l0 l1 a2 t404 t406 false t411 false) = some r := by rw [if_neg (show ¬ (false = true) by decide)] at H; exact H
                 clear H
                 have H := H1
                 clear H1
                 have H' := Aside0.mk H
                 clear H
                 obtain ⟨Ao29, co29, eo29⟩ := Kd.R_slice HO414.out
                 subst eo29
                 go_wp2_with (first | (go_at_call 41; (with_reducible refine (wind_CheckApart.calls kj7 _ _ l0 _ _ t411 t415 _ ?side1 ?side2 ?side3 ?side4 A23.out).mono ?_); (case side1 => repeat (first | exact (Kd.C_below HR0.out HB.out) | (with_reducible refine Kd.C_alloc ?_ _) | (with_reducible refine Kd.C_drewN ?_ _) | (with_reducible refine Kd.C_drew ?_))); (case side2 => exact HC0.out); (case side3 => repeat (first | exact (Kd.R_reads' HO414.out).2.2 | (with_reducible refine Kd.C_alloc ?_ _) | (with_reducible refine Kd.C_drewN ?_ _) | (with_reducible refine Kd.C_drew ?_))); (case side4 => exact (Kd.R_reads' HO414.out).2.1); rintro e w30 ⟨rfl, hb⟩; have n0_ := Aside0.mk (Kd.R_below (by (with_reducible repeat (first | apply Kd.R_alloc | apply Kd.R_drewN | apply Kd.R_drew)); exact HO410.out) hb); have n1_ := Aside0.mk (Kd.R_below (by (with_reducible repeat (first | apply Kd.R_alloc | apply Kd.R_drewN | apply Kd.R_drew)); exact HO414.out) hb); have n2_ := Aside0.mk (below_step (by repeat (first | (with_reducible first | exact HB.out | apply below_alloc | apply pw_below_drewN | apply below_drew1) | exact HB.out)) hb); clear HO410; clear HO414; clear HB; have HO410 := n0_; have HO414 := n1_; have HB := n2_; clear n0_ n1_ n2_; (try clear hb); (try clear hb2); (try clear hk); (try clear hi)))
                 go_meet
                 case rel => exact ⟨_, (false), (by first | rfl | (simp; done) | (simp [*]; done)), H', ⟨by have := HJ4.out; have := HJ7.out; first | omega | exact Nat.le_refl _⟩, ⟨by (with_reducible repeat (first | apply Kd.R_alloc | apply Kd.R_drewN | apply Kd.R_drew)); exact Kd.R_mono HO410.out (fun _ hk => hk.2)⟩, ⟨by (with_reducible repeat (first | apply Kd.R_alloc | apply Kd.R_drewN | apply Kd.R_drew)); exact Kd.R_mono HO414.out (fun _ hk => hk.2)⟩, ⟨by repeat (first | (with_reducible first | exact HB.out | apply below_alloc | apply pw_below_drewN | apply below_drew1) | exact HB.out)⟩⟩
               ·rw [if_neg c24] at H
                exact absurd HRT.out (by rw [wigeontop_TopWinds.dead2 H]; decide)
             ·rw [if_neg c21] at H
              exact absurd HRT.out (by rw [wigeontop_TopWinds.dead2 H]; decide)
            ·rw [if_neg c20] at H
             exact absurd HRT.out (by rw [wigeontop_TopWinds.dead2 H]; decide)
          case rest =>
           as_aux_lemma =>
            clear HC16
            try clear c1
            try clear c2
            try clear p2
            try clear c3
            try clear c4
            try clear c6
            try clear c6b0
            try clear c6b1
            try clear c7
            try clear c9
            try clear c10
            try clear c11
            try clear c13
            try clear c13b0
            try clear c13b1
            try clear c20
            try clear c20b0
            try clear c20b1
            try clear c21
            try clear c21b0
            try clear c21b1
            try clear c22
            try clear c22b0
            try clear c22b1
            try clear c22b2
            try clear c24
            try clear c24b0
            try clear c24b1
            try clear c25
            try clear c32
            try clear p2
            obtain ⟨kq, x101_15, rfl, HA, HJ15, HO_11, HO_14, HB⟩ := hcut
            cases kq with
            | zero => exact absurd HA.out (by simp [wigeontop_TopWinds.j2])
            | succ kj15 =>
             have H := HA.out
             clear HA
             simp only [wigeontop_TopWinds.j2] at H
             by_cases c33 : x101_15 = true
             ·subst c33
              have H1 : (some false) = some r := by rw [if_pos rfl] at H; exact H
              clear H
              have H := H1
              clear H1
              obtain rfl := Option.some.inj H
              exact absurd HRT.out (by decide)
             ·replace c33 := Bool.eq_false_iff.mpr c33
              subst c33
              have H1 : ((wind_Covers.f kj15 l0 t406).bind fun bt416 => (if bt416.2 = 0 then (wigeontop_TopWinds.j3 kj15 l0 l1 a2 t404 t411 (bt416.1 != t407)) else (wigeontop_TopWinds.j3 kj15 l0 l1 a2 t404 t411 true))) = some r := by rw [if_neg (show ¬ (false = true) by decide)] at H; exact H
              clear H
              have H := H1
              clear H1
              replace H := Option.bind_eq_some_iff.mp H
              obtain ⟨⟨t416, t417⟩, A340, H⟩ := H
              replace H : (if t417 = 0 then (wigeontop_TopWinds.j3 kj15 l0 l1 a2 t404 t411 (t416 != t407)) else (wigeontop_TopWinds.j3 kj15 l0 l1 a2 t404 t411 true)) = some r := H
              have A34 := Aside0.mk A340
              clear A340
              have HC35 := Aside0.mk H
              clear H
              obtain ⟨Ao36, co36, eo36⟩ := Kd.R_slice HO_11.out
              subst eo36
              go_upto_region 14 with (first | ((with_reducible refine gate_callee (f := 42) rfl ?_); refine goesL_ (some 105) rfl rfl Tryd.func42 (by kernel_rfl) rfl #[.slice A0 l0.length c0, .slice Ao36 t406.length co36] rfl (by (try simp only [List.map_toArray, List.map_cons, List.map_nil]); first | done | rfl | (simp only [List.length_drop, List.length_take]; rfl)) ?_; (with_reducible refine (wind_Covers.calls kj15 _ _ l0 _ _ t406 t416 t417 _ ?side1 ?side2 ?side3 ?side4 A34.out).mono ?_); (case side1 => repeat (first | exact (Kd.C_below HR0.out HB.out) | (with_reducible refine Kd.C_alloc ?_ _) | (with_reducible refine Kd.C_drewN ?_ _) | (with_reducible refine Kd.C_drew ?_))); (case side2 => exact HC0.out); (case side3 => repeat (first | exact (Kd.R_reads' HO_11.out).2.2 | (with_reducible refine Kd.C_alloc ?_ _) | (with_reducible refine Kd.C_drewN ?_ _) | (with_reducible refine Kd.C_drew ?_))); (case side4 => exact (Kd.R_reads' HO_11.out).2.1); rintro e w37 ⟨rfl, hb⟩; refine ⟨_, rfl, ?_⟩; have n0_ := Aside0.mk (Kd.R_below (by (with_reducible repeat (first | apply Kd.R_alloc | apply Kd.R_drewN | apply Kd.R_drew)); exact HO_11.out) hb); have n1_ := Aside0.mk (Kd.R_below (by (with_reducible repeat (first | apply Kd.R_alloc | apply Kd.R_drewN | apply Kd.R_drew)); exact HO_14.out) hb); have n2_ := Aside0.mk (below_step (by repeat (first | (with_reducible first | exact HB.out | apply below_alloc | apply pw_below_drewN | apply below_drew1) | exact HB.out)) hb); clear HO_11; clear HO_14; clear HB; have HO_11 := n0_; have HO_14 := n1_; have HB := n2_; clear n0_ n1_ n2_; (try clear hb); (try clear hb2); (try clear hk); (try clear hi)))
              (try simp only [Act.put, List.setIfInBounds_toArray, List.set_cons_zero, List.set_cons_succ])
              go_cut [114] (fun v114 wc => ∃ (kq : Nat) (x114_34 : Bool), v114 = .bool x114_34 ∧ Aside0 (wigeontop_TopWinds.j3 kq l0 l1 a2 t404 t411 x114_34 = some r) ∧ Aside0 (kq ≤ kj15) ∧ Aside0 (Kd.R (Kd.int .i64) 3 wc w.heap.size (fun _ => True) v413 t411) ∧ Aside0 (Below w.heap.size w wc))
              case first =>
               as_aux_lemma =>
                have H := HC35.out
                clear HC35
                by_cases c38 : t417 = 0
                ·rw [if_pos c38] at H
                 have c38b0 : (t417 == 0) = true := beq_iff_eq.mpr c38
                 have c38b1 : (t417 != 0) = false := bne_eq_false_iff_eq.mpr c38
                 clear c38
                 (first | rw [c38b0] | (simp only [i64_w, i32_w]; rw [c38b0]) | skip)
                 have H' := Aside0.mk H
                 clear H
                 go_wp2
                 go_meet
                 case rel => exact ⟨_, ((t416 != t407)), (by first | rfl | (simp; done) | (simp [*]; done)), H', ⟨by have := HJ4.out; have := HJ7.out; have := HJ15.out; first | omega | exact Nat.le_refl _⟩, ⟨by (with_reducible repeat (first | apply Kd.R_alloc | apply Kd.R_drewN | apply Kd.R_drew)); exact Kd.R_mono HO_14.out (fun _ hk => trivial)⟩, ⟨by repeat (first | (with_reducible first | exact HB.out | apply below_alloc | apply pw_below_drewN | apply below_drew1) | exact HB.out)⟩⟩
                ·rw [if_neg c38] at H
                 exact absurd HRT.out (by rw [wigeontop_TopWinds.dead3 H]; decide)
              case rest =>
               as_aux_lemma =>
                clear HC35
                try clear c1
                try clear c2
                try clear p2
                try clear c3
                try clear c4
                try clear c6
                try clear c6b0
                try clear c6b1
                try clear c7
                try clear c9
                try clear c10
                try clear c11
                try clear c13
                try clear c13b0
                try clear c13b1
                try clear c20
                try clear c20b0
                try clear c20b1
                try clear c21
                try clear c21b0
                try clear c21b1
                try clear c22
                try clear c22b0
                try clear c22b1
                try clear c22b2
                try clear c24
                try clear c24b0
                try clear c24b1
                try clear c25
                try clear c32
                try clear c33
                try clear c37
                try clear c38
                try clear c38b0
                try clear c38b1
                try clear p2
                obtain ⟨kq, x114_34, rfl, HA, HJ34, HO_14, HB⟩ := hcut
                cases kq with
                | zero => exact absurd HA.out (by simp [wigeontop_TopWinds.j3])
                | succ kj34 =>
                 have H := HA.out
                 clear HA
                 simp only [wigeontop_TopWinds.j3] at H
                 by_cases c39 : x114_34 = true
                 ·subst c39
                  have H1 : (some false) = some r := by rw [if_pos rfl] at H; exact H
                  clear H
                  have H := H1
                  clear H1
                  obtain rfl := Option.some.inj H
                  exact absurd HRT.out (by decide)
                 ·replace c39 := Bool.eq_false_iff.mpr c39
                  subst c39
                  have H1 : (if (Int.tmod a2 32) < 0 then (wigeontop_TopWinds.j4 kj34 l0 l1 (wrap64 ((Int.tmod a2 32) + 32)) t404 t411) else (wigeontop_TopWinds.j4 kj34 l0 l1 (Int.tmod a2 32) t404 t411)) = some r := by rw [if_neg (show ¬ (false = true) by decide)] at H; exact H
                  clear H
                  have H := H1
                  clear H1
                  have HC40 := Aside0.mk H
                  clear H
                  go_upto_if 118 with (fail)
                  go_cut [2] (fun v2 wc => ∃ (kq : Nat) (x2_39 : Int), v2 = .int .i64 x2_39 ∧ Aside0 (wigeontop_TopWinds.j4 kq l0 l1 x2_39 t404 t411 = some r) ∧ Aside0 (kq ≤ kj34) ∧ Aside0 (Kd.R (Kd.int .i64) 3 wc w.heap.size (fun _ => True) v413 t411) ∧ Aside0 (Below w.heap.size w wc))
                  case first =>
                   as_aux_lemma =>
                    have H := HC40.out
                    clear HC40
                    by_cases c41 : (Int.tmod a2 32) < 0
                    ·rw [if_pos c41] at H
                     have c41b0 : decide ((Int.tmod a2 32) < 0) = true := decide_eq_true c41
                     clear c41
                     (first | rw [c41b0] | (simp only [i64_w, i32_w]; rw [c41b0]) | skip)
                     have H' := Aside0.mk H
                     clear H
                     go_wp2
                     go_meet
                     case rel => exact ⟨_, (wrap64 ((Int.tmod a2 32) + 32)), (by first | rfl | (simp; done) | (simp [*]; done)), H', ⟨by have := HJ4.out; have := HJ7.out; have := HJ15.out; have := HJ34.out; first | omega | exact Nat.le_refl _⟩, ⟨by (with_reducible repeat (first | apply Kd.R_alloc | apply Kd.R_drewN | apply Kd.R_drew)); exact HO_14.out⟩, ⟨by repeat (first | (with_reducible first | exact HB.out | apply below_alloc | apply pw_below_drewN | apply below_drew1) | exact HB.out)⟩⟩
                    ·rw [if_neg c41] at H
                     have c41b0 : decide ((Int.tmod a2 32) < 0) = false := decide_eq_false c41
                     clear c41
                     (first | rw [c41b0] | (simp only [i64_w, i32_w]; rw [c41b0]) | skip)
                     have H' := Aside0.mk H
                     clear H
                     go_wp2
                     go_meet
                     case rel => exact ⟨_, (Int.tmod a2 32), (by first | rfl | (simp; done) | (simp [*]; done)), H', ⟨by have := HJ4.out; have := HJ7.out; have := HJ15.out; have := HJ34.out; first | omega | exact Nat.le_refl _⟩, ⟨by (with_reducible repeat (first | apply Kd.R_alloc | apply Kd.R_drewN | apply Kd.R_drew)); exact HO_14.out⟩, ⟨by repeat (first | (with_reducible first | exact HB.out | apply below_alloc | apply pw_below_drewN | apply below_drew1) | exact HB.out)⟩⟩
                  case rest =>
                   as_aux_lemma =>
                    clear HC40
                    try clear c1
                    try clear c2
                    try clear p2
                    try clear c3
                    try clear c4
                    try clear c6
                    try clear c6b0
                    try clear c6b1
                    try clear p6
                    try clear c7
                    try clear c9
                    try clear c10
                    try clear c11
                    try clear c13
                    try clear c13b0
                    try clear c13b1
                    try clear c20
                    try clear c20b0
                    try clear c20b1
                    try clear c21
                    try clear c21b0
                    try clear c21b1
                    try clear c22
                    try clear c22b0
                    try clear c22b1
                    try clear c22b2
                    try clear c24
                    try clear c24b0
                    try clear c24b1
                    try clear c25
                    try clear c32
                    try clear c33
                    try clear c37
                    try clear c38
                    try clear c38b0
                    try clear c38b1
                    try clear c39
                    try clear c40
                    try clear c41
                    try clear c41b0
                    try clear p2
                    obtain ⟨kq, x2_39, rfl, HA, HJ39, HO_14, HB⟩ := hcut
                    cases kq with
                    | zero => exact absurd HA.out (by simp [wigeontop_TopWinds.j4])
                    | succ kj39 =>
                     have H := HA.out
                     clear HA
                     simp only [wigeontop_TopWinds.j4] at H
                     have H' := Aside0.mk H
                     clear H
                     go_wp2
                     go_loopg [18, 19] kj39 (fun kq v18 v19 w' => ∃ (x18_6 : List (S33)) (x19_6 : Int), v19 = .int .i64 x19_6 ∧ Aside0 (wigeontop_TopWinds.l0 kq l0 l1 x2_39 t404 t411 x18_6 x19_6 = some r) ∧ Aside0 (kq ≤ kj39) ∧ Aside0 (Kd.R (Kd.int .i64) 3 w' w.heap.size (fun _ => True) v413 t411) ∧ Aside0 (Kd.R k33 33 w' w.heap.size (fun _ => True) v18 x18_6) ∧ Aside0 (Below w.heap.size w w'))
                     case atStart => exact ⟨(([] : List (S33))), (0), (by first | rfl | (simp; done) | (simp [*]; done)), H', ⟨Nat.le_refl _⟩, ⟨by (with_reducible repeat (first | apply Kd.R_alloc | apply Kd.R_drewN | apply Kd.R_drew)); exact HO_14.out⟩, ⟨by first | exact Kd.R_nil _ _ _ _ _ | exact Kd.N_nil _ _ _ _ _ | exact Kd.V_nil _ _ _ _ _ | exact Kd.Q_nil _ _ _ _ _ | exact Kd.S_nil _ _ _ _ _⟩, ⟨by repeat (first | (with_reducible first | exact HB.out | apply below_alloc | apply pw_below_drewN | apply below_drew1) | exact HB.out)⟩⟩
                     case round =>
                      as_aux_lemma =>
                       clear H'
                       try clear c1
                       try clear c2
                       try clear p2
                       try clear c3
                       try clear c4
                       try clear c6
                       try clear c6b0
                       try clear c6b1
                       try clear p6
                       try clear c7
                       try clear c9
                       try clear c10
                       try clear c11
                       try clear c13
                       try clear c13b0
                       try clear c13b1
                       try clear c20
                       try clear c20b0
                       try clear c20b1
                       try clear c21
                       try clear c21b0
                       try clear c21b1
                       try clear c22
                       try clear c22b0
                       try clear c22b1
                       try clear c22b2
                       try clear c24
                       try clear c24b0
                       try clear c24b1
                       try clear c25
                       try clear c32
                       try clear c33
                       try clear c37
                       try clear c38
                       try clear c38b0
                       try clear c38b1
                       try clear c39
                       try clear c40
                       try clear c41
                       try clear c41b0
                       try clear p2
                       try clear p6
                       obtain ⟨x18_6, x19_6, rfl, HA, HK6, HO_14, HO_18, HB⟩ := hrel
                       cases gk with
                       | zero => exact absurd HA.out (by simp [wigeontop_TopWinds.l0])
                       | succ k6 =>
                        have H := HA.out
                        clear HA
                        simp only [wigeontop_TopWinds.l0] at H
                        by_cases c42 : x19_6 < (l0.length : Int)
                        ·rw [if_pos c42] at H
                         have c42b0 : decide (x19_6 < (l0.length : Int)) = true := decide_eq_true c42
                         clear c42
                         by_cases c43 : 0 ≤ x19_6
                         ·rw [if_pos c43] at H
                          have c43b0 : decide (0 ≤ x19_6) = true := decide_eq_true c43
                          clear c43
                          by_cases c44 : x18_6.length < 8796093022208
                          ·rw [if_pos c44] at H
                           have LMc44 := Aside0.mk c44
                           clear c44
                           obtain ⟨y421, hy421⟩ : ∃ y_ : List (S33), y_ = (x18_6 ++ [(⟨Int.tmod (wrap64 (((rd_T33 l0 x19_6).f0) + x2_39)) 32, (rd_T33 l0 x19_6).f1⟩ : S33)]) := ⟨_, rfl⟩
                           replace H : ((wind_Points.f ((rd_T33 l0 x19_6).f0) ((rd_T33 l0 x19_6).f1)).bind fun bt425 => ((wind_Points.f (Int.tmod (wrap64 (((rd_T33 l0 x19_6).f0) + x2_39)) 32) ((rd_T33 l0 x19_6).f1)).bind fun bt427 => ((wind_Turn.f bt425.1 x2_39).bind fun bt429 => (if bt425.2 = 0 then (if bt427.2 = 0 then (if bt429.2 = 0 then (if bt427.1 = bt429.1 then (wigeontop_TopWinds.l0 k6 l0 l1 x2_39 t404 t411 y421 (wrap64 (x19_6 + 1))) else (some false)) else (some false)) else (some false)) else (some false))))) = some r := by first | (rw [hy421]; with_reducible exact H) | (have H2_ := (Option.bind_some _ _).symm.trans H; rw [hy421]; with_reducible exact H2_) | (have H2_ := (Option.bind_some _ _).symm.trans H; with_reducible exact H2_) | with_reducible exact H | (rw [hy421]; exact H) | exact H
                           have Ny421 := Aside0.mk hy421
                           clear hy421
                           replace H := Option.bind_eq_some_iff.mp H
                           obtain ⟨⟨t425, t426⟩, A450, H⟩ := H
                           replace H : ((wind_Points.f (Int.tmod (wrap64 (((rd_T33 l0 x19_6).f0) + x2_39)) 32) ((rd_T33 l0 x19_6).f1)).bind fun bt427 => ((wind_Turn.f t425 x2_39).bind fun bt429 => (if t426 = 0 then (if bt427.2 = 0 then (if bt429.2 = 0 then (if bt427.1 = bt429.1 then (wigeontop_TopWinds.l0 k6 l0 l1 x2_39 t404 t411 y421 (wrap64 (x19_6 + 1))) else (some false)) else (some false)) else (some false)) else (some false)))) = some r := H
                           have A45 := Aside0.mk A450
                           clear A450
                           replace H := Option.bind_eq_some_iff.mp H
                           obtain ⟨⟨t427, t428⟩, A460, H⟩ := H
                           replace H : ((wind_Turn.f t425 x2_39).bind fun bt429 => (if t426 = 0 then (if t428 = 0 then (if bt429.2 = 0 then (if t427 = bt429.1 then (wigeontop_TopWinds.l0 k6 l0 l1 x2_39 t404 t411 y421 (wrap64 (x19_6 + 1))) else (some false)) else (some false)) else (some false)) else (some false))) = some r := H
                           have A46 := Aside0.mk A460
                           clear A460
                           replace H := Option.bind_eq_some_iff.mp H
                           obtain ⟨⟨t429, t430⟩, A470, H⟩ := H
                           replace H : (if t426 = 0 then (if t428 = 0 then (if t430 = 0 then (if t427 = t429 then (wigeontop_TopWinds.l0 k6 l0 l1 x2_39 t404 t411 y421 (wrap64 (x19_6 + 1))) else (some false)) else (some false)) else (some false)) else (some false)) = some r := H
                           have A47 := Aside0.mk A470
                           clear A470
                           by_cases c48 : t426 = 0
                           ·rw [if_pos c48] at H
                            have c48b0 : (t426 == 0) = true := beq_iff_eq.mpr c48
                            have c48b1 : (t426 != 0) = false := bne_eq_false_iff_eq.mpr c48
                            clear c48
                            by_cases c49 : t428 = 0
                            ·rw [if_pos c49] at H
                             have c49b0 : (t428 == 0) = true := beq_iff_eq.mpr c49
                             have c49b1 : (t428 != 0) = false := bne_eq_false_iff_eq.mpr c49
                             clear c49
                             by_cases c50 : t430 = 0
                             ·rw [if_pos c50] at H
                              have c50b0 : (t430 == 0) = true := beq_iff_eq.mpr c50
                              have c50b1 : (t430 != 0) = false := bne_eq_false_iff_eq.mpr c50
                              clear c50
                              by_cases c51 : t427 = t429
                              ·rw [if_pos c51] at H
                               have c51b0 : (t427 == t429) = true := beq_iff_eq.mpr c51
                               have c51b1 : (t427 != t429) = false := bne_eq_false_iff_eq.mpr c51
                               clear c51
                               have H' := Aside0.mk H
                               clear H
                               try go_wp2
                               have n0_ := Aside0.mk (Kd.R_drew HO_14.out)
                               have n1_ := Aside0.mk (Kd.R_drew HO_18.out)
                               have n2_ := Aside0.mk (below_drew1 HB.out)
                               clear HO_14
                               clear HO_18
                               clear HB
                               have HO_14 := n0_
                               have HO_18 := n1_
                               have HB := n2_
                               clear n0_ n1_ n2_
                               have p418 : 0 ≤ (x19_6 : Int) := of_decide_eq_true (by first | (with_reducible assumption) | assumption)
                               have q418 : x19_6 < (l0.length : Int) := of_decide_eq_true (by first | (with_reducible assumption) | assumption)
                               obtain ⟨ad418, e418, hx418_0, hx418_1⟩ := at_T33 HR0.out x19_6 p418 q418
                               have hw418_1 := hx418_1
                               have hw418_0 := hx418_0
                               cases e418
                               replace hx418_0 := (HB.out.cell (World.block_lt_of_cell? w _ hx418_0)).trans hx418_0
                               replace hx418_1 := (HB.out.cell (World.block_lt_of_cell? w _ hx418_1)).trans hx418_1
                               replace p418 := eq_true p418
                               replace q418 := eq_true q418
                               have p419 : 0 ≤ (x19_6 : Int) := of_decide_eq_true (by first | (with_reducible assumption) | assumption)
                               have q419 : x19_6 < (l0.length : Int) := of_decide_eq_true (by first | (with_reducible assumption) | assumption)
                               obtain ⟨ad419, e419, hx419_0, hx419_1⟩ := at_T33 HR0.out x19_6 p419 q419
                               have hw419_1 := hx419_1
                               have hw419_0 := hx419_0
                               obtain rfl : ad418 = ad419 := (by injection e419)
                               replace hx419_0 := (HB.out.cell (World.block_lt_of_cell? w _ hx419_0)).trans hx419_0
                               replace hx419_1 := (HB.out.cell (World.block_lt_of_cell? w _ hx419_1)).trans hx419_1
                               replace p419 := eq_true p419
                               replace q419 := eq_true q419
                               refine start_ (n := 16) (S := fun w' => w'.cell? (ad418.add ((x19_6).toNat * 2)) = some (.int .i64 ((rd_T33 l0 x19_6).f0)) ∧ w'.cell? ⟨(ad418.add ((x19_6).toNat * 2)).block, (ad418.add ((x19_6).toNat * 2)).off + 1, none⟩ = some (.int .i64 ((rd_T33 l0 x19_6).f1)) ∧ w'.cell? (ad418.add ((x19_6).toNat * 2)) = some (.int .i64 ((rd_T33 l0 x19_6).f0)) ∧ w'.cell? ⟨(ad418.add ((x19_6).toNat * 2)).block, (ad418.add ((x19_6).toNat * 2)).off + 1, none⟩ = some (.int .i64 ((rd_T33 l0 x19_6).f1))) (ds := []) #[false, false, false, false, false, false, false, false, false, false, false, false, false, false, false, false] (by kernel_rfl) rfl rfl ⟨((HB.out.cell (World.block_lt_of_cell? w _ hw418_0)).trans hw418_0), ((HB.out.cell (World.block_lt_of_cell? w _ hw418_1)).trans hw418_1), ((HB.out.cell (World.block_lt_of_cell? w _ hw419_0)).trans hw419_0), ((HB.out.cell (World.block_lt_of_cell? w _ hw419_1)).trans hw419_1)⟩ (fun hHeld => ?_); refine with_tabW wigeontop_TopWinds.tab23 wigeontop_TopWinds.bits23 (fun HT_ HW_ => ?_)
                               generalize wr.drew = w52 at HO_14 HO_18 HB hx418_0 hx418_1 hx419_0 hx419_1 hHeld ⊢
                               refine pure_ (i := 0) (N := some 127) (v := ?_) (a' := ?_) #[true, false, false, false, false, false, false, false, false, false, false, false, false, false, false, false] rfl rfl (any_of HT_.out (by kernel_rfl)) (fun _ _ _ h => h) (Or.inl ⟨by rfl, ?_⟩) ?_ ?_
                               rotate_left
                               ·intro w'
                                go_simp
                                with_reducible rfl
                               rotate_left
                               ·simp only [Act.put, List.setIfInBounds_toArray, List.set_cons_zero, List.set_cons_succ, i64_w, i32_w]
                                rfl
                               refine pure_ (i := 1) (N := some 128) (v := ?_) (a' := ?_) #[true, true, false, false, false, false, false, false, false, false, false, false, false, false, false, false] rfl rfl (any_of HT_.out (by kernel_rfl)) (fun _ _ _ h => h) (Or.inl ⟨by rfl, ?_⟩) ?_ ?_
                               rotate_left
                               ·intro w'
                                go_simp
                                with_reducible rfl
                               rotate_left
                               ·simp only [Act.put, List.setIfInBounds_toArray, List.set_cons_zero, List.set_cons_succ, i64_w, i32_w]
                                rfl
                               refine pure_ (i := 2) (N := some 129) (v := ?_) (a' := ?_) #[true, true, true, false, false, false, false, false, false, false, false, false, false, false, false, false] rfl rfl (any_of HT_.out (by kernel_rfl)) (fun _ _ _ h => h) (Or.inl ⟨by rfl, ?_⟩) ?_ ?_
                               rotate_left
                               ·intro w'
                                go_simp
                                with_reducible rfl
                               rotate_left
                               ·simp only [Act.put, List.setIfInBounds_toArray, List.set_cons_zero, List.set_cons_succ, i64_w, i32_w]
                                rfl
                               refine pure_ (i := 3) (N := some 130) (v := ?_) (a' := ?_) #[true, true, true, true, false, false, false, false, false, false, false, false, false, false, false, false] rfl rfl (any_of HT_.out (by kernel_rfl)) (fun _ _ _ h => h) (Or.inl ⟨by rfl, ?_⟩) ?_ ?_
                               rotate_left
                               ·intro w'
                                go_simp
                                with_reducible rfl
                               rotate_left
                               ·simp only [Act.put, List.setIfInBounds_toArray, List.set_cons_zero, List.set_cons_succ, i64_w, i32_w]
                                rfl
                               refine pure_ (i := 5) (N := some 132) (v := ?_) (a' := ?_) #[true, true, true, true, false, true, false, false, false, false, false, false, false, false, false, false] rfl rfl (any_of HT_.out (by kernel_rfl)) (fun _ _ _ h => h) (Or.inl ⟨by rfl, ?_⟩) ?_ ?_
                               rotate_left
                               ·intro w'
                                go_simp
                                with_reducible rfl
                               rotate_left
                               ·simp only [Act.put, List.setIfInBounds_toArray, List.set_cons_zero, List.set_cons_succ, i64_w, i32_w]
                                rfl
                               refine pure_ (i := 8) (N := some 135) (v := ?_) (a' := ?_) #[true, true, true, true, false, true, false, false, true, false, false, false, false, false, false, false] rfl rfl (any_of HT_.out (by kernel_rfl)) (fun _ _ _ h => h) (Or.inl ⟨by rfl, ?_⟩) ?_ ?_
                               rotate_left
                               ·intro w'
                                go_simp
                                with_reducible rfl
                               rotate_left
                               ·simp only [Act.put, List.setIfInBounds_toArray, List.set_cons_zero, List.set_cons_succ, i64_w, i32_w]
                                rfl
                               refine pure_ (i := 9) (N := some 136) (v := ?_) (a' := ?_) #[true, true, true, true, false, true, false, false, true, true, false, false, false, false, false, false] rfl rfl (any_of HT_.out (by kernel_rfl)) (fun _ _ _ h => h) (Or.inl ⟨by rfl, ?_⟩) ?_ ?_
                               rotate_left
                               ·intro w'
                                go_simp
                                with_reducible rfl
                               rotate_left
                               ·simp only [Act.put, List.setIfInBounds_toArray, List.set_cons_zero, List.set_cons_succ, i64_w, i32_w]
                                rfl
                               refine pure_ (i := 10) (N := some 137) (v := ?_) (a' := ?_) #[true, true, true, true, false, true, false, false, true, true, true, false, false, false, false, false] rfl rfl (any_of HT_.out (by kernel_rfl)) (fun _ _ _ h => h) (Or.inl ⟨by rfl, ?_⟩) ?_ ?_
                               rotate_left
                               ·intro w'
                                go_simp
                                with_reducible rfl
                               rotate_left
                               ·simp only [Act.put, List.setIfInBounds_toArray, List.set_cons_zero, List.set_cons_succ, i64_w, i32_w]
                                rfl
                               refine pure_ (i := 11) (N := some 138) (v := ?_) (a' := ?_) #[true, true, true, true, false, true, false, false, true, true, true, true, false, false, false, false] rfl rfl (any_of HT_.out (by kernel_rfl)) (fun _ _ _ h => h) (Or.inl ⟨by rfl, ?_⟩) ?_ ?_
                               rotate_left
                               ·intro w'
                                go_simp
                                with_reducible rfl
                               rotate_left
                               ·simp only [Act.put, List.setIfInBounds_toArray, List.set_cons_zero, List.set_cons_succ, i64_w, i32_w]
                                rfl
                               refine take_ (i := 4) (N := some 131) (v := ?_) (a' := ?_) #[true, true, true, true, true, true, false, false, true, true, true, true, false, false, false, false] rfl rfl (take_ofW HT_.out HW_.out (by kernel_rfl)) (fun _ _ _ h => h) (Or.inl ⟨by rfl, ?_⟩) hHeld ?_ ?_
                               rotate_left
                               ·rintro w' ⟨s0, s1, s2, s3⟩
                                go_simp
                                with_reducible rfl
                               rotate_left
                               ·simp only [Act.put, List.setIfInBounds_toArray, List.set_cons_zero, List.set_cons_succ, i64_w, i32_w]
                                rfl
                               refine pure_ (i := 6) (N := some 133) (v := ?_) (a' := ?_) #[true, true, true, true, true, true, true, false, true, true, true, true, false, false, false, false] rfl rfl (any_of HT_.out (by kernel_rfl)) (fun _ _ _ h => h) (Or.inl ⟨by rfl, ?_⟩) ?_ ?_
                               rotate_left
                               ·intro w'
                                go_simp
                                with_reducible rfl
                               rotate_left
                               ·simp only [Act.put, List.setIfInBounds_toArray, List.set_cons_zero, List.set_cons_succ, i64_w, i32_w]
                                rfl
                               refine pure_ (i := 7) (N := some 134) (v := ?_) (a' := ?_) #[true, true, true, true, true, true, true, true, true, true, true, true, false, false, false, false] rfl rfl (any_of HT_.out (by kernel_rfl)) (fun _ _ _ h => h) (Or.inl ⟨by rfl, ?_⟩) ?_ ?_
                               rotate_left
                               ·intro w'
                                go_simp
                                with_reducible rfl
                               rotate_left
                               ·simp only [Act.put, List.setIfInBounds_toArray, List.set_cons_zero, List.set_cons_succ, i64_w, i32_w]
                                rfl
                               refine take_ (i := 12) (N := some 139) (v := ?_) (a' := ?_) #[true, true, true, true, true, true, true, true, true, true, true, true, true, false, false, false] rfl rfl (take_ofW HT_.out HW_.out (by kernel_rfl)) (fun _ _ _ h => h) (Or.inl ⟨by rfl, ?_⟩) hHeld ?_ ?_
                               rotate_left
                               ·rintro w' ⟨s0, s1, s2, s3⟩
                                go_simp
                                with_reducible rfl
                               rotate_left
                               ·simp only [Act.put, List.setIfInBounds_toArray, List.set_cons_zero, List.set_cons_succ, i64_w, i32_w]
                                rfl
                               refine pure_ (i := 13) (N := some 140) (v := ?_) (a' := ?_) #[true, true, true, true, true, true, true, true, true, true, true, true, true, true, false, false] rfl rfl (any_of HT_.out (by kernel_rfl)) (fun _ _ _ h => h) (Or.inl ⟨by rfl, ?_⟩) ?_ ?_
                               rotate_left
                               ·intro w'
                                go_simp
                                with_reducible rfl
                               rotate_left
                               ·simp only [Act.put, List.setIfInBounds_toArray, List.set_cons_zero, List.set_cons_succ, i64_w, i32_w]
                                rfl
                               refine one_ (i := 14) (N := some 20) #[true, true, true, true, true, true, true, true, true, true, true, true, true, true, true, false] rfl rfl (one_of HT_.out (by kernel_rfl)) (by decide) (fun K hK => ?_)
                               refine box_step ?hg (N := 20) ?hd (cs := #[.int .i64 0, .int .i64 0]) (t := 33) ?hr ?_; (case hd => rfl); (case hg => rfl); (case hr => first | (go_simp; done) | (go_simp; rfl))
                               intro gb420 hg w53 hbox hb
                               have n0_ := Aside0.mk (Kd.R_below (by (with_reducible repeat (first | apply Kd.R_alloc | apply Kd.R_drewN | apply Kd.R_drew)); exact HO_14.out) hb)
                               have n1_ := Aside0.mk (Kd.R_below (Kd.R_elderB (by (with_reducible repeat (first | apply Kd.R_alloc | apply Kd.R_drewN | apply Kd.R_drew)); exact HO_18.out) gb420 (Nat.le_of_eq hg.symm)) hb)
                               have n2_ := Aside0.mk (below_step (by repeat (first | (with_reducible first | exact HB.out | apply below_alloc | apply pw_below_drewN | apply below_drew1) | exact HB.out)) hb)
                               have n3_ := Aside0.mk (hbox)
                               have n4_ := Aside0.mk ((by rw [hg]; exact (below_size (by repeat (first | (with_reducible first | exact HB.out | apply below_alloc | apply pw_below_drewN | apply below_drew1) | exact HB.out))) : w.heap.size ≤ gb420))
                               have n5_ := Aside0.mk ((by rw [hg]; exact (below_size (by repeat (first | (with_reducible first | exact HB.out | apply below_alloc | apply pw_below_drewN | apply below_drew1) | exact HB.out))) : w.heap.size ≤ gb420))
                               clear HO_14
                               clear HO_18
                               clear HB
                               have HO_14 := n0_
                               have HO_18 := n1_
                               have HB := n2_
                               have BK420 := n3_
                               have GW420 := n4_
                               have GE420 := n5_
                               clear n0_ n1_ n2_ n3_ n4_ n5_
                               clear hb hbox hg
                               refine hK.out _ _ ⟨((HB.out.cell (World.block_lt_of_cell? w _ hw418_0)).trans hw418_0), ((HB.out.cell (World.block_lt_of_cell? w _ hw418_1)).trans hw418_1), ((HB.out.cell (World.block_lt_of_cell? w _ hw419_0)).trans hw419_0), ((HB.out.cell (World.block_lt_of_cell? w _ hw419_1)).trans hw419_1)⟩ (fun hHeld => ?_)
                               clear hK K
                               refine norm_ (a' := ?_) ?_ ?_
                               rotate_left
                               ·show Act.put _ (some 20) _ = _
                                simp only [Act.put, List.setIfInBounds_toArray, List.set_cons_zero, List.set_cons_succ, i64_w, i32_w]
                                rfl
                               refine one_ (i := 15) (N := none) #[true, true, true, true, true, true, true, true, true, true, true, true, true, true, true, true] rfl rfl (one_of HT_.out (by kernel_rfl)) (by decide) (fun K hK => ?_)
                               have hs54 : w53.cell? ⟨gb420, 0, none⟩ = some (.int .i64 0) := (blk_cell BK420.out 0).trans rfl
                               have hfs54 := blk_frozen BK420.out 0
                               have hs55 : w53.cell? ⟨gb420, 1, none⟩ = some (.int .i64 0) := (blk_cell BK420.out 1).trans rfl
                               have hfs55 := blk_frozen BK420.out 1
                               refine skip_ (w1 := ?_) (by rfl) rfl ?_ ?_
                               rotate_left
                               ·go_simp
                                rfl
                               refine hK.out _ _ ⟨((cell_far (p := ⟨gb420, _, none⟩) (by first | exact Nat.ne_of_lt (Nat.lt_of_lt_of_le (by have := World.block_lt_of_cell? _ _ hw418_0; first | rwa [add_block] at this | exact this) GW420.out) | (rw [add_block]; exact Nat.ne_of_lt (Nat.lt_of_lt_of_le (by have := World.block_lt_of_cell? _ _ hw418_0; first | rwa [add_block] at this | exact this) GW420.out)) | (show (Addr.add _ _).block ≠ _; rw [add_block]; exact Nat.ne_of_lt (Nat.lt_of_lt_of_le (by have := World.block_lt_of_cell? _ _ hw418_0; first | rwa [add_block] at this | exact this) GW420.out)) | (dsimp only; exact Nat.ne_of_lt (Nat.lt_of_lt_of_le (by have := World.block_lt_of_cell? _ _ hw418_0; first | rwa [add_block] at this | exact this) GW420.out))) _).trans (((cell_far (p := ⟨gb420, _, none⟩) (by first | exact Nat.ne_of_lt (Nat.lt_of_lt_of_le (by have := World.block_lt_of_cell? _ _ hw418_0; first | rwa [add_block] at this | exact this) GW420.out) | (rw [add_block]; exact Nat.ne_of_lt (Nat.lt_of_lt_of_le (by have := World.block_lt_of_cell? _ _ hw418_0; first | rwa [add_block] at this | exact this) GW420.out)) | (show (Addr.add _ _).block ≠ _; rw [add_block]; exact Nat.ne_of_lt (Nat.lt_of_lt_of_le (by have := World.block_lt_of_cell? _ _ hw418_0; first | rwa [add_block] at this | exact this) GW420.out)) | (dsimp only; exact Nat.ne_of_lt (Nat.lt_of_lt_of_le (by have := World.block_lt_of_cell? _ _ hw418_0; first | rwa [add_block] at this | exact this) GW420.out))) _).trans (hHeld.1)))), ((cell_far (p := ⟨gb420, _, none⟩) (by first | exact Nat.ne_of_lt (Nat.lt_of_lt_of_le (by have := World.block_lt_of_cell? _ _ hw418_1; first | rwa [add_block] at this | exact this) GW420.out) | (rw [add_block]; exact Nat.ne_of_lt (Nat.lt_of_lt_of_le (by have := World.block_lt_of_cell? _ _ hw418_1; first | rwa [add_block] at this | exact this) GW420.out)) | (show (Addr.add _ _).block ≠ _; rw [add_block]; exact Nat.ne_of_lt (Nat.lt_of_lt_of_le (by have := World.block_lt_of_cell? _ _ hw418_1; first | rwa [add_block] at this | exact this) GW420.out)) | (dsimp only; exact Nat.ne_of_lt (Nat.lt_of_lt_of_le (by have := World.block_lt_of_cell? _ _ hw418_1; first | rwa [add_block] at this | exact this) GW420.out))) _).trans (((cell_far (p := ⟨gb420, _, none⟩) (by first | exact Nat.ne_of_lt (Nat.lt_of_lt_of_le (by have := World.block_lt_of_cell? _ _ hw418_1; first | rwa [add_block] at this | exact this) GW420.out) | (rw [add_block]; exact Nat.ne_of_lt (Nat.lt_of_lt_of_le (by have := World.block_lt_of_cell? _ _ hw418_1; first | rwa [add_block] at this | exact this) GW420.out)) | (show (Addr.add _ _).block ≠ _; rw [add_block]; exact Nat.ne_of_lt (Nat.lt_of_lt_of_le (by have := World.block_lt_of_cell? _ _ hw418_1; first | rwa [add_block] at this | exact this) GW420.out)) | (dsimp only; exact Nat.ne_of_lt (Nat.lt_of_lt_of_le (by have := World.block_lt_of_cell? _ _ hw418_1; first | rwa [add_block] at this | exact this) GW420.out))) _).trans (hHeld.2.1)))), ((cell_far (p := ⟨gb420, _, none⟩) (by first | exact Nat.ne_of_lt (Nat.lt_of_lt_of_le (by have := World.block_lt_of_cell? _ _ hw419_0; first | rwa [add_block] at this | exact this) GW420.out) | (rw [add_block]; exact Nat.ne_of_lt (Nat.lt_of_lt_of_le (by have := World.block_lt_of_cell? _ _ hw419_0; first | rwa [add_block] at this | exact this) GW420.out)) | (show (Addr.add _ _).block ≠ _; rw [add_block]; exact Nat.ne_of_lt (Nat.lt_of_lt_of_le (by have := World.block_lt_of_cell? _ _ hw419_0; first | rwa [add_block] at this | exact this) GW420.out)) | (dsimp only; exact Nat.ne_of_lt (Nat.lt_of_lt_of_le (by have := World.block_lt_of_cell? _ _ hw419_0; first | rwa [add_block] at this | exact this) GW420.out))) _).trans (((cell_far (p := ⟨gb420, _, none⟩) (by first | exact Nat.ne_of_lt (Nat.lt_of_lt_of_le (by have := World.block_lt_of_cell? _ _ hw419_0; first | rwa [add_block] at this | exact this) GW420.out) | (rw [add_block]; exact Nat.ne_of_lt (Nat.lt_of_lt_of_le (by have := World.block_lt_of_cell? _ _ hw419_0; first | rwa [add_block] at this | exact this) GW420.out)) | (show (Addr.add _ _).block ≠ _; rw [add_block]; exact Nat.ne_of_lt (Nat.lt_of_lt_of_le (by have := World.block_lt_of_cell? _ _ hw419_0; first | rwa [add_block] at this | exact this) GW420.out)) | (dsimp only; exact Nat.ne_of_lt (Nat.lt_of_lt_of_le (by have := World.block_lt_of_cell? _ _ hw419_0; first | rwa [add_block] at this | exact this) GW420.out))) _).trans (hHeld.2.2.1)))), ((cell_far (p := ⟨gb420, _, none⟩) (by first | exact Nat.ne_of_lt (Nat.lt_of_lt_of_le (by have := World.block_lt_of_cell? _ _ hw419_1; first | rwa [add_block] at this | exact this) GW420.out) | (rw [add_block]; exact Nat.ne_of_lt (Nat.lt_of_lt_of_le (by have := World.block_lt_of_cell? _ _ hw419_1; first | rwa [add_block] at this | exact this) GW420.out)) | (show (Addr.add _ _).block ≠ _; rw [add_block]; exact Nat.ne_of_lt (Nat.lt_of_lt_of_le (by have := World.block_lt_of_cell? _ _ hw419_1; first | rwa [add_block] at this | exact this) GW420.out)) | (dsimp only; exact Nat.ne_of_lt (Nat.lt_of_lt_of_le (by have := World.block_lt_of_cell? _ _ hw419_1; first | rwa [add_block] at this | exact this) GW420.out))) _).trans (((cell_far (p := ⟨gb420, _, none⟩) (by first | exact Nat.ne_of_lt (Nat.lt_of_lt_of_le (by have := World.block_lt_of_cell? _ _ hw419_1; first | rwa [add_block] at this | exact this) GW420.out) | (rw [add_block]; exact Nat.ne_of_lt (Nat.lt_of_lt_of_le (by have := World.block_lt_of_cell? _ _ hw419_1; first | rwa [add_block] at this | exact this) GW420.out)) | (show (Addr.add _ _).block ≠ _; rw [add_block]; exact Nat.ne_of_lt (Nat.lt_of_lt_of_le (by have := World.block_lt_of_cell? _ _ hw419_1; first | rwa [add_block] at this | exact this) GW420.out)) | (dsimp only; exact Nat.ne_of_lt (Nat.lt_of_lt_of_le (by have := World.block_lt_of_cell? _ _ hw419_1; first | rwa [add_block] at this | exact this) GW420.out))) _).trans (hHeld.2.2.2))))⟩ (fun hHeld => ?_)
                               clear hK K
                               refine done_ (done_of HT_.out (by kernel_rfl)) ?_
                               have hcz56_0 : w53.cell? ⟨gb420, 0, none⟩ = some (.int .i64 0) := (blk_cell BK420.out 0).trans rfl
                               have hcz56_1 : w53.cell? ⟨gb420, 1, none⟩ = some (.int .i64 0) := (blk_cell BK420.out 1).trans rfl
                               have hfz56_0 := blk_frozen BK420.out 0
                               have hfz56_1 := blk_frozen BK420.out 1
                               try go_wp2_with (first | ((with_reducible refine gate_builtin (b := .append) (xs := #[.tmp 141, .tmp 143]) rfl ?_); (try (refine gate_guard (by rfl) ?_; dsimp only)); at_builtin; refine Kd.R_append k33 (w0 := w) w.heap.size rfl (.tmp 141) (.tmp 143) 36 33 (.agg #[(.int .i64 0), (.int .i64 0)]) 16 rfl Tryd.underlying36 info33 rfl (by decide) (by omega) u18 x18_6 (⟨Int.tmod (wrap64 (((rd_T33 l0 x19_6).f0) + x2_39)) 32, (rd_T33 l0 x19_6).f1⟩ : S33) [.int .i64 (Int.tmod (wrap64 (((rd_T33 l0 x19_6).f0) + x2_39)) 32), .int .i64 ((rd_T33 l0 x19_6).f1)] (fun k_ => k_ ≠ gb420) (fun _ => False) rfl (by first | (go_simp; done) | (go_simp; rfl)) ?aP (fun _ hk => hk.elim) ?aF ?aO ?aB ?aS ?aL ?_; (case aP => exact k33_mkM _ _ _ (⟨Int.tmod (wrap64 (((rd_T33 l0 x19_6).f0) + x2_39)) 32, (rd_T33 l0 x19_6).f1⟩ : S33)); (case aB => exact (by repeat (first | (with_reducible first | exact HB.out | apply below_alloc | apply pw_below_drewN | apply below_drew1 | refine below_set ?_ GE420.out) | exact HB.out))); (case aF => exact (fun k_ hk => Kd.freshB (g := gb420) (o := .cells #[.int .i64 (Int.tmod (wrap64 (((rd_T33 l0 x19_6).f0) + x2_39)) 32), .int .i64 ((rd_T33 l0 x19_6).f1)] 33 (0, 0)) (by (with_reducible repeat (first | refine blk_drewN ?_ _ | refine blk_drew ?_ | refine blk_alloc ?_ _)); refine blk_put (cs := #[.int .i64 (Int.tmod (wrap64 (((rd_T33 l0 x19_6).f0) + x2_39)) 32), .int .i64 0]) ?_ 1 _ rfl; (with_reducible repeat (first | refine blk_drewN ?_ _ | refine blk_drew ?_ | refine blk_alloc ?_ _)); refine blk_put (cs := #[.int .i64 0, .int .i64 0]) ?_ 0 _ rfl; (with_reducible repeat (first | refine blk_drewN ?_ _ | refine blk_drew ?_ | refine blk_alloc ?_ _)); exact BK420.out) k_ hk)); (case aO => exact (by (with_reducible repeat (first | apply Kd.R_alloc | apply Kd.R_drewN | apply Kd.R_drew)); exact Kd.R_mono (Kd.R_far (p := ⟨gb420, 1, none⟩) (Kd.R_far (p := ⟨gb420, 0, none⟩) (Kd.R_mono HO_18.out (fun k_ hk => (⟨hk, hk.2⟩ : _ ∧ k_ ≠ gb420))) (fun _ hk => hk.2) (.int .i64 (Int.tmod (wrap64 (((rd_T33 l0 x19_6).f0) + x2_39)) 32))) (fun _ hk => hk.2) (.int .i64 ((rd_T33 l0 x19_6).f1))) (fun _ hk => hk.1.2))); (case aS => exact (below_size (by repeat (first | (with_reducible first | exact HB.out | apply below_alloc | apply pw_below_drewN | apply below_drew1 | refine below_set ?_ GE420.out) | exact HB.out)))); (case aL => have := LMc44.out; omega); intro v422 w57 ho hb hg hat; rw [← Ny421.out] at ho; have n0_ := Aside0.mk (Kd.R_over' (by (with_reducible repeat (first | apply Kd.R_alloc | apply Kd.R_drewN | apply Kd.R_drew)); exact (Kd.R_mono (Kd.R_far (p := ⟨gb420, 1, none⟩) (Kd.R_far (p := ⟨gb420, 0, none⟩) (Kd.R_types HO_14.out BK420.out (by decide)) (fun _ hk => hk.2) (.int .i64 (Int.tmod (wrap64 (((rd_T33 l0 x19_6).f0) + x2_39)) 32))) (fun _ hk => hk.2) (.int .i64 ((rd_T33 l0 x19_6).f1))) (fun _ h_ => h_.1))) (Kd.R_typed (by (with_reducible repeat (first | apply Kd.R_alloc | apply Kd.R_drewN | apply Kd.R_drew)); exact (Kd.R_mono (Kd.R_far (p := ⟨gb420, 1, none⟩) (Kd.R_far (p := ⟨gb420, 0, none⟩) (Kd.R_mono HO_18.out (fun k_ hk => (⟨hk, hk.2⟩ : _ ∧ k_ ≠ gb420))) (fun _ hk => hk.2) (.int .i64 (Int.tmod (wrap64 (((rd_T33 l0 x19_6).f0) + x2_39)) 32))) (fun _ hk => hk.2) (.int .i64 ((rd_T33 l0 x19_6).f1))) (fun _ h_ => h_.1)))) (by decide) hg); have n1_ := Aside0.mk (blk_grown (g := gb420) (o := .cells #[.int .i64 (Int.tmod (wrap64 (((rd_T33 l0 x19_6).f0) + x2_39)) 32), .int .i64 ((rd_T33 l0 x19_6).f1)] 33 (0, 0)) (by (with_reducible repeat (first | refine blk_drewN ?_ _ | refine blk_drew ?_ | refine blk_alloc ?_ _)); refine blk_put (cs := #[.int .i64 (Int.tmod (wrap64 (((rd_T33 l0 x19_6).f0) + x2_39)) 32), .int .i64 0]) ?_ 1 _ rfl; (with_reducible repeat (first | refine blk_drewN ?_ _ | refine blk_drew ?_ | refine blk_alloc ?_ _)); refine blk_put (cs := #[.int .i64 0, .int .i64 0]) ?_ 0 _ rfl; (with_reducible repeat (first | refine blk_drewN ?_ _ | refine blk_drew ?_ | refine blk_alloc ?_ _)); exact BK420.out) hg (Kd.R_away HO_18.out (fun _ hk => hk.2))); have n2_ := Aside0.mk (hb); have n3_ := Aside0.mk (ho); clear HO_14; clear BK420; clear HB; clear HO_18; have HO_14 := n0_; have BK420 := n1_; have HB := n2_; have HO423 := n3_; clear n0_ n1_ n2_ n3_; clear ho hb hg hat; have p424 : 0 ≤ (x19_6 : Int) := of_decide_eq_true (by first | (with_reducible assumption) | assumption); have q424 : x19_6 < (l0.length : Int) := of_decide_eq_true (by first | (with_reducible assumption) | assumption); obtain ⟨ad424, e424, hx424_0, hx424_1⟩ := at_T33 HR0.out x19_6 p424 q424; obtain rfl : ad418 = ad424 := (by injection e424); replace hx424_0 := (HB.out.cell (World.block_lt_of_cell? w _ hx424_0)).trans hx424_0; replace hx424_1 := (HB.out.cell (World.block_lt_of_cell? w _ hx424_1)).trans hx424_1; replace p424 := eq_true p424; replace q424 := eq_true q424) | ((with_reducible refine gate_callee (f := 25) rfl ?_); refine goesL_ (some 150) rfl rfl Tryd.func25 (by kernel_rfl) rfl #[.agg #[.int .i64 ((rd_T33 l0 x19_6).f0), .int .i64 ((rd_T33 l0 x19_6).f1)]] rfl (by (try simp only [List.map_toArray, List.map_cons, List.map_nil]); first | done | rfl | (simp only [List.length_drop, List.length_take]; rfl)) ?_; (with_reducible refine (wind_Points.calls ((rd_T33 l0 x19_6).f0) ((rd_T33 l0 x19_6).f1) t425 t426 _ A45.out).mono ?_); rintro e w58 ⟨rfl, hb⟩; refine ⟨_, rfl, ?_⟩; have n0_ := Aside0.mk (Kd.R_below (by (with_reducible repeat (first | apply Kd.R_alloc | apply Kd.R_drewN | apply Kd.R_drew)); exact HO_14.out) hb); have n1_ := Aside0.mk (Kd.R_below (by (with_reducible repeat (first | apply Kd.R_alloc | apply Kd.R_drewN | apply Kd.R_drew)); exact HO423.out) hb); have n2_ := Aside0.mk (blk_below (g := gb420) (o := .cells #[.int .i64 (Int.tmod (wrap64 (((rd_T33 l0 x19_6).f0) + x2_39)) 32), .int .i64 ((rd_T33 l0 x19_6).f1)] 33 (0, 0)) (by (with_reducible repeat (first | refine blk_drewN ?_ _ | refine blk_drew ?_ | refine blk_alloc ?_ _)); exact BK420.out) hb); have n3_ := Aside0.mk (below_step (by repeat (first | (with_reducible first | exact HB.out | apply below_alloc | apply pw_below_drewN | apply below_drew1 | refine below_set ?_ GE420.out) | exact HB.out)) hb); clear HO_14; clear HO423; clear BK420; clear HB; have HO_14 := n0_; have HO423 := n1_; have BK420 := n2_; have HB := n3_; clear n0_ n1_ n2_ n3_; (try clear hb); (try clear hb2); (try clear hk); (try clear hi); have hcz59_0 : w58.cell? ⟨gb420, 0, none⟩ = some (.int .i64 (Int.tmod (wrap64 (((rd_T33 l0 x19_6).f0) + x2_39)) 32)) := (blk_cell BK420.out 0).trans rfl; have hcz59_1 : w58.cell? ⟨gb420, 1, none⟩ = some (.int .i64 ((rd_T33 l0 x19_6).f1)) := (blk_cell BK420.out 1).trans rfl; have hfz59_0 := blk_frozen BK420.out 0; have hfz59_1 := blk_frozen BK420.out 1) | ((with_reducible refine gate_callee (f := 25) rfl ?_); refine goesL_ (some 155) rfl rfl Tryd.func25 (by kernel_rfl) rfl #[.agg #[.int .i64 (Int.tmod (wrap64 (((rd_T33 l0 x19_6).f0) + x2_39)) 32), .int .i64 ((rd_T33 l0 x19_6).f1)]] rfl (by (try simp only [List.map_toArray, List.map_cons, List.map_nil]); first | done | rfl | (simp only [List.length_drop, List.length_take]; rfl)) ?_; (with_reducible refine (wind_Points.calls (Int.tmod (wrap64 (((rd_T33 l0 x19_6).f0) + x2_39)) 32) ((rd_T33 l0 x19_6).f1) t427 t428 _ A46.out).mono ?_); rintro e w60 ⟨rfl, hb⟩; refine ⟨_, rfl, ?_⟩; have n0_ := Aside0.mk (Kd.R_below (by (with_reducible repeat (first | apply Kd.R_alloc | apply Kd.R_drewN | apply Kd.R_drew)); exact HO_14.out) hb); have n1_ := Aside0.mk (Kd.R_below (by (with_reducible repeat (first | apply Kd.R_alloc | apply Kd.R_drewN | apply Kd.R_drew)); exact HO423.out) hb); have n2_ := Aside0.mk (blk_below (g := gb420) (o := .cells #[.int .i64 (Int.tmod (wrap64 (((rd_T33 l0 x19_6).f0) + x2_39)) 32), .int .i64 ((rd_T33 l0 x19_6).f1)] 33 (0, 0)) (by (with_reducible repeat (first | refine blk_drewN ?_ _ | refine blk_drew ?_ | refine blk_alloc ?_ _)); exact BK420.out) hb); have n3_ := Aside0.mk (below_step (by repeat (first | (with_reducible first | exact HB.out | apply below_alloc | apply pw_below_drewN | apply below_drew1 | refine below_set ?_ GE420.out) | exact HB.out)) hb); clear HO_14; clear HO423; clear BK420; clear HB; have HO_14 := n0_; have HO423 := n1_; have BK420 := n2_; have HB := n3_; clear n0_ n1_ n2_ n3_; (try clear hb); (try clear hb2); (try clear hk); (try clear hi)) | ((with_reducible refine gate_callee (f := 21) rfl ?_); refine goesL_ (some 161) rfl rfl Tryd.func21 (by kernel_rfl) rfl #[.int .i64 t425, .int .i64 x2_39] rfl (by (try simp only [List.map_toArray, List.map_cons, List.map_nil]); first | done | rfl | (simp only [List.length_drop, List.length_take]; rfl)) ?_; (with_reducible refine (wind_Turn.calls t425 x2_39 t429 t430 _ A47.out).mono ?_); rintro e w' ⟨rfl, ⟨nd, rfl⟩⟩; refine ⟨_, rfl, ?_⟩))
                               go_roundg k6
                               case measure => have := HJ4.out; have := HJ7.out; have := HJ15.out; have := HJ34.out; have := HJ39.out; have := HK6.out; omega
                               case rel => exact ⟨(y421), (wrap64 (x19_6 + 1)), (by first | rfl | (simp; done) | (simp [*]; done)), H', ⟨by have := HJ4.out; have := HJ7.out; have := HJ15.out; have := HJ34.out; have := HJ39.out; have := HK6.out; omega⟩, ⟨by (with_reducible repeat (first | apply Kd.R_alloc | apply Kd.R_drewN | apply Kd.R_drew)); exact HO_14.out⟩, ⟨by (with_reducible repeat (first | apply Kd.R_alloc | apply Kd.R_drewN | apply Kd.R_drew)); exact Kd.R_mono HO423.out (fun _ hk => trivial)⟩, ⟨by repeat (first | (with_reducible first | exact HB.out | apply below_alloc | apply pw_below_drewN | apply below_drew1 | refine below_set ?_ GE420.out) | exact HB.out)⟩⟩
                              ·rw [if_neg c51] at H
                               have c51b0 : (t427 == t429) = false := beq_eq_false_iff_ne.mpr c51
                               have c51b1 : (t427 != t429) = true := bne_iff_ne.mpr c51
                               obtain rfl := Option.some.inj H
                               exact absurd HRT.out (by decide)
                             ·rw [if_neg c50] at H
                              have c50b0 : (t430 == 0) = false := beq_eq_false_iff_ne.mpr c50
                              have c50b1 : (t430 != 0) = true := bne_iff_ne.mpr c50
                              obtain rfl := Option.some.inj H
                              exact absurd HRT.out (by decide)
                            ·rw [if_neg c49] at H
                             have c49b0 : (t428 == 0) = false := beq_eq_false_iff_ne.mpr c49
                             have c49b1 : (t428 != 0) = true := bne_iff_ne.mpr c49
                             obtain rfl := Option.some.inj H
                             exact absurd HRT.out (by decide)
                           ·rw [if_neg c48] at H
                            have c48b0 : (t426 == 0) = false := beq_eq_false_iff_ne.mpr c48
                            have c48b1 : (t426 != 0) = true := bne_iff_ne.mpr c48
                            obtain rfl := Option.some.inj H
                            exact absurd HRT.out (by decide)
                          ·rw [if_neg c44] at H
                           exact absurd H (by simp)
                         ·rw [if_neg c43] at H
                          exact absurd H (by simp)
                        ·rw [if_neg c42] at H
                         have c42b0 : decide (x19_6 < (l0.length : Int)) = false := decide_eq_false c42
                         clear c42
                         replace H := Option.bind_eq_some_iff.mp H
                         obtain ⟨⟨t431, t432⟩, A970, H⟩ := H
                         replace H : ((wind_Turn.f t404 x2_39).bind fun bt433 => ((wind_Apart.f k6 x18_6).bind fun bt435 => (if t432 = 0 then (if bt433.2 = 0 then (if bt435.2 = 0 then (if t431 = bt433.1 then (wigeontop_TopWinds.j6 k6 l1 ((bt435.1.length : Int) != (t411.length : Int))) else (wigeontop_TopWinds.j6 k6 l1 true)) else (wigeontop_TopWinds.j6 k6 l1 true)) else (wigeontop_TopWinds.j6 k6 l1 true)) else (wigeontop_TopWinds.j6 k6 l1 true)))) = some r := H
                         have A97 := Aside0.mk A970
                         clear A970
                         replace H := Option.bind_eq_some_iff.mp H
                         obtain ⟨⟨t433, t434⟩, A980, H⟩ := H
                         replace H : ((wind_Apart.f k6 x18_6).bind fun bt435 => (if t432 = 0 then (if t434 = 0 then (if bt435.2 = 0 then (if t431 = t433 then (wigeontop_TopWinds.j6 k6 l1 ((bt435.1.length : Int) != (t411.length : Int))) else (wigeontop_TopWinds.j6 k6 l1 true)) else (wigeontop_TopWinds.j6 k6 l1 true)) else (wigeontop_TopWinds.j6 k6 l1 true)) else (wigeontop_TopWinds.j6 k6 l1 true))) = some r := H
                         have A98 := Aside0.mk A980
                         clear A980
                         replace H := Option.bind_eq_some_iff.mp H
                         obtain ⟨⟨t435, t436⟩, A990, H⟩ := H
                         replace H : (if t432 = 0 then (if t434 = 0 then (if t436 = 0 then (if t431 = t433 then (wigeontop_TopWinds.j6 k6 l1 ((t435.length : Int) != (t411.length : Int))) else (wigeontop_TopWinds.j6 k6 l1 true)) else (wigeontop_TopWinds.j6 k6 l1 true)) else (wigeontop_TopWinds.j6 k6 l1 true)) else (wigeontop_TopWinds.j6 k6 l1 true)) = some r := H
                         have A99 := Aside0.mk A990
                         clear A990
                         have HC100 := Aside0.mk H
                         clear H
                         obtain ⟨Ao101, co101, eo101⟩ := Kd.R_slice HO_18.out
                         subst eo101
                         go_upto_region 33 with (first | ((with_reducible refine gate_callee (f := 38) rfl ?_); refine goesL_ (some 181) rfl rfl Tryd.func38 (by kernel_rfl) rfl #[.slice Ao101 x18_6.length co101] rfl (by (try simp only [List.map_toArray, List.map_cons, List.map_nil]); first | done | rfl | (simp only [List.length_drop, List.length_take]; rfl)) ?_; (with_reducible refine (wind_Lee.calls k6 _ _ x18_6 t431 t432 _ ?side1 ?side2 A97.out).mono ?_); (case side1 => repeat (first | exact (Kd.R_reads' HO_18.out).2.2 | (with_reducible refine Kd.C_alloc ?_ _) | (with_reducible refine Kd.C_drewN ?_ _) | (with_reducible refine Kd.C_drew ?_))); (case side2 => exact (Kd.R_reads' HO_18.out).2.1); rintro e w102 ⟨rfl, hb⟩; refine ⟨_, rfl, ?_⟩; have n0_ := Aside0.mk (Kd.R_below (by (with_reducible repeat (first | apply Kd.R_alloc | apply Kd.R_drewN | apply Kd.R_drew)); exact HO_14.out) hb); have n1_ := Aside0.mk (Kd.R_below (by (with_reducible repeat (first | apply Kd.R_alloc | apply Kd.R_drewN | apply Kd.R_drew)); exact HO_18.out) hb); have n2_ := Aside0.mk (below_step (by repeat (first | (with_reducible first | exact HB.out | apply below_alloc | apply pw_below_drewN | apply below_drew1) | exact HB.out)) hb); clear HO_14; clear HO_18; clear HB; have HO_14 := n0_; have HO_18 := n1_; have HB := n2_; clear n0_ n1_ n2_; (try clear hb); (try clear hb2); (try clear hk); (try clear hi)) | ((with_reducible refine gate_callee (f := 21) rfl ?_); refine goesL_ (some 187) rfl rfl Tryd.func21 (by kernel_rfl) rfl #[.int .i64 t404, .int .i64 x2_39] rfl (by (try simp only [List.map_toArray, List.map_cons, List.map_nil]); first | done | rfl | (simp only [List.length_drop, List.length_take]; rfl)) ?_; (with_reducible refine (wind_Turn.calls t404 x2_39 t433 t434 _ A98.out).mono ?_); rintro e w' ⟨rfl, ⟨nd, rfl⟩⟩; refine ⟨_, rfl, ?_⟩) | ((with_reducible refine gate_callee (f := 40) rfl ?_); refine goesL_ (some 192) rfl rfl Tryd.func40 (by kernel_rfl) rfl #[.slice Ao101 x18_6.length co101] rfl (by (try simp only [List.map_toArray, List.map_cons, List.map_nil]); first | done | rfl | (simp only [List.length_drop, List.length_take]; rfl)) ?_; (with_reducible refine (wind_Apart.calls k6 _ _ x18_6 t435 t436 _ ?side1 ?side2 A99.out).mono ?_); (case side1 => repeat (first | exact (Kd.R_reads' HO_18.out).2.2 | (with_reducible refine Kd.C_alloc ?_ _) | (with_reducible refine Kd.C_drewN ?_ _) | (with_reducible refine Kd.C_drew ?_))); (case side2 => exact (Kd.R_reads' HO_18.out).2.1); rintro e w103 ⟨v437, rfl, ho0, hb⟩; refine ⟨_, rfl, ?_⟩; have n0_ := Aside0.mk (Kd.R_elder' (by (with_reducible repeat (first | apply Kd.R_alloc | apply Kd.R_drewN | apply Kd.R_drew)); exact HO_14.out) (Kd.R_base ho0) hb); have n1_ := Aside0.mk (Kd.R_below (by (with_reducible repeat (first | apply Kd.R_alloc | apply Kd.R_drewN | apply Kd.R_drew)); exact HO_18.out) hb); have n2_ := Aside0.mk (Kd.R_lower (Kd.R_new' ho0 (Kd.R_lt (by (with_reducible repeat (first | apply Kd.R_alloc | apply Kd.R_drewN | apply Kd.R_drew)); exact HO_14.out))) (below_size (by repeat (first | (with_reducible first | exact HB.out | apply below_alloc | apply pw_below_drewN | apply below_drew1) | exact HB.out)))); have n3_ := Aside0.mk (below_step (by repeat (first | (with_reducible first | exact HB.out | apply below_alloc | apply pw_below_drewN | apply below_drew1) | exact HB.out)) hb); clear HO_14; clear HO_18; clear HB; have HO_14 := n0_; have HO_18 := n1_; have HO438 := n2_; have HB := n3_; clear n0_ n1_ n2_ n3_; (try clear hb); (try clear hb2); (try clear hk); (try clear hi); (try clear ho0)))
                         (try simp only [Act.put, List.setIfInBounds_toArray, List.set_cons_zero, List.set_cons_succ])
                         go_cut [216] (fun v216 wc => ∃ (kq : Nat) (x216_99 : Bool), v216 = .bool x216_99 ∧ Aside0 (wigeontop_TopWinds.j6 kq l1 x216_99 = some r) ∧ Aside0 (kq ≤ k6) ∧ Aside0 (Below w.heap.size w wc))
                         case first =>
                          as_aux_lemma =>
                           have H := HC100.out
                           clear HC100
                           by_cases c104 : t432 = 0
                           ·rw [if_pos c104] at H
                            have c104b0 : (t432 == 0) = true := beq_iff_eq.mpr c104
                            have c104b1 : (t432 != 0) = false := bne_eq_false_iff_eq.mpr c104
                            clear c104
                            (first | rw [c104b0] | (simp only [i64_w, i32_w]; rw [c104b0]) | skip)
                            by_cases c105 : t434 = 0
                            ·rw [if_pos c105] at H
                             have c105b0 : (t434 == 0) = true := beq_iff_eq.mpr c105
                             have c105b1 : (t434 != 0) = false := bne_eq_false_iff_eq.mpr c105
                             clear c105
                             by_cases c106 : t436 = 0
                             ·rw [if_pos c106] at H
                              have c106b0 : (t436 == 0) = true := beq_iff_eq.mpr c106
                              have c106b1 : (t436 != 0) = false := bne_eq_false_iff_eq.mpr c106
                              clear c106
                              by_cases c107 : t431 = t433
                              ·rw [if_pos c107] at H
                               have c107b0 : (t431 == t433) = true := beq_iff_eq.mpr c107
                               have c107b1 : (t431 != t433) = false := bne_eq_false_iff_eq.mpr c107
                               clear c107
                               have H' := Aside0.mk H
                               clear H
                               obtain ⟨Ao108, co108, eo108⟩ := Kd.R_slice HO438.out
                               subst eo108
                               obtain ⟨Ao109, co109, eo109⟩ := Kd.R_slice HO_14.out
                               subst eo109
                               go_wp2
                               go_meet
                               case rel => exact ⟨_, (((t435.length : Int) != (t411.length : Int))), (by first | rfl | (simp; done) | (simp [*]; done)), H', ⟨by have := HJ4.out; have := HJ7.out; have := HJ15.out; have := HJ34.out; have := HJ39.out; have := HK6.out; first | omega | exact Nat.le_refl _⟩, ⟨by repeat (first | (with_reducible first | exact HB.out | apply below_alloc | apply pw_below_drewN | apply below_drew1) | exact HB.out)⟩⟩
                              ·rw [if_neg c107] at H
                               exact absurd HRT.out (by rw [wigeontop_TopWinds.dead6 H]; decide)
                             ·rw [if_neg c106] at H
                              exact absurd HRT.out (by rw [wigeontop_TopWinds.dead6 H]; decide)
                            ·rw [if_neg c105] at H
                             exact absurd HRT.out (by rw [wigeontop_TopWinds.dead6 H]; decide)
                           ·rw [if_neg c104] at H
                            exact absurd HRT.out (by rw [wigeontop_TopWinds.dead6 H]; decide)
                         case rest =>
                          as_aux_lemma =>
                           clear HC100
                           try clear c1
                           try clear c2
                           try clear p2
                           try clear c3
                           try clear c4
                           try clear p4
                           try clear q4
                           try clear hx4
                           try clear p6
                           try clear c10
                           try clear c21
                           try clear c25
                           try clear c38
                           try clear c40
                           try clear p41
                           try clear q41
                           try clear hx41
                           try clear c42
                           try clear c42b0
                           try clear p42
                           try clear q42
                           try clear hx42
                           try clear c43
                           try clear c44
                           try clear c48
                           try clear c48b0
                           try clear c48b1
                           try clear c49
                           try clear c49b0
                           try clear c49b1
                           try clear p64
                           try clear c104
                           try clear c104b0
                           try clear c104b1
                           try clear c105
                           try clear c105b0
                           try clear c105b1
                           try clear c106
                           try clear c106b0
                           try clear c106b1
                           try clear c107
                           try clear c107b0
                           try clear c107b1
                           try clear hcz74_0
                           try clear hcz74_1
                           try clear hcz77_0
                           try clear hcz77_1
                           try clear hcz83_0
                           try clear hcz83_1
                           try clear hcz86_0
                           try clear hcz86_1
                           try clear hcz92_0
                           try clear hcz92_1
                           try clear hcz95_0
                           try clear hcz95_1
                           try clear hfz74_0
                           try clear hfz74_1
                           try clear hfz77_0
                           try clear hfz77_1
                           try clear hfz83_0
                           try clear hfz83_1
                           try clear hfz86_0
                           try clear hfz86_1
                           try clear hfz92_0
                           try clear hfz92_1
                           try clear hfz95_0
                           try clear hfz95_1
                           try clear hx418_0
                           try clear hx418_1
                           try clear hx419_0
                           try clear hx419_1
                           try clear hx424_0
                           try clear hx424_1
                           try clear p418
                           try clear p419
                           try clear p424
                           try clear q418
                           try clear q419
                           try clear q424
                           obtain ⟨kq, x216_99, rfl, HA, HJ99, HB⟩ := hcut
                           cases kq with
                           | zero => exact absurd HA.out (by simp [wigeontop_TopWinds.j6])
                           | succ kj99 =>
                            have H := HA.out
                            clear HA
                            simp only [wigeontop_TopWinds.j6] at H
                            by_cases c110 : x216_99 = true
                            ·subst c110
                             have H1 : (some false) = some r := by rw [if_pos rfl] at H; exact H
                             clear H
                             have H := H1
                             clear H1
                             obtain rfl := Option.some.inj H
                             exact absurd HRT.out (by decide)
                            ·replace c110 := Bool.eq_false_iff.mpr c110
                             subst c110
                             have H1 : ((wind_Veer.f l1).bind fun bt439 => (if bt439.2 = 0 then (if (l1.length : Int) = 0 then (some true) else (if 0 ≤ (wrap64 ((l1.length : Int) - 1)) then (if (wrap64 ((l1.length : Int) - 1)) < (l1.length : Int) then (if 0 < (l1.length : Int) then ((wind_Across.f (rd l1 (wrap64 ((l1.length : Int) - 1))) (rd l1 0)).bind fun bt443 => (if bt443.2 = 0 then (some ((Int.tmod (wrap64 (bt439.1 + bt443.1)) 32) == 0)) else (some false))) else (none)) else (none)) else (none))) else (some true))) = some r := by rw [if_neg (show ¬ (false = true) by decide)] at H; exact H
                             clear H
                             have H := H1
                             clear H1
                             replace H := Option.bind_eq_some_iff.mp H
                             obtain ⟨⟨t439, t440⟩, A1110, H⟩ := H
                             replace H : (if t440 = 0 then (if (l1.length : Int) = 0 then (some true) else (if 0 ≤ (wrap64 ((l1.length : Int) - 1)) then (if (wrap64 ((l1.length : Int) - 1)) < (l1.length : Int) then (if 0 < (l1.length : Int) then ((wind_Across.f (rd l1 (wrap64 ((l1.length : Int) - 1))) (rd l1 0)).bind fun bt443 => (if bt443.2 = 0 then (some ((Int.tmod (wrap64 (t439 + bt443.1)) 32) == 0)) else (some false))) else (none)) else (none)) else (none))) else (some true)) = some r := H
                             have A111 := Aside0.mk A1110
                             clear A1110
                             by_cases c112 : t440 = 0
                             ·rw [if_pos c112] at H
                              have c112b0 : (t440 == 0) = true := beq_iff_eq.mpr c112
                              have c112b1 : (t440 != 0) = false := bne_eq_false_iff_eq.mpr c112
                              clear c112
                              by_cases c113 : (l1.length : Int) = 0
                              ·rw [if_pos c113] at H
                               have c113b0 : ((l1.length : Int) == 0) = true := beq_iff_eq.mpr c113
                               have c113b1 : ((l1.length : Int) != 0) = false := bne_eq_false_iff_eq.mpr c113
                               clear c113
                               obtain rfl := Option.some.inj H
                               go_wp2_with (first | ((with_reducible refine gate_callee (f := 34) rfl ?_); refine goesL_ (some 219) rfl rfl Tryd.func34 (by kernel_rfl) rfl #[.slice A1 l1.length c1] rfl (by (try simp only [List.map_toArray, List.map_cons, List.map_nil]); first | done | rfl | (simp only [List.length_drop, List.length_take]; rfl)) ?_; (with_reducible refine (wind_Veer.calls _ _ l1 t439 t440 _ ?side1 ?side2 A111.out).mono ?_); (case side1 => repeat (first | exact (Kd.C_below HR1.out HB.out) | (with_reducible refine Kd.C_alloc ?_ _) | (with_reducible refine Kd.C_drewN ?_ _) | (with_reducible refine Kd.C_drew ?_))); (case side2 => exact HC1.out); rintro e w114 ⟨rfl, hb⟩; refine ⟨_, rfl, ?_⟩; have n0_ := Aside0.mk (below_step (by repeat (first | (with_reducible first | exact HB.out | apply below_alloc | apply pw_below_drewN | apply below_drew1) | exact HB.out)) hb); clear HB; have HB := n0_; clear n0_; (try clear hb); (try clear hb2); (try clear hk); (try clear hi)))
                               go_ret
                               exact ⟨by first | rfl | (simp [errW_none, errW_some] <;> rfl) | (simp [*, errW_none, errW_some] <;> rfl), by repeat (first | (with_reducible first | exact HB.out | apply below_alloc | apply pw_below_drewN | apply below_drew1) | exact HB.out)⟩
                              ·rw [if_neg c113] at H
                               have c113b0 : ((l1.length : Int) == 0) = false := beq_eq_false_iff_ne.mpr c113
                               have c113b1 : ((l1.length : Int) != 0) = true := bne_iff_ne.mpr c113
                               have c113b2 : ¬ (l1 = []) := fun h_ => c113 (by rw [h_]; rfl)
                               obtain ⟨ji115, hji115⟩ : ∃ j_ : Int, (wrap64 ((l1.length : Int) - 1)) = j_ := ⟨_, rfl⟩
                               replace H : (if 0 ≤ (ji115) then (if (ji115) < (l1.length : Int) then (if 0 < (l1.length : Int) then ((wind_Across.f (rd l1 (ji115)) (rd l1 0)).bind fun bt443 => (if bt443.2 = 0 then (some ((Int.tmod (wrap64 (t439 + bt443.1)) 32) == 0)) else (some false))) else (none)) else (none)) else (none)) = some r := by first | (rw [hji115] at H; exact H) | (simp only [hji115] at H ⊢; exact H)
                               (try rw [hji115] at A111)
                               have hji115w : (IntKind.i64.wrap ((l1.length : Int) - 1)) = ji115 := (i64_w _).trans hji115
                               by_cases c116 : 0 ≤ (ji115)
                               ·rw [if_pos c116] at H
                                have c116b0 : decide (0 ≤ (ji115)) = true := decide_eq_true c116
                                clear c116
                                by_cases c117 : (ji115) < (l1.length : Int)
                                ·rw [if_pos c117] at H
                                 have c117b0 : decide ((ji115) < (l1.length : Int)) = true := decide_eq_true c117
                                 clear c117
                                 by_cases c118 : 0 < (l1.length : Int)
                                 ·rw [if_pos c118] at H
                                  have c118b0 : decide (0 < (l1.length : Int)) = true := decide_eq_true c118
                                  have c118b1 : decide (0 < l1.length) = true := decide_eq_true (by omega)
                                  clear c118
                                  replace H := Option.bind_eq_some_iff.mp H
                                  obtain ⟨⟨t443, t444⟩, A1190, H⟩ := H
                                  replace H : (if t444 = 0 then (some ((Int.tmod (wrap64 (t439 + t443)) 32) == 0)) else (some false)) = some r := H
                                  have A119 := Aside0.mk A1190
                                  clear A1190
                                  by_cases c120 : t444 = 0
                                  ·rw [if_pos c120] at H
                                   have c120b0 : (t444 == 0) = true := beq_iff_eq.mpr c120
                                   have c120b1 : (t444 != 0) = false := bne_eq_false_iff_eq.mpr c120
                                   clear c120
                                   obtain rfl := Option.some.inj H
                                   try go_wp2_with (first | ((with_reducible refine gate_callee (f := 34) rfl ?_); refine goesL_ (some 219) rfl rfl Tryd.func34 (by kernel_rfl) rfl #[.slice A1 l1.length c1] rfl (by (try simp only [List.map_toArray, List.map_cons, List.map_nil]); first | done | rfl | (simp only [List.length_drop, List.length_take]; rfl)) ?_; (with_reducible refine (wind_Veer.calls _ _ l1 t439 t440 _ ?side1 ?side2 A111.out).mono ?_); (case side1 => repeat (first | exact (Kd.C_below HR1.out HB.out) | (with_reducible refine Kd.C_alloc ?_ _) | (with_reducible refine Kd.C_drewN ?_ _) | (with_reducible refine Kd.C_drew ?_))); (case side2 => exact HC1.out); rintro e w121 ⟨rfl, hb⟩; refine ⟨_, rfl, ?_⟩; have n0_ := Aside0.mk (below_step (by repeat (first | (with_reducible first | exact HB.out | apply below_alloc | apply pw_below_drewN | apply below_drew1) | exact HB.out)) hb); clear HB; have HB := n0_; clear n0_; (try clear hb); (try clear hb2); (try clear hk); (try clear hi)))
                                   have n0_ := Aside0.mk (below_drew1 HB.out)
                                   clear HB
                                   have HB := n0_
                                   clear n0_
                                   have p441 : 0 ≤ ((ji115) : Int) := of_decide_eq_true (by first | (with_reducible assumption) | assumption)
                                   have q441 : (ji115) < (l1.length : Int) := of_decide_eq_true (by first | (with_reducible assumption) | assumption)
                                   obtain ⟨ad441, e441, hx441_0⟩ := Kd.at_int HR1.out (ji115) p441 q441
                                   have hw441_0 := hx441_0
                                   cases e441
                                   replace hx441_0 := (HB.out.cell (World.block_lt_of_cell? w _ hx441_0)).trans hx441_0
                                   replace p441 := eq_true p441
                                   replace q441 := eq_true q441
                                   have p442 : 0 ≤ (0 : Int) := (by omega)
                                   have q442 : 0 < (l1.length : Int) := of_decide_eq_true (by first | (with_reducible assumption) | assumption)
                                   obtain ⟨ad442, e442, hx442_0⟩ := Kd.at_int HR1.out 0 p442 q442
                                   have hw442_0 := hx442_0
                                   (try rw [show ((0 : Int)).toNat = 0 from rfl] at hw442_0)
                                   (try rw [show 0 * 1 = 0 from rfl] at hw442_0)
                                   (try rw [Addr.add_zero'] at hw442_0)
                                   obtain rfl : ad441 = ad442 := (by injection e442)
                                   have qi442 : (0 < l1.length) = True := eq_true (by omega)
                                   (try rw [show ((0 : Int)).toNat = 0 from rfl] at hx442_0)
                                   (try rw [Addr.add_zero'] at hx442_0)
                                   replace hx442_0 := (HB.out.cell (World.block_lt_of_cell? w _ hx442_0)).trans hx442_0
                                   replace p442 := eq_true p442
                                   replace q442 := eq_true q442
                                   refine start_ (n := 15) (S := fun w' => w'.cell? (ad441.add ((ji115)).toNat) = some (.int .i64 (rd l1 (ji115))) ∧ w'.cell? ad441 = some (.int .i64 (rd l1 0))) (ds := []) #[false, false, false, false, false, false, false, false, false, false, false, false, false, false, false] (by kernel_rfl) rfl rfl ⟨((HB.out.cell (World.block_lt_of_cell? w _ hw441_0)).trans hw441_0), ((HB.out.cell (World.block_lt_of_cell? w _ hw442_0)).trans hw442_0)⟩ (fun hHeld => ?_); refine with_tabW wigeontop_TopWinds.tab38 wigeontop_TopWinds.bits38 (fun HT_ HW_ => ?_)
                                   generalize w121.drew = w122 at HB hx441_0 hx442_0 hHeld ⊢
                                   refine pure_ (i := 0) (N := some 230) (v := ?_) (a' := ?_) #[true, false, false, false, false, false, false, false, false, false, false, false, false, false, false] rfl rfl (any_of HT_.out (by kernel_rfl)) (fun _ _ _ h => h) (Or.inl ⟨by rfl, ?_⟩) ?_ ?_
                                   rotate_left
                                   ·intro w'
                                    go_simp
                                    with_reducible rfl
                                   rotate_left
                                   ·simp only [Act.put, List.setIfInBounds_toArray, List.set_cons_zero, List.set_cons_succ, i64_w, i32_w]
                                    rfl
                                   refine pure_ (i := 1) (N := some 231) (v := ?_) (a' := ?_) #[true, true, false, false, false, false, false, false, false, false, false, false, false, false, false] rfl rfl (any_of HT_.out (by kernel_rfl)) (fun _ _ _ h => h) (Or.inl ⟨by rfl, ?_⟩) ?_ ?_
                                   rotate_left
                                   ·intro w'
                                    go_simp
                                    with_reducible rfl
                                   rotate_left
                                   ·simp only [Act.put, List.setIfInBounds_toArray, List.set_cons_zero, List.set_cons_succ, i64_w, i32_w]
                                    rfl
                                   refine pure_ (i := 2) (N := some 232) (v := ?_) (a' := ?_) #[true, true, true, false, false, false, false, false, false, false, false, false, false, false, false] rfl rfl (any_of HT_.out (by kernel_rfl)) (fun _ _ _ h => h) (Or.inl ⟨by rfl, ?_⟩) ?_ ?_
                                   rotate_left
                                   ·intro w'
                                    go_simp
                                    with_reducible rfl
                                   rotate_left
                                   ·simp only [Act.put, List.setIfInBounds_toArray, List.set_cons_zero, List.set_cons_succ, i64_w, i32_w]
                                    rfl
                                   refine pure_ (i := 3) (N := some 233) (v := ?_) (a' := ?_) #[true, true, true, true, false, false, false, false, false, false, false, false, false, false, false] rfl rfl (any_of HT_.out (by kernel_rfl)) (fun _ _ _ h => h) (Or.inl ⟨by rfl, ?_⟩) ?_ ?_
                                   rotate_left
                                   ·intro w'
                                    go_simp
                                    with_reducible rfl
                                   rotate_left
                                   ·simp only [Act.put, List.setIfInBounds_toArray, List.set_cons_zero, List.set_cons_succ, i64_w, i32_w]
                                    rfl
                                   refine pure_ (i := 4) (N := some 234) (v := ?_) (a' := ?_) #[true, true, true, true, true, false, false, false, false, false, false, false, false, false, false] rfl rfl (any_of HT_.out (by kernel_rfl)) (fun _ _ _ h => h) (Or.inl ⟨by rfl, ?_⟩) ?_ ?_
                                   rotate_left
                                   ·intro w'
                                    go_simp
                                    with_reducible rfl
                                   rotate_left
                                   ·simp only [Act.put, List.setIfInBounds_toArray, List.set_cons_zero, List.set_cons_succ, i64_w, i32_w]
                                    rfl
                                   refine pure_ (i := 6) (N := some 236) (v := ?_) (a' := ?_) #[true, true, true, true, true, false, true, false, false, false, false, false, false, false, false] rfl rfl (any_of HT_.out (by kernel_rfl)) (fun _ _ _ h => h) (Or.inl ⟨by rfl, ?_⟩) ?_ ?_
                                   rotate_left
                                   ·intro w'
                                    go_simp
                                    with_reducible rfl
                                   rotate_left
                                   ·simp only [Act.put, List.setIfInBounds_toArray, List.set_cons_zero, List.set_cons_succ, i64_w, i32_w]
                                    rfl
                                   refine pure_ (i := 7) (N := some 237) (v := ?_) (a' := ?_) #[true, true, true, true, true, false, true, true, false, false, false, false, false, false, false] rfl rfl (any_of HT_.out (by kernel_rfl)) (fun _ _ _ h => h) (Or.inl ⟨by rfl, ?_⟩) ?_ ?_
                                   rotate_left
                                   ·intro w'
                                    go_simp
                                    with_reducible rfl
                                   rotate_left
                                   ·simp only [Act.put, List.setIfInBounds_toArray, List.set_cons_zero, List.set_cons_succ, i64_w, i32_w]
                                    rfl
                                   refine take_ (i := 5) (N := some 235) (v := ?_) (a' := ?_) #[true, true, true, true, true, true, true, true, false, false, false, false, false, false, false] rfl rfl (take_ofW HT_.out HW_.out (by kernel_rfl)) (fun _ _ _ h => h) (Or.inl ⟨by rfl, ?_⟩) hHeld ?_ ?_
                                   rotate_left
                                   ·rintro w' ⟨s0, s1⟩
                                    go_simp
                                    with_reducible rfl
                                   rotate_left
                                   ·simp only [Act.put, List.setIfInBounds_toArray, List.set_cons_zero, List.set_cons_succ, i64_w, i32_w]
                                    rfl
                                   refine take_ (i := 8) (N := some 238) (v := ?_) (a' := ?_) #[true, true, true, true, true, true, true, true, true, false, false, false, false, false, false] rfl rfl (take_ofW HT_.out HW_.out (by kernel_rfl)) (fun _ _ _ h => h) (Or.inl ⟨by rfl, ?_⟩) hHeld ?_ ?_
                                   rotate_left
                                   ·rintro w' ⟨s0, s1⟩
                                    go_simp
                                    with_reducible rfl
                                   rotate_left
                                   ·simp only [Act.put, List.setIfInBounds_toArray, List.set_cons_zero, List.set_cons_succ, i64_w, i32_w]
                                    rfl
                                   refine one_ (i := 9) (N := some 239) #[true, true, true, true, true, true, true, true, true, true, false, false, false, false, false] rfl rfl (one_of HT_.out (by kernel_rfl)) (by decide) (fun K hK => ?_)
                                   refine goes_ Tryd.func32 (by kernel_rfl) rfl #[.int .i64 (rd l1 (ji115)), .int .i64 (rd l1 0)] (by rfl) rfl rfl (by (try simp only [List.map_toArray, List.map_cons, List.map_nil]); first | done | (simp only [hji115]; rfl) | rfl | (simp only [List.length_drop, List.length_take]; rfl)) ?_
                                   with_reducible refine (wind_Across.calls (rd l1 (ji115)) (rd l1 0) t443 t444 _ A119.out).mono ?_
                                   rintro e w' ⟨rfl, ⟨nd, rfl⟩⟩
                                   refine ⟨_, rfl, ?_⟩
                                   refine hK.out _ _ ⟨((HB.out.cell (World.block_lt_of_cell? w _ hw441_0)).trans hw441_0), ((HB.out.cell (World.block_lt_of_cell? w _ hw442_0)).trans hw442_0)⟩ (fun hHeld => ?_)
                                   clear hK K
                                   refine norm_ (a' := ?_) ?_ ?_
                                   rotate_left
                                   ·show Act.put _ (some 239) _ = _
                                    simp only [Act.put, List.setIfInBounds_toArray, List.set_cons_zero, List.set_cons_succ, i64_w, i32_w]
                                    rfl
                                   refine pure_ (i := 10) (N := some 229) (v := ?_) (a' := ?_) #[true, true, true, true, true, true, true, true, true, true, true, false, false, false, false] rfl rfl (any_of HT_.out (by kernel_rfl)) (fun _ _ _ h => h) (Or.inl ⟨by rfl, ?_⟩) ?_ ?_
                                   rotate_left
                                   ·intro w'
                                    go_simp
                                    with_reducible rfl
                                   rotate_left
                                   ·simp only [Act.put, List.setIfInBounds_toArray, List.set_cons_zero, List.set_cons_succ, i64_w, i32_w]
                                    rfl
                                   refine pure_ (i := 11) (N := some 240) (v := ?_) (a' := ?_) #[true, true, true, true, true, true, true, true, true, true, true, true, false, false, false] rfl rfl (any_of HT_.out (by kernel_rfl)) (fun _ _ _ h => h) (Or.inl ⟨by rfl, ?_⟩) ?_ ?_
                                   rotate_left
                                   ·intro w'
                                    go_simp
                                    with_reducible rfl
                                   rotate_left
                                   ·simp only [Act.put, List.setIfInBounds_toArray, List.set_cons_zero, List.set_cons_succ, i64_w, i32_w]
                                    rfl
                                   refine pure_ (i := 12) (N := some 241) (v := ?_) (a' := ?_) #[true, true, true, true, true, true, true, true, true, true, true, true, true, false, false] rfl rfl (any_of HT_.out (by kernel_rfl)) (fun _ _ _ h => h) (Or.inl ⟨by rfl, ?_⟩) ?_ ?_
                                   rotate_left
                                   ·intro w'
                                    go_simp
                                    with_reducible rfl
                                   rotate_left
                                   ·simp only [Act.put, List.setIfInBounds_toArray, List.set_cons_zero, List.set_cons_succ, i64_w, i32_w]
                                    rfl
                                   refine pure_ (i := 13) (N := some 35) (v := ?_) (a' := ?_) #[true, true, true, true, true, true, true, true, true, true, true, true, true, true, false] rfl rfl (any_of HT_.out (by kernel_rfl)) (fun _ _ _ h => h) (Or.inl ⟨by rfl, ?_⟩) ?_ ?_
                                   rotate_left
                                   ·intro w'
                                    go_simp
                                    with_reducible rfl
                                   rotate_left
                                   ·simp only [Act.put, List.setIfInBounds_toArray, List.set_cons_zero, List.set_cons_succ, i64_w, i32_w]
                                    rfl
                                   refine pure_ (i := 14) (N := some 36) (v := ?_) (a' := ?_) #[true, true, true, true, true, true, true, true, true, true, true, true, true, true, true] rfl rfl (any_of HT_.out (by kernel_rfl)) (fun _ _ _ h => h) (Or.inl ⟨by rfl, ?_⟩) ?_ ?_
                                   rotate_left
                                   ·intro w'
                                    go_simp
                                    with_reducible rfl
                                   rotate_left
                                   ·simp only [Act.put, List.setIfInBounds_toArray, List.set_cons_zero, List.set_cons_succ, i64_w, i32_w]
                                    rfl
                                   refine done_ (done_of HT_.out (by kernel_rfl)) ?_
                                   try go_wp2
                                   go_ret
                                   exact ⟨by first | rfl | (simp [errW_none, errW_some] <;> rfl) | (simp only [← hji115]; first | rfl | (simp [errW_none, errW_some] <;> rfl)) | (simp [*, errW_none, errW_some] <;> rfl), by repeat (first | (with_reducible first | exact HB.out | apply below_alloc | apply pw_below_drewN | apply below_drew1) | exact HB.out)⟩
                                  ·rw [if_neg c120] at H
                                   have c120b0 : (t444 == 0) = false := beq_eq_false_iff_ne.mpr c120
                                   have c120b1 : (t444 != 0) = true := bne_iff_ne.mpr c120
                                   obtain rfl := Option.some.inj H
                                   exact absurd HRT.out (by decide)
                                 ·rw [if_neg c118] at H
                                  exact absurd H (by simp)
                                ·rw [if_neg c117] at H
                                 exact absurd H (by simp)
                               ·rw [if_neg c116] at H
                                exact absurd H (by simp)
                             ·rw [if_neg c112] at H
                              have c112b0 : (t440 == 0) = false := beq_eq_false_iff_ne.mpr c112
                              have c112b1 : (t440 != 0) = true := bne_iff_ne.mpr c112
                              obtain rfl := Option.some.inj H
                              go_wp2_with (first | ((with_reducible refine gate_callee (f := 34) rfl ?_); refine goesL_ (some 219) rfl rfl Tryd.func34 (by kernel_rfl) rfl #[.slice A1 l1.length c1] rfl (by (try simp only [List.map_toArray, List.map_cons, List.map_nil]); first | done | rfl | (simp only [List.length_drop, List.length_take]; rfl)) ?_; (with_reducible refine (wind_Veer.calls _ _ l1 t439 t440 _ ?side1 ?side2 A111.out).mono ?_); (case side1 => repeat (first | exact (Kd.C_below HR1.out HB.out) | (with_reducible refine Kd.C_alloc ?_ _) | (with_reducible refine Kd.C_drewN ?_ _) | (with_reducible refine Kd.C_drew ?_))); (case side2 => exact HC1.out); rintro e w125 ⟨rfl, hb⟩; refine ⟨_, rfl, ?_⟩; have n0_ := Aside0.mk (below_step (by repeat (first | (with_reducible first | exact HB.out | apply below_alloc | apply pw_below_drewN | apply below_drew1) | exact HB.out)) hb); clear HB; have HB := n0_; clear n0_; (try clear hb); (try clear hb2); (try clear hk); (try clear hi)))
                              go_ret
                              exact ⟨by first | rfl | (simp [errW_none, errW_some] <;> rfl) | (simp [*, errW_none, errW_some] <;> rfl), by repeat (first | (with_reducible first | exact HB.out | apply below_alloc | apply pw_below_drewN | apply below_drew1) | exact HB.out)⟩
         ·rw [if_neg c13] at H
          have c13b0 : (t405 == 0) = false := beq_eq_false_iff_ne.mpr c13
          have c13b1 : (t405 != 0) = true := bne_iff_ne.mpr c13
          obtain rfl := Option.some.inj H
          go_wp2_with (first | ((with_reducible refine gate_callee (f := 38) rfl ?_); refine goesL_ (some 56) rfl rfl Tryd.func38 (by kernel_rfl) rfl #[.slice A0 l0.length c0] rfl (by (try simp only [List.map_toArray, List.map_cons, List.map_nil]); first | done | rfl | (simp only [List.length_drop, List.length_take]; rfl)) ?_; (with_reducible refine (wind_Lee.calls kj7 _ _ l0 t404 t405 _ ?side1 ?side2 A12.out).mono ?_); (case side1 => repeat (first | exact (Kd.C_below HR0.out HB.out) | (with_reducible refine Kd.C_alloc ?_ _) | (with_reducible refine Kd.C_drewN ?_ _) | (with_reducible refine Kd.C_drew ?_))); (case side2 => exact HC0.out); rintro e w126 ⟨rfl, hb⟩; refine ⟨_, rfl, ?_⟩; have n0_ := Aside0.mk (below_step (by repeat (first | (with_reducible first | exact HB.out | apply below_alloc | apply pw_below_drewN | apply below_drew1) | exact HB.out)) hb); clear HB; have HB := n0_; clear n0_; (try clear hb); (try clear hb2); (try clear hk); (try clear hi)))
          go_ret
          exact ⟨by first | rfl | (simp [errW_none, errW_some] <;> rfl) | (simp [*, errW_none, errW_some] <;> rfl), by repeat (first | (with_reducible first | exact HB.out | apply below_alloc | apply pw_below_drewN | apply below_drew1) | exact HB.out)⟩

end Go.Proofs.YthihlapmkcelpaaDoor.Q
