-- Written by a program of this session (wip/tools/gprint.py, over the kit's print); Lean checks it.
import Derived.Test.YtlbhighbhchdmaaQx0
import Derived.Test.YtlbhighbhchdmaaLeq
import Derived.Test.YtlbhighbhchdmaaQx2
import Derived.Test.YtlbhighbhchdmaaQx9
import Derived.Test.YtlbhighbhchdmaaQx12
import Derived.Test.YtlbhighbhchdmaaQx15
import Derived.Test.YtlbhighbhchdmaaQx21
import Derived.Test.YtlbhighbhchdmaaQx22
import Derived.Test.YtlbhighbhchdmaaQx32
namespace Go.Proofs.Ytlbhighbhchdmaa.Q
open Go.RowKit Go.Proofs.YtlbhighbhchdmaaW.PrintWords Go.Proofs.YtlbhighbhchdmaaW.PrintLast Go.Proofs.YtlbhighbhchdmaaW.PrintMore
attribute [local go_sem] max2_int min2_int max_two min_two max_three min_three max_four min_four   -- for this text's walks alone
set_option linter.unusedVariables false
set_option linter.unusedSimpArgs false

/-! ### wigeontop_TopRings: function 15 -/
mutual
def wigeontop_TopRings.j0 : Nat → ByteArray → Int → ByteArray → Bool → Option (Bool)
 | 0, _, _, _, _ => none
 | k + 1, x0, x1, x2, x37 => if x37 = true then (some false) else (if (x0.size : Int) > 100 then (wigeontop_TopRings.j1 k x0 x1 x2 true) else (wigeontop_TopRings.j1 k x0 x1 x2 (decide ((x2.size : Int) > 100))))
def wigeontop_TopRings.j1 : Nat → ByteArray → Int → ByteArray → Bool → Option (Bool)
 | 0, _, _, _, _ => none
 | k + 1, x0, x1, x2, x45 => if x45 = true then (some true) else ((ring_Make.f k x0 x1).bind fun bt679 => (if bt679.2 = 0 then (if (bt679.1.size : Int) = (wrap64 ((x0.size : Int) + 6)) then ((ring_Valid.f k bt679.1).bind fun t681 => (wigeontop_TopRings.j2 k x0 x1 x2 bt679.1 (t681 != 0))) else (wigeontop_TopRings.j2 k x0 x1 x2 bt679.1 true)) else (wigeontop_TopRings.j5 k x2)))
def wigeontop_TopRings.j5 : Nat → ByteArray → Option (Bool)
 | 0, _ => none
 | k + 1, x2 => (ring_Near.f k x2).bind fun bt699 => (if bt699.2 = 0 then (wigeontop_TopRings.l0 k x2 bt699.1 0) else (some ((bt699.1.length : Int) == 0)))
def wigeontop_TopRings.l0 : Nat → ByteArray → List ByteArray → Int → Option (Bool)
 | 0, _, _, _ => none
 | k + 1, x2, x23, x24 => if x24 < (x23.length : Int) then (if 0 ≤ x24 then ((ring_Near.f k (rdOf ByteArray.empty x23 x24)).bind fun bt705 => ((ring_Valid.f k (rdOf ByteArray.empty x23 x24)).bind fun t710 => (if t710 = 0 then (if bt705.2 = 0 then (if (bt705.1.length : Int) = 0 then (if x24 > 0 then (if 0 ≤ (wrap64 (x24 - 1)) then (if (wrap64 (x24 - 1)) < (x23.length : Int) then (if ((Op.bytesLess ((rdOf ByteArray.empty x23 (wrap64 (x24 - 1))).toList) ((rdOf ByteArray.empty x23 x24).toList)) = true) then (wigeontop_TopRings.l0 k x2 x23 (wrap64 (x24 + 1))) else (some false)) else (none)) else (none)) else (wigeontop_TopRings.l0 k x2 x23 (wrap64 (x24 + 1)))) else (some false)) else (some false)) else (some false)))) else (none)) else ((ring_Valid.f k x2).bind fun t703 => (if t703 = 0 then (some true) else (some (decide ((x23.length : Int) ≥ 6)))))
def wigeontop_TopRings.j2 : Nat → ByteArray → Int → ByteArray → ByteArray → Bool → Option (Bool)
 | 0, _, _, _, _, _ => none
 | k + 1, x0, x1, x2, x9, x64 => if x64 = true then (some false) else ((ring_Near.f k x9).bind fun bt682 => ((ring_Fits.f k x9 x9).bind fun bt686 => ((ring_Count.f x9).bind fun bt688 => (if bt682.2 = 0 then (if (bt682.1.length : Int) = 0 then (if bt686.2 = 0 then (if bt686.1 = true then (if bt688.2 = 0 then (wigeontop_TopRings.j3 k x0 x1 x2 x9 (bt688.1 != 1)) else (wigeontop_TopRings.j3 k x0 x1 x2 x9 true)) else (wigeontop_TopRings.j3 k x0 x1 x2 x9 true)) else (wigeontop_TopRings.j3 k x0 x1 x2 x9 true)) else (wigeontop_TopRings.j3 k x0 x1 x2 x9 true)) else (wigeontop_TopRings.j3 k x0 x1 x2 x9 true)))))
def wigeontop_TopRings.j3 : Nat → ByteArray → Int → ByteArray → ByteArray → Bool → Option (Bool)
 | 0, _, _, _, _, _ => none
 | k + 1, x0, x1, x2, x9, x103 => if x103 = true then (some false) else ((ring_Next.f k x9).bind fun bt690 => ((ring_Make.f k x0 (wrap64 (x1 + 1))).bind fun bt692 => (if bt690.2 = 3 then (if bt692.2 = 1 then (wigeontop_TopRings.j4 k x2 x9 false) else (wigeontop_TopRings.j4 k x2 x9 true)) else (if bt690.2 = 0 then (if bt692.2 = 0 then (if bt690.1.toList = bt692.1.toList then (wigeontop_TopRings.j4 k x2 x9 (!(Op.bytesLess x9.toList bt690.1.toList))) else (wigeontop_TopRings.j4 k x2 x9 true)) else (wigeontop_TopRings.j4 k x2 x9 true)) else (wigeontop_TopRings.j4 k x2 x9 true)))))
def wigeontop_TopRings.j4 : Nat → ByteArray → ByteArray → Bool → Option (Bool)
 | 0, _, _, _ => none
 | k + 1, x2, x9, x143 => if x143 = true then (some false) else (if 0 ≤ (wrap64 ((x9.size : Int) - 2)) then (if (wrap64 ((x9.size : Int) - 2)) ≤ (x9.size : Int) then (if (x9.extract 0 ((wrap64 ((x9.size : Int) - 2)) : Int).toNat).size + 2 ≤ 9223372036854775807 then ((ring_Count.f ((x9.extract 0 ((wrap64 ((x9.size : Int) - 2)) : Int).toNat) ++ (⟨#[63, 63]⟩ : ByteArray))).bind fun bt694 => ((ring_First.f ((x9.extract 0 ((wrap64 ((x9.size : Int) - 2)) : Int).toNat) ++ (⟨#[63, 63]⟩ : ByteArray))).bind fun bt696 => (if bt694.2 = 0 then (if bt694.1 = 10 then (if bt696.2.2 = 0 then (if bt696.2.1 = true then (if (Op.bytesLess x9.toList bt696.1.toList) = true then (some false) else (wigeontop_TopRings.j5 k x2)) else (some false)) else (some false)) else (some false)) else (some false)))) else (none)) else (none)) else (none))
end
def wigeontop_TopRings.f (k : Nat) (a0 : ByteArray) (a1 : Int) (a2 : ByteArray) : Option (Bool) := (ring_CheckDigit.f k (([2, 3, 6] : List Int))).bind fun bt677 => (if bt677.2 = 0 then (wigeontop_TopRings.j0 k a0 a1 a2 (bt677.1 != 3)) else (wigeontop_TopRings.j0 k a0 a1 a2 true))
theorem wigeontop_TopRings.mono_l : ∀ k, (∀ y0 y1 y2 y3, LeO (wigeontop_TopRings.j0 k y0 y1 y2 y3) (wigeontop_TopRings.j0 (k + 1) y0 y1 y2 y3)) ∧ (∀ y0 y1 y2 y3, LeO (wigeontop_TopRings.j1 k y0 y1 y2 y3) (wigeontop_TopRings.j1 (k + 1) y0 y1 y2 y3)) ∧ (∀ y0, LeO (wigeontop_TopRings.j5 k y0) (wigeontop_TopRings.j5 (k + 1) y0)) ∧ (∀ y0 y1 y2, LeO (wigeontop_TopRings.l0 k y0 y1 y2) (wigeontop_TopRings.l0 (k + 1) y0 y1 y2)) ∧ (∀ y0 y1 y2 y3 y4, LeO (wigeontop_TopRings.j2 k y0 y1 y2 y3 y4) (wigeontop_TopRings.j2 (k + 1) y0 y1 y2 y3 y4)) ∧ (∀ y0 y1 y2 y3 y4, LeO (wigeontop_TopRings.j3 k y0 y1 y2 y3 y4) (wigeontop_TopRings.j3 (k + 1) y0 y1 y2 y3 y4)) ∧ (∀ y0 y1 y2, LeO (wigeontop_TopRings.j4 k y0 y1 y2) (wigeontop_TopRings.j4 (k + 1) y0 y1 y2))
 | 0 => ⟨fun _ _ _ _ r h => by simp [wigeontop_TopRings.j0] at h, fun _ _ _ _ r h => by simp [wigeontop_TopRings.j1] at h, fun _ r h => by simp [wigeontop_TopRings.j5] at h, fun _ _ _ r h => by simp [wigeontop_TopRings.l0] at h, fun _ _ _ _ _ r h => by simp [wigeontop_TopRings.j2] at h, fun _ _ _ _ _ r h => by simp [wigeontop_TopRings.j3] at h, fun _ _ _ r h => by simp [wigeontop_TopRings.j4] at h⟩
 | k + 1 => by
  obtain ⟨ih0, ih1, ih2, ih3, ih4, ih5, ih6⟩ := wigeontop_TopRings.mono_l k
  refine ⟨?_, ?_, ?_, ?_, ?_, ?_, ?_⟩
  ·intro y0 y1 y2 y3
   unfold wigeontop_TopRings.j0
   repeat' first
   | (with_reducible exact ih0 _ _ _ _)
   | (with_reducible exact ih1 _ _ _ _)
   | (with_reducible exact ih2 _)
   | (with_reducible exact ih3 _ _ _)
   | (with_reducible exact ih4 _ _ _ _ _)
   | (with_reducible exact ih5 _ _ _ _ _)
   | (with_reducible exact ih6 _ _ _)
   | (with_reducible exact ring_CheckDigit.mono _ _)
   | (with_reducible exact ring_Fits.mono _ _ _)
   | (with_reducible exact ring_Make.mono _ _ _)
   | (with_reducible exact ring_Near.mono _ _)
   | (with_reducible exact ring_Next.mono _ _)
   | (with_reducible exact ring_Valid.mono _ _)
   | (with_reducible exact LeO.refl _)
   | (with_reducible exact LeO.none _)
   | (with_reducible refine LeO.ite ?_ ?_)
   | (with_reducible refine LeO.bind ?_ (fun _ => ?_))
   | exact ih0 _ _ _ _
   | exact ih1 _ _ _ _
   | exact ih2 _
   | exact ih3 _ _ _
   | exact ih4 _ _ _ _ _
   | exact ih5 _ _ _ _ _
   | exact ih6 _ _ _
   | exact ring_CheckDigit.mono _ _
   | exact ring_Fits.mono _ _ _
   | exact ring_Make.mono _ _ _
   | exact ring_Near.mono _ _
   | exact ring_Next.mono _ _
   | exact ring_Valid.mono _ _
   | exact LeO.none _
   | refine LeO.ite ?_ ?_
   | refine LeO.bind ?_ (fun _ => ?_)
  ·intro y0 y1 y2 y3
   unfold wigeontop_TopRings.j1
   repeat' first
   | (with_reducible exact ih0 _ _ _ _)
   | (with_reducible exact ih1 _ _ _ _)
   | (with_reducible exact ih2 _)
   | (with_reducible exact ih3 _ _ _)
   | (with_reducible exact ih4 _ _ _ _ _)
   | (with_reducible exact ih5 _ _ _ _ _)
   | (with_reducible exact ih6 _ _ _)
   | (with_reducible exact ring_CheckDigit.mono _ _)
   | (with_reducible exact ring_Fits.mono _ _ _)
   | (with_reducible exact ring_Make.mono _ _ _)
   | (with_reducible exact ring_Near.mono _ _)
   | (with_reducible exact ring_Next.mono _ _)
   | (with_reducible exact ring_Valid.mono _ _)
   | (with_reducible exact LeO.refl _)
   | (with_reducible exact LeO.none _)
   | (with_reducible refine LeO.ite ?_ ?_)
   | (with_reducible refine LeO.bind ?_ (fun _ => ?_))
   | exact ih0 _ _ _ _
   | exact ih1 _ _ _ _
   | exact ih2 _
   | exact ih3 _ _ _
   | exact ih4 _ _ _ _ _
   | exact ih5 _ _ _ _ _
   | exact ih6 _ _ _
   | exact ring_CheckDigit.mono _ _
   | exact ring_Fits.mono _ _ _
   | exact ring_Make.mono _ _ _
   | exact ring_Near.mono _ _
   | exact ring_Next.mono _ _
   | exact ring_Valid.mono _ _
   | exact LeO.none _
   | refine LeO.ite ?_ ?_
   | refine LeO.bind ?_ (fun _ => ?_)
  ·intro y0
   unfold wigeontop_TopRings.j5
   repeat' first
   | (with_reducible exact ih0 _ _ _ _)
   | (with_reducible exact ih1 _ _ _ _)
   | (with_reducible exact ih2 _)
   | (with_reducible exact ih3 _ _ _)
   | (with_reducible exact ih4 _ _ _ _ _)
   | (with_reducible exact ih5 _ _ _ _ _)
   | (with_reducible exact ih6 _ _ _)
   | (with_reducible exact ring_CheckDigit.mono _ _)
   | (with_reducible exact ring_Fits.mono _ _ _)
   | (with_reducible exact ring_Make.mono _ _ _)
   | (with_reducible exact ring_Near.mono _ _)
   | (with_reducible exact ring_Next.mono _ _)
   | (with_reducible exact ring_Valid.mono _ _)
   | (with_reducible exact LeO.refl _)
   | (with_reducible exact LeO.none _)
   | (with_reducible refine LeO.ite ?_ ?_)
   | (with_reducible refine LeO.bind ?_ (fun _ => ?_))
   | exact ih0 _ _ _ _
   | exact ih1 _ _ _ _
   | exact ih2 _
   | exact ih3 _ _ _
   | exact ih4 _ _ _ _ _
   | exact ih5 _ _ _ _ _
   | exact ih6 _ _ _
   | exact ring_CheckDigit.mono _ _
   | exact ring_Fits.mono _ _ _
   | exact ring_Make.mono _ _ _
   | exact ring_Near.mono _ _
   | exact ring_Next.mono _ _
   | exact ring_Valid.mono _ _
   | exact LeO.none _
   | refine LeO.ite ?_ ?_
   | refine LeO.bind ?_ (fun _ => ?_)
  ·intro y0 y1 y2
   unfold wigeontop_TopRings.l0
   repeat' first
   | (with_reducible exact ih0 _ _ _ _)
   | (with_reducible exact ih1 _ _ _ _)
   | (with_reducible exact ih2 _)
   | (with_reducible exact ih3 _ _ _)
   | (with_reducible exact ih4 _ _ _ _ _)
   | (with_reducible exact ih5 _ _ _ _ _)
   | (with_reducible exact ih6 _ _ _)
   | (with_reducible exact ring_CheckDigit.mono _ _)
   | (with_reducible exact ring_Fits.mono _ _ _)
   | (with_reducible exact ring_Make.mono _ _ _)
   | (with_reducible exact ring_Near.mono _ _)
   | (with_reducible exact ring_Next.mono _ _)
   | (with_reducible exact ring_Valid.mono _ _)
   | (with_reducible exact LeO.refl _)
   | (with_reducible exact LeO.none _)
   | (with_reducible refine LeO.ite ?_ ?_)
   | (with_reducible refine LeO.bind ?_ (fun _ => ?_))
   | exact ih0 _ _ _ _
   | exact ih1 _ _ _ _
   | exact ih2 _
   | exact ih3 _ _ _
   | exact ih4 _ _ _ _ _
   | exact ih5 _ _ _ _ _
   | exact ih6 _ _ _
   | exact ring_CheckDigit.mono _ _
   | exact ring_Fits.mono _ _ _
   | exact ring_Make.mono _ _ _
   | exact ring_Near.mono _ _
   | exact ring_Next.mono _ _
   | exact ring_Valid.mono _ _
   | exact LeO.none _
   | refine LeO.ite ?_ ?_
   | refine LeO.bind ?_ (fun _ => ?_)
  ·intro y0 y1 y2 y3 y4
   unfold wigeontop_TopRings.j2
   repeat' first
   | (with_reducible exact ih0 _ _ _ _)
   | (with_reducible exact ih1 _ _ _ _)
   | (with_reducible exact ih2 _)
   | (with_reducible exact ih3 _ _ _)
   | (with_reducible exact ih4 _ _ _ _ _)
   | (with_reducible exact ih5 _ _ _ _ _)
   | (with_reducible exact ih6 _ _ _)
   | (with_reducible exact ring_CheckDigit.mono _ _)
   | (with_reducible exact ring_Fits.mono _ _ _)
   | (with_reducible exact ring_Make.mono _ _ _)
   | (with_reducible exact ring_Near.mono _ _)
   | (with_reducible exact ring_Next.mono _ _)
   | (with_reducible exact ring_Valid.mono _ _)
   | (with_reducible exact LeO.refl _)
   | (with_reducible exact LeO.none _)
   | (with_reducible refine LeO.ite ?_ ?_)
   | (with_reducible refine LeO.bind ?_ (fun _ => ?_))
   | exact ih0 _ _ _ _
   | exact ih1 _ _ _ _
   | exact ih2 _
   | exact ih3 _ _ _
   | exact ih4 _ _ _ _ _
   | exact ih5 _ _ _ _ _
   | exact ih6 _ _ _
   | exact ring_CheckDigit.mono _ _
   | exact ring_Fits.mono _ _ _
   | exact ring_Make.mono _ _ _
   | exact ring_Near.mono _ _
   | exact ring_Next.mono _ _
   | exact ring_Valid.mono _ _
   | exact LeO.none _
   | refine LeO.ite ?_ ?_
   | refine LeO.bind ?_ (fun _ => ?_)
  ·intro y0 y1 y2 y3 y4
   unfold wigeontop_TopRings.j3
   repeat' first
   | (with_reducible exact ih0 _ _ _ _)
   | (with_reducible exact ih1 _ _ _ _)
   | (with_reducible exact ih2 _)
   | (with_reducible exact ih3 _ _ _)
   | (with_reducible exact ih4 _ _ _ _ _)
   | (with_reducible exact ih5 _ _ _ _ _)
   | (with_reducible exact ih6 _ _ _)
   | (with_reducible exact ring_CheckDigit.mono _ _)
   | (with_reducible exact ring_Fits.mono _ _ _)
   | (with_reducible exact ring_Make.mono _ _ _)
   | (with_reducible exact ring_Near.mono _ _)
   | (with_reducible exact ring_Next.mono _ _)
   | (with_reducible exact ring_Valid.mono _ _)
   | (with_reducible exact LeO.refl _)
   | (with_reducible exact LeO.none _)
   | (with_reducible refine LeO.ite ?_ ?_)
   | (with_reducible refine LeO.bind ?_ (fun _ => ?_))
   | exact ih0 _ _ _ _
   | exact ih1 _ _ _ _
   | exact ih2 _
   | exact ih3 _ _ _
   | exact ih4 _ _ _ _ _
   | exact ih5 _ _ _ _ _
   | exact ih6 _ _ _
   | exact ring_CheckDigit.mono _ _
   | exact ring_Fits.mono _ _ _
   | exact ring_Make.mono _ _ _
   | exact ring_Near.mono _ _
   | exact ring_Next.mono _ _
   | exact ring_Valid.mono _ _
   | exact LeO.none _
   | refine LeO.ite ?_ ?_
   | refine LeO.bind ?_ (fun _ => ?_)
  ·intro y0 y1 y2
   unfold wigeontop_TopRings.j4
   repeat' first
   | (with_reducible exact ih0 _ _ _ _)
   | (with_reducible exact ih1 _ _ _ _)
   | (with_reducible exact ih2 _)
   | (with_reducible exact ih3 _ _ _)
   | (with_reducible exact ih4 _ _ _ _ _)
   | (with_reducible exact ih5 _ _ _ _ _)
   | (with_reducible exact ih6 _ _ _)
   | (with_reducible exact ring_CheckDigit.mono _ _)
   | (with_reducible exact ring_Fits.mono _ _ _)
   | (with_reducible exact ring_Make.mono _ _ _)
   | (with_reducible exact ring_Near.mono _ _)
   | (with_reducible exact ring_Next.mono _ _)
   | (with_reducible exact ring_Valid.mono _ _)
   | (with_reducible exact LeO.refl _)
   | (with_reducible exact LeO.none _)
   | (with_reducible refine LeO.ite ?_ ?_)
   | (with_reducible refine LeO.bind ?_ (fun _ => ?_))
   | exact ih0 _ _ _ _
   | exact ih1 _ _ _ _
   | exact ih2 _
   | exact ih3 _ _ _
   | exact ih4 _ _ _ _ _
   | exact ih5 _ _ _ _ _
   | exact ih6 _ _ _
   | exact ring_CheckDigit.mono _ _
   | exact ring_Fits.mono _ _ _
   | exact ring_Make.mono _ _ _
   | exact ring_Near.mono _ _
   | exact ring_Next.mono _ _
   | exact ring_Valid.mono _ _
   | exact LeO.none _
   | refine LeO.ite ?_ ?_
   | refine LeO.bind ?_ (fun _ => ?_)
theorem wigeontop_TopRings.mono : ∀ a0 a1 a2 k, LeO (wigeontop_TopRings.f k a0 a1 a2) (wigeontop_TopRings.f (k + 1) a0 a1 a2) := by
 intro a0 a1 a2 k
 obtain ⟨ih0, ih1, ih2, ih3, ih4, ih5, ih6⟩ := wigeontop_TopRings.mono_l k
 unfold wigeontop_TopRings.f
 repeat' first
   | (with_reducible exact ih0 _ _ _ _)
   | (with_reducible exact ih1 _ _ _ _)
   | (with_reducible exact ih2 _)
   | (with_reducible exact ih3 _ _ _)
   | (with_reducible exact ih4 _ _ _ _ _)
   | (with_reducible exact ih5 _ _ _ _ _)
   | (with_reducible exact ih6 _ _ _)
   | (with_reducible exact ring_CheckDigit.mono _ _)
   | (with_reducible exact ring_Fits.mono _ _ _)
   | (with_reducible exact ring_Make.mono _ _ _)
   | (with_reducible exact ring_Near.mono _ _)
   | (with_reducible exact ring_Next.mono _ _)
   | (with_reducible exact ring_Valid.mono _ _)
   | (with_reducible exact LeO.refl _)
   | (with_reducible exact LeO.none _)
   | (with_reducible refine LeO.ite ?_ ?_)
   | (with_reducible refine LeO.bind ?_ (fun _ => ?_))
   | exact ih0 _ _ _ _
   | exact ih1 _ _ _ _
   | exact ih2 _
   | exact ih3 _ _ _
   | exact ih4 _ _ _ _ _
   | exact ih5 _ _ _ _ _
   | exact ih6 _ _ _
   | exact ring_CheckDigit.mono _ _
   | exact ring_Fits.mono _ _ _
   | exact ring_Make.mono _ _ _
   | exact ring_Near.mono _ _
   | exact ring_Next.mono _ _
   | exact ring_Valid.mono _ _
   | exact LeO.none _
   | refine LeO.ite ?_ ?_
   | refine LeO.bind ?_ (fun _ => ?_)
def wigeontop_TopRings.T31 : Bool × List (List Nat × List Nat) := (true, [([], []), ([], []), ([0, 1], [0, 1]), ([2], [2]), ([3], [3]), ([4], [4]), ([5, 4], [5]), ([6], [6]), ([7, 6], [6, 7]), ([6, 8], [6, 8]), ([9, 6], [9]), ([10], [10]), ([11, 10], [10, 11]), ([12, 10], [10, 12]), ([10, 13], [10, 13]), ([14, 10], [14]), ([15], [15]), ([16, 15], [15, 16]), ([17, 15, 15], [15, 17]), ([18], [18]), ([18], [18]), ([19, 20, 18], [18, 19, 20]), ([21, 18], [18, 21]), ([18], [18]), ([18], [18]), ([24, 18], [18, 24]), ([23, 25, 18], [18, 23, 25]), ([26, 18], [18, 26]), ([22, 27, 18], [18, 22, 27]), ([18, 28, 15], [15, 18, 28]), ([15, 29], [15, 29])])
def wigeontop_TopRings.B31 : List Nat := [0, 0, 3, 7, 15, 31, 63, 127, 255, 511, 1023, 2047, 4095, 8191, 16383, 32767, 65535, 131071, 262143, 524287, 524287, 2097151, 4194303, 524287, 524287, 17301503, 59244543, 126353407, 268435455, 536870911, 1073741823]
theorem wigeontop_TopRings.tab31 : rtab .any (opsOf Try.f15 31) = wigeontop_TopRings.T31 := by kernel_rfl
theorem wigeontop_TopRings.bits31 : waitsOk wigeontop_TopRings.T31.2 wigeontop_TopRings.B31 = true := by kernel_rfl
theorem wigeontop_TopRings.dead0 {k x0 x1 x2 r} (h : wigeontop_TopRings.j0 k x0 x1 x2 true = some r) : r = false := by
  cases k with
  | zero => simp [wigeontop_TopRings.j0] at h
  | succ k =>
    rw [wigeontop_TopRings.j0, if_pos rfl] at h
    exact (Option.some.inj h).symm
theorem wigeontop_TopRings.dead2 {k x0 x1 x2 x3 r} (h : wigeontop_TopRings.j2 k x0 x1 x2 x3 true = some r) : r = false := by
  cases k with
  | zero => simp [wigeontop_TopRings.j2] at h
  | succ k =>
    rw [wigeontop_TopRings.j2, if_pos rfl] at h
    exact (Option.some.inj h).symm
theorem wigeontop_TopRings.dead3 {k x0 x1 x2 x3 r} (h : wigeontop_TopRings.j3 k x0 x1 x2 x3 true = some r) : r = false := by
  cases k with
  | zero => simp [wigeontop_TopRings.j3] at h
  | succ k =>
    rw [wigeontop_TopRings.j3, if_pos rfl] at h
    exact (Option.some.inj h).symm
theorem wigeontop_TopRings.dead4 {k x0 x1 r} (h : wigeontop_TopRings.j4 k x0 x1 true = some r) : r = false := by
  cases k with
  | zero => simp [wigeontop_TopRings.j4] at h
  | succ k =>
    rw [wigeontop_TopRings.j4, if_pos rfl] at h
    exact (Option.some.inj h).symm
set_option maxHeartbeats 8000000 in
set_option maxRecDepth 100000 in
theorem wigeontop_TopRings.calls (k : Nat) (a0 : ByteArray) (a1 : Int) (a2 : ByteArray) (r : Bool) (w : World) (h : wigeontop_TopRings.f k a0 a1 a2 = some r) (hr : r = true) :
  Calls Try.prog 15 #[.string a0, .int .i64 a1, .string a2] w fun e w' => e = .returned (.bool r) ∧ Below w.heap.size w w' := by
 have HRT := Aside0.mk hr
 clear hr
 have HB := Aside0.mk (Below.refl w.heap.size w)
 have H : ((ring_CheckDigit.f k (([2, 3, 6] : List Int))).bind fun bt677 => (if bt677.2 = 0 then (wigeontop_TopRings.j0 k a0 a1 a2 (bt677.1 != 3)) else (wigeontop_TopRings.j0 k a0 a1 a2 true))) = some r := h
 clear h
 have hleS := put_leq
 have hgtS := put_gtr
 obtain ⟨y674, hy674⟩ : ∃ y_ : List Int, y_ = (([2, 3, 6] : List Int)) := ⟨_, rfl⟩
 replace H : ((ring_CheckDigit.f k y674).bind fun bt677 => (if bt677.2 = 0 then (wigeontop_TopRings.j0 k a0 a1 a2 (bt677.1 != 3)) else (wigeontop_TopRings.j0 k a0 a1 a2 true))) = some r := by first | (rw [hy674]; with_reducible exact H) | (have H2_ := (Option.bind_some _ _).symm.trans H; rw [hy674]; with_reducible exact H2_) | (have H2_ := (Option.bind_some _ _).symm.trans H; with_reducible exact H2_) | with_reducible exact H | (rw [hy674]; exact H) | exact H
 have Ny674 := Aside0.mk hy674
 clear hy674
 replace H := Option.bind_eq_some_iff.mp H
 obtain ⟨⟨t677, t678⟩, A40, H⟩ := H
 replace H : (if t678 = 0 then (wigeontop_TopRings.j0 k a0 a1 a2 (t677 != 3)) else (wigeontop_TopRings.j0 k a0 a1 a2 true)) = some r := H
 have A4 := Aside0.mk A40
 clear A40
 have HC5 := Aside0.mk H
 clear H
 go_enter Try.func15, Try.ntmps15
 go_upto_region 2 with (first | ((with_reducible refine gate_dst (N := 28) rfl ?_); (try (refine gate_guard (by rfl) ?_; dsimp only)); refine Kd.R_lit (Kd.int .i64) _ 3 ?hg (N := 28) ?hd (xs := ([2, 3, 6] : List Int)) (inner := [.int .i64 2, .int .i64 3, .int .i64 6]) (ok := fun _ => True) (okp := fun _ => True) ?hr ?hp (fun _ hk => hk) trivial (Below.refl _ _) (Nat.le_refl _) (by simp) ?_; (case hd => rfl); (case hg => rfl); (case hr => first | (go_simp; done) | (go_simp; rfl)); (case hp => exact (Reps.one (show Kd.M (Kd.int .i64) _ _ _ 2 [.int .i64 2] from rfl) (Reps.one (show Kd.M (Kd.int .i64) _ _ _ 3 [.int .i64 3] from rfl) (Reps.one (show Kd.M (Kd.int .i64) _ _ _ 6 [.int .i64 6] from rfl) (Reps.none _ _))))); intro v675 w6 ho7 hb hg_ hnew_; clear hg_ hnew_; (first | rw [← Ny674.out] at ho7 | (simp only [Int.reduceToNat] at ho7; rw [← Ny674.out] at ho7)); have n0_ := Aside0.mk (Kd.R_lower ho7 (below_size (by repeat (first | (with_reducible first | exact HB.out | apply below_alloc | apply pw_below_drewN | apply below_drew1) | exact HB.out)))); have n1_ := Aside0.mk (below_step (by repeat (first | (with_reducible first | exact HB.out | apply below_alloc | apply pw_below_drewN | apply below_drew1) | exact HB.out)) hb); clear HB; have HO676 := n0_; have HB := n1_; clear n0_ n1_; clear hb ho7; obtain ⟨Ao8, co8, eo8⟩ := Kd.R_slice HO676.out; subst eo8) | ((with_reducible refine gate_callee (f := 21) rfl ?_); refine goesL_ (some 29) rfl rfl Try.func21 (by kernel_rfl) rfl #[.slice Ao8 y674.length co8] rfl (by (try simp only [List.map_toArray, List.map_cons, List.map_nil]); first | done | rfl | (simp only [List.length_drop, List.length_take]; rfl)) ?_; (with_reducible refine (ring_CheckDigit.calls k _ _ y674 t677 t678 _ ?side1 ?side2 A4.out).mono ?_); (case side1 => repeat (first | exact (Kd.R_reads' HO676.out).2.2 | (with_reducible refine Kd.C_alloc ?_ _) | (with_reducible refine Kd.C_drewN ?_ _) | (with_reducible refine Kd.C_drew ?_))); (case side2 => exact (Kd.R_reads' HO676.out).2.1); rintro e w' ⟨rfl, ⟨nd, rfl⟩⟩; refine ⟨_, rfl, ?_⟩))
 (try simp only [Act.put, List.setIfInBounds_toArray, List.set_cons_zero, List.set_cons_succ])
 go_cut [37] (fun v37 wc => ∃ (kq : Nat) (x37_4 : Bool), v37 = .bool x37_4 ∧ Aside0 (wigeontop_TopRings.j0 kq a0 a1 a2 x37_4 = some r) ∧ Aside0 (kq ≤ k) ∧ Aside0 (Below w.heap.size w wc))
 case first =>
  as_aux_lemma =>
   have H := HC5.out
   clear HC5
   by_cases c9 : t678 = 0
   ·rw [if_pos c9] at H
    have c9b0 : (t678 == 0) = true := beq_iff_eq.mpr c9
    have c9b1 : (t678 != 0) = false := bne_eq_false_iff_eq.mpr c9
    clear c9
    (first | rw [c9b0] | (simp only [i64_w, i32_w]; rw [c9b0]) | skip)
    have H' := Aside0.mk H
    clear H
    go_wp2
    go_meet
    case rel => exact ⟨_, ((t677 != 3)), (by first | rfl | (simp; done) | (simp [*]; done)), H', ⟨by first | omega | exact Nat.le_refl _⟩, ⟨by repeat (first | (with_reducible first | exact HB.out | apply below_alloc | apply pw_below_drewN | apply below_drew1) | exact HB.out)⟩⟩
   ·rw [if_neg c9] at H
    exact absurd HRT.out (by rw [wigeontop_TopRings.dead0 H]; decide)
 case rest =>
  as_aux_lemma =>
   clear HC5
   try clear c1
   try clear c2
   try clear p2
   try clear c9
   try clear c9b0
   try clear c9b1
   obtain ⟨kq, x37_4, rfl, HA, HJ4, HB⟩ := hcut
   cases kq with
   | zero => exact absurd HA.out (by simp [wigeontop_TopRings.j0])
   | succ kj4 =>
    have H := HA.out
    clear HA
    simp only [wigeontop_TopRings.j0] at H
    by_cases c10 : x37_4 = true
    ·subst c10
     have H1 : (some false) = some r := by rw [if_pos rfl] at H; exact H
     clear H
     have H := H1
     clear H1
     obtain rfl := Option.some.inj H
     exact absurd HRT.out (by decide)
    ·replace c10 := Bool.eq_false_iff.mpr c10
     subst c10
     have H1 : (if (a0.size : Int) > 100 then (wigeontop_TopRings.j1 kj4 a0 a1 a2 true) else (wigeontop_TopRings.j1 kj4 a0 a1 a2 (decide ((a2.size : Int) > 100)))) = some r := by rw [if_neg (show ¬ (false = true) by decide)] at H; exact H
     clear H
     have H := H1
     clear H1
     have HC11 := Aside0.mk H
     clear H
     go_upto_region 4 with (fail)
     go_cut [45] (fun v45 wc => ∃ (kq : Nat) (x45_10 : Bool), v45 = .bool x45_10 ∧ Aside0 (wigeontop_TopRings.j1 kq a0 a1 a2 x45_10 = some r) ∧ Aside0 (kq ≤ kj4) ∧ Aside0 (Below w.heap.size w wc))
     case first =>
      as_aux_lemma =>
       have H := HC11.out
       clear HC11
       by_cases c12 : (a0.size : Int) > 100
       ·rw [if_pos c12] at H
        have c12b0 : decide (100 < (a0.size : Int)) = true := decide_eq_true c12
        have c12b1 : decide (100 < a0.size) = true := decide_eq_true (by omega)
        clear c12
        (first | rw [c12b0] | (simp only [i64_w, i32_w]; rw [c12b0]) | skip)
        have H' := Aside0.mk H
        clear H
        go_wp2
        go_meet
        case rel => exact ⟨_, (true), (by first | rfl | (simp; done) | (simp [*]; done)), H', ⟨by have := HJ4.out; first | omega | exact Nat.le_refl _⟩, ⟨by repeat (first | (with_reducible first | exact HB.out | apply below_alloc | apply pw_below_drewN | apply below_drew1) | exact HB.out)⟩⟩
       ·rw [if_neg c12] at H
        have c12b0 : decide (100 < (a0.size : Int)) = false := decide_eq_false c12
        have c12b1 : decide (100 < a0.size) = false := decide_eq_false (by omega)
        clear c12
        (first | rw [c12b0] | (simp only [i64_w, i32_w]; rw [c12b0]) | skip)
        have H' := Aside0.mk H
        clear H
        go_wp2
        go_meet
        case rel => exact ⟨_, (decide ((a2.size : Int) > 100)), (by first | rfl | (simp; done) | (simp [*]; done)), H', ⟨by have := HJ4.out; first | omega | exact Nat.le_refl _⟩, ⟨by repeat (first | (with_reducible first | exact HB.out | apply below_alloc | apply pw_below_drewN | apply below_drew1) | exact HB.out)⟩⟩
     case rest =>
      as_aux_lemma =>
       clear HC11
       try clear c1
       try clear c2
       try clear p2
       try clear c9
       try clear c9b0
       try clear c9b1
       try clear c10
       try clear c12
       try clear c12b0
       try clear c12b1
       try clear p2
       obtain ⟨kq, x45_10, rfl, HA, HJ10, HB⟩ := hcut
       cases kq with
       | zero => exact absurd HA.out (by simp [wigeontop_TopRings.j1])
       | succ kj10 =>
        have H := HA.out
        clear HA
        simp only [wigeontop_TopRings.j1] at H
        by_cases c13 : x45_10 = true
        ·subst c13
         have H1 : (some true) = some r := by rw [if_pos rfl] at H; exact H
         clear H
         have H := H1
         clear H1
         obtain rfl := Option.some.inj H
         go_wp2
         go_ret
         exact ⟨by first | rfl | (simp [errW_none, errW_some] <;> rfl) | (simp [*, errW_none, errW_some] <;> rfl), by repeat (first | (with_reducible first | exact HB.out | apply below_alloc | apply pw_below_drewN | apply below_drew1) | exact HB.out)⟩
        ·replace c13 := Bool.eq_false_iff.mpr c13
         subst c13
         have H1 : ((ring_Make.f kj10 a0 a1).bind fun bt679 => (if bt679.2 = 0 then (if (bt679.1.size : Int) = (wrap64 ((a0.size : Int) + 6)) then ((ring_Valid.f kj10 bt679.1).bind fun t681 => (wigeontop_TopRings.j2 kj10 a0 a1 a2 bt679.1 (t681 != 0))) else (wigeontop_TopRings.j2 kj10 a0 a1 a2 bt679.1 true)) else (wigeontop_TopRings.j5 kj10 a2))) = some r := by rw [if_neg (show ¬ (false = true) by decide)] at H; exact H
         clear H
         have H := H1
         clear H1
         replace H := Option.bind_eq_some_iff.mp H
         obtain ⟨⟨t679, t680⟩, A140, H⟩ := H
         replace H : (if t680 = 0 then (if (t679.size : Int) = (wrap64 ((a0.size : Int) + 6)) then ((ring_Valid.f kj10 t679).bind fun t681 => (wigeontop_TopRings.j2 kj10 a0 a1 a2 t679 (t681 != 0))) else (wigeontop_TopRings.j2 kj10 a0 a1 a2 t679 true)) else (wigeontop_TopRings.j5 kj10 a2)) = some r := H
         have A14 := Aside0.mk A140
         clear A140
         have HC15 := Aside0.mk H
         clear H
         go_upto_if 53 with (first | ((with_reducible refine gate_callee (f := 38) rfl ?_); refine goesL_ (some 49) rfl rfl Try.func38 (by kernel_rfl) rfl #[.string a0, .int .i64 a1] rfl (by (try simp only [List.map_toArray, List.map_cons, List.map_nil]); first | done | rfl | (simp only [List.length_drop, List.length_take]; rfl)) ?_; (with_reducible refine (ring_Make.calls kj10 a0 a1 t679 t680 _ A14.out).mono ?_); rintro e w16 ⟨rfl, hb⟩; refine ⟨_, rfl, ?_⟩; have n0_ := Aside0.mk (below_step (by repeat (first | (with_reducible first | exact HB.out | apply below_alloc | apply pw_below_drewN | apply below_drew1) | exact HB.out)) hb); clear HB; have HB := n0_; clear n0_; (try clear hb); (try clear hb2); (try clear hk); (try clear hi)))
         (try simp only [Act.put, List.setIfInBounds_toArray, List.set_cons_zero, List.set_cons_succ])
         go_cut [] (fun wc => ∃ (kq : Nat), Aside0 (wigeontop_TopRings.j5 kq a2 = some r) ∧ Aside0 (kq ≤ kj10) ∧ Aside0 (Below w.heap.size w wc))
         case first =>
          as_aux_lemma =>
           have H := HC15.out
           clear HC15
           by_cases c17 : t680 = 0
           ·rw [if_pos c17] at H
            have c17b0 : (t680 == 0) = true := beq_iff_eq.mpr c17
            have c17b1 : (t680 != 0) = false := bne_eq_false_iff_eq.mpr c17
            clear c17
            (first | rw [c17b0] | (simp only [i64_w, i32_w]; rw [c17b0]) | skip)
            have HC18 := Aside0.mk H
            clear H
            go_upto_region 8 with (fail)
            go_cut [64] (fun v64 wc => ∃ (kq : Nat) (x64_17 : Bool), v64 = .bool x64_17 ∧ Aside0 (wigeontop_TopRings.j2 kq a0 a1 a2 t679 x64_17 = some r) ∧ Aside0 (kq ≤ kj10) ∧ Aside0 (Below w.heap.size w wc))
            case first =>
             as_aux_lemma =>
              have H := HC18.out
              clear HC18
              by_cases c19 : (t679.size : Int) = (wrap64 ((a0.size : Int) + 6))
              ·rw [if_pos c19] at H
               have c19b0 : ((t679.size : Int) == (wrap64 ((a0.size : Int) + 6))) = true := beq_iff_eq.mpr c19
               have c19b1 : ((t679.size : Int) != (wrap64 ((a0.size : Int) + 6))) = false := bne_eq_false_iff_eq.mpr c19
               clear c19
               (first | rw [c19b0] | (simp only [i64_w, i32_w]; rw [c19b0]) | skip)
               replace H := Option.bind_eq_some_iff.mp H
               obtain ⟨t681, A200, H⟩ := H
               replace H : (wigeontop_TopRings.j2 kj10 a0 a1 a2 t679 (t681 != 0)) = some r := H
               have A20 := Aside0.mk A200
               clear A200
               have H' := Aside0.mk H
               clear H
               go_wp2_with (first | (go_at_call 36; (with_reducible refine (ring_Valid.calls kj10 t679 t681 _ A20.out).mono ?_); rintro e w21 ⟨rfl, hb⟩; have n0_ := Aside0.mk (below_step (by repeat (first | (with_reducible first | exact HB.out | apply below_alloc | apply pw_below_drewN | apply below_drew1) | exact HB.out)) hb); clear HB; have HB := n0_; clear n0_; (try clear hb); (try clear hb2); (try clear hk); (try clear hi)))
               go_meet
               case rel => exact ⟨_, ((t681 != 0)), (by first | rfl | (simp; done) | (simp [*]; done)), H', ⟨by have := HJ4.out; have := HJ10.out; first | omega | exact Nat.le_refl _⟩, ⟨by repeat (first | (with_reducible first | exact HB.out | apply below_alloc | apply pw_below_drewN | apply below_drew1) | exact HB.out)⟩⟩
              ·rw [if_neg c19] at H
               exact absurd HRT.out (by rw [wigeontop_TopRings.dead2 H]; decide)
            case rest =>
             as_aux_lemma =>
              clear HC18
              try clear c1
              try clear c2
              try clear p2
              try clear c3
              try clear p6
              try clear c9
              try clear c9b0
              try clear c9b1
              try clear c10
              try clear c12
              try clear c12b0
              try clear c12b1
              try clear c13
              try clear c15
              try clear c17
              try clear c17b0
              try clear c17b1
              try clear c19
              try clear c19b0
              try clear c19b1
              try clear c21
              try clear p2
              obtain ⟨kq, x64_17, rfl, HA, HJ17, HB⟩ := hcut
              cases kq with
              | zero => exact absurd HA.out (by simp [wigeontop_TopRings.j2])
              | succ kj17 =>
               have H := HA.out
               clear HA
               simp only [wigeontop_TopRings.j2] at H
               by_cases c22 : x64_17 = true
               ·subst c22
                have H1 : (some false) = some r := by rw [if_pos rfl] at H; exact H
                clear H
                have H := H1
                clear H1
                obtain rfl := Option.some.inj H
                exact absurd HRT.out (by decide)
               ·replace c22 := Bool.eq_false_iff.mpr c22
                subst c22
                have H1 : ((ring_Near.f kj17 t679).bind fun bt682 => ((ring_Fits.f kj17 t679 t679).bind fun bt686 => ((ring_Count.f t679).bind fun bt688 => (if bt682.2 = 0 then (if (bt682.1.length : Int) = 0 then (if bt686.2 = 0 then (if bt686.1 = true then (if bt688.2 = 0 then (wigeontop_TopRings.j3 kj17 a0 a1 a2 t679 (bt688.1 != 1)) else (wigeontop_TopRings.j3 kj17 a0 a1 a2 t679 true)) else (wigeontop_TopRings.j3 kj17 a0 a1 a2 t679 true)) else (wigeontop_TopRings.j3 kj17 a0 a1 a2 t679 true)) else (wigeontop_TopRings.j3 kj17 a0 a1 a2 t679 true)) else (wigeontop_TopRings.j3 kj17 a0 a1 a2 t679 true))))) = some r := by rw [if_neg (show ¬ (false = true) by decide)] at H; exact H
                clear H
                have H := H1
                clear H1
                replace H := Option.bind_eq_some_iff.mp H
                obtain ⟨⟨t682, t683⟩, A230, H⟩ := H
                replace H : ((ring_Fits.f kj17 t679 t679).bind fun bt686 => ((ring_Count.f t679).bind fun bt688 => (if t683 = 0 then (if (t682.length : Int) = 0 then (if bt686.2 = 0 then (if bt686.1 = true then (if bt688.2 = 0 then (wigeontop_TopRings.j3 kj17 a0 a1 a2 t679 (bt688.1 != 1)) else (wigeontop_TopRings.j3 kj17 a0 a1 a2 t679 true)) else (wigeontop_TopRings.j3 kj17 a0 a1 a2 t679 true)) else (wigeontop_TopRings.j3 kj17 a0 a1 a2 t679 true)) else (wigeontop_TopRings.j3 kj17 a0 a1 a2 t679 true)) else (wigeontop_TopRings.j3 kj17 a0 a1 a2 t679 true)))) = some r := H
                have A23 := Aside0.mk A230
                clear A230
                replace H := Option.bind_eq_some_iff.mp H
                obtain ⟨⟨t686, t687⟩, A240, H⟩ := H
                replace H : ((ring_Count.f t679).bind fun bt688 => (if t683 = 0 then (if (t682.length : Int) = 0 then (if t687 = 0 then (if t686 = true then (if bt688.2 = 0 then (wigeontop_TopRings.j3 kj17 a0 a1 a2 t679 (bt688.1 != 1)) else (wigeontop_TopRings.j3 kj17 a0 a1 a2 t679 true)) else (wigeontop_TopRings.j3 kj17 a0 a1 a2 t679 true)) else (wigeontop_TopRings.j3 kj17 a0 a1 a2 t679 true)) else (wigeontop_TopRings.j3 kj17 a0 a1 a2 t679 true)) else (wigeontop_TopRings.j3 kj17 a0 a1 a2 t679 true))) = some r := H
                have A24 := Aside0.mk A240
                clear A240
                replace H := Option.bind_eq_some_iff.mp H
                obtain ⟨⟨t688, t689⟩, A250, H⟩ := H
                replace H : (if t683 = 0 then (if (t682.length : Int) = 0 then (if t687 = 0 then (if t686 = true then (if t689 = 0 then (wigeontop_TopRings.j3 kj17 a0 a1 a2 t679 (t688 != 1)) else (wigeontop_TopRings.j3 kj17 a0 a1 a2 t679 true)) else (wigeontop_TopRings.j3 kj17 a0 a1 a2 t679 true)) else (wigeontop_TopRings.j3 kj17 a0 a1 a2 t679 true)) else (wigeontop_TopRings.j3 kj17 a0 a1 a2 t679 true)) else (wigeontop_TopRings.j3 kj17 a0 a1 a2 t679 true)) = some r := H
                have A25 := Aside0.mk A250
                clear A250
                have HC26 := Aside0.mk H
                clear H
                go_upto_region 13 with (first | ((with_reducible refine gate_callee (f := 50) rfl ?_); refine goesL_ (some 67) rfl rfl Try.func50 (by kernel_rfl) rfl #[.string t679] rfl (by (try simp only [List.map_toArray, List.map_cons, List.map_nil]); first | done | rfl | (simp only [List.length_drop, List.length_take]; rfl)) ?_; (with_reducible refine (ring_Near.calls kj17 t679 t682 t683 _ A23.out).mono ?_); rintro e w27 ⟨v684, rfl, ho0, hb⟩; refine ⟨_, rfl, ?_⟩; have n0_ := Aside0.mk (Kd.R_lower ho0 (below_size (by repeat (first | (with_reducible first | exact HB.out | apply below_alloc | apply pw_below_drewN | apply below_drew1) | exact HB.out)))); have n1_ := Aside0.mk (below_step (by repeat (first | (with_reducible first | exact HB.out | apply below_alloc | apply pw_below_drewN | apply below_drew1) | exact HB.out)) hb); clear HB; have HO685 := n0_; have HB := n1_; clear n0_ n1_; (try clear hb); (try clear hb2); (try clear hk); (try clear hi); (try clear ho0)) | ((with_reducible refine gate_callee (f := 28) rfl ?_); refine goesL_ (some 73) rfl rfl Try.func28 (by kernel_rfl) rfl #[.string t679, .string t679] rfl (by (try simp only [List.map_toArray, List.map_cons, List.map_nil]); first | done | rfl | (simp only [List.length_drop, List.length_take]; rfl)) ?_; (with_reducible refine (ring_Fits.calls kj17 t679 t679 t686 t687 _ A24.out).mono ?_); rintro e w28 ⟨rfl, hb⟩; refine ⟨_, rfl, ?_⟩; have n0_ := Aside0.mk (Kd.R_below (by (with_reducible repeat (first | apply Kd.R_alloc | apply Kd.R_drewN | apply Kd.R_drew)); exact HO685.out) hb); have n1_ := Aside0.mk (below_step (by repeat (first | (with_reducible first | exact HB.out | apply below_alloc | apply pw_below_drewN | apply below_drew1) | exact HB.out)) hb); clear HO685; clear HB; have HO685 := n0_; have HB := n1_; clear n0_ n1_; (try clear hb); (try clear hb2); (try clear hk); (try clear hi)) | ((with_reducible refine gate_callee (f := 40) rfl ?_); refine goesL_ (some 78) rfl rfl Try.func40 (by kernel_rfl) rfl #[.string t679] rfl (by (try simp only [List.map_toArray, List.map_cons, List.map_nil]); first | done | rfl | (simp only [List.length_drop, List.length_take]; rfl)) ?_; (with_reducible refine (ring_Count.calls t679 t688 t689 _ A25.out).mono ?_); rintro e w29 ⟨rfl, hb⟩; refine ⟨_, rfl, ?_⟩; have n0_ := Aside0.mk (Kd.R_below (by (with_reducible repeat (first | apply Kd.R_alloc | apply Kd.R_drewN | apply Kd.R_drew)); exact HO685.out) hb); have n1_ := Aside0.mk (below_step (by repeat (first | (with_reducible first | exact HB.out | apply below_alloc | apply pw_below_drewN | apply below_drew1) | exact HB.out)) hb); clear HO685; clear HB; have HO685 := n0_; have HB := n1_; clear n0_ n1_; (try clear hb); (try clear hb2); (try clear hk); (try clear hi)))
                (try simp only [Act.put, List.setIfInBounds_toArray, List.set_cons_zero, List.set_cons_succ])
                go_cut [103] (fun v103 wc => ∃ (kq : Nat) (x103_25 : Bool), v103 = .bool x103_25 ∧ Aside0 (wigeontop_TopRings.j3 kq a0 a1 a2 t679 x103_25 = some r) ∧ Aside0 (kq ≤ kj17) ∧ Aside0 (Below w.heap.size w wc))
                case first =>
                 as_aux_lemma =>
                  have H := HC26.out
                  clear HC26
                  by_cases c30 : t683 = 0
                  ·rw [if_pos c30] at H
                   have c30b0 : (t683 == 0) = true := beq_iff_eq.mpr c30
                   have c30b1 : (t683 != 0) = false := bne_eq_false_iff_eq.mpr c30
                   clear c30
                   (first | rw [c30b0] | (simp only [i64_w, i32_w]; rw [c30b0]) | skip)
                   by_cases c31 : (t682.length : Int) = 0
                   ·rw [if_pos c31] at H
                    have c31b0 : ((t682.length : Int) == 0) = true := beq_iff_eq.mpr c31
                    have c31b1 : ((t682.length : Int) != 0) = false := bne_eq_false_iff_eq.mpr c31
                    clear c31
                    by_cases c32 : t687 = 0
                    ·rw [if_pos c32] at H
                     have c32b0 : (t687 == 0) = true := beq_iff_eq.mpr c32
                     have c32b1 : (t687 != 0) = false := bne_eq_false_iff_eq.mpr c32
                     clear c32
                     by_cases c33 : t686 = true
                     ·subst c33
                      have H1 : (if t689 = 0 then (wigeontop_TopRings.j3 kj17 a0 a1 a2 t679 (t688 != 1)) else (wigeontop_TopRings.j3 kj17 a0 a1 a2 t679 true)) = some r := by rw [if_pos rfl] at H; exact H
                      clear H
                      have H := H1
                      clear H1
                      by_cases c34 : t689 = 0
                      ·rw [if_pos c34] at H
                       have c34b0 : (t689 == 0) = true := beq_iff_eq.mpr c34
                       have c34b1 : (t689 != 0) = false := bne_eq_false_iff_eq.mpr c34
                       clear c34
                       have H' := Aside0.mk H
                       clear H
                       obtain ⟨Ao35, co35, eo35⟩ := Kd.R_slice HO685.out
                       subst eo35
                       go_wp2
                       go_meet
                       case rel => exact ⟨_, ((t688 != 1)), (by first | rfl | (simp; done) | (simp [*]; done)), H', ⟨by have := HJ4.out; have := HJ10.out; have := HJ17.out; first | omega | exact Nat.le_refl _⟩, ⟨by repeat (first | (with_reducible first | exact HB.out | apply below_alloc | apply pw_below_drewN | apply below_drew1) | exact HB.out)⟩⟩
                      ·rw [if_neg c34] at H
                       exact absurd HRT.out (by rw [wigeontop_TopRings.dead3 H]; decide)
                     ·replace c33 := Bool.eq_false_iff.mpr c33
                      subst c33
                      rw [if_neg (show ¬ (false = true) by decide)] at H
                      exact absurd HRT.out (by rw [wigeontop_TopRings.dead3 H]; decide)
                    ·rw [if_neg c32] at H
                     exact absurd HRT.out (by rw [wigeontop_TopRings.dead3 H]; decide)
                   ·rw [if_neg c31] at H
                    exact absurd HRT.out (by rw [wigeontop_TopRings.dead3 H]; decide)
                  ·rw [if_neg c30] at H
                   exact absurd HRT.out (by rw [wigeontop_TopRings.dead3 H]; decide)
                case rest =>
                 as_aux_lemma =>
                  clear HC26
                  try clear c1
                  try clear c2
                  try clear p2
                  try clear c3
                  try clear c4
                  try clear c5
                  try clear p6
                  try clear c9
                  try clear c9b0
                  try clear c9b1
                  try clear c10
                  try clear c12
                  try clear c12b0
                  try clear c12b1
                  try clear c13
                  try clear c15
                  try clear c17
                  try clear c17b0
                  try clear c17b1
                  try clear c19
                  try clear c19b0
                  try clear c19b1
                  try clear c21
                  try clear c22
                  try clear c28
                  try clear c30
                  try clear c30b0
                  try clear c30b1
                  try clear c31
                  try clear c31b0
                  try clear c31b1
                  try clear c31b2
                  try clear c32
                  try clear c32b0
                  try clear c32b1
                  try clear c33
                  try clear c34
                  try clear c34b0
                  try clear c34b1
                  try clear c38
                  try clear p2
                  try clear p6
                  obtain ⟨kq, x103_25, rfl, HA, HJ25, HB⟩ := hcut
                  cases kq with
                  | zero => exact absurd HA.out (by simp [wigeontop_TopRings.j3])
                  | succ kj25 =>
                   have H := HA.out
                   clear HA
                   simp only [wigeontop_TopRings.j3] at H
                   by_cases c40 : x103_25 = true
                   ·subst c40
                    have H1 : (some false) = some r := by rw [if_pos rfl] at H; exact H
                    clear H
                    have H := H1
                    clear H1
                    obtain rfl := Option.some.inj H
                    exact absurd HRT.out (by decide)
                   ·replace c40 := Bool.eq_false_iff.mpr c40
                    subst c40
                    have H1 : ((ring_Next.f kj25 t679).bind fun bt690 => ((ring_Make.f kj25 a0 (wrap64 (a1 + 1))).bind fun bt692 => (if bt690.2 = 3 then (if bt692.2 = 1 then (wigeontop_TopRings.j4 kj25 a2 t679 false) else (wigeontop_TopRings.j4 kj25 a2 t679 true)) else (if bt690.2 = 0 then (if bt692.2 = 0 then (if bt690.1.toList = bt692.1.toList then (wigeontop_TopRings.j4 kj25 a2 t679 (!(Op.bytesLess t679.toList bt690.1.toList))) else (wigeontop_TopRings.j4 kj25 a2 t679 true)) else (wigeontop_TopRings.j4 kj25 a2 t679 true)) else (wigeontop_TopRings.j4 kj25 a2 t679 true))))) = some r := by rw [if_neg (show ¬ (false = true) by decide)] at H; exact H
                    clear H
                    have H := H1
                    clear H1
                    replace H := Option.bind_eq_some_iff.mp H
                    obtain ⟨⟨t690, t691⟩, A410, H⟩ := H
                    replace H : ((ring_Make.f kj25 a0 (wrap64 (a1 + 1))).bind fun bt692 => (if t691 = 3 then (if bt692.2 = 1 then (wigeontop_TopRings.j4 kj25 a2 t679 false) else (wigeontop_TopRings.j4 kj25 a2 t679 true)) else (if t691 = 0 then (if bt692.2 = 0 then (if t690.toList = bt692.1.toList then (wigeontop_TopRings.j4 kj25 a2 t679 (!(Op.bytesLess t679.toList t690.toList))) else (wigeontop_TopRings.j4 kj25 a2 t679 true)) else (wigeontop_TopRings.j4 kj25 a2 t679 true)) else (wigeontop_TopRings.j4 kj25 a2 t679 true)))) = some r := H
                    have A41 := Aside0.mk A410
                    clear A410
                    replace H := Option.bind_eq_some_iff.mp H
                    obtain ⟨⟨t692, t693⟩, A420, H⟩ := H
                    replace H : (if t691 = 3 then (if t693 = 1 then (wigeontop_TopRings.j4 kj25 a2 t679 false) else (wigeontop_TopRings.j4 kj25 a2 t679 true)) else (if t691 = 0 then (if t693 = 0 then (if t690.toList = t692.toList then (wigeontop_TopRings.j4 kj25 a2 t679 (!(Op.bytesLess t679.toList t690.toList))) else (wigeontop_TopRings.j4 kj25 a2 t679 true)) else (wigeontop_TopRings.j4 kj25 a2 t679 true)) else (wigeontop_TopRings.j4 kj25 a2 t679 true))) = some r := H
                    have A42 := Aside0.mk A420
                    clear A420
                    have HC43 := Aside0.mk H
                    clear H
                    go_upto_region 17 with (first | ((with_reducible refine gate_callee (f := 34) rfl ?_); refine goesL_ (some 106) rfl rfl Try.func34 (by kernel_rfl) rfl #[.string t679] rfl (by (try simp only [List.map_toArray, List.map_cons, List.map_nil]); first | done | rfl | (simp only [List.length_drop, List.length_take]; rfl)) ?_; (with_reducible refine (ring_Next.calls kj25 t679 t690 t691 _ A41.out).mono ?_); rintro e w44 ⟨rfl, hb⟩; refine ⟨_, rfl, ?_⟩; have n0_ := Aside0.mk (below_step (by repeat (first | (with_reducible first | exact HB.out | apply below_alloc | apply pw_below_drewN | apply below_drew1) | exact HB.out)) hb); clear HB; have HB := n0_; clear n0_; (try clear hb); (try clear hb2); (try clear hk); (try clear hi)) | ((with_reducible refine gate_callee (f := 38) rfl ?_); refine goesL_ (some 113) rfl rfl Try.func38 (by kernel_rfl) rfl #[.string a0, .int .i64 (wrap64 (a1 + 1))] rfl (by (try simp only [List.map_toArray, List.map_cons, List.map_nil]); first | done | rfl | (simp only [List.length_drop, List.length_take]; rfl)) ?_; (with_reducible refine (ring_Make.calls kj25 a0 (wrap64 (a1 + 1)) t692 t693 _ A42.out).mono ?_); rintro e w45 ⟨rfl, hb⟩; refine ⟨_, rfl, ?_⟩; have n0_ := Aside0.mk (below_step (by repeat (first | (with_reducible first | exact HB.out | apply below_alloc | apply pw_below_drewN | apply below_drew1) | exact HB.out)) hb); clear HB; have HB := n0_; clear n0_; (try clear hb); (try clear hb2); (try clear hk); (try clear hi)))
                    (try simp only [Act.put, List.setIfInBounds_toArray, List.set_cons_zero, List.set_cons_succ])
                    go_cut [143] (fun v143 wc => ∃ (kq : Nat) (x143_42 : Bool), v143 = .bool x143_42 ∧ Aside0 (wigeontop_TopRings.j4 kq a2 t679 x143_42 = some r) ∧ Aside0 (kq ≤ kj25) ∧ Aside0 (Below w.heap.size w wc))
                    case first =>
                     as_aux_lemma =>
                      have H := HC43.out
                      clear HC43
                      by_cases c46 : t691 = 3
                      ·rw [if_pos c46] at H
                       have c46b0 : (t691 == 3) = true := beq_iff_eq.mpr c46
                       have c46b1 : (t691 != 3) = false := bne_eq_false_iff_eq.mpr c46
                       clear c46
                       (first | rw [c46b0] | (simp only [i64_w, i32_w]; rw [c46b0]) | skip)
                       by_cases c47 : t693 = 1
                       ·rw [if_pos c47] at H
                        have c47b0 : (t693 == 1) = true := beq_iff_eq.mpr c47
                        have c47b1 : (t693 != 1) = false := bne_eq_false_iff_eq.mpr c47
                        clear c47
                        have H' := Aside0.mk H
                        clear H
                        go_wp2
                        go_meet
                        case rel => exact ⟨_, (false), (by first | rfl | (simp; done) | (simp [*]; done)), H', ⟨by have := HJ4.out; have := HJ10.out; have := HJ17.out; have := HJ25.out; first | omega | exact Nat.le_refl _⟩, ⟨by repeat (first | (with_reducible first | exact HB.out | apply below_alloc | apply pw_below_drewN | apply below_drew1) | exact HB.out)⟩⟩
                       ·rw [if_neg c47] at H
                        exact absurd HRT.out (by rw [wigeontop_TopRings.dead4 H]; decide)
                      ·rw [if_neg c46] at H
                       have c46b0 : (t691 == 3) = false := beq_eq_false_iff_ne.mpr c46
                       have c46b1 : (t691 != 3) = true := bne_iff_ne.mpr c46
                       (first | rw [c46b0] | (simp only [i64_w, i32_w]; rw [c46b0]) | skip)
                       by_cases c48 : t691 = 0
                       ·rw [if_pos c48] at H
                        have c48b0 : (t691 == 0) = true := beq_iff_eq.mpr c48
                        have c48b1 : (t691 != 0) = false := bne_eq_false_iff_eq.mpr c48
                        clear c48
                        by_cases c49 : t693 = 0
                        ·rw [if_pos c49] at H
                         have c49b0 : (t693 == 0) = true := beq_iff_eq.mpr c49
                         have c49b1 : (t693 != 0) = false := bne_eq_false_iff_eq.mpr c49
                         clear c49
                         by_cases c50 : t690.toList = t692.toList
                         ·rw [if_pos c50] at H
                          have c50b0 : (t690.toList == t692.toList) = true := beq_iff_eq.mpr c50
                          have c50b1 : (t690.toList != t692.toList) = false := bne_eq_false_iff_eq.mpr c50
                          clear c50
                          have H' := Aside0.mk H
                          clear H
                          go_wp2
                          go_meet
                          case rel => exact ⟨_, (!(Op.bytesLess t679.toList t690.toList)), (by first | rfl | (simp; done) | (simp [*]; done)), H', ⟨by have := HJ4.out; have := HJ10.out; have := HJ17.out; have := HJ25.out; first | omega | exact Nat.le_refl _⟩, ⟨by repeat (first | (with_reducible first | exact HB.out | apply below_alloc | apply pw_below_drewN | apply below_drew1) | exact HB.out)⟩⟩
                         ·rw [if_neg c50] at H
                          exact absurd HRT.out (by rw [wigeontop_TopRings.dead4 H]; decide)
                        ·rw [if_neg c49] at H
                         exact absurd HRT.out (by rw [wigeontop_TopRings.dead4 H]; decide)
                       ·rw [if_neg c48] at H
                        exact absurd HRT.out (by rw [wigeontop_TopRings.dead4 H]; decide)
                    case rest =>
                     as_aux_lemma =>
                      clear HC43
                      try clear c1
                      try clear c2
                      try clear p2
                      try clear c3
                      try clear c4
                      try clear c5
                      try clear p6
                      try clear c9
                      try clear c9b0
                      try clear c9b1
                      try clear c10
                      try clear c12
                      try clear c12b0
                      try clear c12b1
                      try clear c13
                      try clear c15
                      try clear c17
                      try clear c17b0
                      try clear c17b1
                      try clear c19
                      try clear c19b0
                      try clear c19b1
                      try clear c21
                      try clear c22
                      try clear c28
                      try clear c30
                      try clear c30b0
                      try clear c30b1
                      try clear c31
                      try clear c31b0
                      try clear c31b1
                      try clear c31b2
                      try clear c32
                      try clear c32b0
                      try clear c32b1
                      try clear c33
                      try clear c34
                      try clear c34b0
                      try clear c34b1
                      try clear c38
                      try clear c40
                      try clear c46
                      try clear c46b0
                      try clear c46b1
                      try clear c47
                      try clear c47b0
                      try clear c47b1
                      try clear c48
                      try clear c48b0
                      try clear c48b1
                      try clear c49
                      try clear c49b0
                      try clear c49b1
                      try clear c50
                      try clear c50b0
                      try clear c50b1
                      try clear p2
                      try clear p6
                      obtain ⟨kq, x143_42, rfl, HA, HJ42, HB⟩ := hcut
                      cases kq with
                      | zero => exact absurd HA.out (by simp [wigeontop_TopRings.j4])
                      | succ kj42 =>
                       have H := HA.out
                       clear HA
                       simp only [wigeontop_TopRings.j4] at H
                       by_cases c51 : x143_42 = true
                       ·subst c51
                        have H1 : (some false) = some r := by rw [if_pos rfl] at H; exact H
                        clear H
                        have H := H1
                        clear H1
                        obtain rfl := Option.some.inj H
                        exact absurd HRT.out (by decide)
                       ·replace c51 := Bool.eq_false_iff.mpr c51
                        subst c51
                        have H1 : (if 0 ≤ (wrap64 ((t679.size : Int) - 2)) then (if (wrap64 ((t679.size : Int) - 2)) ≤ (t679.size : Int) then (if (t679.extract 0 ((wrap64 ((t679.size : Int) - 2)) : Int).toNat).size + 2 ≤ 9223372036854775807 then ((ring_Count.f ((t679.extract 0 ((wrap64 ((t679.size : Int) - 2)) : Int).toNat) ++ (⟨#[63, 63]⟩ : ByteArray))).bind fun bt694 => ((ring_First.f ((t679.extract 0 ((wrap64 ((t679.size : Int) - 2)) : Int).toNat) ++ (⟨#[63, 63]⟩ : ByteArray))).bind fun bt696 => (if bt694.2 = 0 then (if bt694.1 = 10 then (if bt696.2.2 = 0 then (if bt696.2.1 = true then (if (Op.bytesLess t679.toList bt696.1.toList) = true then (some false) else (wigeontop_TopRings.j5 kj42 a2)) else (some false)) else (some false)) else (some false)) else (some false)))) else (none)) else (none)) else (none)) = some r := by rw [if_neg (show ¬ (false = true) by decide)] at H; exact H
                        clear H
                        have H := H1
                        clear H1
                        obtain ⟨ji52, hji52⟩ : ∃ j_ : Int, (wrap64 ((t679.size : Int) - 2)) = j_ := ⟨_, rfl⟩
                        replace H : (if 0 ≤ (ji52) then (if (ji52) ≤ (t679.size : Int) then (if (t679.extract 0 ((ji52) : Int).toNat).size + 2 ≤ 9223372036854775807 then ((ring_Count.f ((t679.extract 0 ((ji52) : Int).toNat) ++ (⟨#[63, 63]⟩ : ByteArray))).bind fun bt694 => ((ring_First.f ((t679.extract 0 ((ji52) : Int).toNat) ++ (⟨#[63, 63]⟩ : ByteArray))).bind fun bt696 => (if bt694.2 = 0 then (if bt694.1 = 10 then (if bt696.2.2 = 0 then (if bt696.2.1 = true then (if (Op.bytesLess t679.toList bt696.1.toList) = true then (some false) else (wigeontop_TopRings.j5 kj42 a2)) else (some false)) else (some false)) else (some false)) else (some false)))) else (none)) else (none)) else (none)) = some r := by first | (rw [hji52] at H; exact H) | (simp only [hji52] at H ⊢; exact H)
                        have hji52w : (IntKind.i64.wrap ((t679.size : Int) - 2)) = ji52 := (i64_w _).trans hji52
                        by_cases c53 : 0 ≤ (ji52)
                        ·rw [if_pos c53] at H
                         have c53b0 := eq_true c53
                         have c53b1 : decide (0 ≤ (ji52)) = true := decide_eq_true c53
                         clear c53
                         by_cases c54 : (ji52) ≤ (t679.size : Int)
                         ·rw [if_pos c54] at H
                          have c54b0 := eq_true c54
                          have c54b1 : decide ((ji52) ≤ (t679.size : Int)) = true := decide_eq_true c54
                          clear c54
                          by_cases c55 : (t679.extract 0 ((ji52) : Int).toNat).size + 2 ≤ 9223372036854775807
                          ·rw [if_pos c55] at H
                           have c55b0 := eq_true c55
                           have c55b1 : decide ((t679.extract 0 ((ji52) : Int).toNat).size + 2 ≤ 9223372036854775807) = true := decide_eq_true c55
                           try have c55b2 : (9223372036854775807 < (t679.extract 0 ((ji52) : Int).toNat).size + 2) = False := eq_false (Nat.not_lt.2 c55)
                           have c55n : (9223372036854775807 < (ji52).toNat + 2) = False := eq_false (Nat.not_lt.2 (by have h := c55; have h2 := of_decide_eq_true c54b1; rw [ByteArray.size_extract] at h; omega))
                           replace H := Option.bind_eq_some_iff.mp H
                           obtain ⟨⟨t694, t695⟩, A560, H⟩ := H
                           replace H : ((ring_First.f ((t679.extract 0 ((ji52) : Int).toNat) ++ (⟨#[63, 63]⟩ : ByteArray))).bind fun bt696 => (if t695 = 0 then (if t694 = 10 then (if bt696.2.2 = 0 then (if bt696.2.1 = true then (if (Op.bytesLess t679.toList bt696.1.toList) = true then (some false) else (wigeontop_TopRings.j5 kj42 a2)) else (some false)) else (some false)) else (some false)) else (some false))) = some r := H
                           have A56 := Aside0.mk A560
                           clear A560
                           replace H := Option.bind_eq_some_iff.mp H
                           obtain ⟨⟨t696, t697, t698⟩, A570, H⟩ := H
                           replace H : (if t695 = 0 then (if t694 = 10 then (if t698 = 0 then (if t697 = true then (if (Op.bytesLess t679.toList t696.toList) = true then (some false) else (wigeontop_TopRings.j5 kj42 a2)) else (some false)) else (some false)) else (some false)) else (some false)) = some r := H
                           have A57 := Aside0.mk A570
                           clear A570
                           by_cases c58 : t695 = 0
                           ·rw [if_pos c58] at H
                            have c58b0 : (t695 == 0) = true := beq_iff_eq.mpr c58
                            have c58b1 : (t695 != 0) = false := bne_eq_false_iff_eq.mpr c58
                            clear c58
                            by_cases c59 : t694 = 10
                            ·rw [if_pos c59] at H
                             have c59b0 : (t694 == 10) = true := beq_iff_eq.mpr c59
                             have c59b1 : (t694 != 10) = false := bne_eq_false_iff_eq.mpr c59
                             clear c59
                             by_cases c60 : t698 = 0
                             ·rw [if_pos c60] at H
                              have c60b0 : (t698 == 0) = true := beq_iff_eq.mpr c60
                              have c60b1 : (t698 != 0) = false := bne_eq_false_iff_eq.mpr c60
                              clear c60
                              by_cases c61 : t697 = true
                              ·subst c61
                               have H1 : (if (Op.bytesLess t679.toList t696.toList) = true then (some false) else (wigeontop_TopRings.j5 kj42 a2)) = some r := by rw [if_pos rfl] at H; exact H
                               clear H
                               have H := H1
                               clear H1
                               by_cases c62 : (Op.bytesLess t679.toList t696.toList) = true
                               ·rw [if_pos c62] at H
                                have c62b0 : (Op.bytesLess t679.toList t696.toList) = true := c62
                                clear c62
                                obtain rfl := Option.some.inj H
                                exact absurd HRT.out (by decide)
                               ·rw [if_neg c62] at H
                                have c62b0 : (Op.bytesLess t679.toList t696.toList) = false := by simpa using c62
                                clear c62
                                have H' := Aside0.mk H
                                clear H
                                go_wp2_with (first | ((with_reducible refine gate_callee (f := 40) rfl ?_); refine goesL_ (some 152) rfl rfl Try.func40 (by kernel_rfl) rfl #[.string ((t679.extract 0 ((ji52) : Int).toNat) ++ (⟨#[63, 63]⟩ : ByteArray))] rfl (by (try simp only [List.map_toArray, List.map_cons, List.map_nil]); first | done | (simp only [hji52]; rfl) | rfl | (simp only [List.length_drop, List.length_take]; rfl)) ?_; (with_reducible refine (ring_Count.calls ((t679.extract 0 ((ji52) : Int).toNat) ++ (⟨#[63, 63]⟩ : ByteArray)) t694 t695 _ A56.out).mono ?_); rintro e w65 ⟨rfl, hb⟩; refine ⟨_, rfl, ?_⟩; have n0_ := Aside0.mk (below_step (by repeat (first | (with_reducible first | exact HB.out | apply below_alloc | apply pw_below_drewN | apply below_drew1) | exact HB.out)) hb); clear HB; have HB := n0_; clear n0_; (try clear hb); (try clear hb2); (try clear hk); (try clear hi)) | ((with_reducible refine gate_callee (f := 41) rfl ?_); refine goesL_ (some 157) rfl rfl Try.func41 (by kernel_rfl) rfl #[.string ((t679.extract 0 ((ji52) : Int).toNat) ++ (⟨#[63, 63]⟩ : ByteArray))] rfl (by (try simp only [List.map_toArray, List.map_cons, List.map_nil]); first | done | (simp only [hji52]; rfl) | rfl | (simp only [List.length_drop, List.length_take]; rfl)) ?_; (with_reducible refine (ring_First.calls ((t679.extract 0 ((ji52) : Int).toNat) ++ (⟨#[63, 63]⟩ : ByteArray)) t696 true t698 _ A57.out).mono ?_); rintro e w66 ⟨rfl, hb⟩; refine ⟨_, rfl, ?_⟩; have n0_ := Aside0.mk (below_step (by repeat (first | (with_reducible first | exact HB.out | apply below_alloc | apply pw_below_drewN | apply below_drew1) | exact HB.out)) hb); clear HB; have HB := n0_; clear n0_; (try clear hb); (try clear hb2); (try clear hk); (try clear hi)))
                                go_meet
                                case rel => exact ⟨_, H', ⟨by have := HJ4.out; have := HJ10.out; have := HJ17.out; have := HJ25.out; have := HJ42.out; first | omega | exact Nat.le_refl _⟩, ⟨by repeat (first | (with_reducible first | exact HB.out | apply below_alloc | apply pw_below_drewN | apply below_drew1) | exact HB.out)⟩⟩
                              ·replace c61 := Bool.eq_false_iff.mpr c61
                               subst c61
                               have H1 : (some false) = some r := by rw [if_neg (show ¬ (false = true) by decide)] at H; exact H
                               clear H
                               have H := H1
                               clear H1
                               obtain rfl := Option.some.inj H
                               exact absurd HRT.out (by decide)
                             ·rw [if_neg c60] at H
                              have c60b0 : (t698 == 0) = false := beq_eq_false_iff_ne.mpr c60
                              have c60b1 : (t698 != 0) = true := bne_iff_ne.mpr c60
                              obtain rfl := Option.some.inj H
                              exact absurd HRT.out (by decide)
                            ·rw [if_neg c59] at H
                             have c59b0 : (t694 == 10) = false := beq_eq_false_iff_ne.mpr c59
                             have c59b1 : (t694 != 10) = true := bne_iff_ne.mpr c59
                             obtain rfl := Option.some.inj H
                             exact absurd HRT.out (by decide)
                           ·rw [if_neg c58] at H
                            have c58b0 : (t695 == 0) = false := beq_eq_false_iff_ne.mpr c58
                            have c58b1 : (t695 != 0) = true := bne_iff_ne.mpr c58
                            obtain rfl := Option.some.inj H
                            exact absurd HRT.out (by decide)
                          ·rw [if_neg c55] at H
                           exact absurd H (by simp)
                         ·rw [if_neg c54] at H
                          exact absurd H (by simp)
                        ·rw [if_neg c53] at H
                         exact absurd H (by simp)
           ·rw [if_neg c17] at H
            have c17b0 : (t680 == 0) = false := beq_eq_false_iff_ne.mpr c17
            have c17b1 : (t680 != 0) = true := bne_iff_ne.mpr c17
            (first | rw [c17b0] | (simp only [i64_w, i32_w]; rw [c17b0]) | skip)
            have H' := Aside0.mk H
            clear H
            go_wp2
            go_meet
            case rel => exact ⟨_, H', ⟨by have := HJ4.out; have := HJ10.out; first | omega | exact Nat.le_refl _⟩, ⟨by repeat (first | (with_reducible first | exact HB.out | apply below_alloc | apply pw_below_drewN | apply below_drew1) | exact HB.out)⟩⟩
         case rest =>
          as_aux_lemma =>
           clear HC15
           try clear c1
           try clear c2
           try clear p2
           try clear c3
           try clear c4
           try clear c5
           try clear c6
           try clear p6
           try clear c9
           try clear c9b0
           try clear c9b1
           try clear c10
           try clear c12
           try clear c12b0
           try clear c12b1
           try clear c13
           try clear c15
           try clear c17
           try clear c17b0
           try clear c17b1
           try clear c19
           try clear c19b0
           try clear c19b1
           try clear c21
           try clear c22
           try clear c28
           try clear c30
           try clear c30b0
           try clear c30b1
           try clear c31
           try clear c31b0
           try clear c31b1
           try clear c31b2
           try clear c32
           try clear c32b0
           try clear c32b1
           try clear c33
           try clear c34
           try clear c34b0
           try clear c34b1
           try clear c38
           try clear c40
           try clear c41
           try clear c46
           try clear c46b0
           try clear c46b1
           try clear c47
           try clear c47b0
           try clear c47b1
           try clear c48
           try clear c48b0
           try clear c48b1
           try clear c49
           try clear c49b0
           try clear c49b1
           try clear c50
           try clear c50b0
           try clear c50b1
           try clear c51
           try clear c53
           try clear c53b0
           try clear c53b1
           try clear c54
           try clear c54b0
           try clear c54b1
           try clear c55
           try clear c55b0
           try clear c55b1
           try clear c55b2
           try clear c58
           try clear c58b0
           try clear c58b1
           try clear c59
           try clear c59b0
           try clear c59b1
           try clear c60
           try clear c60b0
           try clear c60b1
           try clear c61
           try clear c62
           try clear c62b0
           try clear p64
           try clear p2
           try clear p6
           obtain ⟨kq, HA, HJ14, HB⟩ := hcut
           cases kq with
           | zero => exact absurd HA.out (by simp [wigeontop_TopRings.j5])
           | succ kj14 =>
            have H := HA.out
            clear HA
            simp only [wigeontop_TopRings.j5] at H
            replace H := Option.bind_eq_some_iff.mp H
            obtain ⟨⟨t699, t700⟩, A750, H⟩ := H
            replace H : (if t700 = 0 then (wigeontop_TopRings.l0 kj14 a2 t699 0) else (some ((t699.length : Int) == 0))) = some r := H
            have A75 := Aside0.mk A750
            clear A750
            by_cases c76 : t700 = 0
            ·rw [if_pos c76] at H
             have c76b0 : (t700 == 0) = true := beq_iff_eq.mpr c76
             have c76b1 : (t700 != 0) = false := bne_eq_false_iff_eq.mpr c76
             clear c76
             have H' := Aside0.mk H
             clear H
             go_wp2_with (first | ((with_reducible refine gate_callee (f := 50) rfl ?_); refine goesL_ (some 182) rfl rfl Try.func50 (by kernel_rfl) rfl #[.string a2] rfl (by (try simp only [List.map_toArray, List.map_cons, List.map_nil]); first | done | rfl | (simp only [List.length_drop, List.length_take]; rfl)) ?_; (with_reducible refine (ring_Near.calls kj14 a2 t699 t700 _ A75.out).mono ?_); rintro e w77 ⟨v701, rfl, ho0, hb⟩; refine ⟨_, rfl, ?_⟩; have n0_ := Aside0.mk (Kd.R_lower ho0 (below_size (by repeat (first | (with_reducible first | exact HB.out | apply below_alloc | apply pw_below_drewN | apply below_drew1) | exact HB.out)))); have n1_ := Aside0.mk (below_step (by repeat (first | (with_reducible first | exact HB.out | apply below_alloc | apply pw_below_drewN | apply below_drew1) | exact HB.out)) hb); clear HB; have HO702 := n0_; have HB := n1_; clear n0_ n1_; (try clear hb); (try clear hb2); (try clear hk); (try clear hi); (try clear ho0)))
             go_loopg [24] kj14 (fun kq v24 w' => ∃ (x24_4 : Int), v24 = .int .i64 x24_4 ∧ Aside0 (wigeontop_TopRings.l0 kq a2 t699 x24_4 = some r) ∧ Aside0 (kq ≤ kj14) ∧ Aside0 (Kd.R Kd.string 9 w' w.heap.size (fun _ => True) v701 t699) ∧ Aside0 (Below w.heap.size w w'))
             case atStart => exact ⟨(0), (by first | rfl | (simp; done) | (simp [*]; done)), H', ⟨Nat.le_refl _⟩, ⟨by (with_reducible repeat (first | apply Kd.R_alloc | apply Kd.R_drewN | apply Kd.R_drew)); exact HO702.out⟩, ⟨by repeat (first | (with_reducible first | exact HB.out | apply below_alloc | apply pw_below_drewN | apply below_drew1) | exact HB.out)⟩⟩
             case round =>
              as_aux_lemma =>
               clear H'
               try clear c1
               try clear c2
               try clear p2
               try clear c3
               try clear c4
               try clear c5
               try clear c6
               try clear p6
               try clear c7
               try clear c9
               try clear c9b0
               try clear c9b1
               try clear c10
               try clear c12
               try clear c12b0
               try clear c12b1
               try clear c13
               try clear c15
               try clear c17
               try clear c17b0
               try clear c17b1
               try clear c19
               try clear c19b0
               try clear c19b1
               try clear c21
               try clear c22
               try clear c28
               try clear c30
               try clear c30b0
               try clear c30b1
               try clear c31
               try clear c31b0
               try clear c31b1
               try clear c31b2
               try clear c32
               try clear c32b0
               try clear c32b1
               try clear c33
               try clear c34
               try clear c34b0
               try clear c34b1
               try clear c38
               try clear c40
               try clear c41
               try clear c46
               try clear c46b0
               try clear c46b1
               try clear c47
               try clear c47b0
               try clear c47b1
               try clear c48
               try clear c48b0
               try clear c48b1
               try clear c49
               try clear c49b0
               try clear c49b1
               try clear c50
               try clear c50b0
               try clear c50b1
               try clear c51
               try clear c53
               try clear c53b0
               try clear c53b1
               try clear c54
               try clear c54b0
               try clear c54b1
               try clear c55
               try clear c55b0
               try clear c55b1
               try clear c55b2
               try clear c58
               try clear c58b0
               try clear c58b1
               try clear c59
               try clear c59b0
               try clear c59b1
               try clear c60
               try clear c60b0
               try clear c60b1
               try clear c61
               try clear c62
               try clear c62b0
               try clear p64
               try clear c76
               try clear c76b0
               try clear c76b1
               try clear p2
               try clear p6
               try clear p64
               obtain ⟨x24_4, rfl, HA, HK4, HO_23, HB⟩ := hrel
               cases gk with
               | zero => exact absurd HA.out (by simp [wigeontop_TopRings.l0])
               | succ k4 =>
                have H := HA.out
                clear HA
                simp only [wigeontop_TopRings.l0] at H
                by_cases c78 : x24_4 < (t699.length : Int)
                ·rw [if_pos c78] at H
                 have c78b0 : decide (x24_4 < (t699.length : Int)) = true := decide_eq_true c78
                 clear c78
                 by_cases c79 : 0 ≤ x24_4
                 ·rw [if_pos c79] at H
                  have c79b0 : decide (0 ≤ x24_4) = true := decide_eq_true c79
                  clear c79
                  replace H := Option.bind_eq_some_iff.mp H
                  obtain ⟨⟨t705, t706⟩, A800, H⟩ := H
                  replace H : ((ring_Valid.f k4 (rdOf ByteArray.empty t699 x24_4)).bind fun t710 => (if t710 = 0 then (if t706 = 0 then (if (t705.length : Int) = 0 then (if x24_4 > 0 then (if 0 ≤ (wrap64 (x24_4 - 1)) then (if (wrap64 (x24_4 - 1)) < (t699.length : Int) then (if ((Op.bytesLess ((rdOf ByteArray.empty t699 (wrap64 (x24_4 - 1))).toList) ((rdOf ByteArray.empty t699 x24_4).toList)) = true) then (wigeontop_TopRings.l0 k4 a2 t699 (wrap64 (x24_4 + 1))) else (some false)) else (none)) else (none)) else (wigeontop_TopRings.l0 k4 a2 t699 (wrap64 (x24_4 + 1)))) else (some false)) else (some false)) else (some false))) = some r := H
                  have A80 := Aside0.mk A800
                  clear A800
                  replace H := Option.bind_eq_some_iff.mp H
                  obtain ⟨t710, A810, H⟩ := H
                  replace H : (if t710 = 0 then (if t706 = 0 then (if (t705.length : Int) = 0 then (if x24_4 > 0 then (if 0 ≤ (wrap64 (x24_4 - 1)) then (if (wrap64 (x24_4 - 1)) < (t699.length : Int) then (if ((Op.bytesLess ((rdOf ByteArray.empty t699 (wrap64 (x24_4 - 1))).toList) ((rdOf ByteArray.empty t699 x24_4).toList)) = true) then (wigeontop_TopRings.l0 k4 a2 t699 (wrap64 (x24_4 + 1))) else (some false)) else (none)) else (none)) else (wigeontop_TopRings.l0 k4 a2 t699 (wrap64 (x24_4 + 1)))) else (some false)) else (some false)) else (some false)) = some r := H
                  have A81 := Aside0.mk A810
                  clear A810
                  by_cases c82 : t710 = 0
                  ·rw [if_pos c82] at H
                   have c82b0 : (t710 == 0) = true := beq_iff_eq.mpr c82
                   have c82b1 : (t710 != 0) = false := bne_eq_false_iff_eq.mpr c82
                   clear c82
                   by_cases c83 : t706 = 0
                   ·rw [if_pos c83] at H
                    have c83b0 : (t706 == 0) = true := beq_iff_eq.mpr c83
                    have c83b1 : (t706 != 0) = false := bne_eq_false_iff_eq.mpr c83
                    clear c83
                    by_cases c84 : (t705.length : Int) = 0
                    ·rw [if_pos c84] at H
                     have c84b0 : ((t705.length : Int) == 0) = true := beq_iff_eq.mpr c84
                     have c84b1 : ((t705.length : Int) != 0) = false := bne_eq_false_iff_eq.mpr c84
                     clear c84
                     by_cases c85 : x24_4 > 0
                     ·rw [if_pos c85] at H
                      have c85b0 : decide (0 < x24_4) = true := decide_eq_true c85
                      clear c85
                      obtain ⟨ji86, hji86⟩ : ∃ j_ : Int, (wrap64 (x24_4 - 1)) = j_ := ⟨_, rfl⟩
                      replace H : (if 0 ≤ (ji86) then (if (ji86) < (t699.length : Int) then (if ((Op.bytesLess ((rdOf ByteArray.empty t699 (ji86)).toList) ((rdOf ByteArray.empty t699 x24_4).toList)) = true) then (wigeontop_TopRings.l0 k4 a2 t699 (wrap64 (x24_4 + 1))) else (some false)) else (none)) else (none)) = some r := by first | (rw [hji86] at H; exact H) | (simp only [hji86] at H ⊢; exact H)
                      (try rw [hji86] at A80)
                      (try rw [hji86] at A81)
                      have hji86w : (IntKind.i64.wrap (x24_4 - 1)) = ji86 := (i64_w _).trans hji86
                      by_cases c87 : 0 ≤ (ji86)
                      ·rw [if_pos c87] at H
                       have c87b0 : decide (0 ≤ (ji86)) = true := decide_eq_true c87
                       clear c87
                       by_cases c88 : (ji86) < (t699.length : Int)
                       ·rw [if_pos c88] at H
                        have c88b0 : decide ((ji86) < (t699.length : Int)) = true := decide_eq_true c88
                        clear c88
                        by_cases c89 : ((Op.bytesLess ((rdOf ByteArray.empty t699 (ji86)).toList) ((rdOf ByteArray.empty t699 x24_4).toList)) = true)
                        ·rw [if_pos c89] at H
                         have c89b0 : (Op.bytesLess ((rdOf ByteArray.empty t699 (ji86)).toList) ((rdOf ByteArray.empty t699 x24_4).toList)) = true := c89
                         clear c89
                         have H' := Aside0.mk H
                         clear H
                         obtain ⟨Ao90, co90, eo90⟩ := Kd.R_slice HO_23.out
                         subst eo90
                         have p704 : 0 ≤ (x24_4 : Int) := of_decide_eq_true (by first | (with_reducible assumption) | assumption)
                         have q704 : x24_4 < (t699.length : Int) := of_decide_eq_true (by first | (with_reducible assumption) | assumption)
                         obtain ⟨ad704, e704, hx704_0⟩ := Kd.at_string (Kd.R_reads' HO_23.out).2.2 x24_4 p704 q704
                         cases e704
                         replace p704 := eq_true p704
                         replace q704 := eq_true q704
                         try go_wp2_with (first | ((with_reducible refine gate_callee (f := 50) rfl ?_); refine goesL_ (some 201) rfl rfl Try.func50 (by kernel_rfl) rfl #[.string (rdOf ByteArray.empty t699 x24_4)] rfl (by (try simp only [List.map_toArray, List.map_cons, List.map_nil]); first | done | rfl | (simp only [List.length_drop, List.length_take]; rfl)) ?_; (with_reducible refine (ring_Near.calls k4 (rdOf ByteArray.empty t699 x24_4) t705 t706 _ A80.out).mono ?_); rintro e w91 ⟨v707, rfl, ho0, hb⟩; refine ⟨_, rfl, ?_⟩; have n0_ := Aside0.mk (Kd.R_elder' (by (with_reducible repeat (first | apply Kd.R_alloc | apply Kd.R_drewN | apply Kd.R_drew)); exact HO_23.out) (Kd.R_base ho0) hb); have n1_ := Aside0.mk (Kd.R_lower (Kd.R_new' ho0 (Kd.R_lt (by (with_reducible repeat (first | apply Kd.R_alloc | apply Kd.R_drewN | apply Kd.R_drew)); exact HO_23.out))) (below_size (by repeat (first | (with_reducible first | exact HB.out | apply below_alloc | apply pw_below_drewN | apply below_drew1) | exact HB.out)))); have n2_ := Aside0.mk (below_step (by repeat (first | (with_reducible first | exact HB.out | apply below_alloc | apply pw_below_drewN | apply below_drew1) | exact HB.out)) hb); clear HO_23; clear HB; have HO_23 := n0_; have HO708 := n1_; have HB := n2_; clear n0_ n1_ n2_; (try clear hb); (try clear hb2); (try clear hk); (try clear hi); (try clear ho0)))
                         have n0_ := Aside0.mk (Kd.R_drew HO_23.out)
                         have n1_ := Aside0.mk (Kd.R_drew HO708.out)
                         have n2_ := Aside0.mk (below_drew1 HB.out)
                         clear HO_23
                         clear HO708
                         clear HB
                         have HO_23 := n0_
                         have HO708 := n1_
                         have HB := n2_
                         clear n0_ n1_ n2_
                         have p709 : 0 ≤ (x24_4 : Int) := of_decide_eq_true (by first | (with_reducible assumption) | assumption)
                         have q709 : x24_4 < (t699.length : Int) := of_decide_eq_true (by first | (with_reducible assumption) | assumption)
                         obtain ⟨ad709, e709, hx709_0⟩ := Kd.at_string (Kd.R_reads' HO_23.out).2.2 x24_4 p709 q709
                         obtain rfl : ad704 = ad709 := (by injection e709)
                         replace p709 := eq_true p709
                         replace q709 := eq_true q709
                         have p711 : 0 ≤ (x24_4 : Int) := of_decide_eq_true (by first | (with_reducible assumption) | assumption)
                         have q711 : x24_4 < (t699.length : Int) := of_decide_eq_true (by first | (with_reducible assumption) | assumption)
                         obtain ⟨ad711, e711, hx711_0⟩ := Kd.at_string (Kd.R_reads' HO_23.out).2.2 x24_4 p711 q711
                         obtain rfl : ad704 = ad711 := (by injection e711)
                         replace p711 := eq_true p711
                         replace q711 := eq_true q711
                         have p712 : 0 ≤ ((ji86) : Int) := of_decide_eq_true (by first | (with_reducible assumption) | assumption)
                         have q712 : (ji86) < (t699.length : Int) := of_decide_eq_true (by first | (with_reducible assumption) | assumption)
                         obtain ⟨ad712, e712, hx712_0⟩ := Kd.at_string (Kd.R_reads' HO_23.out).2.2 (ji86) p712 q712
                         obtain rfl : ad704 = ad712 := (by injection e712)
                         replace p712 := eq_true p712
                         replace q712 := eq_true q712
                         refine start_ (n := 31) (S := fun w' => w'.cell? (ad704.add (x24_4).toNat) = some (.string (rdOf ByteArray.empty t699 x24_4)) ∧ w'.cell? (ad704.add (x24_4).toNat) = some (.string (rdOf ByteArray.empty t699 x24_4)) ∧ w'.cell? (ad704.add ((ji86)).toNat) = some (.string (rdOf ByteArray.empty t699 (ji86)))) (ds := []) #[false, false, false, false, false, false, false, false, false, false, false, false, false, false, false, false, false, false, false, false, false, false, false, false, false, false, false, false, false, false, false] (by kernel_rfl) rfl rfl ⟨hx709_0, hx711_0, hx712_0⟩ (fun hHeld => ?_); refine with_tabW wigeontop_TopRings.tab31 wigeontop_TopRings.bits31 (fun HT_ HW_ => ?_)
                         generalize w91.drew = w92 at HO_23 HO708 HB hx709_0 hx711_0 hx712_0 hHeld ⊢
                         refine pure_ (i := 0) (N := some 204) (v := ?_) (a' := ?_) #[true, false, false, false, false, false, false, false, false, false, false, false, false, false, false, false, false, false, false, false, false, false, false, false, false, false, false, false, false, false, false] rfl rfl (any_of HT_.out (by kernel_rfl)) (fun _ _ _ h => h) (Or.inl ⟨by rfl, ?_⟩) ?_ ?_
                         rotate_left
                         ·intro w'
                          go_simp
                          with_reducible rfl
                         rotate_left
                         ·simp only [Act.put, List.setIfInBounds_toArray, List.set_cons_zero, List.set_cons_succ, i64_w, i32_w]
                          rfl
                         refine pure_ (i := 1) (N := some 205) (v := ?_) (a' := ?_) #[true, true, false, false, false, false, false, false, false, false, false, false, false, false, false, false, false, false, false, false, false, false, false, false, false, false, false, false, false, false, false] rfl rfl (any_of HT_.out (by kernel_rfl)) (fun _ _ _ h => h) (Or.inl ⟨by rfl, ?_⟩) ?_ ?_
                         rotate_left
                         ·intro w'
                          go_simp
                          with_reducible rfl
                         rotate_left
                         ·simp only [Act.put, List.setIfInBounds_toArray, List.set_cons_zero, List.set_cons_succ, i64_w, i32_w]
                          rfl
                         refine pure_ (i := 2) (N := some 206) (v := ?_) (a' := ?_) #[true, true, true, false, false, false, false, false, false, false, false, false, false, false, false, false, false, false, false, false, false, false, false, false, false, false, false, false, false, false, false] rfl rfl (any_of HT_.out (by kernel_rfl)) (fun _ _ _ h => h) (Or.inl ⟨by rfl, ?_⟩) ?_ ?_
                         rotate_left
                         ·intro w'
                          go_simp
                          with_reducible rfl
                         rotate_left
                         ·simp only [Act.put, List.setIfInBounds_toArray, List.set_cons_zero, List.set_cons_succ, i64_w, i32_w]
                          rfl
                         refine take_ (i := 3) (N := some 207) (v := ?_) (a' := ?_) #[true, true, true, true, false, false, false, false, false, false, false, false, false, false, false, false, false, false, false, false, false, false, false, false, false, false, false, false, false, false, false] rfl rfl (take_ofW HT_.out HW_.out (by kernel_rfl)) (fun _ _ _ h => h) (Or.inl ⟨by rfl, ?_⟩) hHeld ?_ ?_
                         rotate_left
                         ·rintro w' ⟨s0, s1, s2⟩
                          go_simp
                          with_reducible rfl
                         rotate_left
                         ·simp only [Act.put, List.setIfInBounds_toArray, List.set_cons_zero, List.set_cons_succ, i64_w, i32_w]
                          rfl
                         refine one_ (i := 4) (N := some 208) #[true, true, true, true, true, false, false, false, false, false, false, false, false, false, false, false, false, false, false, false, false, false, false, false, false, false, false, false, false, false, false] rfl rfl (one_of HT_.out (by kernel_rfl)) (by decide) (fun K hK => ?_)
                         refine goes_ Try.func36 (by kernel_rfl) rfl #[.string (rdOf ByteArray.empty t699 x24_4)] (by rfl) rfl rfl (by (try simp only [List.map_toArray, List.map_cons, List.map_nil]); first | done | rfl | (simp only [List.length_drop, List.length_take]; rfl)) ?_
                         with_reducible refine (ring_Valid.calls k4 (rdOf ByteArray.empty t699 x24_4) t710 _ A81.out).mono ?_
                         rintro e w93 ⟨rfl, hb⟩
                         have HS0_ := (hb.cell (World.block_lt_of_cell? _ _ (hHeld.1))).trans (hHeld.1)
                         have HS1_ := (hb.cell (World.block_lt_of_cell? _ _ (hHeld.2.1))).trans (hHeld.2.1)
                         have HS2_ := (hb.cell (World.block_lt_of_cell? _ _ (hHeld.2.2))).trans (hHeld.2.2)
                         refine ⟨_, rfl, ?_⟩
                         have n0_ := Aside0.mk (Kd.R_below (by (with_reducible repeat (first | apply Kd.R_alloc | apply Kd.R_drewN | apply Kd.R_drew)); exact HO_23.out) hb)
                         have n1_ := Aside0.mk (Kd.R_below (by (with_reducible repeat (first | apply Kd.R_alloc | apply Kd.R_drewN | apply Kd.R_drew)); exact HO708.out) hb)
                         have n2_ := Aside0.mk (below_step (by repeat (first | (with_reducible first | exact HB.out | apply below_alloc | apply pw_below_drewN | apply below_drew1) | exact HB.out)) hb)
                         clear HO_23
                         clear HO708
                         clear HB
                         have HO_23 := n0_
                         have HO708 := n1_
                         have HB := n2_
                         clear n0_ n1_ n2_
                         (try clear hb)
                         (try clear hb2)
                         (try clear hk)
                         (try clear hi)
                         obtain ⟨Ao94, co94, eo94⟩ := Kd.R_slice HO708.out
                         (first | subst eo94 | (injection eo94 with f1_ f2_ f3_; have f4_ := f1_.symm; have f5_ := f3_.symm; clear f1_ f2_ f3_; subst f4_; subst f5_))
                         refine hK.out _ _ ⟨HS0_, HS1_, HS2_⟩ (fun hHeld => ?_)
                         clear hK K
                         refine norm_ (a' := ?_) ?_ ?_
                         rotate_left
                         ·show Act.put _ (some 208) _ = _
                          simp only [Act.put, List.setIfInBounds_toArray, List.set_cons_zero, List.set_cons_succ, i64_w, i32_w]
                          rfl
                         refine pure_ (i := 5) (N := some 209) (v := ?_) (a' := ?_) #[true, true, true, true, true, true, false, false, false, false, false, false, false, false, false, false, false, false, false, false, false, false, false, false, false, false, false, false, false, false, false] rfl rfl (any_of HT_.out (by kernel_rfl)) (fun _ _ _ h => h) (Or.inl ⟨by rfl, ?_⟩) ?_ ?_
                         rotate_left
                         ·intro w'
                          go_simp
                          with_reducible rfl
                         rotate_left
                         ·simp only [Act.put, List.setIfInBounds_toArray, List.set_cons_zero, List.set_cons_succ, i64_w, i32_w]
                          rfl
                         refine pure_ (i := 6) (N := some 210) (v := ?_) (a' := ?_) #[true, true, true, true, true, true, true, false, false, false, false, false, false, false, false, false, false, false, false, false, false, false, false, false, false, false, false, false, false, false, false] rfl rfl (any_of HT_.out (by kernel_rfl)) (fun _ _ _ h => h) (Or.inl ⟨by rfl, ?_⟩) ?_ ?_
                         rotate_left
                         ·intro w'
                          go_simp
                          with_reducible rfl
                         rotate_left
                         ·simp only [Act.put, List.setIfInBounds_toArray, List.set_cons_zero, List.set_cons_succ, i64_w, i32_w]
                          rfl
                         refine pure_ (i := 7) (N := some 211) (v := ?_) (a' := ?_) #[true, true, true, true, true, true, true, true, false, false, false, false, false, false, false, false, false, false, false, false, false, false, false, false, false, false, false, false, false, false, false] rfl rfl (any_of HT_.out (by kernel_rfl)) (fun _ _ _ h => h) (Or.inl ⟨by rfl, ?_⟩) ?_ ?_
                         rotate_left
                         ·intro w'
                          go_simp
                          with_reducible rfl
                         rotate_left
                         ·simp only [Act.put, List.setIfInBounds_toArray, List.set_cons_zero, List.set_cons_succ, i64_w, i32_w]
                          rfl
                         refine pure_ (i := 8) (N := some 212) (v := ?_) (a' := ?_) #[true, true, true, true, true, true, true, true, true, false, false, false, false, false, false, false, false, false, false, false, false, false, false, false, false, false, false, false, false, false, false] rfl rfl (any_of HT_.out (by kernel_rfl)) (fun _ _ _ h => h) (Or.inl ⟨by rfl, ?_⟩) ?_ ?_
                         rotate_left
                         ·intro w'
                          go_simp
                          with_reducible rfl
                         rotate_left
                         ·simp only [Act.put, List.setIfInBounds_toArray, List.set_cons_zero, List.set_cons_succ, i64_w, i32_w]
                          rfl
                         refine pure_ (i := 9) (N := some 213) (v := ?_) (a' := ?_) #[true, true, true, true, true, true, true, true, true, true, false, false, false, false, false, false, false, false, false, false, false, false, false, false, false, false, false, false, false, false, false] rfl rfl (any_of HT_.out (by kernel_rfl)) (fun _ _ _ h => h) (Or.inl ⟨by rfl, ?_⟩) ?_ ?_
                         rotate_left
                         ·intro w'
                          go_simp
                          with_reducible rfl
                         rotate_left
                         ·simp only [Act.put, List.setIfInBounds_toArray, List.set_cons_zero, List.set_cons_succ, i64_w, i32_w]
                          rfl
                         refine pure_ (i := 10) (N := some 214) (v := ?_) (a' := ?_) #[true, true, true, true, true, true, true, true, true, true, true, false, false, false, false, false, false, false, false, false, false, false, false, false, false, false, false, false, false, false, false] rfl rfl (any_of HT_.out (by kernel_rfl)) (fun _ _ _ h => h) (Or.inl ⟨by rfl, ?_⟩) ?_ ?_
                         rotate_left
                         ·intro w'
                          go_simp
                          with_reducible rfl
                         rotate_left
                         ·simp only [Act.put, List.setIfInBounds_toArray, List.set_cons_zero, List.set_cons_succ, i64_w, i32_w]
                          rfl
                         refine pure_ (i := 11) (N := some 215) (v := ?_) (a' := ?_) #[true, true, true, true, true, true, true, true, true, true, true, true, false, false, false, false, false, false, false, false, false, false, false, false, false, false, false, false, false, false, false] rfl rfl (any_of HT_.out (by kernel_rfl)) (fun _ _ _ h => h) (Or.inl ⟨by rfl, ?_⟩) ?_ ?_
                         rotate_left
                         ·intro w'
                          go_simp
                          with_reducible rfl
                         rotate_left
                         ·simp only [Act.put, List.setIfInBounds_toArray, List.set_cons_zero, List.set_cons_succ, i64_w, i32_w]
                          rfl
                         refine pure_ (i := 12) (N := some 216) (v := ?_) (a' := ?_) #[true, true, true, true, true, true, true, true, true, true, true, true, true, false, false, false, false, false, false, false, false, false, false, false, false, false, false, false, false, false, false] rfl rfl (any_of HT_.out (by kernel_rfl)) (fun _ _ _ h => h) (Or.inl ⟨by rfl, ?_⟩) ?_ ?_
                         rotate_left
                         ·intro w'
                          go_simp
                          with_reducible rfl
                         rotate_left
                         ·simp only [Act.put, List.setIfInBounds_toArray, List.set_cons_zero, List.set_cons_succ, i64_w, i32_w]
                          rfl
                         refine pure_ (i := 13) (N := some 217) (v := ?_) (a' := ?_) #[true, true, true, true, true, true, true, true, true, true, true, true, true, true, false, false, false, false, false, false, false, false, false, false, false, false, false, false, false, false, false] rfl rfl (any_of HT_.out (by kernel_rfl)) (fun _ _ _ h => h) (Or.inl ⟨by rfl, ?_⟩) ?_ ?_
                         rotate_left
                         ·intro w'
                          go_simp
                          with_reducible rfl
                         rotate_left
                         ·simp only [Act.put, List.setIfInBounds_toArray, List.set_cons_zero, List.set_cons_succ, i64_w, i32_w]
                          rfl
                         refine pure_ (i := 14) (N := some 218) (v := ?_) (a' := ?_) #[true, true, true, true, true, true, true, true, true, true, true, true, true, true, true, false, false, false, false, false, false, false, false, false, false, false, false, false, false, false, false] rfl rfl (any_of HT_.out (by kernel_rfl)) (fun _ _ _ h => h) (Or.inl ⟨by rfl, ?_⟩) ?_ ?_
                         rotate_left
                         ·intro w'
                          go_simp
                          with_reducible rfl
                         rotate_left
                         ·simp only [Act.put, List.setIfInBounds_toArray, List.set_cons_zero, List.set_cons_succ, i64_w, i32_w]
                          rfl
                         refine pure_ (i := 15) (N := some 219) (v := ?_) (a' := ?_) #[true, true, true, true, true, true, true, true, true, true, true, true, true, true, true, true, false, false, false, false, false, false, false, false, false, false, false, false, false, false, false] rfl rfl (any_of HT_.out (by kernel_rfl)) (fun _ _ _ h => h) (Or.inl ⟨by rfl, ?_⟩) ?_ ?_
                         rotate_left
                         ·intro w'
                          go_simp
                          with_reducible rfl
                         rotate_left
                         ·simp only [Act.put, List.setIfInBounds_toArray, List.set_cons_zero, List.set_cons_succ, i64_w, i32_w]
                          rfl
                         refine pure_ (i := 16) (N := some 220) (v := ?_) (a' := ?_) #[true, true, true, true, true, true, true, true, true, true, true, true, true, true, true, true, true, false, false, false, false, false, false, false, false, false, false, false, false, false, false] rfl rfl (any_of HT_.out (by kernel_rfl)) (fun _ _ _ h => h) (Or.inl ⟨by rfl, ?_⟩) ?_ ?_
                         rotate_left
                         ·intro w'
                          go_simp
                          with_reducible rfl
                         rotate_left
                         ·simp only [Act.put, List.setIfInBounds_toArray, List.set_cons_zero, List.set_cons_succ, i64_w, i32_w]
                          rfl
                         refine pure_ (i := 17) (N := some 221) (v := ?_) (a' := ?_) #[true, true, true, true, true, true, true, true, true, true, true, true, true, true, true, true, true, true, false, false, false, false, false, false, false, false, false, false, false, false, false] rfl rfl (any_of HT_.out (by kernel_rfl)) (fun _ _ _ h => h) (Or.inl ⟨by rfl, ?_⟩) ?_ ?_
                         rotate_left
                         ·intro w'
                          go_simp
                          with_reducible rfl
                         rotate_left
                         ·simp only [Act.put, List.setIfInBounds_toArray, List.set_cons_zero, List.set_cons_succ, i64_w, i32_w]
                          rfl
                         refine pure_ (i := 18) (N := some 222) (v := ?_) (a' := ?_) #[true, true, true, true, true, true, true, true, true, true, true, true, true, true, true, true, true, true, true, false, false, false, false, false, false, false, false, false, false, false, false] rfl rfl (any_of HT_.out (by kernel_rfl)) (fun _ _ _ h => h) (Or.inl ⟨by rfl, ?_⟩) ?_ ?_
                         rotate_left
                         ·intro w'
                          go_simp
                          with_reducible rfl
                         rotate_left
                         ·simp only [Act.put, List.setIfInBounds_toArray, List.set_cons_zero, List.set_cons_succ, i64_w, i32_w]
                          rfl
                         refine pure_ (i := 19) (N := some 223) (v := ?_) (a' := ?_) #[true, true, true, true, true, true, true, true, true, true, true, true, true, true, true, true, true, true, true, true, false, false, false, false, false, false, false, false, false, false, false] rfl rfl (any_of HT_.out (by kernel_rfl)) (fun _ _ _ h => h) (Or.inl ⟨by rfl, ?_⟩) ?_ ?_
                         rotate_left
                         ·intro w'
                          go_simp
                          with_reducible rfl
                         rotate_left
                         ·simp only [Act.put, List.setIfInBounds_toArray, List.set_cons_zero, List.set_cons_succ, i64_w, i32_w]
                          rfl
                         refine pure_ (i := 20) (N := some 224) (v := ?_) (a' := ?_) #[true, true, true, true, true, true, true, true, true, true, true, true, true, true, true, true, true, true, true, true, true, false, false, false, false, false, false, false, false, false, false] rfl rfl (any_of HT_.out (by kernel_rfl)) (fun _ _ _ h => h) (Or.inl ⟨by rfl, ?_⟩) ?_ ?_
                         rotate_left
                         ·intro w'
                          go_simp
                          with_reducible rfl
                         rotate_left
                         ·simp only [Act.put, List.setIfInBounds_toArray, List.set_cons_zero, List.set_cons_succ, i64_w, i32_w]
                          rfl
                         refine pure_ (i := 21) (N := some 225) (v := ?_) (a' := ?_) #[true, true, true, true, true, true, true, true, true, true, true, true, true, true, true, true, true, true, true, true, true, true, false, false, false, false, false, false, false, false, false] rfl rfl (any_of HT_.out (by kernel_rfl)) (fun _ _ _ h => h) (Or.inl ⟨by rfl, ?_⟩) ?_ ?_
                         rotate_left
                         ·intro w'
                          go_simp
                          with_reducible rfl
                         rotate_left
                         ·simp only [Act.put, List.setIfInBounds_toArray, List.set_cons_zero, List.set_cons_succ, i64_w, i32_w]
                          rfl
                         refine pure_ (i := 23) (N := some 227) (v := ?_) (a' := ?_) #[true, true, true, true, true, true, true, true, true, true, true, true, true, true, true, true, true, true, true, true, true, true, false, true, false, false, false, false, false, false, false] rfl rfl (any_of HT_.out (by kernel_rfl)) (fun _ _ _ h => h) (Or.inl ⟨by rfl, ?_⟩) ?_ ?_
                         rotate_left
                         ·intro w'
                          go_simp
                          with_reducible rfl
                         rotate_left
                         ·simp only [Act.put, List.setIfInBounds_toArray, List.set_cons_zero, List.set_cons_succ, i64_w, i32_w]
                          rfl
                         refine pure_ (i := 24) (N := some 228) (v := ?_) (a' := ?_) #[true, true, true, true, true, true, true, true, true, true, true, true, true, true, true, true, true, true, true, true, true, true, false, true, true, false, false, false, false, false, false] rfl rfl (any_of HT_.out (by kernel_rfl)) (fun _ _ _ h => h) (Or.inl ⟨by rfl, ?_⟩) ?_ ?_
                         rotate_left
                         ·intro w'
                          go_simp
                          with_reducible rfl
                         rotate_left
                         ·simp only [Act.put, List.setIfInBounds_toArray, List.set_cons_zero, List.set_cons_succ, i64_w, i32_w]
                          rfl
                         refine pure_ (i := 25) (N := some 229) (v := ?_) (a' := ?_) #[true, true, true, true, true, true, true, true, true, true, true, true, true, true, true, true, true, true, true, true, true, true, false, true, true, true, false, false, false, false, false] rfl rfl (any_of HT_.out (by kernel_rfl)) (fun _ _ _ h => h) (Or.inl ⟨by rfl, ?_⟩) ?_ ?_
                         rotate_left
                         ·intro w'
                          go_simp
                          with_reducible rfl
                         rotate_left
                         ·simp only [Act.put, List.setIfInBounds_toArray, List.set_cons_zero, List.set_cons_succ, i64_w, i32_w]
                          rfl
                         refine pure_ (i := 26) (N := some 230) (v := ?_) (a' := ?_) #[true, true, true, true, true, true, true, true, true, true, true, true, true, true, true, true, true, true, true, true, true, true, false, true, true, true, true, false, false, false, false] rfl rfl (any_of HT_.out (by kernel_rfl)) (fun _ _ _ h => h) (Or.inl ⟨by rfl, ?_⟩) ?_ ?_
                         rotate_left
                         ·intro w'
                          go_simp
                          with_reducible rfl
                         rotate_left
                         ·simp only [Act.put, List.setIfInBounds_toArray, List.set_cons_zero, List.set_cons_succ, i64_w, i32_w]
                          rfl
                         refine take_ (i := 22) (N := some 226) (v := ?_) (a' := ?_) #[true, true, true, true, true, true, true, true, true, true, true, true, true, true, true, true, true, true, true, true, true, true, true, true, true, true, true, false, false, false, false] rfl rfl (take_ofW HT_.out HW_.out (by kernel_rfl)) (fun _ _ _ h => h) (Or.inl ⟨by rfl, ?_⟩) hHeld ?_ ?_
                         rotate_left
                         ·rintro w' ⟨s0, s1, s2⟩
                          go_simp
                          with_reducible rfl
                         rotate_left
                         ·simp only [Act.put, List.setIfInBounds_toArray, List.set_cons_zero, List.set_cons_succ, i64_w, i32_w]
                          rfl
                         refine take_ (i := 27) (N := some 231) (v := ?_) (a' := ?_) #[true, true, true, true, true, true, true, true, true, true, true, true, true, true, true, true, true, true, true, true, true, true, true, true, true, true, true, true, false, false, false] rfl rfl (take_ofW HT_.out HW_.out (by kernel_rfl)) (fun _ _ _ h => h) (Or.inl ⟨by rfl, ?_⟩) hHeld ?_ ?_
                         rotate_left
                         ·rintro w' ⟨s0, s1, s2⟩
                          go_simp
                          with_reducible rfl
                         rotate_left
                         ·simp only [Act.put, List.setIfInBounds_toArray, List.set_cons_zero, List.set_cons_succ, i64_w, i32_w]
                          rfl
                         refine pure_ (i := 28) (N := some 232) (v := ?_) (a' := ?_) #[true, true, true, true, true, true, true, true, true, true, true, true, true, true, true, true, true, true, true, true, true, true, true, true, true, true, true, true, true, false, false] rfl rfl (any_of HT_.out (by kernel_rfl)) (fun _ _ _ h => h) (Or.inl ⟨by rfl, ?_⟩) ?_ ?_
                         rotate_left
                         ·intro w'
                          go_simp
                          with_reducible rfl
                         rotate_left
                         ·simp only [Act.put, List.setIfInBounds_toArray, List.set_cons_zero, List.set_cons_succ, i64_w, i32_w]
                          rfl
                         refine pure_ (i := 29) (N := some 233) (v := ?_) (a' := ?_) #[true, true, true, true, true, true, true, true, true, true, true, true, true, true, true, true, true, true, true, true, true, true, true, true, true, true, true, true, true, true, false] rfl rfl (any_of HT_.out (by kernel_rfl)) (fun _ _ _ h => h) (Or.inl ⟨by rfl, ?_⟩) ?_ ?_
                         rotate_left
                         ·intro w'
                          go_simp
                          with_reducible rfl
                         rotate_left
                         ·simp only [Act.put, List.setIfInBounds_toArray, List.set_cons_zero, List.set_cons_succ, i64_w, i32_w]
                          rfl
                         refine pure_ (i := 30) (N := some 234) (v := ?_) (a' := ?_) #[true, true, true, true, true, true, true, true, true, true, true, true, true, true, true, true, true, true, true, true, true, true, true, true, true, true, true, true, true, true, true] rfl rfl (any_of HT_.out (by kernel_rfl)) (fun _ _ _ h => h) (Or.inl ⟨by rfl, ?_⟩) ?_ ?_
                         rotate_left
                         ·intro w'
                          go_simp
                          with_reducible rfl
                         rotate_left
                         ·simp only [Act.put, List.setIfInBounds_toArray, List.set_cons_zero, List.set_cons_succ, i64_w, i32_w]
                          rfl
                         refine done_ (done_of HT_.out (by kernel_rfl)) ?_
                         try go_wp2
                         go_roundg k4
                         case measure => have := HJ4.out; have := HJ10.out; have := HJ14.out; have := HK4.out; omega
                         case rel => exact ⟨(wrap64 (x24_4 + 1)), (by first | rfl | (simp; done) | (simp [*]; done)), H', ⟨by have := HJ4.out; have := HJ10.out; have := HJ14.out; have := HK4.out; omega⟩, ⟨by (with_reducible repeat (first | apply Kd.R_alloc | apply Kd.R_drewN | apply Kd.R_drew)); exact Kd.R_mono HO_23.out (fun _ hk => trivial)⟩, ⟨by repeat (first | (with_reducible first | exact HB.out | apply below_alloc | apply pw_below_drewN | apply below_drew1) | exact HB.out)⟩⟩
                        ·rw [if_neg c89] at H
                         have c89b0 : (Op.bytesLess ((rdOf ByteArray.empty t699 (ji86)).toList) ((rdOf ByteArray.empty t699 x24_4).toList)) = false := by simpa using c89
                         clear c89
                         obtain rfl := Option.some.inj H
                         exact absurd HRT.out (by decide)
                       ·rw [if_neg c88] at H
                        exact absurd H (by simp)
                      ·rw [if_neg c87] at H
                       exact absurd H (by simp)
                     ·rw [if_neg c85] at H
                      have c85b0 : decide (0 < x24_4) = false := decide_eq_false c85
                      clear c85
                      have H' := Aside0.mk H
                      clear H
                      obtain ⟨Ao100, co100, eo100⟩ := Kd.R_slice HO_23.out
                      subst eo100
                      have p704 : 0 ≤ (x24_4 : Int) := of_decide_eq_true (by first | (with_reducible assumption) | assumption)
                      have q704 : x24_4 < (t699.length : Int) := of_decide_eq_true (by first | (with_reducible assumption) | assumption)
                      obtain ⟨ad704, e704, hx704_0⟩ := Kd.at_string (Kd.R_reads' HO_23.out).2.2 x24_4 p704 q704
                      cases e704
                      replace p704 := eq_true p704
                      replace q704 := eq_true q704
                      try go_wp2_with (first | ((with_reducible refine gate_callee (f := 50) rfl ?_); refine goesL_ (some 201) rfl rfl Try.func50 (by kernel_rfl) rfl #[.string (rdOf ByteArray.empty t699 x24_4)] rfl (by (try simp only [List.map_toArray, List.map_cons, List.map_nil]); first | done | rfl | (simp only [List.length_drop, List.length_take]; rfl)) ?_; (with_reducible refine (ring_Near.calls k4 (rdOf ByteArray.empty t699 x24_4) t705 t706 _ A80.out).mono ?_); rintro e w101 ⟨v707, rfl, ho0, hb⟩; refine ⟨_, rfl, ?_⟩; have n0_ := Aside0.mk (Kd.R_elder' (by (with_reducible repeat (first | apply Kd.R_alloc | apply Kd.R_drewN | apply Kd.R_drew)); exact HO_23.out) (Kd.R_base ho0) hb); have n1_ := Aside0.mk (Kd.R_lower (Kd.R_new' ho0 (Kd.R_lt (by (with_reducible repeat (first | apply Kd.R_alloc | apply Kd.R_drewN | apply Kd.R_drew)); exact HO_23.out))) (below_size (by repeat (first | (with_reducible first | exact HB.out | apply below_alloc | apply pw_below_drewN | apply below_drew1) | exact HB.out)))); have n2_ := Aside0.mk (below_step (by repeat (first | (with_reducible first | exact HB.out | apply below_alloc | apply pw_below_drewN | apply below_drew1) | exact HB.out)) hb); clear HO_23; clear HB; have HO_23 := n0_; have HO708 := n1_; have HB := n2_; clear n0_ n1_ n2_; (try clear hb); (try clear hb2); (try clear hk); (try clear hi); (try clear ho0)))
                      have n0_ := Aside0.mk (Kd.R_drew HO_23.out)
                      have n1_ := Aside0.mk (Kd.R_drew HO708.out)
                      have n2_ := Aside0.mk (below_drew1 HB.out)
                      clear HO_23
                      clear HO708
                      clear HB
                      have HO_23 := n0_
                      have HO708 := n1_
                      have HB := n2_
                      clear n0_ n1_ n2_
                      have p709 : 0 ≤ (x24_4 : Int) := of_decide_eq_true (by first | (with_reducible assumption) | assumption)
                      have q709 : x24_4 < (t699.length : Int) := of_decide_eq_true (by first | (with_reducible assumption) | assumption)
                      obtain ⟨ad709, e709, hx709_0⟩ := Kd.at_string (Kd.R_reads' HO_23.out).2.2 x24_4 p709 q709
                      obtain rfl : ad704 = ad709 := (by injection e709)
                      replace p709 := eq_true p709
                      replace q709 := eq_true q709
                      refine start_ (n := 31) (S := fun w' => w'.cell? (ad704.add (x24_4).toNat) = some (.string (rdOf ByteArray.empty t699 x24_4))) (ds := []) #[false, false, false, false, false, false, false, false, false, false, false, false, false, false, false, false, false, false, false, false, false, false, false, false, false, false, false, false, false, false, false] (by kernel_rfl) rfl rfl (hx709_0) (fun hHeld => ?_); refine with_tabW wigeontop_TopRings.tab31 wigeontop_TopRings.bits31 (fun HT_ HW_ => ?_)
                      generalize w101.drew = w102 at HO_23 HO708 HB hx709_0 hHeld ⊢
                      refine pure_ (i := 0) (N := some 204) (v := ?_) (a' := ?_) #[true, false, false, false, false, false, false, false, false, false, false, false, false, false, false, false, false, false, false, false, false, false, false, false, false, false, false, false, false, false, false] rfl rfl (any_of HT_.out (by kernel_rfl)) (fun _ _ _ h => h) (Or.inl ⟨by rfl, ?_⟩) ?_ ?_
                      rotate_left
                      ·intro w'
                       go_simp
                       with_reducible rfl
                      rotate_left
                      ·simp only [Act.put, List.setIfInBounds_toArray, List.set_cons_zero, List.set_cons_succ, i64_w, i32_w]
                       rfl
                      refine pure_ (i := 1) (N := some 205) (v := ?_) (a' := ?_) #[true, true, false, false, false, false, false, false, false, false, false, false, false, false, false, false, false, false, false, false, false, false, false, false, false, false, false, false, false, false, false] rfl rfl (any_of HT_.out (by kernel_rfl)) (fun _ _ _ h => h) (Or.inl ⟨by rfl, ?_⟩) ?_ ?_
                      rotate_left
                      ·intro w'
                       go_simp
                       with_reducible rfl
                      rotate_left
                      ·simp only [Act.put, List.setIfInBounds_toArray, List.set_cons_zero, List.set_cons_succ, i64_w, i32_w]
                       rfl
                      refine pure_ (i := 2) (N := some 206) (v := ?_) (a' := ?_) #[true, true, true, false, false, false, false, false, false, false, false, false, false, false, false, false, false, false, false, false, false, false, false, false, false, false, false, false, false, false, false] rfl rfl (any_of HT_.out (by kernel_rfl)) (fun _ _ _ h => h) (Or.inl ⟨by rfl, ?_⟩) ?_ ?_
                      rotate_left
                      ·intro w'
                       go_simp
                       with_reducible rfl
                      rotate_left
                      ·simp only [Act.put, List.setIfInBounds_toArray, List.set_cons_zero, List.set_cons_succ, i64_w, i32_w]
                       rfl
                      refine take_ (i := 3) (N := some 207) (v := ?_) (a' := ?_) #[true, true, true, true, false, false, false, false, false, false, false, false, false, false, false, false, false, false, false, false, false, false, false, false, false, false, false, false, false, false, false] rfl rfl (take_ofW HT_.out HW_.out (by kernel_rfl)) (fun _ _ _ h => h) (Or.inl ⟨by rfl, ?_⟩) hHeld ?_ ?_
                      rotate_left
                      ·intro w' s0
                       go_simp
                       with_reducible rfl
                      rotate_left
                      ·simp only [Act.put, List.setIfInBounds_toArray, List.set_cons_zero, List.set_cons_succ, i64_w, i32_w]
                       rfl
                      refine one_ (i := 4) (N := some 208) #[true, true, true, true, true, false, false, false, false, false, false, false, false, false, false, false, false, false, false, false, false, false, false, false, false, false, false, false, false, false, false] rfl rfl (one_of HT_.out (by kernel_rfl)) (by decide) (fun K hK => ?_)
                      refine goes_ Try.func36 (by kernel_rfl) rfl #[.string (rdOf ByteArray.empty t699 x24_4)] (by rfl) rfl rfl (by (try simp only [List.map_toArray, List.map_cons, List.map_nil]); first | done | rfl | (simp only [List.length_drop, List.length_take]; rfl)) ?_
                      with_reducible refine (ring_Valid.calls k4 (rdOf ByteArray.empty t699 x24_4) t710 _ A81.out).mono ?_
                      rintro e w103 ⟨rfl, hb⟩
                      have HS0_ := (hb.cell (World.block_lt_of_cell? _ _ (hHeld))).trans (hHeld)
                      refine ⟨_, rfl, ?_⟩
                      have n0_ := Aside0.mk (Kd.R_below (by (with_reducible repeat (first | apply Kd.R_alloc | apply Kd.R_drewN | apply Kd.R_drew)); exact HO_23.out) hb)
                      have n1_ := Aside0.mk (Kd.R_below (by (with_reducible repeat (first | apply Kd.R_alloc | apply Kd.R_drewN | apply Kd.R_drew)); exact HO708.out) hb)
                      have n2_ := Aside0.mk (below_step (by repeat (first | (with_reducible first | exact HB.out | apply below_alloc | apply pw_below_drewN | apply below_drew1) | exact HB.out)) hb)
                      clear HO_23
                      clear HO708
                      clear HB
                      have HO_23 := n0_
                      have HO708 := n1_
                      have HB := n2_
                      clear n0_ n1_ n2_
                      (try clear hb)
                      (try clear hb2)
                      (try clear hk)
                      (try clear hi)
                      obtain ⟨Ao104, co104, eo104⟩ := Kd.R_slice HO708.out
                      (first | subst eo104 | (injection eo104 with f1_ f2_ f3_; have f4_ := f1_.symm; have f5_ := f3_.symm; clear f1_ f2_ f3_; subst f4_; subst f5_))
                      refine hK.out _ _ (HS0_) (fun hHeld => ?_)
                      clear hK K
                      refine norm_ (a' := ?_) ?_ ?_
                      rotate_left
                      ·show Act.put _ (some 208) _ = _
                       simp only [Act.put, List.setIfInBounds_toArray, List.set_cons_zero, List.set_cons_succ, i64_w, i32_w]
                       rfl
                      refine pure_ (i := 5) (N := some 209) (v := ?_) (a' := ?_) #[true, true, true, true, true, true, false, false, false, false, false, false, false, false, false, false, false, false, false, false, false, false, false, false, false, false, false, false, false, false, false] rfl rfl (any_of HT_.out (by kernel_rfl)) (fun _ _ _ h => h) (Or.inl ⟨by rfl, ?_⟩) ?_ ?_
                      rotate_left
                      ·intro w'
                       go_simp
                       with_reducible rfl
                      rotate_left
                      ·simp only [Act.put, List.setIfInBounds_toArray, List.set_cons_zero, List.set_cons_succ, i64_w, i32_w]
                       rfl
                      refine pure_ (i := 6) (N := some 210) (v := ?_) (a' := ?_) #[true, true, true, true, true, true, true, false, false, false, false, false, false, false, false, false, false, false, false, false, false, false, false, false, false, false, false, false, false, false, false] rfl rfl (any_of HT_.out (by kernel_rfl)) (fun _ _ _ h => h) (Or.inl ⟨by rfl, ?_⟩) ?_ ?_
                      rotate_left
                      ·intro w'
                       go_simp
                       with_reducible rfl
                      rotate_left
                      ·simp only [Act.put, List.setIfInBounds_toArray, List.set_cons_zero, List.set_cons_succ, i64_w, i32_w]
                       rfl
                      refine pure_ (i := 7) (N := some 211) (v := ?_) (a' := ?_) #[true, true, true, true, true, true, true, true, false, false, false, false, false, false, false, false, false, false, false, false, false, false, false, false, false, false, false, false, false, false, false] rfl rfl (any_of HT_.out (by kernel_rfl)) (fun _ _ _ h => h) (Or.inl ⟨by rfl, ?_⟩) ?_ ?_
                      rotate_left
                      ·intro w'
                       go_simp
                       with_reducible rfl
                      rotate_left
                      ·simp only [Act.put, List.setIfInBounds_toArray, List.set_cons_zero, List.set_cons_succ, i64_w, i32_w]
                       rfl
                      refine pure_ (i := 8) (N := some 212) (v := ?_) (a' := ?_) #[true, true, true, true, true, true, true, true, true, false, false, false, false, false, false, false, false, false, false, false, false, false, false, false, false, false, false, false, false, false, false] rfl rfl (any_of HT_.out (by kernel_rfl)) (fun _ _ _ h => h) (Or.inl ⟨by rfl, ?_⟩) ?_ ?_
                      rotate_left
                      ·intro w'
                       go_simp
                       with_reducible rfl
                      rotate_left
                      ·simp only [Act.put, List.setIfInBounds_toArray, List.set_cons_zero, List.set_cons_succ, i64_w, i32_w]
                       rfl
                      refine pure_ (i := 9) (N := some 213) (v := ?_) (a' := ?_) #[true, true, true, true, true, true, true, true, true, true, false, false, false, false, false, false, false, false, false, false, false, false, false, false, false, false, false, false, false, false, false] rfl rfl (any_of HT_.out (by kernel_rfl)) (fun _ _ _ h => h) (Or.inl ⟨by rfl, ?_⟩) ?_ ?_
                      rotate_left
                      ·intro w'
                       go_simp
                       with_reducible rfl
                      rotate_left
                      ·simp only [Act.put, List.setIfInBounds_toArray, List.set_cons_zero, List.set_cons_succ, i64_w, i32_w]
                       rfl
                      refine pure_ (i := 10) (N := some 214) (v := ?_) (a' := ?_) #[true, true, true, true, true, true, true, true, true, true, true, false, false, false, false, false, false, false, false, false, false, false, false, false, false, false, false, false, false, false, false] rfl rfl (any_of HT_.out (by kernel_rfl)) (fun _ _ _ h => h) (Or.inl ⟨by rfl, ?_⟩) ?_ ?_
                      rotate_left
                      ·intro w'
                       go_simp
                       with_reducible rfl
                      rotate_left
                      ·simp only [Act.put, List.setIfInBounds_toArray, List.set_cons_zero, List.set_cons_succ, i64_w, i32_w]
                       rfl
                      refine pure_ (i := 11) (N := some 215) (v := ?_) (a' := ?_) #[true, true, true, true, true, true, true, true, true, true, true, true, false, false, false, false, false, false, false, false, false, false, false, false, false, false, false, false, false, false, false] rfl rfl (any_of HT_.out (by kernel_rfl)) (fun _ _ _ h => h) (Or.inl ⟨by rfl, ?_⟩) ?_ ?_
                      rotate_left
                      ·intro w'
                       go_simp
                       with_reducible rfl
                      rotate_left
                      ·simp only [Act.put, List.setIfInBounds_toArray, List.set_cons_zero, List.set_cons_succ, i64_w, i32_w]
                       rfl
                      refine pure_ (i := 12) (N := some 216) (v := ?_) (a' := ?_) #[true, true, true, true, true, true, true, true, true, true, true, true, true, false, false, false, false, false, false, false, false, false, false, false, false, false, false, false, false, false, false] rfl rfl (any_of HT_.out (by kernel_rfl)) (fun _ _ _ h => h) (Or.inl ⟨by rfl, ?_⟩) ?_ ?_
                      rotate_left
                      ·intro w'
                       go_simp
                       with_reducible rfl
                      rotate_left
                      ·simp only [Act.put, List.setIfInBounds_toArray, List.set_cons_zero, List.set_cons_succ, i64_w, i32_w]
                       rfl
                      refine pure_ (i := 13) (N := some 217) (v := ?_) (a' := ?_) #[true, true, true, true, true, true, true, true, true, true, true, true, true, true, false, false, false, false, false, false, false, false, false, false, false, false, false, false, false, false, false] rfl rfl (any_of HT_.out (by kernel_rfl)) (fun _ _ _ h => h) (Or.inl ⟨by rfl, ?_⟩) ?_ ?_
                      rotate_left
                      ·intro w'
                       go_simp
                       with_reducible rfl
                      rotate_left
                      ·simp only [Act.put, List.setIfInBounds_toArray, List.set_cons_zero, List.set_cons_succ, i64_w, i32_w]
                       rfl
                      refine pure_ (i := 14) (N := some 218) (v := ?_) (a' := ?_) #[true, true, true, true, true, true, true, true, true, true, true, true, true, true, true, false, false, false, false, false, false, false, false, false, false, false, false, false, false, false, false] rfl rfl (any_of HT_.out (by kernel_rfl)) (fun _ _ _ h => h) (Or.inl ⟨by rfl, ?_⟩) ?_ ?_
                      rotate_left
                      ·intro w'
                       go_simp
                       with_reducible rfl
                      rotate_left
                      ·simp only [Act.put, List.setIfInBounds_toArray, List.set_cons_zero, List.set_cons_succ, i64_w, i32_w]
                       rfl
                      refine pure_ (i := 15) (N := some 219) (v := ?_) (a' := ?_) #[true, true, true, true, true, true, true, true, true, true, true, true, true, true, true, true, false, false, false, false, false, false, false, false, false, false, false, false, false, false, false] rfl rfl (any_of HT_.out (by kernel_rfl)) (fun _ _ _ h => h) (Or.inl ⟨by rfl, ?_⟩) ?_ ?_
                      rotate_left
                      ·intro w'
                       go_simp
                       with_reducible rfl
                      rotate_left
                      ·simp only [Act.put, List.setIfInBounds_toArray, List.set_cons_zero, List.set_cons_succ, i64_w, i32_w]
                       rfl
                      refine pure_ (i := 16) (N := some 220) (v := ?_) (a' := ?_) #[true, true, true, true, true, true, true, true, true, true, true, true, true, true, true, true, true, false, false, false, false, false, false, false, false, false, false, false, false, false, false] rfl rfl (any_of HT_.out (by kernel_rfl)) (fun _ _ _ h => h) (Or.inl ⟨by rfl, ?_⟩) ?_ ?_
                      rotate_left
                      ·intro w'
                       go_simp
                       with_reducible rfl
                      rotate_left
                      ·simp only [Act.put, List.setIfInBounds_toArray, List.set_cons_zero, List.set_cons_succ, i64_w, i32_w]
                       rfl
                      refine pure_ (i := 17) (N := some 221) (v := ?_) (a' := ?_) #[true, true, true, true, true, true, true, true, true, true, true, true, true, true, true, true, true, true, false, false, false, false, false, false, false, false, false, false, false, false, false] rfl rfl (any_of HT_.out (by kernel_rfl)) (fun _ _ _ h => h) (Or.inl ⟨by rfl, ?_⟩) ?_ ?_
                      rotate_left
                      ·intro w'
                       go_simp
                       with_reducible rfl
                      rotate_left
                      ·simp only [Act.put, List.setIfInBounds_toArray, List.set_cons_zero, List.set_cons_succ, i64_w, i32_w]
                       rfl
                      refine pure_ (i := 18) (N := some 222) (v := ?_) (a' := ?_) #[true, true, true, true, true, true, true, true, true, true, true, true, true, true, true, true, true, true, true, false, false, false, false, false, false, false, false, false, false, false, false] rfl rfl (any_of HT_.out (by kernel_rfl)) (fun _ _ _ h => h) (Or.inl ⟨by rfl, ?_⟩) ?_ ?_
                      rotate_left
                      ·intro w'
                       go_simp
                       with_reducible rfl
                      rotate_left
                      ·simp only [Act.put, List.setIfInBounds_toArray, List.set_cons_zero, List.set_cons_succ, i64_w, i32_w]
                       rfl
                      refine pure_ (i := 19) (N := some 223) (v := undef) (a' := ?_) #[true, true, true, true, true, true, true, true, true, true, true, true, true, true, true, true, true, true, true, true, false, false, false, false, false, false, false, false, false, false, false] rfl rfl (any_of HT_.out (by kernel_rfl)) (fun _ _ _ h => h) (Or.inr ⟨by rfl, rfl⟩) ?_ ?_
                      rotate_left
                      ·simp only [Act.put, List.setIfInBounds_toArray, List.set_cons_zero, List.set_cons_succ, i64_w, i32_w]
                       rfl
                      refine pure_ (i := 20) (N := some 224) (v := undef) (a' := ?_) #[true, true, true, true, true, true, true, true, true, true, true, true, true, true, true, true, true, true, true, true, true, false, false, false, false, false, false, false, false, false, false] rfl rfl (any_of HT_.out (by kernel_rfl)) (fun _ _ _ h => h) (Or.inr ⟨by rfl, rfl⟩) ?_ ?_
                      rotate_left
                      ·simp only [Act.put, List.setIfInBounds_toArray, List.set_cons_zero, List.set_cons_succ, i64_w, i32_w]
                       rfl
                      refine pure_ (i := 21) (N := some 225) (v := undef) (a' := ?_) #[true, true, true, true, true, true, true, true, true, true, true, true, true, true, true, true, true, true, true, true, true, true, false, false, false, false, false, false, false, false, false] rfl rfl (any_of HT_.out (by kernel_rfl)) (fun _ _ _ h => h) (Or.inr ⟨by rfl, rfl⟩) ?_ ?_
                      rotate_left
                      ·simp only [Act.put, List.setIfInBounds_toArray, List.set_cons_zero, List.set_cons_succ, i64_w, i32_w]
                       rfl
                      refine pure_ (i := 22) (N := some 226) (v := undef) (a' := ?_) #[true, true, true, true, true, true, true, true, true, true, true, true, true, true, true, true, true, true, true, true, true, true, true, false, false, false, false, false, false, false, false] rfl rfl (any_of HT_.out (by kernel_rfl)) (fun _ _ _ h => h) (Or.inr ⟨by rfl, rfl⟩) ?_ ?_
                      rotate_left
                      ·simp only [Act.put, List.setIfInBounds_toArray, List.set_cons_zero, List.set_cons_succ, i64_w, i32_w]
                       rfl
                      refine pure_ (i := 23) (N := some 227) (v := undef) (a' := ?_) #[true, true, true, true, true, true, true, true, true, true, true, true, true, true, true, true, true, true, true, true, true, true, true, true, false, false, false, false, false, false, false] rfl rfl (any_of HT_.out (by kernel_rfl)) (fun _ _ _ h => h) (Or.inr ⟨by rfl, rfl⟩) ?_ ?_
                      rotate_left
                      ·simp only [Act.put, List.setIfInBounds_toArray, List.set_cons_zero, List.set_cons_succ, i64_w, i32_w]
                       rfl
                      refine pure_ (i := 24) (N := some 228) (v := undef) (a' := ?_) #[true, true, true, true, true, true, true, true, true, true, true, true, true, true, true, true, true, true, true, true, true, true, true, true, true, false, false, false, false, false, false] rfl rfl (any_of HT_.out (by kernel_rfl)) (fun _ _ _ h => h) (Or.inr ⟨by rfl, rfl⟩) ?_ ?_
                      rotate_left
                      ·simp only [Act.put, List.setIfInBounds_toArray, List.set_cons_zero, List.set_cons_succ, i64_w, i32_w]
                       rfl
                      refine pure_ (i := 25) (N := some 229) (v := undef) (a' := ?_) #[true, true, true, true, true, true, true, true, true, true, true, true, true, true, true, true, true, true, true, true, true, true, true, true, true, true, false, false, false, false, false] rfl rfl (any_of HT_.out (by kernel_rfl)) (fun _ _ _ h => h) (Or.inr ⟨by rfl, rfl⟩) ?_ ?_
                      rotate_left
                      ·simp only [Act.put, List.setIfInBounds_toArray, List.set_cons_zero, List.set_cons_succ, i64_w, i32_w]
                       rfl
                      refine pure_ (i := 26) (N := some 230) (v := undef) (a' := ?_) #[true, true, true, true, true, true, true, true, true, true, true, true, true, true, true, true, true, true, true, true, true, true, true, true, true, true, true, false, false, false, false] rfl rfl (any_of HT_.out (by kernel_rfl)) (fun _ _ _ h => h) (Or.inr ⟨by rfl, rfl⟩) ?_ ?_
                      rotate_left
                      ·simp only [Act.put, List.setIfInBounds_toArray, List.set_cons_zero, List.set_cons_succ, i64_w, i32_w]
                       rfl
                      refine pure_ (i := 27) (N := some 231) (v := undef) (a' := ?_) #[true, true, true, true, true, true, true, true, true, true, true, true, true, true, true, true, true, true, true, true, true, true, true, true, true, true, true, true, false, false, false] rfl rfl (any_of HT_.out (by kernel_rfl)) (fun _ _ _ h => h) (Or.inr ⟨by rfl, rfl⟩) ?_ ?_
                      rotate_left
                      ·simp only [Act.put, List.setIfInBounds_toArray, List.set_cons_zero, List.set_cons_succ, i64_w, i32_w]
                       rfl
                      refine pure_ (i := 28) (N := some 232) (v := undef) (a' := ?_) #[true, true, true, true, true, true, true, true, true, true, true, true, true, true, true, true, true, true, true, true, true, true, true, true, true, true, true, true, true, false, false] rfl rfl (any_of HT_.out (by kernel_rfl)) (fun _ _ _ h => h) (Or.inr ⟨by rfl, rfl⟩) ?_ ?_
                      rotate_left
                      ·simp only [Act.put, List.setIfInBounds_toArray, List.set_cons_zero, List.set_cons_succ, i64_w, i32_w]
                       rfl
                      refine pure_ (i := 29) (N := some 233) (v := ?_) (a' := ?_) #[true, true, true, true, true, true, true, true, true, true, true, true, true, true, true, true, true, true, true, true, true, true, true, true, true, true, true, true, true, true, false] rfl rfl (any_of HT_.out (by kernel_rfl)) (fun _ _ _ h => h) (Or.inl ⟨by rfl, ?_⟩) ?_ ?_
                      rotate_left
                      ·intro w'
                       go_simp
                       with_reducible rfl
                      rotate_left
                      ·simp only [Act.put, List.setIfInBounds_toArray, List.set_cons_zero, List.set_cons_succ, i64_w, i32_w]
                       rfl
                      refine pure_ (i := 30) (N := some 234) (v := ?_) (a' := ?_) #[true, true, true, true, true, true, true, true, true, true, true, true, true, true, true, true, true, true, true, true, true, true, true, true, true, true, true, true, true, true, true] rfl rfl (any_of HT_.out (by kernel_rfl)) (fun _ _ _ h => h) (Or.inl ⟨by rfl, ?_⟩) ?_ ?_
                      rotate_left
                      ·intro w'
                       go_simp
                       with_reducible rfl
                      rotate_left
                      ·simp only [Act.put, List.setIfInBounds_toArray, List.set_cons_zero, List.set_cons_succ, i64_w, i32_w]
                       rfl
                      refine done_ (done_of HT_.out (by kernel_rfl)) ?_
                      try go_wp2
                      go_roundg k4
                      case measure => have := HJ4.out; have := HJ10.out; have := HJ14.out; have := HK4.out; omega
                      case rel => exact ⟨(wrap64 (x24_4 + 1)), (by first | rfl | (simp; done) | (simp [*]; done)), H', ⟨by have := HJ4.out; have := HJ10.out; have := HJ14.out; have := HK4.out; omega⟩, ⟨by (with_reducible repeat (first | apply Kd.R_alloc | apply Kd.R_drewN | apply Kd.R_drew)); exact Kd.R_mono HO_23.out (fun _ hk => trivial)⟩, ⟨by repeat (first | (with_reducible first | exact HB.out | apply below_alloc | apply pw_below_drewN | apply below_drew1) | exact HB.out)⟩⟩
                    ·rw [if_neg c84] at H
                     have c84b0 : ((t705.length : Int) == 0) = false := beq_eq_false_iff_ne.mpr c84
                     have c84b1 : ((t705.length : Int) != 0) = true := bne_iff_ne.mpr c84
                     have c84b2 : ¬ (t705 = []) := fun h_ => c84 (by rw [h_]; rfl)
                     obtain rfl := Option.some.inj H
                     exact absurd HRT.out (by decide)
                   ·rw [if_neg c83] at H
                    have c83b0 : (t706 == 0) = false := beq_eq_false_iff_ne.mpr c83
                    have c83b1 : (t706 != 0) = true := bne_iff_ne.mpr c83
                    obtain rfl := Option.some.inj H
                    exact absurd HRT.out (by decide)
                  ·rw [if_neg c82] at H
                   have c82b0 : (t710 == 0) = false := beq_eq_false_iff_ne.mpr c82
                   have c82b1 : (t710 != 0) = true := bne_iff_ne.mpr c82
                   obtain rfl := Option.some.inj H
                   exact absurd HRT.out (by decide)
                 ·rw [if_neg c79] at H
                  exact absurd H (by simp)
                ·rw [if_neg c78] at H
                 have c78b0 : decide (x24_4 < (t699.length : Int)) = false := decide_eq_false c78
                 clear c78
                 replace H := Option.bind_eq_some_iff.mp H
                 obtain ⟨t703, A1180, H⟩ := H
                 replace H : (if t703 = 0 then (some true) else (some (decide ((t699.length : Int) ≥ 6)))) = some r := H
                 have A118 := Aside0.mk A1180
                 clear A1180
                 by_cases c119 : t703 = 0
                 ·rw [if_pos c119] at H
                  have c119b0 : (t703 == 0) = true := beq_iff_eq.mpr c119
                  have c119b1 : (t703 != 0) = false := bne_eq_false_iff_eq.mpr c119
                  clear c119
                  obtain rfl := Option.some.inj H
                  obtain ⟨Ao120, co120, eo120⟩ := Kd.R_slice HO_23.out
                  subst eo120
                  go_wp2_with (first | ((with_reducible refine gate_callee (f := 36) rfl ?_); refine goesL_ (some 236) rfl rfl Try.func36 (by kernel_rfl) rfl #[.string a2] rfl (by (try simp only [List.map_toArray, List.map_cons, List.map_nil]); first | done | rfl | (simp only [List.length_drop, List.length_take]; rfl)) ?_; (with_reducible refine (ring_Valid.calls k4 a2 t703 _ A118.out).mono ?_); rintro e w121 ⟨rfl, hb⟩; refine ⟨_, rfl, ?_⟩; have n0_ := Aside0.mk (Kd.R_below (by (with_reducible repeat (first | apply Kd.R_alloc | apply Kd.R_drewN | apply Kd.R_drew)); exact HO_23.out) hb); have n1_ := Aside0.mk (below_step (by repeat (first | (with_reducible first | exact HB.out | apply below_alloc | apply pw_below_drewN | apply below_drew1) | exact HB.out)) hb); clear HO_23; clear HB; have HO_23 := n0_; have HB := n1_; clear n0_ n1_; (try clear hb); (try clear hb2); (try clear hk); (try clear hi)))
                  go_ret
                  exact ⟨by first | rfl | (simp [errW_none, errW_some] <;> rfl) | (simp [*, errW_none, errW_some] <;> rfl), by repeat (first | (with_reducible first | exact HB.out | apply below_alloc | apply pw_below_drewN | apply below_drew1) | exact HB.out)⟩
                 ·rw [if_neg c119] at H
                  have c119b0 : (t703 == 0) = false := beq_eq_false_iff_ne.mpr c119
                  have c119b1 : (t703 != 0) = true := bne_iff_ne.mpr c119
                  obtain rfl := Option.some.inj H
                  obtain ⟨Ao122, co122, eo122⟩ := Kd.R_slice HO_23.out
                  subst eo122
                  go_wp2_with (first | ((with_reducible refine gate_callee (f := 36) rfl ?_); refine goesL_ (some 236) rfl rfl Try.func36 (by kernel_rfl) rfl #[.string a2] rfl (by (try simp only [List.map_toArray, List.map_cons, List.map_nil]); first | done | rfl | (simp only [List.length_drop, List.length_take]; rfl)) ?_; (with_reducible refine (ring_Valid.calls k4 a2 t703 _ A118.out).mono ?_); rintro e w123 ⟨rfl, hb⟩; refine ⟨_, rfl, ?_⟩; have n0_ := Aside0.mk (Kd.R_below (by (with_reducible repeat (first | apply Kd.R_alloc | apply Kd.R_drewN | apply Kd.R_drew)); exact HO_23.out) hb); have n1_ := Aside0.mk (below_step (by repeat (first | (with_reducible first | exact HB.out | apply below_alloc | apply pw_below_drewN | apply below_drew1) | exact HB.out)) hb); clear HO_23; clear HB; have HO_23 := n0_; have HB := n1_; clear n0_ n1_; (try clear hb); (try clear hb2); (try clear hk); (try clear hi)))
                  go_ret
                  exact ⟨by first | rfl | (simp [errW_none, errW_some] <;> rfl) | (simp [*, errW_none, errW_some] <;> rfl), by repeat (first | (with_reducible first | exact HB.out | apply below_alloc | apply pw_below_drewN | apply below_drew1) | exact HB.out)⟩
            ·rw [if_neg c76] at H
             have c76b0 : (t700 == 0) = false := beq_eq_false_iff_ne.mpr c76
             have c76b1 : (t700 != 0) = true := bne_iff_ne.mpr c76
             obtain rfl := Option.some.inj H
             go_wp2_with (first | ((with_reducible refine gate_callee (f := 50) rfl ?_); refine goesL_ (some 182) rfl rfl Try.func50 (by kernel_rfl) rfl #[.string a2] rfl (by (try simp only [List.map_toArray, List.map_cons, List.map_nil]); first | done | rfl | (simp only [List.length_drop, List.length_take]; rfl)) ?_; (with_reducible refine (ring_Near.calls kj14 a2 t699 t700 _ A75.out).mono ?_); rintro e w124 ⟨v701, rfl, ho0, hb⟩; refine ⟨_, rfl, ?_⟩; have n0_ := Aside0.mk (Kd.R_lower ho0 (below_size (by repeat (first | (with_reducible first | exact HB.out | apply below_alloc | apply pw_below_drewN | apply below_drew1) | exact HB.out)))); have n1_ := Aside0.mk (below_step (by repeat (first | (with_reducible first | exact HB.out | apply below_alloc | apply pw_below_drewN | apply below_drew1) | exact HB.out)) hb); clear HB; have HO702 := n0_; have HB := n1_; clear n0_ n1_; (try clear hb); (try clear hb2); (try clear hk); (try clear hi); (try clear ho0); obtain ⟨Ao125, co125, eo125⟩ := Kd.R_slice HO702.out; subst eo125))
             go_ret
             exact ⟨by first | rfl | (simp [errW_none, errW_some] <;> rfl) | (simp [*, errW_none, errW_some] <;> rfl), by repeat (first | (with_reducible first | exact HB.out | apply below_alloc | apply pw_below_drewN | apply below_drew1) | exact HB.out)⟩

/-- THE ONE PURE STATEMENT of wigeontop_TopRings: yours. -/
def wigeontop_TopRings.Pure : Prop := ∀ (a0 : ByteArray) (a1 : Int) (a2 : ByteArray), a0.size ≤ 140737488351232 → (Lit.int .i64 a1).wf = true → a2.size ≤ 140737488351232 → ∃ k, wigeontop_TopRings.f k a0 a1 a2 = some true
theorem wigeontop_TopRings.walk (P : wigeontop_TopRings.Pure) (a0 : ByteArray) (a1 : Int) (a2 : ByteArray) (w : World) (w0 : a0.size ≤ 140737488351232) (w1 : (Lit.int .i64 a1).wf = true) (w2 : a2.size ≤ 140737488351232) :
  Calls Try.prog 15 #[.string a0, .int .i64 a1, .string a2] w fun e w' => e = .returned (.bool true) ∧ Below w.heap.size w w' := by
 obtain ⟨k, h⟩ := P a0 a1 a2 w0 w1 w2
 refine (wigeontop_TopRings.calls k a0 a1 a2 true w h rfl).mono ?_
 rintro e w' ⟨rfl, hd⟩
 exact ⟨rfl, hd⟩

end Go.Proofs.Ytlbhighbhchdmaa.Q
