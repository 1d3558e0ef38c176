-- Written by a program of this session (wip/tools/gprint.py, over the kit's print); Lean checks it.
import Derived.Test.YtpkafcoflgbnaaaQx0
import Derived.Test.YtpkafcoflgbnaaaQx1
import Derived.Test.YtpkafcoflgbnaaaQx2
import Derived.Test.YtpkafcoflgbnaaaQx10
import Derived.Test.YtpkafcoflgbnaaaQx15
import Derived.Test.YtpkafcoflgbnaaaQx17
import Derived.Test.YtpkafcoflgbnaaaQx22
import Derived.Test.YtpkafcoflgbnaaaQx24
import Derived.Test.YtpkafcoflgbnaaaQx26
import Derived.Test.YtpkafcoflgbnaaaQx29
import Derived.Test.YtpkafcoflgbnaaaQx31
import Derived.Test.YtpkafcoflgbnaaaQx35
import Derived.Test.YtpkafcoflgbnaaaQx37
namespace Go.Proofs.Ytpkafcoflgbnaaa.Q
open Go.RowKit Go.Proofs.YtpkafcoflgbnaaaW.PrintWords Go.Proofs.YtpkafcoflgbnaaaW.PrintLast Go.Proofs.YtpkafcoflgbnaaaW.PrintMore
attribute [local go_sem] max2_int min2_int max_two min_two max_three min_three max_four min_four   -- for this text's walks alone
set_option linter.unusedVariables false
set_option linter.unusedSimpArgs false

attribute [local go_sem high] eqA32
/-! ### wigeontop_TopSignals: function 15 -/
mutual
def wigeontop_TopSignals.j0 : Nat → List ByteArray → List Int → List Int → Bool → Option (Bool)
 | 0, _, _, _, _ => none
 | k + 1, x0, x1, x2, x50 => if x50 = true then (none) else ((wigeonlaw05_Long.f k x0).bind fun t696 => (if t696 = true then (wigeontop_TopSignals.j1 k x0 x1 x2 true) else (if (x1.length : Int) > 500 then (wigeontop_TopSignals.j1 k x0 x1 x2 true) else (wigeontop_TopSignals.j1 k x0 x1 x2 (decide ((x2.length : Int) > 60))))))
def wigeontop_TopSignals.j1 : Nat → List ByteArray → List Int → List Int → Bool → Option (Bool)
 | 0, _, _, _, _ => none
 | k + 1, x0, x1, x2, x62 => if x62 = true then (some true) else ((whistle_IsSafe.f k x0).bind fun bt697 => ((whistle_Alike.f k x0).bind fun bt699 => (if bt697.2 = bt699.2.2.2 then (if (bt699.2.2.1 == bt697.1) = true then (wigeontop_TopSignals.j2 k x0 x1 x2 bt697.1 bt697.2 bt699.1 bt699.2.1 bt699.2.2.1 (bt697.2 == 0)) else (wigeontop_TopSignals.j2 k x0 x1 x2 bt697.1 bt697.2 bt699.1 bt699.2.1 bt699.2.2.1 false)) else (wigeontop_TopSignals.j2 k x0 x1 x2 bt697.1 bt697.2 bt699.1 bt699.2.1 bt699.2.2.1 true))))
def wigeontop_TopSignals.j2 : Nat → List ByteArray → List Int → List Int → Bool → Int → List Int → List Int → Bool → Bool → Option (Bool)
 | 0, _, _, _, _, _, _, _, _, _ => none
 | k + 1, x0, x1, x2, x9, x10, x11, x12, x13, x86 => if x86 = true then (none) else (if x10 = 0 then (if x13 = true then ((whistle_Sound.f k x0 x11).bind fun bt707 => ((whistle_Sound.f k x0 x12).bind fun bt709 => (if bt707.2 = 0 then (if bt709.2 = 0 then (if bt707.1.toList = bt709.1.toList then (if bt707.1.toList = ([] : List UInt8) then (wigeontop_TopSignals.j3 k x0 x1 x2 x9 bt707.1 true) else ((wigeonref05_SameInts.f k x11 x12).bind fun t711 => (wigeontop_TopSignals.j3 k x0 x1 x2 x9 bt707.1 t711))) else (wigeontop_TopSignals.j3 k x0 x1 x2 x9 bt707.1 true)) else (wigeontop_TopSignals.j3 k x0 x1 x2 x9 bt707.1 true)) else (wigeontop_TopSignals.j3 k x0 x1 x2 x9 bt707.1 true)))) else (wigeontop_TopSignals.j4 k x0 x1 x2 x9)) else (if x9 = true then (none) else (some (!x13))))
def wigeontop_TopSignals.j4 : Nat → List ByteArray → List Int → List Int → Bool → Option (Bool)
 | 0, _, _, _, _ => none
 | k + 1, x0, x1, x2, x9 => (whistle_Sound.f k x0 x1).bind fun bt714 => (if bt714.2 = 0 then (wigeontop_TopSignals.j5 k x0 x1 x2 x9 bt714.1 (decide ((bt714.1.size : Int) ≤ 60))) else (wigeontop_TopSignals.j5 k x0 x1 x2 x9 bt714.1 false))
def wigeontop_TopSignals.j5 : Nat → List ByteArray → List Int → List Int → Bool → ByteArray → Bool → Option (Bool)
 | 0, _, _, _, _, _, _ => none
 | k + 1, x0, x1, x2, x9, x21, x155 => if x155 = true then ((whistle_Heard.f k x0 x21).bind fun bt716 => ((whistle_Decode.f k x0 x21).bind fun bt718 => (if bt716.2 = 0 then (if bt718.2.2 = 0 then (if bt718.2.1 = true then (if bt716.1 < 1 then (none) else (if x9 = true then (if bt716.1 = 1 then ((wigeonref05_SameInts.f k bt718.1 x1).bind fun t723 => (if t723 = true then (wigeontop_TopSignals.j6 k x0 x2 x9) else (none))) else (none)) else (wigeontop_TopSignals.j6 k x0 x2 x9))) else (none)) else (none)) else (none)))) else (wigeontop_TopSignals.j6 k x0 x2 x9)
def wigeontop_TopSignals.j6 : Nat → List ByteArray → List Int → Bool → Option (Bool)
 | 0, _, _, _ => none
 | k + 1, x0, x2, x9 => (whistle_Back.f k x0).bind fun bt724 => ((whistle_IsSafe.f k bt724.1).bind fun bt728 => ((whistle_Kraft.f k x0).bind fun bt730 => ((whistle_Kraft.f k bt724.1).bind fun bt734 => (if bt724.2 = 0 then (if bt728.2 = 0 then (if (bt728.1 != x9) = true then (wigeontop_TopSignals.j7 k x0 x2 x9 true) else (if bt730.2.2 = 0 then (if bt734.2.2 = 0 then (if (!(bt730.1 == bt734.1) || (!(bt730.2.1 == bt734.2.1))) = true then (wigeontop_TopSignals.j7 k x0 x2 x9 true) else (if x9 = true then (wigeontop_TopSignals.j7 k x0 x2 x9 (decide (bt730.1 > bt730.2.1))) else (wigeontop_TopSignals.j7 k x0 x2 x9 false))) else (wigeontop_TopSignals.j7 k x0 x2 x9 true)) else (wigeontop_TopSignals.j7 k x0 x2 x9 true))) else (wigeontop_TopSignals.j7 k x0 x2 x9 true)) else (wigeontop_TopSignals.j7 k x0 x2 x9 true)))))
def wigeontop_TopSignals.j7 : Nat → List ByteArray → List Int → Bool → Bool → Option (Bool)
 | 0, _, _, _, _ => none
 | k + 1, x0, x2, x9, x249 => if x249 = true then (none) else ((whistle_Cheapest.f k x2).bind fun bt738 => (if bt738.2.2 = 0 then ((whistle_FromLengths.f k bt738.1).bind fun bt743 => ((whistle_Cost.f k x2 bt743.1).bind fun bt747 => ((whistle_Cost.f k x2 x0).bind fun bt749 => (if bt743.2 = 0 then (if bt747.2 = 0 then (if bt747.1 = bt738.2.1 then (if bt749.2 = 0 then (if x9 = true then (some (decide (bt749.1 ≥ bt738.2.1))) else (some true)) else (some true)) else (none)) else (none)) else (none))))) else (if (bt738.1.length : Int) = 0 then (some (bt738.2.1 == 0)) else (none))))
def wigeontop_TopSignals.j3 : Nat → List ByteArray → List Int → List Int → Bool → ByteArray → Bool → Option (Bool)
 | 0, _, _, _, _, _, _ => none
 | k + 1, x0, x1, x2, x9, x15, x127 => if x127 = true then (none) else (if (x15.size : Int) ≤ 60 then ((whistle_Heard.f k x0 x15).bind fun bt712 => (if bt712.2 = 0 then (if bt712.1 < 2 then (none) else (wigeontop_TopSignals.j4 k x0 x1 x2 x9)) else (none))) else (wigeontop_TopSignals.j4 k x0 x1 x2 x9))
end
def wigeontop_TopSignals.f (k : Nat) (l0 : List ByteArray) (l1 : List Int) (l2 : List Int) : Option (Bool) := (whistle_IsPrefix.f k (([(⟨#[46]⟩ : ByteArray), (⟨#[45]⟩ : ByteArray)] : List ByteArray))).bind fun bt694 => (if bt694.2 = 0 then (wigeontop_TopSignals.j0 k l0 l1 l2 (!bt694.1)) else (wigeontop_TopSignals.j0 k l0 l1 l2 true))
theorem wigeontop_TopSignals.j0.dead {k x0 x1 x2} : wigeontop_TopSignals.j0 k x0 x1 x2 true = none := by cases k <;> simp [wigeontop_TopSignals.j0]
theorem wigeontop_TopSignals.j2.dead {k x0 x1 x2 x3 x4 x5 x6 x7} : wigeontop_TopSignals.j2 k x0 x1 x2 x3 x4 x5 x6 x7 true = none := by cases k <;> simp [wigeontop_TopSignals.j2]
theorem wigeontop_TopSignals.j3.dead {k x0 x1 x2 x3 x4} : wigeontop_TopSignals.j3 k x0 x1 x2 x3 x4 true = none := by cases k <;> simp [wigeontop_TopSignals.j3]
theorem wigeontop_TopSignals.j7.dead {k x0 x1 x2} : wigeontop_TopSignals.j7 k x0 x1 x2 true = none := by cases k <;> simp [wigeontop_TopSignals.j7]
theorem wigeontop_TopSignals.mono_l : ∀ k, (∀ y0 y1 y2 y3, LeO (wigeontop_TopSignals.j0 k y0 y1 y2 y3) (wigeontop_TopSignals.j0 (k + 1) y0 y1 y2 y3)) ∧ (∀ y0 y1 y2 y3, LeO (wigeontop_TopSignals.j1 k y0 y1 y2 y3) (wigeontop_TopSignals.j1 (k + 1) y0 y1 y2 y3)) ∧ (∀ y0 y1 y2 y3 y4 y5 y6 y7 y8, LeO (wigeontop_TopSignals.j2 k y0 y1 y2 y3 y4 y5 y6 y7 y8) (wigeontop_TopSignals.j2 (k + 1) y0 y1 y2 y3 y4 y5 y6 y7 y8)) ∧ (∀ y0 y1 y2 y3, LeO (wigeontop_TopSignals.j4 k y0 y1 y2 y3) (wigeontop_TopSignals.j4 (k + 1) y0 y1 y2 y3)) ∧ (∀ y0 y1 y2 y3 y4 y5, LeO (wigeontop_TopSignals.j5 k y0 y1 y2 y3 y4 y5) (wigeontop_TopSignals.j5 (k + 1) y0 y1 y2 y3 y4 y5)) ∧ (∀ y0 y1 y2, LeO (wigeontop_TopSignals.j6 k y0 y1 y2) (wigeontop_TopSignals.j6 (k + 1) y0 y1 y2)) ∧ (∀ y0 y1 y2 y3, LeO (wigeontop_TopSignals.j7 k y0 y1 y2 y3) (wigeontop_TopSignals.j7 (k + 1) y0 y1 y2 y3)) ∧ (∀ y0 y1 y2 y3 y4 y5, LeO (wigeontop_TopSignals.j3 k y0 y1 y2 y3 y4 y5) (wigeontop_TopSignals.j3 (k + 1) y0 y1 y2 y3 y4 y5))
 | 0 => ⟨fun _ _ _ _ r h => by simp [wigeontop_TopSignals.j0] at h, fun _ _ _ _ r h => by simp [wigeontop_TopSignals.j1] at h, fun _ _ _ _ _ _ _ _ _ r h => by simp [wigeontop_TopSignals.j2] at h, fun _ _ _ _ r h => by simp [wigeontop_TopSignals.j4] at h, fun _ _ _ _ _ _ r h => by simp [wigeontop_TopSignals.j5] at h, fun _ _ _ r h => by simp [wigeontop_TopSignals.j6] at h, fun _ _ _ _ r h => by simp [wigeontop_TopSignals.j7] at h, fun _ _ _ _ _ _ r h => by simp [wigeontop_TopSignals.j3] at h⟩
 | k + 1 => by
  obtain ⟨ih0, ih1, ih2, ih3, ih4, ih5, ih6, ih7⟩ := wigeontop_TopSignals.mono_l k
  refine ⟨?_, ?_, ?_, ?_, ?_, ?_, ?_, ?_⟩
  ·intro y0 y1 y2 y3
   unfold wigeontop_TopSignals.j0
   repeat' first
   | (with_reducible exact ih0 _ _ _ _)
   | (with_reducible exact ih1 _ _ _ _)
   | (with_reducible exact ih2 _ _ _ _ _ _ _ _ _)
   | (with_reducible exact ih3 _ _ _ _)
   | (with_reducible exact ih4 _ _ _ _ _ _)
   | (with_reducible exact ih5 _ _ _)
   | (with_reducible exact ih6 _ _ _ _)
   | (with_reducible exact ih7 _ _ _ _ _ _)
   | (with_reducible exact whistle_Alike.mono _ _)
   | (with_reducible exact whistle_Back.mono _ _)
   | (with_reducible exact whistle_Cheapest.mono _ _)
   | (with_reducible exact whistle_Cost.mono _ _ _)
   | (with_reducible exact whistle_Decode.mono _ _ _)
   | (with_reducible exact whistle_FromLengths.mono _ _)
   | (with_reducible exact whistle_Heard.mono _ _ _)
   | (with_reducible exact whistle_IsPrefix.mono _ _)
   | (with_reducible exact whistle_IsSafe.mono _ _)
   | (with_reducible exact whistle_Kraft.mono _ _)
   | (with_reducible exact whistle_Sound.mono _ _ _)
   | (with_reducible exact wigeonlaw05_Long.mono _ _)
   | (with_reducible exact wigeonref05_SameInts.mono _ _ _)
   | (with_reducible exact LeO.refl _)
   | (with_reducible exact LeO.none _)
   | (with_reducible refine LeO.ite ?_ ?_)
   | (with_reducible refine LeO.bind ?_ (fun _ => ?_))
   | exact ih0 _ _ _ _
   | exact ih1 _ _ _ _
   | exact ih2 _ _ _ _ _ _ _ _ _
   | exact ih3 _ _ _ _
   | exact ih4 _ _ _ _ _ _
   | exact ih5 _ _ _
   | exact ih6 _ _ _ _
   | exact ih7 _ _ _ _ _ _
   | exact whistle_Alike.mono _ _
   | exact whistle_Back.mono _ _
   | exact whistle_Cheapest.mono _ _
   | exact whistle_Cost.mono _ _ _
   | exact whistle_Decode.mono _ _ _
   | exact whistle_FromLengths.mono _ _
   | exact whistle_Heard.mono _ _ _
   | exact whistle_IsPrefix.mono _ _
   | exact whistle_IsSafe.mono _ _
   | exact whistle_Kraft.mono _ _
   | exact whistle_Sound.mono _ _ _
   | exact wigeonlaw05_Long.mono _ _
   | exact wigeonref05_SameInts.mono _ _ _
   | exact LeO.none _
   | refine LeO.ite ?_ ?_
   | refine LeO.bind ?_ (fun _ => ?_)
  ·intro y0 y1 y2 y3
   unfold wigeontop_TopSignals.j1
   repeat' first
   | (with_reducible exact ih0 _ _ _ _)
   | (with_reducible exact ih1 _ _ _ _)
   | (with_reducible exact ih2 _ _ _ _ _ _ _ _ _)
   | (with_reducible exact ih3 _ _ _ _)
   | (with_reducible exact ih4 _ _ _ _ _ _)
   | (with_reducible exact ih5 _ _ _)
   | (with_reducible exact ih6 _ _ _ _)
   | (with_reducible exact ih7 _ _ _ _ _ _)
   | (with_reducible exact whistle_Alike.mono _ _)
   | (with_reducible exact whistle_Back.mono _ _)
   | (with_reducible exact whistle_Cheapest.mono _ _)
   | (with_reducible exact whistle_Cost.mono _ _ _)
   | (with_reducible exact whistle_Decode.mono _ _ _)
   | (with_reducible exact whistle_FromLengths.mono _ _)
   | (with_reducible exact whistle_Heard.mono _ _ _)
   | (with_reducible exact whistle_IsPrefix.mono _ _)
   | (with_reducible exact whistle_IsSafe.mono _ _)
   | (with_reducible exact whistle_Kraft.mono _ _)
   | (with_reducible exact whistle_Sound.mono _ _ _)
   | (with_reducible exact wigeonlaw05_Long.mono _ _)
   | (with_reducible exact wigeonref05_SameInts.mono _ _ _)
   | (with_reducible exact LeO.refl _)
   | (with_reducible exact LeO.none _)
   | (with_reducible refine LeO.ite ?_ ?_)
   | (with_reducible refine LeO.bind ?_ (fun _ => ?_))
   | exact ih0 _ _ _ _
   | exact ih1 _ _ _ _
   | exact ih2 _ _ _ _ _ _ _ _ _
   | exact ih3 _ _ _ _
   | exact ih4 _ _ _ _ _ _
   | exact ih5 _ _ _
   | exact ih6 _ _ _ _
   | exact ih7 _ _ _ _ _ _
   | exact whistle_Alike.mono _ _
   | exact whistle_Back.mono _ _
   | exact whistle_Cheapest.mono _ _
   | exact whistle_Cost.mono _ _ _
   | exact whistle_Decode.mono _ _ _
   | exact whistle_FromLengths.mono _ _
   | exact whistle_Heard.mono _ _ _
   | exact whistle_IsPrefix.mono _ _
   | exact whistle_IsSafe.mono _ _
   | exact whistle_Kraft.mono _ _
   | exact whistle_Sound.mono _ _ _
   | exact wigeonlaw05_Long.mono _ _
   | exact wigeonref05_SameInts.mono _ _ _
   | exact LeO.none _
   | refine LeO.ite ?_ ?_
   | refine LeO.bind ?_ (fun _ => ?_)
  ·intro y0 y1 y2 y3 y4 y5 y6 y7 y8
   unfold wigeontop_TopSignals.j2
   repeat' first
   | (with_reducible exact ih0 _ _ _ _)
   | (with_reducible exact ih1 _ _ _ _)
   | (with_reducible exact ih2 _ _ _ _ _ _ _ _ _)
   | (with_reducible exact ih3 _ _ _ _)
   | (with_reducible exact ih4 _ _ _ _ _ _)
   | (with_reducible exact ih5 _ _ _)
   | (with_reducible exact ih6 _ _ _ _)
   | (with_reducible exact ih7 _ _ _ _ _ _)
   | (with_reducible exact whistle_Alike.mono _ _)
   | (with_reducible exact whistle_Back.mono _ _)
   | (with_reducible exact whistle_Cheapest.mono _ _)
   | (with_reducible exact whistle_Cost.mono _ _ _)
   | (with_reducible exact whistle_Decode.mono _ _ _)
   | (with_reducible exact whistle_FromLengths.mono _ _)
   | (with_reducible exact whistle_Heard.mono _ _ _)
   | (with_reducible exact whistle_IsPrefix.mono _ _)
   | (with_reducible exact whistle_IsSafe.mono _ _)
   | (with_reducible exact whistle_Kraft.mono _ _)
   | (with_reducible exact whistle_Sound.mono _ _ _)
   | (with_reducible exact wigeonlaw05_Long.mono _ _)
   | (with_reducible exact wigeonref05_SameInts.mono _ _ _)
   | (with_reducible exact LeO.refl _)
   | (with_reducible exact LeO.none _)
   | (with_reducible refine LeO.ite ?_ ?_)
   | (with_reducible refine LeO.bind ?_ (fun _ => ?_))
   | exact ih0 _ _ _ _
   | exact ih1 _ _ _ _
   | exact ih2 _ _ _ _ _ _ _ _ _
   | exact ih3 _ _ _ _
   | exact ih4 _ _ _ _ _ _
   | exact ih5 _ _ _
   | exact ih6 _ _ _ _
   | exact ih7 _ _ _ _ _ _
   | exact whistle_Alike.mono _ _
   | exact whistle_Back.mono _ _
   | exact whistle_Cheapest.mono _ _
   | exact whistle_Cost.mono _ _ _
   | exact whistle_Decode.mono _ _ _
   | exact whistle_FromLengths.mono _ _
   | exact whistle_Heard.mono _ _ _
   | exact whistle_IsPrefix.mono _ _
   | exact whistle_IsSafe.mono _ _
   | exact whistle_Kraft.mono _ _
   | exact whistle_Sound.mono _ _ _
   | exact wigeonlaw05_Long.mono _ _
   | exact wigeonref05_SameInts.mono _ _ _
   | exact LeO.none _
   | refine LeO.ite ?_ ?_
   | refine LeO.bind ?_ (fun _ => ?_)
  ·intro y0 y1 y2 y3
   unfold wigeontop_TopSignals.j4
   repeat' first
   | (with_reducible exact ih0 _ _ _ _)
   | (with_reducible exact ih1 _ _ _ _)
   | (with_reducible exact ih2 _ _ _ _ _ _ _ _ _)
   | (with_reducible exact ih3 _ _ _ _)
   | (with_reducible exact ih4 _ _ _ _ _ _)
   | (with_reducible exact ih5 _ _ _)
   | (with_reducible exact ih6 _ _ _ _)
   | (with_reducible exact ih7 _ _ _ _ _ _)
   | (with_reducible exact whistle_Alike.mono _ _)
   | (with_reducible exact whistle_Back.mono _ _)
   | (with_reducible exact whistle_Cheapest.mono _ _)
   | (with_reducible exact whistle_Cost.mono _ _ _)
   | (with_reducible exact whistle_Decode.mono _ _ _)
   | (with_reducible exact whistle_FromLengths.mono _ _)
   | (with_reducible exact whistle_Heard.mono _ _ _)
   | (with_reducible exact whistle_IsPrefix.mono _ _)
   | (with_reducible exact whistle_IsSafe.mono _ _)
   | (with_reducible exact whistle_Kraft.mono _ _)
   | (with_reducible exact whistle_Sound.mono _ _ _)
   | (with_reducible exact wigeonlaw05_Long.mono _ _)
   | (with_reducible exact wigeonref05_SameInts.mono _ _ _)
   | (with_reducible exact LeO.refl _)
   | (with_reducible exact LeO.none _)
   | (with_reducible refine LeO.ite ?_ ?_)
   | (with_reducible refine LeO.bind ?_ (fun _ => ?_))
   | exact ih0 _ _ _ _
   | exact ih1 _ _ _ _
   | exact ih2 _ _ _ _ _ _ _ _ _
   | exact ih3 _ _ _ _
   | exact ih4 _ _ _ _ _ _
   | exact ih5 _ _ _
   | exact ih6 _ _ _ _
   | exact ih7 _ _ _ _ _ _
   | exact whistle_Alike.mono _ _
   | exact whistle_Back.mono _ _
   | exact whistle_Cheapest.mono _ _
   | exact whistle_Cost.mono _ _ _
   | exact whistle_Decode.mono _ _ _
   | exact whistle_FromLengths.mono _ _
   | exact whistle_Heard.mono _ _ _
   | exact whistle_IsPrefix.mono _ _
   | exact whistle_IsSafe.mono _ _
   | exact whistle_Kraft.mono _ _
   | exact whistle_Sound.mono _ _ _
   | exact wigeonlaw05_Long.mono _ _
   | exact wigeonref05_SameInts.mono _ _ _
   | exact LeO.none _
   | refine LeO.ite ?_ ?_
   | refine LeO.bind ?_ (fun _ => ?_)
  ·intro y0 y1 y2 y3 y4 y5
   unfold wigeontop_TopSignals.j5
   repeat' first
   | (with_reducible exact ih0 _ _ _ _)
   | (with_reducible exact ih1 _ _ _ _)
   | (with_reducible exact ih2 _ _ _ _ _ _ _ _ _)
   | (with_reducible exact ih3 _ _ _ _)
   | (with_reducible exact ih4 _ _ _ _ _ _)
   | (with_reducible exact ih5 _ _ _)
   | (with_reducible exact ih6 _ _ _ _)
   | (with_reducible exact ih7 _ _ _ _ _ _)
   | (with_reducible exact whistle_Alike.mono _ _)
   | (with_reducible exact whistle_Back.mono _ _)
   | (with_reducible exact whistle_Cheapest.mono _ _)
   | (with_reducible exact whistle_Cost.mono _ _ _)
   | (with_reducible exact whistle_Decode.mono _ _ _)
   | (with_reducible exact whistle_FromLengths.mono _ _)
   | (with_reducible exact whistle_Heard.mono _ _ _)
   | (with_reducible exact whistle_IsPrefix.mono _ _)
   | (with_reducible exact whistle_IsSafe.mono _ _)
   | (with_reducible exact whistle_Kraft.mono _ _)
   | (with_reducible exact whistle_Sound.mono _ _ _)
   | (with_reducible exact wigeonlaw05_Long.mono _ _)
   | (with_reducible exact wigeonref05_SameInts.mono _ _ _)
   | (with_reducible exact LeO.refl _)
   | (with_reducible exact LeO.none _)
   | (with_reducible refine LeO.ite ?_ ?_)
   | (with_reducible refine LeO.bind ?_ (fun _ => ?_))
   | exact ih0 _ _ _ _
   | exact ih1 _ _ _ _
   | exact ih2 _ _ _ _ _ _ _ _ _
   | exact ih3 _ _ _ _
   | exact ih4 _ _ _ _ _ _
   | exact ih5 _ _ _
   | exact ih6 _ _ _ _
   | exact ih7 _ _ _ _ _ _
   | exact whistle_Alike.mono _ _
   | exact whistle_Back.mono _ _
   | exact whistle_Cheapest.mono _ _
   | exact whistle_Cost.mono _ _ _
   | exact whistle_Decode.mono _ _ _
   | exact whistle_FromLengths.mono _ _
   | exact whistle_Heard.mono _ _ _
   | exact whistle_IsPrefix.mono _ _
   | exact whistle_IsSafe.mono _ _
   | exact whistle_Kraft.mono _ _
   | exact whistle_Sound.mono _ _ _
   | exact wigeonlaw05_Long.mono _ _
   | exact wigeonref05_SameInts.mono _ _ _
   | exact LeO.none _
   | refine LeO.ite ?_ ?_
   | refine LeO.bind ?_ (fun _ => ?_)
  ·intro y0 y1 y2
   unfold wigeontop_TopSignals.j6
   repeat' first
   | (with_reducible exact ih0 _ _ _ _)
   | (with_reducible exact ih1 _ _ _ _)
   | (with_reducible exact ih2 _ _ _ _ _ _ _ _ _)
   | (with_reducible exact ih3 _ _ _ _)
   | (with_reducible exact ih4 _ _ _ _ _ _)
   | (with_reducible exact ih5 _ _ _)
   | (with_reducible exact ih6 _ _ _ _)
   | (with_reducible exact ih7 _ _ _ _ _ _)
   | (with_reducible exact whistle_Alike.mono _ _)
   | (with_reducible exact whistle_Back.mono _ _)
   | (with_reducible exact whistle_Cheapest.mono _ _)
   | (with_reducible exact whistle_Cost.mono _ _ _)
   | (with_reducible exact whistle_Decode.mono _ _ _)
   | (with_reducible exact whistle_FromLengths.mono _ _)
   | (with_reducible exact whistle_Heard.mono _ _ _)
   | (with_reducible exact whistle_IsPrefix.mono _ _)
   | (with_reducible exact whistle_IsSafe.mono _ _)
   | (with_reducible exact whistle_Kraft.mono _ _)
   | (with_reducible exact whistle_Sound.mono _ _ _)
   | (with_reducible exact wigeonlaw05_Long.mono _ _)
   | (with_reducible exact wigeonref05_SameInts.mono _ _ _)
   | (with_reducible exact LeO.refl _)
   | (with_reducible exact LeO.none _)
   | (with_reducible refine LeO.ite ?_ ?_)
   | (with_reducible refine LeO.bind ?_ (fun _ => ?_))
   | exact ih0 _ _ _ _
   | exact ih1 _ _ _ _
   | exact ih2 _ _ _ _ _ _ _ _ _
   | exact ih3 _ _ _ _
   | exact ih4 _ _ _ _ _ _
   | exact ih5 _ _ _
   | exact ih6 _ _ _ _
   | exact ih7 _ _ _ _ _ _
   | exact whistle_Alike.mono _ _
   | exact whistle_Back.mono _ _
   | exact whistle_Cheapest.mono _ _
   | exact whistle_Cost.mono _ _ _
   | exact whistle_Decode.mono _ _ _
   | exact whistle_FromLengths.mono _ _
   | exact whistle_Heard.mono _ _ _
   | exact whistle_IsPrefix.mono _ _
   | exact whistle_IsSafe.mono _ _
   | exact whistle_Kraft.mono _ _
   | exact whistle_Sound.mono _ _ _
   | exact wigeonlaw05_Long.mono _ _
   | exact wigeonref05_SameInts.mono _ _ _
   | exact LeO.none _
   | refine LeO.ite ?_ ?_
   | refine LeO.bind ?_ (fun _ => ?_)
  ·intro y0 y1 y2 y3
   unfold wigeontop_TopSignals.j7
   repeat' first
   | (with_reducible exact ih0 _ _ _ _)
   | (with_reducible exact ih1 _ _ _ _)
   | (with_reducible exact ih2 _ _ _ _ _ _ _ _ _)
   | (with_reducible exact ih3 _ _ _ _)
   | (with_reducible exact ih4 _ _ _ _ _ _)
   | (with_reducible exact ih5 _ _ _)
   | (with_reducible exact ih6 _ _ _ _)
   | (with_reducible exact ih7 _ _ _ _ _ _)
   | (with_reducible exact whistle_Alike.mono _ _)
   | (with_reducible exact whistle_Back.mono _ _)
   | (with_reducible exact whistle_Cheapest.mono _ _)
   | (with_reducible exact whistle_Cost.mono _ _ _)
   | (with_reducible exact whistle_Decode.mono _ _ _)
   | (with_reducible exact whistle_FromLengths.mono _ _)
   | (with_reducible exact whistle_Heard.mono _ _ _)
   | (with_reducible exact whistle_IsPrefix.mono _ _)
   | (with_reducible exact whistle_IsSafe.mono _ _)
   | (with_reducible exact whistle_Kraft.mono _ _)
   | (with_reducible exact whistle_Sound.mono _ _ _)
   | (with_reducible exact wigeonlaw05_Long.mono _ _)
   | (with_reducible exact wigeonref05_SameInts.mono _ _ _)
   | (with_reducible exact LeO.refl _)
   | (with_reducible exact LeO.none _)
   | (with_reducible refine LeO.ite ?_ ?_)
   | (with_reducible refine LeO.bind ?_ (fun _ => ?_))
   | exact ih0 _ _ _ _
   | exact ih1 _ _ _ _
   | exact ih2 _ _ _ _ _ _ _ _ _
   | exact ih3 _ _ _ _
   | exact ih4 _ _ _ _ _ _
   | exact ih5 _ _ _
   | exact ih6 _ _ _ _
   | exact ih7 _ _ _ _ _ _
   | exact whistle_Alike.mono _ _
   | exact whistle_Back.mono _ _
   | exact whistle_Cheapest.mono _ _
   | exact whistle_Cost.mono _ _ _
   | exact whistle_Decode.mono _ _ _
   | exact whistle_FromLengths.mono _ _
   | exact whistle_Heard.mono _ _ _
   | exact whistle_IsPrefix.mono _ _
   | exact whistle_IsSafe.mono _ _
   | exact whistle_Kraft.mono _ _
   | exact whistle_Sound.mono _ _ _
   | exact wigeonlaw05_Long.mono _ _
   | exact wigeonref05_SameInts.mono _ _ _
   | exact LeO.none _
   | refine LeO.ite ?_ ?_
   | refine LeO.bind ?_ (fun _ => ?_)
  ·intro y0 y1 y2 y3 y4 y5
   unfold wigeontop_TopSignals.j3
   repeat' first
   | (with_reducible exact ih0 _ _ _ _)
   | (with_reducible exact ih1 _ _ _ _)
   | (with_reducible exact ih2 _ _ _ _ _ _ _ _ _)
   | (with_reducible exact ih3 _ _ _ _)
   | (with_reducible exact ih4 _ _ _ _ _ _)
   | (with_reducible exact ih5 _ _ _)
   | (with_reducible exact ih6 _ _ _ _)
   | (with_reducible exact ih7 _ _ _ _ _ _)
   | (with_reducible exact whistle_Alike.mono _ _)
   | (with_reducible exact whistle_Back.mono _ _)
   | (with_reducible exact whistle_Cheapest.mono _ _)
   | (with_reducible exact whistle_Cost.mono _ _ _)
   | (with_reducible exact whistle_Decode.mono _ _ _)
   | (with_reducible exact whistle_FromLengths.mono _ _)
   | (with_reducible exact whistle_Heard.mono _ _ _)
   | (with_reducible exact whistle_IsPrefix.mono _ _)
   | (with_reducible exact whistle_IsSafe.mono _ _)
   | (with_reducible exact whistle_Kraft.mono _ _)
   | (with_reducible exact whistle_Sound.mono _ _ _)
   | (with_reducible exact wigeonlaw05_Long.mono _ _)
   | (with_reducible exact wigeonref05_SameInts.mono _ _ _)
   | (with_reducible exact LeO.refl _)
   | (with_reducible exact LeO.none _)
   | (with_reducible refine LeO.ite ?_ ?_)
   | (with_reducible refine LeO.bind ?_ (fun _ => ?_))
   | exact ih0 _ _ _ _
   | exact ih1 _ _ _ _
   | exact ih2 _ _ _ _ _ _ _ _ _
   | exact ih3 _ _ _ _
   | exact ih4 _ _ _ _ _ _
   | exact ih5 _ _ _
   | exact ih6 _ _ _ _
   | exact ih7 _ _ _ _ _ _
   | exact whistle_Alike.mono _ _
   | exact whistle_Back.mono _ _
   | exact whistle_Cheapest.mono _ _
   | exact whistle_Cost.mono _ _ _
   | exact whistle_Decode.mono _ _ _
   | exact whistle_FromLengths.mono _ _
   | exact whistle_Heard.mono _ _ _
   | exact whistle_IsPrefix.mono _ _
   | exact whistle_IsSafe.mono _ _
   | exact whistle_Kraft.mono _ _
   | exact whistle_Sound.mono _ _ _
   | exact wigeonlaw05_Long.mono _ _
   | exact wigeonref05_SameInts.mono _ _ _
   | exact LeO.none _
   | refine LeO.ite ?_ ?_
   | refine LeO.bind ?_ (fun _ => ?_)
theorem wigeontop_TopSignals.mono : ∀ a0 a1 a2 k, LeO (wigeontop_TopSignals.f k a0 a1 a2) (wigeontop_TopSignals.f (k + 1) a0 a1 a2) := by
 intro a0 a1 a2 k
 obtain ⟨ih0, ih1, ih2, ih3, ih4, ih5, ih6, ih7⟩ := wigeontop_TopSignals.mono_l k
 unfold wigeontop_TopSignals.f
 repeat' first
   | (with_reducible exact ih0 _ _ _ _)
   | (with_reducible exact ih1 _ _ _ _)
   | (with_reducible exact ih2 _ _ _ _ _ _ _ _ _)
   | (with_reducible exact ih3 _ _ _ _)
   | (with_reducible exact ih4 _ _ _ _ _ _)
   | (with_reducible exact ih5 _ _ _)
   | (with_reducible exact ih6 _ _ _ _)
   | (with_reducible exact ih7 _ _ _ _ _ _)
   | (with_reducible exact whistle_Alike.mono _ _)
   | (with_reducible exact whistle_Back.mono _ _)
   | (with_reducible exact whistle_Cheapest.mono _ _)
   | (with_reducible exact whistle_Cost.mono _ _ _)
   | (with_reducible exact whistle_Decode.mono _ _ _)
   | (with_reducible exact whistle_FromLengths.mono _ _)
   | (with_reducible exact whistle_Heard.mono _ _ _)
   | (with_reducible exact whistle_IsPrefix.mono _ _)
   | (with_reducible exact whistle_IsSafe.mono _ _)
   | (with_reducible exact whistle_Kraft.mono _ _)
   | (with_reducible exact whistle_Sound.mono _ _ _)
   | (with_reducible exact wigeonlaw05_Long.mono _ _)
   | (with_reducible exact wigeonref05_SameInts.mono _ _ _)
   | (with_reducible exact LeO.refl _)
   | (with_reducible exact LeO.none _)
   | (with_reducible refine LeO.ite ?_ ?_)
   | (with_reducible refine LeO.bind ?_ (fun _ => ?_))
   | exact ih0 _ _ _ _
   | exact ih1 _ _ _ _
   | exact ih2 _ _ _ _ _ _ _ _ _
   | exact ih3 _ _ _ _
   | exact ih4 _ _ _ _ _ _
   | exact ih5 _ _ _
   | exact ih6 _ _ _ _
   | exact ih7 _ _ _ _ _ _
   | exact whistle_Alike.mono _ _
   | exact whistle_Back.mono _ _
   | exact whistle_Cheapest.mono _ _
   | exact whistle_Cost.mono _ _ _
   | exact whistle_Decode.mono _ _ _
   | exact whistle_FromLengths.mono _ _
   | exact whistle_Heard.mono _ _ _
   | exact whistle_IsPrefix.mono _ _
   | exact whistle_IsSafe.mono _ _
   | exact whistle_Kraft.mono _ _
   | exact whistle_Sound.mono _ _ _
   | exact wigeonlaw05_Long.mono _ _
   | exact wigeonref05_SameInts.mono _ _ _
   | exact LeO.none _
   | refine LeO.ite ?_ ?_
   | refine LeO.bind ?_ (fun _ => ?_)
set_option maxHeartbeats 8000000 in
set_option maxRecDepth 100000 in
theorem wigeontop_TopSignals.calls (k : Nat) (A0 : Option Addr) (c0 : Nat) (l0 : List ByteArray) (A1 : Option Addr) (c1 : Nat) (l1 : List Int) (A2 : Option Addr) (c2 : Nat) (l2 : List Int) (r : Bool) (w : World) (hr0 : Kd.C Kd.string w A0 l0.length l0) (hc0 : l0.length ≤ c0) (hr1 : Kd.C (Kd.int .i64) w A1 l1.length l1) (hc1 : l1.length ≤ c1) (hr2 : Kd.C (Kd.int .i64) w A2 l2.length l2) (hc2 : l2.length ≤ c2) (h : wigeontop_TopSignals.f k l0 l1 l2 = some r) :
  Calls Try.prog 15 #[.slice A0 l0.length c0, .slice A1 l1.length c1, .slice A2 l2.length c2] w fun e w' => e = .returned (.bool r) ∧ Below w.heap.size w w' := by
 have hu32 := Try.underlying32
 have HR0 := Aside0.mk hr0
 have HC0 := Aside0.mk hc0
 clear hr0 hc0
 have HR1 := Aside0.mk hr1
 have HC1 := Aside0.mk hc1
 clear hr1 hc1
 have HR2 := Aside0.mk hr2
 have HC2 := Aside0.mk hc2
 clear hr2 hc2
 have HB := Aside0.mk (Below.refl w.heap.size w)
 have H : ((whistle_IsPrefix.f k (([(⟨#[46]⟩ : ByteArray), (⟨#[45]⟩ : ByteArray)] : List ByteArray))).bind fun bt694 => (if bt694.2 = 0 then (wigeontop_TopSignals.j0 k l0 l1 l2 (!bt694.1)) else (wigeontop_TopSignals.j0 k l0 l1 l2 true))) = some r := h
 clear h
 obtain ⟨y691, hy691⟩ : ∃ y_ : List ByteArray, y_ = (([(⟨#[46]⟩ : ByteArray), (⟨#[45]⟩ : ByteArray)] : List ByteArray)) := ⟨_, rfl⟩
 replace H : ((whistle_IsPrefix.f k y691).bind fun bt694 => (if bt694.2 = 0 then (wigeontop_TopSignals.j0 k l0 l1 l2 (!bt694.1)) else (wigeontop_TopSignals.j0 k l0 l1 l2 true))) = some r := by first | (rw [hy691]; with_reducible exact H) | (have H2_ := (Option.bind_some _ _).symm.trans H; rw [hy691]; with_reducible exact H2_) | (have H2_ := (Option.bind_some _ _).symm.trans H; with_reducible exact H2_) | with_reducible exact H | (rw [hy691]; exact H) | exact H
 have Ny691 := Aside0.mk hy691
 clear hy691
 replace H := Option.bind_eq_some_iff.mp H
 obtain ⟨⟨t694, t695⟩, A40, H⟩ := H
 replace H : (if t695 = 0 then (wigeontop_TopSignals.j0 k l0 l1 l2 (!t694)) else (wigeontop_TopSignals.j0 k l0 l1 l2 true)) = some r := H
 have A4 := Aside0.mk A40
 clear A40
 have HC5 := Aside0.mk H
 clear H
 go_enter Try.func15, Try.ntmps15
 go_upto_region 2 with (first | ((with_reducible refine gate_dst (N := 41) rfl ?_); (try (refine gate_guard (by rfl) ?_; dsimp only)); refine Kd.R_lit Kd.string _ 9 ?hg (N := 41) ?hd (xs := ([(⟨#[46]⟩ : ByteArray), (⟨#[45]⟩ : ByteArray)] : List ByteArray)) (inner := [.string (⟨#[46]⟩ : ByteArray), .string (⟨#[45]⟩ : ByteArray)]) (ok := fun _ => True) (okp := fun _ => True) ?hr ?hp (fun _ hk => hk) trivial (Below.refl _ _) (Nat.le_refl _) (by simp) ?_; (case hd => rfl); (case hg => rfl); (case hr => first | (go_simp; done) | (go_simp; rfl)); (case hp => exact (Reps.one (show Kd.M Kd.string _ _ _ (⟨#[46]⟩ : ByteArray) [.string (⟨#[46]⟩ : ByteArray)] from rfl) (Reps.one (show Kd.M Kd.string _ _ _ (⟨#[45]⟩ : ByteArray) [.string (⟨#[45]⟩ : ByteArray)] from rfl) (Reps.none _ _)))); intro v692 w6 ho7 hb hg_ hnew_; clear hg_ hnew_; (first | rw [← Ny691.out] at ho7 | (simp only [Int.reduceToNat] at ho7; rw [← Ny691.out] at ho7)); have n0_ := Aside0.mk (Kd.R_lower ho7 (below_size (by repeat (first | (with_reducible first | exact HB.out | apply below_alloc | apply pw_below_drewN | apply below_drew1) | exact HB.out)))); have n1_ := Aside0.mk (below_step (by repeat (first | (with_reducible first | exact HB.out | apply below_alloc | apply pw_below_drewN | apply below_drew1) | exact HB.out)) hb); clear HB; have HO693 := n0_; have HB := n1_; clear n0_ n1_; clear hb ho7; obtain ⟨Ao8, co8, eo8⟩ := Kd.R_slice HO693.out; subst eo8) | ((with_reducible refine gate_callee (f := 24) rfl ?_); refine goesL_ (some 42) rfl rfl Try.func24 (by kernel_rfl) rfl #[.slice Ao8 y691.length co8] rfl (by (try simp only [List.map_toArray, List.map_cons, List.map_nil]); first | done | rfl | (simp only [List.length_drop, List.length_take]; rfl)) ?_; (with_reducible refine (whistle_IsPrefix.calls k _ _ y691 t694 t695 _ ?side1 ?side2 A4.out).mono ?_); (case side1 => repeat (first | exact (Kd.R_reads' HO693.out).2.2 | (with_reducible refine Kd.C_alloc ?_ _) | (with_reducible refine Kd.C_drewN ?_ _) | (with_reducible refine Kd.C_drew ?_))); (case side2 => exact (Kd.R_reads' HO693.out).2.1); rintro e w9 ⟨rfl, hb⟩; refine ⟨_, rfl, ?_⟩; have n0_ := Aside0.mk (Kd.R_below (by (with_reducible repeat (first | apply Kd.R_alloc | apply Kd.R_drewN | apply Kd.R_drew)); exact HO693.out) hb); have n1_ := Aside0.mk (below_step (by repeat (first | (with_reducible first | exact HB.out | apply below_alloc | apply pw_below_drewN | apply below_drew1) | exact HB.out)) hb); clear HO693; clear HB; have HO693 := n0_; have HB := n1_; clear n0_ n1_; (try clear hb); (try clear hb2); (try clear hk); (try clear hi)))
 (try simp only [Act.put, List.setIfInBounds_toArray, List.set_cons_zero, List.set_cons_succ])
 go_cut [50] (fun v50 wc => ∃ (kq : Nat) (x50_4 : Bool), v50 = .bool x50_4 ∧ Aside0 (wigeontop_TopSignals.j0 kq l0 l1 l2 x50_4 = some r) ∧ Aside0 (kq ≤ k) ∧ Aside0 (Below w.heap.size w wc))
 case first =>
  as_aux_lemma =>
   have H := HC5.out
   clear HC5
   by_cases c10 : t695 = 0
   ·rw [if_pos c10] at H
    have c10b0 : (t695 == 0) = true := beq_iff_eq.mpr c10
    have c10b1 : (t695 != 0) = false := bne_eq_false_iff_eq.mpr c10
    clear c10
    (first | rw [c10b0] | (simp only [i64_w, i32_w]; rw [c10b0]) | skip)
    have H' := Aside0.mk H
    clear H
    go_wp2
    go_meet
    case rel => exact ⟨_, (!t694), (by first | rfl | (simp; done) | (simp [*]; done)), H', ⟨by first | omega | exact Nat.le_refl _⟩, ⟨by repeat (first | (with_reducible first | exact HB.out | apply below_alloc | apply pw_below_drewN | apply below_drew1) | exact HB.out)⟩⟩
   ·rw [if_neg c10] at H
    exact absurd H (by rw [wigeontop_TopSignals.j0.dead]; simp)
 case rest =>
  as_aux_lemma =>
   clear HC5
   try clear c1
   try clear c2
   try clear p2
   try clear c10
   try clear c10b0
   try clear c10b1
   obtain ⟨kq, x50_4, rfl, HA, HJ4, HB⟩ := hcut
   cases kq with
   | zero => exact absurd HA.out (by simp [wigeontop_TopSignals.j0])
   | succ kj4 =>
    have H := HA.out
    clear HA
    simp only [wigeontop_TopSignals.j0] at H
    by_cases c11 : x50_4 = true
    ·subst c11
     have H1 : (none) = some r := by rw [if_pos rfl] at H; exact H
     exact absurd H1 (by simp)
    ·replace c11 := Bool.eq_false_iff.mpr c11
     subst c11
     have H1 : ((wigeonlaw05_Long.f kj4 l0).bind fun t696 => (if t696 = true then (wigeontop_TopSignals.j1 kj4 l0 l1 l2 true) else (if (l1.length : Int) > 500 then (wigeontop_TopSignals.j1 kj4 l0 l1 l2 true) else (wigeontop_TopSignals.j1 kj4 l0 l1 l2 (decide ((l2.length : Int) > 60)))))) = some r := by rw [if_neg (show ¬ (false = true) by decide)] at H; exact H
     clear H
     have H := H1
     clear H1
     have HC12 := Aside0.mk H
     clear H
     go_upto_region 4 with (fail)
     go_cut [62] (fun v62 wc => ∃ (kq : Nat) (x62_11 : Bool), v62 = .bool x62_11 ∧ Aside0 (wigeontop_TopSignals.j1 kq l0 l1 l2 x62_11 = some r) ∧ Aside0 (kq ≤ kj4) ∧ Aside0 (Below w.heap.size w wc))
     case first =>
      as_aux_lemma =>
       have H := HC12.out
       clear HC12
       replace H := Option.bind_eq_some_iff.mp H
       obtain ⟨t696, A130, H⟩ := H
       replace H : (if t696 = true then (wigeontop_TopSignals.j1 kj4 l0 l1 l2 true) else (if (l1.length : Int) > 500 then (wigeontop_TopSignals.j1 kj4 l0 l1 l2 true) else (wigeontop_TopSignals.j1 kj4 l0 l1 l2 (decide ((l2.length : Int) > 60))))) = some r := H
       have A13 := Aside0.mk A130
       clear A130
       by_cases c14 : t696 = true
       ·subst c14
        have H1 : (wigeontop_TopSignals.j1 kj4 l0 l1 l2 true) = some r := by rw [if_pos rfl] at H; exact H
        clear H
        have H := H1
        clear H1
        have H' := Aside0.mk H
        clear H
        go_wp2_with (first | ((with_reducible refine gate_callee (f := 16) rfl ?_); refine goesL_ (some 52) rfl rfl Try.func16 (by kernel_rfl) rfl #[.slice A0 l0.length c0] rfl (by (try simp only [List.map_toArray, List.map_cons, List.map_nil]); first | done | rfl | (simp only [List.length_drop, List.length_take]; rfl)) ?_; (with_reducible refine (wigeonlaw05_Long.calls kj4 _ _ l0 true _ ?side1 ?side2 A13.out).mono ?_); (case side1 => repeat (first | exact (Kd.C_below HR0.out HB.out) | (with_reducible refine Kd.C_alloc ?_ _) | (with_reducible refine Kd.C_drewN ?_ _) | (with_reducible refine Kd.C_drew ?_))); (case side2 => exact HC0.out); rintro e w' ⟨rfl, ⟨nd, rfl⟩⟩; refine ⟨_, rfl, ?_⟩))
        go_meet
        case rel => exact ⟨_, (true), (by first | rfl | (simp; done) | (simp [*]; done)), H', ⟨by have := HJ4.out; first | omega | exact Nat.le_refl _⟩, ⟨by repeat (first | (with_reducible first | exact HB.out | apply below_alloc | apply pw_below_drewN | apply below_drew1) | exact HB.out)⟩⟩
       ·replace c14 := Bool.eq_false_iff.mpr c14
        subst c14
        have H1 : (if (l1.length : Int) > 500 then (wigeontop_TopSignals.j1 kj4 l0 l1 l2 true) else (wigeontop_TopSignals.j1 kj4 l0 l1 l2 (decide ((l2.length : Int) > 60)))) = some r := by rw [if_neg (show ¬ (false = true) by decide)] at H; exact H
        clear H
        have H := H1
        clear H1
        by_cases c15 : (l1.length : Int) > 500
        ·rw [if_pos c15] at H
         have c15b0 : decide (500 < (l1.length : Int)) = true := decide_eq_true c15
         have c15b1 : decide (500 < l1.length) = true := decide_eq_true (by omega)
         clear c15
         (first | rw [c15b0] | (simp only [i64_w, i32_w]; rw [c15b0]) | skip)
         have H' := Aside0.mk H
         clear H
         go_wp2_with (first | ((with_reducible refine gate_callee (f := 16) rfl ?_); refine goesL_ (some 52) rfl rfl Try.func16 (by kernel_rfl) rfl #[.slice A0 l0.length c0] rfl (by (try simp only [List.map_toArray, List.map_cons, List.map_nil]); first | done | rfl | (simp only [List.length_drop, List.length_take]; rfl)) ?_; (with_reducible refine (wigeonlaw05_Long.calls kj4 _ _ l0 false _ ?side1 ?side2 A13.out).mono ?_); (case side1 => repeat (first | exact (Kd.C_below HR0.out HB.out) | (with_reducible refine Kd.C_alloc ?_ _) | (with_reducible refine Kd.C_drewN ?_ _) | (with_reducible refine Kd.C_drew ?_))); (case side2 => exact HC0.out); rintro e w' ⟨rfl, ⟨nd, rfl⟩⟩; refine ⟨_, rfl, ?_⟩))
         go_meet
         case rel => exact ⟨_, (true), (by first | rfl | (simp; done) | (simp [*]; done)), H', ⟨by have := HJ4.out; first | omega | exact Nat.le_refl _⟩, ⟨by repeat (first | (with_reducible first | exact HB.out | apply below_alloc | apply pw_below_drewN | apply below_drew1) | exact HB.out)⟩⟩
        ·rw [if_neg c15] at H
         have c15b0 : decide (500 < (l1.length : Int)) = false := decide_eq_false c15
         have c15b1 : decide (500 < l1.length) = false := decide_eq_false (by omega)
         clear c15
         (first | rw [c15b0] | (simp only [i64_w, i32_w]; rw [c15b0]) | skip)
         have H' := Aside0.mk H
         clear H
         go_wp2_with (first | ((with_reducible refine gate_callee (f := 16) rfl ?_); refine goesL_ (some 52) rfl rfl Try.func16 (by kernel_rfl) rfl #[.slice A0 l0.length c0] rfl (by (try simp only [List.map_toArray, List.map_cons, List.map_nil]); first | done | rfl | (simp only [List.length_drop, List.length_take]; rfl)) ?_; (with_reducible refine (wigeonlaw05_Long.calls kj4 _ _ l0 false _ ?side1 ?side2 A13.out).mono ?_); (case side1 => repeat (first | exact (Kd.C_below HR0.out HB.out) | (with_reducible refine Kd.C_alloc ?_ _) | (with_reducible refine Kd.C_drewN ?_ _) | (with_reducible refine Kd.C_drew ?_))); (case side2 => exact HC0.out); rintro e w' ⟨rfl, ⟨nd, rfl⟩⟩; refine ⟨_, rfl, ?_⟩))
         go_meet
         case rel => exact ⟨_, (decide ((l2.length : Int) > 60)), (by first | rfl | (simp; done) | (simp [*]; done)), H', ⟨by have := HJ4.out; first | omega | exact Nat.le_refl _⟩, ⟨by repeat (first | (with_reducible first | exact HB.out | apply below_alloc | apply pw_below_drewN | apply below_drew1) | exact HB.out)⟩⟩
     case rest =>
      as_aux_lemma =>
       clear HC12
       try clear c1
       try clear c2
       try clear p2
       try clear c10
       try clear c10b0
       try clear c10b1
       try clear c11
       try clear c14
       try clear c15
       try clear c15b0
       try clear c15b1
       try clear p2
       obtain ⟨kq, x62_11, rfl, HA, HJ11, HB⟩ := hcut
       cases kq with
       | zero => exact absurd HA.out (by simp [wigeontop_TopSignals.j1])
       | succ kj11 =>
        have H := HA.out
        clear HA
        simp only [wigeontop_TopSignals.j1] at H
        by_cases c16 : x62_11 = true
        ·subst c16
         have H1 : (some true) = some r := by rw [if_pos rfl] at H; exact H
         clear H
         have H := H1
         clear H1
         obtain rfl := Option.some.inj H
         go_wp2
         go_ret
         exact ⟨by first | rfl | (simp [errW_none, errW_some] <;> rfl) | (simp [*, errW_none, errW_some] <;> rfl), by repeat (first | (with_reducible first | exact HB.out | apply below_alloc | apply pw_below_drewN | apply below_drew1) | exact HB.out)⟩
        ·replace c16 := Bool.eq_false_iff.mpr c16
         subst c16
         have H1 : ((whistle_IsSafe.f kj11 l0).bind fun bt697 => ((whistle_Alike.f kj11 l0).bind fun bt699 => (if bt697.2 = bt699.2.2.2 then (if (bt699.2.2.1 == bt697.1) = true then (wigeontop_TopSignals.j2 kj11 l0 l1 l2 bt697.1 bt697.2 bt699.1 bt699.2.1 bt699.2.2.1 (bt697.2 == 0)) else (wigeontop_TopSignals.j2 kj11 l0 l1 l2 bt697.1 bt697.2 bt699.1 bt699.2.1 bt699.2.2.1 false)) else (wigeontop_TopSignals.j2 kj11 l0 l1 l2 bt697.1 bt697.2 bt699.1 bt699.2.1 bt699.2.2.1 true)))) = some r := by rw [if_neg (show ¬ (false = true) by decide)] at H; exact H
         clear H
         have H := H1
         clear H1
         replace H := Option.bind_eq_some_iff.mp H
         obtain ⟨⟨t697, t698⟩, A170, H⟩ := H
         replace H : ((whistle_Alike.f kj11 l0).bind fun bt699 => (if t698 = bt699.2.2.2 then (if (bt699.2.2.1 == t697) = true then (wigeontop_TopSignals.j2 kj11 l0 l1 l2 t697 t698 bt699.1 bt699.2.1 bt699.2.2.1 (t698 == 0)) else (wigeontop_TopSignals.j2 kj11 l0 l1 l2 t697 t698 bt699.1 bt699.2.1 bt699.2.2.1 false)) else (wigeontop_TopSignals.j2 kj11 l0 l1 l2 t697 t698 bt699.1 bt699.2.1 bt699.2.2.1 true))) = some r := H
         have A17 := Aside0.mk A170
         clear A170
         replace H := Option.bind_eq_some_iff.mp H
         obtain ⟨⟨t699, t700, t701, t702⟩, A180, H⟩ := H
         replace H : (if t698 = t702 then (if (t701 == t697) = true then (wigeontop_TopSignals.j2 kj11 l0 l1 l2 t697 t698 t699 t700 t701 (t698 == 0)) else (wigeontop_TopSignals.j2 kj11 l0 l1 l2 t697 t698 t699 t700 t701 false)) else (wigeontop_TopSignals.j2 kj11 l0 l1 l2 t697 t698 t699 t700 t701 true)) = some r := H
         have A18 := Aside0.mk A180
         clear A180
         have HC19 := Aside0.mk H
         clear H
         go_upto_region 8 with (first | ((with_reducible refine gate_callee (f := 21) rfl ?_); refine goesL_ (some 65) rfl rfl Try.func21 (by kernel_rfl) rfl #[.slice A0 l0.length c0] rfl (by (try simp only [List.map_toArray, List.map_cons, List.map_nil]); first | done | rfl | (simp only [List.length_drop, List.length_take]; rfl)) ?_; (with_reducible refine (whistle_IsSafe.calls kj11 _ _ l0 t697 t698 _ ?side1 ?side2 A17.out).mono ?_); (case side1 => repeat (first | exact (Kd.C_below HR0.out HB.out) | (with_reducible refine Kd.C_alloc ?_ _) | (with_reducible refine Kd.C_drewN ?_ _) | (with_reducible refine Kd.C_drew ?_))); (case side2 => exact HC0.out); rintro e w20 ⟨rfl, hb⟩; refine ⟨_, rfl, ?_⟩; have n0_ := Aside0.mk (below_step (by repeat (first | (with_reducible first | exact HB.out | apply below_alloc | apply pw_below_drewN | apply below_drew1) | exact HB.out)) hb); clear HB; have HB := n0_; clear n0_; (try clear hb); (try clear hb2); (try clear hk); (try clear hi)) | ((with_reducible refine gate_callee (f := 38) rfl ?_); refine goesL_ (some 70) rfl rfl Try.func38 (by kernel_rfl) rfl #[.slice A0 l0.length c0] rfl (by (try simp only [List.map_toArray, List.map_cons, List.map_nil]); first | done | rfl | (simp only [List.length_drop, List.length_take]; rfl)) ?_; (with_reducible refine (whistle_Alike.calls kj11 _ _ l0 t699 t700 t701 t702 _ ?side1 ?side2 A18.out).mono ?_); (case side1 => repeat (first | exact (Kd.C_below HR0.out HB.out) | (with_reducible refine Kd.C_alloc ?_ _) | (with_reducible refine Kd.C_drewN ?_ _) | (with_reducible refine Kd.C_drew ?_))); (case side2 => exact HC0.out); rintro e w21 ⟨v703, v705, rfl, ho0, ho1, hb⟩; refine ⟨_, rfl, ?_⟩; have n0_ := Aside0.mk (Kd.R_lower ho0 (below_size (by repeat (first | (with_reducible first | exact HB.out | apply below_alloc | apply pw_below_drewN | apply below_drew1) | exact HB.out)))); have n1_ := Aside0.mk (Kd.R_lower ho1 (below_size (by repeat (first | (with_reducible first | exact HB.out | apply below_alloc | apply pw_below_drewN | apply below_drew1) | exact HB.out)))); have n2_ := Aside0.mk (below_step (by repeat (first | (with_reducible first | exact HB.out | apply below_alloc | apply pw_below_drewN | apply below_drew1) | exact HB.out)) hb); clear HB; have HO704 := n0_; have HO706 := n1_; have HB := n2_; clear n0_ n1_ n2_; (try clear hb); (try clear hb2); (try clear hk); (try clear hi); (try clear ho0); (try clear ho1)))
         (try simp only [Act.put, List.setIfInBounds_toArray, List.set_cons_zero, List.set_cons_succ])
         go_cut [86] (fun v86 wc => ∃ (kq : Nat) (x86_18 : Bool), v86 = .bool x86_18 ∧ Aside0 (wigeontop_TopSignals.j2 kq l0 l1 l2 t697 t698 t699 t700 t701 x86_18 = some r) ∧ Aside0 (kq ≤ kj11) ∧ Aside0 (Kd.R (Kd.int .i64) 3 wc w.heap.size (fun k_ => some k_ ≠ (v705 : Value).ownBlock) v703 t699) ∧ Aside0 (Kd.R (Kd.int .i64) 3 wc w.heap.size (fun k_ => some k_ ≠ (v703 : Value).ownBlock) v705 t700) ∧ Aside0 (Below w.heap.size w wc))
         case first =>
          as_aux_lemma =>
           have H := HC19.out
           clear HC19
           by_cases c22 : t698 = t702
           ·rw [if_pos c22] at H
            have c22b0 : (t698 == t702) = true := beq_iff_eq.mpr c22
            have c22b1 : (t698 != t702) = false := bne_eq_false_iff_eq.mpr c22
            clear c22
            (first | rw [c22b0] | (simp only [i64_w, i32_w]; rw [c22b0]) | skip)
            by_cases c23 : (t701 == t697) = true
            ·rw [if_pos c23] at H
             have c23b0 : (t701 == t697) = true := c23
             (try (have c23b1 : decide (t701 = t697) = true := by simpa using c23))
             (try (have c23b2 : (t701 == t697) = true := by simpa using c23))
             clear c23
             have H' := Aside0.mk H
             clear H
             go_wp2
             go_meet
             case rel => exact ⟨_, ((t698 == 0)), (by first | rfl | (simp; done) | (simp [*]; done)), H', ⟨by have := HJ4.out; have := HJ11.out; first | omega | exact Nat.le_refl _⟩, ⟨by (with_reducible repeat (first | apply Kd.R_alloc | apply Kd.R_drewN | apply Kd.R_drew)); exact HO704.out⟩, ⟨by (with_reducible repeat (first | apply Kd.R_alloc | apply Kd.R_drewN | apply Kd.R_drew)); exact HO706.out⟩, ⟨by repeat (first | (with_reducible first | exact HB.out | apply below_alloc | apply pw_below_drewN | apply below_drew1) | exact HB.out)⟩⟩
            ·rw [if_neg c23] at H
             have c23b0 : (t701 == t697) = false := by simpa using c23
             (try (have c23b1 : decide (t701 = t697) = false := by simpa using c23))
             (try (have c23b2 : (t701 == t697) = false := by simpa using c23))
             (try (have c23b3 : ¬ (t701 = t697) := by simpa using c23))
             clear c23
             have H' := Aside0.mk H
             clear H
             go_wp2
             go_meet
             case rel => exact ⟨_, (false), (by first | rfl | (simp; done) | (simp [*]; done)), H', ⟨by have := HJ4.out; have := HJ11.out; first | omega | exact Nat.le_refl _⟩, ⟨by (with_reducible repeat (first | apply Kd.R_alloc | apply Kd.R_drewN | apply Kd.R_drew)); exact HO704.out⟩, ⟨by (with_reducible repeat (first | apply Kd.R_alloc | apply Kd.R_drewN | apply Kd.R_drew)); exact HO706.out⟩, ⟨by repeat (first | (with_reducible first | exact HB.out | apply below_alloc | apply pw_below_drewN | apply below_drew1) | exact HB.out)⟩⟩
           ·rw [if_neg c22] at H
            exact absurd H (by rw [wigeontop_TopSignals.j2.dead]; simp)
         case rest =>
          as_aux_lemma =>
           clear HC19
           try clear c1
           try clear c2
           try clear p2
           try clear c3
           try clear c10
           try clear c10b0
           try clear c10b1
           try clear c11
           try clear c14
           try clear c15
           try clear c15b0
           try clear c15b1
           try clear c16
           try clear c21
           try clear c22
           try clear c22b0
           try clear c22b1
           try clear c23
           try clear c23b0
           try clear c23b1
           try clear c23b2
           try clear p2
           obtain ⟨kq, x86_18, rfl, HA, HJ18, HO_11, HO_12, HB⟩ := hcut
           cases kq with
           | zero => exact absurd HA.out (by simp [wigeontop_TopSignals.j2])
           | succ kj18 =>
            have H := HA.out
            clear HA
            simp only [wigeontop_TopSignals.j2] at H
            by_cases c24 : x86_18 = true
            ·subst c24
             have H1 : (none) = some r := by rw [if_pos rfl] at H; exact H
             exact absurd H1 (by simp)
            ·replace c24 := Bool.eq_false_iff.mpr c24
             subst c24
             have H1 : (if t698 = 0 then (if t701 = true then ((whistle_Sound.f kj18 l0 t699).bind fun bt707 => ((whistle_Sound.f kj18 l0 t700).bind fun bt709 => (if bt707.2 = 0 then (if bt709.2 = 0 then (if bt707.1.toList = bt709.1.toList then (if bt707.1.toList = ([] : List UInt8) then (wigeontop_TopSignals.j3 kj18 l0 l1 l2 t697 bt707.1 true) else ((wigeonref05_SameInts.f kj18 t699 t700).bind fun t711 => (wigeontop_TopSignals.j3 kj18 l0 l1 l2 t697 bt707.1 t711))) else (wigeontop_TopSignals.j3 kj18 l0 l1 l2 t697 bt707.1 true)) else (wigeontop_TopSignals.j3 kj18 l0 l1 l2 t697 bt707.1 true)) else (wigeontop_TopSignals.j3 kj18 l0 l1 l2 t697 bt707.1 true)))) else (wigeontop_TopSignals.j4 kj18 l0 l1 l2 t697)) else (if t697 = true then (none) else (some (!t701)))) = some r := by rw [if_neg (show ¬ (false = true) by decide)] at H; exact H
             clear H
             have H := H1
             clear H1
             by_cases c25 : t698 = 0
             ·rw [if_pos c25] at H
              have c25b0 : (t698 == 0) = true := beq_iff_eq.mpr c25
              have c25b1 : (t698 != 0) = false := bne_eq_false_iff_eq.mpr c25
              clear c25
              have HC26 := Aside0.mk H
              clear H
              go_upto_if 95 with (fail)
              go_cut [] (fun wc => ∃ (kq : Nat), Aside0 (wigeontop_TopSignals.j4 kq l0 l1 l2 t697 = some r) ∧ Aside0 (kq ≤ kj18) ∧ Aside0 (Below w.heap.size w wc))
              case first =>
               as_aux_lemma =>
                have H := HC26.out
                clear HC26
                by_cases c27 : t701 = true
                ·subst c27
                 have H1 : ((whistle_Sound.f kj18 l0 t699).bind fun bt707 => ((whistle_Sound.f kj18 l0 t700).bind fun bt709 => (if bt707.2 = 0 then (if bt709.2 = 0 then (if bt707.1.toList = bt709.1.toList then (if bt707.1.toList = ([] : List UInt8) then (wigeontop_TopSignals.j3 kj18 l0 l1 l2 t697 bt707.1 true) else ((wigeonref05_SameInts.f kj18 t699 t700).bind fun t711 => (wigeontop_TopSignals.j3 kj18 l0 l1 l2 t697 bt707.1 t711))) else (wigeontop_TopSignals.j3 kj18 l0 l1 l2 t697 bt707.1 true)) else (wigeontop_TopSignals.j3 kj18 l0 l1 l2 t697 bt707.1 true)) else (wigeontop_TopSignals.j3 kj18 l0 l1 l2 t697 bt707.1 true)))) = some r := by rw [if_pos rfl] at H; exact H
                 clear H
                 have H := H1
                 clear H1
                 replace H := Option.bind_eq_some_iff.mp H
                 obtain ⟨⟨t707, t708⟩, A280, H⟩ := H
                 replace H : ((whistle_Sound.f kj18 l0 t700).bind fun bt709 => (if t708 = 0 then (if bt709.2 = 0 then (if t707.toList = bt709.1.toList then (if t707.toList = ([] : List UInt8) then (wigeontop_TopSignals.j3 kj18 l0 l1 l2 t697 t707 true) else ((wigeonref05_SameInts.f kj18 t699 t700).bind fun t711 => (wigeontop_TopSignals.j3 kj18 l0 l1 l2 t697 t707 t711))) else (wigeontop_TopSignals.j3 kj18 l0 l1 l2 t697 t707 true)) else (wigeontop_TopSignals.j3 kj18 l0 l1 l2 t697 t707 true)) else (wigeontop_TopSignals.j3 kj18 l0 l1 l2 t697 t707 true))) = some r := H
                 have A28 := Aside0.mk A280
                 clear A280
                 replace H := Option.bind_eq_some_iff.mp H
                 obtain ⟨⟨t709, t710⟩, A290, H⟩ := H
                 replace H : (if t708 = 0 then (if t710 = 0 then (if t707.toList = t709.toList then (if t707.toList = ([] : List UInt8) then (wigeontop_TopSignals.j3 kj18 l0 l1 l2 t697 t707 true) else ((wigeonref05_SameInts.f kj18 t699 t700).bind fun t711 => (wigeontop_TopSignals.j3 kj18 l0 l1 l2 t697 t707 t711))) else (wigeontop_TopSignals.j3 kj18 l0 l1 l2 t697 t707 true)) else (wigeontop_TopSignals.j3 kj18 l0 l1 l2 t697 t707 true)) else (wigeontop_TopSignals.j3 kj18 l0 l1 l2 t697 t707 true)) = some r := H
                 have A29 := Aside0.mk A290
                 clear A290
                 have HC30 := Aside0.mk H
                 clear H
                 obtain ⟨Ao31, co31, eo31⟩ := Kd.R_slice HO_11.out
                 subst eo31
                 go_upto_region 15 with (first | ((with_reducible refine gate_callee (f := 30) rfl ?_); refine goesL_ (some 99) rfl rfl Try.func30 (by kernel_rfl) rfl #[.slice A0 l0.length c0, .slice Ao31 t699.length co31] rfl (by (try simp only [List.map_toArray, List.map_cons, List.map_nil]); first | done | rfl | (simp only [List.length_drop, List.length_take]; rfl)) ?_; (with_reducible refine (whistle_Sound.calls kj18 _ _ l0 _ _ t699 t707 t708 _ ?side1 ?side2 ?side3 ?side4 A28.out).mono ?_); (case side1 => repeat (first | exact (Kd.C_below HR0.out HB.out) | (with_reducible refine Kd.C_alloc ?_ _) | (with_reducible refine Kd.C_drewN ?_ _) | (with_reducible refine Kd.C_drew ?_))); (case side2 => exact HC0.out); (case side3 => repeat (first | exact (Kd.R_reads' HO_11.out).2.2 | (with_reducible refine Kd.C_alloc ?_ _) | (with_reducible refine Kd.C_drewN ?_ _) | (with_reducible refine Kd.C_drew ?_))); (case side4 => exact (Kd.R_reads' HO_11.out).2.1); rintro e w32 ⟨rfl, hb⟩; refine ⟨_, rfl, ?_⟩; have n0_ := Aside0.mk (Kd.R_below (by (with_reducible repeat (first | apply Kd.R_alloc | apply Kd.R_drewN | apply Kd.R_drew)); exact HO_11.out) hb); have n1_ := Aside0.mk (Kd.R_below (by (with_reducible repeat (first | apply Kd.R_alloc | apply Kd.R_drewN | apply Kd.R_drew)); exact HO_12.out) hb); have n2_ := Aside0.mk (below_step (by repeat (first | (with_reducible first | exact HB.out | apply below_alloc | apply pw_below_drewN | apply below_drew1) | exact HB.out)) hb); clear HO_11; clear HO_12; clear HB; have HO_11 := n0_; have HO_12 := n1_; have HB := n2_; clear n0_ n1_ n2_; (try clear hb); (try clear hb2); (try clear hk); (try clear hi); obtain ⟨Ao33, co33, eo33⟩ := Kd.R_slice HO_12.out; subst eo33) | ((with_reducible refine gate_callee (f := 30) rfl ?_); refine goesL_ (some 105) rfl rfl Try.func30 (by kernel_rfl) rfl #[.slice A0 l0.length c0, .slice Ao33 t700.length co33] rfl (by (try simp only [List.map_toArray, List.map_cons, List.map_nil]); first | done | rfl | (simp only [List.length_drop, List.length_take]; rfl)) ?_; (with_reducible refine (whistle_Sound.calls kj18 _ _ l0 _ _ t700 t709 t710 _ ?side1 ?side2 ?side3 ?side4 A29.out).mono ?_); (case side1 => repeat (first | exact (Kd.C_below HR0.out HB.out) | (with_reducible refine Kd.C_alloc ?_ _) | (with_reducible refine Kd.C_drewN ?_ _) | (with_reducible refine Kd.C_drew ?_))); (case side2 => exact HC0.out); (case side3 => repeat (first | exact (Kd.R_reads' HO_12.out).2.2 | (with_reducible refine Kd.C_alloc ?_ _) | (with_reducible refine Kd.C_drewN ?_ _) | (with_reducible refine Kd.C_drew ?_))); (case side4 => exact (Kd.R_reads' HO_12.out).2.1); rintro e w34 ⟨rfl, hb⟩; refine ⟨_, rfl, ?_⟩; have n0_ := Aside0.mk (Kd.R_below (by (with_reducible repeat (first | apply Kd.R_alloc | apply Kd.R_drewN | apply Kd.R_drew)); exact HO_11.out) hb); have n1_ := Aside0.mk (Kd.R_below (by (with_reducible repeat (first | apply Kd.R_alloc | apply Kd.R_drewN | apply Kd.R_drew)); exact HO_12.out) hb); have n2_ := Aside0.mk (below_step (by repeat (first | (with_reducible first | exact HB.out | apply below_alloc | apply pw_below_drewN | apply below_drew1) | exact HB.out)) hb); clear HO_11; clear HO_12; clear HB; have HO_11 := n0_; have HO_12 := n1_; have HB := n2_; clear n0_ n1_ n2_; (try clear hb); (try clear hb2); (try clear hk); (try clear hi)))
                 (try simp only [Act.put, List.setIfInBounds_toArray, List.set_cons_zero, List.set_cons_succ])
                 go_cut [127] (fun v127 wc => ∃ (kq : Nat) (x127_29 : Bool), v127 = .bool x127_29 ∧ Aside0 (wigeontop_TopSignals.j3 kq l0 l1 l2 t697 t707 x127_29 = some r) ∧ Aside0 (kq ≤ kj18) ∧ Aside0 (Below w.heap.size w wc))
                 case first =>
                  as_aux_lemma =>
                   have H := HC30.out
                   clear HC30
                   by_cases c35 : t708 = 0
                   ·rw [if_pos c35] at H
                    have c35b0 : (t708 == 0) = true := beq_iff_eq.mpr c35
                    have c35b1 : (t708 != 0) = false := bne_eq_false_iff_eq.mpr c35
                    clear c35
                    (first | rw [c35b0] | (simp only [i64_w, i32_w]; rw [c35b0]) | skip)
                    by_cases c36 : t710 = 0
                    ·rw [if_pos c36] at H
                     have c36b0 : (t710 == 0) = true := beq_iff_eq.mpr c36
                     have c36b1 : (t710 != 0) = false := bne_eq_false_iff_eq.mpr c36
                     clear c36
                     by_cases c37 : t707.toList = t709.toList
                     ·rw [if_pos c37] at H
                      have c37b0 : (t707.toList == t709.toList) = true := beq_iff_eq.mpr c37
                      have c37b1 : (t707.toList != t709.toList) = false := bne_eq_false_iff_eq.mpr c37
                      clear c37
                      by_cases c38 : t707.toList = ([] : List UInt8)
                      ·rw [if_pos c38] at H
                       exact absurd H (by rw [wigeontop_TopSignals.j3.dead]; simp)
                      ·rw [if_neg c38] at H
                       have c38b0 : (t707.toList == ([] : List UInt8)) = false := beq_eq_false_iff_ne.mpr c38
                       have c38b1 : (t707.toList != ([] : List UInt8)) = true := bne_iff_ne.mpr c38
                       replace H := Option.bind_eq_some_iff.mp H
                       obtain ⟨t711, A390, H⟩ := H
                       replace H : (wigeontop_TopSignals.j3 kj18 l0 l1 l2 t697 t707 t711) = some r := H
                       have A39 := Aside0.mk A390
                       clear A390
                       have H' := Aside0.mk H
                       clear H
                       go_wp2_with (first | (go_at_call 51; (with_reducible refine (wigeonref05_SameInts.calls kj18 _ _ t699 _ _ t700 t711 _ ?side1 ?side2 ?side3 ?side4 A39.out).mono ?_); (case side1 => repeat (first | exact (Kd.R_reads' HO_11.out).2.2 | (with_reducible refine Kd.C_alloc ?_ _) | (with_reducible refine Kd.C_drewN ?_ _) | (with_reducible refine Kd.C_drew ?_))); (case side2 => exact (Kd.R_reads' HO_11.out).2.1); (case side3 => repeat (first | exact (Kd.R_reads' HO_12.out).2.2 | (with_reducible refine Kd.C_alloc ?_ _) | (with_reducible refine Kd.C_drewN ?_ _) | (with_reducible refine Kd.C_drew ?_))); (case side4 => exact (Kd.R_reads' HO_12.out).2.1); rintro e w' ⟨rfl, ⟨nd, rfl⟩⟩))
                       go_meet
                       case rel => exact ⟨_, (t711), (by first | rfl | (simp; done) | (simp [*]; done)), H', ⟨by have := HJ4.out; have := HJ11.out; have := HJ18.out; first | omega | exact Nat.le_refl _⟩, ⟨by repeat (first | (with_reducible first | exact HB.out | apply below_alloc | apply pw_below_drewN | apply below_drew1) | exact HB.out)⟩⟩
                     ·rw [if_neg c37] at H
                      exact absurd H (by rw [wigeontop_TopSignals.j3.dead]; simp)
                    ·rw [if_neg c36] at H
                     exact absurd H (by rw [wigeontop_TopSignals.j3.dead]; simp)
                   ·rw [if_neg c35] at H
                    exact absurd H (by rw [wigeontop_TopSignals.j3.dead]; simp)
                 case rest =>
                  as_aux_lemma =>
                   clear HC30
                   try clear c1
                   try clear c2
                   try clear p2
                   try clear c3
                   try clear c10
                   try clear c10b0
                   try clear c10b1
                   try clear c11
                   try clear c14
                   try clear c15
                   try clear c15b0
                   try clear c15b1
                   try clear c16
                   try clear c21
                   try clear c22
                   try clear c22b0
                   try clear c22b1
                   try clear c23
                   try clear c23b0
                   try clear c23b1
                   try clear c23b2
                   try clear c24
                   try clear c25
                   try clear c25b0
                   try clear c25b1
                   try clear c27
                   try clear c30
                   try clear c35
                   try clear c35b0
                   try clear c35b1
                   try clear c36
                   try clear c36b0
                   try clear c36b1
                   try clear c37
                   try clear c37b0
                   try clear c37b1
                   try clear c38
                   try clear c38b0
                   try clear c38b1
                   try clear p2
                   obtain ⟨kq, x127_29, rfl, HA, HJ29, HB⟩ := hcut
                   cases kq with
                   | zero => exact absurd HA.out (by simp [wigeontop_TopSignals.j3])
                   | succ kj29 =>
                    have H := HA.out
                    clear HA
                    simp only [wigeontop_TopSignals.j3] at H
                    by_cases c40 : x127_29 = true
                    ·subst c40
                     have H1 : (none) = some r := by rw [if_pos rfl] at H; exact H
                     exact absurd H1 (by simp)
                    ·replace c40 := Bool.eq_false_iff.mpr c40
                     subst c40
                     have H1 : (if (t707.size : Int) ≤ 60 then ((whistle_Heard.f kj29 l0 t707).bind fun bt712 => (if bt712.2 = 0 then (if bt712.1 < 2 then (none) else (wigeontop_TopSignals.j4 kj29 l0 l1 l2 t697)) else (none))) else (wigeontop_TopSignals.j4 kj29 l0 l1 l2 t697)) = some r := by rw [if_neg (show ¬ (false = true) by decide)] at H; exact H
                     clear H
                     have H := H1
                     clear H1
                     by_cases c41 : (t707.size : Int) ≤ 60
                     ·rw [if_pos c41] at H
                      have c41b0 : decide ((t707.size : Int) ≤ 60) = true := decide_eq_true c41
                      have c41b1 : decide (t707.size ≤ 60) = true := decide_eq_true (by omega)
                      clear c41
                      replace H := Option.bind_eq_some_iff.mp H
                      obtain ⟨⟨t712, t713⟩, A420, H⟩ := H
                      replace H : (if t713 = 0 then (if t712 < 2 then (none) else (wigeontop_TopSignals.j4 kj29 l0 l1 l2 t697)) else (none)) = some r := H
                      have A42 := Aside0.mk A420
                      clear A420
                      by_cases c43 : t713 = 0
                      ·rw [if_pos c43] at H
                       have c43b0 : (t713 == 0) = true := beq_iff_eq.mpr c43
                       have c43b1 : (t713 != 0) = false := bne_eq_false_iff_eq.mpr c43
                       clear c43
                       by_cases c44 : t712 < 2
                       ·rw [if_pos c44] at H
                        exact absurd H (by simp)
                       ·rw [if_neg c44] at H
                        have c44b0 : decide (t712 < 2) = false := decide_eq_false c44
                        clear c44
                        have H' := Aside0.mk H
                        clear H
                        go_wp2_with (first | ((with_reducible refine gate_callee (f := 43) rfl ?_); refine goesL_ (some 134) rfl rfl Try.func43 (by kernel_rfl) rfl #[.slice A0 l0.length c0, .string t707] rfl (by (try simp only [List.map_toArray, List.map_cons, List.map_nil]); first | done | rfl | (simp only [List.length_drop, List.length_take]; rfl)) ?_; (with_reducible refine (whistle_Heard.calls kj29 _ _ l0 t707 t712 t713 _ ?side1 ?side2 A42.out).mono ?_); (case side1 => repeat (first | exact (Kd.C_below HR0.out HB.out) | (with_reducible refine Kd.C_alloc ?_ _) | (with_reducible refine Kd.C_drewN ?_ _) | (with_reducible refine Kd.C_drew ?_))); (case side2 => exact HC0.out); rintro e w46 ⟨rfl, hb⟩; refine ⟨_, rfl, ?_⟩; have n0_ := Aside0.mk (below_step (by repeat (first | (with_reducible first | exact HB.out | apply below_alloc | apply pw_below_drewN | apply below_drew1) | exact HB.out)) hb); clear HB; have HB := n0_; clear n0_; (try clear hb); (try clear hb2); (try clear hk); (try clear hi)))
                        go_meet
                        case rel => exact ⟨_, H', ⟨by have := HJ4.out; have := HJ11.out; have := HJ18.out; have := HJ29.out; first | omega | exact Nat.le_refl _⟩, ⟨by repeat (first | (with_reducible first | exact HB.out | apply below_alloc | apply pw_below_drewN | apply below_drew1) | exact HB.out)⟩⟩
                      ·rw [if_neg c43] at H
                       exact absurd H (by simp)
                     ·rw [if_neg c41] at H
                      have c41b0 : decide ((t707.size : Int) ≤ 60) = false := decide_eq_false c41
                      have c41b1 : decide (t707.size ≤ 60) = false := decide_eq_false (by omega)
                      clear c41
                      have H' := Aside0.mk H
                      clear H
                      go_wp2
                      go_meet
                      case rel => exact ⟨_, H', ⟨by have := HJ4.out; have := HJ11.out; have := HJ18.out; have := HJ29.out; first | omega | exact Nat.le_refl _⟩, ⟨by repeat (first | (with_reducible first | exact HB.out | apply below_alloc | apply pw_below_drewN | apply below_drew1) | exact HB.out)⟩⟩
                ·replace c27 := Bool.eq_false_iff.mpr c27
                 subst c27
                 have H1 : (wigeontop_TopSignals.j4 kj18 l0 l1 l2 t697) = some r := by rw [if_neg (show ¬ (false = true) by decide)] at H; exact H
                 clear H
                 have H := H1
                 clear H1
                 have H' := Aside0.mk H
                 clear H
                 go_wp2
                 go_meet
                 case rel => exact ⟨_, H', ⟨by have := HJ4.out; have := HJ11.out; have := HJ18.out; first | omega | exact Nat.le_refl _⟩, ⟨by repeat (first | (with_reducible first | exact HB.out | apply below_alloc | apply pw_below_drewN | apply below_drew1) | exact HB.out)⟩⟩
              case rest =>
               as_aux_lemma =>
                clear HC26
                try clear c1
                try clear c2
                try clear p2
                try clear c3
                try clear c4
                try clear c10
                try clear c10b0
                try clear c10b1
                try clear c11
                try clear c14
                try clear c15
                try clear c15b0
                try clear c15b1
                try clear c16
                try clear c21
                try clear c22
                try clear c22b0
                try clear c22b1
                try clear c23
                try clear c23b0
                try clear c23b1
                try clear c23b2
                try clear c24
                try clear c25
                try clear c25b0
                try clear c25b1
                try clear c27
                try clear c30
                try clear c35
                try clear c35b0
                try clear c35b1
                try clear c36
                try clear c36b0
                try clear c36b1
                try clear c37
                try clear c37b0
                try clear c37b1
                try clear c38
                try clear c38b0
                try clear c38b1
                try clear c40
                try clear c41
                try clear c41b0
                try clear c41b1
                try clear c43
                try clear c43b0
                try clear c43b1
                try clear c44
                try clear c44b0
                try clear p2
                obtain ⟨kq, HA, HJ25, HB⟩ := hcut
                cases kq with
                | zero => exact absurd HA.out (by simp [wigeontop_TopSignals.j4])
                | succ kj25 =>
                 have H := HA.out
                 clear HA
                 simp only [wigeontop_TopSignals.j4] at H
                 replace H := Option.bind_eq_some_iff.mp H
                 obtain ⟨⟨t714, t715⟩, A480, H⟩ := H
                 replace H : (if t715 = 0 then (wigeontop_TopSignals.j5 kj25 l0 l1 l2 t697 t714 (decide ((t714.size : Int) ≤ 60))) else (wigeontop_TopSignals.j5 kj25 l0 l1 l2 t697 t714 false)) = some r := H
                 have A48 := Aside0.mk A480
                 clear A480
                 have HC49 := Aside0.mk H
                 clear H
                 go_upto_region 22 with (first | ((with_reducible refine gate_callee (f := 30) rfl ?_); refine goesL_ (some 146) rfl rfl Try.func30 (by kernel_rfl) rfl #[.slice A0 l0.length c0, .slice A1 l1.length c1] rfl (by (try simp only [List.map_toArray, List.map_cons, List.map_nil]); first | done | rfl | (simp only [List.length_drop, List.length_take]; rfl)) ?_; (with_reducible refine (whistle_Sound.calls kj25 _ _ l0 _ _ l1 t714 t715 _ ?side1 ?side2 ?side3 ?side4 A48.out).mono ?_); (case side1 => repeat (first | exact (Kd.C_below HR0.out HB.out) | (with_reducible refine Kd.C_alloc ?_ _) | (with_reducible refine Kd.C_drewN ?_ _) | (with_reducible refine Kd.C_drew ?_))); (case side2 => exact HC0.out); (case side3 => repeat (first | exact (Kd.C_below HR1.out HB.out) | (with_reducible refine Kd.C_alloc ?_ _) | (with_reducible refine Kd.C_drewN ?_ _) | (with_reducible refine Kd.C_drew ?_))); (case side4 => exact HC1.out); rintro e w50 ⟨rfl, hb⟩; refine ⟨_, rfl, ?_⟩; have n0_ := Aside0.mk (below_step (by repeat (first | (with_reducible first | exact HB.out | apply below_alloc | apply pw_below_drewN | apply below_drew1) | exact HB.out)) hb); clear HB; have HB := n0_; clear n0_; (try clear hb); (try clear hb2); (try clear hk); (try clear hi)))
                 (try simp only [Act.put, List.setIfInBounds_toArray, List.set_cons_zero, List.set_cons_succ])
                 go_cut [155] (fun v155 wc => ∃ (kq : Nat) (x155_48 : Bool), v155 = .bool x155_48 ∧ Aside0 (wigeontop_TopSignals.j5 kq l0 l1 l2 t697 t714 x155_48 = some r) ∧ Aside0 (kq ≤ kj25) ∧ Aside0 (Below w.heap.size w wc))
                 case first =>
                  as_aux_lemma =>
                   have H := HC49.out
                   clear HC49
                   by_cases c51 : t715 = 0
                   ·rw [if_pos c51] at H
                    have c51b0 : (t715 == 0) = true := beq_iff_eq.mpr c51
                    have c51b1 : (t715 != 0) = false := bne_eq_false_iff_eq.mpr c51
                    clear c51
                    (first | rw [c51b0] | (simp only [i64_w, i32_w]; rw [c51b0]) | skip)
                    have H' := Aside0.mk H
                    clear H
                    go_wp2
                    go_meet
                    case rel => exact ⟨_, (decide ((t714.size : Int) ≤ 60)), (by first | rfl | (simp; done) | (simp [*]; done)), H', ⟨by have := HJ4.out; have := HJ11.out; have := HJ18.out; have := HJ25.out; first | omega | exact Nat.le_refl _⟩, ⟨by repeat (first | (with_reducible first | exact HB.out | apply below_alloc | apply pw_below_drewN | apply below_drew1) | exact HB.out)⟩⟩
                   ·rw [if_neg c51] at H
                    have c51b0 : (t715 == 0) = false := beq_eq_false_iff_ne.mpr c51
                    have c51b1 : (t715 != 0) = true := bne_iff_ne.mpr c51
                    (first | rw [c51b0] | (simp only [i64_w, i32_w]; rw [c51b0]) | skip)
                    have H' := Aside0.mk H
                    clear H
                    go_wp2
                    go_meet
                    case rel => exact ⟨_, (false), (by first | rfl | (simp; done) | (simp [*]; done)), H', ⟨by have := HJ4.out; have := HJ11.out; have := HJ18.out; have := HJ25.out; first | omega | exact Nat.le_refl _⟩, ⟨by repeat (first | (with_reducible first | exact HB.out | apply below_alloc | apply pw_below_drewN | apply below_drew1) | exact HB.out)⟩⟩
                 case rest =>
                  as_aux_lemma =>
                   clear HC49
                   try clear c1
                   try clear c2
                   try clear p2
                   try clear c3
                   try clear c4
                   try clear c5
                   try clear c10
                   try clear c10b0
                   try clear c10b1
                   try clear c11
                   try clear c14
                   try clear c15
                   try clear c15b0
                   try clear c15b1
                   try clear c16
                   try clear c21
                   try clear c22
                   try clear c22b0
                   try clear c22b1
                   try clear c23
                   try clear c23b0
                   try clear c23b1
                   try clear c23b2
                   try clear c24
                   try clear c25
                   try clear c25b0
                   try clear c25b1
                   try clear c27
                   try clear c30
                   try clear c35
                   try clear c35b0
                   try clear c35b1
                   try clear c36
                   try clear c36b0
                   try clear c36b1
                   try clear c37
                   try clear c37b0
                   try clear c37b1
                   try clear c38
                   try clear c38b0
                   try clear c38b1
                   try clear c40
                   try clear c41
                   try clear c41b0
                   try clear c41b1
                   try clear c43
                   try clear c43b0
                   try clear c43b1
                   try clear c44
                   try clear c44b0
                   try clear c51
                   try clear c51b0
                   try clear c51b1
                   try clear p2
                   obtain ⟨kq, x155_48, rfl, HA, HJ48, HB⟩ := hcut
                   cases kq with
                   | zero => exact absurd HA.out (by simp [wigeontop_TopSignals.j5])
                   | succ kj48 =>
                    have H := HA.out
                    clear HA
                    simp only [wigeontop_TopSignals.j5] at H
                    have HC52 := Aside0.mk H
                    clear H
                    go_upto_if 155 with (fail)
                    go_cut [] (fun wc => ∃ (kq : Nat), Aside0 (wigeontop_TopSignals.j6 kq l0 l2 t697 = some r) ∧ Aside0 (kq ≤ kj48) ∧ Aside0 (Below w.heap.size w wc))
                    case first =>
                     as_aux_lemma =>
                      have H := HC52.out
                      clear HC52
                      by_cases c53 : x155_48 = true
                      ·subst c53
                       have H1 : ((whistle_Heard.f kj48 l0 t714).bind fun bt716 => ((whistle_Decode.f kj48 l0 t714).bind fun bt718 => (if bt716.2 = 0 then (if bt718.2.2 = 0 then (if bt718.2.1 = true then (if bt716.1 < 1 then (none) else (if t697 = true then (if bt716.1 = 1 then ((wigeonref05_SameInts.f kj48 bt718.1 l1).bind fun t723 => (if t723 = true then (wigeontop_TopSignals.j6 kj48 l0 l2 t697) else (none))) else (none)) else (wigeontop_TopSignals.j6 kj48 l0 l2 t697))) else (none)) else (none)) else (none)))) = some r := by rw [if_pos rfl] at H; exact H
                       clear H
                       have H := H1
                       clear H1
                       replace H := Option.bind_eq_some_iff.mp H
                       obtain ⟨⟨t716, t717⟩, A540, H⟩ := H
                       replace H : ((whistle_Decode.f kj48 l0 t714).bind fun bt718 => (if t717 = 0 then (if bt718.2.2 = 0 then (if bt718.2.1 = true then (if t716 < 1 then (none) else (if t697 = true then (if t716 = 1 then ((wigeonref05_SameInts.f kj48 bt718.1 l1).bind fun t723 => (if t723 = true then (wigeontop_TopSignals.j6 kj48 l0 l2 t697) else (none))) else (none)) else (wigeontop_TopSignals.j6 kj48 l0 l2 t697))) else (none)) else (none)) else (none))) = some r := H
                       have A54 := Aside0.mk A540
                       clear A540
                       replace H := Option.bind_eq_some_iff.mp H
                       obtain ⟨⟨t718, t719, t720⟩, A550, H⟩ := H
                       replace H : (if t717 = 0 then (if t720 = 0 then (if t719 = true then (if t716 < 1 then (none) else (if t697 = true then (if t716 = 1 then ((wigeonref05_SameInts.f kj48 t718 l1).bind fun t723 => (if t723 = true then (wigeontop_TopSignals.j6 kj48 l0 l2 t697) else (none))) else (none)) else (wigeontop_TopSignals.j6 kj48 l0 l2 t697))) else (none)) else (none)) else (none)) = some r := H
                       have A55 := Aside0.mk A550
                       clear A550
                       by_cases c56 : t717 = 0
                       ·rw [if_pos c56] at H
                        have c56b0 : (t717 == 0) = true := beq_iff_eq.mpr c56
                        have c56b1 : (t717 != 0) = false := bne_eq_false_iff_eq.mpr c56
                        clear c56
                        (first | rw [c56b0] | (simp only [i64_w, i32_w]; rw [c56b0]) | skip)
                        by_cases c57 : t720 = 0
                        ·rw [if_pos c57] at H
                         have c57b0 : (t720 == 0) = true := beq_iff_eq.mpr c57
                         have c57b1 : (t720 != 0) = false := bne_eq_false_iff_eq.mpr c57
                         clear c57
                         by_cases c58 : t719 = true
                         ·subst c58
                          have H1 : (if t716 < 1 then (none) else (if t697 = true then (if t716 = 1 then ((wigeonref05_SameInts.f kj48 t718 l1).bind fun t723 => (if t723 = true then (wigeontop_TopSignals.j6 kj48 l0 l2 t697) else (none))) else (none)) else (wigeontop_TopSignals.j6 kj48 l0 l2 t697))) = some r := by rw [if_pos rfl] at H; exact H
                          clear H
                          have H := H1
                          clear H1
                          by_cases c59 : t716 < 1
                          ·rw [if_pos c59] at H
                           exact absurd H (by simp)
                          ·rw [if_neg c59] at H
                           have c59b0 : decide (t716 < 1) = false := decide_eq_false c59
                           clear c59
                           by_cases c62 : t697 = true
                           ·subst c62
                            have H1 : (if t716 = 1 then ((wigeonref05_SameInts.f kj48 t718 l1).bind fun t723 => (if t723 = true then (wigeontop_TopSignals.j6 kj48 l0 l2 true) else (none))) else (none)) = some r := by rw [if_pos rfl] at H; exact H
                            clear H
                            have H := H1
                            clear H1
                            by_cases c63 : t716 = 1
                            ·rw [if_pos c63] at H
                             have c63b0 : (t716 == 1) = true := beq_iff_eq.mpr c63
                             have c63b1 : (t716 != 1) = false := bne_eq_false_iff_eq.mpr c63
                             clear c63
                             replace H := Option.bind_eq_some_iff.mp H
                             obtain ⟨t723, A640, H⟩ := H
                             replace H : (if t723 = true then (wigeontop_TopSignals.j6 kj48 l0 l2 true) else (none)) = some r := H
                             have A64 := Aside0.mk A640
                             clear A640
                             by_cases c65 : t723 = true
                             ·subst c65
                              have H1 : (wigeontop_TopSignals.j6 kj48 l0 l2 true) = some r := by rw [if_pos rfl] at H; exact H
                              clear H
                              have H := H1
                              clear H1
                              have H' := Aside0.mk H
                              clear H
                              go_wp2_with (first | ((with_reducible refine gate_callee (f := 43) rfl ?_); refine goesL_ (some 159) rfl rfl Try.func43 (by kernel_rfl) rfl #[.slice A0 l0.length c0, .string t714] rfl (by (try simp only [List.map_toArray, List.map_cons, List.map_nil]); first | done | rfl | (simp only [List.length_drop, List.length_take]; rfl)) ?_; (with_reducible refine (whistle_Heard.calls kj48 _ _ l0 t714 t716 t717 _ ?side1 ?side2 A54.out).mono ?_); (case side1 => repeat (first | exact (Kd.C_below HR0.out HB.out) | (with_reducible refine Kd.C_alloc ?_ _) | (with_reducible refine Kd.C_drewN ?_ _) | (with_reducible refine Kd.C_drew ?_))); (case side2 => exact HC0.out); rintro e w66 ⟨rfl, hb⟩; refine ⟨_, rfl, ?_⟩; have n0_ := Aside0.mk (below_step (by repeat (first | (with_reducible first | exact HB.out | apply below_alloc | apply pw_below_drewN | apply below_drew1) | exact HB.out)) hb); clear HB; have HB := n0_; clear n0_; (try clear hb); (try clear hb2); (try clear hk); (try clear hi)) | ((with_reducible refine gate_callee (f := 49) rfl ?_); refine goesL_ (some 165) rfl rfl Try.func49 (by kernel_rfl) rfl #[.slice A0 l0.length c0, .string t714] rfl (by (try simp only [List.map_toArray, List.map_cons, List.map_nil]); first | done | rfl | (simp only [List.length_drop, List.length_take]; rfl)) ?_; (with_reducible refine (whistle_Decode.calls kj48 _ _ l0 t714 t718 true t720 _ ?side1 ?side2 A55.out).mono ?_); (case side1 => repeat (first | exact (Kd.C_below HR0.out HB.out) | (with_reducible refine Kd.C_alloc ?_ _) | (with_reducible refine Kd.C_drewN ?_ _) | (with_reducible refine Kd.C_drew ?_))); (case side2 => exact HC0.out); rintro e w67 ⟨v721, rfl, ho0, hb⟩; refine ⟨_, rfl, ?_⟩; have n0_ := Aside0.mk (Kd.R_lower ho0 (below_size (by repeat (first | (with_reducible first | exact HB.out | apply below_alloc | apply pw_below_drewN | apply below_drew1) | exact HB.out)))); have n1_ := Aside0.mk (below_step (by repeat (first | (with_reducible first | exact HB.out | apply below_alloc | apply pw_below_drewN | apply below_drew1) | exact HB.out)) hb); clear HB; have HO722 := n0_; have HB := n1_; clear n0_ n1_; (try clear hb); (try clear hb2); (try clear hk); (try clear hi); (try clear ho0); obtain ⟨Ao68, co68, eo68⟩ := Kd.R_slice HO722.out; subst eo68) | (go_at_call 51; (with_reducible refine (wigeonref05_SameInts.calls kj48 _ _ t718 _ _ l1 true _ ?side1 ?side2 ?side3 ?side4 A64.out).mono ?_); (case side1 => repeat (first | exact (Kd.R_reads' HO722.out).2.2 | (with_reducible refine Kd.C_alloc ?_ _) | (with_reducible refine Kd.C_drewN ?_ _) | (with_reducible refine Kd.C_drew ?_))); (case side2 => exact (Kd.R_reads' HO722.out).2.1); (case side3 => repeat (first | exact (Kd.C_below HR1.out HB.out) | (with_reducible refine Kd.C_alloc ?_ _) | (with_reducible refine Kd.C_drewN ?_ _) | (with_reducible refine Kd.C_drew ?_))); (case side4 => exact HC1.out); rintro e w' ⟨rfl, ⟨nd, rfl⟩⟩))
                              go_meet
                              case rel => exact ⟨_, H', ⟨by have := HJ4.out; have := HJ11.out; have := HJ18.out; have := HJ25.out; have := HJ48.out; first | omega | exact Nat.le_refl _⟩, ⟨by repeat (first | (with_reducible first | exact HB.out | apply below_alloc | apply pw_below_drewN | apply below_drew1) | exact HB.out)⟩⟩
                             ·replace c65 := Bool.eq_false_iff.mpr c65
                              subst c65
                              have H1 : (none) = some r := by rw [if_neg (show ¬ (false = true) by decide)] at H; exact H
                              exact absurd H1 (by simp)
                            ·rw [if_neg c63] at H
                             exact absurd H (by simp)
                           ·replace c62 := Bool.eq_false_iff.mpr c62
                            subst c62
                            have H1 : (wigeontop_TopSignals.j6 kj48 l0 l2 false) = some r := by rw [if_neg (show ¬ (false = true) by decide)] at H; exact H
                            clear H
                            have H := H1
                            clear H1
                            have H' := Aside0.mk H
                            clear H
                            go_wp2_with (first | ((with_reducible refine gate_callee (f := 43) rfl ?_); refine goesL_ (some 159) rfl rfl Try.func43 (by kernel_rfl) rfl #[.slice A0 l0.length c0, .string t714] rfl (by (try simp only [List.map_toArray, List.map_cons, List.map_nil]); first | done | rfl | (simp only [List.length_drop, List.length_take]; rfl)) ?_; (with_reducible refine (whistle_Heard.calls kj48 _ _ l0 t714 t716 t717 _ ?side1 ?side2 A54.out).mono ?_); (case side1 => repeat (first | exact (Kd.C_below HR0.out HB.out) | (with_reducible refine Kd.C_alloc ?_ _) | (with_reducible refine Kd.C_drewN ?_ _) | (with_reducible refine Kd.C_drew ?_))); (case side2 => exact HC0.out); rintro e w74 ⟨rfl, hb⟩; refine ⟨_, rfl, ?_⟩; have n0_ := Aside0.mk (below_step (by repeat (first | (with_reducible first | exact HB.out | apply below_alloc | apply pw_below_drewN | apply below_drew1) | exact HB.out)) hb); clear HB; have HB := n0_; clear n0_; (try clear hb); (try clear hb2); (try clear hk); (try clear hi)) | ((with_reducible refine gate_callee (f := 49) rfl ?_); refine goesL_ (some 165) rfl rfl Try.func49 (by kernel_rfl) rfl #[.slice A0 l0.length c0, .string t714] rfl (by (try simp only [List.map_toArray, List.map_cons, List.map_nil]); first | done | rfl | (simp only [List.length_drop, List.length_take]; rfl)) ?_; (with_reducible refine (whistle_Decode.calls kj48 _ _ l0 t714 t718 true t720 _ ?side1 ?side2 A55.out).mono ?_); (case side1 => repeat (first | exact (Kd.C_below HR0.out HB.out) | (with_reducible refine Kd.C_alloc ?_ _) | (with_reducible refine Kd.C_drewN ?_ _) | (with_reducible refine Kd.C_drew ?_))); (case side2 => exact HC0.out); rintro e w75 ⟨v721, rfl, ho0, hb⟩; refine ⟨_, rfl, ?_⟩; have n0_ := Aside0.mk (Kd.R_lower ho0 (below_size (by repeat (first | (with_reducible first | exact HB.out | apply below_alloc | apply pw_below_drewN | apply below_drew1) | exact HB.out)))); have n1_ := Aside0.mk (below_step (by repeat (first | (with_reducible first | exact HB.out | apply below_alloc | apply pw_below_drewN | apply below_drew1) | exact HB.out)) hb); clear HB; have HO722 := n0_; have HB := n1_; clear n0_ n1_; (try clear hb); (try clear hb2); (try clear hk); (try clear hi); (try clear ho0)))
                            go_meet
                            case rel => exact ⟨_, H', ⟨by have := HJ4.out; have := HJ11.out; have := HJ18.out; have := HJ25.out; have := HJ48.out; first | omega | exact Nat.le_refl _⟩, ⟨by repeat (first | (with_reducible first | exact HB.out | apply below_alloc | apply pw_below_drewN | apply below_drew1) | exact HB.out)⟩⟩
                         ·replace c58 := Bool.eq_false_iff.mpr c58
                          subst c58
                          have H1 : (none) = some r := by rw [if_neg (show ¬ (false = true) by decide)] at H; exact H
                          exact absurd H1 (by simp)
                        ·rw [if_neg c57] at H
                         exact absurd H (by simp)
                       ·rw [if_neg c56] at H
                        exact absurd H (by simp)
                      ·replace c53 := Bool.eq_false_iff.mpr c53
                       subst c53
                       have H1 : (wigeontop_TopSignals.j6 kj48 l0 l2 t697) = some r := by rw [if_neg (show ¬ (false = true) by decide)] at H; exact H
                       clear H
                       have H := H1
                       clear H1
                       have H' := Aside0.mk H
                       clear H
                       go_wp2
                       go_meet
                       case rel => exact ⟨_, H', ⟨by have := HJ4.out; have := HJ11.out; have := HJ18.out; have := HJ25.out; have := HJ48.out; first | omega | exact Nat.le_refl _⟩, ⟨by repeat (first | (with_reducible first | exact HB.out | apply below_alloc | apply pw_below_drewN | apply below_drew1) | exact HB.out)⟩⟩
                    case rest =>
                     as_aux_lemma =>
                      clear HC52
                      try clear c1
                      try clear c2
                      try clear p2
                      try clear c3
                      try clear c4
                      try clear c5
                      try clear c6
                      try clear c10
                      try clear c10b0
                      try clear c10b1
                      try clear c11
                      try clear c14
                      try clear c15
                      try clear c15b0
                      try clear c15b1
                      try clear c16
                      try clear c21
                      try clear c22
                      try clear c22b0
                      try clear c22b1
                      try clear c23
                      try clear c23b0
                      try clear c23b1
                      try clear c23b2
                      try clear c24
                      try clear c25
                      try clear c25b0
                      try clear c25b1
                      try clear c27
                      try clear c30
                      try clear c35
                      try clear c35b0
                      try clear c35b1
                      try clear c36
                      try clear c36b0
                      try clear c36b1
                      try clear c37
                      try clear c37b0
                      try clear c37b1
                      try clear c38
                      try clear c38b0
                      try clear c38b1
                      try clear c40
                      try clear c41
                      try clear c41b0
                      try clear c41b1
                      try clear c43
                      try clear c43b0
                      try clear c43b1
                      try clear c44
                      try clear c44b0
                      try clear c49
                      try clear c51
                      try clear c51b0
                      try clear c51b1
                      try clear c53
                      try clear c56
                      try clear c56b0
                      try clear c56b1
                      try clear c57
                      try clear c57b0
                      try clear c57b1
                      try clear c58
                      try clear c59
                      try clear c59b0
                      try clear c62
                      try clear c63
                      try clear c63b0
                      try clear c63b1
                      try clear c65
                      try clear p2
                      obtain ⟨kq, HA, HJ51, HB⟩ := hcut
                      cases kq with
                      | zero => exact absurd HA.out (by simp [wigeontop_TopSignals.j6])
                      | succ kj51 =>
                       have H := HA.out
                       clear HA
                       simp only [wigeontop_TopSignals.j6] at H
                       replace H := Option.bind_eq_some_iff.mp H
                       obtain ⟨⟨t724, t725⟩, A820, H⟩ := H
                       replace H : ((whistle_IsSafe.f kj51 t724).bind fun bt728 => ((whistle_Kraft.f kj51 l0).bind fun bt730 => ((whistle_Kraft.f kj51 t724).bind fun bt734 => (if t725 = 0 then (if bt728.2 = 0 then (if (bt728.1 != t697) = true then (wigeontop_TopSignals.j7 kj51 l0 l2 t697 true) else (if bt730.2.2 = 0 then (if bt734.2.2 = 0 then (if (!(bt730.1 == bt734.1) || (!(bt730.2.1 == bt734.2.1))) = true then (wigeontop_TopSignals.j7 kj51 l0 l2 t697 true) else (if t697 = true then (wigeontop_TopSignals.j7 kj51 l0 l2 t697 (decide (bt730.1 > bt730.2.1))) else (wigeontop_TopSignals.j7 kj51 l0 l2 t697 false))) else (wigeontop_TopSignals.j7 kj51 l0 l2 t697 true)) else (wigeontop_TopSignals.j7 kj51 l0 l2 t697 true))) else (wigeontop_TopSignals.j7 kj51 l0 l2 t697 true)) else (wigeontop_TopSignals.j7 kj51 l0 l2 t697 true))))) = some r := H
                       have A82 := Aside0.mk A820
                       clear A820
                       replace H := Option.bind_eq_some_iff.mp H
                       obtain ⟨⟨t728, t729⟩, A830, H⟩ := H
                       replace H : ((whistle_Kraft.f kj51 l0).bind fun bt730 => ((whistle_Kraft.f kj51 t724).bind fun bt734 => (if t725 = 0 then (if t729 = 0 then (if (t728 != t697) = true then (wigeontop_TopSignals.j7 kj51 l0 l2 t697 true) else (if bt730.2.2 = 0 then (if bt734.2.2 = 0 then (if (!(bt730.1 == bt734.1) || (!(bt730.2.1 == bt734.2.1))) = true then (wigeontop_TopSignals.j7 kj51 l0 l2 t697 true) else (if t697 = true then (wigeontop_TopSignals.j7 kj51 l0 l2 t697 (decide (bt730.1 > bt730.2.1))) else (wigeontop_TopSignals.j7 kj51 l0 l2 t697 false))) else (wigeontop_TopSignals.j7 kj51 l0 l2 t697 true)) else (wigeontop_TopSignals.j7 kj51 l0 l2 t697 true))) else (wigeontop_TopSignals.j7 kj51 l0 l2 t697 true)) else (wigeontop_TopSignals.j7 kj51 l0 l2 t697 true)))) = some r := H
                       have A83 := Aside0.mk A830
                       clear A830
                       replace H := Option.bind_eq_some_iff.mp H
                       obtain ⟨⟨t730, t731, t732⟩, A840, H⟩ := H
                       replace H : ((whistle_Kraft.f kj51 t724).bind fun bt734 => (if t725 = 0 then (if t729 = 0 then (if (t728 != t697) = true then (wigeontop_TopSignals.j7 kj51 l0 l2 t697 true) else (if t732 = 0 then (if bt734.2.2 = 0 then (if (!(t730 == bt734.1) || (!(t731 == bt734.2.1))) = true then (wigeontop_TopSignals.j7 kj51 l0 l2 t697 true) else (if t697 = true then (wigeontop_TopSignals.j7 kj51 l0 l2 t697 (decide (t730 > t731))) else (wigeontop_TopSignals.j7 kj51 l0 l2 t697 false))) else (wigeontop_TopSignals.j7 kj51 l0 l2 t697 true)) else (wigeontop_TopSignals.j7 kj51 l0 l2 t697 true))) else (wigeontop_TopSignals.j7 kj51 l0 l2 t697 true)) else (wigeontop_TopSignals.j7 kj51 l0 l2 t697 true))) = some r := H
                       have A84 := Aside0.mk A840
                       clear A840
                       replace H := Option.bind_eq_some_iff.mp H
                       obtain ⟨⟨t734, t735, t736⟩, A850, H⟩ := H
                       replace H : (if t725 = 0 then (if t729 = 0 then (if (t728 != t697) = true then (wigeontop_TopSignals.j7 kj51 l0 l2 t697 true) else (if t732 = 0 then (if t736 = 0 then (if (!(t730 == t734) || (!(t731 == t735))) = true then (wigeontop_TopSignals.j7 kj51 l0 l2 t697 true) else (if t697 = true then (wigeontop_TopSignals.j7 kj51 l0 l2 t697 (decide (t730 > t731))) else (wigeontop_TopSignals.j7 kj51 l0 l2 t697 false))) else (wigeontop_TopSignals.j7 kj51 l0 l2 t697 true)) else (wigeontop_TopSignals.j7 kj51 l0 l2 t697 true))) else (wigeontop_TopSignals.j7 kj51 l0 l2 t697 true)) else (wigeontop_TopSignals.j7 kj51 l0 l2 t697 true)) = some r := H
                       have A85 := Aside0.mk A850
                       clear A850
                       have HC86 := Aside0.mk H
                       clear H
                       go_upto_region 31 with (first | ((with_reducible refine gate_callee (f := 22) rfl ?_); refine goesL_ (some 198) rfl rfl Try.func22 (by kernel_rfl) rfl #[.slice A0 l0.length c0] rfl (by (try simp only [List.map_toArray, List.map_cons, List.map_nil]); first | done | rfl | (simp only [List.length_drop, List.length_take]; rfl)) ?_; (with_reducible refine (whistle_Back.calls kj51 _ _ l0 t724 t725 _ ?side1 ?side2 A82.out).mono ?_); (case side1 => repeat (first | exact (Kd.C_below HR0.out HB.out) | (with_reducible refine Kd.C_alloc ?_ _) | (with_reducible refine Kd.C_drewN ?_ _) | (with_reducible refine Kd.C_drew ?_))); (case side2 => exact HC0.out); rintro e w87 ⟨v726, rfl, ho0, hb⟩; refine ⟨_, rfl, ?_⟩; have n0_ := Aside0.mk (Kd.R_lower ho0 (below_size (by repeat (first | (with_reducible first | exact HB.out | apply below_alloc | apply pw_below_drewN | apply below_drew1) | exact HB.out)))); have n1_ := Aside0.mk (below_step (by repeat (first | (with_reducible first | exact HB.out | apply below_alloc | apply pw_below_drewN | apply below_drew1) | exact HB.out)) hb); clear HB; have HO727 := n0_; have HB := n1_; clear n0_ n1_; (try clear hb); (try clear hb2); (try clear hk); (try clear hi); (try clear ho0); obtain ⟨Ao88, co88, eo88⟩ := Kd.R_slice HO727.out; subst eo88) | ((with_reducible refine gate_callee (f := 21) rfl ?_); refine goesL_ (some 203) rfl rfl Try.func21 (by kernel_rfl) rfl #[.slice Ao88 t724.length co88] rfl (by (try simp only [List.map_toArray, List.map_cons, List.map_nil]); first | done | rfl | (simp only [List.length_drop, List.length_take]; rfl)) ?_; (with_reducible refine (whistle_IsSafe.calls kj51 _ _ t724 t728 t729 _ ?side1 ?side2 A83.out).mono ?_); (case side1 => repeat (first | exact (Kd.R_reads' HO727.out).2.2 | (with_reducible refine Kd.C_alloc ?_ _) | (with_reducible refine Kd.C_drewN ?_ _) | (with_reducible refine Kd.C_drew ?_))); (case side2 => exact (Kd.R_reads' HO727.out).2.1); rintro e w89 ⟨rfl, hb⟩; refine ⟨_, rfl, ?_⟩; have n0_ := Aside0.mk (Kd.R_below (by (with_reducible repeat (first | apply Kd.R_alloc | apply Kd.R_drewN | apply Kd.R_drew)); exact HO727.out) hb); have n1_ := Aside0.mk (below_step (by repeat (first | (with_reducible first | exact HB.out | apply below_alloc | apply pw_below_drewN | apply below_drew1) | exact HB.out)) hb); clear HO727; clear HB; have HO727 := n0_; have HB := n1_; clear n0_ n1_; (try clear hb); (try clear hb2); (try clear hk); (try clear hi)) | ((with_reducible refine gate_callee (f := 26) rfl ?_); refine goesL_ (some 208) rfl rfl Try.func26 (by kernel_rfl) rfl #[.slice A0 l0.length c0] rfl (by (try simp only [List.map_toArray, List.map_cons, List.map_nil]); first | done | rfl | (simp only [List.length_drop, List.length_take]; rfl)) ?_; (with_reducible refine (whistle_Kraft.calls kj51 _ _ l0 t730 t731 t732 _ ?side1 ?side2 A84.out).mono ?_); (case side1 => repeat (first | exact (Kd.C_below HR0.out HB.out) | (with_reducible refine Kd.C_alloc ?_ _) | (with_reducible refine Kd.C_drewN ?_ _) | (with_reducible refine Kd.C_drew ?_))); (case side2 => exact HC0.out); rintro e w90 ⟨rfl, hb⟩; refine ⟨_, rfl, ?_⟩; have n0_ := Aside0.mk (Kd.R_below (by (with_reducible repeat (first | apply Kd.R_alloc | apply Kd.R_drewN | apply Kd.R_drew)); exact HO727.out) hb); have n1_ := Aside0.mk (below_step (by repeat (first | (with_reducible first | exact HB.out | apply below_alloc | apply pw_below_drewN | apply below_drew1) | exact HB.out)) hb); clear HO727; clear HB; have HO727 := n0_; have HB := n1_; clear n0_ n1_; (try clear hb); (try clear hb2); (try clear hk); (try clear hi)) | ((with_reducible refine gate_dst (N := 31) rfl ?_); (try (refine gate_guard (by rfl) ?_; dsimp only)); refine box_event ?hg (N := 31) ?hd (cs := #[.int .i64 0, .int .i64 0]) (t := 32) ?hr ?_; (case hd => rfl); (case hg => rfl); (case hr => first | (go_simp; done) | (go_simp; rfl)); intro gb733 hg w91 hbox hb; have n0_ := Aside0.mk (Kd.R_below (by (with_reducible repeat (first | apply Kd.R_alloc | apply Kd.R_drewN | apply Kd.R_drew)); exact HO727.out) hb); have n1_ := Aside0.mk (below_step (by repeat (first | (with_reducible first | exact HB.out | apply below_alloc | apply pw_below_drewN | apply below_drew1) | exact HB.out)) hb); have n2_ := Aside0.mk (hbox); have n3_ := Aside0.mk ((by rw [hg]; exact (below_size (by repeat (first | (with_reducible first | exact HB.out | apply below_alloc | apply pw_below_drewN | apply below_drew1) | exact HB.out))) : w.heap.size ≤ gb733)); have n4_ := Aside0.mk ((by rw [hg]; exact (below_size (by repeat (first | (with_reducible first | exact HB.out | apply below_alloc | apply pw_below_drewN | apply below_drew1) | exact HB.out))) : w.heap.size ≤ gb733)); clear HO727; clear HB; have HO727 := n0_; have HB := n1_; have BK733 := n2_; have GW733 := n3_; have GE733 := n4_; clear n0_ n1_ n2_ n3_ n4_; clear hb hbox hg; have hcz92_0 : w91.cell? ⟨gb733, 0, none⟩ = some (.int .i64 0) := (blk_cell BK733.out 0).trans rfl; have hcz92_1 : w91.cell? ⟨gb733, 1, none⟩ = some (.int .i64 0) := (blk_cell BK733.out 1).trans rfl; have hfz92_0 := blk_frozen BK733.out 0; have hfz92_1 := blk_frozen BK733.out 1) | ((with_reducible refine gate_callee (f := 26) rfl ?_); refine goesL_ (some 213) rfl rfl Try.func26 (by kernel_rfl) rfl #[.slice Ao88 t724.length co88] rfl (by (try simp only [List.map_toArray, List.map_cons, List.map_nil]); first | done | rfl | (simp only [List.length_drop, List.length_take]; rfl)) ?_; (with_reducible refine (whistle_Kraft.calls kj51 _ _ t724 t734 t735 t736 _ ?side1 ?side2 A85.out).mono ?_); (case side1 => refine (Kd.R_reads' (e := 9) (base := w.heap.size) (ok := fun k_ => True) (n := t724.length) (c := co88) ?_).2.2; exact (by (with_reducible repeat (first | apply Kd.R_alloc | apply Kd.R_drewN | apply Kd.R_drew)); exact (Kd.R_mono (Kd.R_far (p := ⟨gb733, 1, none⟩) (Kd.R_far (p := ⟨gb733, 0, none⟩) (Kd.R_types HO727.out BK733.out (by decide)) (fun _ hk => hk.2) (.int .i64 t730)) (fun _ hk => hk.2) (.int .i64 t731)) (fun _ h_ => h_.1)))); (case side2 => exact (Kd.R_reads' HO727.out).2.1); rintro e w93 ⟨rfl, hb⟩; refine ⟨_, rfl, ?_⟩; have n0_ := Aside0.mk (Kd.R_below (by (with_reducible repeat (first | apply Kd.R_alloc | apply Kd.R_drewN | apply Kd.R_drew)); exact (Kd.R_mono (Kd.R_far (p := ⟨gb733, 1, none⟩) (Kd.R_far (p := ⟨gb733, 0, none⟩) (Kd.R_types HO727.out BK733.out (by decide)) (fun _ hk => hk.2) (.int .i64 t730)) (fun _ hk => hk.2) (.int .i64 t731)) (fun _ h_ => h_.1))) hb); have n1_ := Aside0.mk (blk_below (g := gb733) (o := .cells #[.int .i64 t730, .int .i64 t731] 32 (0, 0)) (by (with_reducible repeat (first | refine blk_drewN ?_ _ | refine blk_drew ?_ | refine blk_alloc ?_ _)); refine blk_put (cs := #[.int .i64 t730, .int .i64 0]) ?_ 1 _ rfl; (with_reducible repeat (first | refine blk_drewN ?_ _ | refine blk_drew ?_ | refine blk_alloc ?_ _)); refine blk_put (cs := #[.int .i64 0, .int .i64 0]) ?_ 0 _ rfl; (with_reducible repeat (first | refine blk_drewN ?_ _ | refine blk_drew ?_ | refine blk_alloc ?_ _)); exact BK733.out) hb); have n2_ := Aside0.mk (below_step (by repeat (first | (with_reducible first | exact HB.out | apply below_alloc | apply pw_below_drewN | apply below_drew1 | refine below_set ?_ GE733.out) | exact HB.out)) hb); clear HO727; clear BK733; clear HB; have HO727 := n0_; have BK733 := n1_; have HB := n2_; clear n0_ n1_ n2_; (try clear hb); (try clear hb2); (try clear hk); (try clear hi)) | ((with_reducible refine gate_dst (N := 33) rfl ?_); (try (refine gate_guard (by rfl) ?_; dsimp only)); refine box_event ?hg (N := 33) ?hd (cs := #[.int .i64 0, .int .i64 0]) (t := 32) ?hr ?_; (case hd => rfl); (case hg => rfl); (case hr => first | (go_simp; done) | (go_simp; rfl)); intro gb737 hg w94 hbox hb; have n0_ := Aside0.mk (Kd.R_below (by (with_reducible repeat (first | apply Kd.R_alloc | apply Kd.R_drewN | apply Kd.R_drew)); exact HO727.out) hb); have n1_ := Aside0.mk (blk_below (g := gb733) (o := .cells #[.int .i64 t730, .int .i64 t731] 32 (0, 0)) (by (with_reducible repeat (first | refine blk_drewN ?_ _ | refine blk_drew ?_ | refine blk_alloc ?_ _)); exact BK733.out) hb); have n2_ := Aside0.mk (below_step (by repeat (first | (with_reducible first | exact HB.out | apply below_alloc | apply pw_below_drewN | apply below_drew1 | refine below_set ?_ GE733.out) | exact HB.out)) hb); have n3_ := Aside0.mk (hbox); have n4_ := Aside0.mk ((by rw [hg]; exact (below_size (by repeat (first | (with_reducible first | exact HB.out | apply below_alloc | apply pw_below_drewN | apply below_drew1 | refine below_set ?_ GE733.out) | exact HB.out))) : w.heap.size ≤ gb737)); have n5_ := Aside0.mk ((by rw [hg]; exact (below_size (by repeat (first | (with_reducible first | exact HB.out | apply below_alloc | apply pw_below_drewN | apply below_drew1 | refine below_set ?_ GE733.out) | exact HB.out))) : w.heap.size ≤ gb737)); have n6_ := Aside0.mk ((by rw [hg]; exact Nat.ne_of_lt (blk_lt (g := gb733) (o := .cells #[.int .i64 t730, .int .i64 t731] 32 (0, 0)) (by (with_reducible repeat (first | refine blk_drewN ?_ _ | refine blk_drew ?_ | refine blk_alloc ?_ _)); exact BK733.out)) : gb733 ≠ gb737)); have n7_ := Aside0.mk ((by rw [hg]; exact Nat.ne_of_gt (blk_lt (g := gb733) (o := .cells #[.int .i64 t730, .int .i64 t731] 32 (0, 0)) (by (with_reducible repeat (first | refine blk_drewN ?_ _ | refine blk_drew ?_ | refine blk_alloc ?_ _)); exact BK733.out)) : gb737 ≠ gb733)); clear HO727; clear BK733; clear HB; have HO727 := n0_; have BK733 := n1_; have HB := n2_; have BK737 := n3_; have GW737 := n4_; have GE737 := n5_; have NB733_737 := n6_; have NB737_733 := n7_; clear n0_ n1_ n2_ n3_ n4_ n5_ n6_ n7_; clear hb hbox hg; have hnb95 := NB737_733.out; have hnc95 := NB733_737.out; have hcz96_0 : w94.cell? ⟨gb737, 0, none⟩ = some (.int .i64 0) := (blk_cell BK737.out 0).trans rfl; have hcz96_1 : w94.cell? ⟨gb737, 1, none⟩ = some (.int .i64 0) := (blk_cell BK737.out 1).trans rfl; have hfz96_0 := blk_frozen BK737.out 0; have hfz96_1 := blk_frozen BK737.out 1))
                       (try simp only [Act.put, List.setIfInBounds_toArray, List.set_cons_zero, List.set_cons_succ])
                       go_cut [249] (fun v249 wc => ∃ (kq : Nat) (x249_85 : Bool), v249 = .bool x249_85 ∧ Aside0 (wigeontop_TopSignals.j7 kq l0 l2 t697 x249_85 = some r) ∧ Aside0 (kq ≤ kj51) ∧ Aside0 (wc.heap[gb733]? = some (.cells #[.int .i64 t730, .int .i64 t731] 32 (0, 0))) ∧ Aside0 (wc.heap[gb737]? = some (.cells #[.int .i64 t734, .int .i64 t735] 32 (0, 0))) ∧ Aside0 (Below w.heap.size w wc))
                       case first =>
                        as_aux_lemma =>
                         have H := HC86.out
                         clear HC86
                         by_cases c97 : t725 = 0
                         ·rw [if_pos c97] at H
                          have c97b0 : (t725 == 0) = true := beq_iff_eq.mpr c97
                          have c97b1 : (t725 != 0) = false := bne_eq_false_iff_eq.mpr c97
                          clear c97
                          (first | rw [c97b0] | (simp only [i64_w, i32_w]; rw [c97b0]) | skip)
                          by_cases c98 : t729 = 0
                          ·rw [if_pos c98] at H
                           have c98b0 : (t729 == 0) = true := beq_iff_eq.mpr c98
                           have c98b1 : (t729 != 0) = false := bne_eq_false_iff_eq.mpr c98
                           clear c98
                           by_cases c99 : (t728 != t697) = true
                           ·rw [if_pos c99] at H
                            exact absurd H (by rw [wigeontop_TopSignals.j7.dead]; simp)
                           ·rw [if_neg c99] at H
                            have c99b0 : (t728 != t697) = false := by simpa using c99
                            (try (have c99b1 : decide (t728 = t697) = true := by simpa using c99))
                            (try (have c99b2 : (t728 == t697) = true := by simpa using c99))
                            clear c99
                            by_cases c100 : t732 = 0
                            ·rw [if_pos c100] at H
                             have c100b0 : (t732 == 0) = true := beq_iff_eq.mpr c100
                             have c100b1 : (t732 != 0) = false := bne_eq_false_iff_eq.mpr c100
                             clear c100
                             by_cases c101 : t736 = 0
                             ·rw [if_pos c101] at H
                              have c101b0 : (t736 == 0) = true := beq_iff_eq.mpr c101
                              have c101b1 : (t736 != 0) = false := bne_eq_false_iff_eq.mpr c101
                              clear c101
                              by_cases c102 : (!(t730 == t734) || (!(t731 == t735))) = true
                              ·rw [if_pos c102] at H
                               exact absurd H (by rw [wigeontop_TopSignals.j7.dead]; simp)
                              ·rw [if_neg c102] at H
                               have c102b0 : (!(t730 == t734) || (!(t731 == t735))) = false := by simpa using c102
                               clear c102
                               by_cases c106 : t697 = true
                               ·subst c106
                                have H1 : (wigeontop_TopSignals.j7 kj51 l0 l2 true (decide (t730 > t731))) = some r := by rw [if_pos rfl] at H; exact H
                                clear H
                                have H := H1
                                clear H1
                                have H' := Aside0.mk H
                                clear H
                                have hnb107 := NB733_737.out
                                have hnc107 := NB737_733.out
                                have hcz108_0 : w94.cell? ⟨gb733, 0, none⟩ = some (.int .i64 t730) := (blk_cell BK733.out 0).trans rfl
                                have hcz108_1 : w94.cell? ⟨gb733, 1, none⟩ = some (.int .i64 t731) := (blk_cell BK733.out 1).trans rfl
                                have hfz108_0 := blk_frozen BK733.out 0
                                have hfz108_1 := blk_frozen BK733.out 1
                                have hcz109_0 : w94.cell? ⟨gb737, 0, none⟩ = some (.int .i64 0) := (blk_cell BK737.out 0).trans rfl
                                have hcz109_1 : w94.cell? ⟨gb737, 1, none⟩ = some (.int .i64 0) := (blk_cell BK737.out 1).trans rfl
                                have hfz109_0 := blk_frozen BK737.out 0
                                have hfz109_1 := blk_frozen BK737.out 1
                                go_wp2
                                go_meet
                                case rel => exact ⟨_, (decide (t730 > t731)), (by first | rfl | (simp; done) | (simp [*]; done)), H', ⟨by have := HJ4.out; have := HJ11.out; have := HJ18.out; have := HJ25.out; have := HJ48.out; have := HJ51.out; first | omega | exact Nat.le_refl _⟩, ⟨by (with_reducible repeat (first | refine blk_drewN ?_ _ | refine blk_drew ?_ | refine blk_alloc ?_ _)); refine blk_far ?_ NB733_737.out _; (with_reducible repeat (first | refine blk_drewN ?_ _ | refine blk_drew ?_ | refine blk_alloc ?_ _)); refine blk_far ?_ NB733_737.out _; (with_reducible repeat (first | refine blk_drewN ?_ _ | refine blk_drew ?_ | refine blk_alloc ?_ _)); exact BK733.out⟩, ⟨by (with_reducible repeat (first | refine blk_drewN ?_ _ | refine blk_drew ?_ | refine blk_alloc ?_ _)); refine blk_put (cs := #[.int .i64 t734, .int .i64 0]) ?_ 1 _ rfl; (with_reducible repeat (first | refine blk_drewN ?_ _ | refine blk_drew ?_ | refine blk_alloc ?_ _)); refine blk_put (cs := #[.int .i64 0, .int .i64 0]) ?_ 0 _ rfl; (with_reducible repeat (first | refine blk_drewN ?_ _ | refine blk_drew ?_ | refine blk_alloc ?_ _)); exact BK737.out⟩, ⟨by repeat (first | (with_reducible first | exact HB.out | apply below_alloc | apply pw_below_drewN | apply below_drew1 | refine below_set ?_ GE733.out | refine below_set ?_ GE737.out) | exact HB.out)⟩⟩
                               ·replace c106 := Bool.eq_false_iff.mpr c106
                                subst c106
                                have H1 : (wigeontop_TopSignals.j7 kj51 l0 l2 false false) = some r := by rw [if_neg (show ¬ (false = true) by decide)] at H; exact H
                                clear H
                                have H := H1
                                clear H1
                                have H' := Aside0.mk H
                                clear H
                                have hnb110 := NB733_737.out
                                have hnc110 := NB737_733.out
                                have hcz111_0 : w94.cell? ⟨gb733, 0, none⟩ = some (.int .i64 t730) := (blk_cell BK733.out 0).trans rfl
                                have hcz111_1 : w94.cell? ⟨gb733, 1, none⟩ = some (.int .i64 t731) := (blk_cell BK733.out 1).trans rfl
                                have hfz111_0 := blk_frozen BK733.out 0
                                have hfz111_1 := blk_frozen BK733.out 1
                                have hcz112_0 : w94.cell? ⟨gb737, 0, none⟩ = some (.int .i64 0) := (blk_cell BK737.out 0).trans rfl
                                have hcz112_1 : w94.cell? ⟨gb737, 1, none⟩ = some (.int .i64 0) := (blk_cell BK737.out 1).trans rfl
                                have hfz112_0 := blk_frozen BK737.out 0
                                have hfz112_1 := blk_frozen BK737.out 1
                                go_wp2
                                go_meet
                                case rel => exact ⟨_, (false), (by first | rfl | (simp; done) | (simp [*]; done)), H', ⟨by have := HJ4.out; have := HJ11.out; have := HJ18.out; have := HJ25.out; have := HJ48.out; have := HJ51.out; first | omega | exact Nat.le_refl _⟩, ⟨by (with_reducible repeat (first | refine blk_drewN ?_ _ | refine blk_drew ?_ | refine blk_alloc ?_ _)); refine blk_far ?_ NB733_737.out _; (with_reducible repeat (first | refine blk_drewN ?_ _ | refine blk_drew ?_ | refine blk_alloc ?_ _)); refine blk_far ?_ NB733_737.out _; (with_reducible repeat (first | refine blk_drewN ?_ _ | refine blk_drew ?_ | refine blk_alloc ?_ _)); exact BK733.out⟩, ⟨by (with_reducible repeat (first | refine blk_drewN ?_ _ | refine blk_drew ?_ | refine blk_alloc ?_ _)); refine blk_put (cs := #[.int .i64 t734, .int .i64 0]) ?_ 1 _ rfl; (with_reducible repeat (first | refine blk_drewN ?_ _ | refine blk_drew ?_ | refine blk_alloc ?_ _)); refine blk_put (cs := #[.int .i64 0, .int .i64 0]) ?_ 0 _ rfl; (with_reducible repeat (first | refine blk_drewN ?_ _ | refine blk_drew ?_ | refine blk_alloc ?_ _)); exact BK737.out⟩, ⟨by repeat (first | (with_reducible first | exact HB.out | apply below_alloc | apply pw_below_drewN | apply below_drew1 | refine below_set ?_ GE733.out | refine below_set ?_ GE737.out) | exact HB.out)⟩⟩
                             ·rw [if_neg c101] at H
                              exact absurd H (by rw [wigeontop_TopSignals.j7.dead]; simp)
                            ·rw [if_neg c100] at H
                             exact absurd H (by rw [wigeontop_TopSignals.j7.dead]; simp)
                          ·rw [if_neg c98] at H
                           exact absurd H (by rw [wigeontop_TopSignals.j7.dead]; simp)
                         ·rw [if_neg c97] at H
                          exact absurd H (by rw [wigeontop_TopSignals.j7.dead]; simp)
                       case rest =>
                        as_aux_lemma =>
                         clear HC86
                         try clear c1
                         try clear c2
                         try clear p2
                         try clear c3
                         try clear c4
                         try clear c5
                         try clear c6
                         try clear c9
                         try clear c10
                         try clear c10b0
                         try clear c10b1
                         try clear c11
                         try clear c14
                         try clear c15
                         try clear c15b0
                         try clear c15b1
                         try clear c16
                         try clear c21
                         try clear c22
                         try clear c22b0
                         try clear c22b1
                         try clear c23
                         try clear c23b0
                         try clear c23b1
                         try clear c23b2
                         try clear c24
                         try clear c25
                         try clear c25b0
                         try clear c25b1
                         try clear c26
                         try clear c27
                         try clear c30
                         try clear c35
                         try clear c35b0
                         try clear c35b1
                         try clear c36
                         try clear c36b0
                         try clear c36b1
                         try clear c37
                         try clear c37b0
                         try clear c37b1
                         try clear c38
                         try clear c38b0
                         try clear c38b1
                         try clear c40
                         try clear c41
                         try clear c41b0
                         try clear c41b1
                         try clear c43
                         try clear c43b0
                         try clear c43b1
                         try clear c44
                         try clear c44b0
                         try clear c49
                         try clear c51
                         try clear c51b0
                         try clear c51b1
                         try clear c53
                         try clear c56
                         try clear c56b0
                         try clear c56b1
                         try clear c57
                         try clear c57b0
                         try clear c57b1
                         try clear c58
                         try clear c59
                         try clear c59b0
                         try clear c62
                         try clear c63
                         try clear c63b0
                         try clear c63b1
                         try clear c65
                         try clear c95
                         try clear c97
                         try clear c97b0
                         try clear c97b1
                         try clear c98
                         try clear c98b0
                         try clear c98b1
                         try clear c99
                         try clear c99b0
                         try clear c99b1
                         try clear c99b2
                         try clear c100
                         try clear c100b0
                         try clear c100b1
                         try clear c101
                         try clear c101b0
                         try clear c101b1
                         try clear c102
                         try clear c102b0
                         try clear c103
                         try clear c106
                         try clear c107
                         try clear c110
                         try clear hcz104_0
                         try clear hcz104_1
                         try clear hcz105_0
                         try clear hcz105_1
                         try clear hcz108_0
                         try clear hcz108_1
                         try clear hcz109_0
                         try clear hcz109_1
                         try clear hcz111_0
                         try clear hcz111_1
                         try clear hcz112_0
                         try clear hcz112_1
                         try clear hcz92_0
                         try clear hcz92_1
                         try clear hcz96_0
                         try clear hcz96_1
                         try clear hfz104_0
                         try clear hfz104_1
                         try clear hfz105_0
                         try clear hfz105_1
                         try clear hfz108_0
                         try clear hfz108_1
                         try clear hfz109_0
                         try clear hfz109_1
                         try clear hfz111_0
                         try clear hfz111_1
                         try clear hfz112_0
                         try clear hfz112_1
                         try clear hfz92_0
                         try clear hfz92_1
                         try clear hfz96_0
                         try clear hfz96_1
                         try clear p2
                         obtain ⟨kq, x249_85, rfl, HA, HJ85, BK733, BK737, HB⟩ := hcut
                         cases kq with
                         | zero => exact absurd HA.out (by simp [wigeontop_TopSignals.j7])
                         | succ kj85 =>
                          have H := HA.out
                          clear HA
                          simp only [wigeontop_TopSignals.j7] at H
                          by_cases c113 : x249_85 = true
                          ·subst c113
                           have H1 : (none) = some r := by rw [if_pos rfl] at H; exact H
                           exact absurd H1 (by simp)
                          ·replace c113 := Bool.eq_false_iff.mpr c113
                           subst c113
                           have H1 : ((whistle_Cheapest.f kj85 l2).bind fun bt738 => (if bt738.2.2 = 0 then ((whistle_FromLengths.f kj85 bt738.1).bind fun bt743 => ((whistle_Cost.f kj85 l2 bt743.1).bind fun bt747 => ((whistle_Cost.f kj85 l2 l0).bind fun bt749 => (if bt743.2 = 0 then (if bt747.2 = 0 then (if bt747.1 = bt738.2.1 then (if bt749.2 = 0 then (if t697 = true then (some (decide (bt749.1 ≥ bt738.2.1))) else (some true)) else (some true)) else (none)) else (none)) else (none))))) else (if (bt738.1.length : Int) = 0 then (some (bt738.2.1 == 0)) else (none)))) = some r := by rw [if_neg (show ¬ (false = true) by decide)] at H; exact H
                           clear H
                           have H := H1
                           clear H1
                           replace H := Option.bind_eq_some_iff.mp H
                           obtain ⟨⟨t738, t739, t740⟩, A1140, H⟩ := H
                           replace H : (if t740 = 0 then ((whistle_FromLengths.f kj85 t738).bind fun bt743 => ((whistle_Cost.f kj85 l2 bt743.1).bind fun bt747 => ((whistle_Cost.f kj85 l2 l0).bind fun bt749 => (if bt743.2 = 0 then (if bt747.2 = 0 then (if bt747.1 = t739 then (if bt749.2 = 0 then (if t697 = true then (some (decide (bt749.1 ≥ t739))) else (some true)) else (some true)) else (none)) else (none)) else (none))))) else (if (t738.length : Int) = 0 then (some (t739 == 0)) else (none))) = some r := H
                           have A114 := Aside0.mk A1140
                           clear A1140
                           by_cases c115 : t740 = 0
                           ·rw [if_pos c115] at H
                            have c115b0 : (t740 == 0) = true := beq_iff_eq.mpr c115
                            have c115b1 : (t740 != 0) = false := bne_eq_false_iff_eq.mpr c115
                            clear c115
                            replace H := Option.bind_eq_some_iff.mp H
                            obtain ⟨⟨t743, t744⟩, A1160, H⟩ := H
                            replace H : ((whistle_Cost.f kj85 l2 t743).bind fun bt747 => ((whistle_Cost.f kj85 l2 l0).bind fun bt749 => (if t744 = 0 then (if bt747.2 = 0 then (if bt747.1 = t739 then (if bt749.2 = 0 then (if t697 = true then (some (decide (bt749.1 ≥ t739))) else (some true)) else (some true)) else (none)) else (none)) else (none)))) = some r := H
                            have A116 := Aside0.mk A1160
                            clear A1160
                            replace H := Option.bind_eq_some_iff.mp H
                            obtain ⟨⟨t747, t748⟩, A1170, H⟩ := H
                            replace H : ((whistle_Cost.f kj85 l2 l0).bind fun bt749 => (if t744 = 0 then (if t748 = 0 then (if t747 = t739 then (if bt749.2 = 0 then (if t697 = true then (some (decide (bt749.1 ≥ t739))) else (some true)) else (some true)) else (none)) else (none)) else (none))) = some r := H
                            have A117 := Aside0.mk A1170
                            clear A1170
                            replace H := Option.bind_eq_some_iff.mp H
                            obtain ⟨⟨t749, t750⟩, A1180, H⟩ := H
                            replace H : (if t744 = 0 then (if t748 = 0 then (if t747 = t739 then (if t750 = 0 then (if t697 = true then (some (decide (t749 ≥ t739))) else (some true)) else (some true)) else (none)) else (none)) else (none)) = some r := H
                            have A118 := Aside0.mk A1180
                            clear A1180
                            by_cases c119 : t744 = 0
                            ·rw [if_pos c119] at H
                             have c119b0 : (t744 == 0) = true := beq_iff_eq.mpr c119
                             have c119b1 : (t744 != 0) = false := bne_eq_false_iff_eq.mpr c119
                             clear c119
                             by_cases c120 : t748 = 0
                             ·rw [if_pos c120] at H
                              have c120b0 : (t748 == 0) = true := beq_iff_eq.mpr c120
                              have c120b1 : (t748 != 0) = false := bne_eq_false_iff_eq.mpr c120
                              clear c120
                              by_cases c121 : t747 = t739
                              ·rw [if_pos c121] at H
                               have c121b0 : (t747 == t739) = true := beq_iff_eq.mpr c121
                               have c121b1 : (t747 != t739) = false := bne_eq_false_iff_eq.mpr c121
                               clear c121
                               by_cases c122 : t750 = 0
                               ·rw [if_pos c122] at H
                                have c122b0 : (t750 == 0) = true := beq_iff_eq.mpr c122
                                have c122b1 : (t750 != 0) = false := bne_eq_false_iff_eq.mpr c122
                                clear c122
                                by_cases c123 : t697 = true
                                ·subst c123
                                 have H1 : (some (decide (t749 ≥ t739))) = some r := by rw [if_pos rfl] at H; exact H
                                 clear H
                                 have H := H1
                                 clear H1
                                 obtain rfl := Option.some.inj H
                                 go_wp2_with (first | ((with_reducible refine gate_callee (f := 44) rfl ?_); refine goesL_ (some 252) rfl rfl Try.func44 (by kernel_rfl) rfl #[.slice A2 l2.length c2] rfl (by (try simp only [List.map_toArray, List.map_cons, List.map_nil]); first | done | rfl | (simp only [List.length_drop, List.length_take]; rfl)) ?_; (with_reducible refine (whistle_Cheapest.calls kj85 _ _ l2 t738 t739 t740 _ ?side1 ?side2 A114.out).mono ?_); (case side1 => repeat (first | exact (Kd.C_below HR2.out HB.out) | (with_reducible refine Kd.C_alloc ?_ _) | (with_reducible refine Kd.C_drewN ?_ _) | (with_reducible refine Kd.C_drew ?_))); (case side2 => exact HC2.out); rintro e w124 ⟨v741, rfl, ho0, hb⟩; refine ⟨_, rfl, ?_⟩; have n0_ := Aside0.mk (Kd.R_lower ho0 (below_size (by repeat (first | (with_reducible first | exact HB.out | apply below_alloc | apply pw_below_drewN | apply below_drew1 | refine below_set ?_ GE733.out | refine below_set ?_ GE737.out) | exact HB.out)))); have n1_ := Aside0.mk (blk_below (g := gb733) (o := .cells #[.int .i64 t730, .int .i64 t731] 32 (0, 0)) (by (with_reducible repeat (first | refine blk_drewN ?_ _ | refine blk_drew ?_ | refine blk_alloc ?_ _)); exact BK733.out) hb); have n2_ := Aside0.mk (blk_below (g := gb737) (o := .cells #[.int .i64 t734, .int .i64 t735] 32 (0, 0)) (by (with_reducible repeat (first | refine blk_drewN ?_ _ | refine blk_drew ?_ | refine blk_alloc ?_ _)); exact BK737.out) hb); have n3_ := Aside0.mk (below_step (by repeat (first | (with_reducible first | exact HB.out | apply below_alloc | apply pw_below_drewN | apply below_drew1 | refine below_set ?_ GE733.out | refine below_set ?_ GE737.out) | exact HB.out)) hb); clear BK733; clear BK737; clear HB; have HO742 := n0_; have BK733 := n1_; have BK737 := n2_; have HB := n3_; clear n0_ n1_ n2_ n3_; (try clear hb); (try clear hb2); (try clear hk); (try clear hi); (try clear ho0); obtain ⟨Ao125, co125, eo125⟩ := Kd.R_slice HO742.out; subst eo125) | ((with_reducible refine gate_callee (f := 34) rfl ?_); refine goesL_ (some 267) rfl rfl Try.func34 (by kernel_rfl) rfl #[.slice Ao125 t738.length co125] rfl (by (try simp only [List.map_toArray, List.map_cons, List.map_nil]); first | done | rfl | (simp only [List.length_drop, List.length_take]; rfl)) ?_; (with_reducible refine (whistle_FromLengths.calls kj85 _ _ t738 t743 t744 _ ?side1 ?side2 A116.out).mono ?_); (case side1 => repeat (first | exact (Kd.R_reads' HO742.out).2.2 | (with_reducible refine Kd.C_alloc ?_ _) | (with_reducible refine Kd.C_drewN ?_ _) | (with_reducible refine Kd.C_drew ?_))); (case side2 => exact (Kd.R_reads' HO742.out).2.1); rintro e w126 ⟨v745, rfl, ho0, hb⟩; refine ⟨_, rfl, ?_⟩; have n0_ := Aside0.mk (Kd.R_below (by (with_reducible repeat (first | apply Kd.R_alloc | apply Kd.R_drewN | apply Kd.R_drew)); exact HO742.out) hb); have n1_ := Aside0.mk (Kd.R_lower ho0 (below_size (by repeat (first | (with_reducible first | exact HB.out | apply below_alloc | apply pw_below_drewN | apply below_drew1 | refine below_set ?_ GE733.out | refine below_set ?_ GE737.out) | exact HB.out)))); have n2_ := Aside0.mk (blk_below (g := gb733) (o := .cells #[.int .i64 t730, .int .i64 t731] 32 (0, 0)) (by (with_reducible repeat (first | refine blk_drewN ?_ _ | refine blk_drew ?_ | refine blk_alloc ?_ _)); exact BK733.out) hb); have n3_ := Aside0.mk (blk_below (g := gb737) (o := .cells #[.int .i64 t734, .int .i64 t735] 32 (0, 0)) (by (with_reducible repeat (first | refine blk_drewN ?_ _ | refine blk_drew ?_ | refine blk_alloc ?_ _)); exact BK737.out) hb); have n4_ := Aside0.mk (below_step (by repeat (first | (with_reducible first | exact HB.out | apply below_alloc | apply pw_below_drewN | apply below_drew1 | refine below_set ?_ GE733.out | refine below_set ?_ GE737.out) | exact HB.out)) hb); clear HO742; clear BK733; clear BK737; clear HB; have HO742 := n0_; have HO746 := n1_; have BK733 := n2_; have BK737 := n3_; have HB := n4_; clear n0_ n1_ n2_ n3_ n4_; (try clear hb); (try clear hb2); (try clear hk); (try clear hi); (try clear ho0); obtain ⟨Ao127, co127, eo127⟩ := Kd.R_slice HO746.out; subst eo127) | ((with_reducible refine gate_callee (f := 47) rfl ?_); refine goesL_ (some 273) rfl rfl Try.func47 (by kernel_rfl) rfl #[.slice A2 l2.length c2, .slice Ao127 t743.length co127] rfl (by (try simp only [List.map_toArray, List.map_cons, List.map_nil]); first | done | rfl | (simp only [List.length_drop, List.length_take]; rfl)) ?_; (with_reducible refine (whistle_Cost.calls kj85 _ _ l2 _ _ t743 t747 t748 _ ?side1 ?side2 ?side3 ?side4 A117.out).mono ?_); (case side1 => repeat (first | exact (Kd.C_below HR2.out HB.out) | (with_reducible refine Kd.C_alloc ?_ _) | (with_reducible refine Kd.C_drewN ?_ _) | (with_reducible refine Kd.C_drew ?_))); (case side2 => exact HC2.out); (case side3 => repeat (first | exact (Kd.R_reads' HO746.out).2.2 | (with_reducible refine Kd.C_alloc ?_ _) | (with_reducible refine Kd.C_drewN ?_ _) | (with_reducible refine Kd.C_drew ?_))); (case side4 => exact (Kd.R_reads' HO746.out).2.1); rintro e w128 ⟨rfl, hb⟩; refine ⟨_, rfl, ?_⟩; have n0_ := Aside0.mk (Kd.R_below (by (with_reducible repeat (first | apply Kd.R_alloc | apply Kd.R_drewN | apply Kd.R_drew)); exact HO742.out) hb); have n1_ := Aside0.mk (Kd.R_below (by (with_reducible repeat (first | apply Kd.R_alloc | apply Kd.R_drewN | apply Kd.R_drew)); exact HO746.out) hb); have n2_ := Aside0.mk (blk_below (g := gb733) (o := .cells #[.int .i64 t730, .int .i64 t731] 32 (0, 0)) (by (with_reducible repeat (first | refine blk_drewN ?_ _ | refine blk_drew ?_ | refine blk_alloc ?_ _)); exact BK733.out) hb); have n3_ := Aside0.mk (blk_below (g := gb737) (o := .cells #[.int .i64 t734, .int .i64 t735] 32 (0, 0)) (by (with_reducible repeat (first | refine blk_drewN ?_ _ | refine blk_drew ?_ | refine blk_alloc ?_ _)); exact BK737.out) hb); have n4_ := Aside0.mk (below_step (by repeat (first | (with_reducible first | exact HB.out | apply below_alloc | apply pw_below_drewN | apply below_drew1 | refine below_set ?_ GE733.out | refine below_set ?_ GE737.out) | exact HB.out)) hb); clear HO742; clear HO746; clear BK733; clear BK737; clear HB; have HO742 := n0_; have HO746 := n1_; have BK733 := n2_; have BK737 := n3_; have HB := n4_; clear n0_ n1_ n2_ n3_ n4_; (try clear hb); (try clear hb2); (try clear hk); (try clear hi)) | ((with_reducible refine gate_callee (f := 47) rfl ?_); refine goesL_ (some 279) rfl rfl Try.func47 (by kernel_rfl) rfl #[.slice A2 l2.length c2, .slice A0 l0.length c0] rfl (by (try simp only [List.map_toArray, List.map_cons, List.map_nil]); first | done | rfl | (simp only [List.length_drop, List.length_take]; rfl)) ?_; (with_reducible refine (whistle_Cost.calls kj85 _ _ l2 _ _ l0 t749 t750 _ ?side1 ?side2 ?side3 ?side4 A118.out).mono ?_); (case side1 => repeat (first | exact (Kd.C_below HR2.out HB.out) | (with_reducible refine Kd.C_alloc ?_ _) | (with_reducible refine Kd.C_drewN ?_ _) | (with_reducible refine Kd.C_drew ?_))); (case side2 => exact HC2.out); (case side3 => repeat (first | exact (Kd.C_below HR0.out HB.out) | (with_reducible refine Kd.C_alloc ?_ _) | (with_reducible refine Kd.C_drewN ?_ _) | (with_reducible refine Kd.C_drew ?_))); (case side4 => exact HC0.out); rintro e w129 ⟨rfl, hb⟩; refine ⟨_, rfl, ?_⟩; have n0_ := Aside0.mk (Kd.R_below (by (with_reducible repeat (first | apply Kd.R_alloc | apply Kd.R_drewN | apply Kd.R_drew)); exact HO742.out) hb); have n1_ := Aside0.mk (Kd.R_below (by (with_reducible repeat (first | apply Kd.R_alloc | apply Kd.R_drewN | apply Kd.R_drew)); exact HO746.out) hb); have n2_ := Aside0.mk (blk_below (g := gb733) (o := .cells #[.int .i64 t730, .int .i64 t731] 32 (0, 0)) (by (with_reducible repeat (first | refine blk_drewN ?_ _ | refine blk_drew ?_ | refine blk_alloc ?_ _)); exact BK733.out) hb); have n3_ := Aside0.mk (blk_below (g := gb737) (o := .cells #[.int .i64 t734, .int .i64 t735] 32 (0, 0)) (by (with_reducible repeat (first | refine blk_drewN ?_ _ | refine blk_drew ?_ | refine blk_alloc ?_ _)); exact BK737.out) hb); have n4_ := Aside0.mk (below_step (by repeat (first | (with_reducible first | exact HB.out | apply below_alloc | apply pw_below_drewN | apply below_drew1 | refine below_set ?_ GE733.out | refine below_set ?_ GE737.out) | exact HB.out)) hb); clear HO742; clear HO746; clear BK733; clear BK737; clear HB; have HO742 := n0_; have HO746 := n1_; have BK733 := n2_; have BK737 := n3_; have HB := n4_; clear n0_ n1_ n2_ n3_ n4_; (try clear hb); (try clear hb2); (try clear hk); (try clear hi)))
                                 go_ret
                                 exact ⟨by first | rfl | (simp [errW_none, errW_some] <;> rfl) | (simp [*, errW_none, errW_some] <;> rfl), by repeat (first | (with_reducible first | exact HB.out | apply below_alloc | apply pw_below_drewN | apply below_drew1 | refine below_set ?_ GE733.out | refine below_set ?_ GE737.out) | exact HB.out)⟩
                                ·replace c123 := Bool.eq_false_iff.mpr c123
                                 subst c123
                                 have H1 : (some true) = some r := by rw [if_neg (show ¬ (false = true) by decide)] at H; exact H
                                 clear H
                                 have H := H1
                                 clear H1
                                 obtain rfl := Option.some.inj H
                                 go_wp2_with (first | ((with_reducible refine gate_callee (f := 44) rfl ?_); refine goesL_ (some 252) rfl rfl Try.func44 (by kernel_rfl) rfl #[.slice A2 l2.length c2] rfl (by (try simp only [List.map_toArray, List.map_cons, List.map_nil]); first | done | rfl | (simp only [List.length_drop, List.length_take]; rfl)) ?_; (with_reducible refine (whistle_Cheapest.calls kj85 _ _ l2 t738 t739 t740 _ ?side1 ?side2 A114.out).mono ?_); (case side1 => repeat (first | exact (Kd.C_below HR2.out HB.out) | (with_reducible refine Kd.C_alloc ?_ _) | (with_reducible refine Kd.C_drewN ?_ _) | (with_reducible refine Kd.C_drew ?_))); (case side2 => exact HC2.out); rintro e w130 ⟨v741, rfl, ho0, hb⟩; refine ⟨_, rfl, ?_⟩; have n0_ := Aside0.mk (Kd.R_lower ho0 (below_size (by repeat (first | (with_reducible first | exact HB.out | apply below_alloc | apply pw_below_drewN | apply below_drew1 | refine below_set ?_ GE733.out | refine below_set ?_ GE737.out) | exact HB.out)))); have n1_ := Aside0.mk (blk_below (g := gb733) (o := .cells #[.int .i64 t730, .int .i64 t731] 32 (0, 0)) (by (with_reducible repeat (first | refine blk_drewN ?_ _ | refine blk_drew ?_ | refine blk_alloc ?_ _)); exact BK733.out) hb); have n2_ := Aside0.mk (blk_below (g := gb737) (o := .cells #[.int .i64 t734, .int .i64 t735] 32 (0, 0)) (by (with_reducible repeat (first | refine blk_drewN ?_ _ | refine blk_drew ?_ | refine blk_alloc ?_ _)); exact BK737.out) hb); have n3_ := Aside0.mk (below_step (by repeat (first | (with_reducible first | exact HB.out | apply below_alloc | apply pw_below_drewN | apply below_drew1 | refine below_set ?_ GE733.out | refine below_set ?_ GE737.out) | exact HB.out)) hb); clear BK733; clear BK737; clear HB; have HO742 := n0_; have BK733 := n1_; have BK737 := n2_; have HB := n3_; clear n0_ n1_ n2_ n3_; (try clear hb); (try clear hb2); (try clear hk); (try clear hi); (try clear ho0); obtain ⟨Ao131, co131, eo131⟩ := Kd.R_slice HO742.out; subst eo131) | ((with_reducible refine gate_callee (f := 34) rfl ?_); refine goesL_ (some 267) rfl rfl Try.func34 (by kernel_rfl) rfl #[.slice Ao131 t738.length co131] rfl (by (try simp only [List.map_toArray, List.map_cons, List.map_nil]); first | done | rfl | (simp only [List.length_drop, List.length_take]; rfl)) ?_; (with_reducible refine (whistle_FromLengths.calls kj85 _ _ t738 t743 t744 _ ?side1 ?side2 A116.out).mono ?_); (case side1 => repeat (first | exact (Kd.R_reads' HO742.out).2.2 | (with_reducible refine Kd.C_alloc ?_ _) | (with_reducible refine Kd.C_drewN ?_ _) | (with_reducible refine Kd.C_drew ?_))); (case side2 => exact (Kd.R_reads' HO742.out).2.1); rintro e w132 ⟨v745, rfl, ho0, hb⟩; refine ⟨_, rfl, ?_⟩; have n0_ := Aside0.mk (Kd.R_below (by (with_reducible repeat (first | apply Kd.R_alloc | apply Kd.R_drewN | apply Kd.R_drew)); exact HO742.out) hb); have n1_ := Aside0.mk (Kd.R_lower ho0 (below_size (by repeat (first | (with_reducible first | exact HB.out | apply below_alloc | apply pw_below_drewN | apply below_drew1 | refine below_set ?_ GE733.out | refine below_set ?_ GE737.out) | exact HB.out)))); have n2_ := Aside0.mk (blk_below (g := gb733) (o := .cells #[.int .i64 t730, .int .i64 t731] 32 (0, 0)) (by (with_reducible repeat (first | refine blk_drewN ?_ _ | refine blk_drew ?_ | refine blk_alloc ?_ _)); exact BK733.out) hb); have n3_ := Aside0.mk (blk_below (g := gb737) (o := .cells #[.int .i64 t734, .int .i64 t735] 32 (0, 0)) (by (with_reducible repeat (first | refine blk_drewN ?_ _ | refine blk_drew ?_ | refine blk_alloc ?_ _)); exact BK737.out) hb); have n4_ := Aside0.mk (below_step (by repeat (first | (with_reducible first | exact HB.out | apply below_alloc | apply pw_below_drewN | apply below_drew1 | refine below_set ?_ GE733.out | refine below_set ?_ GE737.out) | exact HB.out)) hb); clear HO742; clear BK733; clear BK737; clear HB; have HO742 := n0_; have HO746 := n1_; have BK733 := n2_; have BK737 := n3_; have HB := n4_; clear n0_ n1_ n2_ n3_ n4_; (try clear hb); (try clear hb2); (try clear hk); (try clear hi); (try clear ho0); obtain ⟨Ao133, co133, eo133⟩ := Kd.R_slice HO746.out; subst eo133) | ((with_reducible refine gate_callee (f := 47) rfl ?_); refine goesL_ (some 273) rfl rfl Try.func47 (by kernel_rfl) rfl #[.slice A2 l2.length c2, .slice Ao133 t743.length co133] rfl (by (try simp only [List.map_toArray, List.map_cons, List.map_nil]); first | done | rfl | (simp only [List.length_drop, List.length_take]; rfl)) ?_; (with_reducible refine (whistle_Cost.calls kj85 _ _ l2 _ _ t743 t747 t748 _ ?side1 ?side2 ?side3 ?side4 A117.out).mono ?_); (case side1 => repeat (first | exact (Kd.C_below HR2.out HB.out) | (with_reducible refine Kd.C_alloc ?_ _) | (with_reducible refine Kd.C_drewN ?_ _) | (with_reducible refine Kd.C_drew ?_))); (case side2 => exact HC2.out); (case side3 => repeat (first | exact (Kd.R_reads' HO746.out).2.2 | (with_reducible refine Kd.C_alloc ?_ _) | (with_reducible refine Kd.C_drewN ?_ _) | (with_reducible refine Kd.C_drew ?_))); (case side4 => exact (Kd.R_reads' HO746.out).2.1); rintro e w134 ⟨rfl, hb⟩; refine ⟨_, rfl, ?_⟩; have n0_ := Aside0.mk (Kd.R_below (by (with_reducible repeat (first | apply Kd.R_alloc | apply Kd.R_drewN | apply Kd.R_drew)); exact HO742.out) hb); have n1_ := Aside0.mk (Kd.R_below (by (with_reducible repeat (first | apply Kd.R_alloc | apply Kd.R_drewN | apply Kd.R_drew)); exact HO746.out) hb); have n2_ := Aside0.mk (blk_below (g := gb733) (o := .cells #[.int .i64 t730, .int .i64 t731] 32 (0, 0)) (by (with_reducible repeat (first | refine blk_drewN ?_ _ | refine blk_drew ?_ | refine blk_alloc ?_ _)); exact BK733.out) hb); have n3_ := Aside0.mk (blk_below (g := gb737) (o := .cells #[.int .i64 t734, .int .i64 t735] 32 (0, 0)) (by (with_reducible repeat (first | refine blk_drewN ?_ _ | refine blk_drew ?_ | refine blk_alloc ?_ _)); exact BK737.out) hb); have n4_ := Aside0.mk (below_step (by repeat (first | (with_reducible first | exact HB.out | apply below_alloc | apply pw_below_drewN | apply below_drew1 | refine below_set ?_ GE733.out | refine below_set ?_ GE737.out) | exact HB.out)) hb); clear HO742; clear HO746; clear BK733; clear BK737; clear HB; have HO742 := n0_; have HO746 := n1_; have BK733 := n2_; have BK737 := n3_; have HB := n4_; clear n0_ n1_ n2_ n3_ n4_; (try clear hb); (try clear hb2); (try clear hk); (try clear hi)) | ((with_reducible refine gate_callee (f := 47) rfl ?_); refine goesL_ (some 279) rfl rfl Try.func47 (by kernel_rfl) rfl #[.slice A2 l2.length c2, .slice A0 l0.length c0] rfl (by (try simp only [List.map_toArray, List.map_cons, List.map_nil]); first | done | rfl | (simp only [List.length_drop, List.length_take]; rfl)) ?_; (with_reducible refine (whistle_Cost.calls kj85 _ _ l2 _ _ l0 t749 t750 _ ?side1 ?side2 ?side3 ?side4 A118.out).mono ?_); (case side1 => repeat (first | exact (Kd.C_below HR2.out HB.out) | (with_reducible refine Kd.C_alloc ?_ _) | (with_reducible refine Kd.C_drewN ?_ _) | (with_reducible refine Kd.C_drew ?_))); (case side2 => exact HC2.out); (case side3 => repeat (first | exact (Kd.C_below HR0.out HB.out) | (with_reducible refine Kd.C_alloc ?_ _) | (with_reducible refine Kd.C_drewN ?_ _) | (with_reducible refine Kd.C_drew ?_))); (case side4 => exact HC0.out); rintro e w135 ⟨rfl, hb⟩; refine ⟨_, rfl, ?_⟩; have n0_ := Aside0.mk (Kd.R_below (by (with_reducible repeat (first | apply Kd.R_alloc | apply Kd.R_drewN | apply Kd.R_drew)); exact HO742.out) hb); have n1_ := Aside0.mk (Kd.R_below (by (with_reducible repeat (first | apply Kd.R_alloc | apply Kd.R_drewN | apply Kd.R_drew)); exact HO746.out) hb); have n2_ := Aside0.mk (blk_below (g := gb733) (o := .cells #[.int .i64 t730, .int .i64 t731] 32 (0, 0)) (by (with_reducible repeat (first | refine blk_drewN ?_ _ | refine blk_drew ?_ | refine blk_alloc ?_ _)); exact BK733.out) hb); have n3_ := Aside0.mk (blk_below (g := gb737) (o := .cells #[.int .i64 t734, .int .i64 t735] 32 (0, 0)) (by (with_reducible repeat (first | refine blk_drewN ?_ _ | refine blk_drew ?_ | refine blk_alloc ?_ _)); exact BK737.out) hb); have n4_ := Aside0.mk (below_step (by repeat (first | (with_reducible first | exact HB.out | apply below_alloc | apply pw_below_drewN | apply below_drew1 | refine below_set ?_ GE733.out | refine below_set ?_ GE737.out) | exact HB.out)) hb); clear HO742; clear HO746; clear BK733; clear BK737; clear HB; have HO742 := n0_; have HO746 := n1_; have BK733 := n2_; have BK737 := n3_; have HB := n4_; clear n0_ n1_ n2_ n3_ n4_; (try clear hb); (try clear hb2); (try clear hk); (try clear hi)))
                                 go_ret
                                 exact ⟨by first | rfl | (simp [errW_none, errW_some] <;> rfl) | (simp [*, errW_none, errW_some] <;> rfl), by repeat (first | (with_reducible first | exact HB.out | apply below_alloc | apply pw_below_drewN | apply below_drew1 | refine below_set ?_ GE733.out | refine below_set ?_ GE737.out) | exact HB.out)⟩
                               ·rw [if_neg c122] at H
                                have c122b0 : (t750 == 0) = false := beq_eq_false_iff_ne.mpr c122
                                have c122b1 : (t750 != 0) = true := bne_iff_ne.mpr c122
                                obtain rfl := Option.some.inj H
                                go_wp2_with (first | ((with_reducible refine gate_callee (f := 44) rfl ?_); refine goesL_ (some 252) rfl rfl Try.func44 (by kernel_rfl) rfl #[.slice A2 l2.length c2] rfl (by (try simp only [List.map_toArray, List.map_cons, List.map_nil]); first | done | rfl | (simp only [List.length_drop, List.length_take]; rfl)) ?_; (with_reducible refine (whistle_Cheapest.calls kj85 _ _ l2 t738 t739 t740 _ ?side1 ?side2 A114.out).mono ?_); (case side1 => repeat (first | exact (Kd.C_below HR2.out HB.out) | (with_reducible refine Kd.C_alloc ?_ _) | (with_reducible refine Kd.C_drewN ?_ _) | (with_reducible refine Kd.C_drew ?_))); (case side2 => exact HC2.out); rintro e w136 ⟨v741, rfl, ho0, hb⟩; refine ⟨_, rfl, ?_⟩; have n0_ := Aside0.mk (Kd.R_lower ho0 (below_size (by repeat (first | (with_reducible first | exact HB.out | apply below_alloc | apply pw_below_drewN | apply below_drew1 | refine below_set ?_ GE733.out | refine below_set ?_ GE737.out) | exact HB.out)))); have n1_ := Aside0.mk (blk_below (g := gb733) (o := .cells #[.int .i64 t730, .int .i64 t731] 32 (0, 0)) (by (with_reducible repeat (first | refine blk_drewN ?_ _ | refine blk_drew ?_ | refine blk_alloc ?_ _)); exact BK733.out) hb); have n2_ := Aside0.mk (blk_below (g := gb737) (o := .cells #[.int .i64 t734, .int .i64 t735] 32 (0, 0)) (by (with_reducible repeat (first | refine blk_drewN ?_ _ | refine blk_drew ?_ | refine blk_alloc ?_ _)); exact BK737.out) hb); have n3_ := Aside0.mk (below_step (by repeat (first | (with_reducible first | exact HB.out | apply below_alloc | apply pw_below_drewN | apply below_drew1 | refine below_set ?_ GE733.out | refine below_set ?_ GE737.out) | exact HB.out)) hb); clear BK733; clear BK737; clear HB; have HO742 := n0_; have BK733 := n1_; have BK737 := n2_; have HB := n3_; clear n0_ n1_ n2_ n3_; (try clear hb); (try clear hb2); (try clear hk); (try clear hi); (try clear ho0); obtain ⟨Ao137, co137, eo137⟩ := Kd.R_slice HO742.out; subst eo137) | ((with_reducible refine gate_callee (f := 34) rfl ?_); refine goesL_ (some 267) rfl rfl Try.func34 (by kernel_rfl) rfl #[.slice Ao137 t738.length co137] rfl (by (try simp only [List.map_toArray, List.map_cons, List.map_nil]); first | done | rfl | (simp only [List.length_drop, List.length_take]; rfl)) ?_; (with_reducible refine (whistle_FromLengths.calls kj85 _ _ t738 t743 t744 _ ?side1 ?side2 A116.out).mono ?_); (case side1 => repeat (first | exact (Kd.R_reads' HO742.out).2.2 | (with_reducible refine Kd.C_alloc ?_ _) | (with_reducible refine Kd.C_drewN ?_ _) | (with_reducible refine Kd.C_drew ?_))); (case side2 => exact (Kd.R_reads' HO742.out).2.1); rintro e w138 ⟨v745, rfl, ho0, hb⟩; refine ⟨_, rfl, ?_⟩; have n0_ := Aside0.mk (Kd.R_below (by (with_reducible repeat (first | apply Kd.R_alloc | apply Kd.R_drewN | apply Kd.R_drew)); exact HO742.out) hb); have n1_ := Aside0.mk (Kd.R_lower ho0 (below_size (by repeat (first | (with_reducible first | exact HB.out | apply below_alloc | apply pw_below_drewN | apply below_drew1 | refine below_set ?_ GE733.out | refine below_set ?_ GE737.out) | exact HB.out)))); have n2_ := Aside0.mk (blk_below (g := gb733) (o := .cells #[.int .i64 t730, .int .i64 t731] 32 (0, 0)) (by (with_reducible repeat (first | refine blk_drewN ?_ _ | refine blk_drew ?_ | refine blk_alloc ?_ _)); exact BK733.out) hb); have n3_ := Aside0.mk (blk_below (g := gb737) (o := .cells #[.int .i64 t734, .int .i64 t735] 32 (0, 0)) (by (with_reducible repeat (first | refine blk_drewN ?_ _ | refine blk_drew ?_ | refine blk_alloc ?_ _)); exact BK737.out) hb); have n4_ := Aside0.mk (below_step (by repeat (first | (with_reducible first | exact HB.out | apply below_alloc | apply pw_below_drewN | apply below_drew1 | refine below_set ?_ GE733.out | refine below_set ?_ GE737.out) | exact HB.out)) hb); clear HO742; clear BK733; clear BK737; clear HB; have HO742 := n0_; have HO746 := n1_; have BK733 := n2_; have BK737 := n3_; have HB := n4_; clear n0_ n1_ n2_ n3_ n4_; (try clear hb); (try clear hb2); (try clear hk); (try clear hi); (try clear ho0); obtain ⟨Ao139, co139, eo139⟩ := Kd.R_slice HO746.out; subst eo139) | ((with_reducible refine gate_callee (f := 47) rfl ?_); refine goesL_ (some 273) rfl rfl Try.func47 (by kernel_rfl) rfl #[.slice A2 l2.length c2, .slice Ao139 t743.length co139] rfl (by (try simp only [List.map_toArray, List.map_cons, List.map_nil]); first | done | rfl | (simp only [List.length_drop, List.length_take]; rfl)) ?_; (with_reducible refine (whistle_Cost.calls kj85 _ _ l2 _ _ t743 t747 t748 _ ?side1 ?side2 ?side3 ?side4 A117.out).mono ?_); (case side1 => repeat (first | exact (Kd.C_below HR2.out HB.out) | (with_reducible refine Kd.C_alloc ?_ _) | (with_reducible refine Kd.C_drewN ?_ _) | (with_reducible refine Kd.C_drew ?_))); (case side2 => exact HC2.out); (case side3 => repeat (first | exact (Kd.R_reads' HO746.out).2.2 | (with_reducible refine Kd.C_alloc ?_ _) | (with_reducible refine Kd.C_drewN ?_ _) | (with_reducible refine Kd.C_drew ?_))); (case side4 => exact (Kd.R_reads' HO746.out).2.1); rintro e w140 ⟨rfl, hb⟩; refine ⟨_, rfl, ?_⟩; have n0_ := Aside0.mk (Kd.R_below (by (with_reducible repeat (first | apply Kd.R_alloc | apply Kd.R_drewN | apply Kd.R_drew)); exact HO742.out) hb); have n1_ := Aside0.mk (Kd.R_below (by (with_reducible repeat (first | apply Kd.R_alloc | apply Kd.R_drewN | apply Kd.R_drew)); exact HO746.out) hb); have n2_ := Aside0.mk (blk_below (g := gb733) (o := .cells #[.int .i64 t730, .int .i64 t731] 32 (0, 0)) (by (with_reducible repeat (first | refine blk_drewN ?_ _ | refine blk_drew ?_ | refine blk_alloc ?_ _)); exact BK733.out) hb); have n3_ := Aside0.mk (blk_below (g := gb737) (o := .cells #[.int .i64 t734, .int .i64 t735] 32 (0, 0)) (by (with_reducible repeat (first | refine blk_drewN ?_ _ | refine blk_drew ?_ | refine blk_alloc ?_ _)); exact BK737.out) hb); have n4_ := Aside0.mk (below_step (by repeat (first | (with_reducible first | exact HB.out | apply below_alloc | apply pw_below_drewN | apply below_drew1 | refine below_set ?_ GE733.out | refine below_set ?_ GE737.out) | exact HB.out)) hb); clear HO742; clear HO746; clear BK733; clear BK737; clear HB; have HO742 := n0_; have HO746 := n1_; have BK733 := n2_; have BK737 := n3_; have HB := n4_; clear n0_ n1_ n2_ n3_ n4_; (try clear hb); (try clear hb2); (try clear hk); (try clear hi)) | ((with_reducible refine gate_callee (f := 47) rfl ?_); refine goesL_ (some 279) rfl rfl Try.func47 (by kernel_rfl) rfl #[.slice A2 l2.length c2, .slice A0 l0.length c0] rfl (by (try simp only [List.map_toArray, List.map_cons, List.map_nil]); first | done | rfl | (simp only [List.length_drop, List.length_take]; rfl)) ?_; (with_reducible refine (whistle_Cost.calls kj85 _ _ l2 _ _ l0 t749 t750 _ ?side1 ?side2 ?side3 ?side4 A118.out).mono ?_); (case side1 => repeat (first | exact (Kd.C_below HR2.out HB.out) | (with_reducible refine Kd.C_alloc ?_ _) | (with_reducible refine Kd.C_drewN ?_ _) | (with_reducible refine Kd.C_drew ?_))); (case side2 => exact HC2.out); (case side3 => repeat (first | exact (Kd.C_below HR0.out HB.out) | (with_reducible refine Kd.C_alloc ?_ _) | (with_reducible refine Kd.C_drewN ?_ _) | (with_reducible refine Kd.C_drew ?_))); (case side4 => exact HC0.out); rintro e w141 ⟨rfl, hb⟩; refine ⟨_, rfl, ?_⟩; have n0_ := Aside0.mk (Kd.R_below (by (with_reducible repeat (first | apply Kd.R_alloc | apply Kd.R_drewN | apply Kd.R_drew)); exact HO742.out) hb); have n1_ := Aside0.mk (Kd.R_below (by (with_reducible repeat (first | apply Kd.R_alloc | apply Kd.R_drewN | apply Kd.R_drew)); exact HO746.out) hb); have n2_ := Aside0.mk (blk_below (g := gb733) (o := .cells #[.int .i64 t730, .int .i64 t731] 32 (0, 0)) (by (with_reducible repeat (first | refine blk_drewN ?_ _ | refine blk_drew ?_ | refine blk_alloc ?_ _)); exact BK733.out) hb); have n3_ := Aside0.mk (blk_below (g := gb737) (o := .cells #[.int .i64 t734, .int .i64 t735] 32 (0, 0)) (by (with_reducible repeat (first | refine blk_drewN ?_ _ | refine blk_drew ?_ | refine blk_alloc ?_ _)); exact BK737.out) hb); have n4_ := Aside0.mk (below_step (by repeat (first | (with_reducible first | exact HB.out | apply below_alloc | apply pw_below_drewN | apply below_drew1 | refine below_set ?_ GE733.out | refine below_set ?_ GE737.out) | exact HB.out)) hb); clear HO742; clear HO746; clear BK733; clear BK737; clear HB; have HO742 := n0_; have HO746 := n1_; have BK733 := n2_; have BK737 := n3_; have HB := n4_; clear n0_ n1_ n2_ n3_ n4_; (try clear hb); (try clear hb2); (try clear hk); (try clear hi)))
                                go_ret
                                exact ⟨by first | rfl | (simp [errW_none, errW_some] <;> rfl) | (simp [*, errW_none, errW_some] <;> rfl), by repeat (first | (with_reducible first | exact HB.out | apply below_alloc | apply pw_below_drewN | apply below_drew1 | refine below_set ?_ GE733.out | refine below_set ?_ GE737.out) | exact HB.out)⟩
                              ·rw [if_neg c121] at H
                               exact absurd H (by simp)
                             ·rw [if_neg c120] at H
                              exact absurd H (by simp)
                            ·rw [if_neg c119] at H
                             exact absurd H (by simp)
                           ·rw [if_neg c115] at H
                            have c115b0 : (t740 == 0) = false := beq_eq_false_iff_ne.mpr c115
                            have c115b1 : (t740 != 0) = true := bne_iff_ne.mpr c115
                            by_cases c160 : (t738.length : Int) = 0
                            ·rw [if_pos c160] at H
                             have c160b0 : ((t738.length : Int) == 0) = true := beq_iff_eq.mpr c160
                             have c160b1 : ((t738.length : Int) != 0) = false := bne_eq_false_iff_eq.mpr c160
                             clear c160
                             obtain rfl := Option.some.inj H
                             go_wp2_with (first | ((with_reducible refine gate_callee (f := 44) rfl ?_); refine goesL_ (some 252) rfl rfl Try.func44 (by kernel_rfl) rfl #[.slice A2 l2.length c2] rfl (by (try simp only [List.map_toArray, List.map_cons, List.map_nil]); first | done | rfl | (simp only [List.length_drop, List.length_take]; rfl)) ?_; (with_reducible refine (whistle_Cheapest.calls kj85 _ _ l2 t738 t739 t740 _ ?side1 ?side2 A114.out).mono ?_); (case side1 => repeat (first | exact (Kd.C_below HR2.out HB.out) | (with_reducible refine Kd.C_alloc ?_ _) | (with_reducible refine Kd.C_drewN ?_ _) | (with_reducible refine Kd.C_drew ?_))); (case side2 => exact HC2.out); rintro e w161 ⟨v741, rfl, ho0, hb⟩; refine ⟨_, rfl, ?_⟩; have n0_ := Aside0.mk (Kd.R_lower ho0 (below_size (by repeat (first | (with_reducible first | exact HB.out | apply below_alloc | apply pw_below_drewN | apply below_drew1 | refine below_set ?_ GE733.out | refine below_set ?_ GE737.out) | exact HB.out)))); have n1_ := Aside0.mk (blk_below (g := gb733) (o := .cells #[.int .i64 t730, .int .i64 t731] 32 (0, 0)) (by (with_reducible repeat (first | refine blk_drewN ?_ _ | refine blk_drew ?_ | refine blk_alloc ?_ _)); exact BK733.out) hb); have n2_ := Aside0.mk (blk_below (g := gb737) (o := .cells #[.int .i64 t734, .int .i64 t735] 32 (0, 0)) (by (with_reducible repeat (first | refine blk_drewN ?_ _ | refine blk_drew ?_ | refine blk_alloc ?_ _)); exact BK737.out) hb); have n3_ := Aside0.mk (below_step (by repeat (first | (with_reducible first | exact HB.out | apply below_alloc | apply pw_below_drewN | apply below_drew1 | refine below_set ?_ GE733.out | refine below_set ?_ GE737.out) | exact HB.out)) hb); clear BK733; clear BK737; clear HB; have HO742 := n0_; have BK733 := n1_; have BK737 := n2_; have HB := n3_; clear n0_ n1_ n2_ n3_; (try clear hb); (try clear hb2); (try clear hk); (try clear hi); (try clear ho0); obtain ⟨Ao162, co162, eo162⟩ := Kd.R_slice HO742.out; subst eo162))
                             go_ret
                             exact ⟨by first | rfl | (simp [errW_none, errW_some] <;> rfl) | (simp [*, errW_none, errW_some] <;> rfl), by repeat (first | (with_reducible first | exact HB.out | apply below_alloc | apply pw_below_drewN | apply below_drew1 | refine below_set ?_ GE733.out | refine below_set ?_ GE737.out) | exact HB.out)⟩
                            ·rw [if_neg c160] at H
                             exact absurd H (by simp)
             ·rw [if_neg c25] at H
              have c25b0 : (t698 == 0) = false := beq_eq_false_iff_ne.mpr c25
              have c25b1 : (t698 != 0) = true := bne_iff_ne.mpr c25
              by_cases c165 : t697 = true
              ·subst c165
               have H1 : (none) = some r := by rw [if_pos rfl] at H; exact H
               exact absurd H1 (by simp)
              ·replace c165 := Bool.eq_false_iff.mpr c165
               subst c165
               have H1 : (some (!t701)) = some r := by rw [if_neg (show ¬ (false = true) by decide)] at H; exact H
               clear H
               have H := H1
               clear H1
               obtain rfl := Option.some.inj H
               go_wp2
               go_ret
               exact ⟨by first | rfl | (simp [errW_none, errW_some] <;> rfl) | (simp [*, errW_none, errW_some] <;> rfl), by repeat (first | (with_reducible first | exact HB.out | apply below_alloc | apply pw_below_drewN | apply below_drew1) | exact HB.out)⟩

end Go.Proofs.Ytpkafcoflgbnaaa.Q
