import Derived.Test.YthihlapmkcelpaaDoorQx2
import Derived.Test.YthihlapmkcelpaaDoorQx5
import Derived.Test.YthihlapmkcelpaaDoorLibA
namespace Go.Proofs.YthihlapmkcelpaaDoor.Pure
open Go.RowKit Go.Proofs.YthihlapmkcelpaaDoor.Q Go.Proofs.YthihlapmkcelpaaDoorW.PrintWords Go.Proofs.YthihlapmkcelpaaDoorW.PrintLast Go.Proofs.YthihlapmkcelpaaDoorW.PrintMore

/-! Sets of points as numbers. -/
theorem mask_bit (h : Nat → Bool) (p : Nat) (hp : p < 32) : (maskN h 32).testBit p = h p := by
  rw [maskN_testBit, decide_eq_true hp, Bool.true_and]
theorem mask_eq {x : Nat} (hx : x < 4294967296) {h : Nat → Bool} (hb : ∀ p, p < 32 → x.testBit p = h p) : x = maskN h 32 := by
  apply Nat.eq_of_testBit_eq
  intro p
  rw [maskN_testBit]
  by_cases hp : p < 32
  · rw [decide_eq_true hp, Bool.true_and]
    exact hb p hp
  · rw [decide_eq_false hp, Bool.false_and]
    apply Nat.testBit_lt_two_pow
    have := Nat.pow_le_pow_right (n := 2) (by decide) (show 32 ≤ p by omega)
    omega
theorem mask_congr {f g : Nat → Bool} (h : ∀ p, p < 32 → f p = g p) : maskN f 32 = maskN g 32 := mask_eq (mask32_lt f) fun p hp => by rw [mask_bit f p hp, h p hp]
theorem mask_self {n : Nat} (hn : n < 4294967296) : maskN (fun p => n.testBit p) 32 = n := (mask_eq hn fun _ _ => rfl).symm
theorem u64_and31 : ∀ a : Fin 32, bits .and .u64 (IntKind.u64.wrap (a.val : Int)) 31 = (a.val : Int) := by decide +kernel
def backS (a q : Nat) : Nat := (q + 32 - a) % 32
theorem backS_lt (a q : Nat) : backS a q < 32 := Nat.mod_lt _ (by decide)
theorem rot_bits {x a : Nat} (hx : x < 4294967296) (ha : a < 32) : ((x * 2 ^ a % 4294967296) ||| (x / 2 ^ (32 - a))) = maskN (fun p => x.testBit (backS a p)) 32 := by
  apply mask_eq
  · have h1 : x * 2 ^ a % 4294967296 < 2 ^ 32 := Nat.mod_lt _ (by decide)
    have h2 : x / 2 ^ (32 - a) ≤ x := Nat.div_le_self _ _
    exact Nat.or_lt_two_pow h1 (by omega)
  · intro p hp
    rw [Nat.testBit_or, show (4294967296 : Nat) = 2 ^ 32 by decide, Nat.testBit_mod_two_pow, Nat.testBit_mul_two_pow, Nat.testBit_div_two_pow, decide_eq_true hp, Bool.true_and]
    unfold backS
    by_cases h : a ≤ p
    · have e1 : x.testBit (p + (32 - a)) = false := by
        apply Nat.testBit_lt_two_pow
        have := Nat.pow_le_pow_right (n := 2) (by decide) (show 32 ≤ p + (32 - a) by omega)
        omega
      rw [e1, Bool.or_false, show (p + 32 - a) % 32 = p - a by omega]
      simp [h]
    · have e2 : decide (p ≥ a) = false := decide_eq_false (by omega)
      rw [e2, Bool.false_and, Bool.false_or, show (p + 32 - a) % 32 = p + (32 - a) by omega]
def rotN (x a : Nat) : Nat := maskN (fun p => x.testBit (backS a p)) 32
theorem rotN_lt (x a : Nat) : rotN x a < 4294967296 := mask32_lt _
theorem rotate_at {x a : Nat} (hx : x < 4294967296) (ha : a < 32) : bits_RotateLeft32.f (x : Int) (a : Int) = some ((rotN x a : Nat) : Int) := by
  unfold bits_RotateLeft32.f
  rw [u64_and31 ⟨a, ha⟩]
  have e1 : IntKind.u64.wrap (32 - (a : Int)) = ((32 - a : Nat) : Int) := by
    show (32 - (a : Int)) % 18446744073709551616 = _
    omega
  simp only
  rw [e1, if_pos (by omega), if_pos (by omega)]
  congr 1
  have e2 : shl .u32 (x : Int) (a : Int) = ((x * 2 ^ a % 4294967296 : Nat) : Int) := by
    unfold shl
    rw [Int.toNat_natCast, show min a IntKind.u32.bits = a from Nat.min_eq_left (show a ≤ 32 by omega)]
    show ((x : Int) * 2 ^ a) % 4294967296 = _
    rw [Int.natCast_emod, Int.natCast_mul, Int.natCast_pow]
    rfl
  have e3 : shr .u32 (x : Int) ((32 - a : Nat) : Int) = ((x / 2 ^ (32 - a) : Nat) : Int) := by
    unfold shr
    rw [Int.toNat_natCast, show min (32 - a) IntKind.u32.bits = 32 - a from Nat.min_eq_left (show 32 - a ≤ 32 by omega), Int.natCast_ediv, Int.natCast_pow]
    rfl
  have hle : x / 2 ^ (32 - a) ≤ x := Nat.div_le_self _ _
  rw [e2, e3, u32_or_nat _ _ (Nat.mod_lt _ (by decide)) (by omega), rot_bits hx ha]
  rfl
def turnP (n y : Int) : Int × Int := if setOk n = true then (((rotN n.toNat (turnA y) : Nat) : Int), 0) else (0, 1)
theorem turn_at (n y : Int) : wind_Turn.f n y = some (turnP n y) := by
  unfold wind_Turn.f turnP wind_points_turned.f wind_modulo.f
  rw [isSet_eq, turn_and]
  by_cases h : setOk n = true
  · have hr := of_decide_eq_true h
    obtain ⟨m, rfl⟩ := Int.eq_ofNat_of_zero_le hr.1
    have hm : (m : Int) % 4294967296 = (m : Int) := by omega
    rw [h, Int.toNat_natCast]
    simp only [Option.bind_some, if_true]
    rw [hm, rotate_at (by omega) (turnA_lt y)]
    have hl := rotN_lt m (turnA y)
    simp only [Option.bind_some]
    rw [w64 (by omega) (by omega)]
  · rw [Bool.eq_false_iff.mpr h]
    rfl
theorem turn_back {a : Nat} (ha : a < 32) {p : Nat} (hp : p < 32) : backS a (turnS a p) = p := by unfold backS turnS; omega
theorem turn_forth {a : Nat} (ha : a < 32) {p : Nat} (hp : p < 32) : turnS a (backS a p) = p := by unfold backS turnS; omega
theorem ref_turn_at (n y : Int) : wigeonref03_Turn.f n y = some (turnP n y) := by
  unfold wigeonref03_Turn.f refTurnP turnP
  have ha := turnA_lt y
  rw [scat_all (fun p hp => turn_back ha hp) (fun q hq => turn_forth ha hq) (fun q _ => backS_lt _ q)]
  rfl
theorem neg_neg {p : Nat} (hp : p < 32) : negS (negS p) = p := by unfold negS; omega
theorem ref_mirror_at (n : Int) : wigeonref03_Mirror.f n = some (mirrorP n) := by
  unfold wigeonref03_Mirror.f refMirrorP mirrorP
  rw [scat_all (fun p hp => neg_neg hp) (fun q hq => neg_neg hq) (fun q _ => negS_lt q)]
  rfl

end Go.Proofs.YthihlapmkcelpaaDoor.Pure
