/- Floating-point words, plain: their order is that of their bits; one times a number; a whole number out of a word. -/
import Derived.Test.YtdpllkmbnphdgaaQuoteA
import Derived.Laws.FloatArith
namespace Go.Proofs.Ytdpllkmbnphdgaa
open Ieee

theorem bin_d : double.binade = 4503599627370496 := by decide +kernel
theorem inf_d : double.infRung = 9218868437227405312 := by decide +kernel
theorem sgn_d : double.signWeight = 9223372036854775808 := by decide +kernel
theorem lst_d : double.leastPlace = -1074 := by decide +kernel
def ex (x : Nat) : Nat := x / 4503599627370496 - 1
def mg (x : Nat) : Nat := if x < 4503599627370496 then x else 4503599627370496 + x % 4503599627370496
theorem read_pos {x : Nat} (h : x < 9218868437227405312) : double.read x = .number false (mg x) (-1074 + (ex x : Int)) := by
  unfold Format.read
  rw [bin_d, inf_d, sgn_d, lst_d]
  have e1 : x / 9223372036854775808 % 2 = 0 := by omega
  have e2 : x % 9223372036854775808 = x := by omega
  rw [e1, e2]
  unfold mg ex
  by_cases h1 : x < 4503599627370496
  · dsimp only
    rw [if_pos h1, if_pos h1]
    have e3 : x / 4503599627370496 - 1 = 0 := by omega
    rw [e3]; rfl
  · dsimp only
    rw [if_neg h1, if_pos h, if_neg h1]
    rfl
/-- a word's size, by the least place. -/
def vl (x : Nat) : Nat := mg x * 2 ^ ex x
theorem mg_lt (x : Nat) : mg x < 9007199254740992 := by unfold mg; split <;> omega
theorem mg_ge {x : Nat} (h : 4503599627370496 ≤ x) : 4503599627370496 ≤ mg x := by unfold mg; rw [if_neg (by omega)]; omega
theorem vl_lt {x y : Nat} (h : x < y) : vl x < vl y := by
  unfold vl
  by_cases he : ex x = ex y
  · have hm : mg x < mg y := by
      unfold ex at he
      unfold mg
      split
      · split
        · omega
        · omega
      · rw [if_neg (by omega)]
        omega
    rw [he]
    exact Nat.mul_lt_mul_of_pos_right hm (Nat.two_pow_pos _)
  · have hlt : ex x < ex y := by unfold ex at he ⊢; omega
    have h1 := mg_lt x
    have h2 : 4503599627370496 ≤ mg y := mg_ge (by unfold ex at hlt; omega)
    obtain ⟨k, hk⟩ : ∃ k, ex y = ex x + 1 + k := ⟨ex y - ex x - 1, by omega⟩
    rw [hk, Nat.pow_add, Nat.pow_succ]
    have p1 : 0 < 2 ^ ex x := Nat.two_pow_pos _
    have p2 : 0 < 2 ^ k := Nat.two_pow_pos _
    calc mg x * 2 ^ ex x < 9007199254740992 * 2 ^ ex x := Nat.mul_lt_mul_of_pos_right h1 p1
      _ = 4503599627370496 * (2 ^ ex x * 2) := by omega
      _ ≤ mg y * (2 ^ ex x * 2) := Nat.mul_le_mul_right _ h2
      _ ≤ mg y * (2 ^ ex x * 2 * 2 ^ k) := Nat.mul_le_mul_left _ (Nat.le_mul_of_pos_right _ p2)
theorem vl_le {x y : Nat} (h : x ≤ y) : vl x ≤ vl y := by
  rcases Nat.lt_or_ge x y with h1 | h1
  · exact Nat.le_of_lt (vl_lt h1)
  · have : x = y := by omega
    subst this; exact Nat.le_refl _
theorem cmp_same {a b : Int} {x y : Nat} (h1 : x < y → a < b) (h2 : x = y → a = b) (h3 : y < x → b < a) : compare a b = compare x y := by
  show compareOfLessAndEq a b = compareOfLessAndEq x y
  unfold compareOfLessAndEq
  rcases Nat.lt_trichotomy x y with h | h | h
  · rw [if_pos (h1 h), if_pos h]
  · have e := h2 h
    rw [if_neg (by omega), if_pos e, if_neg (by omega), if_pos h]
  · have e := h3 h
    rw [if_neg (by omega), if_neg (by omega), if_neg (by omega), if_neg (by omega)]
theorem order_pos {x y : Nat} (hx : x < 9218868437227405312) (hy : y < 9218868437227405312) : double.order x y = some (compare x y) := by
  unfold Format.order
  rw [read_pos hx, read_pos hy]
  unfold Datum.order
  dsimp only
  have hb : min (-1074 + (ex x : Int)) (-1074 + (ex y : Int)) = -1074 + (min (ex x) (ex y) : Nat) := by omega
  rw [hb]
  have e1 : (-1074 + (ex x : Int) - (-1074 + (min (ex x) (ex y) : Nat))).toNat = ex x - min (ex x) (ex y) := by omega
  have e2 : (-1074 + (ex y : Int) - (-1074 + (min (ex x) (ex y) : Nat))).toNat = ex y - min (ex x) (ex y) := by omega
  rw [e1, e2]
  unfold signed
  simp only [Bool.false_eq_true, if_false, Nat.shiftLeft_eq]
  have p : 0 < 2 ^ min (ex x) (ex y) := Nat.two_pow_pos _
  have f1 : mg x * 2 ^ (ex x - min (ex x) (ex y)) * 2 ^ min (ex x) (ex y) = vl x := by
    unfold vl; rw [Nat.mul_assoc, ← Nat.pow_add, Nat.sub_add_cancel (Nat.min_le_left _ _)]
  have f2 : mg y * 2 ^ (ex y - min (ex x) (ex y)) * 2 ^ min (ex x) (ex y) = vl y := by
    unfold vl; rw [Nat.mul_assoc, ← Nat.pow_add, Nat.sub_add_cancel (Nat.min_le_right _ _)]
  congr 1
  have lt_of : ∀ {a b : Nat}, a * 2 ^ min (ex x) (ex y) < b * 2 ^ min (ex x) (ex y) → a < b := fun h => Nat.lt_of_mul_lt_mul_right h
  refine cmp_same (fun h => ?_) (fun h => ?_) (fun h => ?_)
  · have := lt_of (a := mg x * 2 ^ (ex x - min (ex x) (ex y))) (b := mg y * 2 ^ (ex y - min (ex x) (ex y))) (by rw [f1, f2]; exact vl_lt h)
    omega
  · subst h; rfl
  · have := lt_of (a := mg y * 2 ^ (ex y - min (ex x) (ex y))) (b := mg x * 2 ^ (ex x - min (ex x) (ex y))) (by rw [f1, f2]; exact vl_lt h)
    omega
theorem gt_pos {x y : Nat} (hx : x < 9218868437227405312) (hy : y < 9218868437227405312) : (double.order x y == some .gt) = decide (y < x) := by
  rw [order_pos hx hy]
  show (some (compareOfLessAndEq x y) == some .gt) = _
  unfold compareOfLessAndEq
  by_cases h1 : x < y
  · rw [if_pos h1]; simp; omega
  · by_cases h2 : x = y
    · rw [if_neg h1, if_pos h2]; simp; omega
    · rw [if_neg h1, if_neg h2]; simp; omega
theorem lt_pos {x y : Nat} (hx : x < 9218868437227405312) (hy : y < 9218868437227405312) : (double.order x y == some .lt) = decide (x < y) := by
  rw [order_pos hx hy]
  show (some (compareOfLessAndEq x y) == some .lt) = _
  unfold compareOfLessAndEq
  by_cases h1 : x < y
  · rw [if_pos h1]; simp; omega
  · by_cases h2 : x = y
    · rw [if_neg h1, if_pos h2]; simp; omega
    · rw [if_neg h1, if_neg h2]; simp; omega
theorem eq_pos {x y : Nat} (hx : x < 9218868437227405312) (hy : y < 9218868437227405312) : (double.order x y == some .eq) = decide (x = y) := by
  rw [order_pos hx hy]
  show (some (compareOfLessAndEq x y) == some .eq) = _
  unfold compareOfLessAndEq
  by_cases h1 : x < y
  · rw [if_pos h1]; simp; omega
  · by_cases h2 : x = y
    · rw [if_neg h1, if_pos h2]; simp [h2]
    · rw [if_neg h1, if_neg h2]; simp [h2]
theorem nan_order {x : Nat} (h : 9218868437227405312 < x % 9223372036854775808) (y : Nat) : double.order x y = none := by
  unfold Format.order Format.read
  rw [bin_d, inf_d, sgn_d]
  dsimp only
  rw [if_neg (by omega), if_neg (by omega), if_neg (by omega)]
  rfl
theorem self_order {x : Nat} (h : x % 9223372036854775808 ≤ 9218868437227405312) : double.order x x = some .eq := by
  have key : ∀ d : Datum, d.isNaN = false → d.order d = some .eq := by
    intro d hd
    cases d with
    | number s m i =>
      unfold Datum.order
      dsimp only
      show some (compareOfLessAndEq _ _) = _
      unfold compareOfLessAndEq
      rw [if_neg (by omega), if_pos rfl]
    | infinity s => cases s <;> rfl
    | nan s f => cases hd
  unfold Format.order
  apply key
  unfold Format.read
  rw [bin_d, inf_d, sgn_d]
  dsimp only
  by_cases h1 : x % 9223372036854775808 < 4503599627370496
  · rw [if_pos h1]; rfl
  · by_cases h2 : x % 9223372036854775808 < 9218868437227405312
    · rw [if_neg h1, if_pos h2]; rfl
    · rw [if_neg h1, if_neg h2, if_pos (by omega)]; rfl
theorem inf_gt : (double.order 9218868437227405312 9218868437227405311 == some .gt) = true := by decide +kernel
/-- one times a normal number. -/
theorem log_two {m : Nat} (h1 : 4503599627370496 ≤ m) (h2 : m < 9007199254740992) : (4503599627370496 * m).log2 = 104 := by
  rw [Nat.log2_eq_iff (by omega)]
  constructor
  · have : (2 : Nat) ^ 104 = 4503599627370496 * 4503599627370496 := by decide
    rw [this]; exact Nat.mul_le_mul_left _ h1
  · have : (2 : Nat) ^ (104 + 1) = 4503599627370496 * 9007199254740992 := by decide
    rw [this]; exact Nat.mul_lt_mul_of_pos_left h2 (by omega)
theorem mul_one_d {y : Nat} (h1 : 4503599627370496 ≤ y) (h2 : y < 9218868437227405312) : double.mul 4607182418800017408 y = some y := by
  unfold Format.mul
  rw [read_pos h2, show double.read 4607182418800017408 = .number false 4503599627370496 (-52) by decide +kernel]
  have m1 := mg_ge h1
  have m2 := mg_lt y
  unfold Datum.product
  simp only [Option.map_some, Bool.xor_self, Option.some.injEq]
  unfold Format.write
  dsimp only
  unfold Format.nearest
  rw [if_neg (by have : 0 < 4503599627370496 * mg y := Nat.mul_pos (by omega) (by omega); omega), log_two m1 m2, lst_d, bin_d, inf_d]
  dsimp only
  have e1 : max (-52 + (-1074 + (ex y : Int)) + ((104 : Nat) : Int) - (double.fractionBits : Nat)) (-1074) = -1074 + (ex y : Int) := by
    have : (double.fractionBits : Nat) = 52 := rfl
    omega
  rw [e1]
  have e2 : (-52 + (-1074 + (ex y : Int)) - (-1074 + (ex y : Int))).toNat = 0 := by omega
  have e3 : (-1074 + (ex y : Int) - (-52 + (-1074 + (ex y : Int)))).toNat = 52 := by omega
  have e4 : (-1074 + (ex y : Int) - -1074).toNat = ex y := by omega
  rw [e2, e3, e4]
  have e5 : Toward.even.cut false ((4503599627370496 * mg y) <<< 0) 52 = mg y := by
    have l0 : (4503599627370496 * mg y) <<< 0 = 4503599627370496 * mg y := rfl
    rw [l0]
    unfold Toward.cut
    rw [log_two m1 m2]
    have g1 : 1 <<< min 52 (104 + 2) = 4503599627370496 := by decide
    rw [g1]
    have r1 : 4503599627370496 * mg y / 4503599627370496 = mg y := by omega
    have r2 : 4503599627370496 * mg y % 4503599627370496 = 0 := by omega
    dsimp only
    rw [r1, r2]
    simp
  rw [e5]
  unfold Format.word
  simp only [Bool.false_eq_true, if_false]
  unfold mg ex
  rw [if_neg (by omega)]
  omega
/-- a word of exponent field 1075 is a whole number. -/
theorem toInt_d {y : Nat} (h : y / 4503599627370496 = 1075) : floatToIntVal .f64 y .i64 = some ((4503599627370496 + y % 4503599627370496 : Nat) : Int) := by
  have hr : double.read y = .number false (4503599627370496 + y % 4503599627370496) 0 := by
    rw [read_pos (by omega)]
    unfold mg ex
    rw [if_neg (by omega), h]
    rfl
  unfold floatToIntVal FloatKind.decode FloatKind.format
  dsimp only
  rw [hr]
  unfold Datum.toInt Datum.integral
  dsimp only
  have e : Toward.zero.cut false ((4503599627370496 + y % 4503599627370496) <<< (0 : Int).toNat) (-(0 : Int)).toNat = 4503599627370496 + y % 4503599627370496 := by
    show Toward.zero.cut false ((4503599627370496 + y % 4503599627370496) <<< 0) 0 = _
    have l0 : (4503599627370496 + y % 4503599627370496) <<< 0 = 4503599627370496 + y % 4503599627370496 := rfl
    rw [l0]
    unfold Toward.cut
    have g1 : 1 <<< min 0 ((4503599627370496 + y % 4503599627370496).log2 + 2) = 1 := by rw [Nat.zero_min]; rfl
    dsimp only
    rw [g1, Nat.div_one]
    simp
  rw [e]
  unfold signed
  simp only [Bool.false_eq_true, if_false]
  have l1 : (4503599627370496 + y % 4503599627370496) <<< 0 = 4503599627370496 + y % 4503599627370496 := rfl
  rw [l1, if_pos]
  constructor
  · exact Int.le_trans (show IntKind.i64.min ≤ 0 by decide) (by omega)
  · exact Int.le_trans (show ((4503599627370496 + y % 4503599627370496 : Nat) : Int) ≤ 9223372036854775807 by omega) (show (9223372036854775807 : Int) ≤ IntKind.i64.max by decide)
end Go.Proofs.Ytdpllkmbnphdgaa
