/- Quote: the library's functions on words, walked. -/
import Derived.Test.YtdpllkmbnphdgaaRows
import Derived.Test.YtdpllkmbnphdgaaQuoteF
import Derived.WalkKit
import Derived.WalkSpells
import Derived.Laws.Externs
import Derived.Lib.Hide
import Derived.Laws.BitsAllLaws
namespace Go.Proofs.Ytdpllkmbnphdgaa
open Go.RowKit Ieee

theorem frombits_runs (n : Int) (w : World) : (callFunc 36 #[.int .u64 n]).run Try.prog w = .ok (.value (.float .f64 n.toNat)) w := by
  rw [run_callFunc_extern (e := Extern.MathFloatBits.float64frombits) Try.func36 (by kernel_rfl) (by kernel_rfl) (by kernel_rfl) (by kernel_rfl)]
  rfl
theorem bits_runs (n : Nat) (w : World) : (callFunc 44 #[.float .f64 n]).run Try.prog w = .ok (.value (.int .u64 n)) w := by
  rw [run_callFunc_extern (e := Extern.MathFloatBits.float64bits) Try.func44 (by kernel_rfl) (by kernel_rfl) (by kernel_rfl) (by kernel_rfl)]
  rfl
theorem nan_any {x : Nat} (w : World) : Calls Try.prog 37 #[.float .f64 x] w fun e w' => e = .returned (.bool (decide (9218868437227405312 < x % 9223372036854775808))) ∧ w' = w := by
  by_cases h : 9218868437227405312 < x % 9223372036854775808
  · have h1 : (FloatKind.f64.format.order x x != some .eq) = true := by
      show (double.order x x != some .eq) = true
      rw [nan_order h]; rfl
    rw [decide_eq_true h]
    clear h
    go_enter Try.func37, Try.ntmps37
    go_wp2
    go_ret
    exact ⟨rfl, rfl⟩
  · have h1 : (FloatKind.f64.format.order x x != some .eq) = false := by
      show (double.order x x != some .eq) = false
      rw [self_order (by omega)]; rfl
    rw [decide_eq_false h]
    clear h
    go_enter Try.func37, Try.ntmps37
    go_wp2
    go_ret
    exact ⟨rfl, rfl⟩
theorem andNot_sign {x : Nat} (h : x < 18446744073709551616) : bits .andNot .u64 (x : Int) 9223372036854775808 = ((x % 9223372036854775808 : Nat) : Int) := by
  have := u64_andNot_nat x 9223372036854775808 h (by omega)
  rw [show ((9223372036854775808 : Nat) : Int) = 9223372036854775808 by rfl] at this
  rw [this, show 18446744073709551615 - 9223372036854775808 = 2 ^ 63 - 1 by decide, Nat.and_two_pow_sub_one_eq_mod]
theorem abs_any {x : Nat} (h : x < 18446744073709551616) (w : World) : Calls Try.prog 45 #[.float .f64 x] w fun e w' => e = .returned (.float .f64 (x % 9223372036854775808)) ∧ w' = w := by
  have hf := frombits_runs
  have hb := bits_runs
  have ha := andNot_sign h
  go_enter Try.func45, Try.ntmps45
  go_wp2
  go_ret
  exact ⟨rfl, rfl⟩
theorem sign_any {x : Nat} (h : x < 18446744073709551616) (w : World) : Calls Try.prog 39 #[.float .f64 x] w fun e w' => e = .returned (.bool (decide (9223372036854775808 ≤ x))) ∧ w' = w := by
  have hb := bits_runs
  go_enter Try.func39, Try.ntmps39
  go_wp2
  go_ret
  refine ⟨?_, rfl⟩
  have e : decide (wrap64 (x : Int) < 0) = decide (9223372036854775808 ≤ x) := by
    rw [decide_eq_decide]; unfold wrap64; omega
  show Ending.returned (Value.bool (decide (wrap64 (x : Int) < 0))) = _
  rw [e]
theorem inf_any {x : Nat} (h : x < 18446744073709551616) (hn : x % 9223372036854775808 ≤ 9218868437227405312) (w : World) : Calls Try.prog 38 #[.float .f64 x, .int .i64 0] w fun e w' => e = .returned (.bool (decide (x % 9223372036854775808 = 9218868437227405312))) ∧ w' = w := by
  have hc : (FloatKind.f64.format.order (x % 9223372036854775808) 9218868437227405311 == some .gt) = decide (x % 9223372036854775808 = 9218868437227405312) := by
    show (double.order _ _ == some .gt) = _
    by_cases h1 : x % 9223372036854775808 = 9218868437227405312
    · rw [h1]; decide +kernel
    · rw [gt_pos (by omega) (by omega)]
      rw [decide_eq_decide]; omega
  go_enter Try.func38, Try.ntmps38
  go_wp2_with fail
  refine (abs_any h _).mono ?_
  rintro e w' ⟨rfl, rfl⟩
  go_wp2
  go_ret
  exact ⟨rfl, rfl⟩
theorem rate_may (n : Int) (w : World) : Calls Try.prog 43 #[.int .i64 n] w fun e w' => e = .returned (.bool (decide (1 ≤ n ∧ n ≤ 100000000))) ∧ w' = w := by
  go_enter Try.func43, Try.ntmps43
  go_wp2
  · rename_i h
    go_ret
    refine ⟨?_, rfl⟩
    have e : decide (1 ≤ n ∧ n ≤ 100000000) = decide (n ≤ 100000000) := by rw [decide_eq_decide]; omega
    rw [e]
    rfl
  · rename_i h
    go_ret
    refine ⟨?_, rfl⟩
    have e : decide (1 ≤ n) = false := decide_eq_false (by omega)
    rw [e]
    rfl
theorem normalize_any {x : Nat} (h1 : 4503599627370496 ≤ x) (h2 : x < 9218868437227405312) (w : World) : Calls Try.prog 51 #[.float .f64 x] w fun e w' => e = .returned (.tuple #[.float .f64 x, .int .i64 0]) ∧ w' = w := by
  have hl : (FloatKind.f64.format.order (x % 9223372036854775808) 4503599627370496 == some .lt) = false := by
    show (double.order _ _ == some .lt) = false
    rw [lt_pos (by omega) (by omega)]
    exact decide_eq_false (by omega)
  go_enter Try.func51, Try.ntmps51
  go_wp2_with fail
  refine (abs_any (by omega) _).mono ?_
  rintro e w' ⟨rfl, rfl⟩
  go_wp2
  go_ret2
  exact ⟨rfl, rfl⟩
/-- a word's part, without its exponent. -/
theorem andNot_field {x : Nat} (h : x < 9223372036854775808) : bits .andNot .u64 (x : Int) 9218868437227405312 = ((x % 4503599627370496 : Nat) : Int) := by
  have := u64_andNot_nat x 9218868437227405312 (by omega) (by omega)
  rw [show ((9218868437227405312 : Nat) : Int) = 9218868437227405312 by rfl] at this
  rw [this, show 18446744073709551615 - 9218868437227405312 = 2 ^ 63 ||| (2 ^ 52 - 1) by decide, Nat.and_or_distrib_left, nat_bit, Nat.and_two_pow_sub_one_eq_mod]
  have e : x / 2 ^ 63 % 2 * 2 ^ 63 = 0 := by
    have : x / 2 ^ 63 = 0 := by have p : (2 : Nat) ^ 63 = 9223372036854775808 := by decide
                                rw [p]; omega
    rw [this]
  rw [e, Nat.zero_or]
theorem p52 : (2 : Nat) ^ 52 = 4503599627370496 := by decide
theorem or_field {f : Nat} (h : f < 4503599627370496) (k : Nat) (hk : k < 2048) : bits .or .u64 (f : Int) ((k * 4503599627370496 : Nat) : Int) = ((k * 4503599627370496 + f : Nat) : Int) := by
  rw [u64_or_nat _ _ (by omega) (by omega), Nat.or_comm, nat_join 52 _ _ (by rw [p52]; omega) (by rw [p52]; exact h)]
theorem and_field {x : Nat} (h : x < 9223372036854775808) : bits .and .u64 ((x : Int) / 4503599627370496) 2047 = ((x / 4503599627370496 : Nat) : Int) := by
  have := u64_and_nat (x / 4503599627370496) 2047 (by omega) (by omega)
  rw [show ((2047 : Nat) : Int) = 2047 by rfl, show ((x / 4503599627370496 : Nat) : Int) = (x : Int) / 4503599627370496 by omega] at this
  rw [this, show 2047 = 2 ^ 11 - 1 by decide, Nat.and_two_pow_sub_one_eq_mod]
  have p : (2 : Nat) ^ 11 = 2048 := by decide
  rw [p]; omega
theorem frexp_any {x : Nat} (h1 : 4503599627370496 ≤ x) (h2 : x < 9218868437227405312) (w : World) : Calls Try.prog 47 #[.float .f64 x] w fun e w' => e = .returned (.tuple #[.float .f64 (4602678819172646912 + x % 4503599627370496), .int .i64 ((x / 4503599627370496 : Nat) - 1022)]) ∧ w' = w := by
  have hz : (FloatKind.f64.format.order x 0 == some .eq) = false := by
    show (double.order _ _ == some .eq) = false
    rw [eq_pos (by omega) (by omega)]
    exact decide_eq_false (by omega)
  have hn : decide (9218868437227405312 < x % 9223372036854775808) = false := decide_eq_false (by omega)
  have hi : decide (x % 9223372036854775808 = 9218868437227405312) = false := decide_eq_false (by omega)
  have ha := andNot_field (x := x) (by omega)
  have hm := and_field (x := x) (by omega)
  have ho := or_field (f := x % 4503599627370496) (by omega) 1022 (by omega)
  rw [show ((1022 * 4503599627370496 : Nat) : Int) = 4602678819172646912 by rfl] at ho
  obtain ⟨E, hE⟩ : ∃ E, x / 4503599627370496 = E := ⟨_, rfl⟩
  have hE2 : E < 2047 := by omega
  obtain ⟨F, hF⟩ : ∃ F, x % 4503599627370496 = F := ⟨_, rfl⟩
  rw [hF] at ha ho ⊢
  rw [hE] at hm ⊢
  have hw1 : wrap64 (E : Int) = E := by unfold wrap64; omega
  have hw2 : wrap64 ((E : Int) - 1023) = E - 1023 := by unfold wrap64; omega
  have hw3 : wrap64 ((E : Int) - 1023 + 1) = E - 1022 := by unfold wrap64; omega
  have hw4 : wrap64 ((E : Int) - 1022) = E - 1022 := by unfold wrap64; omega
  have hb := bits_runs
  have hf := frombits_runs
  go_enter Try.func47, Try.ntmps47
  go_wp2_with fail
  refine (inf_any (by omega) (by omega) _).mono ?_
  rintro e w' ⟨rfl, rfl⟩
  rw [hi]
  go_wp2_with fail
  refine (nan_any _).mono ?_
  rintro e w' ⟨rfl, rfl⟩
  rw [hn]
  go_wp2_with fail
  refine (normalize_any h1 h2 _).mono ?_
  rintro e w' ⟨rfl, rfl⟩
  go_wp2
  go_ret2
  refine ⟨?_, rfl⟩
  show Ending.returned (.tuple #[.float .f64 (4602678819172646912 + F), .int .i64 ((E : Int) - 1023 + 1)]) = _
  rw [show (E : Int) - 1023 + 1 = E - 1022 by omega]
set_option maxHeartbeats 800000 in
theorem Frexp_any {x : Nat} (h1 : 4503599627370496 ≤ x) (h2 : x < 9218868437227405312) (w : World) : Calls Try.prog 40 #[.float .f64 x] w fun e w' => e = .returned (.tuple #[.float .f64 (4602678819172646912 + x % 4503599627370496), .int .i64 ((x / 4503599627370496 : Nat) - 1022)]) ∧ w' = w := by
  go_enter Try.func40, Try.ntmps40
  go_wp2_with fail
  refine (frexp_any h1 h2 _).mono ?_
  rintro e w' ⟨rfl, rfl⟩
  go_wp2
  go_ret2
  exact ⟨rfl, rfl⟩
set_option maxHeartbeats 800000 in
theorem ldexp_any {y r F : Nat} (hy : y = 4602678819172646912 + F) (hr : r = 4841369599423283200 + F) (hF : F < 4503599627370496) (w : World) : Calls Try.prog 50 #[.float .f64 y, .int .i64 53] w fun e w' => e = .returned (.float .f64 r) ∧ w' = w := by
  have hz : (FloatKind.f64.format.order y 0 == some .eq) = false := by
    show (double.order _ _ == some .eq) = false
    rw [eq_pos (by omega) (by omega)]
    exact decide_eq_false (by omega)
  have hn : decide (9218868437227405312 < y % 9223372036854775808) = false := decide_eq_false (by omega)
  have hi : decide (y % 9223372036854775808 = 9218868437227405312) = false := decide_eq_false (by omega)
  have ha := andNot_field (x := y) (by omega)
  rw [show y % 4503599627370496 = F by omega] at ha
  have ho := or_field (f := F) (by omega) 1075 (by omega)
  rw [show ((1075 * 4503599627370496 : Nat) : Int) = 4841369599423283200 by rfl] at ho
  rw [show ((1075 * 4503599627370496 + F : Nat) : Int) = (r : Int) by omega] at ho
  have hy2 : y < 9218868437227405312 := by omega
  have hy3 : 4503599627370496 ≤ y := by omega
  have hd : (y : Int) / 4503599627370496 = 1022 := by omega
  have hm : ∀ w, (binOp .mul 78 (.float .f64 4607182418800017408) (.float .f64 r)).run Try.prog w = .ok (.float .f64 r) w := fun w => run_float_arith (h := mul_one_d (by omega) (by omega)) ..
  have hk : bits .and .i64 1022 2047 = 1022 := by decide
  have hr2 : (r : Int).toNat = r := by omega
  clear hy hr
  have hb := bits_runs
  have hf := frombits_runs
  go_enter Try.func50, Try.ntmps50
  go_wp2_with fail
  refine (inf_any (x := y) (by omega) (by omega) _).mono ?_
  rintro e w' ⟨rfl, rfl⟩
  rw [hi]
  go_wp2_with fail
  refine (nan_any (x := y) _).mono ?_
  rintro e w' ⟨rfl, rfl⟩
  rw [hn]
  go_wp2_with fail
  refine (normalize_any (x := y) (by omega) (by omega) _).mono ?_
  rintro e w' ⟨rfl, rfl⟩
  go_wp2
  go_ret
  exact ⟨rfl, rfl⟩
set_option maxHeartbeats 800000 in
theorem Ldexp_any {y r F : Nat} (hy : y = 4602678819172646912 + F) (hr : r = 4841369599423283200 + F) (hF : F < 4503599627370496) (w : World) : Calls Try.prog 42 #[.float .f64 y, .int .i64 53] w fun e w' => e = .returned (.float .f64 r) ∧ w' = w := by
  have H := Lib.hid (ldexp_any hy hr hF)
  clear hy hr hF
  go_enter Try.func42, Try.ntmps42
  go_wp2_with fail
  refine (H.out _).mono ?_
  rintro e w' ⟨rfl, rfl⟩
  go_wp2
  go_ret
  exact ⟨rfl, rfl⟩
end Go.Proofs.Ytdpllkmbnphdgaa
