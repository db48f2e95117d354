/- Quote: Rate, walked. -/
import Derived.Test.YtdpllkmbnphdgaaQuoteD
namespace Go.Proofs.Ytdpllkmbnphdgaa
open Go.RowKit Ieee

theorem near_all {size down : Nat} (h1 : size < 9007199254740992) (h2 : 26 ≤ down) (h3 : down ≤ 68) (w : World) : Calls Try.prog 41 #[.int .i64 size, .int .i64 down] w fun e w' => e = .returned (.tuple #[.int .i64 (rhe (10000 * size) (2 ^ down) : Nat), .int .i64 0]) ∧ Below w.heap.size w w' := by
  rcases Nat.lt_or_ge 62 down with h | h
  · have : down = 63 ∨ down = 64 ∨ down = 65 ∨ down = 66 ∨ down = 67 ∨ down = 68 := by omega
    rcases this with rfl | rfl | rfl | rfl | rfl | rfl
    · exact near_1 h1 w
    · exact near_2 h1 w
    · exact near_3 h1 w
    · exact near_4 h1 w
    · exact near_5 h1 w
    · exact near_6 h1 w
  · exact near_low h1 h2 h w
/-- a quote's rate, unless it is out of bounds. -/
def rateN (b : Nat) : Nat := rhe (10000 * (4503599627370496 + b % 4503599627370496)) (2 ^ (1075 - b / 4503599627370496))
/-- a quote's rate, and why there is none. -/
def rateOf (b : Nat) : Int × Int :=
  if 9218868437227405312 < b % 9223372036854775808 then (0, 2)
  else if b % 9223372036854775808 = 9218868437227405312 then (0, 3)
  else if b < 4537999922764202797 ∨ 4726483295884279808 < b then (0, 1)
  else if 1 ≤ rateN b ∧ rateN b ≤ 100000000 then (rateN b, 0) else (0, 1)
set_option maxHeartbeats 1000000 in
theorem rate_nan {b : Nat} (h : 9218868437227405312 < b % 9223372036854775808) (w : World) : Calls Try.prog 23 #[.int .u64 b] w fun e w' => e = .returned (.tuple #[.int .i64 0, .int .i64 2]) ∧ Below w.heap.size w w' := by
  have hn := decide_eq_true h
  have hf := frombits_runs
  clear h
  go_enter Try.func23, Try.ntmps23
  go_wp2_with fail
  refine (nan_any (x := b) _).mono ?_
  rintro e w1 ⟨rfl, rfl⟩
  rw [hn]
  go_wp2
  go_ret2
  exact ⟨rfl, Below.refl _ _⟩
set_option maxHeartbeats 1000000 in
theorem rate_inf {b : Nat} (hb : b < 18446744073709551616) (h : b % 9223372036854775808 = 9218868437227405312) (w : World) : Calls Try.prog 23 #[.int .u64 b] w fun e w' => e = .returned (.tuple #[.int .i64 0, .int .i64 3]) ∧ Below w.heap.size w w' := by
  have hn : decide (9218868437227405312 < b % 9223372036854775808) = false := decide_eq_false (by omega)
  have hi := decide_eq_true h
  have HI := Lib.hid (fun w => inf_any (x := b) hb (by omega) w)
  rw [hi] at HI
  have hf := frombits_runs
  clear h hb hi
  go_enter Try.func23, Try.ntmps23
  go_wp2_with fail
  refine (nan_any (x := b) _).mono ?_
  rintro e w1 ⟨rfl, rfl⟩
  rw [hn]
  go_wp2_with fail
  refine (HI.out _).mono ?_
  rintro e w1 ⟨rfl, rfl⟩
  go_wp2
  go_ret2
  exact ⟨rfl, Below.refl _ _⟩
set_option maxHeartbeats 2000000 in
theorem rate_out {b : Nat} (hb : b < 18446744073709551616) (h : b % 9223372036854775808 < 9218868437227405312) (ho : b < 4537999922764202797 ∨ 4726483295884279808 < b) (w : World) : Calls Try.prog 23 #[.int .u64 b] w fun e w' => e = .returned (.tuple #[.int .i64 0, .int .i64 1]) ∧ Below w.heap.size w w' := by
  have hn : decide (9218868437227405312 < b % 9223372036854775808) = false := decide_eq_false (by omega)
  have hi : decide (b % 9223372036854775808 = 9218868437227405312) = false := decide_eq_false (by omega)
  have HI := Lib.hid (fun w => inf_any (x := b) hb (by omega) w)
  rw [hi] at HI
  have HS := Lib.hid (fun w => sign_any (x := b) hb w)
  have hf := frombits_runs
  have key : 9223372036854775808 ≤ b ∨ (b < 9223372036854775808 ∧ ((FloatKind.f64.format.order b 4726483295884279808 == some .gt) = true ∨ ((FloatKind.f64.format.order b 4726483295884279808 == some .gt) = false ∧ (FloatKind.f64.format.order b 4537999922764202797 == some .lt) = true))) := by
    rcases Nat.lt_or_ge b 9223372036854775808 with g | g
    · right
      refine ⟨g, ?_⟩
      show (double.order b 4726483295884279808 == some .gt) = true ∨ ((double.order b 4726483295884279808 == some .gt) = false ∧ (double.order b 4537999922764202797 == some .lt) = true)
      rw [gt_pos (by omega) (by omega), lt_pos (by omega) (by omega)]
      simp only [decide_eq_true_eq, decide_eq_false_iff_not]
      omega
    · exact .inl g
  obtain ⟨z, hz⟩ : ∃ z, (FloatKind.f64.format.order b 0 == some .eq) = z := ⟨_, rfl⟩
  clear h ho hb hi
  cases z with
  | true =>
    clear key
    go_enter Try.func23, Try.ntmps23
    go_wp2_with fail
    refine (nan_any (x := b) _).mono ?_
    rintro e w1 ⟨rfl, rfl⟩
    rw [hn]
    go_wp2_with fail
    refine (HI.out _).mono ?_
    rintro e w1 ⟨rfl, rfl⟩
    go_wp2
    go_ret2
    exact ⟨rfl, Below.refl _ _⟩
  | false =>
    rcases key with g | ⟨g, hg | ⟨hg, hl⟩⟩
    · rw [decide_eq_true g] at HS
      clear g
      go_enter Try.func23, Try.ntmps23
      go_wp2_with fail
      refine (nan_any (x := b) _).mono ?_
      rintro e w1 ⟨rfl, rfl⟩
      rw [hn]
      go_wp2_with fail
      refine (HI.out _).mono ?_
      rintro e w1 ⟨rfl, rfl⟩
      go_wp2_with fail
      refine (HS.out _).mono ?_
      rintro e w1 ⟨rfl, rfl⟩
      go_wp2
      go_ret2
      exact ⟨rfl, Below.refl _ _⟩
    all_goals
      rw [decide_eq_false (by omega)] at HS
      clear g
      go_enter Try.func23, Try.ntmps23
      go_wp2_with fail
      refine (nan_any (x := b) _).mono ?_
      rintro e w1 ⟨rfl, rfl⟩
      rw [hn]
      go_wp2_with fail
      refine (HI.out _).mono ?_
      rintro e w1 ⟨rfl, rfl⟩
      go_wp2_with fail
      refine (HS.out _).mono ?_
      rintro e w1 ⟨rfl, rfl⟩
      go_wp2
      go_ret2
      exact ⟨rfl, Below.refl _ _⟩
set_option maxHeartbeats 2000000 in
theorem rate_in {b : Nat} (h1 : 4537999922764202797 ≤ b) (h2 : b ≤ 4726483295884279808) (w : World) : Calls Try.prog 23 #[.int .u64 b] w fun e w' => e = .returned (.tuple #[.int .i64 (if 1 ≤ rateN b ∧ rateN b ≤ 100000000 then (rateN b : Int) else 0), .int .i64 (if 1 ≤ rateN b ∧ rateN b ≤ 100000000 then 0 else 1)]) ∧ Below w.heap.size w w' := by
  have hn : decide (9218868437227405312 < b % 9223372036854775808) = false := decide_eq_false (by omega)
  have hi : decide (b % 9223372036854775808 = 9218868437227405312) = false := decide_eq_false (by omega)
  have HI := Lib.hid (fun w => inf_any (x := b) (by omega) (by omega) w)
  rw [hi] at HI
  have HS := Lib.hid (fun w => sign_any (x := b) (by omega) w)
  rw [decide_eq_false (by omega)] at HS
  have hf := frombits_runs
  have hz : (FloatKind.f64.format.order b 0 == some .eq) = false := by
    show (double.order _ _ == some .eq) = false
    rw [eq_pos (by omega) (by omega)]
    exact decide_eq_false (by omega)
  have hg : (FloatKind.f64.format.order b 4726483295884279808 == some .gt) = false := by
    show (double.order _ _ == some .gt) = false
    rw [gt_pos (by omega) (by omega)]
    exact decide_eq_false (by omega)
  have hl : (FloatKind.f64.format.order b 4537999922764202797 == some .lt) = false := by
    show (double.order _ _ == some .lt) = false
    rw [lt_pos (by omega) (by omega)]
    exact decide_eq_false (by omega)
  have HX := Lib.hid (fun w => Frexp_any (x := b) (by omega) (by omega) w)
  obtain ⟨y, hy⟩ : ∃ y, 4602678819172646912 + b % 4503599627370496 = y := ⟨_, rfl⟩
  obtain ⟨r, hr⟩ : ∃ r, 4841369599423283200 + b % 4503599627370496 = r := ⟨_, rfl⟩
  have HL := Lib.hid (fun w => Ldexp_any (y := y) (r := r) (F := b % 4503599627370496) hy.symm hr.symm (by omega) w)
  have hti := toInt_d (y := r) (by omega)
  obtain ⟨size, hs⟩ : ∃ size, 4503599627370496 + b % 4503599627370496 = size := ⟨_, rfl⟩
  obtain ⟨down, hd⟩ : ∃ down, 1075 - b / 4503599627370496 = down := ⟨_, rfl⟩
  rw [show 4503599627370496 + r % 4503599627370496 = size by omega] at hti
  have hcv : ∀ w, (convert 78 2 (.float .f64 r)).run Try.prog w = .ok (.int .i64 size) w := fun w => run_convert_float_int (hs := by rw [Try.underlying78]; rfl) (hd := Try.underlying2) (h := hti) ..
  have HN := Lib.hid (fun w => near_all (size := size) (down := down) (by omega) (by omega) (by omega) w)
  have hR : rateN b = rhe (10000 * size) (2 ^ down) := by unfold rateN; rw [hs, hd]
  rw [← hR] at HN
  obtain ⟨E, hE⟩ : ∃ E, b / 4503599627370496 = E := ⟨_, rfl⟩
  rw [hy, hE] at HX
  have hw : wrap64 (53 - ((E : Int) - 1022)) = down := by unfold wrap64; omega
  generalize rateN b = R at *
  have HM := Lib.hid (fun w => rate_may (R : Int) w)
  clear h1 h2 hi hy hr hti hs hd hR hE
  obtain ⟨X, hX⟩ : ∃ X, (if 1 ≤ R ∧ R ≤ 100000000 then (R : Int) else 0) = X := ⟨_, rfl⟩
  obtain ⟨Y, hY⟩ : ∃ Y : Int, (if 1 ≤ R ∧ R ≤ 100000000 then 0 else 1) = Y := ⟨_, rfl⟩
  rw [hX, hY]
  replace hX := Lib.hid hX
  replace hY := Lib.hid hY
  go_enter Try.func23, Try.ntmps23
  go_wp2_with fail
  refine (nan_any (x := b) _).mono ?_
  rintro e w1 ⟨rfl, rfl⟩
  rw [hn]
  go_wp2_with fail
  refine (HI.out _).mono ?_
  rintro e w1 ⟨rfl, rfl⟩
  go_wp2_with fail
  refine (HS.out _).mono ?_
  rintro e w1 ⟨rfl, rfl⟩
  go_wp2_with fail
  refine (HX.out _).mono ?_
  rintro e w1 ⟨rfl, rfl⟩
  go_wp2_with fail
  refine (HL.out _).mono ?_
  rintro e w1 ⟨rfl, rfl⟩
  go_wp2_with fail
  refine (HN.out _).mono ?_
  rintro e w1 ⟨rfl, hb⟩
  go_wp2_with fail
  refine (HM.out _).mono ?_
  rintro e w2 ⟨rfl, rfl⟩
  by_cases hin : 1 ≤ R ∧ R ≤ 100000000
  · have hq : decide ((1 : Int) ≤ R ∧ (R : Int) ≤ 100000000) = true := decide_eq_true (by omega)
    rw [hq]
    clear hq
    go_wp2
    go_ret2
    rw [← hX.out, ← hY.out, if_pos hin, if_pos hin]
    exact ⟨rfl, hb⟩
  · have hq : decide ((1 : Int) ≤ R ∧ (R : Int) ≤ 100000000) = false := decide_eq_false (by omega)
    rw [hq]
    clear hq
    go_wp2
    go_ret2
    rw [← hX.out, ← hY.out, if_neg hin, if_neg hin]
    exact ⟨rfl, hb⟩
theorem rate_any {b : Nat} (hb : b < 18446744073709551616) (w : World) : Calls Try.prog 23 #[.int .u64 b] w fun e w' => e = .returned (.tuple #[.int .i64 (rateOf b).1, .int .i64 (rateOf b).2]) ∧ Below w.heap.size w w' := by
  unfold rateOf
  by_cases h1 : 9218868437227405312 < b % 9223372036854775808
  · rw [if_pos h1]; exact rate_nan h1 w
  · by_cases h2 : b % 9223372036854775808 = 9218868437227405312
    · rw [if_neg h1, if_pos h2]; exact rate_inf hb h2 w
    · by_cases h3 : b < 4537999922764202797 ∨ 4726483295884279808 < b
      · rw [if_neg h1, if_neg h2, if_pos h3]; exact rate_out hb (by omega) h3 w
      · rw [if_neg h1, if_neg h2, if_neg h3]
        have := rate_in (b := b) (by omega) (by omega) w
        by_cases h4 : 1 ≤ rateN b ∧ rateN b ≤ 100000000
        · rw [if_pos h4, if_pos h4] at this; rw [if_pos h4]; exact this
        · rw [if_neg h4, if_neg h4] at this; rw [if_neg h4]; exact this
end Go.Proofs.Ytdpllkmbnphdgaa
