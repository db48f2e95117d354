/- Quote: the money's product and quotient, walked where a quote asks them. -/
import Derived.Test.YtdpllkmbnphdgaaQuoteB
import Derived.BigQuiet
import Derived.BigRegion
namespace Go.Proofs.Ytdpllkmbnphdgaa
open Go.RowKit

theorem money_size {n : Nat} (h : n < 9223372036854775808) (w : World) : Calls Try.prog 53 #[.int .i64 n] w fun e w' => e = .returned (.int .u64 n) ∧ w' = w := by
  have h1 : ¬ (n : Int) < 0 := by omega
  have h2 : (n : Int) % 18446744073709551616 = n := by omega
  go_enter Try.func53, Try.ntmps53
  go_wp2
  go_ret
  exact ⟨rfl, rfl⟩
theorem money_signed {n : Nat} (h : n < 9223372036854775808) (w : World) : Calls Try.prog 55 #[.int .u64 n, .bool false] w fun e w' => e = .returned (.tuple #[.int .i64 n, .int .i64 0]) ∧ w' = w := by
  have h1 : (n : Int) < 9223372036854775808 := by omega
  have h2 : wrap64 (n : Int) = n := by unfold wrap64; omega
  go_enter Try.func55, Try.ntmps55
  go_wp2
  go_ret2
  exact ⟨rfl, rfl⟩
theorem wrap_u64_eq (n : Int) : IntKind.u64.wrap n = n % 18446744073709551616 := by simp [IntKind.wrap, IntKind.bits, IntKind.signed]
theorem shift_in {rest low : Nat} (h1 : rest < 4611686018427387904) (h2 : low < 18446744073709551616) : bits .or .u64 ((rest : Int) * 2) ((low : Int) / 9223372036854775808) = ((2 * rest + low / 9223372036854775808 : Nat) : Int) := by
  have := u64_or_nat (rest * 2) (low / 9223372036854775808) (by omega) (by omega)
  rw [show ((rest * 2 : Nat) : Int) = (rest : Int) * 2 by omega, show ((low / 9223372036854775808 : Nat) : Int) = (low : Int) / 9223372036854775808 by omega] at this
  rw [this, nat_join 1 _ _ (by omega) (by omega), Nat.mul_comm]
theorem set_low {q : Nat} (h : q < 9223372036854775808) : bits .or .u64 ((2 * q : Nat) : Int) 1 = ((2 * q + 1 : Nat) : Int) := by
  have := u64_or_nat (2 * q) 1 (by omega) (by omega)
  rw [show ((1 : Nat) : Int) = 1 by rfl] at this
  rw [this, nat_join 1 _ _ (by omega) (by omega)]
theorem quot_step {T rest low X : Nat} (hT : T = (X + rest) * 18446744073709551616 + low) : T * 2 = (2 * X + (2 * rest + low / 9223372036854775808)) * 18446744073709551616 + low * 2 % 18446744073709551616 := by omega
theorem money_quotient {high L by_ : Nat} (h1 : high < by_) (h2 : by_ ≤ 4611686018427387904) (h3 : L < 18446744073709551616) (w : World) : Calls Try.prog 54 #[.int .u64 high, .int .u64 L, .int .u64 by_] w fun e w' => e = .returned (.tuple #[.int .u64 ((high * 18446744073709551616 + L) / by_ : Nat), .bool (!decide ((high * 18446744073709551616 + L) % by_ = 0)), .bool true]) ∧ w' = w := by
  obtain ⟨N, hN⟩ : ∃ N, high * 18446744073709551616 + L = N := ⟨_, rfl⟩
  rw [hN]
  have H1 := Lib.hid (And.intro h1 (And.intro h2 (And.intro h3 hN)))
  have hlt : ¬ ((by_ : Int) ≤ high) := by omega
  have hlt2 : (high : Int) < by_ := by omega
  clear h1 h2 h3 hN
  go_enter Try.func54, Try.ntmps54
  go_wp2
  go_loopw [1, 6, 9, 15] (fun l u r i wr => ∃ j q rest low : Nat, j ≤ 64 ∧ i = .int .i64 j ∧ l = .int .u64 low ∧ u = .int .u64 q ∧ r = .int .u64 rest ∧ wr = w ∧ low < 18446744073709551616 ∧ rest < by_ ∧ q < 2 ^ j ∧ N * 2 ^ j = (q * by_ + rest) * 18446744073709551616 + low) (fun _ _ _ i _ => 64 - (intOf i).toNat)
  case atStart =>
    obtain ⟨h1, h2, h3, hN⟩ := H1.out
    exact ⟨0, 0, high, L, by omega, rfl, rfl, rfl, rfl, rfl, h3, h1, by decide, by omega⟩
  case round =>
    obtain ⟨j, q, rest, low, hj, rfl, rfl, rfl, rfl, rfl, hlow, hrest, hq, hNj⟩ := hrel
    have hby := H1.out.2.1
    by_cases hlt64 : j < 64
    · have hover : ¬ (9223372036854775808 : Int) ≤ rest := by omega
      have hq63 : q < 9223372036854775808 := by
        have : 2 ^ j ≤ 2 ^ 63 := Nat.pow_le_pow_right (by omega) (by omega)
        have p63 : (2 : Nat) ^ 63 = 9223372036854775808 := by decide
        omega
      have hor := shift_in (rest := rest) (by omega) hlow
      have hw1 : IntKind.u64.wrap ((low : Int) * 2) = ((low * 2 % 18446744073709551616 : Nat) : Int) := by rw [wrap_u64_eq]; omega
      have hw2 : IntKind.u64.wrap ((q : Int) * 2) = ((2 * q : Nat) : Int) := by rw [wrap_u64_eq]; omega
      have hlo := set_low hq63
      have hst := quot_step hNj
      have hb1 : low / 9223372036854775808 ≤ 1 := by omega
      obtain ⟨R, hR⟩ : ∃ R, 2 * rest + low / 9223372036854775808 = R := ⟨_, rfl⟩
      obtain ⟨l', hl⟩ : ∃ l', low * 2 % 18446744073709551616 = l' := ⟨_, rfl⟩
      obtain ⟨q2, hq2⟩ : ∃ q2, 2 * q = q2 := ⟨_, rfl⟩
      rw [hR] at hor hst
      rw [hl] at hw1 hst
      rw [hq2] at hw2 hlo
      have hl' : l' < 18446744073709551616 := by omega
      have hR' : R < 2 * by_ := by omega
      have hX : 2 * (q * by_) = q2 * by_ := by rw [← hq2, Nat.mul_assoc]
      have hq' : q2 + 1 < 2 ^ (j + 1) := by rw [Nat.pow_succ]; omega
      rw [hX] at hst
      have hst' : N * 2 ^ (j + 1) = (q2 * by_ + R) * 18446744073709551616 + l' := by rw [Nat.pow_succ, ← Nat.mul_assoc]; exact hst
      have hw3 : by_ ≤ R → IntKind.u64.wrap ((R : Int) - by_) = ((R - by_ : Nat) : Int) := by intro h; rw [wrap_u64_eq]; omega
      have H2 := Lib.hid (And.intro hl' (And.intro hR' (And.intro hq' (And.intro hst' hw3))))
      clear hlow hrest hq hNj hby hst hst' hR hl hq2 hX hq63 hb1 hl' hR' hq' hw3
      go_wp2
      · rename_i hge
        go_roundw
        case rel =>
          obtain ⟨g1, g2, g3, g4, g5⟩ := H2.out
          have hge' : by_ ≤ R := by omega
          have g6 : (q2 + 1) * by_ = q2 * by_ + by_ := by rw [Nat.add_mul, Nat.one_mul]
          refine ⟨j + 1, q2 + 1, R - by_, l', by omega, by go_num, rfl, rfl, ?_, trivial, g1, by omega, g3, ?_⟩
          · rw [g5 hge']
          · rw [g6, g4]; congr 2; omega
        case measure => simp [intOf]; omega
      · rename_i hge
        go_roundw
        case rel =>
          obtain ⟨g1, g2, g3, g4, g5⟩ := H2.out
          exact ⟨j + 1, q2, R, l', by omega, by go_num, rfl, rfl, rfl, trivial, g1, by omega, by omega, g4⟩
        case measure => simp [intOf]; omega
    · obtain rfl : j = 64 := by omega
      have p64 : (2 : Nat) ^ 64 = 18446744073709551616 := by decide
      rw [p64] at hq hNj
      have hN : N = by_ * q + rest := by rw [Nat.mul_comm by_ q]; omega
      have hq1 : N / by_ = q := by
        rw [hN, Nat.mul_add_div (by omega), Nat.div_eq_of_lt hrest, Nat.add_zero]
      have hq2 : N % by_ = rest := by
        rw [hN, Nat.mul_add_mod, Nat.mod_eq_of_lt hrest]
      have HQ := Lib.hid (And.intro hq1 hq2)
      have hr : ((rest : Int) != 0) = !decide (rest = 0) := by
        by_cases h : rest = 0
        · subst h; rfl
        · simp [h]
      clear hlow hrest hq hNj hby hN hq1 hq2 p64
      go_wp2
      go_ret3
      rw [HQ.out.1, HQ.out.2]
      exact ⟨rfl, rfl⟩
theorem low_mask {x : Nat} (h : x < 18446744073709551616) : bits .and .u64 (x : Int) 4294967295 = ((x % 4294967296 : Nat) : Int) := by
  have := u64_and_nat x 4294967295 h (by omega)
  rw [show ((4294967295 : Nat) : Int) = 4294967295 by rfl] at this
  rw [this, show 4294967295 = 2 ^ 32 - 1 by decide, Nat.and_two_pow_sub_one_eq_mod]
theorem prod_mod {T K R : Nat} (h : T = K * 18446744073709551616 + R) (hR : R < 18446744073709551616) : T % 18446744073709551616 = R := by omega
theorem prod_div {T K R : Nat} (h : T = K * 18446744073709551616 + R) (hR : R < 18446744073709551616) : T / 18446744073709551616 = K := by omega
theorem wrap_part {x : Nat} (h : x < 4294967296) : IntKind.u64.wrap ((x : Int) * 20000 / 4294967296) = ((x * 20000 / 4294967296 : Nat) : Int) := by
  have e : ((x * 20000 / 4294967296 : Nat) : Int) = (x : Int) * 20000 / 4294967296 := by rw [Int.natCast_ediv, Int.natCast_mul]; rfl
  have hb : x * 20000 / 4294967296 < 20000 := by omega
  rw [wrap_u64_eq, ← e]
  generalize x * 20000 / 4294967296 = t at *
  omega
theorem money_product {a : Nat} (h : a < 9007199254740992) (w : World) : Calls Try.prog 52 #[.int .u64 a, .int .u64 20000] w fun e w' => e = .returned (.tuple #[.int .u64 (a * 20000 / 18446744073709551616 : Nat), .int .u64 (a * 20000 % 18446744073709551616 : Nat)]) ∧ Below w.heap.size w w' := by
  obtain ⟨lo, hlo⟩ : ∃ lo, a % 4294967296 = lo := ⟨_, rfl⟩
  obtain ⟨hi, hhi⟩ : ∃ hi, a / 4294967296 = hi := ⟨_, rfl⟩
  have m1 := low_mask (x := a) (by omega)
  have m2 : bits .and .u64 20000 4294967295 = 20000 := by decide
  have m3 : bits .and .u64 0 4294967295 = 0 := by decide
  have d1 : (a : Int) / 4294967296 = hi := by omega
  rw [hlo] at m1
  have m4 := low_mask (x := hi * 20000) (by omega)
  have m5 := low_mask (x := lo * 20000) (by omega)
  have w1 : IntKind.u64.wrap ((lo : Int) * 20000) = ((lo * 20000 : Nat) : Int) := by rw [wrap_u64_eq]; omega
  have w2 : IntKind.u64.wrap ((hi : Int) * 20000) = ((hi * 20000 : Nat) : Int) := by rw [wrap_u64_eq]; omega
  have c1 : ((lo * 20000 : Nat) : Int) = (lo : Int) * 20000 := Int.natCast_mul _ _
  have c2 : ((hi * 20000 : Nat) : Int) = (hi : Int) * 20000 := Int.natCast_mul _ _
  have w3 : IntKind.u64.wrap ((lo : Int) * 20000 / 4294967296) = ((lo * 20000 / 4294967296 : Nat) : Int) := wrap_part (by omega)
  have w6 : IntKind.u64.wrap ((hi : Int) * 20000 / 4294967296) = ((hi * 20000 / 4294967296 : Nat) : Int) := wrap_part (by omega)
  obtain ⟨y0, hy0⟩ : ∃ y0, lo * 20000 / 4294967296 = y0 := ⟨_, rfl⟩
  obtain ⟨y1, hy1⟩ : ∃ y1, hi * 20000 % 4294967296 = y1 := ⟨_, rfl⟩
  obtain ⟨y2, hy2⟩ : ∃ y2, hi * 20000 / 4294967296 = y2 := ⟨_, rfl⟩
  obtain ⟨z0, hz0⟩ : ∃ z0, lo * 20000 % 4294967296 = z0 := ⟨_, rfl⟩
  obtain ⟨mid, hmid⟩ : ∃ mid, y0 + y1 = mid := ⟨_, rfl⟩
  obtain ⟨z1, hz1⟩ : ∃ z1, mid * 4294967296 % 18446744073709551616 = z1 := ⟨_, rfl⟩
  rw [hy1, c2] at m4
  rw [hz0, c1] at m5
  rw [hy0] at w3
  rw [hy2] at w6
  have w4 : IntKind.u64.wrap ((y0 : Int) + y1) = mid := by rw [wrap_u64_eq]; omega
  have w5 : IntKind.u64.wrap ((mid : Int) * 4294967296) = z1 := by rw [wrap_u64_eq]; omega
  have o1 : bits .or .u64 (z0 : Int) (z1 : Int) = ((z1 + z0 : Nat) : Int) := by
    have p32 : (2 : Nat) ^ 32 = 4294967296 := by decide
    rw [u64_or_nat _ _ (by omega) (by omega), Nat.or_comm, nat_join 32 _ _ (by rw [p32]; omega) (by rw [p32]; omega)]
  have w7 : IntKind.u64.wrap ((y2 : Int) + (mid : Int) / 4294967296) = ((y2 + mid / 4294967296 : Nat) : Int) := by rw [wrap_u64_eq]; omega
  obtain ⟨r0, hr0⟩ : ∃ r0, z1 + z0 = r0 := ⟨_, rfl⟩
  obtain ⟨r1, hr1⟩ : ∃ r1, y2 + mid / 4294967296 = r1 := ⟨_, rfl⟩
  rw [hr0] at o1
  rw [hr1] at w7
  have key : a * 20000 = r1 * 18446744073709551616 + r0 := by
    rw [← hr0, ← hr1]
    clear m1 m2 m3 m4 m5 d1 w1 w2 w3 w4 w5 w6 w7 o1 c1 c2 hr0 hr1
    omega
  have kb : r0 < 18446744073709551616 := by omega
  have f0 := prod_mod key kb
  have f1 := prod_div key kb
  rw [f0, f1]
  clear h hlo hhi hy0 hy1 hy2 hz0 hmid hz1 hr0 hr1 f0 f1 key kb c1 c2
  go_enter Try.func52, Try.ntmps52
  go_wp2
  go_ret2
  exact ⟨rfl, (Below.refl _ _).alloc (Nat.le_refl _) _⟩
/-- a size by a power of two: what lies between. -/
def muld (size c : Nat) (up : Bool) : Nat := size * 20000 / c + (if up = true ∧ size * 20000 % c ≠ 0 then 1 else 0)
theorem money_muldiv {a c : Nat} (h : a < 9007199254740992) (hc1 : 67108864 ≤ c) (hc2 : c ≤ 4611686018427387904) (up : Bool) (w : World) : Calls Try.prog 48 #[.int .i64 a, .int .i64 20000, .int .i64 c, .bool up] w fun e w' => e = .returned (.tuple #[.int .i64 (muld a c up : Nat), .int .i64 0]) ∧ Below w.heap.size w w' := by
  have hN : a * 20000 / 18446744073709551616 * 18446744073709551616 + a * 20000 % 18446744073709551616 = a * 20000 := by omega
  have hQ := Lib.hid (fun w => money_quotient (high := a * 20000 / 18446744073709551616) (L := a * 20000 % 18446744073709551616) (by_ := c) (by omega) hc2 (by omega) w)
  rw [hN] at hQ
  have hP := Lib.hid (fun w => money_product (a := a) h w)
  have hS := Lib.hid (fun w => money_size (n := a) (by omega) w)
  have hS2 := Lib.hid (fun w => money_size (n := 20000) (by omega) w)
  have hqb : a * 20000 / c < 4611686018427387904 := by
    refine Nat.lt_of_le_of_lt (Nat.div_le_div_left hc1 (by omega)) ?_
    omega
  have g1 : ¬ (c : Int) < 1 := by omega
  have g2 : ¬ (a : Int) < 0 := by omega
  have g3 : (c : Int) % 18446744073709551616 = c := by omega
  have hmu : muld a c up = a * 20000 / c + (if up = true ∧ a * 20000 % c ≠ 0 then 1 else 0) := rfl
  generalize muld a c up = M at *
  have hmb : M < 9223372036854775808 := by rw [hmu]; split <;> omega
  have hF := Lib.hid (fun w => money_signed (n := M) hmb w)
  obtain ⟨q, hq⟩ : ∃ q, a * 20000 / c = q := ⟨_, rfl⟩
  obtain ⟨rm, hrm⟩ : ∃ rm, a * 20000 % c = rm := ⟨_, rfl⟩
  rw [hq, hrm] at hQ hmu
  rw [hq] at hqb
  have hw : IntKind.u64.wrap ((q : Int) + 1) = ((q + 1 : Nat) : Int) := by rw [wrap_u64_eq]; omega
  have hne : ((q : Int) + 1 == 0) = false := by simp; omega
  obtain ⟨hi, hhi⟩ : ∃ hi, a * 20000 / 18446744073709551616 = hi := ⟨_, rfl⟩
  obtain ⟨lo, hlo⟩ : ∃ lo, a * 20000 % 18446744073709551616 = lo := ⟨_, rfl⟩
  rw [hhi, hlo] at hQ hP
  have HM := Lib.hid hmu
  clear hN hhi hlo hq hrm hqb hmb hmu hc1 hc2 h
  go_enter Try.func48, Try.ntmps48
  go_wp2_with fail
  refine (hS.out _).mono ?_
  rintro e w1 ⟨rfl, rfl⟩
  go_wp2_with fail
  refine (hS2.out _).mono ?_
  rintro e w1 ⟨rfl, rfl⟩
  go_wp2_with fail
  refine (hP.out _).mono ?_
  rintro e w1 ⟨rfl, hb1⟩
  go_wp2_with fail
  refine (hQ.out _).mono ?_
  rintro e w2 ⟨rfl, rfl⟩
  go_wp2_with fail
  · have hr : rm = 0 := by assumption
    have hm : M = q := by rw [HM.out]; simp [hr]
    subst hm
    clear HM
    refine (hF.out _).mono ?_
    rintro e w3 ⟨rfl, rfl⟩
    go_wp2
    go_ret2
    exact ⟨rfl, hb1⟩
  · have hr : ¬rm = 0 := by assumption
    have hu : up = true := by assumption
    have hm : (q : Int) + 1 = M := by rw [HM.out]; simp [hr, hu]
    rw [hm]
    clear HM hm
    refine (hF.out _).mono ?_
    rintro e w3 ⟨rfl, rfl⟩
    go_wp2
    go_ret2
    exact ⟨rfl, hb1⟩
  · have hu : up = false := by assumption
    have hm : M = q := by rw [HM.out]; simp [hu]
    subst hm
    clear HM
    refine (hF.out _).mono ?_
    rintro e w3 ⟨rfl, rfl⟩
    go_wp2
    go_ret2
    exact ⟨rfl, hb1⟩
end Go.Proofs.Ytdpllkmbnphdgaa
