/- A rate by ten thousand, as a floating-point word: plain. -/
import Derived.Test.YtdpllkmbnphdgaaQuoteF
namespace Go.Proofs.Ytdpllkmbnphdgaa
open Ieee

theorem log_bounds {n : Nat} (h : n ≠ 0) : 2 ^ n.log2 ≤ n ∧ n < 2 ^ (n.log2 + 1) := (Nat.log2_eq_iff h).1 rfl
theorem cut_even (n k l : Nat) (hl : n.log2 = l) (hk : k ≤ l + 2) : Toward.even.cut false n k = n / 2 ^ k + (if 2 ^ k < 2 * (n % 2 ^ k) ∨ (2 ^ k = 2 * (n % 2 ^ k) ∧ n / 2 ^ k % 2 = 1) then 1 else 0) := by
  unfold Toward.cut
  rw [hl, Nat.min_eq_left hk, Nat.one_shiftLeft]
  dsimp only
  congr 1
  by_cases h : 2 ^ k < 2 * (n % 2 ^ k) ∨ (2 ^ k = 2 * (n % 2 ^ k) ∧ n / 2 ^ k % 2 = 1)
  · rw [if_pos h]
    have : (decide (2 ^ k < 2 * (n % 2 ^ k)) || 2 ^ k == 2 * (n % 2 ^ k) && n / 2 ^ k % 2 == 1) = true := by
      rcases h with h | ⟨h1, h2⟩
      · simp [h]
      · rw [h2, ← h1]; simp
    rw [this]; rfl
  · rw [if_neg h]
    have : (decide (2 ^ k < 2 * (n % 2 ^ k)) || 2 ^ k == 2 * (n % 2 ^ k) && n / 2 ^ k % 2 == 1) = false := by
      rw [Bool.or_eq_false_iff]
      refine ⟨by simp; omega, ?_⟩
      rw [Bool.and_eq_false_iff]
      by_cases h1 : 2 ^ k = 2 * (n % 2 ^ k)
      · right; simp; omega
      · left; simpa using h1
    rw [this]; rfl
theorem min_small {e K : Nat} (he : e ≤ 2000) (hK : K < 9007199254740992) : min (e * 4503599627370496 + K) 9218868437227405312 = e * 4503599627370496 + K := Nat.min_eq_left (by omega)
/-- a whole number below 2^53 as a word. -/
theorem int_word {n : Nat} (h1 : 1 ≤ n) (h2 : n ≤ 100000000) : ∃ l M, l ≤ 26 ∧ M = n * 2 ^ (52 - l) ∧ 4503599627370496 ≤ M ∧ M < 9007199254740992 ∧ floatOfInt .f64 (n : Int) = (l + 1022) * 4503599627370496 + M := by
  obtain ⟨l, hl⟩ : ∃ l, n.log2 = l := ⟨_, rfl⟩
  have hb := log_bounds (n := n) (by omega)
  rw [hl] at hb
  have hl26 : l ≤ 26 := by
    rcases Nat.lt_or_ge 26 l with h | h
    · exfalso
      have : 2 ^ 27 ≤ 2 ^ l := Nat.pow_le_pow_right (by omega) h
      have e : (2 : Nat) ^ 27 = 134217728 := by decide
      omega
    · exact h
  have hp : 2 ^ l * 2 ^ (52 - l) = 4503599627370496 := by rw [← Nat.pow_add, show l + (52 - l) = 52 by omega]
  have hp2 : 2 ^ (l + 1) * 2 ^ (52 - l) = 9007199254740992 := by rw [← Nat.pow_add, show l + 1 + (52 - l) = 53 by omega]
  have hM1 : 4503599627370496 ≤ n * 2 ^ (52 - l) := by rw [← hp]; exact Nat.mul_le_mul_right _ hb.1
  have hM2 : n * 2 ^ (52 - l) < 9007199254740992 := by rw [← hp2]; exact Nat.mul_lt_mul_of_pos_right hb.2 (Nat.two_pow_pos _)
  refine ⟨l, n * 2 ^ (52 - l), hl26, rfl, hM1, hM2, ?_⟩
  unfold floatOfInt FloatKind.nearest FloatKind.encode FloatKind.format
  dsimp only
  unfold Format.write
  dsimp only
  unfold Format.nearest
  have hna : (n : Int).natAbs = n := by omega
  rw [hna, if_neg (by omega), hl, lst_d, bin_d, inf_d]
  dsimp only
  have hfb : (double.fractionBits : Nat) = 52 := rfl
  rw [hfb]
  have e1 : max ((0 : Int) + (l : Nat) - (52 : Nat)) (-1074) = (l : Int) - 52 := by omega
  rw [e1]
  have e2 : ((0 : Int) - ((l : Int) - 52)).toNat = 52 - l := by omega
  have e3 : ((l : Int) - 52 - 0).toNat = 0 := by omega
  have e4 : ((l : Int) - 52 - -1074).toNat = l + 1022 := by omega
  rw [e2, e3, e4, Nat.shiftLeft_eq]
  have e5 : Toward.even.cut (decide ((n : Int) < 0)) (n * 2 ^ (52 - l)) 0 = n * 2 ^ (52 - l) := by
    have hneg : decide ((n : Int) < 0) = false := by simp
    rw [hneg, cut_even _ 0 _ rfl (by omega)]
    rw [Nat.pow_zero, Nat.div_one, Nat.mod_one]
    simp
  rw [e5]
  have hneg : decide ((n : Int) < 0) = false := by simp
  unfold Format.word
  rw [hneg]
  simp only [Bool.false_eq_true, if_false]
  exact min_small (by omega) hM2
theorem word_parts {l M : Nat} (hl : l ≤ 2000) (h1 : 4503599627370496 ≤ M) (h2 : M < 9007199254740992) : double.read ((l + 1) * 4503599627370496 + M) = .number false M (-1074 + ((l + 1 : Nat) : Int)) := by
  have hd : ((l + 1) * 4503599627370496 + M) / 4503599627370496 = l + 2 := by omega
  have hm : ((l + 1) * 4503599627370496 + M) % 4503599627370496 = M - 4503599627370496 := by omega
  rw [read_pos (by omega)]
  unfold mg ex
  rw [if_neg (by omega), hd, hm]
  have a1 : 4503599627370496 + (M - 4503599627370496) = M := by omega
  have a2 : l + 2 - 1 = l + 1 := by omega
  rw [a1, a2]
theorem near_w (Q s Rm M N drop : Nat) (_hd : drop = 2 ∨ drop = 3) (hQ1 : 5497558138880000 * Q + Rm = M * 18014398509481984) (hQ2 : Rm < 5497558138880000) (hs1 : s ≤ 1) (hs2 : s = 0 → Rm = 0) (hk : M * 36028797018963968 = N * (549755813888 * 2 ^ drop)) :
    2 ^ drop * N ≤ 10000 * (2 * Q + s) + 10000 ∧ 10000 * (2 * Q + s) ≤ 2 ^ drop * N + 10000 := by
  have h0 : N * 2 ^ drop * 549755813888 = 2 * (5497558138880000 * Q + Rm) := by
    rw [hQ1, Nat.mul_assoc, Nat.mul_comm (2 ^ drop), ← hk]; omega
  rw [Nat.mul_comm (2 ^ drop) N]
  generalize N * 2 ^ drop = T at *
  clear hQ1 hk
  rcases Nat.eq_zero_or_pos s with h | h
  · have := hs2 h
    subst h; subst this
    clear hs2 hQ2 hs1
    omega
  · have : s = 1 := by omega
    subst this
    clear hs2 hs1 h
    omega
theorem near_k (w N kp m drop : Nat) (hd : drop = 2 ∨ drop = 3) (hm1 : (m = 0 ∧ 2 * (w % 2 ^ drop) ≤ 2 ^ drop) ∨ (m = 1 ∧ 2 ^ drop ≤ 2 * (w % 2 ^ drop))) (hkp : w / 2 ^ drop + m = kp) (hn : 2 ^ drop * N ≤ 10000 * w + 10000 ∧ 10000 * w ≤ 2 ^ drop * N + 10000) (hb : 4503599627370496 * 2 ^ drop ≤ w ∧ w < 9007199254740992 * 2 ^ drop) :
    10000 * kp ≤ N + 7500 ∧ N ≤ 10000 * kp + 7500 ∧ 4503599627370496 ≤ kp ∧ kp ≤ 9007199254740992 := by
  have hdm := Nat.div_add_mod w (2 ^ drop)
  have hml := Nat.mod_lt w (Nat.two_pow_pos drop)
  generalize w / 2 ^ drop = q at *
  generalize w % 2 ^ drop = r at *
  rcases hd with rfl | rfl
  · have p2 : (2 : Nat) ^ 2 = 4 := by decide
    rw [p2] at *
    rcases hm1 with ⟨rfl, h⟩ | ⟨rfl, h⟩ <;> omega
  · have p2 : (2 : Nat) ^ 3 = 8 := by decide
    rw [p2] at *
    rcases hm1 with ⟨rfl, h⟩ | ⟨rfl, h⟩ <;> omega
theorem write_norm (w l drop kp : Nat) (_hd : drop = 2 ∨ drop = 3) (hl : l ≤ 26) (hw : w ≠ 0) (hL : w.log2 = 52 + drop) (hk : Toward.even.cut false w drop = kp) : double.write (.number false w ((l : Int) - 68)) = min ((l + drop + 1006) * 4503599627370496 + kp) 9218868437227405312 := by
  unfold Format.write
  dsimp only
  unfold Format.nearest
  have hfb : double.fractionBits = 52 := rfl
  rw [if_neg hw, hL, lst_d, bin_d, inf_d, hfb]
  dsimp only
  have e1 : max ((l : Int) - 68 + ((52 + drop : Nat) : Int) - (52 : Nat)) (-1074) = (l : Int) + drop - 68 := by omega
  rw [e1]
  have e2 : ((l : Int) - 68 - ((l : Int) + drop - 68)).toNat = 0 := by omega
  have e3 : ((l : Int) + drop - 68 - ((l : Int) - 68)).toNat = drop := by omega
  have e4 : ((l : Int) + drop - 68 - -1074).toNat = l + drop + 1006 := by omega
  rw [e2, e3, e4, show w <<< 0 = w from rfl, hk]
  unfold Format.word
  simp only [Bool.false_eq_true, if_false]
theorem pack {e kp r : Nat} (he : e ≤ 2000) (h1 : 4503599627370496 ≤ kp) (hr : r = min (e * 4503599627370496 + kp) 9218868437227405312) :
    (kp < 9007199254740992 → r / 4503599627370496 = e + 1 ∧ 4503599627370496 + r % 4503599627370496 = kp) ∧ (kp = 9007199254740992 → r / 4503599627370496 = e + 2 ∧ 4503599627370496 + r % 4503599627370496 = 4503599627370496) := by
  have hm : r = e * 4503599627370496 + kp ∨ 9007199254740992 < kp := by
    rcases Nat.lt_or_ge 9007199254740992 kp with h | h
    · exact .inr h
    · left; rw [hr]; exact Nat.min_eq_left (by omega)
  constructor
  · intro h
    rcases hm with hm | hm
    · omega
    · omega
  · intro h
    rcases hm with hm | hm
    · omega
    · omega
theorem div_d {l M : Nat} (hl : l ≤ 26) (h1 : 4503599627370496 ≤ M) (h2 : M < 9007199254740992) : double.div ((l + 1022) * 4503599627370496 + M) 4666723172467343360 = some (double.write (.number false (2 * (M * 18014398509481984 / 5497558138880000) + (M * 18014398509481984 % 5497558138880000 != 0).toNat) ((l : Int) - 68))) := by
  unfold Format.div
  rw [show (l + 1022) * 4503599627370496 + M = ((l + 1021) + 1) * 4503599627370496 + M by omega, word_parts (by omega) h1 h2]
  rw [show double.read 4666723172467343360 = .number false 5497558138880000 (-39) by decide +kernel]
  unfold Datum.quotient
  dsimp only
  rw [if_neg (by omega)]
  have lM : M.log2 = 52 := (Nat.log2_eq_iff (by omega)).2 ⟨h1, h2⟩
  have lT : Nat.log2 5497558138880000 = 52 := by decide +kernel
  have hfb : double.fractionBits = 52 := rfl
  rw [lM, lT, hfb, Nat.shiftLeft_eq]
  have hmore : 52 + 2 + 52 - 52 = 54 := rfl
  rw [hmore]
  have p54 : (2 : Nat) ^ 54 = 18014398509481984 := by decide
  rw [p54]
  have hp : -1074 + ((l + 1021 + 1 : Nat) : Int) - -39 - (54 : Nat) - 1 = (l : Int) - 68 := by omega
  simp only [Option.map_some, Bool.xor_self]
  rw [hp]
theorem div_size {l M n Q s drop : Nat} (hl : l ≤ 26) (hM : M = n * 2 ^ (52 - l)) (hd : drop = 2 ∨ drop = 3) (Rm : Nat) (hQ1 : 5497558138880000 * Q + Rm = M * 18014398509481984) (hQ2 : Rm < 5497558138880000) (hs1 : s ≤ 1) (hs2 : s = 0 → Rm = 0) (hL : (2 * Q + s).log2 = 52 + drop) :
    ∃ size down, (double.write (.number false (2 * Q + s) ((l : Int) - 68))) / 4503599627370496 = 1075 - down ∧ 4503599627370496 + (double.write (.number false (2 * Q + s) ((l : Int) - 68))) % 4503599627370496 = size ∧ 38 ≤ down ∧ down ≤ 66 ∧ 10000 * size ≤ n * 2 ^ down + 7500 ∧ n * 2 ^ down ≤ 10000 * size + 7500 := by
  have hk : M * 36028797018963968 = n * 2 ^ (68 - l - drop) * (549755813888 * 2 ^ drop) := by
    rw [hM]
    have e1 : (549755813888 : Nat) = 2 ^ 39 := by decide
    have e2 : (36028797018963968 : Nat) = 2 ^ 55 := by decide
    have e3 : 52 - l + 55 = 68 - l - drop + (39 + drop) := by rcases hd with rfl | rfl <;> omega
    rw [e1, e2, Nat.mul_assoc, Nat.mul_assoc, ← Nat.pow_add, ← Nat.pow_add, ← Nat.pow_add, e3]
  have hw0 : 2 * Q + s ≠ 0 := by
    intro h; rw [h] at hL
    rw [Nat.log2_zero] at hL
    omega
  have hb := log_bounds hw0
  rw [hL, Nat.pow_add] at hb
  have hcut := cut_even (2 * Q + s) drop _ hL (by omega)
  obtain ⟨m, hm⟩ : ∃ m, (if 2 ^ drop < 2 * ((2 * Q + s) % 2 ^ drop) ∨ (2 ^ drop = 2 * ((2 * Q + s) % 2 ^ drop) ∧ (2 * Q + s) / 2 ^ drop % 2 = 1) then 1 else 0) = m := ⟨_, rfl⟩
  have hm1 : (m = 0 ∧ 2 * ((2 * Q + s) % 2 ^ drop) ≤ 2 ^ drop) ∨ (m = 1 ∧ 2 ^ drop ≤ 2 * ((2 * Q + s) % 2 ^ drop)) := by
    rw [← hm]
    split
    · rename_i hc
      right; refine ⟨rfl, ?_⟩
      rcases hc with hc | hc
      · exact Nat.le_of_lt hc
      · exact Nat.le_of_eq hc.1
    · rename_i hc
      left; refine ⟨rfl, ?_⟩
      exact Nat.le_of_not_lt fun h => hc (.inl h)
  rw [hm] at hcut
  obtain ⟨N, hN⟩ : ∃ N, n * 2 ^ (68 - l - drop) = N := ⟨_, rfl⟩
  rw [hN] at hk
  obtain ⟨kp, hkp⟩ : ∃ kp, (2 * Q + s) / 2 ^ drop + m = kp := ⟨_, rfl⟩
  rw [hkp] at hcut
  have hn := near_w Q s Rm M N drop hd hQ1 hQ2 hs1 hs2 hk
  have hb4 : 4503599627370496 * 2 ^ drop ≤ 2 * Q + s ∧ 2 * Q + s < 9007199254740992 * 2 ^ drop := by
    rw [show 52 + drop + 1 = 53 + drop by omega, Nat.pow_add] at hb
    exact hb
  have hnear := near_k _ N kp m drop hd hm1 hkp hn hb4
  have hwr := write_norm (2 * Q + s) l drop kp hd hl hw0 hL hcut
  obtain ⟨pk1, pk2⟩ := pack (by omega) hnear.2.2.1 hwr
  generalize double.write (.number false (2 * Q + s) ((l : Int) - 68)) = r at *
  clear hwr hb4 hn hcut hm1 hm hb hw0 hk hL hs1 hs2 hQ1 hQ2 hM
  rcases Nat.lt_or_ge kp 9007199254740992 with hc | hc
  · obtain ⟨g1, g2⟩ := pk1 hc
    refine ⟨kp, 68 - l - drop, by omega, g2, by omega, by omega, ?_, ?_⟩
    · rw [hN]; exact hnear.1
    · rw [hN]; exact hnear.2.1
  · have hkq : kp = 9007199254740992 := by omega
    obtain ⟨g1, g2⟩ := pk2 hkq
    have hN2 : N = n * 2 ^ (68 - l - drop - 1) * 2 := by
      have e5 : 68 - l - drop - 1 + 1 = 68 - l - drop := by rcases hd with rfl | rfl <;> omega
      rw [← hN, Nat.mul_assoc, ← Nat.pow_succ, Nat.succ_eq_add_one, e5]
    refine ⟨4503599627370496, 68 - l - drop - 1, by omega, g2, by omega, by omega, ?_, ?_⟩
    · generalize n * 2 ^ (68 - l - drop - 1) = T at *
      omega
    · generalize n * 2 ^ (68 - l - drop - 1) = T at *
      omega
/-- what the division leaves: a size, and the power of two that it is by. -/
theorem bits_d {n : Nat} (h1 : 1 ≤ n) (h2 : n ≤ 100000000) : ∃ r size down, floatBits .quo .f64 (floatOfInt .f64 (n : Int)) 4666723172467343360 = some r ∧ r / 4503599627370496 = 1075 - down ∧ 4503599627370496 + r % 4503599627370496 = size ∧ 38 ≤ down ∧ down ≤ 66 ∧
    10000 * size ≤ n * 2 ^ down + 7500 ∧ n * 2 ^ down ≤ 10000 * size + 7500 := by
  obtain ⟨l, M, hl, hM, hM1, hM2, hw⟩ := int_word h1 h2
  have hdv := div_d hl hM1 hM2
  rw [← hw] at hdv
  obtain ⟨s, hs⟩ : ∃ s, (M * 18014398509481984 % 5497558138880000 != 0).toNat = s := ⟨_, rfl⟩
  have hs1 : s ≤ 1 := by rw [← hs]; cases (M * 18014398509481984 % 5497558138880000 != 0) <;> simp
  have hs2 : s = 0 → M * 18014398509481984 % 5497558138880000 = 0 := by
    intro e; rw [e] at hs
    by_cases h : M * 18014398509481984 % 5497558138880000 = 0
    · exact h
    · simp [h] at hs
  rw [hs] at hdv
  have hQ1 := Nat.div_add_mod (M * 18014398509481984) 5497558138880000
  have hQ2 := Nat.mod_lt (M * 18014398509481984) (show 5497558138880000 > 0 by omega)
  obtain ⟨Q, hQ⟩ : ∃ Q, M * 18014398509481984 / 5497558138880000 = Q := ⟨_, rfl⟩
  rw [hQ] at hQ1 hdv
  clear hs hQ hw
  generalize M * 18014398509481984 % 5497558138880000 = Rm at *
  have hL : ∃ drop, (drop = 2 ∨ drop = 3) ∧ (2 * Q + s).log2 = 52 + drop := by
    have pc : (2 : Nat) ^ (52 + 2) = 18014398509481984 := by decide
    have pd : (2 : Nat) ^ (52 + 2 + 1) = 36028797018963968 := by decide
    have pe : (2 : Nat) ^ (52 + 3) = 36028797018963968 := by decide
    have pf : (2 : Nat) ^ (52 + 3 + 1) = 72057594037927936 := by decide
    clear hM hdv
    by_cases hT : 2 * Q + s < 36028797018963968
    · refine ⟨2, .inl rfl, (Nat.log2_eq_iff (by omega)).2 ?_⟩
      rw [pc, pd]
      exact ⟨by omega, hT⟩
    · refine ⟨3, .inr rfl, (Nat.log2_eq_iff (by omega)).2 ?_⟩
      rw [pe, pf]
      exact ⟨by omega, by omega⟩
  obtain ⟨drop, hd, hL⟩ := hL
  obtain ⟨size, down, hz⟩ := div_size hl hM hd Rm hQ1 hQ2 hs1 hs2 hL
  exact ⟨_, size, down, hdv, hz⟩
end Go.Proofs.Ytdpllkmbnphdgaa
