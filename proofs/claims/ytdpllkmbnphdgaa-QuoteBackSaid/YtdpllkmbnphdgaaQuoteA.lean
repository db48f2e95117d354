/- Rounding to the nearest whole number, of two as near to the even one: plain. -/
import Derived.Test.YtdpllkmbnphdgaaRows
namespace Go.Proofs.Ytdpllkmbnphdgaa

/-- a by d, to the nearest whole number, of two as near the even one. -/
def rhe (a d : Nat) : Nat := if 2 * a / d % 2 = 1 ∧ (2 * a % d ≠ 0 ∨ 2 * a / d / 2 % 2 = 1) then 2 * a / d / 2 + 1 else 2 * a / d / 2
theorem rhe_le (a d : Nat) : 2 * a / d / 2 ≤ rhe a d ∧ rhe a d ≤ 2 * a / d / 2 + 1 := by unfold rhe; split <;> omega
theorem rhe_mono {a b d : Nat} (h : a ≤ b) : rhe a d ≤ rhe b d := by
  have hH : 2 * a / d ≤ 2 * b / d := Nat.div_le_div_right (by omega)
  have la := rhe_le a d
  have lb := rhe_le b d
  by_cases hlt : 2 * a / d / 2 < 2 * b / d / 2
  · omega
  · have he : 2 * a / d / 2 = 2 * b / d / 2 := by omega
    by_cases ha : 2 * a / d % 2 = 1 ∧ (2 * a % d ≠ 0 ∨ 2 * a / d / 2 % 2 = 1)
    · have hq : 2 * b / d = 2 * a / d := by omega
      have hb : 2 * b / d % 2 = 1 ∧ (2 * b % d ≠ 0 ∨ 2 * b / d / 2 % 2 = 1) := by
        rw [hq]
        refine ⟨ha.1, ?_⟩
        rcases ha.2 with h1 | h1
        · left
          have e1 := Nat.div_add_mod (2 * a) d
          have e2 := Nat.div_add_mod (2 * b) d
          rw [hq] at e2
          generalize d * (2 * a / d) = X at *
          omega
        · exact .inr h1
      unfold rhe
      rw [if_pos ha, if_pos hb, he]
      exact Nat.le_refl _
    · have : rhe a d = 2 * a / d / 2 := by unfold rhe; rw [if_neg ha]
      omega
theorem rhe_scale (a d : Nat) {k : Nat} (hk : 0 < k) : rhe (a * k) (d * k) = rhe a d := by
  unfold rhe
  have e1 : 2 * (a * k) = (2 * a) * k := by rw [Nat.mul_assoc]
  rw [e1, Nat.mul_div_mul_right _ _ hk, Nat.mul_mod_mul_right]
  have e2 : (2 * a % d * k ≠ 0) ↔ (2 * a % d ≠ 0) := by
    constructor
    · intro h e; rw [e] at h; simp at h
    · intro h e
      rcases Nat.mul_eq_zero.1 e with e | e
      · exact h e
      · omega
  simp only [e2]
theorem rhe_near {a d n : Nat} (h1 : 2 * a < 2 * (n * d) + d) (h2 : 2 * (n * d) < 2 * a + d) : rhe a d = n := by
  by_cases hge : 2 * (n * d) ≤ 2 * a
  · have e0 : 2 * n * d = 2 * (n * d) := Nat.mul_assoc _ _ _
    have e1 : (2 * n + 1) * d = 2 * (n * d) + d := by rw [Nat.add_mul, e0, Nat.one_mul]
    have hH : 2 * a / d = 2 * n := Nat.div_eq_of_lt_le (by omega) (by show 2 * a < (2 * n + 1) * d; omega)
    unfold rhe
    rw [hH, if_neg (by omega)]
    omega
  · obtain ⟨m, rfl⟩ : ∃ m, n = m + 1 := by
      cases n with
      | zero => exfalso; apply hge; omega
      | succ m => exact ⟨m, rfl⟩
    have e0 : (m + 1) * d = m * d + d := by rw [Nat.add_mul, Nat.one_mul]
    have e1 : (2 * m + 1) * d = 2 * (m * d) + d := by rw [Nat.add_mul, Nat.mul_assoc, Nat.one_mul]
    have e2 : (2 * m + 1 + 1) * d = 2 * (m * d) + d + d := by rw [Nat.add_mul, e1, Nat.one_mul]
    have hH : 2 * a / d = 2 * m + 1 := Nat.div_eq_of_lt_le (by omega) (by show 2 * a < (2 * m + 1 + 1) * d; omega)
    have hm : 2 * a % d ≠ 0 := by
      have e3 := Nat.div_add_mod (2 * a) d
      rw [hH, Nat.mul_comm d, e1] at e3
      omega
    unfold rhe
    rw [hH, if_pos ⟨by omega, .inl hm⟩]
    omega
/-- how the program comes to it: by halves, in two steps. -/
theorem rhe_steps (P f m : Nat) (a : Nat) (hP : P = 2 * a) : rhe a (2 ^ (f + m)) =
    if P / 2 ^ f / 2 ^ m % 2 = 1 ∧ ((P % 2 ^ f ≠ 0 ∨ P / 2 ^ f % 2 ^ m ≠ 0) ∨ P / 2 ^ f / 2 ^ m / 2 % 2 = 1) then P / 2 ^ f / 2 ^ m / 2 + 1 else P / 2 ^ f / 2 ^ m / 2 := by
  subst hP
  unfold rhe
  rw [Nat.pow_add, ← Nat.div_div_eq_div_mul, Nat.mod_mul]
  have e : (2 * a % 2 ^ f + 2 ^ f * (2 * a / 2 ^ f % 2 ^ m) ≠ 0) ↔ (2 * a % 2 ^ f ≠ 0 ∨ 2 * a / 2 ^ f % 2 ^ m ≠ 0) := by
    have hp : 0 < 2 ^ f := Nat.two_pow_pos f
    constructor
    · intro h
      by_cases h1 : 2 * a % 2 ^ f = 0
      · right; intro h2; rw [h1, h2] at h; simp at h
      · exact .inl h1
    · intro h e
      have e1 : 2 * a % 2 ^ f = 0 := by omega
      have e2 : 2 ^ f * (2 * a / 2 ^ f % 2 ^ m) = 0 := by omega
      rcases h with h | h
      · exact h e1
      · rcases Nat.mul_eq_zero.1 e2 with e3 | e3
        · omega
        · exact h e3
  simp only [e]
end Go.Proofs.Ytdpllkmbnphdgaa
