/- Quote: nearest, walked. (Printed by gennear.py.) -/
import Derived.Test.YtdpllkmbnphdgaaQuoteC
namespace Go.Proofs.Ytdpllkmbnphdgaa
open Go.RowKit

theorem i64_mask {H k : Nat} (hk : k ≤ 62) (hH : H < 9223372036854775808) : bits .and .i64 (H : Int) ((2 ^ k - 1 : Nat) : Int) = ((H % 2 ^ k : Nat) : Int) := by
  have hp : 2 ^ k ≤ 2 ^ 62 := Nat.pow_le_pow_right (by omega) hk
  have p62 : (2 : Nat) ^ 62 = 4611686018427387904 := by decide
  have hm : H % 2 ^ k ≤ H := Nat.mod_le _ _
  show IntKind.i64.wrap ((BitVec.ofInt 64 (H : Int) &&& BitVec.ofInt 64 ((2 ^ k - 1 : Nat) : Int)).toNat : Int) = _
  rw [BitVec.toNat_and, ofInt_u64 H (by omega), ofInt_u64 (2 ^ k - 1) (by omega), Nat.and_two_pow_sub_one_eq_mod, IntKind.wrap_i64]
  omega
theorem muld_false (a c : Nat) : muld a c false = a * 20000 / c := by simp [muld]
theorem muld_true (a c : Nat) : (muld a c true = a * 20000 / c ∧ a * 20000 % c = 0) ∨ (muld a c true = a * 20000 / c + 1 ∧ a * 20000 % c ≠ 0) := by
  unfold muld
  by_cases h : a * 20000 % c = 0
  · left; simp [h]
  · right; simp [h]
theorem near_law {size f m H U : Nat} (hH : muld size (2 ^ f) false = H) (hU : muld size (2 ^ f) true = U) : rhe (10000 * size) (2 ^ (f + m)) =
    if H / 2 ^ m % 2 = 1 ∧ ((H ≠ U ∨ H % 2 ^ m ≠ 0) ∨ H / 2 ^ m / 2 % 2 = 1) then H / 2 ^ m / 2 + 1 else H / 2 ^ m / 2 := by
  have e := rhe_steps (size * 20000) f m (10000 * size) (by omega)
  rw [muld_false] at hH
  have ht := muld_true size (2 ^ f)
  rw [hU] at ht
  rw [hH] at ht e
  have q : (size * 20000 % 2 ^ f ≠ 0) ↔ (H ≠ U) := by
    rcases ht with ⟨h1, h2⟩ | ⟨h1, h2⟩
    · constructor
      · intro h; exact absurd h2 h
      · intro h; exact absurd h1.symm h
    · constructor
      · intro _; omega
      · intro _; exact h2
  rw [e]
  simp only [q]
set_option maxHeartbeats 2000000 in
theorem near_low {size down : Nat} (h1 : size < 9007199254740992) (h2 : 26 ≤ down) (h3 : down ≤ 62) (w : World) : Calls Try.prog 41 #[.int .i64 size, .int .i64 down] w fun e w' => e = .returned (.tuple #[.int .i64 (rhe (10000 * size) (2 ^ down) : Nat), .int .i64 0]) ∧ Below w.heap.size w w' := by
  obtain ⟨c, hc⟩ : ∃ c, 2 ^ down = c := ⟨_, rfl⟩
  have b1 : 2 ^ 26 ≤ 2 ^ down := Nat.pow_le_pow_right (by omega) h2
  have b2 : 2 ^ down ≤ 2 ^ 62 := Nat.pow_le_pow_right (by omega) h3
  have p26 : (2 : Nat) ^ 26 = 67108864 := by decide
  have p62 : (2 : Nat) ^ 62 = 4611686018427387904 := by decide
  rw [p26, hc] at b1
  rw [p62, hc] at b2
  have hci : ((2 : Int) ^ down) = c := by rw [← hc]; exact (Int.natCast_pow 2 down).symm
  have hsh : wrap64 ((2 : Int) ^ down) = c := by rw [hci]; unfold wrap64; omega
  have g1 : (down : Int) ≤ 62 := by omega
  have g2 : 0 ≤ (down : Int) := by omega
  have hF := fun w => money_muldiv h1 b1 b2 false w
  have hT := fun w => money_muldiv h1 b1 b2 true w
  obtain ⟨H, hH⟩ : ∃ H, muld size c false = H := ⟨_, rfl⟩
  obtain ⟨U, hU⟩ : ∃ U, muld size c true = U := ⟨_, rfl⟩
  have hHb : H < 4611686018427387904 := by
    rw [← hH, muld_false]
    refine Nat.lt_of_le_of_lt (Nat.div_le_div_left b1 (by omega)) ?_
    omega
  have hUb : U < 4611686018427387905 := by
    have ht := muld_true size c
    rw [muld_false] at hH
    rw [hU, hH] at ht
    rcases ht with ht | ht <;> omega
  have HR := near_law (m := 0) (size := size) (f := down) (H := H) (U := U) (by rw [hc]; exact hH) (by rw [hc]; exact hU)
  rw [hH] at hF
  rw [hU] at hT
  rw [show down + 0 = down by omega, show 2 ^ 0 = 1 by rfl, Nat.div_one, Nat.mod_one] at HR
  have k0 : bits .and .i64 (H : Int) 0 = 0 := by
    have := i64_mask (H := H) (k := 0) (by omega) (by omega)
    rw [show 2 ^ 0 - 1 = 0 by rfl, show 2 ^ 0 = 1 by rfl, Nat.mod_one] at this
    exact this
  have k1 : bits .and .i64 (H : Int) 1 = ((H % 2 : Nat) : Int) := by
    have := i64_mask (H := H) (k := 1) (by omega) (by omega)
    exact this
  have d1 : (H : Int) / 2 = ((H / 2 : Nat) : Int) := by omega
  obtain ⟨n, hn⟩ : ∃ n, H / 2 = n := ⟨_, rfl⟩
  obtain ⟨t, ht⟩ : ∃ t, H % 2 = t := ⟨_, rfl⟩
  have k2 : bits .and .i64 (n : Int) 1 = ((n % 2 : Nat) : Int) := by
    have := i64_mask (H := n) (k := 1) (by omega) (by omega)
    exact this
  obtain ⟨t2, ht2⟩ : ∃ t2, n % 2 = t2 := ⟨_, rfl⟩
  rw [hn] at d1 HR
  rw [ht] at k1 HR
  rw [ht2] at k2 HR
  have HW := Lib.hid (show wrap64 ((n : Int) + 1) = n + 1 by unfold wrap64; omega)
  generalize rhe (10000 * size) (2 ^ down) = R at *
  replace HR := Lib.hid HR
  replace hF := Lib.hid hF
  replace hT := Lib.hid hT
  clear hn ht ht2 hHb hUb hH hU  hci hc b1 b2 p62 p26 h2 h3 h1
  by_cases hHU : H = U
  · subst hHU
    go_enter Try.func41, Try.ntmps41
    go_wp2_with fail
    refine (hF.out _).mono ?_
    rintro e w1 ⟨rfl, hb1⟩
    go_wp2_with fail
    refine (hT.out _).mono ?_
    rintro e w2 ⟨rfl, hb2⟩
    have hb := hb1.trans (hb2.mono hb1.size)
    clear hb1 hb2
    go_wp2
    all_goals
      go_ret2
      refine ⟨?_, hb⟩
      have hr := HR.out
      first
        | exact congrArg (fun x => Ending.returned (.tuple #[.int .i64 x, .int .i64 0])) (show wrap64 ((n : Int) + 1) = R by rw [HW.out, hr]; split <;> simp_all <;> omega)
        | exact congrArg (fun x => Ending.returned (.tuple #[.int .i64 x, .int .i64 0])) (show (n : Int) = R by rw [hr]; split <;> simp_all <;> omega)
  · have hne : ¬ (H : Int) = U := by omega
    have HN := Lib.hid hHU
    clear hHU
    go_enter Try.func41, Try.ntmps41
    go_wp2_with fail
    refine (hF.out _).mono ?_
    rintro e w1 ⟨rfl, hb1⟩
    go_wp2_with fail
    refine (hT.out _).mono ?_
    rintro e w2 ⟨rfl, hb2⟩
    have hb := hb1.trans (hb2.mono hb1.size)
    clear hb1 hb2
    go_wp2
    all_goals
      go_ret2
      refine ⟨?_, hb⟩
      have hr := HR.out
      have hx := HN.out
      first
        | exact congrArg (fun x => Ending.returned (.tuple #[.int .i64 x, .int .i64 0])) (show wrap64 ((n : Int) + 1) = R by rw [HW.out, hr]; split <;> simp_all <;> omega)
        | exact congrArg (fun x => Ending.returned (.tuple #[.int .i64 x, .int .i64 0])) (show (n : Int) = R by rw [hr]; split <;> simp_all <;> omega)
set_option maxHeartbeats 2000000 in
theorem near_1 {size : Nat} (h1 : size < 9007199254740992) (w : World) : Calls Try.prog 41 #[.int .i64 size, .int .i64 63] w fun e w' => e = .returned (.tuple #[.int .i64 (rhe (10000 * size) (2 ^ 63) : Nat), .int .i64 0]) ∧ Below w.heap.size w w' := by
  obtain ⟨c, hc⟩ : ∃ c, 2 ^ 62 = c := ⟨_, rfl⟩
  have p62 : (2 : Nat) ^ 62 = 4611686018427387904 := by decide
  have b1 : 67108864 ≤ c := by rw [← hc, p62]; omega
  have b2 : c ≤ 4611686018427387904 := by rw [← hc, p62]; omega
  have hsh : wrap64 4611686018427387904 = 4611686018427387904 := by unfold wrap64; omega
  have hF := fun w => money_muldiv h1 b1 b2 false w
  have hT := fun w => money_muldiv h1 b1 b2 true w
  obtain ⟨H, hH⟩ : ∃ H, muld size c false = H := ⟨_, rfl⟩
  obtain ⟨U, hU⟩ : ∃ U, muld size c true = U := ⟨_, rfl⟩
  have hHb : H < 4611686018427387904 := by
    rw [← hH, muld_false]
    refine Nat.lt_of_le_of_lt (Nat.div_le_div_left b1 (by omega)) ?_
    omega
  have hUb : U < 4611686018427387905 := by
    have ht := muld_true size c
    rw [muld_false] at hH
    rw [hU, hH] at ht
    rcases ht with ht | ht <;> omega
  have HR := near_law (m := 1) (size := size) (f := 62) (H := H) (U := U) (by rw [hc]; exact hH) (by rw [hc]; exact hU)
  rw [hH] at hF
  rw [hU] at hT
  rw [show 62 + 1 = 63 by rfl, show 2 ^ 1 = 2 by rfl] at HR
  rw [← hc, p62] at hF hT
  have hsi : ((4611686018427387904 : Nat) : Int) = 4611686018427387904 := rfl
  rw [hsi] at hF hT
  have k0 : bits .and .i64 (H : Int) 1 = ((H % 2 : Nat) : Int) := by
    have := i64_mask (H := H) (k := 1) (by omega) (by omega)
    rw [show 2 ^ 1 - 1 = 1 by rfl, show 2 ^ 1 = 2 by rfl] at this
    exact this
  have d0 : (H : Int) / 2 = ((H / 2 : Nat) : Int) := by omega
  obtain ⟨T, hT0⟩ : ∃ T, H % 2 = T := ⟨_, rfl⟩
  obtain ⟨G, hG⟩ : ∃ G, H / 2 = G := ⟨_, rfl⟩
  rw [hT0] at k0 HR
  rw [hG] at d0 HR
  have hGb : G < 4611686018427387904 := by omega
  clear hT0 hG
  have k1 : bits .and .i64 (G : Int) 1 = ((G % 2 : Nat) : Int) := by
    have := i64_mask (H := G) (k := 1) (by omega) (by omega)
    exact this
  have d1 : (G : Int) / 2 = ((G / 2 : Nat) : Int) := by omega
  obtain ⟨n, hn⟩ : ∃ n, G / 2 = n := ⟨_, rfl⟩
  obtain ⟨t, ht⟩ : ∃ t, G % 2 = t := ⟨_, rfl⟩
  have k2 : bits .and .i64 (n : Int) 1 = ((n % 2 : Nat) : Int) := by
    have := i64_mask (H := n) (k := 1) (by omega) (by omega)
    exact this
  obtain ⟨t2, ht2⟩ : ∃ t2, n % 2 = t2 := ⟨_, rfl⟩
  rw [hn] at d1 HR
  rw [ht] at k1 HR
  rw [ht2] at k2 HR
  have HW := Lib.hid (show wrap64 ((n : Int) + 1) = n + 1 by unfold wrap64; omega)
  generalize rhe (10000 * size) (2 ^ 63) = R at *
  replace HR := Lib.hid HR
  replace hF := Lib.hid hF
  replace hT := Lib.hid hT
  clear hn ht ht2 hHb hUb hH hU hGb  hc b1 b2 p62  h1
  by_cases hHU : H = U
  · subst hHU
    go_enter Try.func41, Try.ntmps41
    go_wp2_with fail
    refine (hF.out _).mono ?_
    rintro e w1 ⟨rfl, hb1⟩
    go_wp2_with fail
    refine (hT.out _).mono ?_
    rintro e w2 ⟨rfl, hb2⟩
    have hb := hb1.trans (hb2.mono hb1.size)
    clear hb1 hb2
    go_wp2
    all_goals
      go_ret2
      refine ⟨?_, hb⟩
      have hr := HR.out
      first
        | exact congrArg (fun x => Ending.returned (.tuple #[.int .i64 x, .int .i64 0])) (show wrap64 ((n : Int) + 1) = R by rw [HW.out, hr]; split <;> simp_all <;> omega)
        | exact congrArg (fun x => Ending.returned (.tuple #[.int .i64 x, .int .i64 0])) (show (n : Int) = R by rw [hr]; split <;> simp_all <;> omega)
  · have hne : ¬ (H : Int) = U := by omega
    have HN := Lib.hid hHU
    clear hHU
    go_enter Try.func41, Try.ntmps41
    go_wp2_with fail
    refine (hF.out _).mono ?_
    rintro e w1 ⟨rfl, hb1⟩
    go_wp2_with fail
    refine (hT.out _).mono ?_
    rintro e w2 ⟨rfl, hb2⟩
    have hb := hb1.trans (hb2.mono hb1.size)
    clear hb1 hb2
    go_wp2
    all_goals
      go_ret2
      refine ⟨?_, hb⟩
      have hr := HR.out
      have hx := HN.out
      first
        | exact congrArg (fun x => Ending.returned (.tuple #[.int .i64 x, .int .i64 0])) (show wrap64 ((n : Int) + 1) = R by rw [HW.out, hr]; split <;> simp_all <;> omega)
        | exact congrArg (fun x => Ending.returned (.tuple #[.int .i64 x, .int .i64 0])) (show (n : Int) = R by rw [hr]; split <;> simp_all <;> omega)
set_option maxHeartbeats 2000000 in
theorem near_2 {size : Nat} (h1 : size < 9007199254740992) (w : World) : Calls Try.prog 41 #[.int .i64 size, .int .i64 64] w fun e w' => e = .returned (.tuple #[.int .i64 (rhe (10000 * size) (2 ^ 64) : Nat), .int .i64 0]) ∧ Below w.heap.size w w' := by
  obtain ⟨c, hc⟩ : ∃ c, 2 ^ 62 = c := ⟨_, rfl⟩
  have p62 : (2 : Nat) ^ 62 = 4611686018427387904 := by decide
  have b1 : 67108864 ≤ c := by rw [← hc, p62]; omega
  have b2 : c ≤ 4611686018427387904 := by rw [← hc, p62]; omega
  have hsh : wrap64 4611686018427387904 = 4611686018427387904 := by unfold wrap64; omega
  have hF := fun w => money_muldiv h1 b1 b2 false w
  have hT := fun w => money_muldiv h1 b1 b2 true w
  obtain ⟨H, hH⟩ : ∃ H, muld size c false = H := ⟨_, rfl⟩
  obtain ⟨U, hU⟩ : ∃ U, muld size c true = U := ⟨_, rfl⟩
  have hHb : H < 4611686018427387904 := by
    rw [← hH, muld_false]
    refine Nat.lt_of_le_of_lt (Nat.div_le_div_left b1 (by omega)) ?_
    omega
  have hUb : U < 4611686018427387905 := by
    have ht := muld_true size c
    rw [muld_false] at hH
    rw [hU, hH] at ht
    rcases ht with ht | ht <;> omega
  have HR := near_law (m := 2) (size := size) (f := 62) (H := H) (U := U) (by rw [hc]; exact hH) (by rw [hc]; exact hU)
  rw [hH] at hF
  rw [hU] at hT
  rw [show 62 + 2 = 64 by rfl, show 2 ^ 2 = 4 by rfl] at HR
  rw [← hc, p62] at hF hT
  have hsi : ((4611686018427387904 : Nat) : Int) = 4611686018427387904 := rfl
  rw [hsi] at hF hT
  have k0 : bits .and .i64 (H : Int) 3 = ((H % 4 : Nat) : Int) := by
    have := i64_mask (H := H) (k := 2) (by omega) (by omega)
    rw [show 2 ^ 2 - 1 = 3 by rfl, show 2 ^ 2 = 4 by rfl] at this
    exact this
  have d0 : (H : Int) / 4 = ((H / 4 : Nat) : Int) := by omega
  obtain ⟨T, hT0⟩ : ∃ T, H % 4 = T := ⟨_, rfl⟩
  obtain ⟨G, hG⟩ : ∃ G, H / 4 = G := ⟨_, rfl⟩
  rw [hT0] at k0 HR
  rw [hG] at d0 HR
  have hGb : G < 4611686018427387904 := by omega
  clear hT0 hG
  have k1 : bits .and .i64 (G : Int) 1 = ((G % 2 : Nat) : Int) := by
    have := i64_mask (H := G) (k := 1) (by omega) (by omega)
    exact this
  have d1 : (G : Int) / 2 = ((G / 2 : Nat) : Int) := by omega
  obtain ⟨n, hn⟩ : ∃ n, G / 2 = n := ⟨_, rfl⟩
  obtain ⟨t, ht⟩ : ∃ t, G % 2 = t := ⟨_, rfl⟩
  have k2 : bits .and .i64 (n : Int) 1 = ((n % 2 : Nat) : Int) := by
    have := i64_mask (H := n) (k := 1) (by omega) (by omega)
    exact this
  obtain ⟨t2, ht2⟩ : ∃ t2, n % 2 = t2 := ⟨_, rfl⟩
  rw [hn] at d1 HR
  rw [ht] at k1 HR
  rw [ht2] at k2 HR
  have HW := Lib.hid (show wrap64 ((n : Int) + 1) = n + 1 by unfold wrap64; omega)
  generalize rhe (10000 * size) (2 ^ 64) = R at *
  replace HR := Lib.hid HR
  replace hF := Lib.hid hF
  replace hT := Lib.hid hT
  clear hn ht ht2 hHb hUb hH hU hGb  hc b1 b2 p62  h1
  by_cases hHU : H = U
  · subst hHU
    go_enter Try.func41, Try.ntmps41
    go_wp2_with fail
    refine (hF.out _).mono ?_
    rintro e w1 ⟨rfl, hb1⟩
    go_wp2_with fail
    refine (hT.out _).mono ?_
    rintro e w2 ⟨rfl, hb2⟩
    have hb := hb1.trans (hb2.mono hb1.size)
    clear hb1 hb2
    go_wp2
    all_goals
      go_ret2
      refine ⟨?_, hb⟩
      have hr := HR.out
      first
        | exact congrArg (fun x => Ending.returned (.tuple #[.int .i64 x, .int .i64 0])) (show wrap64 ((n : Int) + 1) = R by rw [HW.out, hr]; split <;> simp_all <;> omega)
        | exact congrArg (fun x => Ending.returned (.tuple #[.int .i64 x, .int .i64 0])) (show (n : Int) = R by rw [hr]; split <;> simp_all <;> omega)
  · have hne : ¬ (H : Int) = U := by omega
    have HN := Lib.hid hHU
    clear hHU
    go_enter Try.func41, Try.ntmps41
    go_wp2_with fail
    refine (hF.out _).mono ?_
    rintro e w1 ⟨rfl, hb1⟩
    go_wp2_with fail
    refine (hT.out _).mono ?_
    rintro e w2 ⟨rfl, hb2⟩
    have hb := hb1.trans (hb2.mono hb1.size)
    clear hb1 hb2
    go_wp2
    all_goals
      go_ret2
      refine ⟨?_, hb⟩
      have hr := HR.out
      have hx := HN.out
      first
        | exact congrArg (fun x => Ending.returned (.tuple #[.int .i64 x, .int .i64 0])) (show wrap64 ((n : Int) + 1) = R by rw [HW.out, hr]; split <;> simp_all <;> omega)
        | exact congrArg (fun x => Ending.returned (.tuple #[.int .i64 x, .int .i64 0])) (show (n : Int) = R by rw [hr]; split <;> simp_all <;> omega)
set_option maxHeartbeats 2000000 in
theorem near_3 {size : Nat} (h1 : size < 9007199254740992) (w : World) : Calls Try.prog 41 #[.int .i64 size, .int .i64 65] w fun e w' => e = .returned (.tuple #[.int .i64 (rhe (10000 * size) (2 ^ 65) : Nat), .int .i64 0]) ∧ Below w.heap.size w w' := by
  obtain ⟨c, hc⟩ : ∃ c, 2 ^ 62 = c := ⟨_, rfl⟩
  have p62 : (2 : Nat) ^ 62 = 4611686018427387904 := by decide
  have b1 : 67108864 ≤ c := by rw [← hc, p62]; omega
  have b2 : c ≤ 4611686018427387904 := by rw [← hc, p62]; omega
  have hsh : wrap64 4611686018427387904 = 4611686018427387904 := by unfold wrap64; omega
  have hF := fun w => money_muldiv h1 b1 b2 false w
  have hT := fun w => money_muldiv h1 b1 b2 true w
  obtain ⟨H, hH⟩ : ∃ H, muld size c false = H := ⟨_, rfl⟩
  obtain ⟨U, hU⟩ : ∃ U, muld size c true = U := ⟨_, rfl⟩
  have hHb : H < 4611686018427387904 := by
    rw [← hH, muld_false]
    refine Nat.lt_of_le_of_lt (Nat.div_le_div_left b1 (by omega)) ?_
    omega
  have hUb : U < 4611686018427387905 := by
    have ht := muld_true size c
    rw [muld_false] at hH
    rw [hU, hH] at ht
    rcases ht with ht | ht <;> omega
  have HR := near_law (m := 3) (size := size) (f := 62) (H := H) (U := U) (by rw [hc]; exact hH) (by rw [hc]; exact hU)
  rw [hH] at hF
  rw [hU] at hT
  rw [show 62 + 3 = 65 by rfl, show 2 ^ 3 = 8 by rfl] at HR
  rw [← hc, p62] at hF hT
  have hsi : ((4611686018427387904 : Nat) : Int) = 4611686018427387904 := rfl
  rw [hsi] at hF hT
  have k0 : bits .and .i64 (H : Int) 7 = ((H % 8 : Nat) : Int) := by
    have := i64_mask (H := H) (k := 3) (by omega) (by omega)
    rw [show 2 ^ 3 - 1 = 7 by rfl, show 2 ^ 3 = 8 by rfl] at this
    exact this
  have d0 : (H : Int) / 8 = ((H / 8 : Nat) : Int) := by omega
  obtain ⟨T, hT0⟩ : ∃ T, H % 8 = T := ⟨_, rfl⟩
  obtain ⟨G, hG⟩ : ∃ G, H / 8 = G := ⟨_, rfl⟩
  rw [hT0] at k0 HR
  rw [hG] at d0 HR
  have hGb : G < 4611686018427387904 := by omega
  clear hT0 hG
  have k1 : bits .and .i64 (G : Int) 1 = ((G % 2 : Nat) : Int) := by
    have := i64_mask (H := G) (k := 1) (by omega) (by omega)
    exact this
  have d1 : (G : Int) / 2 = ((G / 2 : Nat) : Int) := by omega
  obtain ⟨n, hn⟩ : ∃ n, G / 2 = n := ⟨_, rfl⟩
  obtain ⟨t, ht⟩ : ∃ t, G % 2 = t := ⟨_, rfl⟩
  have k2 : bits .and .i64 (n : Int) 1 = ((n % 2 : Nat) : Int) := by
    have := i64_mask (H := n) (k := 1) (by omega) (by omega)
    exact this
  obtain ⟨t2, ht2⟩ : ∃ t2, n % 2 = t2 := ⟨_, rfl⟩
  rw [hn] at d1 HR
  rw [ht] at k1 HR
  rw [ht2] at k2 HR
  have HW := Lib.hid (show wrap64 ((n : Int) + 1) = n + 1 by unfold wrap64; omega)
  generalize rhe (10000 * size) (2 ^ 65) = R at *
  replace HR := Lib.hid HR
  replace hF := Lib.hid hF
  replace hT := Lib.hid hT
  clear hn ht ht2 hHb hUb hH hU hGb  hc b1 b2 p62  h1
  by_cases hHU : H = U
  · subst hHU
    go_enter Try.func41, Try.ntmps41
    go_wp2_with fail
    refine (hF.out _).mono ?_
    rintro e w1 ⟨rfl, hb1⟩
    go_wp2_with fail
    refine (hT.out _).mono ?_
    rintro e w2 ⟨rfl, hb2⟩
    have hb := hb1.trans (hb2.mono hb1.size)
    clear hb1 hb2
    go_wp2
    all_goals
      go_ret2
      refine ⟨?_, hb⟩
      have hr := HR.out
      first
        | exact congrArg (fun x => Ending.returned (.tuple #[.int .i64 x, .int .i64 0])) (show wrap64 ((n : Int) + 1) = R by rw [HW.out, hr]; split <;> simp_all <;> omega)
        | exact congrArg (fun x => Ending.returned (.tuple #[.int .i64 x, .int .i64 0])) (show (n : Int) = R by rw [hr]; split <;> simp_all <;> omega)
  · have hne : ¬ (H : Int) = U := by omega
    have HN := Lib.hid hHU
    clear hHU
    go_enter Try.func41, Try.ntmps41
    go_wp2_with fail
    refine (hF.out _).mono ?_
    rintro e w1 ⟨rfl, hb1⟩
    go_wp2_with fail
    refine (hT.out _).mono ?_
    rintro e w2 ⟨rfl, hb2⟩
    have hb := hb1.trans (hb2.mono hb1.size)
    clear hb1 hb2
    go_wp2
    all_goals
      go_ret2
      refine ⟨?_, hb⟩
      have hr := HR.out
      have hx := HN.out
      first
        | exact congrArg (fun x => Ending.returned (.tuple #[.int .i64 x, .int .i64 0])) (show wrap64 ((n : Int) + 1) = R by rw [HW.out, hr]; split <;> simp_all <;> omega)
        | exact congrArg (fun x => Ending.returned (.tuple #[.int .i64 x, .int .i64 0])) (show (n : Int) = R by rw [hr]; split <;> simp_all <;> omega)
set_option maxHeartbeats 2000000 in
theorem near_4 {size : Nat} (h1 : size < 9007199254740992) (w : World) : Calls Try.prog 41 #[.int .i64 size, .int .i64 66] w fun e w' => e = .returned (.tuple #[.int .i64 (rhe (10000 * size) (2 ^ 66) : Nat), .int .i64 0]) ∧ Below w.heap.size w w' := by
  obtain ⟨c, hc⟩ : ∃ c, 2 ^ 62 = c := ⟨_, rfl⟩
  have p62 : (2 : Nat) ^ 62 = 4611686018427387904 := by decide
  have b1 : 67108864 ≤ c := by rw [← hc, p62]; omega
  have b2 : c ≤ 4611686018427387904 := by rw [← hc, p62]; omega
  have hsh : wrap64 4611686018427387904 = 4611686018427387904 := by unfold wrap64; omega
  have hF := fun w => money_muldiv h1 b1 b2 false w
  have hT := fun w => money_muldiv h1 b1 b2 true w
  obtain ⟨H, hH⟩ : ∃ H, muld size c false = H := ⟨_, rfl⟩
  obtain ⟨U, hU⟩ : ∃ U, muld size c true = U := ⟨_, rfl⟩
  have hHb : H < 4611686018427387904 := by
    rw [← hH, muld_false]
    refine Nat.lt_of_le_of_lt (Nat.div_le_div_left b1 (by omega)) ?_
    omega
  have hUb : U < 4611686018427387905 := by
    have ht := muld_true size c
    rw [muld_false] at hH
    rw [hU, hH] at ht
    rcases ht with ht | ht <;> omega
  have HR := near_law (m := 4) (size := size) (f := 62) (H := H) (U := U) (by rw [hc]; exact hH) (by rw [hc]; exact hU)
  rw [hH] at hF
  rw [hU] at hT
  rw [show 62 + 4 = 66 by rfl, show 2 ^ 4 = 16 by rfl] at HR
  rw [← hc, p62] at hF hT
  have hsi : ((4611686018427387904 : Nat) : Int) = 4611686018427387904 := rfl
  rw [hsi] at hF hT
  have k0 : bits .and .i64 (H : Int) 15 = ((H % 16 : Nat) : Int) := by
    have := i64_mask (H := H) (k := 4) (by omega) (by omega)
    rw [show 2 ^ 4 - 1 = 15 by rfl, show 2 ^ 4 = 16 by rfl] at this
    exact this
  have d0 : (H : Int) / 16 = ((H / 16 : Nat) : Int) := by omega
  obtain ⟨T, hT0⟩ : ∃ T, H % 16 = T := ⟨_, rfl⟩
  obtain ⟨G, hG⟩ : ∃ G, H / 16 = G := ⟨_, rfl⟩
  rw [hT0] at k0 HR
  rw [hG] at d0 HR
  have hGb : G < 4611686018427387904 := by omega
  clear hT0 hG
  have k1 : bits .and .i64 (G : Int) 1 = ((G % 2 : Nat) : Int) := by
    have := i64_mask (H := G) (k := 1) (by omega) (by omega)
    exact this
  have d1 : (G : Int) / 2 = ((G / 2 : Nat) : Int) := by omega
  obtain ⟨n, hn⟩ : ∃ n, G / 2 = n := ⟨_, rfl⟩
  obtain ⟨t, ht⟩ : ∃ t, G % 2 = t := ⟨_, rfl⟩
  have k2 : bits .and .i64 (n : Int) 1 = ((n % 2 : Nat) : Int) := by
    have := i64_mask (H := n) (k := 1) (by omega) (by omega)
    exact this
  obtain ⟨t2, ht2⟩ : ∃ t2, n % 2 = t2 := ⟨_, rfl⟩
  rw [hn] at d1 HR
  rw [ht] at k1 HR
  rw [ht2] at k2 HR
  have HW := Lib.hid (show wrap64 ((n : Int) + 1) = n + 1 by unfold wrap64; omega)
  generalize rhe (10000 * size) (2 ^ 66) = R at *
  replace HR := Lib.hid HR
  replace hF := Lib.hid hF
  replace hT := Lib.hid hT
  clear hn ht ht2 hHb hUb hH hU hGb  hc b1 b2 p62  h1
  by_cases hHU : H = U
  · subst hHU
    go_enter Try.func41, Try.ntmps41
    go_wp2_with fail
    refine (hF.out _).mono ?_
    rintro e w1 ⟨rfl, hb1⟩
    go_wp2_with fail
    refine (hT.out _).mono ?_
    rintro e w2 ⟨rfl, hb2⟩
    have hb := hb1.trans (hb2.mono hb1.size)
    clear hb1 hb2
    go_wp2
    all_goals
      go_ret2
      refine ⟨?_, hb⟩
      have hr := HR.out
      first
        | exact congrArg (fun x => Ending.returned (.tuple #[.int .i64 x, .int .i64 0])) (show wrap64 ((n : Int) + 1) = R by rw [HW.out, hr]; split <;> simp_all <;> omega)
        | exact congrArg (fun x => Ending.returned (.tuple #[.int .i64 x, .int .i64 0])) (show (n : Int) = R by rw [hr]; split <;> simp_all <;> omega)
  · have hne : ¬ (H : Int) = U := by omega
    have HN := Lib.hid hHU
    clear hHU
    go_enter Try.func41, Try.ntmps41
    go_wp2_with fail
    refine (hF.out _).mono ?_
    rintro e w1 ⟨rfl, hb1⟩
    go_wp2_with fail
    refine (hT.out _).mono ?_
    rintro e w2 ⟨rfl, hb2⟩
    have hb := hb1.trans (hb2.mono hb1.size)
    clear hb1 hb2
    go_wp2
    all_goals
      go_ret2
      refine ⟨?_, hb⟩
      have hr := HR.out
      have hx := HN.out
      first
        | exact congrArg (fun x => Ending.returned (.tuple #[.int .i64 x, .int .i64 0])) (show wrap64 ((n : Int) + 1) = R by rw [HW.out, hr]; split <;> simp_all <;> omega)
        | exact congrArg (fun x => Ending.returned (.tuple #[.int .i64 x, .int .i64 0])) (show (n : Int) = R by rw [hr]; split <;> simp_all <;> omega)
set_option maxHeartbeats 2000000 in
theorem near_5 {size : Nat} (h1 : size < 9007199254740992) (w : World) : Calls Try.prog 41 #[.int .i64 size, .int .i64 67] w fun e w' => e = .returned (.tuple #[.int .i64 (rhe (10000 * size) (2 ^ 67) : Nat), .int .i64 0]) ∧ Below w.heap.size w w' := by
  obtain ⟨c, hc⟩ : ∃ c, 2 ^ 62 = c := ⟨_, rfl⟩
  have p62 : (2 : Nat) ^ 62 = 4611686018427387904 := by decide
  have b1 : 67108864 ≤ c := by rw [← hc, p62]; omega
  have b2 : c ≤ 4611686018427387904 := by rw [← hc, p62]; omega
  have hsh : wrap64 4611686018427387904 = 4611686018427387904 := by unfold wrap64; omega
  have hF := fun w => money_muldiv h1 b1 b2 false w
  have hT := fun w => money_muldiv h1 b1 b2 true w
  obtain ⟨H, hH⟩ : ∃ H, muld size c false = H := ⟨_, rfl⟩
  obtain ⟨U, hU⟩ : ∃ U, muld size c true = U := ⟨_, rfl⟩
  have hHb : H < 4611686018427387904 := by
    rw [← hH, muld_false]
    refine Nat.lt_of_le_of_lt (Nat.div_le_div_left b1 (by omega)) ?_
    omega
  have hUb : U < 4611686018427387905 := by
    have ht := muld_true size c
    rw [muld_false] at hH
    rw [hU, hH] at ht
    rcases ht with ht | ht <;> omega
  have HR := near_law (m := 5) (size := size) (f := 62) (H := H) (U := U) (by rw [hc]; exact hH) (by rw [hc]; exact hU)
  rw [hH] at hF
  rw [hU] at hT
  rw [show 62 + 5 = 67 by rfl, show 2 ^ 5 = 32 by rfl] at HR
  rw [← hc, p62] at hF hT
  have hsi : ((4611686018427387904 : Nat) : Int) = 4611686018427387904 := rfl
  rw [hsi] at hF hT
  have k0 : bits .and .i64 (H : Int) 31 = ((H % 32 : Nat) : Int) := by
    have := i64_mask (H := H) (k := 5) (by omega) (by omega)
    rw [show 2 ^ 5 - 1 = 31 by rfl, show 2 ^ 5 = 32 by rfl] at this
    exact this
  have d0 : (H : Int) / 32 = ((H / 32 : Nat) : Int) := by omega
  obtain ⟨T, hT0⟩ : ∃ T, H % 32 = T := ⟨_, rfl⟩
  obtain ⟨G, hG⟩ : ∃ G, H / 32 = G := ⟨_, rfl⟩
  rw [hT0] at k0 HR
  rw [hG] at d0 HR
  have hGb : G < 4611686018427387904 := by omega
  clear hT0 hG
  have k1 : bits .and .i64 (G : Int) 1 = ((G % 2 : Nat) : Int) := by
    have := i64_mask (H := G) (k := 1) (by omega) (by omega)
    exact this
  have d1 : (G : Int) / 2 = ((G / 2 : Nat) : Int) := by omega
  obtain ⟨n, hn⟩ : ∃ n, G / 2 = n := ⟨_, rfl⟩
  obtain ⟨t, ht⟩ : ∃ t, G % 2 = t := ⟨_, rfl⟩
  have k2 : bits .and .i64 (n : Int) 1 = ((n % 2 : Nat) : Int) := by
    have := i64_mask (H := n) (k := 1) (by omega) (by omega)
    exact this
  obtain ⟨t2, ht2⟩ : ∃ t2, n % 2 = t2 := ⟨_, rfl⟩
  rw [hn] at d1 HR
  rw [ht] at k1 HR
  rw [ht2] at k2 HR
  have HW := Lib.hid (show wrap64 ((n : Int) + 1) = n + 1 by unfold wrap64; omega)
  generalize rhe (10000 * size) (2 ^ 67) = R at *
  replace HR := Lib.hid HR
  replace hF := Lib.hid hF
  replace hT := Lib.hid hT
  clear hn ht ht2 hHb hUb hH hU hGb  hc b1 b2 p62  h1
  by_cases hHU : H = U
  · subst hHU
    go_enter Try.func41, Try.ntmps41
    go_wp2_with fail
    refine (hF.out _).mono ?_
    rintro e w1 ⟨rfl, hb1⟩
    go_wp2_with fail
    refine (hT.out _).mono ?_
    rintro e w2 ⟨rfl, hb2⟩
    have hb := hb1.trans (hb2.mono hb1.size)
    clear hb1 hb2
    go_wp2
    all_goals
      go_ret2
      refine ⟨?_, hb⟩
      have hr := HR.out
      first
        | exact congrArg (fun x => Ending.returned (.tuple #[.int .i64 x, .int .i64 0])) (show wrap64 ((n : Int) + 1) = R by rw [HW.out, hr]; split <;> simp_all <;> omega)
        | exact congrArg (fun x => Ending.returned (.tuple #[.int .i64 x, .int .i64 0])) (show (n : Int) = R by rw [hr]; split <;> simp_all <;> omega)
  · have hne : ¬ (H : Int) = U := by omega
    have HN := Lib.hid hHU
    clear hHU
    go_enter Try.func41, Try.ntmps41
    go_wp2_with fail
    refine (hF.out _).mono ?_
    rintro e w1 ⟨rfl, hb1⟩
    go_wp2_with fail
    refine (hT.out _).mono ?_
    rintro e w2 ⟨rfl, hb2⟩
    have hb := hb1.trans (hb2.mono hb1.size)
    clear hb1 hb2
    go_wp2
    all_goals
      go_ret2
      refine ⟨?_, hb⟩
      have hr := HR.out
      have hx := HN.out
      first
        | exact congrArg (fun x => Ending.returned (.tuple #[.int .i64 x, .int .i64 0])) (show wrap64 ((n : Int) + 1) = R by rw [HW.out, hr]; split <;> simp_all <;> omega)
        | exact congrArg (fun x => Ending.returned (.tuple #[.int .i64 x, .int .i64 0])) (show (n : Int) = R by rw [hr]; split <;> simp_all <;> omega)
set_option maxHeartbeats 2000000 in
theorem near_6 {size : Nat} (h1 : size < 9007199254740992) (w : World) : Calls Try.prog 41 #[.int .i64 size, .int .i64 68] w fun e w' => e = .returned (.tuple #[.int .i64 (rhe (10000 * size) (2 ^ 68) : Nat), .int .i64 0]) ∧ Below w.heap.size w w' := by
  obtain ⟨c, hc⟩ : ∃ c, 2 ^ 62 = c := ⟨_, rfl⟩
  have p62 : (2 : Nat) ^ 62 = 4611686018427387904 := by decide
  have b1 : 67108864 ≤ c := by rw [← hc, p62]; omega
  have b2 : c ≤ 4611686018427387904 := by rw [← hc, p62]; omega
  have hsh : wrap64 4611686018427387904 = 4611686018427387904 := by unfold wrap64; omega
  have hF := fun w => money_muldiv h1 b1 b2 false w
  have hT := fun w => money_muldiv h1 b1 b2 true w
  obtain ⟨H, hH⟩ : ∃ H, muld size c false = H := ⟨_, rfl⟩
  obtain ⟨U, hU⟩ : ∃ U, muld size c true = U := ⟨_, rfl⟩
  have hHb : H < 4611686018427387904 := by
    rw [← hH, muld_false]
    refine Nat.lt_of_le_of_lt (Nat.div_le_div_left b1 (by omega)) ?_
    omega
  have hUb : U < 4611686018427387905 := by
    have ht := muld_true size c
    rw [muld_false] at hH
    rw [hU, hH] at ht
    rcases ht with ht | ht <;> omega
  have HR := near_law (m := 6) (size := size) (f := 62) (H := H) (U := U) (by rw [hc]; exact hH) (by rw [hc]; exact hU)
  rw [hH] at hF
  rw [hU] at hT
  rw [show 62 + 6 = 68 by rfl, show 2 ^ 6 = 64 by rfl] at HR
  rw [← hc, p62] at hF hT
  have hsi : ((4611686018427387904 : Nat) : Int) = 4611686018427387904 := rfl
  rw [hsi] at hF hT
  have k0 : bits .and .i64 (H : Int) 63 = ((H % 64 : Nat) : Int) := by
    have := i64_mask (H := H) (k := 6) (by omega) (by omega)
    rw [show 2 ^ 6 - 1 = 63 by rfl, show 2 ^ 6 = 64 by rfl] at this
    exact this
  have d0 : (H : Int) / 64 = ((H / 64 : Nat) : Int) := by omega
  obtain ⟨T, hT0⟩ : ∃ T, H % 64 = T := ⟨_, rfl⟩
  obtain ⟨G, hG⟩ : ∃ G, H / 64 = G := ⟨_, rfl⟩
  rw [hT0] at k0 HR
  rw [hG] at d0 HR
  have hGb : G < 4611686018427387904 := by omega
  clear hT0 hG
  have k1 : bits .and .i64 (G : Int) 1 = ((G % 2 : Nat) : Int) := by
    have := i64_mask (H := G) (k := 1) (by omega) (by omega)
    exact this
  have d1 : (G : Int) / 2 = ((G / 2 : Nat) : Int) := by omega
  obtain ⟨n, hn⟩ : ∃ n, G / 2 = n := ⟨_, rfl⟩
  obtain ⟨t, ht⟩ : ∃ t, G % 2 = t := ⟨_, rfl⟩
  have k2 : bits .and .i64 (n : Int) 1 = ((n % 2 : Nat) : Int) := by
    have := i64_mask (H := n) (k := 1) (by omega) (by omega)
    exact this
  obtain ⟨t2, ht2⟩ : ∃ t2, n % 2 = t2 := ⟨_, rfl⟩
  rw [hn] at d1 HR
  rw [ht] at k1 HR
  rw [ht2] at k2 HR
  have HW := Lib.hid (show wrap64 ((n : Int) + 1) = n + 1 by unfold wrap64; omega)
  generalize rhe (10000 * size) (2 ^ 68) = R at *
  replace HR := Lib.hid HR
  replace hF := Lib.hid hF
  replace hT := Lib.hid hT
  clear hn ht ht2 hHb hUb hH hU hGb  hc b1 b2 p62  h1
  by_cases hHU : H = U
  · subst hHU
    go_enter Try.func41, Try.ntmps41
    go_wp2_with fail
    refine (hF.out _).mono ?_
    rintro e w1 ⟨rfl, hb1⟩
    go_wp2_with fail
    refine (hT.out _).mono ?_
    rintro e w2 ⟨rfl, hb2⟩
    have hb := hb1.trans (hb2.mono hb1.size)
    clear hb1 hb2
    go_wp2
    all_goals
      go_ret2
      refine ⟨?_, hb⟩
      have hr := HR.out
      first
        | exact congrArg (fun x => Ending.returned (.tuple #[.int .i64 x, .int .i64 0])) (show wrap64 ((n : Int) + 1) = R by rw [HW.out, hr]; split <;> simp_all <;> omega)
        | exact congrArg (fun x => Ending.returned (.tuple #[.int .i64 x, .int .i64 0])) (show (n : Int) = R by rw [hr]; split <;> simp_all <;> omega)
  · have hne : ¬ (H : Int) = U := by omega
    have HN := Lib.hid hHU
    clear hHU
    go_enter Try.func41, Try.ntmps41
    go_wp2_with fail
    refine (hF.out _).mono ?_
    rintro e w1 ⟨rfl, hb1⟩
    go_wp2_with fail
    refine (hT.out _).mono ?_
    rintro e w2 ⟨rfl, hb2⟩
    have hb := hb1.trans (hb2.mono hb1.size)
    clear hb1 hb2
    go_wp2
    all_goals
      go_ret2
      refine ⟨?_, hb⟩
      have hr := HR.out
      have hx := HN.out
      first
        | exact congrArg (fun x => Ending.returned (.tuple #[.int .i64 x, .int .i64 0])) (show wrap64 ((n : Int) + 1) = R by rw [HW.out, hr]; split <;> simp_all <;> omega)
        | exact congrArg (fun x => Ending.returned (.tuple #[.int .i64 x, .int .i64 0])) (show (n : Int) = R by rw [hr]; split <;> simp_all <;> omega)
end Go.Proofs.Ytdpllkmbnphdgaa
