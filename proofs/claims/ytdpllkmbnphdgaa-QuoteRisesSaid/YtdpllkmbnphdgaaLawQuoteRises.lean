/- Of greater quotes rates are no less; with the sign set, and of what is infinite or none, there is no rate: for any two words. -/
import Derived.Test.YtdpllkmbnphdgaaQuoteH
import Derived.Test.YtdpllkmbnphdgaaRow
import Derived.Deep.RegionHeld3
namespace Go.Proofs.Ytdpllkmbnphdgaa.quoteRises
open Go.ChangeShapes Go.WideShapes Go.ChangeAt Go.RowKit

theorem scaled {b : Nat} (h1 : 4537999922764202797 ≤ b) (h2 : b ≤ 4726483295884279808) : rateN b = rhe (10000 * (mg b * 2 ^ (b / 4503599627370496 - 1007))) (2 ^ 68) ∧ ∀ k, k = 1006 → mg b * 2 ^ (b / 4503599627370496 - 1007) * 2 ^ k = vl b := by
  have hm : 4503599627370496 + b % 4503599627370496 = mg b := by unfold mg; rw [if_neg (by omega)]
  have he1 : 1007 ≤ b / 4503599627370496 := by omega
  have he2 : b / 4503599627370496 ≤ 1049 := by omega
  constructor
  · unfold rateN
    rw [hm]
    have e : (2 : Nat) ^ 68 = 2 ^ (1075 - b / 4503599627370496) * 2 ^ (b / 4503599627370496 - 1007) := by
      have e3 : 1075 - b / 4503599627370496 + (b / 4503599627370496 - 1007) = 68 := by omega
      rw [← Nat.pow_add, e3]
    rw [e, ← Nat.mul_assoc, rhe_scale _ _ (Nat.two_pow_pos _)]
  · intro k hk
    unfold vl
    rw [Nat.mul_assoc, ← Nat.pow_add]
    have e : b / 4503599627370496 - 1007 + k = ex b := by unfold ex; omega
    rw [e]
theorem rises {a b : Nat} (h : a ≤ b) (h1 : 4537999922764202797 ≤ a) (h2 : b ≤ 4726483295884279808) : rateN a ≤ rateN b := by
  obtain ⟨ea, va⟩ := scaled (b := a) h1 (by omega)
  obtain ⟨eb, vb⟩ := scaled (b := b) (by omega) h2
  obtain ⟨k, hk⟩ : ∃ k, k = 1006 := ⟨_, rfl⟩
  replace va := va k hk
  replace vb := vb k hk
  clear hk
  have hv := vl_le h
  rw [← va, ← vb] at hv
  have hp : 0 < 2 ^ k := Nat.two_pow_pos k
  generalize 2 ^ k = p at *
  rw [ea, eb]
  exact rhe_mono (Nat.mul_le_mul_left _ (Nat.le_of_mul_le_mul_right hv hp))
theorem fine {a : Nat} (h : (rateOf a).2 = 0) : 4537999922764202797 ≤ a ∧ a ≤ 4726483295884279808 ∧ (rateOf a).1 = rateN a := by
  unfold rateOf at h ⊢
  split at h
  · exact absurd h (by decide)
  · rename_i h1
    rw [if_neg h1]
    split at h
    · exact absurd h (by decide)
    · rename_i h2
      rw [if_neg h2]
      split at h
      · exact absurd h (by decide)
      · rename_i h3
        rw [if_neg h3]
        split at h
        · rename_i h4
          rw [if_pos h4]
          exact ⟨by omega, by omega, rfl⟩
        · exact absurd h (by decide)
theorem none {a : Nat} (h : (rateOf a).2 ≠ 0) : (rateOf a).1 = 0 := by
  unfold rateOf at h ⊢
  split
  · rfl
  · rename_i h1
    rw [if_neg h1] at h
    split
    · rfl
    · rename_i h2
      rw [if_neg h2] at h
      split
      · rfl
      · rename_i h3
        rw [if_neg h3] at h
        split
        · rename_i h4
          rw [if_pos h4] at h
          exact absurd rfl h
        · rfl
theorem signed {a : Nat} (h : 9223372036854775808 ≤ a) : (rateOf a).2 ≠ 0 := fun e => by
  have := fine e
  omega
set_option maxRecDepth 100000 in
set_option maxHeartbeats 4000000 in
theorem walkN (a b : Nat) (ha : a < 18446744073709551616) (hb : b < 18446744073709551616) (w : World) :
    Calls Try.prog 7 #[.int .u64 a, .int .u64 b] w fun e w' => e = .returned (.bool true) ∧ Below w.heap.size w w' := by
  have HA := Lib.hid (fun w => rate_any ha w)
  have HB := Lib.hid (fun w => rate_any hb w)
  obtain ⟨m, hm⟩ : ∃ m, a ||| 9223372036854775808 = m := ⟨_, rfl⟩
  have hm1 : 9223372036854775808 ≤ m := by rw [← hm]; exact Nat.right_le_or
  have hm2 : m < 18446744073709551616 := by
    have : a ||| 9223372036854775808 < 2 ^ 64 := Nat.or_lt_two_pow (by omega) (by omega)
    have p : (2 : Nat) ^ 64 = 18446744073709551616 := by decide
    omega
  have ho : bits .or .u64 (a : Int) 9223372036854775808 = (m : Int) := by
    have := u64_or_nat a 9223372036854775808 ha (by omega)
    rw [hm] at this
    exact this
  have HM := Lib.hid (fun w => rate_any hm2 w)
  have hgn : ((rateOf m).2 == 0) = false := by
    have := signed hm1
    simpa using this
  have hf1 := fun h => fine (a := a) h
  have hf2 := fun h => fine (a := b) h
  have hn1 := fun h => none (a := a) h
  have hmono : a ≤ b → 4537999922764202797 ≤ a → b ≤ 4726483295884279808 → rateN a ≤ rateN b := rises
  have hmono2 : b ≤ a → 4537999922764202797 ≤ b → a ≤ 4726483295884279808 → rateN b ≤ rateN a := rises
  generalize (rateOf m).1 = z at *
  generalize (rateOf m).2 = g at *
  generalize (rateOf a).1 = x at *
  generalize (rateOf a).2 = e1 at *
  generalize (rateOf b).1 = y at *
  generalize (rateOf b).2 = e2 at *
  have HAW := Lib.hid (fun w => awake_q w)
  have hcase : (e1 ≠ 0 ∧ x = 0) ∨ (e1 = 0 ∧ ((a : Int) == 0) = false ∧ ¬ (9218868437227405312 : Int) ≤ a ∧ (e2 ≠ 0 ∨ (e2 = 0 ∧ ((a : Int) ≤ b ∧ x ≤ y ∨ (b : Int) < a ∧ y ≤ x)))) := by
    by_cases h1 : e1 = 0
    · right
      obtain ⟨g1, g2, g3⟩ := hf1 h1
      refine ⟨h1, by simp; omega, by omega, ?_⟩
      by_cases h2 : e2 = 0
      · right
        obtain ⟨g4, g5, g6⟩ := hf2 h2
        refine ⟨h2, ?_⟩
        rcases Nat.lt_or_ge b a with h | h
        · right
          have := hmono2 (by omega) g4 g2
          exact ⟨by omega, by omega⟩
        · left
          have := hmono h g1 g5
          exact ⟨by omega, by omega⟩
      · exact .inl h2
    · exact .inl ⟨h1, hn1 h1⟩
  clear hf1 hf2 hn1 hmono hmono2 hm hm1 hm2 ha hb
  generalize (a : Int) = A at *
  generalize (b : Int) = B at *
  replace hgn : ¬ g = 0 := by simpa using hgn
  rcases hcase with ⟨h1, rfl⟩ | ⟨rfl, g1, g2, h2 | ⟨rfl, ⟨g3, g4⟩ | ⟨g3, g4⟩⟩⟩
  · go_enter Try.func7, Try.ntmps7
    go_wp2_with fail
    refine (HAW.out _).mono ?_
    rintro e w1 ⟨rfl, hb1⟩
    go_wp2_with fail
    refine (HA.out _).mono ?_
    rintro e w2 ⟨rfl, hb2⟩
    replace hb2 := hb1.trans (hb2.mono hb1.size)
    clear hb1
    go_wp2_with fail
    refine (HB.out _).mono ?_
    rintro e w3 ⟨rfl, hb3⟩
    replace hb3 := hb2.trans (hb3.mono hb2.size)
    clear hb2
    go_wp2_with fail
    refine (HM.out _).mono ?_
    rintro e w4 ⟨rfl, hb4⟩
    replace hb4 := hb3.trans (hb4.mono hb3.size)
    clear hb3
    go_wp2
    all_goals
      go_ret
      exact ⟨by first | (simp_all; done) | (simp_all; omega), hb4⟩
  · go_enter Try.func7, Try.ntmps7
    go_wp2_with fail
    refine (HAW.out _).mono ?_
    rintro e w1 ⟨rfl, hb1⟩
    go_wp2_with fail
    refine (HA.out _).mono ?_
    rintro e w2 ⟨rfl, hb2⟩
    replace hb2 := hb1.trans (hb2.mono hb1.size)
    clear hb1
    go_wp2_with fail
    refine (HB.out _).mono ?_
    rintro e w3 ⟨rfl, hb3⟩
    replace hb3 := hb2.trans (hb3.mono hb2.size)
    clear hb2
    go_wp2_with fail
    refine (HM.out _).mono ?_
    rintro e w4 ⟨rfl, hb4⟩
    replace hb4 := hb3.trans (hb4.mono hb3.size)
    clear hb3
    go_wp2
    all_goals
      go_ret
      exact ⟨by first | (simp_all; done) | (simp_all; omega), hb4⟩
  · go_enter Try.func7, Try.ntmps7
    go_wp2_with fail
    refine (HAW.out _).mono ?_
    rintro e w1 ⟨rfl, hb1⟩
    go_wp2_with fail
    refine (HA.out _).mono ?_
    rintro e w2 ⟨rfl, hb2⟩
    replace hb2 := hb1.trans (hb2.mono hb1.size)
    clear hb1
    go_wp2_with fail
    refine (HB.out _).mono ?_
    rintro e w3 ⟨rfl, hb3⟩
    replace hb3 := hb2.trans (hb3.mono hb2.size)
    clear hb2
    go_wp2_with fail
    refine (HM.out _).mono ?_
    rintro e w4 ⟨rfl, hb4⟩
    replace hb4 := hb3.trans (hb4.mono hb3.size)
    clear hb3
    go_wp2
    all_goals
      go_ret
      exact ⟨by first | (simp_all; done) | (simp_all; omega), hb4⟩
  · go_enter Try.func7, Try.ntmps7
    go_wp2_with fail
    refine (HAW.out _).mono ?_
    rintro e w1 ⟨rfl, hb1⟩
    go_wp2_with fail
    refine (HA.out _).mono ?_
    rintro e w2 ⟨rfl, hb2⟩
    replace hb2 := hb1.trans (hb2.mono hb1.size)
    clear hb1
    go_wp2_with fail
    refine (HB.out _).mono ?_
    rintro e w3 ⟨rfl, hb3⟩
    replace hb3 := hb2.trans (hb3.mono hb2.size)
    clear hb2
    go_wp2_with fail
    refine (HM.out _).mono ?_
    rintro e w4 ⟨rfl, hb4⟩
    replace hb4 := hb3.trans (hb4.mono hb3.size)
    clear hb3
    go_wp2
    all_goals
      go_ret
      exact ⟨by first | (simp_all; done) | (simp_all; omega), hb4⟩
theorem u64_nat {x : Int} (h : (Lit.int .u64 x).wf = true) : ∃ n : Nat, x = n ∧ n < 18446744073709551616 := by
  simp only [Lit.wf, Bool.and_eq_true, decide_eq_true_eq] at h
  have hmin : IntKind.u64.min = 0 := rfl
  have hmax : IntKind.u64.max = 18446744073709551615 := rfl
  exact ⟨x.toNat, by omega, by omega⟩
theorem walk (x : Int) (hx : (Lit.int .u64 x).wf = true) (y : Int) (hy : (Lit.int .u64 y).wf = true) (w : World) :
    Calls Try.prog 7 #[.int .u64 x, .int .u64 y] w fun e w' => e = .returned (.bool true) ∧ Below w.heap.size w w' := by
  obtain ⟨a, rfl, ha⟩ := u64_nat hx
  obtain ⟨b, rfl, hb⟩ := u64_nat hy
  exact walkN a b ha hb w
set_option maxRecDepth 100000 in
theorem lifted (os : Os) (started : os.Started) (H : Type) (enc : TypeId × Value → H) :
    ReturnsInHanded {} Try.checked os 7 .any (Rows.quoteRisesSpec.pre6 enc Try.prog Try.f7 Rows.quoteRisesRow.domain false) (Rows.quoteRisesSpec.post enc Try.prog Try.f7 false true false false) := by
  refine returnsInHanded_of_change_sized (C := Try.checked) own_knob started (by kernel_rfl) Try.func7
    (ChangeSpec.witness6 (enc := enc) (C := Try.checked) false ⟨#[], #[.int .u64 0, .int .u64 0], []⟩ 8 (by kernel_rfl) (by kernel_rfl) (by kernel_rfl) (by kernel_rfl)) ?_
  intro W base args ds gs before hval0 hW hcnd hsz _
  have hval : ∀ (j : Nat) t v, Try.f7.params[j]? = some t → args[j]? = some v → Value.okWide Try.prog W .any base t v := hval0
  have hww : ∀ (j : Nat) (t : TypeId) (d : DataW H), Try.f7.params.toList[j]? = some t → ds[j]? = some d → ∀ n ∈ d.weights Try.prog t, n ≤ reachBytes := fun j t d h1 h2 => weights_of hsz j h1 h2
  have hW' := hW
  obtain ⟨p, q, hA0, hV, rfl, hfz, hnd⟩ := hW
  have hA : DataW.TrodAll enc Try.prog W 0 (fun _ => true) true Try.f7.params.toList args.toList ds p := hA0
  rw [Try.params7] at hA hval hww
  obtain ⟨v0, vs0, d0, ds0, p0, q0, hargs, rfl, rfl, h0, r0⟩ := trodAll_cons hA
  obtain ⟨v1, vs1, d1, ds1, p1, q1, rfl, rfl, rfl, h1, r1⟩ := trodAll_cons r0
  obtain ⟨rfl, rfl, rfl⟩ := trodAll_nil r1
  obtain rfl : args = #[v0, v1] := by cases args; simp_all
  obtain ⟨a0, rfl, _, _, hl0⟩ := open_int Try.underlying53 (hval 0 53 v0 rfl rfl) h0
  obtain ⟨a1, rfl, _, _, hl1⟩ := open_int Try.underlying53 (hval 1 53 v1 rfl rfl) h1
  clear hA0 hval0
  refine (walk a0 hl0 a1 hl1 W).mono fun e W' ⟨he, hb⟩ => ?_
  subst he
  exact ⟨_, rfl, law_post hW' (by kernel_rfl) rfl rfl (by
    intro t ht
    rw [Try.params7] at ht
    simp at ht
    rcases ht with rfl | rfl
    all_goals exact ⟨by kernel_rfl, of_decide_eq_true (by kernel_rfl)⟩) hb⟩
theorem over : Rows.quoteRisesRow.holds Try.pinned (OpenSpec.ofChange Rows.quoteRisesSpec) :=
  OpenClaim.holds_of_wide 7 Try.f7 rfl rfl rfl rfl rfl rfl rfl ⟨rfl, rfl, rfl, rfl, rfl⟩ rfl rfl rfl rfl rfl (by kernel_rfl) Try.func7 (by kernel_rfl)
    (of_decide_eq_true (by kernel_rfl)) (by unfold Func.isWrapper; first | (rw [if_pos (by decide +kernel)]; kernel_rfl) | (rw [if_neg (by decide +kernel)]; exact ⟨rfl, rfl⟩))
    (fun os started H enc _ => lifted os started H enc)
theorem proved : Rows.QuoteRisesSaid := over
#print axioms proved
end Go.Proofs.Ytdpllkmbnphdgaa.quoteRises
