/- A rate comes back from its bits, and the command of these may be: for any rate and currency. -/
import Derived.Test.YtdpllkmbnphdgaaQuoteH
import Derived.Test.YtdpllkmbnphdgaaQuoteG
import Derived.Test.YtdpllkmbnphdgaaRow
import Derived.Deep.RegionHeld3
namespace Go.Proofs.Ytdpllkmbnphdgaa.quoteBack
open Go.ChangeShapes Go.WideShapes Go.ChangeAt Go.RowKit

theorem back {n : Nat} (h1 : 1 ≤ n) (h2 : n ≤ 100000000) : ∃ r, r < 18446744073709551616 ∧ floatBits .quo .f64 (floatOfInt .f64 (n : Int)) 4666723172467343360 = some r ∧ rateOf r = ((n : Int), 0) := by
  obtain ⟨r, size, down, hf, hr, hs, hd1, hd2, hn1, hn2⟩ := bits_d h1 h2
  have hb1 : 4537999922764202797 ≤ r := by omega
  have hb2 : r ≤ 4726483295884279808 := by omega
  have hR : rateN r = n := by
    unfold rateN
    rw [hs, hr, show 1075 - (1075 - down) = down by omega]
    have hp : 2 ^ 38 ≤ 2 ^ down := Nat.pow_le_pow_right (by omega) hd1
    have p38 : (2 : Nat) ^ 38 = 274877906944 := by decide
    rw [p38] at hp
    refine rhe_near ?_ ?_
    · generalize n * 2 ^ down = T at *
      generalize 2 ^ down = P at *
      omega
    · generalize n * 2 ^ down = T at *
      generalize 2 ^ down = P at *
      omega
  refine ⟨r, by omega, hf, ?_⟩
  unfold rateOf
  rw [if_neg (by omega), if_neg (by omega), if_neg (by omega), hR, if_pos ⟨h1, h2⟩]
theorem may_cmd {cur n : Int} (h1 : 0 ≤ cur) (h2 : cur ≤ 255) : may (cmdOf cur n) = true := by
  have hs : specs (cmdOf cur n).k = [(4, 1), (6, 8)] := rfl
  unfold may
  rw [hs]
  simp [okField, same, pn, cmdOf, fits, h1, h2]
set_option maxRecDepth 100000 in
set_option maxHeartbeats 4000000 in
theorem walk (x : Int) (_hx : (Lit.int .i64 x).wf = true) (c : Int) (hc : (Lit.int .u8 c).wf = true) (w : World) :
    Calls Try.prog 8 #[.int .i64 x, .int .u8 c] w fun e w' => e = .returned (.bool true) ∧ Below w.heap.size w w' := by
  have hc2 : 0 ≤ c ∧ c ≤ 255 := by
    simp only [Lit.wf, Bool.and_eq_true, decide_eq_true_eq] at hc
    have hmin : IntKind.u8.min = 0 := rfl
    have hmax : IntKind.u8.max = 255 := rfl
    omega
  have HAW := Lib.hid (fun w => awake_q w)
  have hwc : wrap64 c = c := by unfold wrap64; omega
  clear hc
  by_cases hin : 1 ≤ x ∧ x ≤ 100000000
  · obtain ⟨n, rfl⟩ : ∃ n : Nat, x = n := ⟨x.toNat, by omega⟩
    obtain ⟨r, hr, hf, hro⟩ := back (n := n) (by omega) (by omega)
    have HBI := Lib.hid (fun w => bits_ok hin.1 hin.2 hf w)
    have HRA := Lib.hid (fun w => aw_rate hr hro w)
    have HCO := Lib.hid (fun w => command_ok hr hc2.1 hc2.2 hro w)
    have HMA := Lib.hid (fun w => may_any (cmdOf c n) w)
    rw [may_cmd hc2.1 hc2.2] at HMA
    rw [cmdOf_cells] at HCO HMA
    generalize (n : Int) = N at *
    clear hin hc2 hr hf hro
    go_enter Try.func8, Try.ntmps8
    go_wp2_with fail
    refine (HAW.out _).mono ?_
    rintro e w1 ⟨rfl, hb1⟩
    go_wp2_with fail
    refine (HBI.out _).mono ?_
    rintro e w2 ⟨rfl, rfl⟩
    go_wp2_with fail
    refine (HRA.out _).mono ?_
    rintro e w3 ⟨rfl, hb3⟩
    replace hb3 := hb1.trans (hb3.mono hb1.size)
    clear hb1
    go_wp2_with fail
    refine (HCO.out _).mono ?_
    rintro e w4 ⟨rfl, hb4⟩
    replace hb4 := hb3.trans (hb4.mono hb3.size)
    clear hb3
    have HB := Lib.hid (hb4.alloc hb4.size (.cells #[.int .i64 5, .int .i64 0, .int .i64 0, .int .i64 0, .int .i64 c, .int .i64 0, .int .i64 N, .int .i64 0] 23 (0, 0)))
    have HC := Lib.hid (cmAt_new w4 (cmdOf c N))
    clear hb4
    go_wp2_with (go_at_call 15; refine (HMA.out _).mono ?_; rintro e w5 ⟨rfl, hb5⟩; have hcell := (HC.out.below hb5).num (i := 6) (by omega) (by omega); replace hb5 := Lib.hid (HB.out.trans (hb5.mono HB.out.size)))
    go_ret
    exact ⟨by simp [cmdOf], hb5.out⟩
  · have HBI := Lib.hid (fun w => bits_out hin w)
    have hor : x < 1 ∨ (¬ x < 1 ∧ 100000000 < x) := by omega
    clear hin hc2
    rcases hor with h | ⟨h, h'⟩
    all_goals
      go_enter Try.func8, Try.ntmps8
      go_wp2_with fail
      refine (HAW.out _).mono ?_
      rintro e w1 ⟨rfl, hb1⟩
      go_wp2_with fail
      refine (HBI.out _).mono ?_
      rintro e w2 ⟨rfl, rfl⟩
      go_wp2
      go_ret
      exact ⟨by simp, hb1⟩
set_option maxRecDepth 100000 in
theorem lifted (os : Os) (started : os.Started) (H : Type) (enc : TypeId × Value → H) :
    ReturnsInHanded {} Try.checked os 8 .any (Rows.quoteBackSpec.pre6 enc Try.prog Try.f8 Rows.quoteBackRow.domain false) (Rows.quoteBackSpec.post enc Try.prog Try.f8 false true false false) := by
  refine returnsInHanded_of_change_sized (C := Try.checked) own_knob started (by kernel_rfl) Try.func8
    (ChangeSpec.witness6 (enc := enc) (C := Try.checked) false ⟨#[], #[.int .i64 0, .int .u8 0], []⟩ 8 (by kernel_rfl) (by kernel_rfl) (by kernel_rfl) (by kernel_rfl)) ?_
  intro W base args ds gs before hval0 hW hcnd hsz _
  have hval : ∀ (j : Nat) t v, Try.f8.params[j]? = some t → args[j]? = some v → Value.okWide Try.prog W .any base t v := hval0
  have hww : ∀ (j : Nat) (t : TypeId) (d : DataW H), Try.f8.params.toList[j]? = some t → ds[j]? = some d → ∀ n ∈ d.weights Try.prog t, n ≤ reachBytes := fun j t d h1 h2 => weights_of hsz j h1 h2
  have hW' := hW
  obtain ⟨p, q, hA0, hV, rfl, hfz, hnd⟩ := hW
  have hA : DataW.TrodAll enc Try.prog W 0 (fun _ => true) true Try.f8.params.toList args.toList ds p := hA0
  rw [Try.params8] at hA hval hww
  obtain ⟨v0, vs0, d0, ds0, p0, q0, hargs, rfl, rfl, h0, r0⟩ := trodAll_cons hA
  obtain ⟨v1, vs1, d1, ds1, p1, q1, rfl, rfl, rfl, h1, r1⟩ := trodAll_cons r0
  obtain ⟨rfl, rfl, rfl⟩ := trodAll_nil r1
  obtain rfl : args = #[v0, v1] := by cases args; simp_all
  obtain ⟨a0, rfl, _, _, hl0⟩ := open_int Try.underlying2 (hval 0 2 v0 rfl rfl) h0
  obtain ⟨a1, rfl, _, _, hl1⟩ := open_int Try.underlying5 (hval 1 5 v1 rfl rfl) h1
  clear hA0 hval0
  refine (walk a0 hl0 a1 hl1 W).mono fun e W' ⟨he, hb⟩ => ?_
  subst he
  exact ⟨_, rfl, law_post hW' (by kernel_rfl) rfl rfl (by
    intro t ht
    rw [Try.params8] at ht
    simp at ht
    rcases ht with rfl | rfl
    all_goals exact ⟨by kernel_rfl, of_decide_eq_true (by kernel_rfl)⟩) hb⟩
theorem over : Rows.quoteBackRow.holds Try.pinned (OpenSpec.ofChange Rows.quoteBackSpec) :=
  OpenClaim.holds_of_wide 8 Try.f8 rfl rfl rfl rfl rfl rfl rfl ⟨rfl, rfl, rfl, rfl, rfl⟩ rfl rfl rfl rfl rfl (by kernel_rfl) Try.func8 (by kernel_rfl)
    (of_decide_eq_true (by kernel_rfl)) (by unfold Func.isWrapper; first | (rw [if_pos (by decide +kernel)]; kernel_rfl) | (rw [if_neg (by decide +kernel)]; exact ⟨rfl, rfl⟩))
    (fun os started H enc _ => lifted os started H enc)
theorem proved : Rows.QuoteBackSaid := over
#print axioms proved
end Go.Proofs.Ytdpllkmbnphdgaa.quoteBack
