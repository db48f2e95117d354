/- Wire: the document's May. -/
import Derived.Test.YtdpllkmbnphdgaaWireI
namespace Go.Proofs.Ytdpllkmbnphdgaa
open Go.RowKit

/-- does a number stand as the document asks: its mark, the number, its place. -/
def rok (u : UInt8) (x : Int) (i : Nat) : Bool := (decide (u ≠ 48) || decide (x = 0)) && (decide (4 < i) || fits x (if i = 1 then 4 else 1))
theorem kinds (P : List (Nat × Nat) → List UInt8 → Prop) (h1 : P [(1, 1), (2, 4), (3, 1), (4, 1), (5, 1), (6, 8), (7, 8)] [49, 49, 49, 49, 49, 49, 49]) (h2 : P [(1, 1), (2, 4)] [49, 49, 48, 48, 48, 48, 48])
    (h3 : P [(1, 1), (4, 1), (6, 8)] [49, 48, 48, 49, 48, 49, 48]) (h4 : P [(2, 4)] [48, 49, 48, 48, 48, 48, 48]) (h5 : P [(4, 1), (6, 8)] [48, 48, 48, 49, 48, 49, 48]) (h7 : P [(1, 1)] [49, 48, 48, 48, 48, 48, 48])
    (h9 : P [(1, 1), (4, 1)] [49, 48, 48, 49, 48, 48, 48]) (h0 : P [] []) (k : Int) : P (specs k) (usesOf k) := by
  unfold specs usesOf
  by_cases e1 : k = 1
  · rw [if_pos e1, if_pos e1]; exact h1
  rw [if_neg e1, if_neg e1]
  by_cases e2 : k = 2
  · rw [if_pos e2, if_pos e2]; exact h2
  rw [if_neg e2, if_neg e2]
  by_cases e3 : k = 3
  · rw [if_pos e3, if_pos e3]; exact h3
  rw [if_neg e3, if_neg e3]
  by_cases e4 : k = 4 ∨ k = 8
  · rw [if_pos e4, if_pos e4]; exact h4
  rw [if_neg e4, if_neg e4]
  by_cases e5 : k = 5 ∨ k = 6
  · rw [if_pos e5, if_pos e5]; exact h5
  rw [if_neg e5, if_neg e5]
  by_cases e7 : k = 7
  · rw [if_pos e7, if_pos e7]; exact h7
  rw [if_neg e7, if_neg e7]
  by_cases e9 : k = 9
  · rw [if_pos e9, if_pos e9]; exact h9
  rw [if_neg e9, if_neg e9]; exact h0
set_option maxHeartbeats 4000000 in
theorem may_ref (c : Cm) : may c = (decide (usesOf c.k ≠ []) && (List.range 7).all fun i => rok ((usesOf c.k).getD i 0) (c.list.getD i 0) i) := by
  obtain ⟨k, n⟩ := c
  rw [Bool.eq_iff_iff]
  unfold may Cm.list
  refine kinds (fun S U => ((decide (0 < S.length) && (S.all (okField ⟨k, n⟩) && same (pn ⟨k, n⟩ S) n)) = true ↔ (decide (U ≠ []) && (List.range 7).all fun i => rok (U.getD i 0) (([n 1, n 2, n 3, n 4, n 5, n 6, n 7] : List Int).getD i 0) i) = true)) ?_ ?_ ?_ ?_ ?_ ?_ ?_ ?_ k
  all_goals
    simp [List.range, List.range.loop, okField, same, pn, rok, fits]
    try omega
theorem uses_seven {k : Int} (h : usesOf k ≠ []) : ∃ u0 u1 u2 u3 u4 u5 u6, usesOf k = [u0, u1, u2, u3, u4, u5, u6] ∧ ∀ i, i < 7 → ([u0, u1, u2, u3, u4, u5, u6] : List UInt8).getD i 0 = 48 ∨ ([u0, u1, u2, u3, u4, u5, u6] : List UInt8).getD i 0 = 49 := by
  revert h
  refine kinds (fun _ U => U ≠ [] → ∃ u0 u1 u2 u3 u4 u5 u6, U = [u0, u1, u2, u3, u4, u5, u6] ∧ ∀ i, i < 7 → ([u0, u1, u2, u3, u4, u5, u6] : List UInt8).getD i 0 = 48 ∨ ([u0, u1, u2, u3, u4, u5, u6] : List UInt8).getD i 0 = 49) ?_ ?_ ?_ ?_ ?_ ?_ ?_ ?_ k
  all_goals
    intro h
    first
      | exact absurd rfl h
      | (refine ⟨_, _, _, _, _, _, _, rfl, ?_⟩; decide)
set_option maxRecDepth 100000 in
set_option maxHeartbeats 4000000 in
theorem rmay_any (c : Cm) (w : World) :
    Calls Try.prog 16 #[.agg c.cells] w fun e w' => e = .returned (.bool (may c)) ∧ Below w.heap.size w w' := by
  have HM := Lib.hid (may_ref c)
  have hb1 := (Below.refl w.heap.size w).alloc (Nat.le_refl _) (.cells c.cells 29 (0, 0))
  have HU := Lib.hid (uses_any c.k)
  have HN := Lib.hid (numbers_any c)
  have HB1 := Lib.hid hb1
  clear hb1
  have hl7 : c.list.length = 7 := rfl
  generalize may c = m at *
  generalize c.list = NL at *
  obtain ⟨k, n⟩ := c
  dsimp only at HM HU
  unfold Cm.cells at *
  dsimp only at HN HB1 ⊢
  by_cases hU : usesOf k = []
  · rw [hU] at HM HU
    clear hU HN
    go_enter Try.func16, Try.ntmps16
    go_wp2_with fail
    refine (HU.out _).mono ?_
    rintro e w1 ⟨rfl, rfl⟩
    go_wp2
    go_ret
    refine ⟨ret_bool ?_, HB1.out⟩
    rw [HM.out]; rfl
  · obtain ⟨q0, q1, q2, q3, q4, q5, q6, e, h7⟩ := uses_seven hU
    rw [e] at HM HU
    have H7 := Lib.hid h7
    clear hU e h7
    go_enter Try.func16, Try.ntmps16
    go_wp2_with fail
    refine (HU.out _).mono ?_
    rintro e w1 ⟨rfl, rfl⟩
    go_wp2_with fail
    refine (HN.out _).mono ?_
    rintro e w1 ⟨v, rfl, ⟨a, ca, rfl, hcells⟩, hb2⟩
    have HC := Lib.hid hcells
    have HB2 := Lib.hid (HB1.out.trans (hb2.mono (by simp)))
    clear hcells hb2 HB1
    rw [hl7]
    have HL7 := Lib.hid hl7
    have HME := Lib.hid (show m = (List.range 7).all fun i => rok ([q0, q1, q2, q3, q4, q5, q6].getD i 0) (NL.getD i 0) i by rw [HM.out]; rfl)
    clear HM hl7
    go_wp2_with fail
    go_loopw [5] (fun i wr => ∃ j : Nat, j ≤ 7 ∧ i = .int .i64 j ∧ (∀ i, i < j → rok ([q0, q1, q2, q3, q4, q5, q6].getD i 0) (NL.getD i 0) i = true) ∧ wr = w1) (fun i _ => 7 - (intOf i).toNat)
    case atStart => exact ⟨0, by omega, rfl, fun i h => absurd h (Nat.not_lt_zero i), rfl⟩
    case round =>
      obtain ⟨j, hj, rfl, hall, rfl⟩ := hrel
      have HA := Lib.hid hall
      clear hall
      by_cases hlt : j < 7
      · obtain ⟨b, o, rfl, hcell⟩ := HC.out (by intro h; have := HL7.out; rw [h] at this; simp at this)
        have hx := hcell j (NL.getD j 0) (by simp [List.getD, HL7.out, hlt])
        clear hcell
        have hu := H7.out j hlt
        have HF := Lib.hid (show ∀ (u : UInt8) (x : Int), [q0, q1, q2, q3, q4, q5, q6].getD j 0 = u → NL.getD j 0 = x → rok u x j = false → m = false by
          intro u x e1 e2 e3
          rw [HME.out, List.all_eq_false]
          exact ⟨j, List.mem_range.2 hlt, by rw [e1, e2, e3]; simp⟩)
        have HG := Lib.hid (show ∀ (u : UInt8) (x : Int), [q0, q1, q2, q3, q4, q5, q6].getD j 0 = u → NL.getD j 0 = x → rok u x j = true → ∀ i, i < j + 1 → rok ([q0, q1, q2, q3, q4, q5, q6].getD i 0) (NL.getD i 0) i = true by
          intro u x e1 e2 e3 i hi
          by_cases h : i = j
          · subst h; rw [e1, e2, e3]
          · exact HA.out i (by omega))
        generalize hxx : NL.getD j 0 = x at *
        have HX := Lib.hid hxx
        clear hxx HA HME HN HU H7
        have hj7 : j = 0 ∨ j = 1 ∨ j = 2 ∨ j = 3 ∨ j = 4 ∨ j = 5 ∨ j = 6 := by omega
        clear hj hlt
        rcases hj7 with rfl | rfl | rfl | rfl | rfl | rfl | rfl
        · simp only [List.getD_cons_zero] at hu HF HG
          rw [Nat.add_zero] at hx
          rcases hu with rfl | rfl
          · have i1 : (⟨#[48, q1, q2, q3, q4, q5, q6]⟩ : ByteArray)[0]'(by show 0 < 7; omega) = 48 := rfl
            have i2 : (⟨#[49, 52, 49, 49, 49, 56, 56]⟩ : ByteArray)[0]'(by decide) = 49 := rfl
            by_cases h0 : x = 0
            · subst h0
              go_wp2
              go_roundw
              case rel => exact ⟨1, by decide, rfl, HG.out _ _ rfl rfl (by decide), by first | rfl | trivial⟩
              case measure => simp [intOf]
            · have h1 : (x != 0) = true := by simpa using h0
              have HZ := Lib.hid h0
              clear h0
              go_wp2
              go_ret
              exact ⟨ret_bool (HF.out _ _ rfl rfl (by have := HZ.out; simp [rok, this])).symm, HB2.out⟩
          · have i1 : (⟨#[49, q1, q2, q3, q4, q5, q6]⟩ : ByteArray)[0]'(by show 0 < 7; omega) = 49 := rfl
            have i2 : (⟨#[49, 52, 49, 49, 49, 56, 56]⟩ : ByteArray)[0]'(by decide) = 49 := rfl
            by_cases h0 : 0 ≤ x
            · by_cases h1 : x ≤ 255
              · go_wp2
                go_roundw
                case rel => exact ⟨1, by decide, rfl, HG.out _ _ rfl rfl (by simp [rok, fits]; omega), by first | rfl | trivial⟩
                case measure => simp [intOf]
              · go_wp2
                go_ret
                exact ⟨ret_bool (HF.out _ _ rfl rfl (by simp [rok, fits]; omega)).symm, HB2.out⟩
            · go_wp2
              go_ret
              exact ⟨ret_bool (HF.out _ _ rfl rfl (by simp [rok, fits]; omega)).symm, HB2.out⟩
        · simp only [List.getD_cons_zero, List.getD_cons_succ] at hu HF HG
          rcases hu with rfl | rfl
          · have i1 : (⟨#[q0, 48, q2, q3, q4, q5, q6]⟩ : ByteArray)[1]'(by show 1 < 7; omega) = 48 := rfl
            have i2 : (⟨#[49, 52, 49, 49, 49, 56, 56]⟩ : ByteArray)[1]'(by decide) = 52 := rfl
            by_cases h0 : x = 0
            · subst h0
              go_wp2
              go_roundw
              case rel => exact ⟨2, by decide, rfl, HG.out _ _ rfl rfl (by decide), by first | rfl | trivial⟩
              case measure => simp [intOf]
            · have h1 : (x != 0) = true := by simpa using h0
              have HZ := Lib.hid h0
              clear h0
              go_wp2
              go_ret
              exact ⟨ret_bool (HF.out _ _ rfl rfl (by have := HZ.out; simp [rok, this])).symm, HB2.out⟩
          · have i1 : (⟨#[q0, 49, q2, q3, q4, q5, q6]⟩ : ByteArray)[1]'(by show 1 < 7; omega) = 49 := rfl
            have i2 : (⟨#[49, 52, 49, 49, 49, 56, 56]⟩ : ByteArray)[1]'(by decide) = 52 := rfl
            by_cases h0 : 0 ≤ x
            · by_cases h1 : x ≤ 2147483647
              · go_wp2
                go_roundw
                case rel => exact ⟨2, by decide, rfl, HG.out _ _ rfl rfl (by simp [rok, fits]; omega), by first | rfl | trivial⟩
                case measure => simp [intOf]
              · go_wp2
                go_ret
                exact ⟨ret_bool (HF.out _ _ rfl rfl (by simp [rok, fits]; omega)).symm, HB2.out⟩
            · go_wp2
              go_ret
              exact ⟨ret_bool (HF.out _ _ rfl rfl (by simp [rok, fits]; omega)).symm, HB2.out⟩
        · simp only [List.getD_cons_zero, List.getD_cons_succ] at hu HF HG
          rcases hu with rfl | rfl
          · have i1 : (⟨#[q0, q1, 48, q3, q4, q5, q6]⟩ : ByteArray)[2]'(by show 2 < 7; omega) = 48 := rfl
            have i2 : (⟨#[49, 52, 49, 49, 49, 56, 56]⟩ : ByteArray)[2]'(by decide) = 49 := rfl
            by_cases h0 : x = 0
            · subst h0
              go_wp2
              go_roundw
              case rel => exact ⟨3, by decide, rfl, HG.out _ _ rfl rfl (by decide), by first | rfl | trivial⟩
              case measure => simp [intOf]
            · have h1 : (x != 0) = true := by simpa using h0
              have HZ := Lib.hid h0
              clear h0
              go_wp2
              go_ret
              exact ⟨ret_bool (HF.out _ _ rfl rfl (by have := HZ.out; simp [rok, this])).symm, HB2.out⟩
          · have i1 : (⟨#[q0, q1, 49, q3, q4, q5, q6]⟩ : ByteArray)[2]'(by show 2 < 7; omega) = 49 := rfl
            have i2 : (⟨#[49, 52, 49, 49, 49, 56, 56]⟩ : ByteArray)[2]'(by decide) = 49 := rfl
            by_cases h0 : 0 ≤ x
            · by_cases h1 : x ≤ 255
              · go_wp2
                go_roundw
                case rel => exact ⟨3, by decide, rfl, HG.out _ _ rfl rfl (by simp [rok, fits]; omega), by first | rfl | trivial⟩
                case measure => simp [intOf]
              · go_wp2
                go_ret
                exact ⟨ret_bool (HF.out _ _ rfl rfl (by simp [rok, fits]; omega)).symm, HB2.out⟩
            · go_wp2
              go_ret
              exact ⟨ret_bool (HF.out _ _ rfl rfl (by simp [rok, fits]; omega)).symm, HB2.out⟩
        · simp only [List.getD_cons_zero, List.getD_cons_succ] at hu HF HG
          rcases hu with rfl | rfl
          · have i1 : (⟨#[q0, q1, q2, 48, q4, q5, q6]⟩ : ByteArray)[3]'(by show 3 < 7; omega) = 48 := rfl
            have i2 : (⟨#[49, 52, 49, 49, 49, 56, 56]⟩ : ByteArray)[3]'(by decide) = 49 := rfl
            by_cases h0 : x = 0
            · subst h0
              go_wp2
              go_roundw
              case rel => exact ⟨4, by decide, rfl, HG.out _ _ rfl rfl (by decide), by first | rfl | trivial⟩
              case measure => simp [intOf]
            · have h1 : (x != 0) = true := by simpa using h0
              have HZ := Lib.hid h0
              clear h0
              go_wp2
              go_ret
              exact ⟨ret_bool (HF.out _ _ rfl rfl (by have := HZ.out; simp [rok, this])).symm, HB2.out⟩
          · have i1 : (⟨#[q0, q1, q2, 49, q4, q5, q6]⟩ : ByteArray)[3]'(by show 3 < 7; omega) = 49 := rfl
            have i2 : (⟨#[49, 52, 49, 49, 49, 56, 56]⟩ : ByteArray)[3]'(by decide) = 49 := rfl
            by_cases h0 : 0 ≤ x
            · by_cases h1 : x ≤ 255
              · go_wp2
                go_roundw
                case rel => exact ⟨4, by decide, rfl, HG.out _ _ rfl rfl (by simp [rok, fits]; omega), by first | rfl | trivial⟩
                case measure => simp [intOf]
              · go_wp2
                go_ret
                exact ⟨ret_bool (HF.out _ _ rfl rfl (by simp [rok, fits]; omega)).symm, HB2.out⟩
            · go_wp2
              go_ret
              exact ⟨ret_bool (HF.out _ _ rfl rfl (by simp [rok, fits]; omega)).symm, HB2.out⟩
        · simp only [List.getD_cons_zero, List.getD_cons_succ] at hu HF HG
          rcases hu with rfl | rfl
          · have i1 : (⟨#[q0, q1, q2, q3, 48, q5, q6]⟩ : ByteArray)[4]'(by show 4 < 7; omega) = 48 := rfl
            have i2 : (⟨#[49, 52, 49, 49, 49, 56, 56]⟩ : ByteArray)[4]'(by decide) = 49 := rfl
            by_cases h0 : x = 0
            · subst h0
              go_wp2
              go_roundw
              case rel => exact ⟨5, by decide, rfl, HG.out _ _ rfl rfl (by decide), by first | rfl | trivial⟩
              case measure => simp [intOf]
            · have h1 : (x != 0) = true := by simpa using h0
              have HZ := Lib.hid h0
              clear h0
              go_wp2
              go_ret
              exact ⟨ret_bool (HF.out _ _ rfl rfl (by have := HZ.out; simp [rok, this])).symm, HB2.out⟩
          · have i1 : (⟨#[q0, q1, q2, q3, 49, q5, q6]⟩ : ByteArray)[4]'(by show 4 < 7; omega) = 49 := rfl
            have i2 : (⟨#[49, 52, 49, 49, 49, 56, 56]⟩ : ByteArray)[4]'(by decide) = 49 := rfl
            by_cases h0 : 0 ≤ x
            · by_cases h1 : x ≤ 255
              · go_wp2
                go_roundw
                case rel => exact ⟨5, by decide, rfl, HG.out _ _ rfl rfl (by simp [rok, fits]; omega), by first | rfl | trivial⟩
                case measure => simp [intOf]
              · go_wp2
                go_ret
                exact ⟨ret_bool (HF.out _ _ rfl rfl (by simp [rok, fits]; omega)).symm, HB2.out⟩
            · go_wp2
              go_ret
              exact ⟨ret_bool (HF.out _ _ rfl rfl (by simp [rok, fits]; omega)).symm, HB2.out⟩
        · simp only [List.getD_cons_zero, List.getD_cons_succ] at hu HF HG
          rcases hu with rfl | rfl
          · have i1 : (⟨#[q0, q1, q2, q3, q4, 48, q6]⟩ : ByteArray)[5]'(by show 5 < 7; omega) = 48 := rfl
            have i2 : (⟨#[49, 52, 49, 49, 49, 56, 56]⟩ : ByteArray)[5]'(by decide) = 56 := rfl
            by_cases h0 : x = 0
            · subst h0
              go_wp2
              go_roundw
              case rel => exact ⟨6, by decide, rfl, HG.out _ _ rfl rfl (by decide), by first | rfl | trivial⟩
              case measure => simp [intOf]
            · have h1 : (x != 0) = true := by simpa using h0
              have HZ := Lib.hid h0
              clear h0
              go_wp2
              go_ret
              exact ⟨ret_bool (HF.out _ _ rfl rfl (by have := HZ.out; simp [rok, this])).symm, HB2.out⟩
          · have i1 : (⟨#[q0, q1, q2, q3, q4, 49, q6]⟩ : ByteArray)[5]'(by show 5 < 7; omega) = 49 := rfl
            have i2 : (⟨#[49, 52, 49, 49, 49, 56, 56]⟩ : ByteArray)[5]'(by decide) = 56 := rfl
            go_wp2
            go_roundw
            case rel => exact ⟨6, by decide, rfl, HG.out _ _ rfl rfl (by simp [rok]), by first | rfl | trivial⟩
            case measure => simp [intOf]
        · simp only [List.getD_cons_zero, List.getD_cons_succ] at hu HF HG
          rcases hu with rfl | rfl
          · have i1 : (⟨#[q0, q1, q2, q3, q4, q5, 48]⟩ : ByteArray)[6]'(by show 6 < 7; omega) = 48 := rfl
            have i2 : (⟨#[49, 52, 49, 49, 49, 56, 56]⟩ : ByteArray)[6]'(by decide) = 56 := rfl
            by_cases h0 : x = 0
            · subst h0
              go_wp2
              go_roundw
              case rel => exact ⟨7, by decide, rfl, HG.out _ _ rfl rfl (by decide), by first | rfl | trivial⟩
              case measure => simp [intOf]
            · have h1 : (x != 0) = true := by simpa using h0
              have HZ := Lib.hid h0
              clear h0
              go_wp2
              go_ret
              exact ⟨ret_bool (HF.out _ _ rfl rfl (by have := HZ.out; simp [rok, this])).symm, HB2.out⟩
          · have i1 : (⟨#[q0, q1, q2, q3, q4, q5, 49]⟩ : ByteArray)[6]'(by show 6 < 7; omega) = 49 := rfl
            have i2 : (⟨#[49, 52, 49, 49, 49, 56, 56]⟩ : ByteArray)[6]'(by decide) = 56 := rfl
            go_wp2
            go_roundw
            case rel => exact ⟨7, by decide, rfl, HG.out _ _ rfl rfl (by simp [rok]), by first | rfl | trivial⟩
            case measure => simp [intOf]
      · obtain rfl : j = 7 := by omega
        go_wp2
        go_ret
        refine ⟨ret_bool ?_, HB2.out⟩
        rw [HME.out]
        refine (List.all_eq_true.2 fun i hi => HA.out i (List.mem_range.1 hi)).symm
end Go.Proofs.Ytdpllkmbnphdgaa
