/- Wire: the document's Put. -/
import Derived.Test.YtdpllkmbnphdgaaWireJ
import Derived.Test.YtdpllkmbnphdgaaWireK
import Derived.Deep.RegionHeld3
namespace Go.Proofs.Ytdpllkmbnphdgaa
open Go.RowKit

/-- a number as 64 bits. -/
def u64 (n : Int) : Nat := (n % 18446744073709551616).toNat
theorem byte_eq (n : Int) (k : Nat) (hk : k < 8) : (n / 2 ^ (8 * k) % 256).toNat = u64 n / 256 ^ k % 256 := by
  unfold u64
  obtain rfl | rfl | rfl | rfl | rfl | rfl | rfl | rfl : k = 0 ∨ k = 1 ∨ k = 2 ∨ k = 3 ∨ k = 4 ∨ k = 5 ∨ k = 6 ∨ k = 7 := by omega
  all_goals
    simp only [Nat.reduceMul, Int.reducePow, Nat.reducePow]
    omega
theorem be_nbe (n : Int) : ∀ k, k ≤ 8 → be n k = nbe (u64 n) k
  | 0, _ => rfl
  | k + 1, h => by
    simp only [be, nbe]
    rw [be_nbe n k (by omega), byte_eq n k (by omega)]
def by7 (i : Nat) : Nat := if i = 1 then 4 else if 4 < i then 8 else 1
/-- the document's bytes of the numbers before a place. -/
def rl (U : List UInt8) (NL : List Int) (j : Nat) : List UInt8 := (List.range j).flatMap fun i => if U.getD i 0 = 49 then nbe (u64 (NL.getD i 0)) (by7 i) else []
theorem rl_succ (U : List UInt8) (NL : List Int) (j : Nat) : rl U NL (j + 1) = rl U NL j ++ (if U.getD j 0 = 49 then nbe (u64 (NL.getD j 0)) (by7 j) else []) := by
  unfold rl
  rw [List.range_succ, List.flatMap_append]
  simp
theorem rl_all (c : Cm) : rl (usesOf c.k) c.list 7 = layAll c.n (specs c.k) := by
  obtain ⟨k, n⟩ := c
  refine kinds (fun S U => rl U (Cm.list ⟨k, n⟩) 7 = layAll n S) ?_ ?_ ?_ ?_ ?_ ?_ ?_ ?_ k
  all_goals
    simp [rl, layAll, List.range, List.range.loop, Cm.list, by7, be_nbe]
theorem rl_len (U : List UInt8) (NL : List Int) : ∀ j, (rl U NL j).length ≤ 8 * j
  | 0 => by simp [rl]
  | j + 1 => by
    rw [rl_succ, List.length_append]
    have := rl_len U NL j
    split
    · rw [nbe_len]; unfold by7; split; · omega
      split <;> omega
    · simp; omega
set_option maxRecDepth 100000 in
set_option maxHeartbeats 8000000 in
theorem rput_any (c : Cm) (w : World) :
    Calls Try.prog 11 #[.agg c.cells] w fun e w' => e = .returned (putV c) ∧ Below w.heap.size w w' := by
  have hb1 := (Below.refl w.heap.size w).alloc (Nat.le_refl _) (.cells c.cells 29 (0, 0))
  have hn := heap_alloc_new w (.cells c.cells 29 (0, 0))
  have HN0 := Lib.hid hn
  have HMAY := Lib.hid (rmay_any c)
  have HU := Lib.hid (uses_any c.k)
  have HN := Lib.hid (numbers_any c)
  have HB1 := Lib.hid hb1
  have HPV := Lib.hid (show putV c = if may c then .tuple #[.string ⟨(kb c.k :: rl (usesOf c.k) c.list 7).toArray⟩, .int .i64 0] else .tuple #[.string ⟨#[]⟩, .int .i64 2] by rw [rl_all]; rfl)
  have hU : may c = true → usesOf c.k ≠ [] := by intro h; rw [may_ref] at h; simp at h; simpa using h.1
  generalize putV c = pv at *
  generalize may c = m at *
  have HUS := Lib.hid hU
  clear hU hb1 hn
  have hl7 : c.list.length = 7 := rfl
  have hcells : c.cells = #[.int .i64 c.k, .int .i64 (c.n 1), .int .i64 (c.n 2), .int .i64 (c.n 3), .int .i64 (c.n 4), .int .i64 (c.n 5), .int .i64 (c.n 6), .int .i64 (c.n 7)] := rfl
  generalize c.list = NL at *
  rw [hcells] at HN0 HB1 HMAY HN ⊢
  clear hcells
  go_enter Try.func11, Try.ntmps11
  go_wp2_with fail
  refine (HMAY.out _).mono ?_
  rintro e w1 ⟨rfl, hb2⟩
  have hk := (cell_of_row _ _ 0 _ _ _ (show w1.heap[w.heap.size]? = _ from by rw [hb2.block _ (by simp)]; exact HN0.out)).trans rfl
  have h1 := (cell_of_row _ _ 1 _ _ _ (show w1.heap[w.heap.size]? = _ from by rw [hb2.block _ (by simp)]; exact HN0.out)).trans rfl
  have h2 := (cell_of_row _ _ 2 _ _ _ (show w1.heap[w.heap.size]? = _ from by rw [hb2.block _ (by simp)]; exact HN0.out)).trans rfl
  have h3 := (cell_of_row _ _ 3 _ _ _ (show w1.heap[w.heap.size]? = _ from by rw [hb2.block _ (by simp)]; exact HN0.out)).trans rfl
  have h4 := (cell_of_row _ _ 4 _ _ _ (show w1.heap[w.heap.size]? = _ from by rw [hb2.block _ (by simp)]; exact HN0.out)).trans rfl
  have h5 := (cell_of_row _ _ 5 _ _ _ (show w1.heap[w.heap.size]? = _ from by rw [hb2.block _ (by simp)]; exact HN0.out)).trans rfl
  have h6 := (cell_of_row _ _ 6 _ _ _ (show w1.heap[w.heap.size]? = _ from by rw [hb2.block _ (by simp)]; exact HN0.out)).trans rfl
  have h7 := (cell_of_row _ _ 7 _ _ _ (show w1.heap[w.heap.size]? = _ from by rw [hb2.block _ (by simp)]; exact HN0.out)).trans rfl
  have HB2 := Lib.hid (HB1.out.trans (hb2.mono (by simp)))
  clear HN0 HB1 hb2 HMAY
  cases m
  · go_wp2
    go_ret2
    exact ⟨by rw [HPV.out]; rfl, HB2.out⟩
  · obtain ⟨q0, q1, q2, q3, q4, q5, q6, e, H7⟩ := uses_seven (HUS.out rfl)
    rw [e] at HPV HU
    clear e HUS
    have H7' := Lib.hid H7
    clear H7
    have hcv := conv1 w1 (kb c.k)
    have hkb : Value.int .u8 (c.k % 256) = .int .u8 ((kb c.k).toNat : Nat) := byte_val _
    have HKB := Lib.hid hkb
    rw [show ((kb c.k).toNat : Int) = c.k % 256 by simp [kb]; omega] at hcv
    clear hkb
    have HBA := Lib.hid (show Below w1.heap.size w1 (w1.alloc (.cells #[.int .u8 (c.k % 256)] 5 (0, 0))) from (Below.refl w1.heap.size w1).alloc (Nat.le_refl _) _)
    have g0 := kept_cell HBA.out hk
    have g1 := kept_cell HBA.out h1
    have g2 := kept_cell HBA.out h2
    have g3 := kept_cell HBA.out h3
    have g4 := kept_cell HBA.out h4
    have g5 := kept_cell HBA.out h5
    have g6 := kept_cell HBA.out h6
    have g7 := kept_cell HBA.out h7
    go_wp2_with fail
    clear hk h1 h2 h3 h4 h5 h6 h7 hcv
    have HB3 := Lib.hid (HB2.out.trans (HBA.out.mono HB2.out.size))
    clear HB2 HBA
    generalize w1.alloc (.cells #[.int .u8 (c.k % 256)] 5 (0, 0)) = w2 at *
    generalize w1.heap.size = z1 at *
    refine (HU.out _).mono ?_
    rintro e w3 ⟨rfl, rfl⟩
    go_wp2_with fail
    refine (HN.out _).mono ?_
    rintro e w4 ⟨v, rfl, ⟨a, ca, rfl, hcells⟩, hb4⟩
    have HC := Lib.hid hcells
    have HB4 := Lib.hid (HB3.out.trans (hb4.mono HB3.out.size))
    clear hcells hb4 HB3 g0 g1 g2 g3 g4 g5 g6 g7 HN HU
    rw [hl7]
    have HL7 := Lib.hid hl7
    clear hl7
    go_wp2_with fail
    go_loopw [4, 7] (fun s i wr => ∃ (j : Nat) (S : List UInt8), j ≤ 7 ∧ i = .int .i64 j ∧ kb c.k :: rl [q0, q1, q2, q3, q4, q5, q6] NL j = S ∧ s = .string ⟨S.toArray⟩ ∧ Below w.heap.size w wr ∧ Below w4.heap.size w4 wr) (fun _ i _ => 7 - (intOf i).toNat)
    case atStart => exact ⟨0, _, by omega, rfl, rfl, rfl, HB4.out, Below.refl _ _⟩
    case round =>
      obtain ⟨j, S, hj, rfl, hS, rfl, hbw, hb4⟩ := hrel
      have HS := Lib.hid hS
      have HBW := Lib.hid hbw
      have hSl : S.length ≤ 64 := by have := rl_len [q0, q1, q2, q3, q4, q5, q6] NL j; rw [← hS]; simp; omega
      have HB4' := Lib.hid hb4
      clear hS hbw HB4
      by_cases hlt : j < 7
      · obtain ⟨b, o, rfl, hcell⟩ := HC.out (by intro h; have := HL7.out; rw [h] at this; simp at this)
        have hx := kept_cell hb4 (hcell j (NL.getD j 0) (by simp [List.getD, HL7.out, hlt]))
        clear hcell hb4
        have hu := H7'.out j hlt
        have HR := Lib.hid (rl_succ [q0, q1, q2, q3, q4, q5, q6] NL j)
        generalize hxx : NL.getD j 0 = x at *
        have HLAY := Lib.hid (rlay_any (u64 x) (by unfold u64; omega))
        have hux : IntKind.u64.wrap x = (u64 x : Nat) := by rw [IntKind.wrap_u64]; unfold u64; omega
        have HUX := Lib.hid hux
        clear hux
        have HX := Lib.hid hxx
        clear hxx H7' HC
        have hj7 : j = 0 ∨ j = 1 ∨ j = 2 ∨ j = 3 ∨ j = 4 ∨ j = 5 ∨ j = 6 := by omega
        clear hj hlt
        rcases hj7 with rfl | rfl | rfl | rfl | rfl | rfl | rfl
        · simp only [List.getD_cons_zero] at hu HR
          rw [Nat.add_zero] at hx
          rcases hu with rfl | rfl
          · have i1 : (⟨#[48, q1, q2, q3, q4, q5, q6]⟩ : ByteArray)[0]'(by show 0 < 7; omega) = 48 := rfl
            go_wp2
            go_roundw
            case rel => exact ⟨1, S, by decide, rfl, by rw [HR.out, ← HS.out]; simp, rfl, HBW.out, HB4'.out⟩
            case measure => simp [intOf]
          · have i1 : (⟨#[49, q1, q2, q3, q4, q5, q6]⟩ : ByteArray)[0]'(by show 0 < 7; omega) = 49 := rfl
            have i2 : (⟨#[49, 52, 49, 49, 49, 56, 56]⟩ : ByteArray)[0]'(by decide) = 49 := rfl
            have hcat := cat_run S (nbe (u64 x) 1) (by rw [nbe_len]; omega)
            have HLS := Lib.hid (show ∀ wx, (wx.cell? ⟨b, o, none⟩ = some (.int .i64 x) ∧ Below w.heap.size w wx ∧ Below w4.heap.size w4 wx) → Calls Try.prog 31 #[.int .u64 (IntKind.u64.wrap x), .int .i64 1] wx fun e wy => e = .returned (.string ⟨(nbe (u64 x) 1).toArray⟩) ∧ (wy.cell? ⟨b, o, none⟩ = some (.int .i64 x) ∧ Below w.heap.size w wy ∧ Below w4.heap.size w4 wy) from fun wx h => by
              rw [HUX.out]; exact (HLAY.out 1 (by decide) wx).mono fun e wy ⟨e1, hb⟩ => ⟨e1, kept_cell hb h.1, h.2.1.trans (hb.mono h.2.1.size), h.2.2.trans (hb.mono h.2.2.size)⟩)
            go_upto_region 10 with (fail)
            go_region_held3 (fun wx => wx.cell? ⟨b, o, none⟩ = some (.int .i64 x) ∧ Below w.heap.size w wx ∧ Below w4.heap.size w4 wx) (first | assumption | exact ⟨hx, HBW.out.drew, HB4'.out.drew⟩)
              (first | (go_at_call 31; refine (HLS.out _ (by assumption)).mono ?_; rintro e w5 ⟨rfl, hb5⟩))
            have HB5 := Lib.hid hb5
            clear hb5 hx
            go_wp2
            go_roundw
            case rel => exact ⟨1, _, by decide, rfl, rfl, by rw [HR.out, ← HS.out]; rfl, HB5.out.2.1, HB5.out.2.2⟩
            case measure => simp [intOf]
        · simp only [List.getD_cons_zero, List.getD_cons_succ] at hu HR
          rcases hu with rfl | rfl
          · have i1 : (⟨#[q0, 48, q2, q3, q4, q5, q6]⟩ : ByteArray)[1]'(by show 1 < 7; omega) = 48 := rfl
            go_wp2
            go_roundw
            case rel => exact ⟨2, S, by decide, rfl, by rw [HR.out, ← HS.out]; simp, rfl, HBW.out, HB4'.out⟩
            case measure => simp [intOf]
          · have i1 : (⟨#[q0, 49, q2, q3, q4, q5, q6]⟩ : ByteArray)[1]'(by show 1 < 7; omega) = 49 := rfl
            have i2 : (⟨#[49, 52, 49, 49, 49, 56, 56]⟩ : ByteArray)[1]'(by decide) = 52 := rfl
            have hcat := cat_run S (nbe (u64 x) 4) (by rw [nbe_len]; omega)
            have HLS := Lib.hid (show ∀ wx, (wx.cell? ⟨b, o + 1, none⟩ = some (.int .i64 x) ∧ Below w.heap.size w wx ∧ Below w4.heap.size w4 wx) → Calls Try.prog 31 #[.int .u64 (IntKind.u64.wrap x), .int .i64 4] wx fun e wy => e = .returned (.string ⟨(nbe (u64 x) 4).toArray⟩) ∧ (wy.cell? ⟨b, o + 1, none⟩ = some (.int .i64 x) ∧ Below w.heap.size w wy ∧ Below w4.heap.size w4 wy) from fun wx h => by
              rw [HUX.out]; exact (HLAY.out 4 (by decide) wx).mono fun e wy ⟨e1, hb⟩ => ⟨e1, kept_cell hb h.1, h.2.1.trans (hb.mono h.2.1.size), h.2.2.trans (hb.mono h.2.2.size)⟩)
            go_upto_region 10 with (fail)
            go_region_held3 (fun wx => wx.cell? ⟨b, o + 1, none⟩ = some (.int .i64 x) ∧ Below w.heap.size w wx ∧ Below w4.heap.size w4 wx) (first | assumption | exact ⟨hx, HBW.out.drew, HB4'.out.drew⟩)
              (first | (go_at_call 31; refine (HLS.out _ (by assumption)).mono ?_; rintro e w5 ⟨rfl, hb5⟩))
            have HB5 := Lib.hid hb5
            clear hb5 hx
            go_wp2
            go_roundw
            case rel => exact ⟨2, _, by decide, rfl, rfl, by rw [HR.out, ← HS.out]; rfl, HB5.out.2.1, HB5.out.2.2⟩
            case measure => simp [intOf]
        · simp only [List.getD_cons_zero, List.getD_cons_succ] at hu HR
          rcases hu with rfl | rfl
          · have i1 : (⟨#[q0, q1, 48, q3, q4, q5, q6]⟩ : ByteArray)[2]'(by show 2 < 7; omega) = 48 := rfl
            go_wp2
            go_roundw
            case rel => exact ⟨3, S, by decide, rfl, by rw [HR.out, ← HS.out]; simp, rfl, HBW.out, HB4'.out⟩
            case measure => simp [intOf]
          · have i1 : (⟨#[q0, q1, 49, q3, q4, q5, q6]⟩ : ByteArray)[2]'(by show 2 < 7; omega) = 49 := rfl
            have i2 : (⟨#[49, 52, 49, 49, 49, 56, 56]⟩ : ByteArray)[2]'(by decide) = 49 := rfl
            have hcat := cat_run S (nbe (u64 x) 1) (by rw [nbe_len]; omega)
            have HLS := Lib.hid (show ∀ wx, (wx.cell? ⟨b, o + 2, none⟩ = some (.int .i64 x) ∧ Below w.heap.size w wx ∧ Below w4.heap.size w4 wx) → Calls Try.prog 31 #[.int .u64 (IntKind.u64.wrap x), .int .i64 1] wx fun e wy => e = .returned (.string ⟨(nbe (u64 x) 1).toArray⟩) ∧ (wy.cell? ⟨b, o + 2, none⟩ = some (.int .i64 x) ∧ Below w.heap.size w wy ∧ Below w4.heap.size w4 wy) from fun wx h => by
              rw [HUX.out]; exact (HLAY.out 1 (by decide) wx).mono fun e wy ⟨e1, hb⟩ => ⟨e1, kept_cell hb h.1, h.2.1.trans (hb.mono h.2.1.size), h.2.2.trans (hb.mono h.2.2.size)⟩)
            go_upto_region 10 with (fail)
            go_region_held3 (fun wx => wx.cell? ⟨b, o + 2, none⟩ = some (.int .i64 x) ∧ Below w.heap.size w wx ∧ Below w4.heap.size w4 wx) (first | assumption | exact ⟨hx, HBW.out.drew, HB4'.out.drew⟩)
              (first | (go_at_call 31; refine (HLS.out _ (by assumption)).mono ?_; rintro e w5 ⟨rfl, hb5⟩))
            have HB5 := Lib.hid hb5
            clear hb5 hx
            go_wp2
            go_roundw
            case rel => exact ⟨3, _, by decide, rfl, rfl, by rw [HR.out, ← HS.out]; rfl, HB5.out.2.1, HB5.out.2.2⟩
            case measure => simp [intOf]
        · simp only [List.getD_cons_zero, List.getD_cons_succ] at hu HR
          rcases hu with rfl | rfl
          · have i1 : (⟨#[q0, q1, q2, 48, q4, q5, q6]⟩ : ByteArray)[3]'(by show 3 < 7; omega) = 48 := rfl
            go_wp2
            go_roundw
            case rel => exact ⟨4, S, by decide, rfl, by rw [HR.out, ← HS.out]; simp, rfl, HBW.out, HB4'.out⟩
            case measure => simp [intOf]
          · have i1 : (⟨#[q0, q1, q2, 49, q4, q5, q6]⟩ : ByteArray)[3]'(by show 3 < 7; omega) = 49 := rfl
            have i2 : (⟨#[49, 52, 49, 49, 49, 56, 56]⟩ : ByteArray)[3]'(by decide) = 49 := rfl
            have hcat := cat_run S (nbe (u64 x) 1) (by rw [nbe_len]; omega)
            have HLS := Lib.hid (show ∀ wx, (wx.cell? ⟨b, o + 3, none⟩ = some (.int .i64 x) ∧ Below w.heap.size w wx ∧ Below w4.heap.size w4 wx) → Calls Try.prog 31 #[.int .u64 (IntKind.u64.wrap x), .int .i64 1] wx fun e wy => e = .returned (.string ⟨(nbe (u64 x) 1).toArray⟩) ∧ (wy.cell? ⟨b, o + 3, none⟩ = some (.int .i64 x) ∧ Below w.heap.size w wy ∧ Below w4.heap.size w4 wy) from fun wx h => by
              rw [HUX.out]; exact (HLAY.out 1 (by decide) wx).mono fun e wy ⟨e1, hb⟩ => ⟨e1, kept_cell hb h.1, h.2.1.trans (hb.mono h.2.1.size), h.2.2.trans (hb.mono h.2.2.size)⟩)
            go_upto_region 10 with (fail)
            go_region_held3 (fun wx => wx.cell? ⟨b, o + 3, none⟩ = some (.int .i64 x) ∧ Below w.heap.size w wx ∧ Below w4.heap.size w4 wx) (first | assumption | exact ⟨hx, HBW.out.drew, HB4'.out.drew⟩)
              (first | (go_at_call 31; refine (HLS.out _ (by assumption)).mono ?_; rintro e w5 ⟨rfl, hb5⟩))
            have HB5 := Lib.hid hb5
            clear hb5 hx
            go_wp2
            go_roundw
            case rel => exact ⟨4, _, by decide, rfl, rfl, by rw [HR.out, ← HS.out]; rfl, HB5.out.2.1, HB5.out.2.2⟩
            case measure => simp [intOf]
        · simp only [List.getD_cons_zero, List.getD_cons_succ] at hu HR
          rcases hu with rfl | rfl
          · have i1 : (⟨#[q0, q1, q2, q3, 48, q5, q6]⟩ : ByteArray)[4]'(by show 4 < 7; omega) = 48 := rfl
            go_wp2
            go_roundw
            case rel => exact ⟨5, S, by decide, rfl, by rw [HR.out, ← HS.out]; simp, rfl, HBW.out, HB4'.out⟩
            case measure => simp [intOf]
          · have i1 : (⟨#[q0, q1, q2, q3, 49, q5, q6]⟩ : ByteArray)[4]'(by show 4 < 7; omega) = 49 := rfl
            have i2 : (⟨#[49, 52, 49, 49, 49, 56, 56]⟩ : ByteArray)[4]'(by decide) = 49 := rfl
            have hcat := cat_run S (nbe (u64 x) 1) (by rw [nbe_len]; omega)
            have HLS := Lib.hid (show ∀ wx, (wx.cell? ⟨b, o + 4, none⟩ = some (.int .i64 x) ∧ Below w.heap.size w wx ∧ Below w4.heap.size w4 wx) → Calls Try.prog 31 #[.int .u64 (IntKind.u64.wrap x), .int .i64 1] wx fun e wy => e = .returned (.string ⟨(nbe (u64 x) 1).toArray⟩) ∧ (wy.cell? ⟨b, o + 4, none⟩ = some (.int .i64 x) ∧ Below w.heap.size w wy ∧ Below w4.heap.size w4 wy) from fun wx h => by
              rw [HUX.out]; exact (HLAY.out 1 (by decide) wx).mono fun e wy ⟨e1, hb⟩ => ⟨e1, kept_cell hb h.1, h.2.1.trans (hb.mono h.2.1.size), h.2.2.trans (hb.mono h.2.2.size)⟩)
            go_upto_region 10 with (fail)
            go_region_held3 (fun wx => wx.cell? ⟨b, o + 4, none⟩ = some (.int .i64 x) ∧ Below w.heap.size w wx ∧ Below w4.heap.size w4 wx) (first | assumption | exact ⟨hx, HBW.out.drew, HB4'.out.drew⟩)
              (first | (go_at_call 31; refine (HLS.out _ (by assumption)).mono ?_; rintro e w5 ⟨rfl, hb5⟩))
            have HB5 := Lib.hid hb5
            clear hb5 hx
            go_wp2
            go_roundw
            case rel => exact ⟨5, _, by decide, rfl, rfl, by rw [HR.out, ← HS.out]; rfl, HB5.out.2.1, HB5.out.2.2⟩
            case measure => simp [intOf]
        · simp only [List.getD_cons_zero, List.getD_cons_succ] at hu HR
          rcases hu with rfl | rfl
          · have i1 : (⟨#[q0, q1, q2, q3, q4, 48, q6]⟩ : ByteArray)[5]'(by show 5 < 7; omega) = 48 := rfl
            go_wp2
            go_roundw
            case rel => exact ⟨6, S, by decide, rfl, by rw [HR.out, ← HS.out]; simp, rfl, HBW.out, HB4'.out⟩
            case measure => simp [intOf]
          · have i1 : (⟨#[q0, q1, q2, q3, q4, 49, q6]⟩ : ByteArray)[5]'(by show 5 < 7; omega) = 49 := rfl
            have i2 : (⟨#[49, 52, 49, 49, 49, 56, 56]⟩ : ByteArray)[5]'(by decide) = 56 := rfl
            have hcat := cat_run S (nbe (u64 x) 8) (by rw [nbe_len]; omega)
            have HLS := Lib.hid (show ∀ wx, (wx.cell? ⟨b, o + 5, none⟩ = some (.int .i64 x) ∧ Below w.heap.size w wx ∧ Below w4.heap.size w4 wx) → Calls Try.prog 31 #[.int .u64 (IntKind.u64.wrap x), .int .i64 8] wx fun e wy => e = .returned (.string ⟨(nbe (u64 x) 8).toArray⟩) ∧ (wy.cell? ⟨b, o + 5, none⟩ = some (.int .i64 x) ∧ Below w.heap.size w wy ∧ Below w4.heap.size w4 wy) from fun wx h => by
              rw [HUX.out]; exact (HLAY.out 8 (by decide) wx).mono fun e wy ⟨e1, hb⟩ => ⟨e1, kept_cell hb h.1, h.2.1.trans (hb.mono h.2.1.size), h.2.2.trans (hb.mono h.2.2.size)⟩)
            go_upto_region 10 with (fail)
            go_region_held3 (fun wx => wx.cell? ⟨b, o + 5, none⟩ = some (.int .i64 x) ∧ Below w.heap.size w wx ∧ Below w4.heap.size w4 wx) (first | assumption | exact ⟨hx, HBW.out.drew, HB4'.out.drew⟩)
              (first | (go_at_call 31; refine (HLS.out _ (by assumption)).mono ?_; rintro e w5 ⟨rfl, hb5⟩))
            have HB5 := Lib.hid hb5
            clear hb5 hx
            go_wp2
            go_roundw
            case rel => exact ⟨6, _, by decide, rfl, rfl, by rw [HR.out, ← HS.out]; rfl, HB5.out.2.1, HB5.out.2.2⟩
            case measure => simp [intOf]
        · simp only [List.getD_cons_zero, List.getD_cons_succ] at hu HR
          rcases hu with rfl | rfl
          · have i1 : (⟨#[q0, q1, q2, q3, q4, q5, 48]⟩ : ByteArray)[6]'(by show 6 < 7; omega) = 48 := rfl
            go_wp2
            go_roundw
            case rel => exact ⟨7, S, by decide, rfl, by rw [HR.out, ← HS.out]; simp, rfl, HBW.out, HB4'.out⟩
            case measure => simp [intOf]
          · have i1 : (⟨#[q0, q1, q2, q3, q4, q5, 49]⟩ : ByteArray)[6]'(by show 6 < 7; omega) = 49 := rfl
            have i2 : (⟨#[49, 52, 49, 49, 49, 56, 56]⟩ : ByteArray)[6]'(by decide) = 56 := rfl
            have hcat := cat_run S (nbe (u64 x) 8) (by rw [nbe_len]; omega)
            have HLS := Lib.hid (show ∀ wx, (wx.cell? ⟨b, o + 6, none⟩ = some (.int .i64 x) ∧ Below w.heap.size w wx ∧ Below w4.heap.size w4 wx) → Calls Try.prog 31 #[.int .u64 (IntKind.u64.wrap x), .int .i64 8] wx fun e wy => e = .returned (.string ⟨(nbe (u64 x) 8).toArray⟩) ∧ (wy.cell? ⟨b, o + 6, none⟩ = some (.int .i64 x) ∧ Below w.heap.size w wy ∧ Below w4.heap.size w4 wy) from fun wx h => by
              rw [HUX.out]; exact (HLAY.out 8 (by decide) wx).mono fun e wy ⟨e1, hb⟩ => ⟨e1, kept_cell hb h.1, h.2.1.trans (hb.mono h.2.1.size), h.2.2.trans (hb.mono h.2.2.size)⟩)
            go_upto_region 10 with (fail)
            go_region_held3 (fun wx => wx.cell? ⟨b, o + 6, none⟩ = some (.int .i64 x) ∧ Below w.heap.size w wx ∧ Below w4.heap.size w4 wx) (first | assumption | exact ⟨hx, HBW.out.drew, HB4'.out.drew⟩)
              (first | (go_at_call 31; refine (HLS.out _ (by assumption)).mono ?_; rintro e w5 ⟨rfl, hb5⟩))
            have HB5 := Lib.hid hb5
            clear hb5 hx
            go_wp2
            go_roundw
            case rel => exact ⟨7, _, by decide, rfl, rfl, by rw [HR.out, ← HS.out]; rfl, HB5.out.2.1, HB5.out.2.2⟩
            case measure => simp [intOf]
      · obtain rfl : j = 7 := by omega
        clear hb4
        go_wp2
        go_ret2
        exact ⟨by rw [HPV.out, HS.out]; rfl, HBW.out⟩
end Go.Proofs.Ytdpllkmbnphdgaa
