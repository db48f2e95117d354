/- Walks of the document's disk: Append, Sync, Cut, Move. -/
import Derived.Test.YtdphnhgogokidaaDiskG
namespace Go.Proofs.Ytdphnhgogokidaa
open Go.RowKit

set_option maxRecDepth 100000 in
set_option maxHeartbeats 1000000 in
theorem ref_append (g : Nat) (d : Dk) (ho : d.Ok) (i : Int) (b : List UInt8) (hbl : b.length ≤ 140737488355328) (w : World) (h : RefAt w g d) :
    Calls Try.prog 47 #[.pointer (some ⟨g, 0, none⟩), .int .i64 i, .string ⟨b.toArray⟩] w fun e w' => e = .returned (.int .i64 (d.append i b).code) ∧ RefAt w' g (d.append i b).dk ∧ Only g w w' := by
  by_cases hi : hasB i = true
  · have e : d.append i b = d.step (·.app i.toNat b) := if_pos hi
    rw [e]
    obtain ⟨k, hk, rfl⟩ := hasB_nat hi
    have HN := Lib.hid (no_q k true hi)
    by_cases hp : d.fuse = 0 ∨ d.down = true
    · have e : d.step (·.app (k : Int).toNat b) = ⟨9, { d with down := true }⟩ := if_pos hp
      rw [e]
      have HB := Lib.hid (burn_no g d w h hp)
      clear hi e h ho hp
      go_enter Try.func47, Try.ntmps47
      go_wp2_with (first
        | (go_at_call 85; refine (HN.out _).mono ?_; rintro e w1 ⟨rfl, rfl⟩)
        | (go_at_call 86; refine HB.out.mono ?_; rintro e w1 ⟨rfl, hd1, ho1⟩))
      go_ret
      exact ⟨rfl, hd1, ho1⟩
    · have hk2 := burnt_ok ho (fun h => hp (.inl h))
      have hl := burnt_left d
      have hlen := hk2.len hk
      have e : d.step (·.app (k : Int).toNat b) = d.burnt.app k b := if_neg hp
      rw [e]
      have HB := Lib.hid (burn_yes g d w h ho hp)
      have hcat := cat_run (d.burnt.b k) b (by omega)
      have hr0 := hk2.left
      have hr1 : d.burnt.left ≤ 16777216 := by have := hk2.room1; unfold Dk.left; omega
      clear hi e h ho hp hl
      generalize d.burnt = c at *
      have HL := Lib.hid (fun w1 h1 => ref_left g c w1 h1 hk2)
      have hk4 : (k : Int) < 4 := by omega
      clear hk2
      generalize hLL : c.left = L at *
      have HE := Lib.hid hLL
      clear hLL
      by_cases hlt : L < (b.length : Int)
      · have HQ := Lib.hid (show c.app k b = ⟨4, c⟩ from if_pos (by rw [HE.out]; exact hlt))
        go_enter Try.func47, Try.ntmps47
        go_wp2_with (first
          | (go_at_call 85; refine (HN.out _).mono ?_; rintro e w1 ⟨rfl, rfl⟩)
          | (go_at_call 86; refine HB.out.mono ?_; rintro e w1 ⟨rfl, hd1, ho1⟩; replace hd1 := Lib.hid hd1)
          | (go_at_call 20; refine (HL.out _ hd1.out).mono ?_; rintro e w2 ⟨rfl, nq, rfl⟩))
        go_ret
        rw [HQ.out]
        exact ⟨rfl, hd1.out, ho1.drewN _⟩
      · have HQ := Lib.hid (show c.app k b = ⟨0, { c with b := upd c.b k (c.b k ++ b) }⟩ from if_neg (by rw [HE.out]; exact hlt))
        go_enter Try.func47, Try.ntmps47
        go_upto_region 7 with (first
          | (go_at_call 85; refine (HN.out _).mono ?_; rintro e w1 ⟨rfl, rfl⟩)
          | (go_at_call 86; refine HB.out.mono ?_; rintro e w1 ⟨rfl, hd1, ho1⟩; replace hd1 := Lib.hid hd1)
          | (go_at_call 20; refine (HL.out _ hd1.out).mono ?_; rintro e w2 ⟨rfl, nq, rfl⟩))
        have hc := hd1.out.cellb hk
        have hf := hd1.out.frozen k
        have HS := Lib.hid (hd1.out.setb hk (c.b k ++ b))
        go_region
        go_wp2
        go_ret
        rw [HQ.out]
        exact ⟨rfl, HS.out, (ho1.drewN _).setCell _ _⟩
  · have e : d.append i b = ⟨1, d⟩ := if_neg hi
    rw [e]
    have HN := Lib.hid (no_q i false (Bool.eq_false_iff.2 hi))
    have HD := Lib.hid h
    clear hi e h ho
    go_enter Try.func47, Try.ntmps47
    go_wp2_with (go_at_call 85; refine (HN.out _).mono ?_; rintro e w1 ⟨rfl, rfl⟩)
    go_ret
    exact ⟨rfl, HD.out, Only.refl _ _⟩
set_option maxRecDepth 100000 in
set_option maxHeartbeats 1000000 in
theorem ref_sync (g : Nat) (d : Dk) (ho : d.Ok) (i : Int) (w : World) (h : RefAt w g d) :
    Calls Try.prog 48 #[.pointer (some ⟨g, 0, none⟩), .int .i64 i] w fun e w' => e = .returned (.int .i64 (d.sync i).code) ∧ RefAt w' g (d.sync i).dk ∧ Only g w w' := by
  by_cases hi : hasB i = true
  · have e : d.sync i = d.step (·.syn i.toNat) := if_pos hi
    rw [e]
    obtain ⟨k, hk, rfl⟩ := hasB_nat hi
    have HN := Lib.hid (no_q k true hi)
    by_cases hp : d.fuse = 0 ∨ d.down = true
    · have e : d.step (·.syn (k : Int).toNat) = ⟨9, { d with down := true }⟩ := if_pos hp
      rw [e]
      have HB := Lib.hid (burn_no g d w h hp)
      clear hi e h ho hp
      go_enter Try.func48, Try.ntmps48
      go_wp2_with (first
        | (go_at_call 85; refine (HN.out _).mono ?_; rintro e w1 ⟨rfl, rfl⟩)
        | (go_at_call 86; refine HB.out.mono ?_; rintro e w1 ⟨rfl, hd1, ho1⟩))
      go_ret
      exact ⟨rfl, hd1, ho1⟩
    · have hk2 := burnt_ok ho (fun h => hp (.inl h))
      have hlen := hk2.len hk
      have e : d.step (·.syn (k : Int).toNat) = d.burnt.syn k := if_neg hp
      rw [e]
      have HB := Lib.hid (burn_yes g d w h ho hp)
      clear hi e h ho hp hk2
      generalize d.burnt = c at *
      have hk4 : (k : Int) < 4 := by omega
      go_enter Try.func48, Try.ntmps48
      go_upto_region 5 with (first
        | (go_at_call 85; refine (HN.out _).mono ?_; rintro e w1 ⟨rfl, rfl⟩)
        | (go_at_call 86; refine HB.out.mono ?_; rintro e w1 ⟨rfl, hd1, ho1⟩; replace hd1 := Lib.hid hd1))
      have hc := hd1.out.cellb hk
      have hcs := hd1.out.cells hk
      have hf := hd1.out.frozen (4 + k)
      have HS := Lib.hid (hd1.out.sets hk (c.b k).length)
      go_region
      go_wp2
      go_ret
      exact ⟨rfl, HS.out, (ho1.setCell _ _).drew⟩
  · have e : d.sync i = ⟨1, d⟩ := if_neg hi
    rw [e]
    have HN := Lib.hid (no_q i false (Bool.eq_false_iff.2 hi))
    have HD := Lib.hid h
    clear hi e h ho
    go_enter Try.func48, Try.ntmps48
    go_wp2_with (go_at_call 85; refine (HN.out _).mono ?_; rintro e w1 ⟨rfl, rfl⟩)
    go_ret
    exact ⟨rfl, HD.out, Only.refl _ _⟩
set_option maxRecDepth 100000 in
set_option maxHeartbeats 1000000 in
theorem ref_cut (g : Nat) (d : Dk) (ho : d.Ok) (i n : Int) (w : World) (h : RefAt w g d) :
    Calls Try.prog 54 #[.pointer (some ⟨g, 0, none⟩), .int .i64 i, .int .i64 n] w fun e w' => e = .returned (.int .i64 (d.cutto i n).code) ∧ RefAt w' g (d.cutto i n).dk ∧ Only g w w' := by
  have HD := Lib.hid h
  by_cases hi : hasB i = true
  · obtain ⟨k, hk, rfl⟩ := hasB_nat hi
    have HN := Lib.hid (no_q k true hi)
    have hk4 : (k : Int) < 4 := by omega
    have hlen := ho.len hk
    have hcell := h.cellb hk
    by_cases h0 : 0 ≤ n
    · obtain ⟨m, rfl⟩ := Int.eq_ofNat_of_zero_le h0
      by_cases hm : (m : Int) ≤ (d.b k).length
      · have e : d.cutto k m = d.step (·.cut k m) := if_pos ⟨hi, h0, hm⟩
        rw [e]
        by_cases hp : d.fuse = 0 ∨ d.down = true
        · have e : d.step (·.cut k m) = ⟨9, { d with down := true }⟩ := if_pos hp
          rw [e]
          have HB := Lib.hid (burn_no g d w h hp)
          clear hi e h ho hp
          go_enter Try.func54, Try.ntmps54
          go_wp2_with (first
            | (go_at_call 85; refine (HN.out _).mono ?_; rintro e w1 ⟨rfl, rfl⟩)
            | (go_at_call 86; refine HB.out.mono ?_; rintro e w1 ⟨rfl, hd1, ho1⟩))
          go_ret
          exact ⟨rfl, hd1, ho1⟩
        · have e : d.step (·.cut k m) = d.burnt.cut k m := if_neg hp
          rw [e]
          have HB := Lib.hid (burn_yes g d w h ho hp)
          have hbb := burnt_b d
          clear hi e h ho hp
          generalize d.burnt = c at *
          rw [← hbb] at hlen hm hcell
          have HBB := Lib.hid hbb
          clear hbb
          go_enter Try.func54, Try.ntmps54
          go_upto_region 5 with (first
            | (go_at_call 85; refine (HN.out _).mono ?_; rintro e w1 ⟨rfl, rfl⟩)
            | (go_at_call 86; refine HB.out.mono ?_; rintro e w1 ⟨rfl, hd1, ho1⟩; replace hd1 := Lib.hid hd1))
          have hc := hd1.out.cellb hk
          have hf := hd1.out.frozen k
          have HS := Lib.hid (hd1.out.setb hk ((c.b k).take m))
          have hx : (⟨(c.b k).toArray⟩ : ByteArray).extract 0 m = ⟨((c.b k).take m).toArray⟩ := by rw [ByteArray.extract_mk]; simp
          go_region
          have HS2 : RefAt (w1.setCell ⟨g, k, none⟩ (.string ⟨((c.b k).take m).toArray⟩)).drew g _ := HS.out
          have hO := (ho1.setCell k (.string ⟨((c.b k).take m).toArray⟩)).drew
          generalize (w1.setCell ⟨g, k, none⟩ (.string ⟨((c.b k).take m).toArray⟩)).drew = w2 at HS2 hO ⊢
          clear HS hc hf hx
          have hc := HS2.cells hk
          have hf := HS2.frozen (4 + k)
          have HS := Lib.hid (HS2.sets hk (min (c.s k) m))
          have e2 : (if m < c.s k then (m : Int) else (c.s k : Int)) = ((min (c.s k) m : Nat) : Int) := by split <;> omega
          replace e2 := Lib.hid e2
          clear HS2
          go_upto_region 6 with (fail)
          go_region
          rw [e2.out]
          go_wp2
          go_ret
          exact ⟨rfl, HS.out, (hO.setCell _ _).drew⟩
      · have e : d.cutto k m = ⟨1, d⟩ := if_neg (fun h => hm h.2.2)
        rw [e]
        clear hi e h ho
        go_enter Try.func54, Try.ntmps54
        go_wp2_with (go_at_call 85; refine (HN.out _).mono ?_; rintro e w1 ⟨rfl, rfl⟩)
        go_ret
        exact ⟨rfl, HD.out, Only.refl _ _⟩
    · have e : d.cutto k n = ⟨1, d⟩ := if_neg (fun h => h0 h.2.1)
      rw [e]
      clear hi e h ho
      go_enter Try.func54, Try.ntmps54
      go_wp2_with (go_at_call 85; refine (HN.out _).mono ?_; rintro e w1 ⟨rfl, rfl⟩)
      go_ret
      exact ⟨rfl, HD.out, Only.refl _ _⟩
  · have e : d.cutto i n = ⟨1, d⟩ := if_neg (fun h => hi h.1)
    rw [e]
    have HN := Lib.hid (no_q i false (Bool.eq_false_iff.2 hi))
    clear hi e h ho
    go_enter Try.func54, Try.ntmps54
    go_wp2_with (go_at_call 85; refine (HN.out _).mono ?_; rintro e w1 ⟨rfl, rfl⟩)
    go_ret
    exact ⟨rfl, HD.out, Only.refl _ _⟩
set_option maxRecDepth 100000 in
set_option maxHeartbeats 1000000 in
theorem ref_move (g : Nat) (d : Dk) (ho : d.Ok) (i j : Int) (w : World) (h : RefAt w g d) :
    Calls Try.prog 55 #[.pointer (some ⟨g, 0, none⟩), .int .i64 i, .int .i64 j] w fun e w' => e = .returned (.int .i64 (d.move i j).code) ∧ RefAt w' g (d.move i j).dk ∧ Only g w w' := by
  have HD := Lib.hid h
  by_cases hi : hasB i = true
  · obtain ⟨k, hk, rfl⟩ := hasB_nat hi
    have HN := Lib.hid (no_q k true hi)
    have hk4 : (k : Int) < 4 := by omega
    by_cases hj : hasB j = true
    · obtain ⟨m, hm, rfl⟩ := hasB_nat hj
      have HJ := Lib.hid (no_q m true hj)
      have hm4 : (m : Int) < 4 := by omega
      have e : d.move k m = d.step (·.mov k m) := if_pos ⟨hi, hj⟩
      rw [e]
      by_cases hp : d.fuse = 0 ∨ d.down = true
      · have e : d.step (·.mov k m) = ⟨9, { d with down := true }⟩ := if_pos hp
        rw [e]
        have HB := Lib.hid (burn_no g d w h hp)
        clear hi hj e h ho hp
        go_enter Try.func55, Try.ntmps55
        go_wp2_with (first
          | (go_at_call_of 85 (Value.int IntKind.i64 (k : Int)); refine (HN.out _).mono ?_; rintro e w1 ⟨rfl, rfl⟩)
          | (go_at_call_of 85 (Value.int IntKind.i64 (m : Int)); refine (HJ.out _).mono ?_; rintro e w1 ⟨rfl, rfl⟩)
          | (go_at_call 86; refine HB.out.mono ?_; rintro e w1 ⟨rfl, hd1, ho1⟩))
        go_ret
        exact ⟨rfl, hd1, ho1⟩
      · have e : d.step (·.mov k m) = d.burnt.mov k m := if_neg hp
        rw [e]
        have HB := Lib.hid (burn_yes g d w h ho hp)
        clear hi hj e h ho hp
        generalize d.burnt = c at *
        by_cases hkm : k = m
        · have HQ := Lib.hid (show c.mov k m = ⟨0, c⟩ from if_pos hkm)
          have e0 : ((k : Int) != (m : Int)) = false := by simp [hkm]
          clear hkm
          go_enter Try.func55, Try.ntmps55
          go_wp2_with (first
            | (go_at_call_of 85 (Value.int IntKind.i64 (k : Int)); refine (HN.out _).mono ?_; rintro e w1 ⟨rfl, rfl⟩)
            | (go_at_call_of 85 (Value.int IntKind.i64 (m : Int)); refine (HJ.out _).mono ?_; rintro e w1 ⟨rfl, rfl⟩)
            | (go_at_call 86; refine HB.out.mono ?_; rintro e w1 ⟨rfl, hd1, ho1⟩))
          go_ret
          rw [HQ.out]
          exact ⟨rfl, hd1, ho1⟩
        · have HQ := Lib.hid (show c.mov k m = _ from if_neg hkm)
          have e0 : ((k : Int) != (m : Int)) = true := by simp; omega
          have HKM := Lib.hid hkm
          clear hkm
          go_enter Try.func55, Try.ntmps55
          go_upto_region 6 with (first
            | (go_at_call_of 85 (Value.int IntKind.i64 (k : Int)); refine (HN.out _).mono ?_; rintro e w1 ⟨rfl, rfl⟩)
            | (go_at_call_of 85 (Value.int IntKind.i64 (m : Int)); refine (HJ.out _).mono ?_; rintro e w1 ⟨rfl, rfl⟩)
            | (go_at_call 86; refine HB.out.mono ?_; rintro e w1 ⟨rfl, hd1, ho1⟩; replace hd1 := Lib.hid hd1))
          have hc := hd1.out.cellb hk
          have hc2 := hd1.out.cellb hm
          have hf := hd1.out.frozen m
          have HS := Lib.hid (hd1.out.setb hm (c.b k))
          go_region
          have HS2 : RefAt (w1.setCell ⟨g, m, none⟩ (.string ⟨(c.b k).toArray⟩)).drew g _ := HS.out
          have hO := (ho1.setCell m (.string ⟨(c.b k).toArray⟩)).drew
          generalize (w1.setCell ⟨g, m, none⟩ (.string ⟨(c.b k).toArray⟩)).drew = w2 at HS2 hO ⊢
          clear HS hc hc2 hf
          have hc := HS2.cells hk
          have hc2 := HS2.cells hm
          have hf := HS2.frozen (4 + m)
          have HS := Lib.hid (HS2.sets hm (c.s k))
          clear HS2
          go_upto_region 7 with (fail)
          go_region
          have HS2 : RefAt (w2.setCell ⟨g, 4 + m, none⟩ (.int .i64 (c.s k))).drew g _ := HS.out
          replace hO := (hO.setCell (4 + m) (.int .i64 (c.s k))).drew
          generalize (w2.setCell ⟨g, 4 + m, none⟩ (.int .i64 (c.s k))).drew = w3 at HS2 hO ⊢
          clear HS hc hc2 hf
          have hc := HS2.cellb hk
          have hc2 := HS2.cells hk
          have hf := HS2.frozen k
          have hf2 := HS2.frozen (4 + k)
          have HS := Lib.hid ((HS2.setb hk []).sets hk 0)
          clear HS2
          go_wp2
          go_ret
          rw [HQ.out]
          exact ⟨rfl, HS.out, (hO.setCell _ _).setCell _ _⟩
    · have e : d.move k j = ⟨1, d⟩ := if_neg (fun h => hj h.2)
      rw [e]
      have HJ := Lib.hid (no_q j false (Bool.eq_false_iff.2 hj))
      clear hi hj e h ho
      go_enter Try.func55, Try.ntmps55
      go_wp2_with (first
        | (go_at_call_of 85 (Value.int IntKind.i64 (k : Int)); refine (HN.out _).mono ?_; rintro e w1 ⟨rfl, rfl⟩)
        | (go_at_call_of 85 (Value.int IntKind.i64 j); refine (HJ.out _).mono ?_; rintro e w1 ⟨rfl, rfl⟩))
      go_ret
      exact ⟨rfl, HD.out, Only.refl _ _⟩
  · have e : d.move i j = ⟨1, d⟩ := if_neg (fun h => hi h.1)
    rw [e]
    have HN := Lib.hid (no_q i false (Bool.eq_false_iff.2 hi))
    clear hi e h ho
    go_enter Try.func55, Try.ntmps55
    go_wp2_with (go_at_call 85; refine (HN.out _).mono ?_; rintro e w1 ⟨rfl, rfl⟩)
    go_ret
    exact ⟨rfl, HD.out, Only.refl _ _⟩
end Go.Proofs.Ytdphnhgogokidaa
