/- Wire: the program's May. -/
import Derived.Test.YtdpllkmbnphdgaaWireH
namespace Go.Proofs.Ytdpllkmbnphdgaa
open Go.RowKit

structure MayR (w : World) (B gu gc : Nat) (c : Cm) (L : List (Nat × Nat)) (n' : Nat → Int) (ts fs : Value) (wr : World) : Prop where
  hu : CmAt wr gu ⟨c.k, n'⟩
  hc : CmAt wr gc c
  ft : FieldsAt wr B gu ts L
  ff : FieldsAt wr B gc fs L
  bel : Below w.heap.size w wr
theorem MayR.below {w : World} {B gu gc : Nat} {c : Cm} {L : List (Nat × Nat)} {n' : Nat → Int} {ts fs : Value} {wr w' : World} (h : MayR w B gu gc c L n' ts fs wr) (hb : Below wr.heap.size wr w') : MayR w B gu gc c L n' ts fs w' :=
  ⟨h.hu.below hb, h.hc.below hb, fieldsAt_below h.ft hb, fieldsAt_below h.ff hb, h.bel.trans (hb.mono h.bel.size)⟩
theorem MayR.set {w : World} {B gu gc : Nat} {c : Cm} {L : List (Nat × Nat)} {n' : Nat → Int} {ts fs : Value} {wr : World} (h : MayR w B gu gc c L n' ts fs wr) (hB : gu < B) (hne : gc ≠ gu) (hg : w.heap.size ≤ gu) {i : Nat} (h1 : 1 ≤ i) (h7 : i ≤ 7) (x : Int) :
    MayR w B gu gc c L (upd n' i x) ts fs (wr.setCell ⟨gu, i, none⟩ (.int .i64 x)) :=
  ⟨h.hu.set h1 h7 x, h.hc.apart hne _ _, fieldsAt_apart h.ft hB _ _, fieldsAt_apart h.ff hB _ _, h.bel.setCell hg _⟩
theorem three_new (w : World) (a b c : Value) (t : TypeId) : (w.alloc (.cells #[a, b, c] t (0, 0))).cell? ⟨w.heap.size, 0, none⟩ = some a ∧ (w.alloc (.cells #[a, b, c] t (0, 0))).cell? ⟨w.heap.size, 1, none⟩ = some b ∧ (w.alloc (.cells #[a, b, c] t (0, 0))).cell? ⟨w.heap.size, 2, none⟩ = some c := by
  have h := heap_alloc_new w (.cells #[a, b, c] t (0, 0))
  exact ⟨(cell_of_row _ _ 0 _ _ _ h).trans rfl, (cell_of_row _ _ 1 _ _ _ h).trans rfl, (cell_of_row _ _ 2 _ _ _ h).trans rfl⟩
theorem all_false {L : List (Nat × Nat)} {f : Nat × Nat → Bool} {j : Nat} {p : Nat × Nat} (h : L[j]? = some p) (hf : f p = false) : L.all f = false := by
  rw [List.all_eq_false]
  exact ⟨p, List.mem_of_getElem? h, by simp [hf]⟩
theorem drewN_below' {B : Nat} {w w' : World} (h : Below B w w') (n : Nat) : Below B w (w'.drewN n) := ⟨h.os, h.tape, h.output, h.size, h.block⟩
theorem pn_nil (c : Cm) : (fun _ => 0 : Nat → Int) = pn c [] := by funext i; simp [pn]
set_option maxRecDepth 100000 in
set_option maxHeartbeats 4000000 in
theorem may_any (c : Cm) (w : World) :
    Calls Try.prog 15 #[.agg c.cells] w fun e w' => e = .returned (.bool (may c)) ∧ Below w.heap.size w w' := by
  have hn0 := cmAt_new w c
  have hn1 := cmAt_new (w.alloc (.cells c.cells 23 (0, 0))) ⟨c.k, fun _ => 0⟩
  have hn2 := hn0.below ((Below.refl _ _).alloc (Nat.le_refl _) (.cells (Cm.cells ⟨c.k, fun _ => 0⟩) 23 (0, 0)))
  have hB0 := (((Below.refl _ _).alloc (Nat.le_refl _) (.cells c.cells 23 (0, 0))).alloc (by simp) (.cells (Cm.cells ⟨c.k, fun _ => 0⟩) 23 (0, 0)) : Below w.heap.size w _)
  have hsz : ((w.alloc (.cells c.cells 23 (0, 0))).alloc (.cells (Cm.cells ⟨c.k, fun _ => 0⟩) 23 (0, 0))).heap.size = w.heap.size + 2 := by simp
  rw [show (w.alloc (.cells c.cells 23 (0, 0))).heap.size = w.heap.size + 1 by simp] at hn1
  have hk := hn0.kind
  have HN1 := Lib.hid hn1
  have HN2 := Lib.hid hn2
  have HB0 := Lib.hid hB0
  have HSZ := Lib.hid hsz
  clear hn0 hn1 hn2 hB0 hsz
  obtain ⟨L, hL⟩ : ∃ L, specs c.k = L := ⟨_, rfl⟩
  have HL := Lib.hid hL
  have HM := Lib.hid (show may c = (decide (0 < L.length) && (L.all (okField c) && same (pn c L) c.n)) by rw [← hL]; rfl)
  have hl7 : L.length ≤ 7 := by rw [← hL]; exact specs_len _
  have HP := Lib.hid (show ∀ p ∈ L, 1 ≤ p.1 ∧ p.1 ≤ 7 ∧ (p.1 ≤ 5 → p.2 = 1 ∨ p.2 = 4) ∧ (5 < p.1 → p.2 = 8) by intro p hp; rw [← hL] at hp; exact specs_mem hp)
  clear hL
  generalize may c = m at *
  unfold Cm.cells at *
  dsimp only at HN1 HN2 HB0 HSZ hk ⊢
  go_enter Try.func15, Try.ntmps15
  go_wp2_with fail
  have hk1 := HN1.out.kind
  refine (fields_any (w.heap.size + 1) c.k _ hk1).mono ?_
  rintro e w3 ⟨_, rfl, h3, hb3⟩
  have hk3 := (HN2.out.below hb3).kind
  have HR3 := Lib.hid (And.intro (HN1.out.below hb3) (And.intro (HN2.out.below hb3) (HB0.out.trans (hb3.mono HB0.out.size))))
  have HS3 := Lib.hid (show w.heap.size + 2 ≤ w3.heap.size by rw [← HSZ.out]; exact hb3.size)
  rw [HSZ.out] at h3
  obtain ⟨a3, rfl, h3⟩ := h3
  replace h3 := Lib.hid h3
  clear hk hk1 hb3 HN1 HN2 HB0 HSZ
  go_wp2_with fail
  refine (fields_any w.heap.size c.k _ hk3).mono ?_
  rintro e w4 ⟨_, rfl, h4, hb4⟩
  have ht : FieldsAt w4 (w.heap.size + 2) (w.heap.size + 1) (.slice a3 (specs c.k).length (specs c.k).length) (specs c.k) := fieldsAt_below ⟨_, rfl, h3.out⟩ hb4
  have hf : FieldsAt w4 (w.heap.size + 2) w.heap.size _ (specs c.k) := fieldsAt_mono h4 HS3.out
  obtain ⟨a4, rfl, -⟩ := h4
  rw [HL.out] at ht hf ⊢
  have HM4 := Lib.hid (show MayR w (w.heap.size + 2) (w.heap.size + 1) w.heap.size c L (fun _ => 0) (.slice a3 L.length L.length) (.slice a4 L.length L.length) w4 from ⟨HR3.out.1.below hb4, HR3.out.2.1.below hb4, ht, hf, HR3.out.2.2.trans (hb4.mono HR3.out.2.2.size)⟩)
  clear hk3 h3 ht hf hb4 HR3 HS3
  go_wp2_with fail
  go_loopw [13] (fun i wr => ∃ j : Nat, j ≤ L.length ∧ i = .int .i64 j ∧ (L.take j).all (okField c) = true ∧ MayR w (w.heap.size + 2) (w.heap.size + 1) w.heap.size c L (pn c (L.take j)) (.slice a3 L.length L.length) (.slice a4 L.length L.length) wr) (fun i _ => L.length - (intOf i).toNat)
  case atStart => exact ⟨0, by omega, rfl, by simp, by rw [List.take_zero, ← pn_nil]; exact HM4.out⟩
  case round =>
    obtain ⟨j, hj, rfl, hall, hr⟩ := hrel
    clear HM4
    have HA := Lib.hid hall
    have HR := Lib.hid hr
    clear hall
    by_cases hlt : j < L.length
    · have hq1 : (j : Int) < L.length := by omega
      have hp : L[j]? = some L[j] := by simp [hlt]
      obtain ⟨b4, hb4, e4, r4⟩ := fields_range hr.ff hp
      simp only [Value.slice.injEq] at e4
      obtain ⟨rfl, _, _⟩ := e4
      obtain ⟨b3, hb3, e3, r3⟩ := fields_range hr.ft hp
      simp only [Value.slice.injEq] at e3
      obtain ⟨rfl, _, _⟩ := e3
      have hsn := Lib.hid (pn_snoc c (L.take j) L[j])
      have htk := Lib.hid (show L.take (j + 1) = L.take j ++ [L[j]] from List.take_succ_eq_append_getElem hlt)
      have hpm := HP.out L[j] (List.getElem_mem hlt)
      generalize L[j] = p at *
      obtain ⟨i, b⟩ := p
      have HLJ := Lib.hid hp
      clear hp
      by_cases hi : i ≤ 5
      · rw [show fieldCells (w.heap.size) (i, b) = [.pointer (some ⟨w.heap.size, i, none⟩), .pointer none, .int .i64 b] from if_pos hi] at r4
        rw [show fieldCells (w.heap.size + 1) (i, b) = [.pointer (some ⟨w.heap.size + 1, i, none⟩), .pointer none, .int .i64 b] from if_pos hi] at r3
        have hbn := (Below.refl wr.heap.size wr).alloc (Nat.le_refl _) (.cells #[.pointer (some ⟨w.heap.size, i, none⟩), .pointer none, .int .i64 b] 66 (0, 0))
        obtain ⟨x0, x1, x2⟩ := three_new wr (.pointer (some ⟨w.heap.size, i, none⟩)) (.pointer none) (.int .i64 b) 66
        have y0 := kept_cell hbn (r3 0 _ rfl)
        have y1 := kept_cell hbn (r3 1 _ rfl)
        have y2 := kept_cell hbn (r3 2 _ rfl)
        have hr5 := hr.below hbn
        have zc := hr5.hc.num hpm.1 hpm.2.1
        have zu := hr5.hu.num hpm.1 hpm.2.1
        have zf := hr5.hu.frozen i
        rw [Nat.add_zero] at y0
        have H4 := Lib.hid r4
        have HR5 := Lib.hid hr5
        have HPM := Lib.hid hpm
        have HI := Lib.hid hi
        clear r3 r4 hr hr5 hbn HR hpm hi
        go_wp2_with (with_reducible refine wpList_load_mid rfl 66 (.tmp 16) rfl b4 (j * 3) rfl _ _ H4.out Try.underlying66 rfl (by kernel_rfl) ?_)
        generalize wr.alloc (.cells #[.pointer (some ⟨w.heap.size, i, none⟩), .pointer none, .int .i64 b] 66 (0, 0)) = w5 at *
        generalize wr.heap.size = z at *
        go_quiet (first | (go_at_call 35; exact Calls.quiet_of_same (within_any _ _ _)))
        have hr6 : MayR w (w.heap.size + 2) (w.heap.size + 1) w.heap.size c L (pn c (L.take j)) (.slice (some ⟨b3, 0, none⟩) L.length L.length) (.slice (some ⟨b4, 0, none⟩) L.length L.length) (w5.drewN nq) := HR5.out.below (drewN_below' (Below.refl _ _) nq)
        have HR6 := Lib.hid hr6
        have x0' : (w5.drewN nq).cell? _ = _ := x0
        have x1' : (w5.drewN nq).cell? _ = _ := x1
        have x2' : (w5.drewN nq).cell? _ = _ := x2
        have y0' : (w5.drewN nq).cell? _ = _ := y0
        have zc' : (w5.drewN nq).cell? _ = _ := zc
        have zu' : (w5.drewN nq).cell? _ = _ := zu
        have zf' : (w5.drewN nq).frozen? _ = _ := zf
        clear hr6 x0 x1 x2 y0 y1 y2 zc zu zf HR5
        generalize w5.drewN nq = w6 at *
        cases hfit : fits (c.n i) b
        · have HF := Lib.hid hfit
          clear hfit
          go_wp2
          go_ret
          refine ⟨ret_bool ?_, HR6.out.bel⟩
          rw [HM.out, all_false HLJ.out (show okField c (i, b) = false by unfold okField; rw [HF.out, Bool.or_false]; exact decide_eq_false (by have := HI.out; omega))]
          simp
        · have HF := Lib.hid hfit
          clear hfit
          go_upto_region 10 with (fail)
          go_still_tail 10, (by kernel_rfl)
          go_wp2
          have hr7 := HR6.out.below ((Below.refl _ _).drew)
          have hr8 := hr7.set (by omega) (by omega) (by omega) HPM.out.1 HPM.out.2.1 (c.n i)
          rw [hsn.out, ← htk.out] at hr8
          have HR8 := Lib.hid hr8
          clear hr7 hr8
          go_roundw
          case rel => exact ⟨j + 1, by omega, by go_num, by rw [htk.out, List.all_append, HA.out]; simp [okField, HF.out], HR8.out⟩
          case measure => simp [intOf]; omega
      · rw [show fieldCells (w.heap.size) (i, b) = [.pointer none, .pointer (some ⟨w.heap.size, i, none⟩), .int .i64 b] from if_neg hi] at r4
        rw [show fieldCells (w.heap.size + 1) (i, b) = [.pointer none, .pointer (some ⟨w.heap.size + 1, i, none⟩), .int .i64 b] from if_neg hi] at r3
        have hbn := (Below.refl wr.heap.size wr).alloc (Nat.le_refl _) (.cells #[.pointer none, .pointer (some ⟨w.heap.size, i, none⟩), .int .i64 b] 66 (0, 0))
        obtain ⟨x0, x1, x2⟩ := three_new wr (.pointer none) (.pointer (some ⟨w.heap.size, i, none⟩)) (.int .i64 b) 66
        have y0 := kept_cell hbn (r3 0 _ rfl)
        have y1 := kept_cell hbn (r3 1 _ rfl)
        have y2 := kept_cell hbn (r3 2 _ rfl)
        have hr5 := hr.below hbn
        have zc := hr5.hc.num hpm.1 hpm.2.1
        have zu := hr5.hu.num hpm.1 hpm.2.1
        have zf := hr5.hu.frozen i
        rw [Nat.add_zero] at y0
        have H4 := Lib.hid r4
        have HR5 := Lib.hid hr5
        have HPM := Lib.hid hpm
        have HI := Lib.hid hi
        clear r3 r4 hr hr5 hbn HR hpm hi
        go_wp2_with (with_reducible refine wpList_load_mid rfl 66 (.tmp 16) rfl b4 (j * 3) rfl _ _ H4.out Try.underlying66 rfl (by kernel_rfl) ?_)
        generalize wr.alloc (.cells #[.pointer none, .pointer (some ⟨w.heap.size, i, none⟩), .int .i64 b] 66 (0, 0)) = w5 at *
        generalize wr.heap.size = z at *
        go_upto_region 7 with (fail)
        go_still_tail 10, (by kernel_rfl)
        go_wp2
        have hr7 := HR5.out.below ((Below.refl _ _).drew)
        have hr8 := hr7.set (by omega) (by omega) (by omega) HPM.out.1 HPM.out.2.1 (c.n i)
        rw [hsn.out, ← htk.out] at hr8
        have HR8 := Lib.hid hr8
        clear hr7 hr8
        go_roundw
        case rel => exact ⟨j + 1, by omega, by go_num, by rw [htk.out, List.all_append, HA.out]; simp [okField]; left; exact Nat.lt_of_not_le HI.out, HR8.out⟩
        case measure => simp [intOf]; omega
    · obtain rfl : j = L.length := by omega
      rw [List.take_length] at HR HA
      clear hr
      have HB := Lib.hid HR.out.bel
      have c0 := HR.out.hc.kind
      have c1 := HR.out.hc.num (i := 1) (by omega) (by omega)
      have c2 := HR.out.hc.num (i := 2) (by omega) (by omega)
      have c3 := HR.out.hc.num (i := 3) (by omega) (by omega)
      have c4 := HR.out.hc.num (i := 4) (by omega) (by omega)
      have c5 := HR.out.hc.num (i := 5) (by omega) (by omega)
      have c6 := HR.out.hc.num (i := 6) (by omega) (by omega)
      have c7 := HR.out.hc.num (i := 7) (by omega) (by omega)
      have u0 := HR.out.hu.kind
      have u1 := HR.out.hu.num (i := 1) (by omega) (by omega)
      have u2 := HR.out.hu.num (i := 2) (by omega) (by omega)
      have u3 := HR.out.hu.num (i := 3) (by omega) (by omega)
      have u4 := HR.out.hu.num (i := 4) (by omega) (by omega)
      have u5 := HR.out.hu.num (i := 5) (by omega) (by omega)
      have u6 := HR.out.hu.num (i := 6) (by omega) (by omega)
      have u7 := HR.out.hu.num (i := 7) (by omega) (by omega)
      generalize pn c L = n' at *
      clear HR
      by_cases h0 : 0 < L.length
      · have h0i : (0 : Int) < L.length := by omega
        go_wp2
        all_goals
          go_ret
          refine ⟨ret_bool ?_, HB.out⟩
          rw [HM.out, HA.out]
          clear HM HA HB HL HP
          simp [same, *]
      · have h0i : ¬ (0 : Int) < L.length := by omega
        go_wp2
        all_goals
          go_ret
          refine ⟨ret_bool ?_, HB.out⟩
          rw [HM.out, HA.out]
          clear HM HA HB HL HP
          simp [same, *]
end Go.Proofs.Ytdpllkmbnphdgaa
