/- Wire: the document's Take. -/
import Derived.Test.YtdpllkmbnphdgaaWireL
import Derived.Test.YtdpllkmbnphdgaaWireM
namespace Go.Proofs.Ytdpllkmbnphdgaa
open Go.RowKit

def updN (l : Nat → Nat) (i v : Nat) : Nat → Nat := fun k => if k = i then v else l k
/-- the document's way: place by place. -/
def rkF (U s : List UInt8) : Nat → Nat → Nat → (Nat → Nat) → Option (Nat × (Nat → Nat))
  | 0, _, a, l => some (a, l)
  | m + 1, j, a, l => if U.getD j 0 = 49 then (if s.length < a + by7 j then none else rkF U s m (j + 1) (a + by7 j) (updN l j (val ((s.drop a).take (by7 j))))) else rkF U s m (j + 1) a l
def luF (U : List UInt8) : Nat → Nat → List (Nat × Nat)
  | 0, _ => []
  | m + 1, j => if U.getD j 0 = 49 then (j + 1, by7 j) :: luF U m (j + 1) else luF U m (j + 1)
def nof (l : Nat → Nat) : Nat → Int := fun i => if i = 0 then 0 else IntKind.i64.wrap (l (i - 1) : Nat)
theorem nof_upd (l : Nat → Nat) (j v : Nat) : upd (nof l) (j + 1) (IntKind.i64.wrap (v : Nat)) = nof (updN l j v) := by
  funext i
  unfold upd nof updN
  by_cases h : i = j + 1
  · subst h
    rw [if_pos rfl, if_neg (Nat.succ_ne_zero j)]
    exact congrArg (fun q : Nat => IntKind.i64.wrap (q : Int)) (if_pos (Nat.add_sub_cancel (n := j) (m := 1))).symm
  · rw [if_neg h]
    by_cases h0 : i = 0
    · subst h0
      rw [if_pos rfl, if_pos rfl]
    · rw [if_neg h0, if_neg h0, if_neg (by omega)]
theorem tk_rk (U s : List UInt8) : ∀ (m j a : Nat) (l : Nat → Nat), a ≤ s.length → tk (luF U m j) (s.drop a) (nof l) = match rkF U s m j a l with
    | none => none
    | some (a', l') => some (nof l', s.drop a')
  | 0, _, _, _, _ => rfl
  | m + 1, j, a, l, ha => by
    unfold luF rkF
    by_cases h : U.getD j 0 = 49
    · rw [if_pos h, if_pos h]
      by_cases h2 : s.length < a + by7 j
      · rw [if_pos h2]
        have : (s.drop a).length < by7 j := by rw [List.length_drop]; omega
        exact if_pos this
      · rw [if_neg h2]
        have h3 : ¬ (s.drop a).length < by7 j := by rw [List.length_drop]; omega
        refine Eq.trans (if_neg h3) ?_
        dsimp only
        rw [nof_upd, List.drop_drop]
        exact tk_rk U s m (j + 1) (a + by7 j) _ (by omega)
    · rw [if_neg h, if_neg h]
      exact tk_rk U s m (j + 1) a l ha
theorem rk_le (U s : List UInt8) : ∀ (m j a : Nat) (l : Nat → Nat) (a' : Nat) (l' : Nat → Nat), a ≤ s.length → rkF U s m j a l = some (a', l') → a' ≤ s.length
  | 0, _, a, l, a', l', ha, h => by simp [rkF] at h; omega
  | m + 1, j, a, l, a', l', ha, h => by
    unfold rkF at h
    split at h
    · split at h
      · cases h
      · exact rk_le U s m _ _ _ a' l' (by omega) h
    · exact rk_le U s m _ _ _ a' l' ha h
theorem lu_specs (k : Int) : luF (usesOf k) 7 0 = specs k := by
  refine kinds (fun S U => luF U 7 0 = S) ?_ ?_ ?_ ?_ ?_ ?_ ?_ ?_ k
  all_goals decide
/-- what Take answers, by the document's way. -/
theorem take_ref (x : UInt8) (s : List UInt8) : take (x :: s) = match rkF (usesOf x.toNat) (x :: s) 7 0 1 (fun _ => 0) with
    | none => none
    | some (a, l) => if a = s.length + 1 ∧ may ⟨x.toNat, nof l⟩ = true then some ⟨x.toNat, nof l⟩ else none := by
  have h := tk_rk (usesOf x.toNat) (x :: s) 7 0 1 (fun _ => 0) (by simp)
  have hn : nof (fun _ => 0) = fun _ => 0 := by funext i; unfold nof; split <;> simp [IntKind.wrap_i64]
  rw [lu_specs, hn] at h
  simp only [List.drop_succ_cons, List.drop_zero] at h
  unfold take
  dsimp only
  rw [h]
  cases hr : rkF (usesOf x.toNat) (x :: s) 7 0 1 (fun _ => 0) with
  | none => rfl
  | some p =>
    obtain ⟨a, l⟩ := p
    have hle := rk_le _ _ _ _ _ _ a l (by simp) hr
    dsimp only
    have : ((x :: s).drop a = []) ↔ a = s.length + 1 := by
      rw [List.drop_eq_nil_iff]
      simp at hle ⊢
      omega
    by_cases h2 : a = s.length + 1
    · simp [h2]
    · simp [h2, mt this.1 h2]
theorem take_no (x : UInt8) (s : List UInt8) (h : usesOf x.toNat = []) : take (x :: s) = none := by
  unfold take
  dsimp only
  have hm : ∀ n, may ⟨x.toNat, n⟩ = false := by intro n; rw [may_ref]; simp [h]
  split
  · rfl
  · simp [hm]
/-- the document's list of seven numbers. -/
def LAt (w : World) (g : Nat) (l : Nat → Nat) : Prop := w.heap[g]? = some (.cells #[.int .u64 (l 0), .int .u64 (l 1), .int .u64 (l 2), .int .u64 (l 3), .int .u64 (l 4), .int .u64 (l 5), .int .u64 (l 6)] 53 (0, 0))
theorem LAt.cell {w : World} {g : Nat} {l : Nat → Nat} (h : LAt w g l) {i : Nat} (hi : i < 7) : w.cell? ⟨g, i, none⟩ = some (.int .u64 (l i)) := by
  rw [cell_of_row _ _ _ _ _ _ h]
  obtain rfl | rfl | rfl | rfl | rfl | rfl | rfl : i = 0 ∨ i = 1 ∨ i = 2 ∨ i = 3 ∨ i = 4 ∨ i = 5 ∨ i = 6 := by omega
  all_goals rfl
theorem LAt.set {w : World} {g : Nat} {l : Nat → Nat} (h : LAt w g l) {i : Nat} (hi : i < 7) (v : Nat) : LAt (w.setCell ⟨g, i, none⟩ (.int .u64 v)) g (updN l i v) := by
  unfold LAt at h ⊢
  rw [heap_setCell_same _ _ _ _ _ _ h]
  obtain rfl | rfl | rfl | rfl | rfl | rfl | rfl : i = 0 ∨ i = 1 ∨ i = 2 ∨ i = 3 ∨ i = 4 ∨ i = 5 ∨ i = 6 := by omega
  all_goals rfl
theorem nof_at (l : Nat → Nat) (i : Nat) : nof l (i + 1) = IntKind.i64.wrap (l i : Nat) := if_neg (Nat.succ_ne_zero i)
theorem nof_cells (k : Int) (l : Nat → Nat) : Cm.cells ⟨k, nof l⟩ = #[.int .i64 k, .int .i64 (IntKind.i64.wrap (l 0 : Nat)), .int .i64 (IntKind.i64.wrap (l 1 : Nat)), .int .i64 (IntKind.i64.wrap (l 2 : Nat)), .int .i64 (IntKind.i64.wrap (l 3 : Nat)), .int .i64 (IntKind.i64.wrap (l 4 : Nat)), .int .i64 (IntKind.i64.wrap (l 5 : Nat)), .int .i64 (IntKind.i64.wrap (l 6 : Nat))] := by
  unfold Cm.cells
  rw [← nof_at l 0, ← nof_at l 1, ← nof_at l 2, ← nof_at l 3, ← nof_at l 4, ← nof_at l 5, ← nof_at l 6]
def RAt (w : World) (g : Nat) (c : Cm) : Prop := w.heap[g]? = some (.cells c.cells 29 (0, 0))
theorem RAt.range {w : World} {g : Nat} {c : Cm} (h : RAt w g c) : w.rangeAt g 0 c.cells.toList := fun j v hv => by
  rw [cell_of_row _ _ _ _ _ _ h, Nat.zero_add]; simpa using hv
theorem RAt.there {w : World} {g : Nat} {c : Cm} (h : RAt w g c) : w.there g 0 8 := fun j hj => by
  have h8 : c.cells.size = 8 := rfl
  refine ⟨?_, frozen_of_row _ _ _ _ _ h⟩
  rw [Nat.zero_add, cell_of_row _ _ _ _ _ _ h]
  simp [h8, hj]
structure RtR (w : World) (gr gl : Nat) (l : Nat → Nat) (wr : World) : Prop where
  hl : LAt wr gl l
  hr : RAt wr gr ⟨0, fun _ => 0⟩
  bel : Below w.heap.size w wr
theorem RtR.below {w : World} {gr gl : Nat} {l : Nat → Nat} {wr w' : World} (h : RtR w gr gl l wr) (hb : Below wr.heap.size wr w') : RtR w gr gl l w' := by
  refine ⟨?_, ?_, h.bel.trans (hb.mono h.bel.size)⟩
  · have := h.hl; unfold LAt at this ⊢; rw [hb.block _ (Array.getElem?_eq_some_iff.1 this).1]; exact this
  · have := h.hr; unfold RAt at this ⊢; rw [hb.block _ (Array.getElem?_eq_some_iff.1 this).1]; exact this
theorem RtR.set {w : World} {gr gl : Nat} {l : Nat → Nat} {wr : World} (h : RtR w gr gl l wr) (hne : gr ≠ gl) (hg : w.heap.size ≤ gl) {i : Nat} (hi : i < 7) (v : Nat) : RtR w gr gl (updN l i v) (wr.setCell ⟨gl, i, none⟩ (.int .u64 v)) := by
  refine ⟨h.hl.set hi v, ?_, h.bel.setCell hg _⟩
  have := h.hr; unfold RAt at this ⊢; rw [heap_setCell_other _ _ _ _ hne]; exact this
theorem infoU64 : (Try.prog.info? 53).map (fun i => (i.zero, i.size, i.bytes)) = some (some (.int .u64 0), 1, 8) := by kernel_rfl
theorem make7 (W : World) : (Instr.makeSlice 75 (.int .i64 7) (.int .i64 7)).run Try.prog W = .ok (.slice (some ⟨W.heap.size, 0, none⟩) 7 7) (W.alloc (.cells #[.int .u64 0, .int .u64 0, .int .u64 0, .int .u64 0, .int .u64 0, .int .u64 0, .int .u64 0] 53)) := by
  obtain ⟨i0, hi, hz0, hz1, hz2⟩ := info_parts infoU64
  have h := run_makeSlice (P := Try.prog) (w := W) 75 53 i0 (.int .u64 0) Try.underlying75 hi hz0 .i64 .i64 7 7 (by omega) (by omega) (by rw [hz1]; decide) (by rw [hz2]; decide) (by decide)
  have hm : madeCells (Value.int .u64 0).cells (Int.toNat 7 * 1) = #[.int .u64 0, .int .u64 0, .int .u64 0, .int .u64 0, .int .u64 0, .int .u64 0, .int .u64 0] := by kernel_rfl
  rw [h, hz1, hm]
  rfl
set_option maxRecDepth 100000 in
set_option maxHeartbeats 8000000 in
theorem rtake_any (s : List UInt8) (hl : (s.length : Int) ≤ 1099511627776) (w : World) :
    Calls Try.prog 14 #[.string ⟨s.toArray⟩] w fun e w' => e = .returned (takeV (take s)) ∧ Below w.heap.size w w' := by
  have hn0 := Lib.hid (show RAt (w.alloc (.cells (Cm.cells ⟨0, fun _ => 0⟩) 29 (0, 0))) w.heap.size ⟨0, fun _ => 0⟩ from heap_alloc_new _ _)
  have hB0 := Lib.hid ((Below.refl w.heap.size w).alloc (Nat.le_refl _) (.cells (Cm.cells ⟨0, fun _ => 0⟩) 29 (0, 0)))
  have hS0 := Lib.hid (show (w.alloc (.cells (Cm.cells ⟨0, fun _ => 0⟩) 29 (0, 0))).heap.size = w.heap.size + 1 by simp)
  unfold Cm.cells at hn0 hB0 hS0
  dsimp only at hn0 hB0 hS0
  cases s with
  | nil =>
    go_enter Try.func14, Try.ntmps14
    go_wp2
    exact bodyPost_ret (results_mid2 rfl _ _ _ w.heap.size _ _ rfl (RAt.range hn0.out) Try.underlying29 rfl (by kernel_rfl)) rfl ⟨rfl, hB0.out⟩
  | cons x s =>
    have hl2 : (s.length : Int) + 1 ≤ 1099511627776 := by simpa using hl
    have hx0 : wrap64 (((⟨(x :: s).toArray⟩ : ByteArray)[0]'(Nat.succ_pos s.length)).toNat : Int) = (x.toNat : Int) := by
      have h : ((⟨(x :: s).toArray⟩ : ByteArray)[0]'(Nat.succ_pos s.length)) = x := rfl
      rw [h]
      have := x.toNat_lt
      unfold wrap64
      omega
    have hx0' : IntKind.i64.wrap (((⟨(x :: s).toArray⟩ : ByteArray)[0]'(Nat.succ_pos s.length)).toNat : Int) = (x.toNat : Int) := by
      have h : ((⟨(x :: s).toArray⟩ : ByteArray)[0]'(Nat.succ_pos s.length)) = x := rfl
      rw [h]
      have := x.toNat_lt
      exact IntWalk.i64_in _ (by omega)
    clear hl
    have HTR := Lib.hid (take_ref x s)
    have HNO := Lib.hid (take_no x s)
    generalize take (x :: s) = tc at *
    have HU := Lib.hid (uses_any x.toNat)
    go_enter Try.func14, Try.ntmps14
    generalize (x.toNat : Int) = k at *
    by_cases hU : usesOf k = []
    · rw [hU] at HU
      have HNO2 := Lib.hid (HNO.out hU)
      clear hU HTR HNO
      go_upto_region 2 with (go_at_call 29; refine (HU.out _).mono ?_; rintro e w1 ⟨rfl, rfl⟩)
      have HTH := Lib.hid hn0.out.there
      have HB6 := Lib.hid (below_cells (Nat.le_refl _) [.int .i64 0, .int .i64 0, .int .i64 0, .int .i64 0, .int .i64 0, .int .i64 0, .int .i64 0, .int .i64 0] 0 _ hB0.out)
      have HG6 := Lib.hid (World.rangeAt_setCells_same _ w.heap.size 0 [.int .i64 0, .int .i64 0, .int .i64 0, .int .i64 0, .int .i64 0, .int .i64 0, .int .i64 0, .int .i64 0] HTH.out)
      go_step
      go_step
      go_step
      go_step
      refine wpList_store_mid rfl 29 (.tmp 2) (.tmp 19) rfl w.heap.size 0 #[.int .i64 0, .int .i64 0, .int .i64 0, .int .i64 0, .int .i64 0, .int .i64 0, .int .i64 0, .int .i64 0] rfl rfl HTH.out (by kernel_rfl) (by simp [Value.oneCell']) ?_
      show wpList _ _ _ _ _ (World.setCells _ w.heap.size 0 [.int .i64 0, .int .i64 0, .int .i64 0, .int .i64 0, .int .i64 0, .int .i64 0, .int .i64 0, .int .i64 0])
      clear HTH
      generalize World.setCells _ w.heap.size 0 [.int .i64 0, .int .i64 0, .int .i64 0, .int .i64 0, .int .i64 0, .int .i64 0, .int .i64 0, .int .i64 0] = w6 at *
      go_wp2
      exact bodyPost_ret (results_mid2 rfl _ _ _ w.heap.size _ _ rfl HG6.out Try.underlying29 rfl (by kernel_rfl)) rfl ⟨by rw [HNO2.out]; rfl, HB6.out⟩
    · obtain ⟨q0, q1, q2, q3, q4, q5, q6, e, H7⟩ := uses_seven hU
      rw [e] at HU HTR
      clear e hU HNO
      have H7' := Lib.hid H7
      clear H7
      go_wp2_with (go_at_call 29; refine (HU.out _).mono ?_; rintro e w1 ⟨rfl, rfl⟩)
      have hmk := make7
      have hb1 := hB0.out.alloc (by rw [hS0.out]; omega) (.cells #[.int .u64 0, .int .u64 0, .int .u64 0, .int .u64 0, .int .u64 0, .int .u64 0, .int .u64 0] 53 (0, 0))
      have HR0 := Lib.hid (show RtR w w.heap.size (w.heap.size + 1) (fun _ => 0) _ from ⟨by have := heap_alloc_new (w.alloc (.cells #[.int .i64 0, .int .i64 0, .int .i64 0, .int .i64 0, .int .i64 0, .int .i64 0, .int .i64 0, .int .i64 0] 29 (0, 0))) (.cells #[.int .u64 0, .int .u64 0, .int .u64 0, .int .u64 0, .int .u64 0, .int .u64 0, .int .u64 0] 53 (0, 0)); rw [hS0.out] at this; exact this,
        by have := hn0.out; unfold RAt at this ⊢; rw [((Below.refl _ _).alloc (Nat.le_refl _) _).block _ (by rw [hS0.out]; omega)]; exact this, hb1⟩)
      clear hb1
      go_wp2_with fail
      clear hmk hn0 hB0 hS0
      rw [make7]
      go_wp2_with fail
      have HGE := Lib.hid (show w.heap.size ≤ w.heap.size ∧ w.heap.size ≤ w.heap.size + 1 ∧ w.heap.size ≠ w.heap.size + 1 by omega)
      generalize w.heap.size + 1 = gl at *
      generalize hgr : w.heap.size = gr at HR0 HGE ⊢
      have HQ := Lib.hid (show ∀ (j a : Nat) (l : Nat → Nat), j < 7 → rkF [q0, q1, q2, q3, q4, q5, q6] (x :: s) (7 - j) j a l = if [q0, q1, q2, q3, q4, q5, q6].getD j 0 = 49 then (if (x :: s).length < a + by7 j then none else rkF [q0, q1, q2, q3, q4, q5, q6] (x :: s) (7 - (j + 1)) (j + 1) (a + by7 j) (updN l j (val (((x :: s).drop a).take (by7 j))))) else rkF [q0, q1, q2, q3, q4, q5, q6] (x :: s) (7 - (j + 1)) (j + 1) a l by
        intro j a l hj
        rw [show 7 - j = (7 - (j + 1)) + 1 by omega]
        rfl)
      have HLS := Lib.hid (show (x :: s).length = s.length + 1 from rfl)
      generalize hR : rkF [q0, q1, q2, q3, q4, q5, q6] (x :: s) 7 0 1 (fun _ => 0) = ro at *
      go_loopw [6, 7] (fun p i wr => ∃ (j a : Nat) (l : Nat → Nat), j ≤ 7 ∧ i = .int .i64 j ∧ p = .int .i64 a ∧ (a : Int) ≤ s.length + 1 ∧ rkF [q0, q1, q2, q3, q4, q5, q6] (x :: s) (7 - j) j a l = ro ∧ RtR w gr gl l wr) (fun _ i _ => 7 - (intOf i).toNat)
      case atStart => exact ⟨0, 1, _, by omega, rfl, rfl, by omega, hR, HR0.out⟩
      case round =>
        clear HR0 hR
        obtain ⟨j, a, l, hj, rfl, rfl, ha, hrk, hr⟩ := hrel
        have HR := Lib.hid hr
        have HK := Lib.hid hrk
        clear hrk
        by_cases hlt : j < 7
        · have hu := H7'.out j hlt
          have HS := Lib.hid (HQ.out j a l hlt)
          have hz := hr.hl.cell hlt
          have hf := frozen_of_row _ _ j _ _ hr.hl
          have HNUM := Lib.hid (fun m h1 h2 => number_any (x :: s) a m h1 (by simpa using hl2) h2)
          clear HQ H7' hr
          have hj7 : j = 0 ∨ j = 1 ∨ j = 2 ∨ j = 3 ∨ j = 4 ∨ j = 5 ∨ j = 6 := by omega
          clear hj hlt
          rcases hj7 with rfl | rfl | rfl | rfl | rfl | rfl | rfl
          · simp only [List.getD_cons_zero] at hu HS
            rcases hu with rfl | rfl
            · have i1 : (⟨#[48, q1, q2, q3, q4, q5, q6]⟩ : ByteArray)[0]'(by show 0 < 7; omega) = 48 := rfl
              go_wp2
              go_roundw
              case rel => exact ⟨1, a, l, by decide, rfl, rfl, ha, by rw [← HK.out, HS.out]; rfl, HR.out⟩
              case measure => simp [intOf]
            · have i1 : (⟨#[49, q1, q2, q3, q4, q5, q6]⟩ : ByteArray)[0]'(by show 0 < 7; omega) = 49 := rfl
              have i2 : (⟨#[49, 52, 49, 49, 49, 56, 56]⟩ : ByteArray)[0]'(by decide) = 49 := rfl
              by_cases hfit : (s.length : Int) + 1 < (a : Int) + 1
              · have HNN := Lib.hid (show ro = none by rw [← HK.out, HS.out, if_pos rfl]; exact if_pos (by show s.length + 1 < a + 1; omega))
                go_upto_region 12 with (fail)
                have HTH := Lib.hid HR.out.hr.there
                go_step
                go_step
                go_step
                go_step
                have HB6 := Lib.hid (below_cells (Nat.le_refl _) [.int .i64 0, .int .i64 0, .int .i64 0, .int .i64 0, .int .i64 0, .int .i64 0, .int .i64 0, .int .i64 0] 0 _ (hgr ▸ HR.out.bel))
                have HG6 := Lib.hid (World.rangeAt_setCells_same wr gr 0 [.int .i64 0, .int .i64 0, .int .i64 0, .int .i64 0, .int .i64 0, .int .i64 0, .int .i64 0, .int .i64 0] HTH.out)
                refine wpList_store_mid rfl 29 (.tmp 2) (.tmp 43) rfl gr 0 #[.int .i64 0, .int .i64 0, .int .i64 0, .int .i64 0, .int .i64 0, .int .i64 0, .int .i64 0, .int .i64 0] rfl rfl HTH.out (by kernel_rfl) (by simp [Value.oneCell']) ?_
                show wpList _ _ _ _ _ (wr.setCells gr 0 [.int .i64 0, .int .i64 0, .int .i64 0, .int .i64 0, .int .i64 0, .int .i64 0, .int .i64 0, .int .i64 0])
                clear HTH HR
                generalize wr.setCells gr 0 [.int .i64 0, .int .i64 0, .int .i64 0, .int .i64 0, .int .i64 0, .int .i64 0, .int .i64 0, .int .i64 0] = w6 at *
                go_wp2
                exact bodyPost_ret (results_mid2 rfl _ _ _ gr _ _ rfl HG6.out Try.underlying29 rfl (by kernel_rfl)) rfl ⟨by rw [HTR.out, HNN.out]; rfl, hgr ▸ HB6.out⟩
              · have HNB := Lib.hid (show ∀ wx, Calls Try.prog 34 #[.string ⟨(x :: s).toArray⟩, .int .i64 a, .int .i64 1] wx fun e wy => e = .returned (.int .u64 (val (((x :: s).drop a).take 1) : Nat)) ∧ wy = wx from fun wx => HNUM.out 1 (by show a + 1 ≤ s.length + 1; omega) (by decide) wx)
                have HNX := Lib.hid (show rkF [49, q1, q2, q3, q4, q5, q6] (x :: s) (7 - 1) 1 (a + 1) (updN l 0 (val (((x :: s).drop a).take 1))) = ro by rw [← HK.out, HS.out, if_pos rfl]; exact (if_neg (by show ¬ s.length + 1 < a + 1; omega)).symm)
                have HR2 := Lib.hid (HR.out.set HGE.out.2.2 (by have := HGE.out; omega) (show 0 < 7 by decide) (val (((x :: s).drop a).take 1)))
                clear HNUM
                generalize val (((x :: s).drop a).take 1) = V at *
                go_wp2_with (go_at_call 34; refine (HNB.out _).mono ?_; rintro e w5 ⟨rfl, rfl⟩)
                go_roundw
                case rel => exact ⟨1, a + 1, _, by decide, rfl, by go_num, by omega, HNX.out, HR2.out⟩
                case measure => simp [intOf]
          · simp only [List.getD_cons_zero, List.getD_cons_succ] at hu HS
            rcases hu with rfl | rfl
            · have i1 : (⟨#[q0, 48, q2, q3, q4, q5, q6]⟩ : ByteArray)[1]'(by show 1 < 7; omega) = 48 := rfl
              go_wp2
              go_roundw
              case rel => exact ⟨2, a, l, by decide, rfl, rfl, ha, by rw [← HK.out, HS.out]; rfl, HR.out⟩
              case measure => simp [intOf]
            · have i1 : (⟨#[q0, 49, q2, q3, q4, q5, q6]⟩ : ByteArray)[1]'(by show 1 < 7; omega) = 49 := rfl
              have i2 : (⟨#[49, 52, 49, 49, 49, 56, 56]⟩ : ByteArray)[1]'(by decide) = 52 := rfl
              by_cases hfit : (s.length : Int) + 1 < (a : Int) + 4
              · have HNN := Lib.hid (show ro = none by rw [← HK.out, HS.out, if_pos rfl]; exact if_pos (by show s.length + 1 < a + 4; omega))
                go_upto_region 12 with (fail)
                have HTH := Lib.hid HR.out.hr.there
                go_step
                go_step
                go_step
                go_step
                have HB6 := Lib.hid (below_cells (Nat.le_refl _) [.int .i64 0, .int .i64 0, .int .i64 0, .int .i64 0, .int .i64 0, .int .i64 0, .int .i64 0, .int .i64 0] 0 _ (hgr ▸ HR.out.bel))
                have HG6 := Lib.hid (World.rangeAt_setCells_same wr gr 0 [.int .i64 0, .int .i64 0, .int .i64 0, .int .i64 0, .int .i64 0, .int .i64 0, .int .i64 0, .int .i64 0] HTH.out)
                refine wpList_store_mid rfl 29 (.tmp 2) (.tmp 43) rfl gr 0 #[.int .i64 0, .int .i64 0, .int .i64 0, .int .i64 0, .int .i64 0, .int .i64 0, .int .i64 0, .int .i64 0] rfl rfl HTH.out (by kernel_rfl) (by simp [Value.oneCell']) ?_
                show wpList _ _ _ _ _ (wr.setCells gr 0 [.int .i64 0, .int .i64 0, .int .i64 0, .int .i64 0, .int .i64 0, .int .i64 0, .int .i64 0, .int .i64 0])
                clear HTH HR
                generalize wr.setCells gr 0 [.int .i64 0, .int .i64 0, .int .i64 0, .int .i64 0, .int .i64 0, .int .i64 0, .int .i64 0, .int .i64 0] = w6 at *
                go_wp2
                exact bodyPost_ret (results_mid2 rfl _ _ _ gr _ _ rfl HG6.out Try.underlying29 rfl (by kernel_rfl)) rfl ⟨by rw [HTR.out, HNN.out]; rfl, hgr ▸ HB6.out⟩
              · have HNB := Lib.hid (show ∀ wx, Calls Try.prog 34 #[.string ⟨(x :: s).toArray⟩, .int .i64 a, .int .i64 4] wx fun e wy => e = .returned (.int .u64 (val (((x :: s).drop a).take 4) : Nat)) ∧ wy = wx from fun wx => HNUM.out 4 (by show a + 4 ≤ s.length + 1; omega) (by decide) wx)
                have HNX := Lib.hid (show rkF [q0, 49, q2, q3, q4, q5, q6] (x :: s) (7 - 2) 2 (a + 4) (updN l 1 (val (((x :: s).drop a).take 4))) = ro by rw [← HK.out, HS.out, if_pos rfl]; exact (if_neg (by show ¬ s.length + 1 < a + 4; omega)).symm)
                have HR2 := Lib.hid (HR.out.set HGE.out.2.2 (by have := HGE.out; omega) (show 1 < 7 by decide) (val (((x :: s).drop a).take 4)))
                clear HNUM
                generalize val (((x :: s).drop a).take 4) = V at *
                go_wp2_with (go_at_call 34; refine (HNB.out _).mono ?_; rintro e w5 ⟨rfl, rfl⟩)
                go_roundw
                case rel => exact ⟨2, a + 4, _, by decide, rfl, by go_num, by omega, HNX.out, HR2.out⟩
                case measure => simp [intOf]
          · simp only [List.getD_cons_zero, List.getD_cons_succ] at hu HS
            rcases hu with rfl | rfl
            · have i1 : (⟨#[q0, q1, 48, q3, q4, q5, q6]⟩ : ByteArray)[2]'(by show 2 < 7; omega) = 48 := rfl
              go_wp2
              go_roundw
              case rel => exact ⟨3, a, l, by decide, rfl, rfl, ha, by rw [← HK.out, HS.out]; rfl, HR.out⟩
              case measure => simp [intOf]
            · have i1 : (⟨#[q0, q1, 49, q3, q4, q5, q6]⟩ : ByteArray)[2]'(by show 2 < 7; omega) = 49 := rfl
              have i2 : (⟨#[49, 52, 49, 49, 49, 56, 56]⟩ : ByteArray)[2]'(by decide) = 49 := rfl
              by_cases hfit : (s.length : Int) + 1 < (a : Int) + 1
              · have HNN := Lib.hid (show ro = none by rw [← HK.out, HS.out, if_pos rfl]; exact if_pos (by show s.length + 1 < a + 1; omega))
                go_upto_region 12 with (fail)
                have HTH := Lib.hid HR.out.hr.there
                go_step
                go_step
                go_step
                go_step
                have HB6 := Lib.hid (below_cells (Nat.le_refl _) [.int .i64 0, .int .i64 0, .int .i64 0, .int .i64 0, .int .i64 0, .int .i64 0, .int .i64 0, .int .i64 0] 0 _ (hgr ▸ HR.out.bel))
                have HG6 := Lib.hid (World.rangeAt_setCells_same wr gr 0 [.int .i64 0, .int .i64 0, .int .i64 0, .int .i64 0, .int .i64 0, .int .i64 0, .int .i64 0, .int .i64 0] HTH.out)
                refine wpList_store_mid rfl 29 (.tmp 2) (.tmp 43) rfl gr 0 #[.int .i64 0, .int .i64 0, .int .i64 0, .int .i64 0, .int .i64 0, .int .i64 0, .int .i64 0, .int .i64 0] rfl rfl HTH.out (by kernel_rfl) (by simp [Value.oneCell']) ?_
                show wpList _ _ _ _ _ (wr.setCells gr 0 [.int .i64 0, .int .i64 0, .int .i64 0, .int .i64 0, .int .i64 0, .int .i64 0, .int .i64 0, .int .i64 0])
                clear HTH HR
                generalize wr.setCells gr 0 [.int .i64 0, .int .i64 0, .int .i64 0, .int .i64 0, .int .i64 0, .int .i64 0, .int .i64 0, .int .i64 0] = w6 at *
                go_wp2
                exact bodyPost_ret (results_mid2 rfl _ _ _ gr _ _ rfl HG6.out Try.underlying29 rfl (by kernel_rfl)) rfl ⟨by rw [HTR.out, HNN.out]; rfl, hgr ▸ HB6.out⟩
              · have HNB := Lib.hid (show ∀ wx, Calls Try.prog 34 #[.string ⟨(x :: s).toArray⟩, .int .i64 a, .int .i64 1] wx fun e wy => e = .returned (.int .u64 (val (((x :: s).drop a).take 1) : Nat)) ∧ wy = wx from fun wx => HNUM.out 1 (by show a + 1 ≤ s.length + 1; omega) (by decide) wx)
                have HNX := Lib.hid (show rkF [q0, q1, 49, q3, q4, q5, q6] (x :: s) (7 - 3) 3 (a + 1) (updN l 2 (val (((x :: s).drop a).take 1))) = ro by rw [← HK.out, HS.out, if_pos rfl]; exact (if_neg (by show ¬ s.length + 1 < a + 1; omega)).symm)
                have HR2 := Lib.hid (HR.out.set HGE.out.2.2 (by have := HGE.out; omega) (show 2 < 7 by decide) (val (((x :: s).drop a).take 1)))
                clear HNUM
                generalize val (((x :: s).drop a).take 1) = V at *
                go_wp2_with (go_at_call 34; refine (HNB.out _).mono ?_; rintro e w5 ⟨rfl, rfl⟩)
                go_roundw
                case rel => exact ⟨3, a + 1, _, by decide, rfl, by go_num, by omega, HNX.out, HR2.out⟩
                case measure => simp [intOf]
          · simp only [List.getD_cons_zero, List.getD_cons_succ] at hu HS
            rcases hu with rfl | rfl
            · have i1 : (⟨#[q0, q1, q2, 48, q4, q5, q6]⟩ : ByteArray)[3]'(by show 3 < 7; omega) = 48 := rfl
              go_wp2
              go_roundw
              case rel => exact ⟨4, a, l, by decide, rfl, rfl, ha, by rw [← HK.out, HS.out]; rfl, HR.out⟩
              case measure => simp [intOf]
            · have i1 : (⟨#[q0, q1, q2, 49, q4, q5, q6]⟩ : ByteArray)[3]'(by show 3 < 7; omega) = 49 := rfl
              have i2 : (⟨#[49, 52, 49, 49, 49, 56, 56]⟩ : ByteArray)[3]'(by decide) = 49 := rfl
              by_cases hfit : (s.length : Int) + 1 < (a : Int) + 1
              · have HNN := Lib.hid (show ro = none by rw [← HK.out, HS.out, if_pos rfl]; exact if_pos (by show s.length + 1 < a + 1; omega))
                go_upto_region 12 with (fail)
                have HTH := Lib.hid HR.out.hr.there
                go_step
                go_step
                go_step
                go_step
                have HB6 := Lib.hid (below_cells (Nat.le_refl _) [.int .i64 0, .int .i64 0, .int .i64 0, .int .i64 0, .int .i64 0, .int .i64 0, .int .i64 0, .int .i64 0] 0 _ (hgr ▸ HR.out.bel))
                have HG6 := Lib.hid (World.rangeAt_setCells_same wr gr 0 [.int .i64 0, .int .i64 0, .int .i64 0, .int .i64 0, .int .i64 0, .int .i64 0, .int .i64 0, .int .i64 0] HTH.out)
                refine wpList_store_mid rfl 29 (.tmp 2) (.tmp 43) rfl gr 0 #[.int .i64 0, .int .i64 0, .int .i64 0, .int .i64 0, .int .i64 0, .int .i64 0, .int .i64 0, .int .i64 0] rfl rfl HTH.out (by kernel_rfl) (by simp [Value.oneCell']) ?_
                show wpList _ _ _ _ _ (wr.setCells gr 0 [.int .i64 0, .int .i64 0, .int .i64 0, .int .i64 0, .int .i64 0, .int .i64 0, .int .i64 0, .int .i64 0])
                clear HTH HR
                generalize wr.setCells gr 0 [.int .i64 0, .int .i64 0, .int .i64 0, .int .i64 0, .int .i64 0, .int .i64 0, .int .i64 0, .int .i64 0] = w6 at *
                go_wp2
                exact bodyPost_ret (results_mid2 rfl _ _ _ gr _ _ rfl HG6.out Try.underlying29 rfl (by kernel_rfl)) rfl ⟨by rw [HTR.out, HNN.out]; rfl, hgr ▸ HB6.out⟩
              · have HNB := Lib.hid (show ∀ wx, Calls Try.prog 34 #[.string ⟨(x :: s).toArray⟩, .int .i64 a, .int .i64 1] wx fun e wy => e = .returned (.int .u64 (val (((x :: s).drop a).take 1) : Nat)) ∧ wy = wx from fun wx => HNUM.out 1 (by show a + 1 ≤ s.length + 1; omega) (by decide) wx)
                have HNX := Lib.hid (show rkF [q0, q1, q2, 49, q4, q5, q6] (x :: s) (7 - 4) 4 (a + 1) (updN l 3 (val (((x :: s).drop a).take 1))) = ro by rw [← HK.out, HS.out, if_pos rfl]; exact (if_neg (by show ¬ s.length + 1 < a + 1; omega)).symm)
                have HR2 := Lib.hid (HR.out.set HGE.out.2.2 (by have := HGE.out; omega) (show 3 < 7 by decide) (val (((x :: s).drop a).take 1)))
                clear HNUM
                generalize val (((x :: s).drop a).take 1) = V at *
                go_wp2_with (go_at_call 34; refine (HNB.out _).mono ?_; rintro e w5 ⟨rfl, rfl⟩)
                go_roundw
                case rel => exact ⟨4, a + 1, _, by decide, rfl, by go_num, by omega, HNX.out, HR2.out⟩
                case measure => simp [intOf]
          · simp only [List.getD_cons_zero, List.getD_cons_succ] at hu HS
            rcases hu with rfl | rfl
            · have i1 : (⟨#[q0, q1, q2, q3, 48, q5, q6]⟩ : ByteArray)[4]'(by show 4 < 7; omega) = 48 := rfl
              go_wp2
              go_roundw
              case rel => exact ⟨5, a, l, by decide, rfl, rfl, ha, by rw [← HK.out, HS.out]; rfl, HR.out⟩
              case measure => simp [intOf]
            · have i1 : (⟨#[q0, q1, q2, q3, 49, q5, q6]⟩ : ByteArray)[4]'(by show 4 < 7; omega) = 49 := rfl
              have i2 : (⟨#[49, 52, 49, 49, 49, 56, 56]⟩ : ByteArray)[4]'(by decide) = 49 := rfl
              by_cases hfit : (s.length : Int) + 1 < (a : Int) + 1
              · have HNN := Lib.hid (show ro = none by rw [← HK.out, HS.out, if_pos rfl]; exact if_pos (by show s.length + 1 < a + 1; omega))
                go_upto_region 12 with (fail)
                have HTH := Lib.hid HR.out.hr.there
                go_step
                go_step
                go_step
                go_step
                have HB6 := Lib.hid (below_cells (Nat.le_refl _) [.int .i64 0, .int .i64 0, .int .i64 0, .int .i64 0, .int .i64 0, .int .i64 0, .int .i64 0, .int .i64 0] 0 _ (hgr ▸ HR.out.bel))
                have HG6 := Lib.hid (World.rangeAt_setCells_same wr gr 0 [.int .i64 0, .int .i64 0, .int .i64 0, .int .i64 0, .int .i64 0, .int .i64 0, .int .i64 0, .int .i64 0] HTH.out)
                refine wpList_store_mid rfl 29 (.tmp 2) (.tmp 43) rfl gr 0 #[.int .i64 0, .int .i64 0, .int .i64 0, .int .i64 0, .int .i64 0, .int .i64 0, .int .i64 0, .int .i64 0] rfl rfl HTH.out (by kernel_rfl) (by simp [Value.oneCell']) ?_
                show wpList _ _ _ _ _ (wr.setCells gr 0 [.int .i64 0, .int .i64 0, .int .i64 0, .int .i64 0, .int .i64 0, .int .i64 0, .int .i64 0, .int .i64 0])
                clear HTH HR
                generalize wr.setCells gr 0 [.int .i64 0, .int .i64 0, .int .i64 0, .int .i64 0, .int .i64 0, .int .i64 0, .int .i64 0, .int .i64 0] = w6 at *
                go_wp2
                exact bodyPost_ret (results_mid2 rfl _ _ _ gr _ _ rfl HG6.out Try.underlying29 rfl (by kernel_rfl)) rfl ⟨by rw [HTR.out, HNN.out]; rfl, hgr ▸ HB6.out⟩
              · have HNB := Lib.hid (show ∀ wx, Calls Try.prog 34 #[.string ⟨(x :: s).toArray⟩, .int .i64 a, .int .i64 1] wx fun e wy => e = .returned (.int .u64 (val (((x :: s).drop a).take 1) : Nat)) ∧ wy = wx from fun wx => HNUM.out 1 (by show a + 1 ≤ s.length + 1; omega) (by decide) wx)
                have HNX := Lib.hid (show rkF [q0, q1, q2, q3, 49, q5, q6] (x :: s) (7 - 5) 5 (a + 1) (updN l 4 (val (((x :: s).drop a).take 1))) = ro by rw [← HK.out, HS.out, if_pos rfl]; exact (if_neg (by show ¬ s.length + 1 < a + 1; omega)).symm)
                have HR2 := Lib.hid (HR.out.set HGE.out.2.2 (by have := HGE.out; omega) (show 4 < 7 by decide) (val (((x :: s).drop a).take 1)))
                clear HNUM
                generalize val (((x :: s).drop a).take 1) = V at *
                go_wp2_with (go_at_call 34; refine (HNB.out _).mono ?_; rintro e w5 ⟨rfl, rfl⟩)
                go_roundw
                case rel => exact ⟨5, a + 1, _, by decide, rfl, by go_num, by omega, HNX.out, HR2.out⟩
                case measure => simp [intOf]
          · simp only [List.getD_cons_zero, List.getD_cons_succ] at hu HS
            rcases hu with rfl | rfl
            · have i1 : (⟨#[q0, q1, q2, q3, q4, 48, q6]⟩ : ByteArray)[5]'(by show 5 < 7; omega) = 48 := rfl
              go_wp2
              go_roundw
              case rel => exact ⟨6, a, l, by decide, rfl, rfl, ha, by rw [← HK.out, HS.out]; rfl, HR.out⟩
              case measure => simp [intOf]
            · have i1 : (⟨#[q0, q1, q2, q3, q4, 49, q6]⟩ : ByteArray)[5]'(by show 5 < 7; omega) = 49 := rfl
              have i2 : (⟨#[49, 52, 49, 49, 49, 56, 56]⟩ : ByteArray)[5]'(by decide) = 56 := rfl
              by_cases hfit : (s.length : Int) + 1 < (a : Int) + 8
              · have HNN := Lib.hid (show ro = none by rw [← HK.out, HS.out, if_pos rfl]; exact if_pos (by show s.length + 1 < a + 8; omega))
                go_upto_region 12 with (fail)
                have HTH := Lib.hid HR.out.hr.there
                go_step
                go_step
                go_step
                go_step
                have HB6 := Lib.hid (below_cells (Nat.le_refl _) [.int .i64 0, .int .i64 0, .int .i64 0, .int .i64 0, .int .i64 0, .int .i64 0, .int .i64 0, .int .i64 0] 0 _ (hgr ▸ HR.out.bel))
                have HG6 := Lib.hid (World.rangeAt_setCells_same wr gr 0 [.int .i64 0, .int .i64 0, .int .i64 0, .int .i64 0, .int .i64 0, .int .i64 0, .int .i64 0, .int .i64 0] HTH.out)
                refine wpList_store_mid rfl 29 (.tmp 2) (.tmp 43) rfl gr 0 #[.int .i64 0, .int .i64 0, .int .i64 0, .int .i64 0, .int .i64 0, .int .i64 0, .int .i64 0, .int .i64 0] rfl rfl HTH.out (by kernel_rfl) (by simp [Value.oneCell']) ?_
                show wpList _ _ _ _ _ (wr.setCells gr 0 [.int .i64 0, .int .i64 0, .int .i64 0, .int .i64 0, .int .i64 0, .int .i64 0, .int .i64 0, .int .i64 0])
                clear HTH HR
                generalize wr.setCells gr 0 [.int .i64 0, .int .i64 0, .int .i64 0, .int .i64 0, .int .i64 0, .int .i64 0, .int .i64 0, .int .i64 0] = w6 at *
                go_wp2
                exact bodyPost_ret (results_mid2 rfl _ _ _ gr _ _ rfl HG6.out Try.underlying29 rfl (by kernel_rfl)) rfl ⟨by rw [HTR.out, HNN.out]; rfl, hgr ▸ HB6.out⟩
              · have HNB := Lib.hid (show ∀ wx, Calls Try.prog 34 #[.string ⟨(x :: s).toArray⟩, .int .i64 a, .int .i64 8] wx fun e wy => e = .returned (.int .u64 (val (((x :: s).drop a).take 8) : Nat)) ∧ wy = wx from fun wx => HNUM.out 8 (by show a + 8 ≤ s.length + 1; omega) (by decide) wx)
                have HNX := Lib.hid (show rkF [q0, q1, q2, q3, q4, 49, q6] (x :: s) (7 - 6) 6 (a + 8) (updN l 5 (val (((x :: s).drop a).take 8))) = ro by rw [← HK.out, HS.out, if_pos rfl]; exact (if_neg (by show ¬ s.length + 1 < a + 8; omega)).symm)
                have HR2 := Lib.hid (HR.out.set HGE.out.2.2 (by have := HGE.out; omega) (show 5 < 7 by decide) (val (((x :: s).drop a).take 8)))
                clear HNUM
                generalize val (((x :: s).drop a).take 8) = V at *
                go_wp2_with (go_at_call 34; refine (HNB.out _).mono ?_; rintro e w5 ⟨rfl, rfl⟩)
                go_roundw
                case rel => exact ⟨6, a + 8, _, by decide, rfl, by go_num, by omega, HNX.out, HR2.out⟩
                case measure => simp [intOf]
          · simp only [List.getD_cons_zero, List.getD_cons_succ] at hu HS
            rcases hu with rfl | rfl
            · have i1 : (⟨#[q0, q1, q2, q3, q4, q5, 48]⟩ : ByteArray)[6]'(by show 6 < 7; omega) = 48 := rfl
              go_wp2
              go_roundw
              case rel => exact ⟨7, a, l, by decide, rfl, rfl, ha, by rw [← HK.out, HS.out]; rfl, HR.out⟩
              case measure => simp [intOf]
            · have i1 : (⟨#[q0, q1, q2, q3, q4, q5, 49]⟩ : ByteArray)[6]'(by show 6 < 7; omega) = 49 := rfl
              have i2 : (⟨#[49, 52, 49, 49, 49, 56, 56]⟩ : ByteArray)[6]'(by decide) = 56 := rfl
              by_cases hfit : (s.length : Int) + 1 < (a : Int) + 8
              · have HNN := Lib.hid (show ro = none by rw [← HK.out, HS.out, if_pos rfl]; exact if_pos (by show s.length + 1 < a + 8; omega))
                go_upto_region 12 with (fail)
                have HTH := Lib.hid HR.out.hr.there
                go_step
                go_step
                go_step
                go_step
                have HB6 := Lib.hid (below_cells (Nat.le_refl _) [.int .i64 0, .int .i64 0, .int .i64 0, .int .i64 0, .int .i64 0, .int .i64 0, .int .i64 0, .int .i64 0] 0 _ (hgr ▸ HR.out.bel))
                have HG6 := Lib.hid (World.rangeAt_setCells_same wr gr 0 [.int .i64 0, .int .i64 0, .int .i64 0, .int .i64 0, .int .i64 0, .int .i64 0, .int .i64 0, .int .i64 0] HTH.out)
                refine wpList_store_mid rfl 29 (.tmp 2) (.tmp 43) rfl gr 0 #[.int .i64 0, .int .i64 0, .int .i64 0, .int .i64 0, .int .i64 0, .int .i64 0, .int .i64 0, .int .i64 0] rfl rfl HTH.out (by kernel_rfl) (by simp [Value.oneCell']) ?_
                show wpList _ _ _ _ _ (wr.setCells gr 0 [.int .i64 0, .int .i64 0, .int .i64 0, .int .i64 0, .int .i64 0, .int .i64 0, .int .i64 0, .int .i64 0])
                clear HTH HR
                generalize wr.setCells gr 0 [.int .i64 0, .int .i64 0, .int .i64 0, .int .i64 0, .int .i64 0, .int .i64 0, .int .i64 0, .int .i64 0] = w6 at *
                go_wp2
                exact bodyPost_ret (results_mid2 rfl _ _ _ gr _ _ rfl HG6.out Try.underlying29 rfl (by kernel_rfl)) rfl ⟨by rw [HTR.out, HNN.out]; rfl, hgr ▸ HB6.out⟩
              · have HNB := Lib.hid (show ∀ wx, Calls Try.prog 34 #[.string ⟨(x :: s).toArray⟩, .int .i64 a, .int .i64 8] wx fun e wy => e = .returned (.int .u64 (val (((x :: s).drop a).take 8) : Nat)) ∧ wy = wx from fun wx => HNUM.out 8 (by show a + 8 ≤ s.length + 1; omega) (by decide) wx)
                have HNX := Lib.hid (show rkF [q0, q1, q2, q3, q4, q5, 49] (x :: s) (7 - 7) 7 (a + 8) (updN l 6 (val (((x :: s).drop a).take 8))) = ro by rw [← HK.out, HS.out, if_pos rfl]; exact (if_neg (by show ¬ s.length + 1 < a + 8; omega)).symm)
                have HR2 := Lib.hid (HR.out.set HGE.out.2.2 (by have := HGE.out; omega) (show 6 < 7 by decide) (val (((x :: s).drop a).take 8)))
                clear HNUM
                generalize val (((x :: s).drop a).take 8) = V at *
                go_wp2_with (go_at_call 34; refine (HNB.out _).mono ?_; rintro e w5 ⟨rfl, rfl⟩)
                go_roundw
                case rel => exact ⟨7, a + 8, _, by decide, rfl, by go_num, by omega, HNX.out, HR2.out⟩
                case measure => simp [intOf]
        · obtain rfl : j = 7 := by omega
          have HTC := Lib.hid (show tc = if a = s.length + 1 ∧ may ⟨k, nof l⟩ = true then some ⟨k, nof l⟩ else none by rw [HTR.out, ← HK.out]; rfl)
          have z0 := hr.hl.cell (i := 0) (by omega)
          have z1 := hr.hl.cell (i := 1) (by omega)
          have z2 := hr.hl.cell (i := 2) (by omega)
          have z3 := hr.hl.cell (i := 3) (by omega)
          have z4 := hr.hl.cell (i := 4) (by omega)
          have z5 := hr.hl.cell (i := 5) (by omega)
          have z6 := hr.hl.cell (i := 6) (by omega)
          have d0 : wr.drew.cell? _ = _ := z0
          have d1 : wr.drew.cell? _ = _ := z1
          have d2 : wr.drew.cell? _ = _ := z2
          have d3 : wr.drew.cell? _ = _ := z3
          have d4 : wr.drew.cell? _ = _ := z4
          have d5 : wr.drew.cell? _ = _ := z5
          have d6 : wr.drew.cell? _ = _ := z6
          have HLT := Lib.hid (show gl < wr.heap.size from (Array.getElem?_eq_some_iff.1 hr.hl).1)
          clear hr hj hlt HQ HTR HK H7'
          go_upto_region 15 with (fail)
          go_region_held3 (fun wx => wx.cell? ⟨gl, 0, none⟩ = some (.int .u64 (l 0)) ∧ wx.cell? ⟨gl, 1, none⟩ = some (.int .u64 (l 1)) ∧ wx.cell? ⟨gl, 2, none⟩ = some (.int .u64 (l 2)) ∧ wx.cell? ⟨gl, 3, none⟩ = some (.int .u64 (l 3)) ∧ wx.cell? ⟨gl, 4, none⟩ = some (.int .u64 (l 4)) ∧ wx.cell? ⟨gl, 5, none⟩ = some (.int .u64 (l 5)) ∧ wx.cell? ⟨gl, 6, none⟩ = some (.int .u64 (l 6)))
            (first | assumption | exact ⟨d0, d1, d2, d3, d4, d5, d6⟩ | (have hba := (Below.refl wr.drew.heap.size wr.drew).alloc (Nat.le_refl _); exact ⟨kept_cell (hba _) d0, kept_cell (hba _) d1, kept_cell (hba _) d2, kept_cell (hba _) d3, kept_cell (hba _) d4, kept_cell (hba _) d5, kept_cell (hba _) d6⟩))
            (fail)
          all_goals
            have hb5 := ((Below.refl wr.heap.size wr).alloc (Nat.le_refl _) (.cells #[.int .i64 k, .int .i64 (IntKind.i64.wrap (l 0 : Nat)), .int .i64 (IntKind.i64.wrap (l 1 : Nat)), .int .i64 (IntKind.i64.wrap (l 2 : Nat)), .int .i64 (IntKind.i64.wrap (l 3 : Nat)), .int .i64 (IntKind.i64.wrap (l 4 : Nat)), .int .i64 (IntKind.i64.wrap (l 5 : Nat)), .int .i64 (IntKind.i64.wrap (l 6 : Nat))] 29 (0, 0))).drew
            have hc5 : RAt (wr.alloc (.cells #[.int .i64 k, .int .i64 (IntKind.i64.wrap (l 0 : Nat)), .int .i64 (IntKind.i64.wrap (l 1 : Nat)), .int .i64 (IntKind.i64.wrap (l 2 : Nat)), .int .i64 (IntKind.i64.wrap (l 3 : Nat)), .int .i64 (IntKind.i64.wrap (l 4 : Nat)), .int .i64 (IntKind.i64.wrap (l 5 : Nat)), .int .i64 (IntKind.i64.wrap (l 6 : Nat))] 29 (0, 0))).drew wr.heap.size ⟨k, nof l⟩ := by
              unfold RAt; rw [nof_cells]; exact heap_alloc_new _ _
            have HR5 := Lib.hid (HR.out.below hb5)
            have HRG := Lib.hid hc5.range
            have HMAY := Lib.hid (rmay_any ⟨k, nof l⟩)
            have HV := Lib.hid (nof_cells k l)
            have u := hc5
            unfold RAt at u
            rw [nof_cells] at u HMAY
            have u0 := (cell_of_row _ _ 0 _ _ _ u).trans rfl
            have u1 := (cell_of_row _ _ 1 _ _ _ u).trans rfl
            have u2 := (cell_of_row _ _ 2 _ _ _ u).trans rfl
            have u3 := (cell_of_row _ _ 3 _ _ _ u).trans rfl
            have u4 := (cell_of_row _ _ 4 _ _ _ u).trans rfl
            have u5 := (cell_of_row _ _ 5 _ _ _ u).trans rfl
            have u6 := (cell_of_row _ _ 6 _ _ _ u).trans rfl
            have u7 := (cell_of_row _ _ 7 _ _ _ u).trans rfl
            have HC5 := Lib.hid hc5
            rename_i hs5
            clear hs5 u hc5 z0 z1 z2 z3 z4 z5 z6 d0 d1 d2 d3 d4 d5 d6 hb5
            generalize (wr.alloc (.cells #[.int .i64 k, .int .i64 (IntKind.i64.wrap (l 0 : Nat)), .int .i64 (IntKind.i64.wrap (l 1 : Nat)), .int .i64 (IntKind.i64.wrap (l 2 : Nat)), .int .i64 (IntKind.i64.wrap (l 3 : Nat)), .int .i64 (IntKind.i64.wrap (l 4 : Nat)), .int .i64 (IntKind.i64.wrap (l 5 : Nat)), .int .i64 (IntKind.i64.wrap (l 6 : Nat))] 29 (0, 0))).drew = w5 at *
            generalize wr.heap.size = z at *
            generalize may ⟨k, nof l⟩ = m at *
            generalize IntKind.i64.wrap ((l 0 : Nat) : Int) = v0 at *
            generalize IntKind.i64.wrap ((l 1 : Nat) : Int) = v1 at *
            generalize IntKind.i64.wrap ((l 2 : Nat) : Int) = v2 at *
            generalize IntKind.i64.wrap ((l 3 : Nat) : Int) = v3 at *
            generalize IntKind.i64.wrap ((l 4 : Nat) : Int) = v4 at *
            generalize IntKind.i64.wrap ((l 5 : Nat) : Int) = v5 at *
            generalize IntKind.i64.wrap ((l 6 : Nat) : Int) = v6 at *
            by_cases hae : a = s.length + 1
            · have hai : ((a : Int) != (s.length : Int) + 1) = false := by rw [bne_eq_false_iff_eq]; omega
              cases m
              · have HNN := Lib.hid (show tc = none by rw [HTC.out]; simp)
                go_upto_region 17 with (go_at_call 16; refine (HMAY.out _).mono ?_; rintro e w9 ⟨rfl, hb9⟩; have HR9 := Lib.hid (HR5.out.below hb9); have HC9 := Lib.hid (show RAt w9 z ⟨k, nof l⟩ by have q := HC5.out; unfold RAt at q ⊢; rw [hb9.block _ (Array.getElem?_eq_some_iff.1 q).1]; exact q); clear hb9)
                have HTH := Lib.hid HR9.out.hr.there
                go_step
                go_step
                go_step
                go_step
                have HB6 := Lib.hid (below_cells (Nat.le_refl _) [.int .i64 0, .int .i64 0, .int .i64 0, .int .i64 0, .int .i64 0, .int .i64 0, .int .i64 0, .int .i64 0] 0 _ (hgr ▸ HR9.out.bel))
                have HG6 := Lib.hid (World.rangeAt_setCells_same w9 gr 0 [.int .i64 0, .int .i64 0, .int .i64 0, .int .i64 0, .int .i64 0, .int .i64 0, .int .i64 0, .int .i64 0] HTH.out)
                refine wpList_store_mid rfl 29 (.tmp 2) (.tmp 95) rfl gr 0 #[.int .i64 0, .int .i64 0, .int .i64 0, .int .i64 0, .int .i64 0, .int .i64 0, .int .i64 0, .int .i64 0] rfl rfl HTH.out (by kernel_rfl) (by simp [Value.oneCell']) ?_
                show wpList _ _ _ _ _ (w9.setCells gr 0 [.int .i64 0, .int .i64 0, .int .i64 0, .int .i64 0, .int .i64 0, .int .i64 0, .int .i64 0, .int .i64 0])
                clear HTH HR9 HC9 HC5 HRG u0 u1 u2 u3 u4 u5 u6 u7
                generalize w9.setCells gr 0 [.int .i64 0, .int .i64 0, .int .i64 0, .int .i64 0, .int .i64 0, .int .i64 0, .int .i64 0, .int .i64 0] = w6 at *
                go_wp2
                exact bodyPost_ret (results_mid2 rfl _ _ _ gr _ _ rfl HG6.out Try.underlying29 rfl (by kernel_rfl)) rfl ⟨by rw [HNN.out]; rfl, hgr ▸ HB6.out⟩
              · have HNN := Lib.hid (show tc = some ⟨k, nof l⟩ by rw [HTC.out]; simp [hae])
                go_upto_region 18 with (go_at_call 16; refine (HMAY.out _).mono ?_; rintro e w9 ⟨rfl, hb9⟩; have HR9 := Lib.hid (HR5.out.below hb9); have HC9 := Lib.hid (show RAt w9 z ⟨k, nof l⟩ by have q := HC5.out; unfold RAt at q ⊢; rw [hb9.block _ (Array.getElem?_eq_some_iff.1 q).1]; exact q); clear hb9)
                have HTH := Lib.hid HR9.out.hr.there
                have HRG9 := Lib.hid HC9.out.range
                rw [HV.out] at HRG9
                clear u0 u1 u2 u3 u4 u5 u6 u7
                go_step
                refine wpList_load_mid rfl 29 (.tmp 9) rfl z 0 rfl _ _ HRG9.out Try.underlying29 rfl (by kernel_rfl) ?_
                have HB6 := Lib.hid (below_cells (Nat.le_refl _) [.int .i64 k, .int .i64 v0, .int .i64 v1, .int .i64 v2, .int .i64 v3, .int .i64 v4, .int .i64 v5, .int .i64 v6] 0 _ (hgr ▸ HR9.out.bel))
                have HG6 := Lib.hid (World.rangeAt_setCells_same w9 gr 0 [.int .i64 k, .int .i64 v0, .int .i64 v1, .int .i64 v2, .int .i64 v3, .int .i64 v4, .int .i64 v5, .int .i64 v6] HTH.out)
                refine wpList_store_mid rfl 29 (.tmp 2) (.tmp 96) rfl gr 0 #[.int .i64 k, .int .i64 v0, .int .i64 v1, .int .i64 v2, .int .i64 v3, .int .i64 v4, .int .i64 v5, .int .i64 v6] rfl rfl HTH.out (by kernel_rfl) (by simp [Value.oneCell']) ?_
                show wpList _ _ _ _ _ (w9.setCells gr 0 [.int .i64 k, .int .i64 v0, .int .i64 v1, .int .i64 v2, .int .i64 v3, .int .i64 v4, .int .i64 v5, .int .i64 v6])
                clear HTH HR9 HRG9 HC9
                generalize w9.setCells gr 0 [.int .i64 k, .int .i64 v0, .int .i64 v1, .int .i64 v2, .int .i64 v3, .int .i64 v4, .int .i64 v5, .int .i64 v6] = w6 at *
                go_wp2
                exact bodyPost_ret (results_mid2 rfl _ _ _ gr _ _ rfl HG6.out Try.underlying29 rfl (by kernel_rfl)) rfl ⟨by rw [HNN.out, takeV, HV.out]; rfl, hgr ▸ HB6.out⟩
            · have hai : ((a : Int) != (s.length : Int) + 1) = true := by rw [bne_iff_ne]; omega
              have HNN := Lib.hid (show tc = none by rw [HTC.out]; simp [hae])
              go_upto_region 17 with (fail)
              have HTH := Lib.hid HR5.out.hr.there
              go_step
              go_step
              go_step
              go_step
              have HB6 := Lib.hid (below_cells (Nat.le_refl _) [.int .i64 0, .int .i64 0, .int .i64 0, .int .i64 0, .int .i64 0, .int .i64 0, .int .i64 0, .int .i64 0] 0 _ (hgr ▸ HR5.out.bel))
              have HG6 := Lib.hid (World.rangeAt_setCells_same w5 gr 0 [.int .i64 0, .int .i64 0, .int .i64 0, .int .i64 0, .int .i64 0, .int .i64 0, .int .i64 0, .int .i64 0] HTH.out)
              refine wpList_store_mid rfl 29 (.tmp 2) (.tmp 95) rfl gr 0 #[.int .i64 0, .int .i64 0, .int .i64 0, .int .i64 0, .int .i64 0, .int .i64 0, .int .i64 0, .int .i64 0] rfl rfl HTH.out (by kernel_rfl) (by simp [Value.oneCell']) ?_
              show wpList _ _ _ _ _ (w5.setCells gr 0 [.int .i64 0, .int .i64 0, .int .i64 0, .int .i64 0, .int .i64 0, .int .i64 0, .int .i64 0, .int .i64 0])
              clear HTH HR5 HC5 HRG u0 u1 u2 u3 u4 u5 u6 u7
              generalize w5.setCells gr 0 [.int .i64 0, .int .i64 0, .int .i64 0, .int .i64 0, .int .i64 0, .int .i64 0, .int .i64 0, .int .i64 0] = w6 at *
              go_wp2
              exact bodyPost_ret (results_mid2 rfl _ _ _ gr _ _ rfl HG6.out Try.underlying29 rfl (by kernel_rfl)) rfl ⟨by rw [HNN.out]; rfl, hgr ▸ HB6.out⟩
end Go.Proofs.Ytdpllkmbnphdgaa
