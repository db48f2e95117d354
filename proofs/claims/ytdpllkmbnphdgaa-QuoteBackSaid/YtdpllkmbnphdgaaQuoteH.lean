/- Quote: Bits and Command, walked; the awake calls. -/
import Derived.Test.YtdpllkmbnphdgaaQuoteE
import Derived.Test.YtdpllkmbnphdgaaWireI
import Derived.Deep.MidRow
import Derived.Laws.StructEq
import Derived.Laws.CopyOwn
namespace Go.Proofs.Ytdpllkmbnphdgaa
open Go.RowKit

theorem results_cmd {fn : Func} {p u : Tmp} {ty : TypeId} (h : fn.results = #[.cell p ty, .tmp u]) (tmps : Array Value) (P : Program) (w : World) (g : Nat) (cs : List Value) (d : TypeDesc)
    (hp : tmps.getD p undef = .pointer (some ⟨g, 0, none⟩)) (hc : w.rangeAt g 0 cs) (hu : P.underlying ty = some d) (hd : d.isRow = true) (hi : (P.info? ty).map (·.size) = some cs.length) :
    (results fn tmps).run P w = .ok (.tuple #[.agg cs.toArray, tmps.getD u undef]) w := by
  rw [results_cell_tmp h, hp]
  simp [asAddr, Result.andThen, run_loadVar_mid w g 0 ty cs d hc hu hd hi]
theorem bits_ok {n : Int} (h1 : 1 ≤ n) (h2 : n ≤ 100000000) {r : Nat} (hr : floatBits .quo .f64 (floatOfInt .f64 n) 4666723172467343360 = some r) (w : World) : Calls Try.prog 24 #[.int .i64 n] w fun e w' => e = .returned (.tuple #[.int .u64 r, .int .i64 0]) ∧ w' = w := by
  have hm : decide (1 ≤ n ∧ n ≤ 100000000) = true := decide_eq_true ⟨h1, h2⟩
  have hb := bits_runs
  have hc : ∀ w, (convert 2 78 (.int .i64 n)).run Try.prog w = .ok (.float .f64 (floatOfInt .f64 n)) w := fun w => run_convert_int_float (hs := by rw [Try.underlying2]; rfl) (hd := Try.underlying78) ..
  obtain ⟨x, hx⟩ : ∃ x, floatOfInt .f64 n = x := ⟨_, rfl⟩
  rw [hx] at hr hc
  have hq : ∀ w, (binOp .quo 78 (.float .f64 x) (.float .f64 4666723172467343360)).run Try.prog w = .ok (.float .f64 r) w := fun w => run_float_arith (h := hr) ..
  clear h1 h2 hx hr
  go_enter Try.func24, Try.ntmps24
  go_wp2_with fail
  refine (rate_may n _).mono ?_
  rintro e w1 ⟨rfl, rfl⟩
  rw [hm]
  go_wp2
  go_ret2
  exact ⟨rfl, rfl⟩
theorem bits_out {n : Int} (h : ¬ (1 ≤ n ∧ n ≤ 100000000)) (w : World) : Calls Try.prog 24 #[.int .i64 n] w fun e w' => e = .returned (.tuple #[.int .u64 0, .int .i64 1]) ∧ w' = w := by
  have hm : decide (1 ≤ n ∧ n ≤ 100000000) = false := decide_eq_false h
  clear h
  go_enter Try.func24, Try.ntmps24
  go_wp2_with fail
  refine (rate_may n _).mono ?_
  rintro e w1 ⟨rfl, rfl⟩
  rw [hm]
  go_wp2
  go_ret2
  exact ⟨rfl, rfl⟩
/-- the command that sets a rate. -/
def cmdOf (cur n : Int) : Cm := ⟨5, fun i => if i = 4 then cur else if i = 6 then n else 0⟩
theorem cmdOf_cells (cur n : Int) : (cmdOf cur n).cells = #[.int .i64 5, .int .i64 0, .int .i64 0, .int .i64 0, .int .i64 cur, .int .i64 0, .int .i64 n, .int .i64 0] := rfl
theorem below_cell {B : Nat} {w w1 : World} (h : Below B w w1) (i : Nat) (v : Value) : Below B w (w1.setCell ⟨B, i, none⟩ v) := h.setCell (Nat.le_refl B) v
theorem CmAt.setK {w : World} {g : Nat} {c : Cm} (h : CmAt w g c) (x : Int) : CmAt (w.setCell ⟨g, 0, none⟩ (.int .i64 x)) g ⟨x, c.n⟩ := by
  unfold CmAt at h ⊢
  rw [heap_setCell_same _ _ _ _ _ _ h]
  rfl
set_option maxHeartbeats 1000000 in
theorem command_ok {cur n : Int} {b : Nat} (hb : b < 18446744073709551616) (h1 : 0 ≤ cur) (h2 : cur ≤ 255) (hr : rateOf b = (n, 0)) (w : World) : Calls Try.prog 25 #[.int .i64 cur, .int .u64 b] w fun e w' => e = .returned (.tuple #[.agg (cmdOf cur n).cells, .int .i64 0]) ∧ Below w.heap.size w w' := by
  have HR := Lib.hid (fun w => rate_any hb w)
  rw [hr] at HR
  dsimp only at HR
  rw [cmdOf_cells]
  clear hr hb
  go_enter Try.func25, Try.ntmps25
  go_wp2_with fail
  have hn := cmAt_new w ⟨0, fun _ => 0⟩
  have hB := (Below.refl w.heap.size w).alloc (Nat.le_refl _) (.cells (Cm.cells ⟨0, fun _ => 0⟩) 23 (0, 0))
  refine (HR.out _).mono ?_
  rintro e w1 ⟨rfl, hb1⟩
  have hcm := hn.below hb1
  have c0 := hcm.kind
  have c1 := hcm.num (i := 1) (by omega) (by omega)
  have c2 := hcm.num (i := 2) (by omega) (by omega)
  have c3 := hcm.num (i := 3) (by omega) (by omega)
  have c4 := hcm.num (i := 4) (by omega) (by omega)
  have c5 := hcm.num (i := 5) (by omega) (by omega)
  have c6 := hcm.num (i := 6) (by omega) (by omega)
  have c7 := hcm.num (i := 7) (by omega) (by omega)
  have fz : ∀ i, w1.frozen? ⟨w.heap.size, i, none⟩ = false := fun i => frozen_of_row _ _ _ _ _ hcm
  dsimp only at c0 c1 c2 c3 c4 c5 c6 c7
  have H := Lib.hid hcm
  clear hcm
  have hB1 := hB.trans (hb1.mono hB.size)
  have HB2 := Lib.hid hB1
  clear hn hB hb1 hB1
  go_wp2
  have HC := (((((((CmAt.setK H.out 5).set (i := 1) (by omega) (by omega) 0).set (i := 2) (by omega) (by omega) 0).set (i := 3) (by omega) (by omega) 0).set (i := 4) (by omega) (by omega) cur).set (i := 5) (by omega) (by omega) 0).set (i := 6) (by omega) (by omega) n).set (i := 7) (by omega) (by omega) 0
  have HB3 := below_cell (below_cell (below_cell (below_cell (below_cell (below_cell (below_cell (below_cell HB2.out 0 (.int .i64 5)) 1 (.int .i64 0)) 2 (.int .i64 0)) 3 (.int .i64 0)) 4 (.int .i64 cur)) 5 (.int .i64 0)) 6 (.int .i64 n)) 7 (.int .i64 0)
  exact bodyPost_ret (results_cmd rfl _ _ _ w.heap.size _ _ rfl (CmAt.range HC) Try.underlying23 rfl (by kernel_rfl)) rfl ⟨rfl, HB3⟩
set_option maxRecDepth 100000 in
theorem aw_r1 : rateOf 4608308318706860032 = (12500, 0) := by decide +kernel
theorem aw_r2 : rateOf 9218868437227405312 = (0, 3) := by decide +kernel
theorem aw_r3 : rateOf 9218868437227405313 = (0, 2) := by decide +kernel
theorem aw_r4 : rateOf 9223372036854775808 = (0, 1) := by decide +kernel
theorem aw_b : floatBits .quo .f64 (floatOfInt .f64 12500) 4666723172467343360 = some 4608308318706860032 := by decide +kernel
theorem aw_rate {b : Nat} {x e : Int} (hb : b < 18446744073709551616) (hr : rateOf b = (x, e)) (w : World) : Calls Try.prog 23 #[.int .u64 b] w fun e' w' => e' = .returned (.tuple #[.int .i64 x, .int .i64 e]) ∧ Below w.heap.size w w' := by
  have h := rate_any hb w
  rw [hr] at h
  exact h
set_option maxRecDepth 100000 in
set_option maxHeartbeats 4000000 in
theorem awake_q (w : World) : Calls Try.prog 22 #[] w fun e w' => e = .returned (.bool true) ∧ Below w.heap.size w w' := by
  have H1 := Lib.hid (fun w => aw_rate (by omega) aw_r1 w)
  have H2 := Lib.hid (fun w => aw_rate (by omega) aw_r2 w)
  have H3 := Lib.hid (fun w => aw_rate (by omega) aw_r3 w)
  have H4 := Lib.hid (fun w => aw_rate (by omega) aw_r4 w)
  have H5 := Lib.hid (fun w => command_ok (cur := 3) (n := 12500) (b := 4608308318706860032) (by omega) (by omega) (by omega) aw_r1 w)
  have H6 := Lib.hid (fun w => bits_ok (n := 12500) (by omega) (by omega) aw_b w)
  have H7 := Lib.hid (fun w => bits_out (n := 0) (by omega) w)
  rw [cmdOf_cells] at H5
  go_enter Try.func22, Try.ntmps22
  go_wp2_with fail
  refine (H1.out _).mono ?_
  rintro e w1 ⟨rfl, hb1⟩
  go_wp2_with fail
  refine (H2.out _).mono ?_
  rintro e w2 ⟨rfl, hb2⟩
  replace hb2 := hb1.trans (hb2.mono hb1.size)
  clear hb1
  go_wp2_with fail
  refine (H3.out _).mono ?_
  rintro e w3 ⟨rfl, hb3⟩
  replace hb3 := hb2.trans (hb3.mono hb2.size)
  clear hb2
  go_wp2_with fail
  refine (H4.out _).mono ?_
  rintro e w4 ⟨rfl, hb4⟩
  replace hb4 := hb3.trans (hb4.mono hb3.size)
  clear hb3
  go_wp2_with fail
  refine (H5.out _).mono ?_
  rintro e w5 ⟨rfl, hb5⟩
  replace hb5 := hb4.trans (hb5.mono hb4.size)
  clear hb4
  go_wp2_with fail
  refine (H6.out _).mono ?_
  rintro e w6 ⟨rfl, rfl⟩
  go_wp2_with fail
  refine (H7.out _).mono ?_
  rintro e w7 ⟨rfl, rfl⟩
  have HB := Lib.hid (hb5.alloc hb5.size (.cells #[.int .i64 5, .int .i64 0, .int .i64 0, .int .i64 0, .int .i64 3, .int .i64 0, .int .i64 12500, .int .i64 0] 23 (0, 0)))
  clear hb5
  go_wp2
  go_ret
  exact ⟨by simp, HB.out⟩
end Go.Proofs.Ytdpllkmbnphdgaa
