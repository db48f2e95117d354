/- Wire: the law's conversion. -/
import Derived.Test.YtdpllkmbnphdgaaWireE
import Derived.Laws.Rows
namespace Go.Proofs.Ytdpllkmbnphdgaa
open Go.RowKit

set_option maxRecDepth 100000 in
set_option maxHeartbeats 1000000 in
theorem own_any (c : Cm) (w : World) :
    Calls Try.prog 12 #[.agg c.cells] w fun e w' => e = .returned (.agg c.cells) ∧ Below w.heap.size w w' := by
  obtain ⟨k, n⟩ := c
  unfold Cm.cells
  go_enter Try.func12, Try.ntmps12
  go_wp2
  have hg := heap_alloc_new (w.alloc (.cells #[.int .i64 k, .int .i64 (n 1), .int .i64 (n 2), .int .i64 (n 3), .int .i64 (n 4), .int .i64 (n 5), .int .i64 (n 6), .int .i64 (n 7)] 23 (0, 0))) (.cells #[.int .i64 k, .int .i64 (n 1), .int .i64 (n 2), .int .i64 (n 3), .int .i64 (n 4), .int .i64 (n 5), .int .i64 (n 6), .int .i64 (n 7)] 29 (0, 0))
  rw [show (w.alloc (.cells #[.int .i64 k, .int .i64 (n 1), .int .i64 (n 2), .int .i64 (n 3), .int .i64 (n 4), .int .i64 (n 5), .int .i64 (n 6), .int .i64 (n 7)] 23 (0, 0))).heap.size = w.heap.size + 1 by simp] at hg
  exact bodyPost_ret (results_cell_row rfl _ _ (w.heap.size + 1) 29 _ (0, 0) _ rfl hg Try.underlying29 rfl (by kernel_rfl)) rfl ⟨rfl, ((Below.refl _ _).alloc (Nat.le_refl _) _).alloc (by simp) _⟩
end Go.Proofs.Ytdpllkmbnphdgaa
