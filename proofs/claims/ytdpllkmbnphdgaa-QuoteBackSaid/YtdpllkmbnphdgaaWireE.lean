/- Wire: a command's cells; the document's numbers of a command; the conversion of the law. -/
import Derived.Test.YtdpllkmbnphdgaaWireD
namespace Go.Proofs.Ytdpllkmbnphdgaa
open Go.RowKit

/-- a command: its kind, its seven numbers. -/
structure Cm where
  k : Int
  n : Nat → Int
def Cm.cells (c : Cm) : Array Value := #[.int .i64 c.k, .int .i64 (c.n 1), .int .i64 (c.n 2), .int .i64 (c.n 3), .int .i64 (c.n 4), .int .i64 (c.n 5), .int .i64 (c.n 6), .int .i64 (c.n 7)]
def Cm.list (c : Cm) : List Int := [c.n 1, c.n 2, c.n 3, c.n 4, c.n 5, c.n 6, c.n 7]
theorem slInt_row {W : World} {g : Nat} {t : TypeId} (L : List Int) (c : Nat) (h : W.heap[g]? = some (.cells (L.map (Value.int .i64)).toArray t (0, 0))) : SlInt W (.slice (some ⟨g, 0, none⟩) L.length c) L :=
  ⟨some ⟨g, 0, none⟩, c, rfl, fun _ => ⟨g, 0, rfl, fun j x hx => by
    rw [cell_of_row _ _ _ _ _ _ h, Nat.zero_add]
    simp [hx]⟩⟩
set_option maxRecDepth 100000 in
set_option maxHeartbeats 1000000 in
theorem numbers_any (c : Cm) (w : World) :
    Calls Try.prog 30 #[.agg c.cells] w fun e w' => ∃ v, e = .returned v ∧ SlInt w' v c.list ∧ Below w.heap.size w w' := by
  obtain ⟨k, n⟩ := c
  unfold Cm.cells
  go_enter Try.func30, Try.ntmps30
  go_wp2
  go_ret
  refine ⟨_, rfl, slInt_row [n 1, n 2, n 3, n 4, n 5, n 6, n 7] 7 (g := w.heap.size + 1) (t := 2) ?_, ((Below.refl _ _).alloc (Nat.le_refl _) _).alloc (by simp) _⟩
  have := heap_alloc_new (w.alloc (.cells #[.int .i64 k, .int .i64 (n 1), .int .i64 (n 2), .int .i64 (n 3), .int .i64 (n 4), .int .i64 (n 5), .int .i64 (n 6), .int .i64 (n 7)] 29 (0, 0))) (.cells #[.int .i64 (n 1), .int .i64 (n 2), .int .i64 (n 3), .int .i64 (n 4), .int .i64 (n 5), .int .i64 (n 6), .int .i64 (n 7)] 2 (0, 0))
  rw [show (w.alloc (.cells #[.int .i64 k, .int .i64 (n 1), .int .i64 (n 2), .int .i64 (n 3), .int .i64 (n 4), .int .i64 (n 5), .int .i64 (n 6), .int .i64 (n 7)] 29 (0, 0))).heap.size = w.heap.size + 1 by simp] at this
  exact this
end Go.Proofs.Ytdpllkmbnphdgaa
