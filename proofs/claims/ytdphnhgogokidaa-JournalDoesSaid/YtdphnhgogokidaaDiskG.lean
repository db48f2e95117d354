/- Walks of the document's disk: where it lies, its power, its room, Append and Sync. -/
import Derived.Test.YtdphnhgogokidaaDiskC
import Derived.StillTailTactics
import Derived.Deep.QuietTactic
namespace Go.Proofs.Ytdphnhgogokidaa
open Go.RowKit

/-- an operation, if there is power. -/
def Dk.step (d : Dk) (f : Dk → Out) : Out := if d.fuse = 0 ∨ d.down = true then ⟨9, { d with down := true }⟩ else f d.burnt
def Dk.append (d : Dk) (i : Int) (b : List UInt8) : Out := if hasB i = true then d.step (·.app i.toNat b) else ⟨1, d⟩
def Dk.sync (d : Dk) (i : Int) : Out := if hasB i = true then d.step (·.syn i.toNat) else ⟨1, d⟩
def Dk.cutto (d : Dk) (i n : Int) : Out := if hasB i = true ∧ 0 ≤ n ∧ n ≤ (d.b i.toNat).length then d.step (·.cut i.toNat n.toNat) else ⟨1, d⟩
def Dk.move (d : Dk) (i j : Int) : Out := if hasB i = true ∧ hasB j = true then d.step (·.mov i.toNat j.toNat) else ⟨1, d⟩
theorem hasB_nat {i : Int} (h : hasB i = true) : ∃ k : Nat, k < 4 ∧ i = (k : Int) := by
  simp [hasB] at h
  exact ⟨i.toNat, by omega, by omega⟩
theorem burnt_b (d : Dk) : d.burnt.b = d.b := by unfold Dk.burnt; split <;> rfl

def RefAt (w : World) (g : Nat) (d : Dk) : Prop := w.heap[g]? = some (.cells d.rcells 40 (0, 0))
section
variable {w : World} {g : Nat} {d : Dk} (h : RefAt w g d)
include h
theorem RefAt.lt : g < w.heap.size := (Array.getElem?_eq_some_iff.1 h).1
theorem RefAt.cellb {i : Nat} (hi : i < 4) : w.cell? ⟨g, i, none⟩ = some (.string ⟨(d.b i).toArray⟩) := by
  rw [cell_of_row _ _ _ _ _ _ h]
  rcases four hi with rfl | rfl | rfl | rfl <;> rfl
theorem RefAt.cells {i : Nat} (hi : i < 4) : w.cell? ⟨g, 4 + i, none⟩ = some (.int .i64 (d.s i)) := by
  rw [cell_of_row _ _ _ _ _ _ h]
  rcases four hi with rfl | rfl | rfl | rfl <;> rfl
theorem RefAt.cellr : w.cell? ⟨g, 8, none⟩ = some (.int .i64 d.room) := by rw [cell_of_row _ _ _ _ _ _ h]; rfl
theorem RefAt.cellf : w.cell? ⟨g, 9, none⟩ = some (.int .i64 d.fuse) := by rw [cell_of_row _ _ _ _ _ _ h]; rfl
theorem RefAt.celld : w.cell? ⟨g, 10, none⟩ = some (.bool d.down) := by rw [cell_of_row _ _ _ _ _ _ h]; rfl
theorem RefAt.frozen (j : Nat) : w.frozen? ⟨g, j, none⟩ = false := frozen_of_row _ _ _ _ _ h
theorem RefAt.below {w1 : World} (hb : Below w.heap.size w w1) : RefAt w1 g d := by
  unfold RefAt at h ⊢
  rw [hb.block g (Array.getElem?_eq_some_iff.1 h).1]; exact h
theorem RefAt.only {k : Nat} {w1 : World} (ho : Only k w w1) (hne : g ≠ k) : RefAt w1 g d := ho.heap h hne
theorem RefAt.setb {i : Nat} (hi : i < 4) (x : List UInt8) : RefAt (w.setCell ⟨g, i, none⟩ (.string ⟨x.toArray⟩)) g { d with b := upd d.b i x } := by
  have := heap_setCell_same w g i _ _ (.string ⟨x.toArray⟩) h
  unfold RefAt
  rw [this]
  rcases four hi with rfl | rfl | rfl | rfl <;> rfl
theorem RefAt.sets {i : Nat} (hi : i < 4) (n : Nat) : RefAt (w.setCell ⟨g, 4 + i, none⟩ (.int .i64 n)) g { d with s := upd d.s i n } := by
  have := heap_setCell_same w g (4 + i) _ _ (.int .i64 n) h
  unfold RefAt
  rw [this]
  rcases four hi with rfl | rfl | rfl | rfl <;> rfl
theorem RefAt.setf (n : Int) : RefAt (w.setCell ⟨g, 9, none⟩ (.int .i64 n)) g { d with fuse := n } := heap_setCell_same w g 9 _ _ (.int .i64 n) h
theorem RefAt.setd (x : Bool) : RefAt (w.setCell ⟨g, 10, none⟩ (.bool x)) g { d with down := x } := heap_setCell_same w g 10 _ _ (.bool x) h
end
theorem DiskAt.only {w w1 : World} {g k : Nat} {d : Dk} (h : DiskAt w g d) (ho : Only k w w1) (hne : g ≠ k) : DiskAt w1 g d := ho.heap h hne
set_option maxRecDepth 100000 in
set_option maxHeartbeats 400000 in
theorem no_any (i : Int) (w : World) : Calls Try.prog 85 #[.int .i64 i] w fun e w' => e = .returned (.bool (!hasB i)) ∧ w' = w := by
  by_cases h : 0 ≤ i
  · by_cases h4 : i < 4
    · have e : hasB i = true := by unfold hasB; exact decide_eq_true (by omega)
      rw [e]
      clear e
      go_enter Try.func85, Try.ntmps85
      go_wp2
      go_ret
      refine ⟨?_, rfl⟩
      have : ¬ 3 < i := by omega
      simp [this, h]
    · have e : hasB i = false := by unfold hasB; exact decide_eq_false (by omega)
      rw [e]
      clear e
      go_enter Try.func85, Try.ntmps85
      go_wp2
      go_ret
      refine ⟨?_, rfl⟩
      have : 3 < i := by omega
      simp [this]
  · have e : hasB i = false := by unfold hasB; exact decide_eq_false (by omega)
    rw [e]
    clear e
    go_enter Try.func85, Try.ntmps85
    go_wp2
    go_ret
    exact ⟨rfl, rfl⟩
theorem no_q (i : Int) (b : Bool) (h : hasB i = b) (w : World) : Calls Try.prog 85 #[.int .i64 i] w fun e w' => e = .returned (.bool (!b)) ∧ w' = w := by
  have := no_any i w; rwa [h] at this
set_option maxRecDepth 100000 in
set_option maxHeartbeats 400000 in
theorem ref_new (room : Int) (h0 : 0 ≤ room) (h1 : room ≤ 16777216) (w : World) :
    Calls Try.prog 17 #[.int .i64 room] w fun e w' => e = .returned (.tuple #[.pointer (some ⟨w.heap.size, 0, none⟩), .int .i64 0]) ∧ RefAt w' w.heap.size (Dk.new room) ∧ Below w.heap.size w w' ∧ w.heap.size < w'.heap.size := by
  go_enter Try.func17, Try.ntmps17
  go_wp2
  go_ret2
  exact ⟨rfl, heap_alloc_new _ _, (Below.refl _ _).alloc (Nat.le_refl _) _, by simp⟩
set_option maxRecDepth 100000 in
set_option maxHeartbeats 400000 in
theorem ref_none (room : Int) (h : room < 0 ∨ 16777216 < room) (w : World) :
    Calls Try.prog 17 #[.int .i64 room] w fun e w' => e = .returned (.tuple #[.pointer none, .int .i64 1]) ∧ w = w' := by
  rcases h with h | h
  all_goals
    go_enter Try.func17, Try.ntmps17
    go_wp2
    go_ret2
    exact ⟨rfl, rfl⟩
set_option maxRecDepth 100000 in
set_option maxHeartbeats 1000000 in
theorem ref_left (g : Nat) (d : Dk) (w : World) (h : RefAt w g d) (ho : d.Ok) :
    Calls Try.prog 20 #[.pointer (some ⟨g, 0, none⟩)] w fun e w' => e = .returned (.int .i64 d.left) ∧ ∃ n, w' = w.drewN n := by
  have hr := h.cellr
  have b0 := h.cellb (i := 0) (by omega)
  have b1 := h.cellb (i := 1) (by omega)
  have b2 := h.cellb (i := 2) (by omega)
  have b3 := h.cellb (i := 3) (by omega)
  have h0 := ho.room0
  have h1 := ho.room1
  have h2 := ho.left
  have h3 := ho.len (i := 0) (by omega)
  unfold Dk.left at h2 ⊢
  have w1 := IntWalk.i64_in (d.room - ((d.b 0).length : Int)) (by omega)
  have w2 := IntWalk.i64_in (d.room - ((d.b 0).length : Int) - ((d.b 1).length : Int)) (by omega)
  have w3 := IntWalk.i64_in (d.room - ((d.b 0).length : Int) - ((d.b 1).length : Int) - ((d.b 2).length : Int)) (by omega)
  have w4 := IntWalk.i64_in (d.room - ((d.b 0).length : Int) - ((d.b 1).length : Int) - ((d.b 2).length : Int) - ((d.b 3).length : Int)) (by omega)
  clear h ho
  go_enter Try.func20, Try.ntmps20
  go_upto_region 1 with (fail)
  go_quiet (fail)
  go_wp2
  go_ret
  exact ⟨rfl, nq, rfl⟩
set_option maxRecDepth 100000 in
set_option maxHeartbeats 1000000 in
theorem burn_no (g : Nat) (d : Dk) (w : World) (h : RefAt w g d) (hp : d.fuse = 0 ∨ d.down = true) :
    Calls Try.prog 86 #[.pointer (some ⟨g, 0, none⟩)] w fun e w' => e = .returned (.bool false) ∧ RefAt w' g { d with down := true } ∧ Only g w w' := by
  have hf := h.cellf
  have hz := h.frozen 10
  have HS := Lib.hid (h.setd true)
  by_cases hdn : d.down = true
  · have hd := h.celld
    rw [hdn] at hd
    clear h hp hdn
    go_enter Try.func86, Try.ntmps86
    go_wp2
    go_ret
    exact ⟨rfl, HS.out, (Only.refl _ _).setCell _ _⟩
  · have h0 : d.fuse = 0 := hp.resolve_right hdn
    have hd := h.celld
    rw [Bool.eq_false_iff.2 hdn] at hd
    rw [h0] at hf
    clear h hp hdn h0
    go_enter Try.func86, Try.ntmps86
    go_wp2
    go_ret
    exact ⟨rfl, HS.out, (Only.refl _ _).setCell _ _⟩
set_option maxRecDepth 100000 in
set_option maxHeartbeats 1000000 in
theorem burn_yes (g : Nat) (d : Dk) (w : World) (h : RefAt w g d) (ho : d.Ok) (hp : ¬ (d.fuse = 0 ∨ d.down = true)) :
    Calls Try.prog 86 #[.pointer (some ⟨g, 0, none⟩)] w fun e w' => e = .returned (.bool true) ∧ RefAt w' g d.burnt ∧ Only g w w' := by
  have hf := h.cellf
  have hz := h.frozen 9
  have hd := h.celld
  have h0 : d.fuse ≠ 0 := fun h => hp (.inl h)
  have hdn : d.down = false := Bool.eq_false_iff.2 (fun h => hp (.inr h))
  have hlo := ho.fuse
  have hhi := ho.fuse1
  rw [hdn] at hd
  have e0 : (d.fuse == 0) = false := by simp [h0]
  by_cases h1 : d.fuse = -1
  · have hb : d.burnt = d := by simp [Dk.burnt, h1]
    rw [hb]
    have HS := Lib.hid h
    rw [h1] at hf
    clear h hp h0 hdn e0 hb h1 ho hlo hhi
    go_enter Try.func86, Try.ntmps86
    go_wp2
    go_ret
    exact ⟨rfl, HS.out, Only.refl _ _⟩
  · have hb : d.burnt = { d with fuse := d.fuse - 1 } := by simp [Dk.burnt, h1]
    rw [hb]
    have HS := Lib.hid (h.setf (d.fuse - 1))
    have h2 : 0 < d.fuse := by omega
    clear h hp hdn hb h1 ho hlo h0
    go_enter Try.func86, Try.ntmps86
    go_wp2
    go_ret
    exact ⟨rfl, HS.out, (Only.refl _ _).setCell _ _⟩
end Go.Proofs.Ytdphnhgogokidaa
