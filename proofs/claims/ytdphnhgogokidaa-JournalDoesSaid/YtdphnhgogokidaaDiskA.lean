/- Disks: what a disk holds, in plain words and as cells; the small functions of package disk. -/
import Derived.Test.YtdphnhgogokidaaRows
import Derived.WalkKit
import Derived.WalkSpells
import Derived.WalkLawsBesides
import Derived.Lib.Hide
import Derived.BigQuiet
import Derived.BigRegion
import Derived.Deep.MidRow
import Derived.LoopN
namespace Go.Proofs.Ytdphnhgogokidaa
open Go.RowKit

/-- what a disk holds. -/
structure Dk where
  b : Nat → List UInt8
  s : Nat → Nat
  room : Int
  fuse : Int
  down : Bool
def upd {α : Type} (f : Nat → α) (i : Nat) (v : α) : Nat → α := fun j => if j = i then v else f j
def Dk.cell (d : Dk) (i : Nat) : Value := .string ⟨(d.b i).toArray⟩
def Dk.cells (d : Dk) : Array Value := #[d.cell 0, .int .i64 (d.s 0), d.cell 1, .int .i64 (d.s 1), d.cell 2, .int .i64 (d.s 2), d.cell 3, .int .i64 (d.s 3), .int .i64 d.room, .int .i64 d.fuse, .bool d.down]
def Dk.rcells (d : Dk) : Array Value := #[d.cell 0, d.cell 1, d.cell 2, d.cell 3, .int .i64 (d.s 0), .int .i64 (d.s 1), .int .i64 (d.s 2), .int .i64 (d.s 3), .int .i64 d.room, .int .i64 d.fuse, .bool d.down]
def DiskAt (w : World) (g : Nat) (d : Dk) : Prop := w.heap[g]? = some (.cells d.cells 92 (0, 0))
theorem upd_same {α : Type} (f : Nat → α) (i : Nat) (v : α) : upd f i v i = v := by simp [upd]
theorem upd_other {α : Type} (f : Nat → α) {i j : Nat} (v : α) (h : j ≠ i) : upd f i v j = f j := by simp [upd, h]
theorem four {i : Nat} (h : i < 4) : i = 0 ∨ i = 1 ∨ i = 2 ∨ i = 3 := by omega
section
variable {w : World} {g : Nat} {d : Dk} (h : DiskAt w g d)
include h
theorem DiskAt.lt : g < w.heap.size := (Array.getElem?_eq_some_iff.1 h).1
theorem DiskAt.cellb {i : Nat} (hi : i < 4) : w.cell? ⟨g, i * 2, none⟩ = some (.string ⟨(d.b i).toArray⟩) := by
  rw [cell_of_row _ _ _ _ _ _ h]
  rcases four hi with rfl | rfl | rfl | rfl <;> rfl
theorem DiskAt.cells {i : Nat} (hi : i < 4) : w.cell? ⟨g, i * 2 + 1, none⟩ = some (.int .i64 (d.s i)) := by
  rw [cell_of_row _ _ _ _ _ _ h]
  rcases four hi with rfl | rfl | rfl | rfl <;> rfl
theorem DiskAt.cellr : w.cell? ⟨g, 8, none⟩ = some (.int .i64 d.room) := by rw [cell_of_row _ _ _ _ _ _ h]; rfl
theorem DiskAt.cellf : w.cell? ⟨g, 9, none⟩ = some (.int .i64 d.fuse) := by rw [cell_of_row _ _ _ _ _ _ h]; rfl
theorem DiskAt.celld : w.cell? ⟨g, 10, none⟩ = some (.bool d.down) := by rw [cell_of_row _ _ _ _ _ _ h]; rfl
theorem DiskAt.frozen (j : Nat) : w.frozen? ⟨g, j, none⟩ = false := frozen_of_row _ _ _ _ _ h
theorem DiskAt.below {w1 : World} (hb : Below w.heap.size w w1) : DiskAt w1 g d := by
  unfold DiskAt at h ⊢
  rw [hb.block g (Array.getElem?_eq_some_iff.1 h).1]; exact h
theorem DiskAt.setb {i : Nat} (hi : i < 4) (x : List UInt8) : DiskAt (w.setCell ⟨g, i * 2, none⟩ (.string ⟨x.toArray⟩)) g { d with b := upd d.b i x } := by
  have := heap_setCell_same w g (i * 2) _ _ (.string ⟨x.toArray⟩) h
  unfold DiskAt
  rw [this]
  rcases four hi with rfl | rfl | rfl | rfl <;> rfl
theorem DiskAt.sets {i : Nat} (hi : i < 4) (n : Nat) : DiskAt (w.setCell ⟨g, i * 2 + 1, none⟩ (.int .i64 n)) g { d with s := upd d.s i n } := by
  have := heap_setCell_same w g (i * 2 + 1) _ _ (.int .i64 n) h
  unfold DiskAt
  rw [this]
  rcases four hi with rfl | rfl | rfl | rfl <;> rfl
theorem DiskAt.setf (n : Int) : DiskAt (w.setCell ⟨g, 9, none⟩ (.int .i64 n)) g { d with fuse := n } := heap_setCell_same w g 9 _ _ (.int .i64 n) h
theorem DiskAt.setd (x : Bool) : DiskAt (w.setCell ⟨g, 10, none⟩ (.bool x)) g { d with down := x } := heap_setCell_same w g 10 _ _ (.bool x) h
end
/-- only block g, and what is new, has turned. -/
abbrev Only (g : Nat) (w w' : World) : Prop := w.grownBy w' (some g)
theorem Only.refl (g : Nat) (w : World) : Only g w w := ⟨rfl, rfl, rfl, Nat.le_refl _, fun _ _ _ => rfl⟩
theorem Only.of_below {g : Nat} {w w' : World} (h : Below w.heap.size w w') : Only g w w' := ⟨h.os, h.tape, h.output, h.size, fun k hk _ => h.block k hk⟩
theorem Only.trans {g : Nat} {a b c : World} (h : Only g a b) (k : Only g b c) : Only g a c :=
  ⟨k.os.trans h.os, k.tape.trans h.tape, k.output.trans h.output, Nat.le_trans h.size k.size, fun i hi hne => (k.block i (Nat.lt_of_lt_of_le hi h.size) hne).trans (h.block i hi hne)⟩
theorem Only.setCell {g : Nat} {a b : World} (h : Only g a b) (o : Nat) (v : Value) : Only g a (b.setCell ⟨g, o, none⟩ v) :=
  h.trans ⟨rfl, rfl, rfl, by simp [World.setCell], fun k _ hne => Below.heap_setCell _ _ _ _ (fun e => hne (by rw [e]))⟩
theorem Only.drew {g : Nat} {a b : World} (h : Only g a b) : Only g a b.drew := ⟨h.os, h.tape, h.output, h.size, h.block⟩
theorem Only.drewN {g : Nat} {a b : World} (h : Only g a b) (n : Nat) : Only g a (b.drewN n) := ⟨h.os, h.tape, h.output, h.size, h.block⟩
theorem Only.alloc {g : Nat} {a b : World} (h : Only g a b) (o : Obj) : Only g a (b.alloc o) := h.trans (Only.of_below ((Below.refl _ _).alloc (Nat.le_refl _) o))
theorem Only.heap {g : Nat} {a b : World} (h : Only g a b) {k : Nat} {o : Obj} (hk : a.heap[k]? = some o) (hne : k ≠ g) : b.heap[k]? = some o := by
  rw [h.block k (Array.getElem?_eq_some_iff.1 hk).1 (by simpa using hne)]; exact hk
theorem Only.cell {g : Nat} {a b : World} (h : Only g a b) {p : Addr} {v : Value} (hp : a.cell? p = some v) (hne : p.block ≠ g) : b.cell? p = some v := by
  rw [World.cell?_of_block (w := a) (h.block p.block (block_lt_of_cell hp) (by simpa using hne))]; exact hp
/-- is there a file of that number? -/
def hasB (i : Int) : Bool := decide (0 ≤ i ∧ i < 4)
theorem hasB_yes {i : Nat} (h : i < 4) : hasB i = true := by simp [hasB]; omega
set_option maxRecDepth 100000 in
set_option maxHeartbeats 400000 in
theorem has_any (i : Int) (w : World) : Calls Try.prog 56 #[.int .i64 i] w fun e w' => e = .returned (.bool (hasB i)) ∧ w = w' := by
  by_cases h : 0 ≤ i
  · by_cases h4 : i < 4
    · go_enter Try.func56, Try.ntmps56
      go_wp2
      go_ret
      exact ⟨by simp [hasB, h, h4], rfl⟩
    · go_enter Try.func56, Try.ntmps56
      go_wp2
      go_ret
      exact ⟨by simp [hasB, h4], rfl⟩
  · go_enter Try.func56, Try.ntmps56
    go_wp2
    go_ret
    refine ⟨?_, rfl⟩
    have : hasB i = false := by unfold hasB; exact decide_eq_false (fun h' => by omega)
    rw [this]; simp
theorem has_yes (i : Int) (h : hasB i = true) (w : World) : Calls Try.prog 56 #[.int .i64 i] w fun e w' => e = .returned (.bool true) ∧ w = w' := by
  have := has_any i w; rwa [h] at this
theorem has_no (i : Int) (h : hasB i = false) (w : World) : Calls Try.prog 56 #[.int .i64 i] w fun e w' => e = .returned (.bool false) ∧ w = w' := by
  have := has_any i w; rwa [h] at this
set_option maxRecDepth 100000 in
set_option maxHeartbeats 400000 in
theorem read_disk (g : Nat) (d : Dk) (i : Nat) (hi : i < 4) (w : World) (h : DiskAt w g d) :
    Calls Try.prog 21 #[.pointer (some ⟨g, 0, none⟩), .int .i64 i] w fun e w' => e = .returned (.tuple #[.string ⟨(d.b i).toArray⟩, .int .i64 0]) ∧ w = w' := by
  have hb := h.cellb hi
  go_enter Try.func21, Try.ntmps21
  go_wp2_with (go_at_call 56; refine (has_yes _ (hasB_yes hi) _).mono ?_; rintro e w1 ⟨rfl, rfl⟩)
  go_ret2
  exact ⟨rfl, rfl⟩
set_option maxRecDepth 100000 in
set_option maxHeartbeats 400000 in
theorem read_none (v : Value) (i : Int) (hi : hasB i = false) (w : World) :
    Calls Try.prog 21 #[v, .int .i64 i] w fun e w' => e = .returned (.tuple #[.string ⟨#[]⟩, .int .i64 1]) ∧ w = w' := by
  go_enter Try.func21, Try.ntmps21
  go_wp2_with (go_at_call 56; refine (has_no _ hi _).mono ?_; rintro e w1 ⟨rfl, rfl⟩)
  go_ret2
  exact ⟨rfl, rfl⟩
set_option maxRecDepth 100000 in
set_option maxHeartbeats 400000 in
theorem fuse_disk (g : Nat) (d : Dk) (n : Int) (w : World) (h : DiskAt w g d) :
    Calls Try.prog 25 #[.pointer (some ⟨g, 0, none⟩), .int .i64 n] w fun e w' => e = .returned (.tuple #[]) ∧ DiskAt w' g { d with fuse := max n (-1) } ∧ Only g w w' := by
  have hc := h.cellf
  have hf := h.frozen 9
  by_cases hn : n < -1
  · have e : max n (-1) = -1 := by omega
    rw [e]
    have hs := Lib.hid (h.setf (-1))
    clear h e
    go_enter Try.func25, Try.ntmps25
    go_wp2
    go_end0
    exact ⟨rfl, hs.out, (Only.refl _ _).setCell _ _⟩
  · have e : max n (-1) = n := by omega
    rw [e]
    have hs := Lib.hid (h.setf n)
    clear h e
    go_enter Try.func25, Try.ntmps25
    go_wp2
    go_end0
    exact ⟨rfl, hs.out, (Only.refl _ _).setCell _ _⟩
/-- a new disk. -/
def Dk.new (room : Int) : Dk := ⟨fun _ => [], fun _ => 0, room, -1, false⟩
set_option maxRecDepth 100000 in
set_option maxHeartbeats 400000 in
theorem new_disk (room : Int) (h0 : 0 ≤ room) (h1 : room ≤ 16777216) (w : World) :
    Calls Try.prog 16 #[.int .i64 room] w fun e w' => e = .returned (.tuple #[.pointer (some ⟨w.heap.size, 0, none⟩), .int .i64 0]) ∧ DiskAt w' w.heap.size (Dk.new room) ∧ Below w.heap.size w w' ∧ w.heap.size < w'.heap.size := by
  go_enter Try.func16, Try.ntmps16
  go_wp2
  go_ret2
  exact ⟨rfl, heap_alloc_new _ _, (Below.refl _ _).alloc (Nat.le_refl _) _, by simp⟩
set_option maxRecDepth 100000 in
set_option maxHeartbeats 400000 in
theorem new_none (room : Int) (h : room < 0 ∨ 16777216 < room) (w : World) :
    Calls Try.prog 16 #[.int .i64 room] w fun e w' => e = .returned (.tuple #[.pointer none, .int .i64 1]) ∧ w = w' := by
  rcases h with h | h
  all_goals
    go_enter Try.func16, Try.ntmps16
    go_wp2
    go_ret2
    exact ⟨rfl, rfl⟩
/-- the room that is left. -/
def Dk.left (d : Dk) : Int := d.room - (d.b 0).length - (d.b 1).length - (d.b 2).length - (d.b 3).length
/-- a disk as it may be. -/
structure Dk.Ok (d : Dk) : Prop where
  room0 : 0 ≤ d.room
  room1 : d.room ≤ 16777216
  fuse : -1 ≤ d.fuse
  fuse1 : d.fuse ≤ 9223372036854775807
  left : 0 ≤ d.left
  sure : ∀ i, d.s i ≤ (d.b i).length
theorem idx_file0 (x0 x1 x2 x3 x4 x5 x6 x7 : Value) (w : World) : (Instr.index 90 (.agg #[x0, x1, x2, x3, x4, x5, x6, x7]) (.int .i64 0)).run Try.prog w = .ok (.agg #[x0, x1]) w := by kernel_rfl
theorem idx_file1 (x0 x1 x2 x3 x4 x5 x6 x7 : Value) (w : World) : (Instr.index 90 (.agg #[x0, x1, x2, x3, x4, x5, x6, x7]) (.int .i64 1)).run Try.prog w = .ok (.agg #[x2, x3]) w := by kernel_rfl
theorem idx_file2 (x0 x1 x2 x3 x4 x5 x6 x7 : Value) (w : World) : (Instr.index 90 (.agg #[x0, x1, x2, x3, x4, x5, x6, x7]) (.int .i64 2)).run Try.prog w = .ok (.agg #[x4, x5]) w := by kernel_rfl
theorem idx_file3 (x0 x1 x2 x3 x4 x5 x6 x7 : Value) (w : World) : (Instr.index 90 (.agg #[x0, x1, x2, x3, x4, x5, x6, x7]) (.int .i64 3)).run Try.prog w = .ok (.agg #[x6, x7]) w := by kernel_rfl
set_option maxRecDepth 100000 in
set_option maxHeartbeats 1000000 in
theorem left_disk (g : Nat) (d : Dk) (w : World) (h : DiskAt w g d) (ho : d.Ok) :
    Calls Try.prog 19 #[.pointer (some ⟨g, 0, none⟩)] w fun e w' => e = .returned (.int .i64 d.left) ∧ Below w.heap.size w w' := by
  have hr := h.cellr
  have hrange : w.rangeAt g 0 [.string ⟨(d.b 0).toArray⟩, .int .i64 (d.s 0), .string ⟨(d.b 1).toArray⟩, .int .i64 (d.s 1), .string ⟨(d.b 2).toArray⟩, .int .i64 (d.s 2), .string ⟨(d.b 3).toArray⟩, .int .i64 (d.s 3)] := by
    intro j v hv
    rw [cell_of_row _ _ _ _ _ _ h, Nat.zero_add]
    have hj := (List.getElem?_eq_some_iff.1 hv).1
    simp at hj
    have : j = 0 ∨ j = 1 ∨ j = 2 ∨ j = 3 ∨ j = 4 ∨ j = 5 ∨ j = 6 ∨ j = 7 := by omega
    rcases this with rfl | rfl | rfl | rfl | rfl | rfl | rfl | rfl <;> exact hv
  have HRG := Lib.hid hrange
  have h0 := ho.room0
  have h1 := ho.room1
  have h2 := ho.left
  unfold Dk.left at h2
  clear hrange h
  go_enter Try.func19, Try.ntmps19
  go_wp2_with (with_reducible refine wpList_load_mid rfl 90 (.tmp 12) rfl g 0 rfl _ _ HRG.out Try.underlying90 rfl (by kernel_rfl) ?_)
  have i0 := idx_file0
  have i1 := idx_file1
  have i2 := idx_file2
  have i3 := idx_file3
  refine wp_loop_rounds 5 ?_
  rw [rounds_succ]
  go_wp2
  rw [rounds_succ]
  go_wp2
  rw [rounds_succ]
  go_wp2
  rw [rounds_succ]
  go_wp2
  rw [rounds_succ]
  go_wp2
  go_ret
  exact ⟨rfl, ((((Below.refl _ _).alloc (Nat.le_refl _) _).alloc (by simp) _).alloc (by simp; omega) _).alloc (by simp; omega) _⟩
end Go.Proofs.Ytdphnhgogokidaa
