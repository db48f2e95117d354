/- Walks of package disk's closures: what an operation does behind the test of power. -/
import Derived.Test.YtdphnhgogokidaaDiskB
import Derived.Deep.LoopGhost
import Derived.Deep.DeepCutAuto
import Derived.Deep.CutBlock
import Derived.Deep.RegionWith
import Derived.Deep.RegionHeld3
import Derived.Laws.Concat
import Derived.Lib.Strings
namespace Go.Proofs.Ytdphnhgogokidaa
open Go.RowKit

theorem burnt_left (d : Dk) : d.burnt.left = d.left := by unfold Dk.burnt; split <;> rfl
theorem burnt_ok {d : Dk} (h : d.Ok) (h0 : d.fuse ≠ 0) : d.burnt.Ok := by
  unfold Dk.burnt
  split
  · exact h
  · have := h.fuse; have := h.fuse1; have := h0
    exact ⟨h.room0, h.room1, by show -1 ≤ d.fuse - 1; omega, by show d.fuse - 1 ≤ _; omega, h.left, h.sure⟩
theorem Dk.Ok.len {d : Dk} (h : d.Ok) {i : Nat} (hi : i < 4) : ((d.b i).length : Int) ≤ 16777216 := by
  have h1 := h.room1
  have h2 := h.left
  unfold Dk.left at h2
  rcases four hi with rfl | rfl | rfl | rfl <;> omega
theorem cat_run (x y : List UInt8) (h : ((x.length : Nat) : Int) + (y.length : Nat) ≤ 9223372036854775807) (w : World) : (Go.Op.stringOp .add ⟨x.toArray⟩ ⟨y.toArray⟩).run Try.prog w = Result.ok (.string ⟨(x ++ y).toArray⟩) w := by
  exact (run_string_add_sum w _ _ (by show x.length + y.length ≤ _; omega)).trans (by rw [ByteArray.mk_append_mk])
theorem DiskAt.there {w : World} {g : Nat} {d : Dk} (h : DiskAt w g d) {i : Nat} (hi : i < 4) : w.there g (i * 2) 2 := by
  intro j hj
  have : j = 0 ∨ j = 1 := by omega
  rcases this with rfl | rfl
  · exact ⟨by rw [Nat.add_zero, h.cellb hi]; rfl, h.frozen _⟩
  · exact ⟨by rw [h.cells hi]; rfl, h.frozen _⟩
theorem DiskAt.setrow {w : World} {g : Nat} {d : Dk} (h : DiskAt w g d) {i : Nat} (hi : i < 4) (x : List UInt8) (n : Nat) :
    DiskAt (w.setCells g (i * 2) [.string ⟨x.toArray⟩, .int .i64 n]) g { d with b := upd d.b i x, s := upd d.s i n } := (h.setb hi x).sets hi n
theorem Only.setCells {g : Nat} {a b : World} (h : Only g a b) (o : Nat) (v u : Value) : Only g a (b.setCells g o [v, u]) := (h.setCell o v).setCell (o + 1) u
/-- what a call answers and leaves. -/
structure Out where
  code : Int
  dk : Dk
def Dk.app (d : Dk) (i : Nat) (b : List UInt8) : Out := if d.left < b.length then ⟨4, d⟩ else ⟨0, { d with b := upd d.b i (d.b i ++ b) }⟩
def Dk.syn (d : Dk) (i : Nat) : Out := ⟨0, { d with s := upd d.s i (d.b i).length }⟩
def Dk.cut (d : Dk) (i n : Nat) : Out := ⟨0, { d with b := upd d.b i ((d.b i).take n), s := upd d.s i (min (d.s i) n) }⟩
def Dk.mov (d : Dk) (i j : Nat) : Out := if i = j then ⟨0, d⟩ else ⟨0, { d with b := upd (upd d.b j (d.b i)) i [], s := upd (upd d.s j (d.s i)) i 0 }⟩
theorem kept {w w' : World} {p : Addr} {v : Value} (h : Below w.heap.size w w') (hp : w.cell? p = some v) : w'.cell? p = some v := (h.cell (block_lt_of_cell hp)).trans hp
/-- a box holds a value. -/
def Box (w : World) (k : Nat) (v : Value) : Prop := w.cell? ⟨k, 0, none⟩ = some v

set_option maxRecDepth 100000 in
set_option maxHeartbeats 1000000 in
theorem append_in (g : Nat) (d : Dk) (ho : d.Ok) (i : Nat) (hi : i < 4) (b : List UInt8) (hbl : b.length ≤ 140737488355328) (kb kd ka : Nat) (w : World) (h : DiskAt w g d)
    (B : Box w kb (.string ⟨b.toArray⟩)) (D : Box w kd (.pointer (some ⟨g, 0, none⟩))) (A : Box w ka (.int .i64 i)) :
    Calls Try.prog 58 #[.pointer (some ⟨kb, 0, none⟩), .pointer (some ⟨kd, 0, none⟩), .pointer (some ⟨ka, 0, none⟩)] w fun e w' => e = .returned (.int .i64 (d.app i b).code) ∧ DiskAt w' g (d.app i b).dk ∧ Only g w w' := by
  have HL := Lib.hid (fun (w1 : World) (h1 : Box w1 kb (.string ⟨b.toArray⟩) ∧ Box w1 kd (.pointer (some ⟨g, 0, none⟩)) ∧ Below w.heap.size w w1) => (left_disk g d w1 (h.below h1.2.2) ho).mono fun e w2 (h2 : _ ∧ Below _ _ _) => (⟨h2.1, kept h2.2 h1.1, kept h2.2 h1.2.1, h1.2.2.trans (h2.2.mono h1.2.2.size)⟩ : _ ∧ Box w2 kb _ ∧ Box w2 kd _ ∧ Below w.heap.size w w2))
  unfold Box at B D A HL
  have hl0 := ho.left
  have hcat := cat_run (d.b i) b (by have := ho.len hi; omega)
  have HD := Lib.hid h
  have hr1 : d.left ≤ 16777216 := by have := ho.room1; unfold Dk.left; omega
  clear h ho
  generalize hLL : d.left = L at *
  have HE := Lib.hid hLL
  clear hLL
  by_cases hlt : L < (b.length : Int)
  · go_enter Try.func58, Try.ntmps58
    go_upto_region 1 with (fail)
    go_region_held3 (fun wx => wx.cell? ⟨kb, 0, none⟩ = some (.string ⟨b.toArray⟩) ∧ wx.cell? ⟨kd, 0, none⟩ = some (.pointer (some ⟨g, 0, none⟩)) ∧ Below w.heap.size w wx) (first | assumption | exact ⟨B, D, (Below.refl _ _).drew⟩)
      (first | (go_at_call 19; refine (HL.out _ (by assumption)).mono ?_; rintro e w1 ⟨rfl, hb1⟩))
    have hbel := hb1.2.2
    have hq : d.app i b = ⟨4, d⟩ := if_pos (by rw [HE.out]; exact hlt)
    have HQ := Lib.hid hq
    clear hq
    go_wp2
    go_ret
    rw [HQ.out]
    exact ⟨rfl, HD.out.below hbel, Only.of_below hbel⟩
  · have hq : d.app i b = ⟨0, { d with b := upd d.b i (d.b i ++ b) }⟩ := if_neg (by rw [HE.out]; exact hlt)
    have HQ := Lib.hid hq
    clear hq
    go_enter Try.func58, Try.ntmps58
    go_upto_region 1 with (fail)
    go_region_held3 (fun wx => wx.cell? ⟨kb, 0, none⟩ = some (.string ⟨b.toArray⟩) ∧ wx.cell? ⟨kd, 0, none⟩ = some (.pointer (some ⟨g, 0, none⟩)) ∧ Below w.heap.size w wx) (first | assumption | exact ⟨B, D, (Below.refl _ _).drew⟩)
      (first | (go_at_call 19; refine (HL.out _ (by assumption)).mono ?_; rintro e w1 ⟨rfl, hb1⟩))
    have hbel := hb1.2.2
    have B1 := hb1.1
    have D1 := hb1.2.1
    have A1 := kept hbel A
    have h1 := HD.out.below hbel
    have hc := h1.cellb hi
    have hf := h1.frozen (i * 2)
    have HN := Lib.hid (h1.setb hi (d.b i ++ b))
    have HBEL := Lib.hid hbel
    clear hb1 hbel h1 B D A
    go_upto_region 3 with (fail)
    go_region
    go_wp2
    go_ret
    rw [HQ.out]
    exact ⟨rfl, HN.out, ((Only.of_below HBEL.out).setCell _ _).drew⟩
set_option maxRecDepth 100000 in
set_option maxHeartbeats 1000000 in
theorem sync_in (g : Nat) (d : Dk) (ho : d.Ok) (i : Nat) (hi : i < 4) (kd ka : Nat) (w : World) (h : DiskAt w g d)
    (D : Box w kd (.pointer (some ⟨g, 0, none⟩))) (A : Box w ka (.int .i64 i)) :
    Calls Try.prog 60 #[.pointer (some ⟨kd, 0, none⟩), .pointer (some ⟨ka, 0, none⟩)] w fun e w' => e = .returned (.int .i64 (d.syn i).code) ∧ DiskAt w' g (d.syn i).dk ∧ Only g w w' := by
  unfold Box at D A
  have hlen := ho.len hi
  have hc := h.cellb hi
  have hs := h.cells hi
  have hf := h.frozen (i * 2 + 1)
  have HN := Lib.hid (h.sets hi (d.b i).length)
  clear h ho
  go_enter Try.func60, Try.ntmps60
  go_upto_region 1 with (fail)
  go_region
  go_wp2
  go_ret
  exact ⟨rfl, HN.out, ((Only.refl _ _).setCell _ _).drew⟩
end Go.Proofs.Ytdphnhgogokidaa
