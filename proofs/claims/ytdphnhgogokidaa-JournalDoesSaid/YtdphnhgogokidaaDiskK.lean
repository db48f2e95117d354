/- The walk of the law's 'do'. -/
import Derived.Test.YtdphnhgogokidaaDiskJ
namespace Go.Proofs.Ytdphnhgogokidaa
open Go.RowKit

/-- only two blocks, and what is new, have turned. -/
structure Two (g1 g2 : Nat) (w w' : World) : Prop where
  os : w'.os = w.os
  tape : w'.tape = w.tape
  output : w'.output = w.output
  size : w.heap.size ≤ w'.heap.size
  block : ∀ k, k < w.heap.size → k ≠ g1 → k ≠ g2 → w'.heap[k]? = w.heap[k]?
theorem Two.refl (g1 g2 : Nat) (w : World) : Two g1 g2 w w := ⟨rfl, rfl, rfl, Nat.le_refl _, fun _ _ _ _ => rfl⟩
theorem Two.of_below {g1 g2 : Nat} {w w' : World} (h : Below w.heap.size w w') : Two g1 g2 w w' := ⟨h.os, h.tape, h.output, h.size, fun k hk _ _ => h.block k hk⟩
theorem Two.of1 {g1 g2 : Nat} {w w' : World} (h : Only g1 w w') : Two g1 g2 w w' := ⟨h.os, h.tape, h.output, h.size, fun k hk hn _ => h.block k hk (by simpa using hn)⟩
theorem Two.of2 {g1 g2 : Nat} {w w' : World} (h : Only g2 w w') : Two g1 g2 w w' := ⟨h.os, h.tape, h.output, h.size, fun k hk _ hn => h.block k hk (by simpa using hn)⟩
theorem Two.trans {g1 g2 : Nat} {a b c : World} (h : Two g1 g2 a b) (k : Two g1 g2 b c) : Two g1 g2 a c :=
  ⟨k.os.trans h.os, k.tape.trans h.tape, k.output.trans h.output, Nat.le_trans h.size k.size, fun i hi h1 h2 => (k.block i (Nat.lt_of_lt_of_le hi h.size) h1 h2).trans (h.block i hi h1 h2)⟩
theorem Two.drewN {g1 g2 : Nat} {a b : World} (h : Two g1 g2 a b) (n : Nat) : Two g1 g2 a (b.drewN n) := ⟨h.os, h.tape, h.output, h.size, h.block⟩
theorem Only.undrew {g : Nat} {a b : World} (h : Only g a.drew b) : Only g a b := ⟨h.os, h.tape, h.output, h.size, h.block⟩
theorem Only.range {g k o : Nat} {a b : World} {cs : List Value} (h : Only g a b) (hr : a.rangeAt k o cs) (hk : k ≠ g) : b.rangeAt k o cs := fun j v hv => h.cell (hr j v hv) hk
theorem box_cell {w : World} {g : Nat} {cs : Array Value} {t : TypeId} (h : w.heap[g]? = some (.cells cs t (0, 0))) (i : Nat) : w.cell? ⟨g, i, none⟩ = cs[i]? := by
  rw [cell_of_row _ _ _ _ _ _ h]
set_option maxRecDepth 100000 in
set_option maxHeartbeats 2000000 in
theorem do_0 (g1 g2 : Nat) (hne : g1 ≠ g2) (d : Dk) (ho : d.Ok) (x : DOp) (hx : x.Ok) (hk : x.k = 0) (w : World) (h1 : DiskAt w g1 d) (h2 : RefAt w g2 d) :
    Calls Try.prog 18 #[.pointer (some ⟨g1, 0, none⟩), .pointer (some ⟨g2, 0, none⟩), .agg x.cells] w fun e w' => e = .returned (.bool true) ∧ DiskAt w' g1 (d.append x.f x.b).dk ∧ RefAt w' g2 (d.append x.f x.b).dk ∧ Two g1 g2 w w' := by
  obtain ⟨k, f, n, t, b, kept⟩ := x
  obtain rfl : k = 0 := hk
  have hb := hx.b0
  have hal := alloc_below w (.cells (DOp.cells ⟨0, f, n, t, b, kept⟩) 33 (0, 0))
  have hnew := heap_alloc_new w (.cells (DOp.cells ⟨0, f, n, t, b, kept⟩) 33 (0, 0))
  have hg1 := h1.lt
  have hg2 := h2.lt
  have HD := Lib.hid (h1.below hal)
  have HR := Lib.hid (h2.below hal)
  have HT := Lib.hid (Two.of_below (g1 := g1) (g2 := g2) hal)
  have c0 := box_cell hnew 0
  have cf := box_cell hnew 1
  have cn := box_cell hnew 2
  have ct := box_cell hnew 3
  have cb := box_cell hnew 4
  have CB := box_cell hnew
  have hk1 : w.heap.size ≠ g1 := by omega
  have hk2 : w.heap.size ≠ g2 := by omega
  change _ = some (Value.int .i64 0) at c0
  change _ = some (Value.int .i64 f) at cf
  change _ = some (Value.int .i64 n) at cn
  change _ = some (Value.int .i64 t) at ct
  change _ = some (Value.string ⟨b.toArray⟩) at cb
  have HO := Lib.hid ho
  have HNE := Lib.hid hne
  have HB := Lib.hid hb
  have HX := Lib.hid hx
  clear CB
  clear h1 h2 hal hnew ho hne hb hx hg1 hg2
  go_enter Try.func18, Try.ntmps18
  go_upto_region 1 with (fail)
  generalize w.alloc (.cells (DOp.cells ⟨0, f, n, t, b, kept⟩) 33 (0, 0)) = w0 at *
  go_upto_region 3 with (fail)
  go_region_held3 (fun wx => wx.cell? ⟨w.heap.size, 1, none⟩ = some (.int .i64 f) ∧ wx.cell? ⟨w.heap.size, 4, none⟩ = some (.string ⟨b.toArray⟩)) (first | exact ⟨cf, cb⟩ | exact ⟨ho2.cell (ho1.cell cf hk1) hk2, ho2.cell (ho1.cell cb hk1) hk2⟩ | exact ⟨ho1.cell (ho2.cell cf hk2) hk1, ho1.cell (ho2.cell cb hk2) hk1⟩ | exact ⟨ho1.cell cf hk1, ho1.cell cb hk1⟩ | exact ⟨ho2.cell cf hk2, ho2.cell cb hk2⟩)
    (first
      | (go_at_call 23; refine (append_disk g1 d HO.out f b HB.out _ ?_).mono ?_; (first | exact HD.out | exact DiskAt.only HD.out ho2 HNE.out); rintro e w5 ⟨rfl, hd1, ho1⟩; try replace ho1 := Only.undrew ho1)
      | (go_at_call 47; refine (ref_append g2 d HO.out f b HB.out _ ?_).mono ?_; (first | exact HR.out | exact RefAt.only HR.out ho1 (Ne.symm HNE.out)); rintro e w6 ⟨rfl, hd2, ho2⟩; try replace ho2 := Only.undrew ho2))
  have hd1' := DiskAt.only hd1 ho2 HNE.out
  have hT := Two.trans HT.out (Two.trans (Two.of1 ho1) (Two.of2 ho2))
  have H := Lib.hid (And.intro hd1' (And.intro hd2 hT))
  clear hd1 hd2 ho1 ho2 hd1' hT c0 cf cn ct cb
  go_wp2
  go_ret
  exact ⟨by simp, H.out⟩
set_option maxRecDepth 100000 in
set_option maxHeartbeats 2000000 in
theorem do_1 (g1 g2 : Nat) (hne : g1 ≠ g2) (d : Dk) (ho : d.Ok) (x : DOp) (hx : x.Ok) (hk : x.k = 1) (w : World) (h1 : DiskAt w g1 d) (h2 : RefAt w g2 d) :
    Calls Try.prog 18 #[.pointer (some ⟨g1, 0, none⟩), .pointer (some ⟨g2, 0, none⟩), .agg x.cells] w fun e w' => e = .returned (.bool true) ∧ DiskAt w' g1 (d.sync x.f).dk ∧ RefAt w' g2 (d.sync x.f).dk ∧ Two g1 g2 w w' := by
  obtain ⟨k, f, n, t, b, kept⟩ := x
  obtain rfl : k = 1 := hk
  have hb := hx.b0
  have hal := alloc_below w (.cells (DOp.cells ⟨1, f, n, t, b, kept⟩) 33 (0, 0))
  have hnew := heap_alloc_new w (.cells (DOp.cells ⟨1, f, n, t, b, kept⟩) 33 (0, 0))
  have hg1 := h1.lt
  have hg2 := h2.lt
  have HD := Lib.hid (h1.below hal)
  have HR := Lib.hid (h2.below hal)
  have HT := Lib.hid (Two.of_below (g1 := g1) (g2 := g2) hal)
  have c0 := box_cell hnew 0
  have cf := box_cell hnew 1
  have cn := box_cell hnew 2
  have ct := box_cell hnew 3
  have cb := box_cell hnew 4
  have CB := box_cell hnew
  have hk1 : w.heap.size ≠ g1 := by omega
  have hk2 : w.heap.size ≠ g2 := by omega
  change _ = some (Value.int .i64 1) at c0
  change _ = some (Value.int .i64 f) at cf
  change _ = some (Value.int .i64 n) at cn
  change _ = some (Value.int .i64 t) at ct
  change _ = some (Value.string ⟨b.toArray⟩) at cb
  have HO := Lib.hid ho
  have HNE := Lib.hid hne
  have HB := Lib.hid hb
  have HX := Lib.hid hx
  clear CB
  clear h1 h2 hal hnew ho hne hb hx hg1 hg2
  go_enter Try.func18, Try.ntmps18
  go_upto_region 1 with (fail)
  generalize w.alloc (.cells (DOp.cells ⟨1, f, n, t, b, kept⟩) 33 (0, 0)) = w0 at *
  go_upto_region 5 with (fail)
  go_region_held3 (fun wx => wx.cell? ⟨w.heap.size, 1, none⟩ = some (.int .i64 f)) (first | exact cf | exact ho2.cell (ho1.cell cf hk1) hk2 | exact ho1.cell (ho2.cell cf hk2) hk1 | exact ho1.cell cf hk1 | exact ho2.cell cf hk2)
    (first
      | (go_at_call 26; refine (sync_disk g1 d HO.out f _ ?_).mono ?_; (first | exact HD.out | exact DiskAt.only HD.out ho2 HNE.out); rintro e w5 ⟨rfl, hd1, ho1⟩; try replace ho1 := Only.undrew ho1)
      | (go_at_call 48; refine (ref_sync g2 d HO.out f _ ?_).mono ?_; (first | exact HR.out | exact RefAt.only HR.out ho1 (Ne.symm HNE.out)); rintro e w6 ⟨rfl, hd2, ho2⟩; try replace ho2 := Only.undrew ho2))
  have hd1' := DiskAt.only hd1 ho2 HNE.out
  have hT := Two.trans HT.out (Two.trans (Two.of1 ho1) (Two.of2 ho2))
  have H := Lib.hid (And.intro hd1' (And.intro hd2 hT))
  clear hd1 hd2 ho1 ho2 hd1' hT c0 cf cn ct cb
  go_wp2
  go_ret
  exact ⟨by simp, H.out⟩
set_option maxRecDepth 100000 in
set_option maxHeartbeats 2000000 in
theorem do_2 (g1 g2 : Nat) (hne : g1 ≠ g2) (d : Dk) (ho : d.Ok) (x : DOp) (hx : x.Ok) (hk : x.k = 2) (w : World) (h1 : DiskAt w g1 d) (h2 : RefAt w g2 d) :
    Calls Try.prog 18 #[.pointer (some ⟨g1, 0, none⟩), .pointer (some ⟨g2, 0, none⟩), .agg x.cells] w fun e w' => e = .returned (.bool true) ∧ DiskAt w' g1 (d.cutto x.f x.n).dk ∧ RefAt w' g2 (d.cutto x.f x.n).dk ∧ Two g1 g2 w w' := by
  obtain ⟨k, f, n, t, b, kept⟩ := x
  obtain rfl : k = 2 := hk
  have hb := hx.b0
  have hal := alloc_below w (.cells (DOp.cells ⟨2, f, n, t, b, kept⟩) 33 (0, 0))
  have hnew := heap_alloc_new w (.cells (DOp.cells ⟨2, f, n, t, b, kept⟩) 33 (0, 0))
  have hg1 := h1.lt
  have hg2 := h2.lt
  have HD := Lib.hid (h1.below hal)
  have HR := Lib.hid (h2.below hal)
  have HT := Lib.hid (Two.of_below (g1 := g1) (g2 := g2) hal)
  have c0 := box_cell hnew 0
  have cf := box_cell hnew 1
  have cn := box_cell hnew 2
  have ct := box_cell hnew 3
  have cb := box_cell hnew 4
  have CB := box_cell hnew
  have hk1 : w.heap.size ≠ g1 := by omega
  have hk2 : w.heap.size ≠ g2 := by omega
  change _ = some (Value.int .i64 2) at c0
  change _ = some (Value.int .i64 f) at cf
  change _ = some (Value.int .i64 n) at cn
  change _ = some (Value.int .i64 t) at ct
  change _ = some (Value.string ⟨b.toArray⟩) at cb
  have HO := Lib.hid ho
  have HNE := Lib.hid hne
  have HB := Lib.hid hb
  have HX := Lib.hid hx
  clear CB
  clear h1 h2 hal hnew ho hne hb hx hg1 hg2
  go_enter Try.func18, Try.ntmps18
  go_upto_region 1 with (fail)
  generalize w.alloc (.cells (DOp.cells ⟨2, f, n, t, b, kept⟩) 33 (0, 0)) = w0 at *
  go_upto_region 7 with (fail)
  go_region_held3 (fun wx => wx.cell? ⟨w.heap.size, 1, none⟩ = some (.int .i64 f) ∧ wx.cell? ⟨w.heap.size, 2, none⟩ = some (.int .i64 n)) (first | exact ⟨cf, cn⟩ | exact ⟨ho2.cell (ho1.cell cf hk1) hk2, ho2.cell (ho1.cell cn hk1) hk2⟩ | exact ⟨ho1.cell (ho2.cell cf hk2) hk1, ho1.cell (ho2.cell cn hk2) hk1⟩ | exact ⟨ho1.cell cf hk1, ho1.cell cn hk1⟩ | exact ⟨ho2.cell cf hk2, ho2.cell cn hk2⟩)
    (first
      | (go_at_call 27; refine (cut_disk g1 d HO.out f n _ ?_).mono ?_; (first | exact HD.out | exact DiskAt.only HD.out ho2 HNE.out); rintro e w5 ⟨rfl, hd1, ho1⟩; try replace ho1 := Only.undrew ho1)
      | (go_at_call 54; refine (ref_cut g2 d HO.out f n _ ?_).mono ?_; (first | exact HR.out | exact RefAt.only HR.out ho1 (Ne.symm HNE.out)); rintro e w6 ⟨rfl, hd2, ho2⟩; try replace ho2 := Only.undrew ho2))
  have hd1' := DiskAt.only hd1 ho2 HNE.out
  have hT := Two.trans HT.out (Two.trans (Two.of1 ho1) (Two.of2 ho2))
  have H := Lib.hid (And.intro hd1' (And.intro hd2 hT))
  clear hd1 hd2 ho1 ho2 hd1' hT c0 cf cn ct cb
  go_wp2
  go_ret
  exact ⟨by simp, H.out⟩
set_option maxRecDepth 100000 in
set_option maxHeartbeats 2000000 in
theorem do_3 (g1 g2 : Nat) (hne : g1 ≠ g2) (d : Dk) (ho : d.Ok) (x : DOp) (hx : x.Ok) (hk : x.k = 3) (w : World) (h1 : DiskAt w g1 d) (h2 : RefAt w g2 d) :
    Calls Try.prog 18 #[.pointer (some ⟨g1, 0, none⟩), .pointer (some ⟨g2, 0, none⟩), .agg x.cells] w fun e w' => e = .returned (.bool true) ∧ DiskAt w' g1 (d.move x.f x.t).dk ∧ RefAt w' g2 (d.move x.f x.t).dk ∧ Two g1 g2 w w' := by
  obtain ⟨k, f, n, t, b, kept⟩ := x
  obtain rfl : k = 3 := hk
  have hb := hx.b0
  have hal := alloc_below w (.cells (DOp.cells ⟨3, f, n, t, b, kept⟩) 33 (0, 0))
  have hnew := heap_alloc_new w (.cells (DOp.cells ⟨3, f, n, t, b, kept⟩) 33 (0, 0))
  have hg1 := h1.lt
  have hg2 := h2.lt
  have HD := Lib.hid (h1.below hal)
  have HR := Lib.hid (h2.below hal)
  have HT := Lib.hid (Two.of_below (g1 := g1) (g2 := g2) hal)
  have c0 := box_cell hnew 0
  have cf := box_cell hnew 1
  have cn := box_cell hnew 2
  have ct := box_cell hnew 3
  have cb := box_cell hnew 4
  have CB := box_cell hnew
  have hk1 : w.heap.size ≠ g1 := by omega
  have hk2 : w.heap.size ≠ g2 := by omega
  change _ = some (Value.int .i64 3) at c0
  change _ = some (Value.int .i64 f) at cf
  change _ = some (Value.int .i64 n) at cn
  change _ = some (Value.int .i64 t) at ct
  change _ = some (Value.string ⟨b.toArray⟩) at cb
  have HO := Lib.hid ho
  have HNE := Lib.hid hne
  have HB := Lib.hid hb
  have HX := Lib.hid hx
  clear CB
  clear h1 h2 hal hnew ho hne hb hx hg1 hg2
  go_enter Try.func18, Try.ntmps18
  go_upto_region 1 with (fail)
  generalize w.alloc (.cells (DOp.cells ⟨3, f, n, t, b, kept⟩) 33 (0, 0)) = w0 at *
  go_upto_region 9 with (fail)
  go_region_held3 (fun wx => wx.cell? ⟨w.heap.size, 1, none⟩ = some (.int .i64 f) ∧ wx.cell? ⟨w.heap.size, 3, none⟩ = some (.int .i64 t)) (first | exact ⟨cf, ct⟩ | exact ⟨ho2.cell (ho1.cell cf hk1) hk2, ho2.cell (ho1.cell ct hk1) hk2⟩ | exact ⟨ho1.cell (ho2.cell cf hk2) hk1, ho1.cell (ho2.cell ct hk2) hk1⟩ | exact ⟨ho1.cell cf hk1, ho1.cell ct hk1⟩ | exact ⟨ho2.cell cf hk2, ho2.cell ct hk2⟩)
    (first
      | (go_at_call 24; refine (move_disk g1 d HO.out f t _ ?_).mono ?_; (first | exact HD.out | exact DiskAt.only HD.out ho2 HNE.out); rintro e w5 ⟨rfl, hd1, ho1⟩; try replace ho1 := Only.undrew ho1)
      | (go_at_call 55; refine (ref_move g2 d HO.out f t _ ?_).mono ?_; (first | exact HR.out | exact RefAt.only HR.out ho1 (Ne.symm HNE.out)); rintro e w6 ⟨rfl, hd2, ho2⟩; try replace ho2 := Only.undrew ho2))
  have hd1' := DiskAt.only hd1 ho2 HNE.out
  have hT := Two.trans HT.out (Two.trans (Two.of1 ho1) (Two.of2 ho2))
  have H := Lib.hid (And.intro hd1' (And.intro hd2 hT))
  clear hd1 hd2 ho1 ho2 hd1' hT c0 cf cn ct cb
  go_wp2
  go_ret
  exact ⟨by simp, H.out⟩
set_option maxRecDepth 100000 in
set_option maxHeartbeats 2000000 in
theorem do_4 (g1 g2 : Nat) (hne : g1 ≠ g2) (d : Dk) (ho : d.Ok) (x : DOp) (hx : x.Ok) (hk : x.k = 4) (w : World) (h1 : DiskAt w g1 d) (h2 : RefAt w g2 d) :
    Calls Try.prog 18 #[.pointer (some ⟨g1, 0, none⟩), .pointer (some ⟨g2, 0, none⟩), .agg x.cells] w fun e w' => e = .returned (.bool true) ∧ DiskAt w' g1 { d with fuse := max x.n (-1) } ∧ RefAt w' g2 { d with fuse := max x.n (-1) } ∧ Two g1 g2 w w' := by
  obtain ⟨k, f, n, t, b, kept⟩ := x
  obtain rfl : k = 4 := hk
  have hb := hx.b0
  have hal := alloc_below w (.cells (DOp.cells ⟨4, f, n, t, b, kept⟩) 33 (0, 0))
  have hnew := heap_alloc_new w (.cells (DOp.cells ⟨4, f, n, t, b, kept⟩) 33 (0, 0))
  have hg1 := h1.lt
  have hg2 := h2.lt
  have HD := Lib.hid (h1.below hal)
  have HR := Lib.hid (h2.below hal)
  have HT := Lib.hid (Two.of_below (g1 := g1) (g2 := g2) hal)
  have c0 := box_cell hnew 0
  have cf := box_cell hnew 1
  have cn := box_cell hnew 2
  have ct := box_cell hnew 3
  have cb := box_cell hnew 4
  have CB := box_cell hnew
  have hk1 : w.heap.size ≠ g1 := by omega
  have hk2 : w.heap.size ≠ g2 := by omega
  change _ = some (Value.int .i64 4) at c0
  change _ = some (Value.int .i64 f) at cf
  change _ = some (Value.int .i64 n) at cn
  change _ = some (Value.int .i64 t) at ct
  change _ = some (Value.string ⟨b.toArray⟩) at cb
  have HO := Lib.hid ho
  have HNE := Lib.hid hne
  have HB := Lib.hid hb
  have HX := Lib.hid hx
  clear CB
  clear h1 h2 hal hnew ho hne hb hx hg1 hg2
  go_enter Try.func18, Try.ntmps18
  go_upto_region 1 with (fail)
  generalize w.alloc (.cells (DOp.cells ⟨4, f, n, t, b, kept⟩) 33 (0, 0)) = w0 at *
  by_cases hn : n < -1
  · have hmax : max n (-1) = -1 := by omega
    go_upto_region 12 with (go_at_call 25; refine (fuse_disk g1 d n _ HD.out).mono ?_; rintro e w5 ⟨rfl, hd1, ho1⟩)
    have hr := RefAt.only HR.out ho1 (Ne.symm HNE.out)
    have hc1 := hr.cellf
    have hf1 := hr.frozen 9
    have hs := hr.setf (-1)
    have ho2 := (Only.refl g2 w5).setCell 9 (.int .i64 (-1))
    have hT := Two.trans HT.out (Two.trans (Two.of1 ho1) (Two.of2 ho2))
    rw [hmax] at hd1
    have H := Lib.hid (And.intro (DiskAt.only hd1 ho2 HNE.out) (And.intro hs hT))
    have cn5 := ho1.cell cn hk1
    have HM := Lib.hid hmax
    clear hr hs ho2 hT ho1 hd1 cn hmax
    go_wp2
    go_ret
    rw [HM.out]
    exact ⟨rfl, H.out⟩
  · have hmax : max n (-1) = n := by omega
    go_upto_region 12 with (go_at_call 25; refine (fuse_disk g1 d n _ HD.out).mono ?_; rintro e w5 ⟨rfl, hd1, ho1⟩)
    have hr := RefAt.only HR.out ho1 (Ne.symm HNE.out)
    have hc1 := hr.cellf
    have hf1 := hr.frozen 9
    have hs := hr.setf n
    have ho2 := (Only.refl g2 w5).setCell 9 (.int .i64 n)
    have hT := Two.trans HT.out (Two.trans (Two.of1 ho1) (Two.of2 ho2))
    rw [hmax] at hd1
    have H := Lib.hid (And.intro (DiskAt.only hd1 ho2 HNE.out) (And.intro hs hT))
    have cn5 := ho1.cell cn hk1
    have HM := Lib.hid hmax
    clear hr hs ho2 hT ho1 hd1 cn hmax
    go_wp2
    go_ret
    rw [HM.out]
    exact ⟨rfl, H.out⟩
set_option maxRecDepth 100000 in
set_option maxHeartbeats 2000000 in
theorem do_5 (g1 g2 : Nat) (hne : g1 ≠ g2) (d : Dk) (ho : d.Ok) (x : DOp) (hx : x.Ok) (hk : x.k = 5) (w : World) (h1 : DiskAt w g1 d) (h2 : RefAt w g2 d) :
    Calls Try.prog 18 #[.pointer (some ⟨g1, 0, none⟩), .pointer (some ⟨g2, 0, none⟩), .agg x.cells] w fun e w' => e = .returned (.bool true) ∧ DiskAt w' g1 (d.crash x.kept) ∧ RefAt w' g2 (d.crash x.kept) ∧ Two g1 g2 w w' := by
  obtain ⟨k, f, n, t, b, kept⟩ := x
  obtain rfl : k = 5 := hk
  have hb := hx.b0
  have hal := alloc_below w (.cells (DOp.cells ⟨5, f, n, t, b, kept⟩) 33 (0, 0))
  have hnew := heap_alloc_new w (.cells (DOp.cells ⟨5, f, n, t, b, kept⟩) 33 (0, 0))
  have hg1 := h1.lt
  have hg2 := h2.lt
  have HD := Lib.hid (h1.below hal)
  have HR := Lib.hid (h2.below hal)
  have HT := Lib.hid (Two.of_below (g1 := g1) (g2 := g2) hal)
  have c0 := box_cell hnew 0
  have cf := box_cell hnew 1
  have cn := box_cell hnew 2
  have ct := box_cell hnew 3
  have cb := box_cell hnew 4
  have CB := box_cell hnew
  have hk1 : w.heap.size ≠ g1 := by omega
  have hk2 : w.heap.size ≠ g2 := by omega
  change _ = some (Value.int .i64 5) at c0
  change _ = some (Value.int .i64 f) at cf
  change _ = some (Value.int .i64 n) at cn
  change _ = some (Value.int .i64 t) at ct
  change _ = some (Value.string ⟨b.toArray⟩) at cb
  have HO := Lib.hid ho
  have HNE := Lib.hid hne
  have HB := Lib.hid hb
  have HX := Lib.hid hx
  clear h1 h2 hal hnew ho hne hb hx hg1 hg2
  go_enter Try.func18, Try.ntmps18
  go_upto_region 1 with (fail)
  generalize w.alloc (.cells (DOp.cells ⟨5, f, n, t, b, kept⟩) 33 (0, 0)) = w0 at *
  have hrg : w0.rangeAt w.heap.size 5 (kept4 kept).toList := by
    intro j v hv
    have hj := (List.getElem?_eq_some_iff.1 hv).1
    simp [kept4] at hj
    have : j = 0 ∨ j = 1 ∨ j = 2 ∨ j = 3 := by omega
    rcases this with rfl | rfl | rfl | rfl
    · exact (CB 5).trans hv
    · exact (CB 6).trans hv
    · exact (CB 7).trans hv
    · exact (CB 8).trans hv
  have HRG := Lib.hid hrg
  clear hrg CB
  go_wp2_with (first
    | (with_reducible refine wpList_load_mid rfl 31 (.tmp 82) rfl w.heap.size 5 rfl _ _ HRG.out Try.underlying31 rfl (by kernel_rfl) ?_)
    | (go_at_call 22; refine (crash_disk g1 d HO.out kept HX.out.kept0 _ HD.out).mono ?_; rintro e w5 ⟨rfl, hd1, ho1⟩)
    | (with_reducible refine wpList_load_mid rfl 31 (.tmp 86) rfl w.heap.size 5 rfl _ _ (ho1.range HRG.out hk1) Try.underlying31 rfl (by kernel_rfl) ?_)
    | (go_at_call 51; refine (ref_crash g2 d HO.out kept HX.out.kept0 _ (RefAt.only HR.out ho1 (Ne.symm HNE.out))).mono ?_; rintro e w6 ⟨rfl, hd2, ho2⟩))
  go_ret
  exact ⟨rfl, DiskAt.only hd1 ho2 HNE.out, hd2, Two.trans HT.out (Two.trans (Two.of1 ho1) (Two.of2 ho2))⟩
set_option maxRecDepth 100000 in
set_option maxHeartbeats 2000000 in
theorem do_read (g1 g2 : Nat) (hne : g1 ≠ g2) (d : Dk) (ho : d.Ok) (x : DOp) (hx : x.Ok) (hk0 : x.k ≠ 0) (hk1 : x.k ≠ 1) (hk2 : x.k ≠ 2) (hk3 : x.k ≠ 3) (hk4 : x.k ≠ 4) (hk5 : x.k ≠ 5) (w : World) (h1 : DiskAt w g1 d) (h2 : RefAt w g2 d) :
    Calls Try.prog 18 #[.pointer (some ⟨g1, 0, none⟩), .pointer (some ⟨g2, 0, none⟩), .agg x.cells] w fun e w' => e = .returned (.bool true) ∧ DiskAt w' g1 d ∧ RefAt w' g2 d ∧ Two g1 g2 w w' := by
  obtain ⟨k, f, n, t, b, kept⟩ := x
  have e0 : (k == 0) = false := by simpa using hk0
  have e1 : (k == 1) = false := by simpa using hk1
  have e2 : (k == 2) = false := by simpa using hk2
  have e3 : (k == 3) = false := by simpa using hk3
  have e4 : (k == 4) = false := by simpa using hk4
  have e5 : (k == 5) = false := by simpa using hk5
  clear hk0 hk1 hk2 hk3 hk4 hk5
  have hb := hx.b0
  have hal := alloc_below w (.cells (DOp.cells ⟨k, f, n, t, b, kept⟩) 33 (0, 0))
  have hnew := heap_alloc_new w (.cells (DOp.cells ⟨k, f, n, t, b, kept⟩) 33 (0, 0))
  have hg1 := h1.lt
  have hg2 := h2.lt
  have HD := Lib.hid (h1.below hal)
  have HR := Lib.hid (h2.below hal)
  have HT := Lib.hid (Two.of_below (g1 := g1) (g2 := g2) hal)
  have c0 := box_cell hnew 0
  have cf := box_cell hnew 1
  have cn := box_cell hnew 2
  have ct := box_cell hnew 3
  have cb := box_cell hnew 4
  have CB := box_cell hnew
  have hk1 : w.heap.size ≠ g1 := by omega
  have hk2 : w.heap.size ≠ g2 := by omega
  change _ = some (Value.int .i64 k) at c0
  change _ = some (Value.int .i64 f) at cf
  change _ = some (Value.int .i64 n) at cn
  change _ = some (Value.int .i64 t) at ct
  change _ = some (Value.string ⟨b.toArray⟩) at cb
  have HO := Lib.hid ho
  have HNE := Lib.hid hne
  have HB := Lib.hid hb
  have HX := Lib.hid hx
  clear CB
  clear h1 h2 hal hnew ho hne hb hx hg1 hg2
  go_enter Try.func18, Try.ntmps18
  go_upto_region 1 with (fail)
  generalize w.alloc (.cells (DOp.cells ⟨k, f, n, t, b, kept⟩) 33 (0, 0)) = w0 at *
  have hr : hasB f = true ∨ hasB f = false := by cases hasB f <;> simp
  rcases hr with hf | hf
  · obtain ⟨i, hi, rfl⟩ := hasB_nat hf
    have hc := HR.out.cellb hi
    have hi4 : (i : Int) < 4 := by omega
    have t1 : (i : Int) ≤ 3 := by omega
    clear hf
    go_upto_region 21 with (go_at_call 21; refine (read_disk g1 d i hi _ HD.out).mono ?_; rintro e w5 ⟨rfl, rfl⟩)
    go_quiet (fail)
    go_wp2
    go_ret
    exact ⟨by simp, HD.out, HR.out, HT.out.drewN _⟩
  · have hlt : f < 0 ∨ (0 ≤ f ∧ 3 < f) := by
      simp [hasB] at hf
      omega
    rcases hlt with hlt | ⟨hlt, hlt2⟩
    · go_wp2_with (go_at_call 21; refine (read_none _ f hf _).mono ?_; rintro e w5 ⟨rfl, rfl⟩)
      go_ret
      exact ⟨rfl, HD.out, HR.out, HT.out⟩
    · go_wp2_with (go_at_call 21; refine (read_none _ f hf _).mono ?_; rintro e w5 ⟨rfl, rfl⟩)
      go_ret
      exact ⟨rfl, HD.out, HR.out, HT.out⟩
theorem do_any (g1 g2 : Nat) (hne : g1 ≠ g2) (d : Dk) (ho : d.Ok) (x : DOp) (hx : x.Ok) (w : World) (h1 : DiskAt w g1 d) (h2 : RefAt w g2 d) :
    Calls Try.prog 18 #[.pointer (some ⟨g1, 0, none⟩), .pointer (some ⟨g2, 0, none⟩), .agg x.cells] w fun e w' => e = .returned (.bool true) ∧ DiskAt w' g1 (d.run x) ∧ RefAt w' g2 (d.run x) ∧ Two g1 g2 w w' := by
  unfold Dk.run
  by_cases h : x.k = 0
  · rw [if_pos h]; exact do_0 g1 g2 hne d ho x hx h w h1 h2
  rw [if_neg h]
  by_cases h' : x.k = 1
  · rw [if_pos h']; exact do_1 g1 g2 hne d ho x hx h' w h1 h2
  rw [if_neg h']
  by_cases h'' : x.k = 2
  · rw [if_pos h'']; exact do_2 g1 g2 hne d ho x hx h'' w h1 h2
  rw [if_neg h'']
  by_cases h3 : x.k = 3
  · rw [if_pos h3]; exact do_3 g1 g2 hne d ho x hx h3 w h1 h2
  rw [if_neg h3]
  by_cases h4 : x.k = 4
  · rw [if_pos h4]; exact do_4 g1 g2 hne d ho x hx h4 w h1 h2
  rw [if_neg h4]
  by_cases h5 : x.k = 5
  · rw [if_pos h5]; exact do_5 g1 g2 hne d ho x hx h5 w h1 h2
  rw [if_neg h5]
  exact do_read g1 g2 hne d ho x hx h h' h'' h3 h4 h5 w h1 h2
end Go.Proofs.Ytdphnhgogokidaa
