/- Walks of Crash, of both disks. -/
import Derived.Test.YtdphnhgogokidaaDiskF
import Derived.Test.YtdphnhgogokidaaDiskH
namespace Go.Proofs.Ytdphnhgogokidaa
open Go.RowKit

/-- how many bytes of a file a crash leaves. -/
def Dk.keeps (d : Dk) (kept : Nat → Int) (i : Nat) : Nat := d.s i + (min (max (kept i) 0) ((d.b i).length - d.s i)).toNat
/-- a crash's work on the first files. -/
def Dk.crashTo (d : Dk) (kept : Nat → Int) (n : Nat) : Dk := { d with b := fun i => if i < n then (d.b i).take (d.keeps kept i) else d.b i, s := fun i => if i < n then d.keeps kept i else d.s i }
def Dk.crash (d : Dk) (kept : Nat → Int) : Dk := { d.crashTo kept 4 with fuse := -1, down := false }
theorem crash_start (d : Dk) (kept : Nat → Int) : d.crashTo kept 0 = d := by simp [Dk.crashTo]
theorem crash_next (d : Dk) (kept : Nat → Int) (k : Nat) : { d.crashTo kept k with b := upd (d.crashTo kept k).b k ((d.b k).take (d.keeps kept k)), s := upd (d.crashTo kept k).s k (d.keeps kept k) } = d.crashTo kept (k + 1) := by
  have h1 : upd (d.crashTo kept k).b k ((d.b k).take (d.keeps kept k)) = (d.crashTo kept (k + 1)).b := by
    funext j
    by_cases h : j = k
    · subst h; simp [Dk.crashTo, upd]
    · have : j < k ↔ j < k + 1 := by omega
      simp [Dk.crashTo, upd, h, this]
  have h2 : upd (d.crashTo kept k).s k (d.keeps kept k) = (d.crashTo kept (k + 1)).s := by
    funext j
    by_cases h : j = k
    · subst h; simp [Dk.crashTo, upd]
    · have : j < k ↔ j < k + 1 := by omega
      simp [Dk.crashTo, upd, h, this]
  rw [h1, h2]
  rfl
theorem crash_b (d : Dk) (kept : Nat → Int) (k : Nat) : (d.crashTo kept k).b k = d.b k := by simp [Dk.crashTo]
theorem crash_s (d : Dk) (kept : Nat → Int) (k : Nat) : (d.crashTo kept k).s k = d.s k := by simp [Dk.crashTo]
def kept4 (kept : Nat → Int) : Array Value := #[.int .i64 (kept 0), .int .i64 (kept 1), .int .i64 (kept 2), .int .i64 (kept 3)]
theorem drewN_below {B : Nat} {w w' : World} (h : Below B w w') (n : Nat) : Below B w (w'.drewN n) := ⟨h.os, h.tape, h.output, h.size, h.block⟩
theorem kept_at {w w' : World} {p : Addr} {v : Value} (h : Below w.heap.size w w') (hp : w.cell? p = some v) : w'.cell? p = some v := kept h hp
theorem kept_cell {w : World} {g : Nat} {t : TypeId} (kept : Nat → Int) (h : w.heap[g]? = some (.cells (kept4 kept) t (0, 0))) {i : Nat} (hi : i < 4) : w.cell? ⟨g, i, none⟩ = some (.int .i64 (kept i)) := by
  rw [cell_of_row _ _ _ _ _ _ h]
  rcases four hi with rfl | rfl | rfl | rfl <;> rfl
def Dk.files (d : Dk) : Array Value := #[d.cell 0, .int .i64 (d.s 0), d.cell 1, .int .i64 (d.s 1), d.cell 2, .int .i64 (d.s 2), d.cell 3, .int .i64 (d.s 3)]
theorem files_index (d : Dk) {i : Nat} (hi : i < 4) (w : World) : (Instr.index 90 (.agg d.files) (.int .i64 i)).run Try.prog w = .ok (.agg #[.string ⟨(d.b i).toArray⟩, .int .i64 (d.s i)]) w := by
  rcases four hi with rfl | rfl | rfl | rfl
  · exact idx_file0 _ _ _ _ _ _ _ _ w
  · exact idx_file1 _ _ _ _ _ _ _ _ w
  · exact idx_file2 _ _ _ _ _ _ _ _ w
  · exact idx_file3 _ _ _ _ _ _ _ _ w
theorem DiskAt.range {w : World} {g : Nat} {d : Dk} (h : DiskAt w g d) : w.rangeAt g 0 d.files.toList := by
  intro j v hv
  rw [cell_of_row _ _ _ _ _ _ h, Nat.zero_add]
  have hj := (List.getElem?_eq_some_iff.1 hv).1
  simp [Dk.files] at hj
  have : j = 0 ∨ j = 1 ∨ j = 2 ∨ j = 3 ∨ j = 4 ∨ j = 5 ∨ j = 6 ∨ j = 7 := by omega
  rcases this with rfl | rfl | rfl | rfl | rfl | rfl | rfl | rfl <;> exact hv
set_option maxRecDepth 100000 in
set_option maxHeartbeats 2000000 in
theorem crash_disk (g : Nat) (d : Dk) (ho : d.Ok) (kept : Nat → Int) (hk : ∀ i, -9223372036854775808 ≤ kept i ∧ kept i ≤ 9223372036854775807) (w : World) (h : DiskAt w g d) :
    Calls Try.prog 22 #[.pointer (some ⟨g, 0, none⟩), .agg (kept4 kept)] w fun e w' => e = .returned (.tuple #[]) ∧ DiskAt w' g (d.crash kept) ∧ Only g w w' := by
  have hlt := h.lt
  have HO := Lib.hid ho
  have HK := Lib.hid hk
  clear ho hk
  have H1 := Lib.hid (h.below (alloc_below w (.cells (kept4 kept) 31 (0, 0))))
  have HR := Lib.hid H1.out.range
  have HB := Lib.hid (heap_alloc_new w (.cells (kept4 kept) 31 (0, 0)))
  clear h
  generalize hK4 : kept4 kept = K4 at *
  go_enter Try.func22, Try.ntmps22
  go_wp2_with (with_reducible refine wpList_load_mid rfl 90 (.tmp 9) rfl g 0 rfl _ _ HR.out Try.underlying90 rfl (by kernel_rfl) ?_)
  go_loopw [11] (fun i wr => ∃ (k : Nat), k ≤ 4 ∧ i = .int .i64 k ∧ DiskAt wr g (d.crashTo kept k) ∧ Only g w wr ∧ wr.heap[w.heap.size]? = some (.cells K4 31 (0, 0))) (fun i _ => 4 - (intOf i).toNat)
  case atStart => exact ⟨0, by omega, rfl, by rw [crash_start]; exact H1.out, Only.of_below (alloc_below _ _), HB.out⟩
  case round =>
    obtain ⟨k, hk, rfl, hd, hon, hb⟩ := hrel
    by_cases hlt4 : k < 4
    · have hk4 : (k : Int) < 4 := by omega
      have hidx := files_index d hlt4
      have hkc := kept_cell (w := wr) (g := w.heap.size) (t := 31) kept (by rw [hK4]; exact hb) hlt4
      have hq := HK.out k
      have hlen := HO.out.len hlt4
      have hs := HO.out.sure k
      have HD := Lib.hid hd
      have HON := Lib.hid hon
      have HBX := Lib.hid hb
      have HK4 := Lib.hid hK4
      clear hd hon hb hK4
      have hkeep : d.keeps kept k = d.s k + (min (max (kept k) 0) ((d.b k).length - d.s k)).toNat := rfl
      have HCN := Lib.hid (crash_next d kept k)
      generalize d.b k = B at *
      generalize d.s k = S at *
      generalize kept k = q at *
      go_upto_region 4 with (fail)
      have hal := alloc_below wr (.cells #[.string ⟨B.toArray⟩, .int .i64 S] 89 (0, 0))
      have hnew := heap_alloc_new wr (.cells #[.string ⟨B.toArray⟩, .int .i64 S] 89 (0, 0))
      have hkc2 := kept_at hal hkc
      have hn0 : (wr.alloc (.cells #[.string ⟨B.toArray⟩, .int .i64 S] 89 (0, 0))).cell? ⟨wr.heap.size, 0, none⟩ = some (.string ⟨B.toArray⟩) := by rw [cell_of_row _ _ _ _ _ _ hnew]; rfl
      have hn1 : (wr.alloc (.cells #[.string ⟨B.toArray⟩, .int .i64 S] 89 (0, 0))).cell? ⟨wr.heap.size, 1, none⟩ = some (.int .i64 S) := by rw [cell_of_row _ _ _ _ _ _ hnew]; rfl
      have HA := Lib.hid hal
      clear hal hnew hkc
      generalize wr.alloc (.cells #[.string ⟨B.toArray⟩, .int .i64 S] 89 (0, 0)) = w2 at *
      have w1 := IntWalk.i64_in ((B.length : Int) - S) (by omega)
      go_quiet (fail)
      have e1 : ((S : Int) + if (B.length : Int) - S < if q < 0 then 0 else q then (B.length : Int) - S else if q < 0 then 0 else q) = (d.keeps kept k : Nat) := by
        rw [hkeep]
        by_cases hq0 : q < 0
        · rw [if_pos hq0, if_neg (by omega)]; omega
        · rw [if_neg hq0]; split <;> omega
      rw [e1]
      have e2 : (d.keeps kept k : Int) ≤ B.length := by rw [hkeep]; omega
      clear hkc2 hn1 w1 e1 hkeep
      generalize d.keeps kept k = M at *
      have hn0' : (w2.drewN nq).cell? ⟨wr.heap.size, 0, none⟩ = some (.string ⟨B.toArray⟩) := hn0
      have HA' : Below wr.heap.size wr (w2.drewN nq) := drewN_below HA.out nq
      clear hn0 HA
      generalize w2.drewN nq = w3 at *
      have HA := Lib.hid HA'
      clear HA'
      go_upto_region 5 with (fail)
      go_still_tail 11, (by kernel_rfl)
      have hx : (⟨B.toArray⟩ : ByteArray).extract 0 M = ⟨(B.take M).toArray⟩ := by rw [ByteArray.extract_mk]; simp
      change wpList _ _ _ _ _ w3.drew
      have hd : DiskAt w3.drew g (d.crashTo kept k) := HD.out.below HA.out.drew
      have hb : w3.drew.heap[w.heap.size]? = some (.cells K4 31 (0, 0)) := ((Only.of_below (g := g) HA.out).drew).heap HBX.out (by omega)
      have HS := hd.setrow hlt4 (B.take M) M
      rw [HCN.out] at HS
      have HO2 := Lib.hid (((HON.out.trans (Only.of_below HA.out)).drew).setCells (k * 2) (.string ⟨(B.take M).toArray⟩) (.int .i64 M))
      refine wpList_store_mid rfl 89 (.tmp 39) (.tmp 36) rfl g (k * 2) #[.string ⟨(B.take M).toArray⟩, .int .i64 M] rfl ?_ (hd.there hlt4) (by kernel_rfl) (by simp [Value.oneCell']) ?_
      · show Value.agg #[_, _] = _
        rw [hx]
      have hb2 : (w3.drew.setCells g (k * 2) [.string ⟨(B.take M).toArray⟩, .int .i64 M]).heap[w.heap.size]? = some (.cells K4 31 (0, 0)) := ((Only.refl g w3.drew).setCells _ _ _).heap hb (by omega)
      show wpList _ _ _ _ _ (w3.drew.setCells g (k * 2) [.string ⟨(B.take M).toArray⟩, .int .i64 M])
      have HS' := Lib.hid HS
      have HB2 := Lib.hid hb2
      clear hd hb HS hb2 hx HD HON HBX hn0'
      generalize w3.drew.setCells g (k * 2) [.string ⟨(B.take M).toArray⟩, .int .i64 M] = w4 at *
      go_wp2
      go_roundw
      case rel => exact ⟨k + 1, by omega, by go_num, HS'.out, HO2.out, HB2.out⟩
      case measure => simp [intOf]; omega
    · obtain rfl : k = 4 := by omega
      have HD := Lib.hid hd
      have hc1 := hd.cellf
      have hc2 := hd.celld
      have hf1 := hd.frozen 9
      have hf2 := hd.frozen 10
      have HS := Lib.hid ((hd.setf (-1)).setd false)
      have HON := Lib.hid hon
      clear hd hon hb
      go_wp2
      go_end0
      exact ⟨rfl, HS.out, (HON.out.setCell _ _).setCell _ _⟩
set_option maxRecDepth 100000 in
set_option maxHeartbeats 2000000 in
theorem ref_crash (g : Nat) (d : Dk) (ho : d.Ok) (kept : Nat → Int) (hk : ∀ i, -9223372036854775808 ≤ kept i ∧ kept i ≤ 9223372036854775807) (w : World) (h : RefAt w g d) :
    Calls Try.prog 51 #[.pointer (some ⟨g, 0, none⟩), .agg (kept4 kept)] w fun e w' => e = .returned (.tuple #[]) ∧ RefAt w' g (d.crash kept) ∧ Only g w w' := by
  have hlt := h.lt
  have HO := Lib.hid ho
  have HK := Lib.hid hk
  clear ho hk
  have H1 := Lib.hid (h.below (alloc_below w (.cells (kept4 kept) 31 (0, 0))))
  have HB := Lib.hid (heap_alloc_new w (.cells (kept4 kept) 31 (0, 0)))
  clear h
  generalize hK4 : kept4 kept = K4 at *
  go_enter Try.func51, Try.ntmps51
  go_wp2
  go_loopw [4] (fun i wr => ∃ (k : Nat), k ≤ 4 ∧ i = .int .i64 k ∧ RefAt wr g (d.crashTo kept k) ∧ Only g w wr ∧ wr.heap[w.heap.size]? = some (.cells K4 31 (0, 0))) (fun i _ => 4 - (intOf i).toNat)
  case atStart => exact ⟨0, by omega, rfl, by rw [crash_start]; exact H1.out, Only.of_below (alloc_below _ _), HB.out⟩
  case round =>
    obtain ⟨k, hk, rfl, hd, hon, hb⟩ := hrel
    by_cases hlt4 : k < 4
    · have hk4 : (k : Int) < 4 := by omega
      have hkc := kept_cell (w := wr) (g := w.heap.size) (t := 31) kept (by rw [hK4]; exact hb) hlt4
      have hbc := hd.cellb hlt4
      have hsc := hd.cells hlt4
      have hfz := hd.frozen k
      rw [crash_b] at hbc
      rw [crash_s] at hsc
      have hq := HK.out k
      have hlen := HO.out.len hlt4
      have hs := HO.out.sure k
      have HON := Lib.hid hon
      have HBX := Lib.hid hb
      have HK4 := Lib.hid hK4
      have hkeep : d.keeps kept k = d.s k + (min (max (kept k) 0) ((d.b k).length - d.s k)).toNat := rfl
      have HCN := Lib.hid (crash_next d kept k)
      clear hon hb hK4
      have HD := Lib.hid hd
      clear hd
      generalize hBB : d.b k = B at *
      have HBB := Lib.hid hBB
      clear hBB
      generalize d.s k = S at *
      generalize kept k = q at *
      have w1 := IntWalk.i64_in ((B.length : Int) - S) (by omega)
      go_upto_region 5 with (fail)
      by_cases hlt2 : q < (B.length : Int) - S
      · go_quiet (fail)
        generalize nq = n0
        go_upto_region 6 with (fail)
        go_quiet (fail)
        have e1 : ((S : Int) + if q < 0 then 0 else q) = (d.keeps kept k : Nat) := by
          rw [hkeep]
          split <;> omega
        rw [e1]
        have e2 : (d.keeps kept k : Int) ≤ B.length := by rw [hkeep]; omega
        clear w1 e1 hkeep hlt2 hq
        generalize d.keeps kept k = M at *
        have hd : RefAt ((wr.drewN n0).drewN nq) g (d.crashTo kept k) := HD.out
        have hon := (HON.out.drewN n0).drewN nq
        have hb : ((wr.drewN n0).drewN nq).heap[w.heap.size]? = some (.cells K4 31 (0, 0)) := HBX.out
        clear HD HON HBX hbc hsc hkc hfz
        generalize (wr.drewN n0).drewN nq = w3 at *
        have hc := hd.cellb hlt4
        have hfz := hd.frozen k
        rw [crash_b] at hc
        rw [HBB.out] at hc
        have hx : (⟨B.toArray⟩ : ByteArray).extract 0 M = ⟨(B.take M).toArray⟩ := by rw [ByteArray.extract_mk]; simp
        have hd2 : RefAt (w3.setCell ⟨g, k, none⟩ (.string ⟨(B.take M).toArray⟩)).drew g _ := hd.setb hlt4 (B.take M)
        have hon2 := (hon.setCell k (.string ⟨(B.take M).toArray⟩)).drew
        have hb2 : (w3.setCell ⟨g, k, none⟩ (.string ⟨(B.take M).toArray⟩)).drew.heap[w.heap.size]? = some (.cells K4 31 (0, 0)) := (((Only.refl g w3).setCell k (.string ⟨(B.take M).toArray⟩)).drew).heap hb (by omega)
        have HD := Lib.hid hd2
        have HON := Lib.hid hon2
        have HBX := Lib.hid hb2
        clear hd hd2 hon hon2 hb hb2
        go_upto_region 7 with (fail)
        go_region
        generalize (w3.setCell ⟨g, k, none⟩ (.string ⟨(B.take M).toArray⟩)).drew = w4 at *
        clear hx hc hfz
        have hcs := HD.out.cells hlt4
        have hfz := HD.out.frozen (4 + k)
        have hd3 := HD.out.sets hlt4 M
        rw [HCN.out] at hd3
        have hon3 := HON.out.setCell (4 + k) (.int .i64 M)
        have hb3 : (w4.setCell ⟨g, 4 + k, none⟩ (.int .i64 M)).heap[w.heap.size]? = some (.cells K4 31 (0, 0)) := ((Only.refl g w4).setCell _ _).heap HBX.out (by omega)
        replace HD := Lib.hid hd3
        replace HON := Lib.hid hon3
        replace HBX := Lib.hid hb3
        clear hd3 hon3 hb3
        go_wp2
        go_roundw
        case rel => exact ⟨k + 1, by omega, by go_num, HD.out, HON.out, HBX.out⟩
        case measure => simp [intOf]; omega
      · go_quiet (fail)
        go_upto_region 7 with (fail)
        have e1 : (B.length : Int) = (d.keeps kept k : Nat) := by
          rw [hkeep]
          omega
        rw [e1]
        have e2 : (d.keeps kept k : Int) ≤ B.length := by rw [hkeep]; omega
        clear w1 e1 hkeep hlt2 hq
        generalize d.keeps kept k = M at *
        have hd : RefAt (wr.drewN nq) g (d.crashTo kept k) := HD.out
        have hon := HON.out.drewN nq
        have hb : (wr.drewN nq).heap[w.heap.size]? = some (.cells K4 31 (0, 0)) := HBX.out
        clear HD HON HBX hbc hsc hkc hfz
        generalize wr.drewN nq = w3 at *
        have hc := hd.cellb hlt4
        have hfz := hd.frozen k
        rw [crash_b] at hc
        rw [HBB.out] at hc
        have hx : (⟨B.toArray⟩ : ByteArray).extract 0 M = ⟨(B.take M).toArray⟩ := by rw [ByteArray.extract_mk]; simp
        have hd2 : RefAt (w3.setCell ⟨g, k, none⟩ (.string ⟨(B.take M).toArray⟩)).drew g _ := hd.setb hlt4 (B.take M)
        have hon2 := (hon.setCell k (.string ⟨(B.take M).toArray⟩)).drew
        have hb2 : (w3.setCell ⟨g, k, none⟩ (.string ⟨(B.take M).toArray⟩)).drew.heap[w.heap.size]? = some (.cells K4 31 (0, 0)) := (((Only.refl g w3).setCell k (.string ⟨(B.take M).toArray⟩)).drew).heap hb (by omega)
        have HD := Lib.hid hd2
        have HON := Lib.hid hon2
        have HBX := Lib.hid hb2
        clear hd hd2 hon hon2 hb hb2
        go_upto_region 7 with (fail)
        go_region
        generalize (w3.setCell ⟨g, k, none⟩ (.string ⟨(B.take M).toArray⟩)).drew = w4 at *
        clear hx hc hfz
        have hcs := HD.out.cells hlt4
        have hfz := HD.out.frozen (4 + k)
        have hd3 := HD.out.sets hlt4 M
        rw [HCN.out] at hd3
        have hon3 := HON.out.setCell (4 + k) (.int .i64 M)
        have hb3 : (w4.setCell ⟨g, 4 + k, none⟩ (.int .i64 M)).heap[w.heap.size]? = some (.cells K4 31 (0, 0)) := ((Only.refl g w4).setCell _ _).heap HBX.out (by omega)
        replace HD := Lib.hid hd3
        replace HON := Lib.hid hon3
        replace HBX := Lib.hid hb3
        clear hd3 hon3 hb3
        go_wp2
        go_roundw
        case rel => exact ⟨k + 1, by omega, by go_num, HD.out, HON.out, HBX.out⟩
        case measure => simp [intOf]; omega
    · obtain rfl : k = 4 := by omega
      have HD := Lib.hid hd
      have hc1 := hd.cellf
      have hc2 := hd.celld
      have hf1 := hd.frozen 9
      have hf2 := hd.frozen 10
      have HS := Lib.hid ((hd.setd false).setf (-1))
      have HON := Lib.hid hon
      clear hd hon hb
      go_wp2
      go_end0
      exact ⟨rfl, HS.out, (HON.out.setCell _ _).setCell _ _⟩
end Go.Proofs.Ytdphnhgogokidaa
