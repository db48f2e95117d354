/- Walks of a builder's check and its writing, and of the frames of many records (frame.All). -/
import Derived.Test.YtdphnhgogokidaaFrameT
import Derived.Test.YtdphnhgogokidaaShelf
import Derived.Lib.Builder
namespace Go.Proofs.Ytdphnhgogokidaa
open Go.RowKit

theorem sizeB : (Try.prog.info? 104).map (·.size) = some 2 := by kernel_rfl
theorem liesB : liesAt Try.prog Try.prog.depth 104 (2 / Try.prog.cellsOf 104) 0 104 1 = true := by kernel_rfl
set_option maxHeartbeats 1000000 in
set_option maxRecDepth 100000 in
theorem copyCheck_used (b : Nat) (w : World) (h0 : w.cell? ⟨b, 0, none⟩ = some (.pointer (some ⟨b, 0, none⟩))) :
    Calls Try.prog 91 #[.pointer (some ⟨b, 0, none⟩)] w fun e w' => e = .returned (.tuple #[]) ∧ w' = w := by
  obtain ⟨j, hj, _⟩ := Option.map_eq_some_iff.1 sizeB
  go_enter Try.func91, Try.ntmps91
  go_wp2
  rw [Lib.run_neq_ptr_same w _ Try.underlying102 hj]
  go_wp2
  go_end0
  exact ⟨rfl, rfl⟩
set_option maxHeartbeats 1000000 in
set_option maxRecDepth 100000 in
theorem copyCheck_fresh (b : Nat) (w : World) (h0 : w.cell? ⟨b, 0, none⟩ = some (.pointer none)) (hsh : w.shape? b = some (104, 2)) (hfz : w.frozen? ⟨b, 0, none⟩ = false) :
    Calls Try.prog 91 #[.pointer (some ⟨b, 0, none⟩)] w fun e w' => e = .returned (.tuple #[]) ∧ w' = w.setCell ⟨b, 0, none⟩ (.pointer (some ⟨b, 0, none⟩)) := by
  obtain ⟨j, hj, hjs⟩ := Option.map_eq_some_iff.1 sizeB
  go_enter Try.func91, Try.ntmps91
  go_wp2
  rw [Lib.run_to_unsafe w ⟨b, 0, none⟩ Try.underlying102 Try.underlying124 hj (by rw [hjs]; decide) hsh (Nat.zero_lt_succ 1)]
  simp only [Result.andThen]
  rw [Oper.upon_value]
  go_wp2
  rw [run_callFunc_extern Try.func92 (by kernel_rfl) (by kernel_rfl) (by kernel_rfl) (e := Extern.AbiNoEscape.same) (by kernel_rfl)]
  rw [Lib.run_noEscape]
  simp only [Result.andThen]
  rw [Oper.upon_value]
  go_wp2
  rw [Lib.run_from_unsafe w ⟨b, 0, none⟩ Try.underlying124 Try.underlying102 hj hsh liesB]
  simp only [Result.andThen]
  rw [Oper.upon_value]
  go_wp2
  go_end0
  exact ⟨rfl, rfl⟩
theorem copyCheck_any (B b : Nat) (bs : List Value) (w : World) (h : Lib.IsBuilder 104 5 B b bs w) :
    Calls Try.prog 91 #[.pointer (some ⟨b, 0, none⟩)] w fun e w' => e = .returned (.tuple #[]) ∧ (Lib.BuilderAt 104 5 B b (.pointer (some ⟨b, 0, none⟩)) bs w' ∧ Below B w w') := by
  rcases h with h | h
  · refine (copyCheck_fresh b w h.cell0 h.shape h.frozen0).mono ?_
    rintro e w' ⟨rfl, rfl⟩
    exact ⟨rfl, h.used _, (Below.refl B w).setCell (p := ⟨b, 0, none⟩) h.1 _⟩
  · refine (copyCheck_used b w h.cell0).mono ?_
    rintro e w' ⟨rfl, rfl⟩
    exact ⟨rfl, h, Below.refl B _⟩
theorem infoByte : (Try.prog.info? 5).map (fun i => (i.zero, i.size, i.bytes)) = some (some (.int .u8 0), 1, 1) := by kernel_rfl
set_option maxHeartbeats 2000000 in
set_option maxRecDepth 100000 in
theorem writeString_any (B b : Nat) (bs : List Value) (s : ByteArray) (w : World) (h : Lib.IsBuilder 104 5 B b bs w) (hlen : bs.length + s.size ≤ 140737488355328) (hBw : B ≤ w.heap.size) :
    Calls Try.prog 67 #[.pointer (some ⟨b, 0, none⟩), .string s] w fun e w' => e = .returned (.tuple #[.int .i64 s.size, .nilIface]) ∧ (Lib.BuilderAt 104 5 B b (.pointer (some ⟨b, 0, none⟩)) (bs ++ Lib.strCells s) w' ∧ Below B w w') := by
  obtain ⟨i0, hi, hz0, hz1, hz2⟩ := info_parts infoByte
  go_enter Try.func67, Try.ntmps67
  go_wp2_with (go_at_call 91; refine (copyCheck_any B b bs _ h).mono ?_)
  rintro e w1 ⟨rfl, h1, hb1⟩
  obtain ⟨hB, v, hbk, hown, hne⟩ := h1
  have c0 : w1.cell? ⟨b, 0, none⟩ = some (.pointer (some ⟨b, 0, none⟩)) := by rw [Lib.cell_of_heap hbk]; rfl
  have c1 : w1.cell? ⟨b, 1, none⟩ = some v := by rw [Lib.cell_of_heap hbk]; rfl
  go_wp2_with (at_builtin; refine Lib.wpList_append_own_string _ rfl _ _ 62 9 rfl B 5 i0 Try.underlying62 Try.underlying9 hi hz0 hz1 hz2 _ _ _ rfl hown s rfl ?c3 ?c4 ?c5 ?_)
  case c3 => unfold maxLen; omega
  case c4 => omega
  case c5 => have := hb1.size; omega
  intro v' w2 hown' hgrow _
  have hlt : b < w1.heap.size := by
    rcases Nat.lt_or_ge b w1.heap.size with h' | h'
    · exact h'
    · simp [Array.getElem?_eq_none h'] at hbk
  have hb2 : w2.heap[b]? = some (.cells #[.pointer (some ⟨b, 0, none⟩), v] 104 (0, 0)) := by
    rw [hgrow.block b hlt (fun e => hne e.symm)]
    exact hbk
  have d0 : w2.cell? ⟨b, 0, none⟩ = some (.pointer (some ⟨b, 0, none⟩)) := by rw [Lib.cell_of_heap hb2]; rfl
  have d1 : w2.cell? ⟨b, 1, none⟩ = some v := by rw [Lib.cell_of_heap hb2]; rfl
  have f1 : w2.frozen? ⟨b, 1, none⟩ = false := Lib.frozen_of_heap hb2 1
  obtain ⟨ao, n', cap, rfl⟩ : ∃ ao n' cap, v' = .slice ao n' cap := by
    rcases hown'.2 with ⟨hv, _⟩ | ⟨g, cap, cur, hv, _⟩
    · exact ⟨_, _, _, hv⟩
    · exact ⟨_, _, _, hv⟩
  go_wp2
  go_ret2
  refine ⟨rfl, ?_, ?_⟩
  · exact Lib.BuilderAt.put (T := 104) (e := 5) hB hb2 (bs' := bs ++ Lib.strCells s) (by simpa [Lib.strCells_length] using hown') (by decide)
  · exact (hb1.grown hgrow (by have := hb1.size; omega) (fun k hk => (hown.lt k hk).1)).setCell (p := ⟨b, 1, none⟩) hB _
theorem isBuilder_below {T e : TypeId} {B b : Nat} {bs : List Value} {w w1 : World} (h : Lib.IsBuilder T e B b bs w) (hb : Below w.heap.size w w1) : Lib.IsBuilder T e B b bs w1 := by
  have key : ∀ p, Lib.BuilderAt T e B b p bs w → Lib.BuilderAt T e B b p bs w1 := by
    rintro p ⟨h1, v, h2, h3, h4⟩
    exact ⟨h1, v, by rw [hb.block b (Array.getElem?_eq_some_iff.1 h2).1]; exact h2, ownsRow_below h3 hb, h4⟩
  rcases h with h | h
  · exact .inl (key _ h)
  · exact .inr (key _ h)
theorem strCells_mk (l : List UInt8) : Lib.strCells ⟨l.toArray⟩ = Lib.byteCells l := by simp [Lib.strCells, Lib.byteCells]
theorem byteCells_app (a b : List UInt8) : Lib.byteCells (a ++ b) = Lib.byteCells a ++ Lib.byteCells b := by simp [Lib.byteCells]
set_option maxRecDepth 100000 in
set_option maxHeartbeats 1000000 in
theorem all_any (v : Value) (A : List (List UInt8)) (w : World) (ha : SlStr w v A) (hA : A.length ≤ 1099511627776) (hx : ∀ x ∈ A, x.length ≤ 65536) (hF : (framesOf A).length ≤ 1099511627776) :
    Calls Try.prog 37 #[v] w fun e w' => e = .returned (.tuple #[.string ⟨(framesOf A).toArray⟩, .int .i64 0]) ∧ Below w.heap.size w w' := by
  obtain ⟨a, ca, rfl, ha⟩ := ha
  have HA := Lib.hid ha
  have HX := Lib.hid hx
  clear ha hx
  go_enter Try.func37, Try.ntmps37
  go_wp2
  go_loopw [11] (fun i wr => ∃ (k : Nat), k ≤ A.length ∧ i = .int .i64 k ∧ Lib.IsBuilder 104 5 w.heap.size w.heap.size (Lib.byteCells (framesOf (A.take k))) wr ∧ Below w.heap.size w wr) (fun i _ => A.length - (intOf i).toNat)
  case atStart => exact ⟨0, by omega, rfl, Lib.fresh_isBuilder _ _ _, (Below.refl _ _).alloc (Nat.le_refl _) _⟩
  case round =>
    obtain ⟨k, hk, rfl, hbd, hbel⟩ := hrel
    by_cases hlt : k < A.length
    · have hne : A ≠ [] := by intro h; rw [h] at hlt; simp at hlt
      obtain ⟨ba, oa, ea, fa⟩ := HA.out hne
      subst ea
      obtain ⟨x, hx⟩ : ∃ x, A[k]? = some x := ⟨A[k], by simp [hlt]⟩
      have ga0 : w.cell? ⟨ba, oa + k, none⟩ = some (.string ⟨x.toArray⟩) := fa k x hx
      have ga : wr.cell? ⟨ba, oa + k, none⟩ = some (.string ⟨x.toArray⟩) := by rw [hbel.cell (p := ⟨ba, oa + k, none⟩) (block_lt_of_cell ga0)]; exact ga0
      have hxl := HX.out x (List.mem_of_getElem? hx)
      have htk : A.take (k + 1) = A.take k ++ [x] := by rw [List.take_add_one, hx]; rfl
      have hfr : framesOf (A.take (k + 1)) = framesOf (A.take k) ++ frameOf x := by rw [htk, framesOf_snoc]
      have hle := framesOf_take_le A (k + 1)
      rw [hfr, List.length_append] at hle
      have HFR := Lib.hid hfr
      have HXX := Lib.hid hx
      have q1 : (k : Int) < (A.length : Int) := by omega
      clear hx fa hne ga0 htk hfr
      have c1 := fun wx => put_ok ⟨x.toArray⟩ (by rw [ByteArray.size]; simpa using hxl) wx
      have C1 := Lib.hid c1
      clear c1
      go_wp2_with fail
      refine (C1.out _).mono ?_
      rintro e w1 ⟨rfl, hb1⟩
      have hbd1 := isBuilder_below hbd hb1
      have hbel2 := hbel.trans (hb1.mono hbel.size)
      have hsz := hbel2.size
      clear hb1 hbel ga hbd
      have HBD := Lib.hid hbd1
      clear hbd1
      go_wp2_with fail
      refine (writeString_any w.heap.size w.heap.size _ ⟨(frameOf x).toArray⟩ _ HBD.out ?_ hsz).mono ?_
      · rw [ByteArray.size, Lib.byteCells_length]; simp; omega
      rintro e w2 ⟨rfl, hbd2, hb2⟩
      rw [strCells_mk, ← byteCells_app, ← HFR.out] at hbd2
      have hbel3 := hbel2.trans hb2
      clear hbel2 hb2
      have HBD2 := Lib.hid hbd2
      clear hbd2
      go_wp2
      go_roundw
      case rel => exact ⟨k + 1, by omega, by go_num, .inr HBD2.out, hbel3⟩
      case measure => simp [intOf]; omega
    · obtain rfl : k = A.length := by omega
      rw [List.take_length] at hbd
      have HBD := Lib.hid hbd
      have hsz := hbel.size
      clear hbd
      go_wp2_with (go_at_call 68; refine (Try.Builder_String_any w.heap.size w.heap.size _ _ HBD.out hsz).mono ?_; rintro e w2 ⟨rfl, hb2⟩)
      go_ret2
      exact ⟨rfl, hbel.trans hb2⟩
end Go.Proofs.Ytdphnhgogokidaa
