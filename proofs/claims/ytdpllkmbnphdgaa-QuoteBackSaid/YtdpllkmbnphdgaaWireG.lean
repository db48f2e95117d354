/- Wire: the fields of a command. -/
import Derived.Test.YtdpllkmbnphdgaaWireF
import Derived.Deep.LoopGhost
import Derived.Deep.DeepCutAuto
import Derived.Deep.MidRow
namespace Go.Proofs.Ytdpllkmbnphdgaa
open Go.RowKit

/-- a field's three cells: whose number it is, and how many bytes lay it. -/
def fieldCells (g : Nat) (p : Nat × Nat) : List Value :=
  if p.1 ≤ 5 then [.pointer (some ⟨g, p.1, none⟩), .pointer none, .int .i64 p.2] else [.pointer none, .pointer (some ⟨g, p.1, none⟩), .int .i64 p.2]
def FieldAt (w : World) (b g : Nat) (p : Nat × Nat) : Prop := w.heap[b]? = some (.cells (fieldCells g p).toArray 66 (0, 0))
theorem FieldAt.below {w w' : World} {b g : Nat} {p : Nat × Nat} (h : FieldAt w b g p) (hb : Below w.heap.size w w') : FieldAt w' b g p := by
  unfold FieldAt at h ⊢
  rw [hb.block b (Array.getElem?_eq_some_iff.1 h).1]; exact h
theorem FieldAt.near {w : World} {b g i n : Nat} (h : FieldAt w b g (i, n)) (hi : i ≤ 5) : w.cell? ⟨b, 0, none⟩ = some (.pointer (some ⟨g, i, none⟩)) ∧ w.cell? ⟨b, 1, none⟩ = some (.pointer none) ∧ w.cell? ⟨b, 2, none⟩ = some (.int .i64 n) := by
  unfold FieldAt fieldCells at h
  rw [if_pos hi] at h
  refine ⟨?_, ?_, ?_⟩ <;> rw [cell_of_row _ _ _ _ _ _ h] <;> rfl
theorem FieldAt.far {w : World} {b g i n : Nat} (h : FieldAt w b g (i, n)) (hi : ¬ i ≤ 5) : w.cell? ⟨b, 0, none⟩ = some (.pointer none) ∧ w.cell? ⟨b, 1, none⟩ = some (.pointer (some ⟨g, i, none⟩)) ∧ w.cell? ⟨b, 2, none⟩ = some (.int .i64 n) := by
  unfold FieldAt fieldCells at h
  rw [if_neg hi] at h
  refine ⟨?_, ?_, ?_⟩ <;> rw [cell_of_row _ _ _ _ _ _ h] <;> rfl
/-- a slice of fields. -/
def FieldsAt (w : World) (B g : Nat) (v : Value) (L : List (Nat × Nat)) : Prop :=
  ∃ a, v = .slice a L.length L.length ∧ (L ≠ [] → ∃ b, B ≤ b ∧ a = some ⟨b, 0, none⟩ ∧ w.heap[b]? = some (.cells (L.flatMap (fieldCells g)).toArray 66 (0, 0)))
theorem fieldsAt_new {w : World} {B g : Nat} (L : List (Nat × Nat)) (hB : B ≤ w.heap.size) (n : Nat) (hn : n = L.length) {cs : Array Value} (hc : cs = (L.flatMap (fieldCells g)).toArray) :
    FieldsAt (w.alloc (.cells cs 66 (0, 0))) B g (.slice (some ⟨w.heap.size, 0, none⟩) n n) L := by
  subst hn; subst hc
  exact ⟨_, rfl, fun _ => ⟨w.heap.size, hB, rfl, heap_alloc_new _ _⟩⟩
theorem kept_cell {w w' : World} {p : Addr} {v : Value} (h : Below w.heap.size w w') (hp : w.cell? p = some v) : w'.cell? p = some v := (h.cell (block_lt_of_cell hp)).trans hp
theorem heap3 (w : World) (o1 o2 o3 : Obj) : (((w.alloc o1).alloc o2).alloc o3).heap[w.heap.size]? = some o1 ∧ (((w.alloc o1).alloc o2).alloc o3).heap[w.heap.size + 1]? = some o2 ∧ (((w.alloc o1).alloc o2).alloc o3).heap[w.heap.size + 1 + 1]? = some o3 := by
  have hb := (Below.refl ((w.alloc o1).alloc o2).heap.size ((w.alloc o1).alloc o2)).alloc (Nat.le_refl _) o3
  refine ⟨?_, ?_, ?_⟩
  · rw [hb.block _ (by simp; omega)]; exact heap_alloc2_old w o1 o2
  · rw [hb.block _ (by simp)]; exact heap_alloc2_new w o1 o2
  · have := heap_alloc_new ((w.alloc o1).alloc o2) o3
    rwa [show ((w.alloc o1).alloc o2).heap.size = w.heap.size + 1 + 1 by simp] at this
set_option maxRecDepth 100000 in
set_option maxHeartbeats 4000000 in
theorem fields_any (g : Nat) (k : Int) (w : World) (h : w.cell? ⟨g, 0, none⟩ = some (.int .i64 k)) :
    Calls Try.prog 26 #[.pointer (some ⟨g, 0, none⟩)] w fun e w' => ∃ v, e = .returned v ∧ FieldsAt w' w.heap.size g v (specs k) ∧ Below w.heap.size w w' := by
  go_enter Try.func26, Try.ntmps26
  go_upto_region 1 with (fail)
  go_cut [3, 4] (fun u v wx => ∃ a b, u = .pointer (some ⟨a, 0, none⟩) ∧ v = .pointer (some ⟨b, 0, none⟩) ∧ FieldAt wx a g (1, 1) ∧ FieldAt wx b g (2, 4) ∧ w.heap.size ≤ a ∧ w.heap.size ≤ b ∧ Below w.heap.size w wx)
  case first =>
    have B2 := fun o1 o2 => (((Below.refl w.heap.size w).alloc (Nat.le_refl _) o1).alloc (by simp) o2).drew
    have N1 := fun o1 o2 => heap_alloc2_old w o1 o2
    have N2 := fun o1 o2 => heap_alloc2_new w o1 o2
    have B2' := Lib.hid B2
    have N1' := Lib.hid N1
    have N2' := Lib.hid N2
    clear B2 N1 N2
    go_region
    · go_wp2_with fail
      go_meet
      exact ⟨_, _, rfl, rfl, N1'.out _ _, N2'.out _ _, by omega, by omega, B2'.out _ _⟩
    · go_wp2_with fail
      go_meet
      exact ⟨_, _, rfl, rfl, N2'.out _ _, N1'.out _ _, by omega, by omega, B2'.out _ _⟩
  case rest =>
    obtain ⟨a1, a2, rfl, rfl, f1, f2, l1, l2, hb⟩ := hcut
    have F1 := Lib.hid f1
    have F2 := Lib.hid f2
    have HB := Lib.hid hb
    have hsz := hb.size
    clear f1 f2 hb
    go_upto_region 2 with (fail)
    go_cut [5, 6, 7] (fun u v x wx => ∃ a b c, u = .pointer (some ⟨a, 0, none⟩) ∧ v = .pointer (some ⟨b, 0, none⟩) ∧ x = .pointer (some ⟨c, 0, none⟩) ∧ FieldAt wx a g (3, 1) ∧ FieldAt wx b g (4, 1) ∧ FieldAt wx c g (5, 1) ∧ w.heap.size ≤ a ∧ w.heap.size ≤ b ∧ w.heap.size ≤ c ∧ Below wc.heap.size wc wx)
    case first =>
      have B3 := Lib.hid (fun o1 o2 o3 => ((((Below.refl wc.heap.size wc).alloc (Nat.le_refl _) o1).alloc (by simp) o2).alloc (by simp; omega) o3).drew)
      have N3 := Lib.hid (heap3 wc)
      go_region
      all_goals
        go_wp2_with fail
        go_meet
        first
          | exact ⟨_, _, _, rfl, rfl, rfl, (N3.out _ _ _).1, (N3.out _ _ _).2.1, (N3.out _ _ _).2.2, by omega, by omega, by omega, B3.out _ _ _⟩
          | exact ⟨_, _, _, rfl, rfl, rfl, (N3.out _ _ _).1, (N3.out _ _ _).2.2, (N3.out _ _ _).2.1, by omega, by omega, by omega, B3.out _ _ _⟩
          | exact ⟨_, _, _, rfl, rfl, rfl, (N3.out _ _ _).2.1, (N3.out _ _ _).1, (N3.out _ _ _).2.2, by omega, by omega, by omega, B3.out _ _ _⟩
          | exact ⟨_, _, _, rfl, rfl, rfl, (N3.out _ _ _).2.1, (N3.out _ _ _).2.2, (N3.out _ _ _).1, by omega, by omega, by omega, B3.out _ _ _⟩
          | exact ⟨_, _, _, rfl, rfl, rfl, (N3.out _ _ _).2.2, (N3.out _ _ _).1, (N3.out _ _ _).2.1, by omega, by omega, by omega, B3.out _ _ _⟩
          | exact ⟨_, _, _, rfl, rfl, rfl, (N3.out _ _ _).2.2, (N3.out _ _ _).2.1, (N3.out _ _ _).1, by omega, by omega, by omega, B3.out _ _ _⟩
    case rest =>
      obtain ⟨a3, a4, a5, rfl, rfl, rfl, f3, f4, f5, l3, l4, l5, hb2⟩ := hcut
      have F1' := Lib.hid (F1.out.below hb2)
      have F2' := Lib.hid (F2.out.below hb2)
      have F3 := Lib.hid f3
      have F4 := Lib.hid f4
      have F5 := Lib.hid f5
      have HB2 := Lib.hid (HB.out.trans (hb2.mono hsz))
      have hsz2 := hb2.size
      clear f3 f4 f5 hb2 F1 F2 HB
      rename_i wc2
      generalize wc.heap.size = z2 at hsz2
      go_upto_region 3 with (fail)
      go_cut [8, 9] (fun u v wx => ∃ a b, u = .pointer (some ⟨a, 0, none⟩) ∧ v = .pointer (some ⟨b, 0, none⟩) ∧ FieldAt wx a g (6, 8) ∧ FieldAt wx b g (7, 8) ∧ w.heap.size ≤ a ∧ w.heap.size ≤ b ∧ Below wc.heap.size wc wx)
      case first =>
        have B2 := Lib.hid (fun o1 o2 => (((Below.refl wc.heap.size wc).alloc (Nat.le_refl _) o1).alloc (by simp) o2).drew)
        have N1 := Lib.hid (fun o1 o2 => heap_alloc2_old wc o1 o2)
        have N2 := Lib.hid (fun o1 o2 => heap_alloc2_new wc o1 o2)
        have hge : w.heap.size ≤ wc.heap.size := HB2.out.size
        go_region
        · go_wp2_with fail
          go_meet
          exact ⟨_, _, rfl, rfl, N1.out _ _, N2.out _ _, by omega, by omega, B2.out _ _⟩
        · go_wp2_with fail
          go_meet
          exact ⟨_, _, rfl, rfl, N2.out _ _, N1.out _ _, by omega, by omega, B2.out _ _⟩
      case rest =>
        obtain ⟨a6, a7, rfl, rfl, f6, f7, l6, l7, hb3⟩ := hcut
        obtain ⟨x10, x11, x12⟩ := (F1'.out.below hb3).near (by omega)
        obtain ⟨x20, x21, x22⟩ := (F2'.out.below hb3).near (by omega)
        obtain ⟨x30, x31, x32⟩ := (F3.out.below hb3).near (by omega)
        obtain ⟨x40, x41, x42⟩ := (F4.out.below hb3).near (by omega)
        obtain ⟨x50, x51, x52⟩ := (F5.out.below hb3).near (by omega)
        obtain ⟨x60, x61, x62⟩ := f6.far (by omega)
        obtain ⟨x70, x71, x72⟩ := f7.far (by omega)
        have hb4 := HB2.out.trans (hb3.mono HB2.out.size)
        have hkc := kept_cell hb4 h
        have HB4 := Lib.hid hb4
        clear F1' F2' F3 F4 F5 f6 f7 HB2 hsz hsz2 hb3 hb4 h l1 l2 l3 l4 l5 l6 l7
        by_cases hk : k = 1 ∨ k = 2 ∨ k = 3 ∨ k = 4 ∨ k = 5 ∨ k = 6 ∨ k = 7 ∨ k = 8 ∨ k = 9
        · have HK := Lib.hid hkc
          clear hkc
          rcases hk with rfl | rfl | rfl | rfl | rfl | rfl | rfl | rfl | rfl
          all_goals
            have hkc2 := HK.out
            go_wp2
            go_ret
            refine ⟨_, rfl, ?_, HB4.out.alloc HB4.out.size _⟩
            refine fieldsAt_new _ HB4.out.size _ ?_ ?_
            · rfl
            · rfl
        · have e : specs k = [] := by
            unfold specs
            repeat rw [if_neg (by omega)]
          have e1 : (k == 1) = false := by simp; omega
          have e2 : (k == 2) = false := by simp; omega
          have e3 : (k == 3) = false := by simp; omega
          have e4 : (k == 4) = false := by simp; omega
          have e5 : (k == 5) = false := by simp; omega
          have e6 : (k == 6) = false := by simp; omega
          have e7 : (k == 7) = false := by simp; omega
          have e8 : (k == 8) = false := by simp; omega
          have e9 : (k == 9) = false := by simp; omega
          have HE := Lib.hid e
          clear e hk
          go_wp2
          go_ret
          rw [HE.out]
          exact ⟨_, rfl, ⟨none, rfl, fun h => absurd rfl h⟩, HB4.out⟩
end Go.Proofs.Ytdpllkmbnphdgaa
