/- The walk of DiskSure. -/
import Derived.Test.YtdphnhgogokidaaDiskO
namespace Go.Proofs.Ytdphnhgogokidaa
open Go.RowKit

theorem crash_bytes (d : Dk) (kept : Nat → Int) {j : Nat} (hj : j < 4) : (d.crash kept).b j = (d.b j).take (d.keeps kept j) := by simp [Dk.crash, Dk.crashTo, hj]
theorem crash_sure (d : Dk) (kept : Nat → Int) {j : Nat} (hj : j < 4) : (d.crash kept).s j = d.keeps kept j := by simp [Dk.crash, Dk.crashTo, hj]
theorem crash_len {d : Dk} (h : d.Ok) (kept : Nat → Int) {j : Nat} (hj : j < 4) : ((d.crash kept).b j).length = d.keeps kept j := by
  rw [crash_bytes d kept hj, List.length_take]
  have := keeps_le h kept j
  omega
theorem crash_part {d : Dk} (h : d.Ok) (kept : Nat → Int) {j : Nat} (hj : j < 4) : (d.b j).take ((d.crash kept).b j).length = (d.crash kept).b j := by
  rw [crash_len h kept hj, crash_bytes d kept hj]
theorem crash_twice {d : Dk} (h : d.Ok) (kept : Nat → Int) {j : Nat} (hj : j < 4) : ((d.crash kept).crash (fun _ => 0)).b j = (d.crash kept).b j := by
  have h1 : (d.crash kept).keeps (fun _ => 0) j = ((d.crash kept).b j).length := by
    show (d.crash kept).s j + (min (max (0 : Int) 0) (((d.crash kept).b j).length - (d.crash kept).s j)).toNat = _
    rw [crash_sure d kept hj, crash_len h kept hj]
    omega
  rw [crash_bytes _ _ hj, h1, List.take_length]
theorem append_none {c : Dk} (h : c.Ok) (hf : c.fuse = -1) (hd : c.down = false) : (c.append 0 []).code = 0 := by
  have e : c.append 0 [] = c.step _ := if_pos (by decide)
  have h1 := h.left
  rw [e, step_pow hf hd]
  show (c.app _ _).code = 0
  unfold Dk.app
  rw [if_neg (by simp; omega)]
theorem upd_next (f g : Nat → List UInt8) (j i : Nat) : upd (fun i => if i < j then f i else g i) j (f j) i = if i < j + 1 then f i else g i := by
  unfold upd
  by_cases h : i = j
  · subst h; simp
  · have : i < j ↔ i < j + 1 := by omega
    simp [h, this]
/-- four texts in a block. -/
def strs4 (f : Nat → List UInt8) : Array Value := #[.string ⟨(f 0).toArray⟩, .string ⟨(f 1).toArray⟩, .string ⟨(f 2).toArray⟩, .string ⟨(f 3).toArray⟩]
def FourAt (w : World) (g : Nat) (f : Nat → List UInt8) : Prop := w.heap[g]? = some (.cells (strs4 f) 38 (0, 0))
theorem FourAt.cell {w : World} {g : Nat} {f : Nat → List UInt8} (h : FourAt w g f) {i : Nat} (hi : i < 4) : w.cell? ⟨g, i, none⟩ = some (.string ⟨(f i).toArray⟩) := by
  rw [cell_of_row _ _ _ _ _ _ h]
  rcases four hi with rfl | rfl | rfl | rfl <;> rfl
theorem FourAt.frozen {w : World} {g : Nat} {f : Nat → List UInt8} (h : FourAt w g f) (j : Nat) : w.frozen? ⟨g, j, none⟩ = false := frozen_of_row _ _ _ _ _ h
theorem FourAt.set {w : World} {g : Nat} {f : Nat → List UInt8} (h : FourAt w g f) {i : Nat} (hi : i < 4) (x : List UInt8) : FourAt (w.setCell ⟨g, i, none⟩ (.string ⟨x.toArray⟩)) g (upd f i x) := by
  have := heap_setCell_same w g i _ _ (.string ⟨x.toArray⟩) h
  unfold FourAt
  rw [this]
  rcases four hi with rfl | rfl | rfl | rfl <;> rfl
theorem FourAt.ext {w : World} {g : Nat} {f f' : Nat → List UInt8} (h : FourAt w g f) (e : ∀ i, i < 4 → f i = f' i) : FourAt w g f' := by
  unfold FourAt strs4 at h ⊢
  rw [← e 0 (by omega), ← e 1 (by omega), ← e 2 (by omega), ← e 3 (by omega)]; exact h
namespace DiskSureW
set_option maxRecDepth 100000 in
set_option maxHeartbeats 4000000 in
theorem walk (v : Value) (L : List DOp) (kept : Nat → Int) (hkept : ∀ i, -9223372036854775808 ≤ kept i ∧ kept i ≤ 9223372036854775807) (w : World) (hs : SlOp w v L) (hn : L.length ≤ 140737488355328) (hx : ∀ x ∈ L, x.Ok) :
    Calls Try.prog 4 #[v, .agg (kept4 kept)] w fun e w' => e = .returned (.bool true) ∧ Below w.heap.size w w' := by
  have N1 := Lib.hid (new_disk 1048576 (by omega) (by omega))
  have N2 := Lib.hid (ref_new 1048576 (by omega) (by omega))
  have HOK := Lib.hid (new_ok (room := 1048576) (by omega) (by omega))
  have HK := Lib.hid hkept
  have hal := alloc_below w (.cells (kept4 kept) 31 (0, 0))
  have HBX := Lib.hid (heap_alloc_new w (.cells (kept4 kept) 31 (0, 0)))
  have HAL := Lib.hid hal
  have hs0 := Lib.hid (hs.below hal (Nat.le_refl _))
  have hsz0 := hal.size
  clear hkept hal
  generalize hK4 : kept4 kept = K4 at *
  have HKE := Lib.hid hK4
  clear hK4
  obtain ⟨a, c, rfl, _⟩ := hs
  have HX := Lib.hid hx
  clear hx
  go_enter Try.func4, Try.ntmps4
  go_upto_region 1 with (fail)
  generalize w.alloc (.cells K4 31 (0, 0)) = w0 at *
  have HS := hs0
  have HSZ := Lib.hid hsz0
  clear hs0 hsz0
  have hwl := Lib.hid (Array.getElem?_eq_some_iff.1 HBX.out).1
  go_upto_region 3 with (go_at_call 15; refine (awake05_any _).mono ?_; rintro e w1 ⟨rfl, hb1⟩)
  go_wp2_with fail
  go_at_call 16
  refine (N1.out _).mono ?_
  rintro e w2 ⟨rfl, hd2, hb2, hl2⟩
  go_wp2_with fail
  go_at_call 17
  refine (N2.out _).mono ?_
  rintro e w3 ⟨rfl, hd3, hb3, hl3⟩
  generalize hG1 : w1.heap.size = G1 at *
  generalize hG2 : w2.heap.size = G2 at *
  have hsz := hb1.size
  have hne : G1 ≠ G2 := by omega
  have HD := Lib.hid (hd2.below (by rw [hG2]; exact hb3))
  have HR := Lib.hid hd3
  have HB3 := Lib.hid (((hb1.trans (hb2.mono (by omega))).trans (hb3.mono (by omega))) : Below w0.heap.size w0 w3)
  have HSL := Lib.hid (HS.out.below HB3.out (Nat.le_refl _))
  have hg1 : w0.heap.size ≤ G1 := by omega
  have hg2 : w0.heap.size ≤ G2 := by omega
  have hg3 : w0.heap.size ≤ w3.heap.size := HB3.out.size
  have HZ := Lib.hid (And.intro hg1 (And.intro hg2 hg3))
  clear hd2 hd3 hb1 hb2 hb3 hl2 hl3 hsz hG1 hG2 hg1 hg2 hg3 N1 N2
  have HNE := Lib.hid hne
  clear hne
  generalize Dk.new 1048576 = D0 at *
  go_wp2_with fail
  go_loopw [9, 10] (fun s i wr => ∃ (k sz : Nat), k ≤ L.length ∧ k ≤ 40 ∧ i = .int .i64 k ∧ s = .int .i64 sz ∧ (sz : Int) ≤ 4000 ∧ DiskAt wr G1 (runs D0 (L.take k)) ∧ RefAt wr G2 (runs D0 (L.take k)) ∧ Below w0.heap.size w0 wr ∧ SlOp wr (.slice a L.length c) L) (fun _ i _ => 40 - (intOf i).toNat)
  case atStart => exact ⟨0, 0, by omega, by omega, rfl, rfl, by omega, HD.out, HR.out, HB3.out, HSL.out⟩
  case round =>
    obtain ⟨k, sz, hk, hk40, rfl, rfl, hsz, hd, hr, hb, hsl⟩ := hrel
    clear HD HR HB3 HSL
    have HD := Lib.hid hd
    have HR := Lib.hid hr
    have HB := Lib.hid hb
    have HSL := Lib.hid hsl
    clear hd hr hb
    by_cases hlt : k < L.length
    · by_cases h40 : k < 40
      · obtain ⟨_, _, he, hc0⟩ := hsl
        simp only [Value.slice.injEq] at he
        obtain ⟨rfl, _, rfl⟩ := he
        obtain ⟨b, o, rfl, hc⟩ := hc0 (by intro h; subst h; simp at hlt)
        have hrg := hc k L[k] (by simp [hlt])
        clear hc hc0
        have hxo := HX.out L[k] (List.getElem_mem hlt)
        have HXO := Lib.hid hxo
        have hok : (runs D0 (L.take k)).Ok := runs_ok HOK.out _ (fun y hy => HX.out y (List.mem_of_mem_take hy))
        have HN := Lib.hid (runs_next D0 L hlt)
        have HOKd := Lib.hid hok
        have HOKn := Lib.hid (run_ok hok hxo)
        clear hok
        generalize L[k] = x at *
        generalize runs D0 (L.take k) = d at *
        have hcb := hrg 4 _ (opcells_b x)
        have hbl := hxo.b0
        clear hxo
        have HRG := Lib.hid hrg
        clear hrg
        by_cases hbig : (4000 : Int) < sz + x.b.length
        · go_wp2
          go_ret
          exact ⟨rfl, HAL.out.trans (HB.out.mono HSZ.out)⟩
        · go_wp2_with (first
            | (with_reducible refine wpList_load_mid rfl 33 (.tmp 57) rfl b (o + k * 9) rfl _ _ HRG.out Try.underlying33 rfl (by kernel_rfl) ?_)
            | (go_at_call 18; refine (do_any G1 G2 HNE.out d HOKd.out x HXO.out _ HD.out HR.out).mono ?_; rintro e w5 ⟨rfl, hd5, hr5, hT⟩; replace hd5 := Lib.hid hd5; replace hr5 := Lib.hid hr5))
          have hb5 : Below w0.heap.size w0 w5 := HB.out.trans (hT.below HB.out.size HZ.out.1 HZ.out.2.1)
          have hsl5 : SlOp w5 (.slice (some ⟨b, o, none⟩) L.length c) L := HS.out.below hb5 (Nat.le_refl _)
          have HB5 := Lib.hid hb5
          have HSL5 := Lib.hid hsl5
          clear hb5 hsl5 hT HB HD HR hcb HRG HSL
          go_wp2
          go_roundw
          case rel =>
            refine ⟨k + 1, sz + x.b.length, by omega, by omega, by go_num, by go_num, by omega, ?_, ?_, HB5.out, HSL5.out⟩
            · rw [← HN.out]; exact hd5.out
            · rw [← HN.out]; exact hr5.out
          case measure => simp [intOf]; omega
      · obtain rfl : k = 40 := by omega
        have hok : (runs D0 (L.take 40)).Ok := runs_ok HOK.out _ (fun y hy => HX.out y (List.mem_of_mem_take hy))
        clear hsl
        generalize runs D0 (L.take 40) = d at *
        have hc1 := crash_ok hok kept
        have hc2 := crash_ok hc1 (fun _ => 0)
        have CR1 := Lib.hid (fun w h => crash_disk G1 d hok kept HK.out w h)
        have CR2 := Lib.hid (fun w h => crash_disk G1 (d.crash kept) hc1 (fun _ => 0) (by intro; omega) w h)
        have RD2 := Lib.hid (fun (j : Nat) (hj : j < 4) w h => read_disk G1 ((d.crash kept).crash (fun _ => 0)) j hj w h)
        have AP := Lib.hid (fun w h => append_disk G1 ((d.crash kept).crash (fun _ => 0)) hc2 0 [] (by simp) w h)
        rw [append_none hc2 rfl rfl] at AP
        rw [show kept4 (fun _ => 0) = #[.int .i64 0, .int .i64 0, .int .i64 0, .int .i64 0] from rfl] at CR2
        have hpt := fun (j : Nat) (hj : j < 4) => crash_part hok kept hj
        have htw := fun (j : Nat) (hj : j < 4) => crash_twice hok kept hj
        have hle := fun (j : Nat) (hj : j < 4) => (show ((d.crash kept).b j).length ≤ (d.b j).length ∧ d.s j ≤ ((d.crash kept).b j).length from by
          rw [crash_len hok kept hj]; exact ⟨keeps_le hok kept j, Nat.le_add_right _ _⟩)
        have HPT := Lib.hid hpt
        have HTW := Lib.hid htw
        have HLE := Lib.hid hle
        clear hpt htw hle hc1 hc2
        generalize (d.crash kept).crash (fun _ => 0) = c2 at *
        generalize d.crash kept = c1 at *
        have hal := alloc_below wr (.cells (strs4 (fun _ => [])) 38 (0, 0))
        have hn4 := heap_alloc_new wr (.cells (strs4 (fun _ => [])) 38 (0, 0))
        have HDA := Lib.hid (HD.out.below hal)
        have HRA := Lib.hid (HR.out.below hal)
        have HBA := Lib.hid (HB.out.trans (hal.mono HB.out.size))
        have hbx := HB.out.block w.heap.size hwl.out
        rw [HBX.out] at hbx
        have HXA := Lib.hid ((hal.block w.heap.size (Array.getElem?_eq_some_iff.1 hbx).1).trans hbx)
        have ne1 : wr.heap.size ≠ G1 := by have := HD.out.lt; omega
        have ne2 : wr.heap.size ≠ G2 := by have := HR.out.lt; omega
        have ne3 : wr.heap.size ≠ w.heap.size := by have := (Array.getElem?_eq_some_iff.1 hbx).1; omega
        have gw0 : w0.heap.size ≤ wr.heap.size := HB.out.size
        have HNW := Lib.hid (And.intro ne1 (And.intro ne2 (And.intro ne3 gw0)))
        have HF0 := Lib.hid (show FourAt (wr.alloc (.cells (strs4 (fun _ => [])) 38 (0, 0))) wr.heap.size (fun _ => []) from hn4)
        clear hal hn4 hbx ne1 ne2 ne3 gw0 HB HSL HD HR hok
        go_wp2_with fail
        generalize wr.heap.size = GW at *
        change Code.wp _ _ _ _ (wr.alloc (.cells (strs4 (fun _ => [])) 38 (0, 0)))
        generalize wr.alloc (.cells (strs4 (fun _ => [])) 38 (0, 0)) = wA at *
        go_loopw [64] (fun i wx => ∃ j : Nat, j ≤ 4 ∧ i = .int .i64 j ∧ FourAt wx GW (fun i => if i < j then d.b i else []) ∧ Only GW wA wx) (fun i _ => 4 - (intOf i).toNat)
        case atStart => exact ⟨0, by omega, rfl, HF0.out.ext (fun i _ => by simp), Only.refl _ _⟩
        case round =>
          obtain ⟨j, hj, rfl, hf, ho⟩ := hrel
          by_cases hj4 : j < 4
          · have hji : (j : Int) < 4 := by omega
            have hcell := hf.cell hj4
            have hfz := hf.frozen j
            have HFN := Lib.hid ((hf.set hj4 (d.b j)).ext (fun i _ => upd_next d.b (fun _ => []) j i))
            have HDX := Lib.hid (HDA.out.only ho HNW.out.1.symm)
            have HOX := Lib.hid ho
            clear hf ho
            go_wp2_with (go_at_call 21; refine (read_disk G1 d j hj4 _ HDX.out).mono ?_; rintro e x1 ⟨rfl, rfl⟩)
            go_roundw
            case rel => exact ⟨j + 1, by omega, by go_num, HFN.out, HOX.out.setCell _ _⟩
            case measure => simp [intOf]; omega
          · obtain rfl : j = 4 := by omega
            have HFB := Lib.hid (hf.ext (f' := d.b) (fun i hi => by simp [hi]))
            have HOB := Lib.hid ho
            have HDB := Lib.hid (HDA.out.only ho HNW.out.1.symm)
            have HRB := Lib.hid (HRA.out.only ho HNW.out.2.1.symm)
            have hxb := ho.heap HXA.out HNW.out.2.2.1.symm
            rw [← HKE.out] at hxb
            have hrg : wr.rangeAt w.heap.size 0 (kept4 kept).toList := by
              intro i u hu
              have hi := (List.getElem?_eq_some_iff.1 hu).1
              simp [kept4] at hi
              rw [Nat.zero_add, cell_of_row _ _ _ _ _ _ hxb]
              simpa using hu
            have HRG := Lib.hid hrg
            clear hf ho hxb hrg
            go_wp2_with (first
              | (with_reducible refine wpList_load_mid rfl 31 (.tmp 3) rfl w.heap.size 0 rfl _ _ HRG.out Try.underlying31 rfl (by kernel_rfl) ?_)
              | (go_at_call 22; refine (CR1.out _ HDB.out).mono ?_; rintro e wC ⟨rfl, hdc, hoc⟩))
            have HDC := Lib.hid hdc
            have HRC := Lib.hid (HRB.out.only hoc HNE.out.symm)
            have HFC := Lib.hid (show FourAt wC GW d.b from hoc.heap HFB.out HNW.out.1)
            have HBC := Lib.hid ((HBA.out.trans (HOB.out.below_from HBA.out.size HNW.out.2.2.2)).trans (hoc.below_from (Nat.le_trans HBA.out.size HOB.out.size) HZ.out.1))
            clear hdc hoc HFB HOB HDB HRB HRG HBA HDA HRA HXA HF0
            go_wp2_with fail
            go_loopw [79] (fun i wx => ∃ j : Nat, j ≤ 4 ∧ i = .int .i64 j ∧ FourAt wx GW (fun i => if i < j then c1.b i else d.b i) ∧ Only GW wC wx) (fun i _ => 4 - (intOf i).toNat)
            case atStart => exact ⟨0, by omega, rfl, HFC.out.ext (fun i _ => by simp), Only.refl _ _⟩
            case round =>
              obtain ⟨j, hj, rfl, hf, ho⟩ := hrel
              by_cases hj4 : j < 4
              · have hji : (j : Int) < 4 := by omega
                have hcell := hf.cell hj4
                have hfz := hf.frozen j
                have HFN := Lib.hid ((hf.set hj4 (c1.b j)).ext (fun i _ => upd_next c1.b d.b j i))
                have HDX := Lib.hid (HDC.out.only ho HNW.out.1.symm)
                have HOX := Lib.hid ho
                have hrs := (HRC.out.only ho HNW.out.2.1.symm).cells hj4
                have RD := Lib.hid (fun w h => read_disk G1 c1 j hj4 w h)
                simp only [Nat.lt_irrefl, if_false] at hcell
                have hex : (⟨(d.b j).toArray⟩ : ByteArray).extract 0 (c1.b j).length = ⟨(c1.b j).toArray⟩ := by
                  rw [ByteArray.extract_mk]
                  show ByteArray.mk ((d.b j).take _).toArray = _
                  rw [Nat.sub_zero, HPT.out j hj4]
                have hl1 : ((c1.b j).length : Int) ≤ (d.b j).length := by have := (HLE.out j hj4).1; omega
                have hl2 : (d.s j : Int) ≤ (c1.b j).length := by have := (HLE.out j hj4).2; omega
                clear hf ho
                generalize c1.b j = S at *
                generalize d.b j = U at *
                generalize d.s j = Q at *
                go_wp2_with (go_at_call 21; refine (RD.out _ HDX.out).mono ?_; rintro e x1 ⟨rfl, rfl⟩)
                go_roundw
                case rel => exact ⟨j + 1, by omega, by go_num, HFN.out, HOX.out.setCell _ _⟩
                case measure => simp [intOf]; omega
              · obtain rfl : j = 4 := by omega
                have HFD := Lib.hid (hf.ext (f' := c1.b) (fun i hi => by simp [hi]))
                have HOD := Lib.hid ho
                have HDD := Lib.hid (HDC.out.only ho HNW.out.1.symm)
                clear hf ho
                go_wp2_with (go_at_call 22; refine (CR2.out _ HDD.out).mono ?_; rintro e wE ⟨rfl, hde, hoe⟩)
                have HDE := Lib.hid hde
                have HFE := Lib.hid (show FourAt wE GW c1.b from hoe.heap HFD.out HNW.out.1)
                have HBE := Lib.hid ((HBC.out.trans (HOD.out.below_from HBC.out.size HNW.out.2.2.2)).trans (hoe.below_from (Nat.le_trans HBC.out.size HOD.out.size) HZ.out.1))
                clear hde hoe HFD HOD HDD HDC HRC HFC HBC
                go_wp2_with fail
                go_loopw [123] (fun i wx => ∃ j : Nat, j ≤ 4 ∧ i = .int .i64 j ∧ wx = wE) (fun i _ => 4 - (intOf i).toNat)
                case atStart => exact ⟨0, by omega, rfl, rfl⟩
                case round =>
                  obtain ⟨j, hj, rfl, rfl⟩ := hrel
                  by_cases hj4 : j < 4
                  · have hji : (j : Int) < 4 := by omega
                    have hcell := HFE.out.cell hj4
                    have RD := Lib.hid (fun w h => RD2.out j hj4 w h)
                    rw [HTW.out j hj4] at RD
                    generalize c1.b j = S at *
                    go_wp2_with (go_at_call 21; refine (RD.out _ HDE.out).mono ?_; rintro e x1 ⟨rfl, rfl⟩)
                    go_roundw
                    case rel => exact ⟨j + 1, by omega, by go_num, by first | rfl | trivial⟩
                    case measure => simp [intOf]; omega
                  · obtain rfl : j = 4 := by omega
                    go_wp2_with (go_at_call 23; refine (AP.out _ HDE.out).mono ?_; rintro e wF ⟨rfl, hdf, hof⟩)
                    go_ret
                    exact ⟨by simp, HAL.out.trans ((HBE.out.trans (hof.below_from HBE.out.size HZ.out.1)).mono HSZ.out)⟩
    · obtain rfl : k = L.length := by omega
      have hok : (runs D0 (L.take L.length)).Ok := runs_ok HOK.out _ (fun y hy => HX.out y (List.mem_of_mem_take hy))
      clear hsl
      generalize runs D0 (L.take L.length) = d at *
      have hc1 := crash_ok hok kept
      have hc2 := crash_ok hc1 (fun _ => 0)
      have CR1 := Lib.hid (fun w h => crash_disk G1 d hok kept HK.out w h)
      have CR2 := Lib.hid (fun w h => crash_disk G1 (d.crash kept) hc1 (fun _ => 0) (by intro; omega) w h)
      have RD2 := Lib.hid (fun (j : Nat) (hj : j < 4) w h => read_disk G1 ((d.crash kept).crash (fun _ => 0)) j hj w h)
      have AP := Lib.hid (fun w h => append_disk G1 ((d.crash kept).crash (fun _ => 0)) hc2 0 [] (by simp) w h)
      rw [append_none hc2 rfl rfl] at AP
      rw [show kept4 (fun _ => 0) = #[.int .i64 0, .int .i64 0, .int .i64 0, .int .i64 0] from rfl] at CR2
      have hpt := fun (j : Nat) (hj : j < 4) => crash_part hok kept hj
      have htw := fun (j : Nat) (hj : j < 4) => crash_twice hok kept hj
      have hle := fun (j : Nat) (hj : j < 4) => (show ((d.crash kept).b j).length ≤ (d.b j).length ∧ d.s j ≤ ((d.crash kept).b j).length from by
        rw [crash_len hok kept hj]; exact ⟨keeps_le hok kept j, Nat.le_add_right _ _⟩)
      have HPT := Lib.hid hpt
      have HTW := Lib.hid htw
      have HLE := Lib.hid hle
      clear hpt htw hle hc1 hc2
      generalize (d.crash kept).crash (fun _ => 0) = c2 at *
      generalize d.crash kept = c1 at *
      have hal := alloc_below wr (.cells (strs4 (fun _ => [])) 38 (0, 0))
      have hn4 := heap_alloc_new wr (.cells (strs4 (fun _ => [])) 38 (0, 0))
      have HDA := Lib.hid (HD.out.below hal)
      have HRA := Lib.hid (HR.out.below hal)
      have HBA := Lib.hid (HB.out.trans (hal.mono HB.out.size))
      have hbx := HB.out.block w.heap.size hwl.out
      rw [HBX.out] at hbx
      have HXA := Lib.hid ((hal.block w.heap.size (Array.getElem?_eq_some_iff.1 hbx).1).trans hbx)
      have ne1 : wr.heap.size ≠ G1 := by have := HD.out.lt; omega
      have ne2 : wr.heap.size ≠ G2 := by have := HR.out.lt; omega
      have ne3 : wr.heap.size ≠ w.heap.size := by have := (Array.getElem?_eq_some_iff.1 hbx).1; omega
      have gw0 : w0.heap.size ≤ wr.heap.size := HB.out.size
      have HNW := Lib.hid (And.intro ne1 (And.intro ne2 (And.intro ne3 gw0)))
      have HF0 := Lib.hid (show FourAt (wr.alloc (.cells (strs4 (fun _ => [])) 38 (0, 0))) wr.heap.size (fun _ => []) from hn4)
      clear hal hn4 hbx ne1 ne2 ne3 gw0 HB HSL HD HR hok
      go_wp2_with fail
      generalize wr.heap.size = GW at *
      change Code.wp _ _ _ _ (wr.alloc (.cells (strs4 (fun _ => [])) 38 (0, 0)))
      generalize wr.alloc (.cells (strs4 (fun _ => [])) 38 (0, 0)) = wA at *
      go_loopw [64] (fun i wx => ∃ j : Nat, j ≤ 4 ∧ i = .int .i64 j ∧ FourAt wx GW (fun i => if i < j then d.b i else []) ∧ Only GW wA wx) (fun i _ => 4 - (intOf i).toNat)
      case atStart => exact ⟨0, by omega, rfl, HF0.out.ext (fun i _ => by simp), Only.refl _ _⟩
      case round =>
        obtain ⟨j, hj, rfl, hf, ho⟩ := hrel
        by_cases hj4 : j < 4
        · have hji : (j : Int) < 4 := by omega
          have hcell := hf.cell hj4
          have hfz := hf.frozen j
          have HFN := Lib.hid ((hf.set hj4 (d.b j)).ext (fun i _ => upd_next d.b (fun _ => []) j i))
          have HDX := Lib.hid (HDA.out.only ho HNW.out.1.symm)
          have HOX := Lib.hid ho
          clear hf ho
          go_wp2_with (go_at_call 21; refine (read_disk G1 d j hj4 _ HDX.out).mono ?_; rintro e x1 ⟨rfl, rfl⟩)
          go_roundw
          case rel => exact ⟨j + 1, by omega, by go_num, HFN.out, HOX.out.setCell _ _⟩
          case measure => simp [intOf]; omega
        · obtain rfl : j = 4 := by omega
          have HFB := Lib.hid (hf.ext (f' := d.b) (fun i hi => by simp [hi]))
          have HOB := Lib.hid ho
          have HDB := Lib.hid (HDA.out.only ho HNW.out.1.symm)
          have HRB := Lib.hid (HRA.out.only ho HNW.out.2.1.symm)
          have hxb := ho.heap HXA.out HNW.out.2.2.1.symm
          rw [← HKE.out] at hxb
          have hrg : wr.rangeAt w.heap.size 0 (kept4 kept).toList := by
            intro i u hu
            have hi := (List.getElem?_eq_some_iff.1 hu).1
            simp [kept4] at hi
            rw [Nat.zero_add, cell_of_row _ _ _ _ _ _ hxb]
            simpa using hu
          have HRG := Lib.hid hrg
          clear hf ho hxb hrg
          go_wp2_with (first
            | (with_reducible refine wpList_load_mid rfl 31 (.tmp 3) rfl w.heap.size 0 rfl _ _ HRG.out Try.underlying31 rfl (by kernel_rfl) ?_)
            | (go_at_call 22; refine (CR1.out _ HDB.out).mono ?_; rintro e wC ⟨rfl, hdc, hoc⟩))
          have HDC := Lib.hid hdc
          have HRC := Lib.hid (HRB.out.only hoc HNE.out.symm)
          have HFC := Lib.hid (show FourAt wC GW d.b from hoc.heap HFB.out HNW.out.1)
          have HBC := Lib.hid ((HBA.out.trans (HOB.out.below_from HBA.out.size HNW.out.2.2.2)).trans (hoc.below_from (Nat.le_trans HBA.out.size HOB.out.size) HZ.out.1))
          clear hdc hoc HFB HOB HDB HRB HRG HBA HDA HRA HXA HF0
          go_wp2_with fail
          go_loopw [79] (fun i wx => ∃ j : Nat, j ≤ 4 ∧ i = .int .i64 j ∧ FourAt wx GW (fun i => if i < j then c1.b i else d.b i) ∧ Only GW wC wx) (fun i _ => 4 - (intOf i).toNat)
          case atStart => exact ⟨0, by omega, rfl, HFC.out.ext (fun i _ => by simp), Only.refl _ _⟩
          case round =>
            obtain ⟨j, hj, rfl, hf, ho⟩ := hrel
            by_cases hj4 : j < 4
            · have hji : (j : Int) < 4 := by omega
              have hcell := hf.cell hj4
              have hfz := hf.frozen j
              have HFN := Lib.hid ((hf.set hj4 (c1.b j)).ext (fun i _ => upd_next c1.b d.b j i))
              have HDX := Lib.hid (HDC.out.only ho HNW.out.1.symm)
              have HOX := Lib.hid ho
              have hrs := (HRC.out.only ho HNW.out.2.1.symm).cells hj4
              have RD := Lib.hid (fun w h => read_disk G1 c1 j hj4 w h)
              simp only [Nat.lt_irrefl, if_false] at hcell
              have hex : (⟨(d.b j).toArray⟩ : ByteArray).extract 0 (c1.b j).length = ⟨(c1.b j).toArray⟩ := by
                rw [ByteArray.extract_mk]
                show ByteArray.mk ((d.b j).take _).toArray = _
                rw [Nat.sub_zero, HPT.out j hj4]
              have hl1 : ((c1.b j).length : Int) ≤ (d.b j).length := by have := (HLE.out j hj4).1; omega
              have hl2 : (d.s j : Int) ≤ (c1.b j).length := by have := (HLE.out j hj4).2; omega
              clear hf ho
              generalize c1.b j = S at *
              generalize d.b j = U at *
              generalize d.s j = Q at *
              go_wp2_with (go_at_call 21; refine (RD.out _ HDX.out).mono ?_; rintro e x1 ⟨rfl, rfl⟩)
              go_roundw
              case rel => exact ⟨j + 1, by omega, by go_num, HFN.out, HOX.out.setCell _ _⟩
              case measure => simp [intOf]; omega
            · obtain rfl : j = 4 := by omega
              have HFD := Lib.hid (hf.ext (f' := c1.b) (fun i hi => by simp [hi]))
              have HOD := Lib.hid ho
              have HDD := Lib.hid (HDC.out.only ho HNW.out.1.symm)
              clear hf ho
              go_wp2_with (go_at_call 22; refine (CR2.out _ HDD.out).mono ?_; rintro e wE ⟨rfl, hde, hoe⟩)
              have HDE := Lib.hid hde
              have HFE := Lib.hid (show FourAt wE GW c1.b from hoe.heap HFD.out HNW.out.1)
              have HBE := Lib.hid ((HBC.out.trans (HOD.out.below_from HBC.out.size HNW.out.2.2.2)).trans (hoe.below_from (Nat.le_trans HBC.out.size HOD.out.size) HZ.out.1))
              clear hde hoe HFD HOD HDD HDC HRC HFC HBC
              go_wp2_with fail
              go_loopw [123] (fun i wx => ∃ j : Nat, j ≤ 4 ∧ i = .int .i64 j ∧ wx = wE) (fun i _ => 4 - (intOf i).toNat)
              case atStart => exact ⟨0, by omega, rfl, rfl⟩
              case round =>
                obtain ⟨j, hj, rfl, rfl⟩ := hrel
                by_cases hj4 : j < 4
                · have hji : (j : Int) < 4 := by omega
                  have hcell := HFE.out.cell hj4
                  have RD := Lib.hid (fun w h => RD2.out j hj4 w h)
                  rw [HTW.out j hj4] at RD
                  generalize c1.b j = S at *
                  go_wp2_with (go_at_call 21; refine (RD.out _ HDE.out).mono ?_; rintro e x1 ⟨rfl, rfl⟩)
                  go_roundw
                  case rel => exact ⟨j + 1, by omega, by go_num, by first | rfl | trivial⟩
                  case measure => simp [intOf]; omega
                · obtain rfl : j = 4 := by omega
                  go_wp2_with (go_at_call 23; refine (AP.out _ HDE.out).mono ?_; rintro e wF ⟨rfl, hdf, hof⟩)
                  go_ret
                  exact ⟨by simp, HAL.out.trans ((HBE.out.trans (hof.below_from HBE.out.size HZ.out.1)).mono HSZ.out)⟩
end DiskSureW
end Go.Proofs.Ytdphnhgogokidaa
