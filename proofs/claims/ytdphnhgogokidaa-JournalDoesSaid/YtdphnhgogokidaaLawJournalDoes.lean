/- JournalDoes: for every room, every three texts and every list of operations the law returns true, and its arguments read afterwards as they read before. No condition. -/
import Derived.Test.YtdphnhgogokidaaJrG
namespace Go.Proofs.Ytdphnhgogokidaa.journalDoes
open Go.ChangeShapes Go.WideShapes Go.ChangeAt Go.RowKit
open Go.ChangeMaps (open_string shut_string)

def sumF (F : Nat → List UInt8) : Nat → Nat
  | 0 => 0
  | k + 1 => sumF F k + (F k).length
theorem kp_cell {g J : Nat} {r : Option Nat} {w w' : World} {p : Addr} {v : Value} (h : Kp g J r w w') (hp : w.cell? p = some v) (h1 : p.block ≠ g) (h2 : p.block ≠ J) (h3 : some p.block ≠ r) : w'.cell? p = some v := by
  rw [World.cell?_of_block (w := w) (h.block p.block (block_lt_of_cell hp) h1 h2 h3)]; exact hp
theorem three_cell {w : World} {g : Nat} {F : Nat → List UInt8} {t : TypeId} (h : w.heap[g]? = some (.cells (strs3 F) t (0, 0))) {i : Nat} (hi : i < 3) : w.cell? ⟨g, i, none⟩ = some (.string ⟨(F i).toArray⟩) := by
  rw [cell_of_row _ _ _ _ _ _ h]
  have : i = 0 ∨ i = 1 ∨ i = 2 := by omega
  rcases this with rfl | rfl | rfl <;> rfl
set_option maxRecDepth 100000 in
set_option maxHeartbeats 32000000 in
theorem walk (room : Int) (F : Nat → List UInt8) (v : Value) (L : List JOp) (w : World) (hF : ∀ i, (F i).length ≤ 140737488355328) (hs : SlJ w v L) (hn : L.length ≤ 140737488355328) (hx : ∀ x ∈ L, x.Ok) :
    Calls Try.prog 12 #[.int .i64 room, .agg (strs3 F), v] w fun e w' => e = .returned (.bool true) ∧ Below w.heap.size w w' := by
  have hz1 := szo_eq L 0
  have hz2 := szo_le L 0
  have HSZ := Lib.hid (fun wx h => (size06_any v L wx h hn hx).mono (fun _ _ q => (⟨q.1, q.2.symm⟩ : _ ∧ _)))
  have HX := Lib.hid hx
  have hF0 := hF 0
  have hF1 := hF 1
  have hF2 := hF 2
  clear hx hF
  have hal := alloc_below w (.cells (strs3 F) 77 (0, 0))
  have HBX := Lib.hid (heap_alloc_new w (.cells (strs3 F) 77 (0, 0)))
  have HAL := Lib.hid hal
  have HS := Lib.hid (hs.below hal (Nat.le_refl _))
  have HS2 := Lib.hid (show (w.alloc (.cells (strs3 F) 77 (0, 0))).heap.size = w.heap.size + 1 by simp)
  obtain ⟨a, c, rfl, _⟩ := hs
  clear hal
  generalize hK : strs3 F = K3 at *
  have HK := Lib.hid hK
  clear hK
  go_enter Try.func12, Try.ntmps12
  go_upto_region 1 with (fail)
  generalize w.alloc (.cells K3 77 (0, 0)) = w0 at *
  have HFC := Lib.hid (show ∀ i, i < 3 → w0.cell? ⟨w.heap.size, i, none⟩ = some (.string ⟨(F i).toArray⟩) from fun i hi => three_cell (by rw [HK.out]; exact HBX.out) hi)
  clear HBX HK
  go_upto_region 3 with (go_at_call 39; refine (awake06_any _).mono ?_; rintro e w1 ⟨rfl, hb1⟩)
  have HB1 := Lib.hid hb1
  have hwl : w.heap.size < w0.heap.size := by rw [HS2.out]; omega
  have k0 := (hb1.cell (p := ⟨w.heap.size, 0, none⟩) (by show w.heap.size < _; omega)).trans (HFC.out 0 (by omega))
  have k1 := (hb1.cell (p := ⟨w.heap.size, 1, none⟩) (by show w.heap.size < _; omega)).trans (HFC.out 1 (by omega))
  have k2 := (hb1.cell (p := ⟨w.heap.size, 2, none⟩) (by show w.heap.size < _; omega)).trans (HFC.out 2 (by omega))
  clear hb1
  by_cases hlen : 30 < L.length
  · have hli : (30 : Int) < L.length := by omega
    clear HSZ
    go_quiet (fail)
    go_wp2
    go_ret
    exact ⟨rfl, HAL.out.trans (drewN_below (HB1.out.mono HAL.out.size) _)⟩
  have hli : ¬ (30 : Int) < L.length := by omega
  have hlb : decide ((30 : Int) < (L.length : Int)) = false := by simp; omega
  have hzb : (szo L 0 : Int) ≤ 4222124650659870 := by
    have h1 := jsz_bound L 140737488355328 (fun x hx => (HX.out x hx).b)
    have h2 : L.length * (140737488355328 + 1) ≤ 30 * (140737488355328 + 1) := Nat.mul_le_mul_right _ (by omega)
    omega
  have HSL1 := Lib.hid (HS.out.below HB1.out (Nat.le_refl _))
  have t1 := IntWalk.i64_in ((szo L 0 : Int) + (F 0).length) (by omega)
  have t2 := IntWalk.i64_in ((szo L 0 : Int) + (F 0).length + (F 1).length) (by omega)
  have t3 := IntWalk.i64_in ((szo L 0 : Int) + (F 0).length + (F 1).length + (F 2).length) (by omega)
  by_cases hbig : 4000 < szo L 0 + (F 0).length + (F 1).length + (F 2).length
  · have hbi : (4000 : Int) < (szo L 0 : Int) + (F 0).length + (F 1).length + (F 2).length := by omega
    generalize szo L 0 = Z at *
    clear hz1 hz2
    go_quiet (first | (go_at_call 40; exact Calls.quiet_of_same (HSZ.out _ HSL1.out)))
    go_wp2
    go_ret
    exact ⟨rfl, HAL.out.trans (drewN_below (HB1.out.mono HAL.out.size) _)⟩
  have hbi : ¬ (4000 : Int) < (szo L 0 : Int) + (F 0).length + (F 1).length + (F 2).length := by omega
  have hbb : decide ((4000 : Int) < (szo L 0 : Int) + (F 0).length + (F 1).length + (F 2).length) = false := by simp; omega
  have HJS := Lib.hid (show jsz L ≤ 4000 ∧ sumF F 3 ≤ 4000 by have := hz1 (by omega); simp only [sumF]; omega)
  generalize szo L 0 = Z at *
  clear hz1 hz2 hbig hzb
  go_quiet (first | (go_at_call 40; exact Calls.quiet_of_same (HSZ.out _ HSL1.out)))
  have HB2 := Lib.hid (drewN_below HB1.out nq)
  clear HB1 HSL1 k0 k1 k2 t1 t2 t3 hbb
  generalize w1.drewN nq = w2 at *
  by_cases hroom : 0 ≤ room ∧ room ≤ 16777216
  · have N1 := Lib.hid (new_disk room hroom.1 hroom.2)
    have N2 := Lib.hid (ref_new room hroom.1 hroom.2)
    have HOK := Lib.hid (new_ok hroom.1 hroom.2)
    have HSZ0 := Lib.hid (show Sz 0 (Dk.new room) from fun _ => Nat.le_refl _)
    go_wp2_with fail
    go_at_call 16
    refine (N1.out _).mono ?_
    rintro e w3 ⟨rfl, hd3, hb3, hl3⟩
    have HG := Lib.hid HB2.out.size
    have HD3 := Lib.hid hd3
    have HB3 := Lib.hid (HB2.out.trans (hb3.mono HB2.out.size))
    have HL3 := Lib.hid hl3
    clear hd3 hb3 hl3 HB2
    generalize w2.heap.size = g at *
    go_wp2_with fail
    go_at_call 17
    refine (N2.out _).mono ?_
    rintro e w4 ⟨rfl, hd4, hb4, hl4⟩
    have HRG0 := Lib.hid HB3.out.size
    have HNE := Lib.hid (show g ≠ w3.heap.size from by have := HL3.out; omega)
    have HD4 := Lib.hid (HD3.out.below hb4)
    have HR4 := Lib.hid hd4
    have HB4 := Lib.hid (HB3.out.trans (hb4.mono HB3.out.size))
    clear hd4 hb4 hl4 HB3 HD3 HL3 N1 N2
    generalize w3.heap.size = rg at *
    generalize Dk.new room = D0 at *
    go_wp2_with fail
    go_loopw [62] (fun i wr => ∃ (k : Nat) (d : Dk), k ≤ 3 ∧ i = .int .i64 k ∧ d.Ok ∧ Sz (sumF F k) d ∧ DiskAt wr g d ∧ RefAt wr rg d ∧ Below w0.heap.size w0 wr) (fun i _ => 3 - (intOf i).toNat)
    case atStart => exact ⟨0, D0, by omega, rfl, HOK.out, HSZ0.out, HD4.out, HR4.out, HB4.out⟩
    case round =>
      obtain ⟨k, d, hk, rfl, hok, hsz, hd, hr, hb⟩ := hrel
      clear HD4 HR4 HB4 HOK HSZ0
      have HO := Lib.hid hok
      have HZ := Lib.hid hsz
      have HB := Lib.hid hb
      have HD := Lib.hid hd
      have HR := Lib.hid hr
      clear hok hsz hb hd hr
      by_cases hlt : k < 3
      · have hki : (k : Int) < 3 := by omega
        have hki0 : (0 : Int) ≤ k := by omega
        have hFk : (F k).length ≤ 140737488355328 := by
          have : k = 0 ∨ k = 1 ∨ k = 2 := by omega
          rcases this with rfl | rfl | rfl
          · exact hF0
          · exact hF1
          · exact hF2
        have hfc : wr.cell? ⟨w.heap.size, k, none⟩ = some (.string ⟨(F k).toArray⟩) := (HB.out.cell (p := ⟨w.heap.size, k, none⟩) (by show w.heap.size < _; omega)).trans (HFC.out k hlt)
        obtain ⟨o1, ho1⟩ : ∃ o, d.append k (F k) = o := ⟨_, rfl⟩
        have CA := Lib.hid (fun wx h => append_disk g d HO.out k (F k) hFk wx h)
        have CB := Lib.hid (fun wx h => ref_append rg d HO.out k (F k) hFk wx h)
        have HO1 := Lib.hid (append_ok HO.out k (F k))
        have HZ1 := Lib.hid (HZ.out.append k (F k))
        rw [ho1] at CA CB HO1 HZ1
        clear ho1
        obtain ⟨c1, d1⟩ := o1
        dsimp only at CA CB HO1 HZ1
        obtain ⟨o2, ho2⟩ : ∃ o, d1.sync k = o := ⟨_, rfl⟩
        have CS := Lib.hid (fun wx h => sync_disk g d1 HO1.out k wx h)
        have CT := Lib.hid (fun wx h => ref_sync rg d1 HO1.out k wx h)
        have HO2 := Lib.hid (sync_ok HO1.out k)
        have HZ2 := Lib.hid (HZ1.out.sync k)
        rw [ho2] at CS CT HO2 HZ2
        clear ho2
        obtain ⟨c2, d2⟩ := o2
        dsimp only at CS CT HO2 HZ2
        have hwg : w.heap.size ≠ g := by have := HG.out; omega
        have hwr : w.heap.size ≠ rg := by have := HRG0.out; omega
        have HDD := Lib.hid (show DiskAt wr.drew g d from HD.out)
        have HRD := Lib.hid (show RefAt wr.drew rg d from HR.out)
        have hfd : wr.drew.cell? ⟨w.heap.size, k, none⟩ = some (.string ⟨(F k).toArray⟩) := hfc
        go_upto_region 14 with (fail)
        go_region_held (fun wx => wx.cell? ⟨w.heap.size, k, none⟩ = some (.string ⟨(F k).toArray⟩)) (first | assumption | exact hfd | exact ho5.cell hfd hwg | exact ho6.cell (ho5.cell hfd hwg) hwr | exact ho7.cell (ho6.cell (ho5.cell hfd hwg) hwr) hwg | exact ho8.cell (ho7.cell (ho6.cell (ho5.cell hfd hwg) hwr) hwg) hwr)
          (first
            | (go_at_call 23; refine (CA.out _ HDD.out).mono ?_; rintro e w5 ⟨rfl, hd5, ho5⟩)
            | (go_at_call 47; refine (CB.out _ (HRD.out.only ho5 (Ne.symm HNE.out))).mono ?_; rintro e w6 ⟨rfl, hd6, ho6⟩)
            | (go_at_call 26; refine (CS.out _ (hd5.only ho6 HNE.out)).mono ?_; rintro e w7 ⟨rfl, hd7, ho7⟩)
            | (go_at_call 48; refine (CT.out _ (hd6.only ho7 (Ne.symm HNE.out))).mono ?_; rintro e w8 ⟨rfl, hd8, ho8⟩))
        have HD8 := Lib.hid (hd7.only ho8 HNE.out)
        have HR8 := Lib.hid hd8
        have HB8 := Lib.hid (HB.out.drew.trans (((((ho5.onb HG.out HB.out.size).trans (ho6.onb HRG0.out (Nat.le_trans HB.out.size ho5.size))).trans (ho7.onb HG.out (Nat.le_trans (Nat.le_trans HB.out.size ho5.size) ho6.size))).trans (ho8.onb HRG0.out (Nat.le_trans (Nat.le_trans (Nat.le_trans HB.out.size ho5.size) ho6.size) ho7.size)))))
        clear hd5 ho5 hd6 ho6 hd7 ho7 hd8 ho8 CA CB CS CT hfc hfd HDD HRD HD HR HB
        go_wp2
        go_roundw
        case rel => exact ⟨k + 1, d2, by omega, by go_num, HO2.out, HZ2.out, HD8.out, HR8.out, HB8.out⟩
        case measure => simp [intOf]; omega
      · obtain rfl : k = 3 := by omega
        have HZ4 := Lib.hid (HZ.out.mono HJS.out.2)
        clear HZ hlt hk
        have hM : 4000 ≤ 10000 := by omega
        obtain ⟨c, oj, d9, hq⟩ : ∃ c oj d9, openJ d = (c, oj, d9) := ⟨_, _, _, rfl⟩
        have HQ := Lib.hid hq
        clear hq
        go_wp2_with fail
        go_at_call 41
        refine (open_p w0.heap.size g d c oj d9 HO.out HG.out HQ.out _ HD.out).mono ?_
        rintro e w11 ⟨p9, rfl, hh9, hok9, hon9⟩
        have HH9 := Lib.hid hh9
        have HN9 := Lib.hid hon9
        have HB9 := Lib.hid (HB.out.trans (hon9.onb HG.out HB.out.size))
        clear hh9 hok9 hon9
        go_wp2_with fail
        go_at_call 49
        refine (open_r w0.heap.size g rg HNE.out d c oj d9 HO.out HRG0.out HQ.out 0 (4000) HZ4.out _ _ _ HH9.out HN9.out HR.out).mono ?_
        rintro e w12 ⟨r9, rfl, hb9, hon12⟩
        have HBO := Lib.hid hb9
        have HB12 := Lib.hid (HB9.out.trans (hon12.onb HRG0.out HB9.out.size))
        have HZO := Lib.hid (openJ_sz HZ4.out HQ.out)
        clear hb9 hon12 HH9 HN9 HB9 HQ HB
        go_wp2_with fail
        go_at_call 50
        refine (same_both HBO.out (by omega) (by omega)).mono ?_
        rintro e w13 ⟨rfl, hb13⟩
        have HBB := Lib.hid (HB12.out.trans (hb13.mono HB12.out.size))
        replace HBO := Lib.hid (HBO.out.below hb13)
        clear hb13 HB12
        have HBO2 := HBO
        go_wp2_with fail
        go_loopw [12, 14, 110] (fun p r i wr => ∃ (k : Nat) (d : Dk), k ≤ L.length ∧ i = .int .i64 k ∧ Both w0.heap.size wr g rg p r d k (4000 + jsz (L.take k) + 15 * k) ∧ Sz (4000 + jsz (L.take k) + 15 * k) d ∧ Below w0.heap.size w0 wr) (fun _ _ i _ => L.length - (intOf i).toNat)
        case atStart => exact ⟨0, _, by omega, rfl, HBO.out.mono (Nat.le_refl _) (by simp [jsz]), HZO.out.mono (by simp [jsz]), HBB.out⟩
        case round =>
          obtain ⟨k, d, hk, rfl, hbo, hsz, hb⟩ := hrel
          clear HBO HZO HBB
          have HBO := Lib.hid hbo
          have HZ := Lib.hid hsz
          have HB := Lib.hid hb
          clear hbo hsz hb
          by_cases hlt : k < L.length
          · have hki : (k : Int) < L.length := by omega
            have hsl := HS.out.below HB.out (Nat.le_refl _)
            obtain ⟨_, _, he, hc0⟩ := hsl
            simp only [Value.slice.injEq] at he
            obtain ⟨rfl, _, rfl⟩ := he
            obtain ⟨b, o, rfl, hc⟩ := hc0 (by intro h; subst h; simp at hlt)
            have hrg := hc k L[k] (by simp [hlt])
            clear hc hc0
            have hxo := HX.out L[k] (List.getElem_mem hlt)
            have hxb := jsz_in (List.getElem_mem hlt)
            have hT := jsz_take L hlt
            have hT2 := jsz_le L k
            have hT3 := jsz_le L (k + 1)
            have HT := Lib.hid (And.intro hT (And.intro hT2 hT3))
            clear hT hT2 hT3
            generalize L[k] = x at *
            have HRG := Lib.hid hrg
            clear hrg
            have HXO := Lib.hid hxo
            have hbx := opbox_below wr x
            have HBO1 := Lib.hid (HBO.out.below hbx)
            have HB1 := Lib.hid (HB.out.trans (hbx.mono HB.out.size))
            have HXS := Lib.hid (show w0.heap.size ≤ wr.heap.size from HB.out.size)
            have HXL := Lib.hid (show wr.heap.size < (opbox wr x).heap.size from block_lt_of_cell (opbox_k wr x))
            have hdk := HBO.out.disks
            have HXN := Lib.hid (show wr.heap.size ≠ g ∧ wr.heap.size ≠ rg from ⟨by have := hdk.1.lt; omega, by have := hdk.2.1.lt; omega⟩)
            have hck := opbox_k wr x
            have hcn := opbox_n wr x
            have hcb := opbox_b wr x
            have HCK := Lib.hid (opbox_kept wr x)
            have hb4 := HJS.out.1
            have hbl : (x.b.length : Int) ≤ 140737488355328 := by omega
            have hMk : 4000 + jsz (L.take k) + 15 * k ≤ 10000 := by have := HT.out; omega
            have hMn : 4000 + jsz (L.take (k + 1)) + 15 * (k + 1) ≤ 10000 := by have := HT.out; omega
            have hMM : 4000 + jsz (L.take k) + 15 * k + (x.b.length + 16) = 4000 + jsz (L.take (k + 1)) + 15 * (k + 1) := by have := HT.out; omega
            have HMM := Lib.hid hMM
            clear hbx HB hxo hdk hMM
            by_cases hx2 : x.k = 2
            · clear HBO
              have q1 : (x.k == 2) = true := by simp [hx2]
              have hdk := HBO1.out.disks
              have HDK := Lib.hid hdk.1
              have HRK := Lib.hid hdk.2.1
              have HOK := Lib.hid hdk.2.2
              clear hdk hx2
              go_upto_region 23 with (fail)
              go_step
              go_step
              go_step
              go_step
              refine wpList_load_mid rfl 71 (.tmp 112) rfl b (o + k * 7) rfl _ _ HRG.out Try.underlying71 rfl (by kernel_rfl) ?_
              go_step
              go_step
              go_step
              refine wpList_store_mid rfl 71 (.tmp 17) (.tmp 113) rfl wr.heap.size 0 x.cells rfl rfl (opbox_there wr) (by kernel_rfl) (opcells_one x) ?_
              change wpList _ _ _ _ _ (opbox wr x)
              generalize opbox wr x = wb at *
              generalize wr.heap.size = xb at *
              have FU := Lib.hid (fun wx h => fuse_disk g d x.n wx h)
              have HO2 := Lib.hid (fuse_ok HOK.out x.n HXO.out.n.2)
              go_upto_region 27 with (go_at_call 25; refine (FU.out _ HDK.out).mono ?_; rintro e w5 ⟨rfl, hd5, ho5⟩)
              have hr5 := HRK.out.only ho5 (Ne.symm HNE.out)
              have hrf := hr5.cellf
              have hrz := hr5.frozen 9
              have hcn5 := ho5.cell hcn HXN.out.1
              have HB5 := Lib.hid (HB1.out.trans (ho5.onb HG.out HB1.out.size))
              have HT5 := Lib.hid ((Two.of1 ho5 : Two g rg _ _).trans (Two.of2 ((Only.refl rg w5).setCell 9 (.int .i64 (max x.n (-1))))))
              have HD6 := Lib.hid (hd5.only ((Only.refl rg w5).setCell 9 (.int .i64 (max x.n (-1)))) HNE.out)
              have HR6 := Lib.hid (hr5.setf (max x.n (-1)))
              have HB6 := Lib.hid (HB5.out.setCell (p := ⟨rg, 9, none⟩) HRG0.out (.int .i64 (max x.n (-1))))
              have HBN := Lib.hid (HBO1.out.turn HT5.out HD6.out HR6.out HO2.out)
              clear hd5 ho5 hr5 hcn HDK HRK HOK FU HB5
              go_wp2
              go_roundw
              case rel => exact ⟨k + 1, _, by omega, by go_num, HBN.out.mono (by omega) (by have := HMM.out; omega), HZ.out.mono (by have := HMM.out; omega), HB6.out⟩
              case measure => simp [intOf]; omega
            have q2 : (x.k == 2) = false := by simpa using hx2
            by_cases hx3 : x.k = 3
            · clear HBO
              have q3 : (x.k == 3) = true := by simp [hx3]
              have q4 : (3 : Int) ≤ x.k := by omega
              have hdk := HBO1.out.disks
              have HDK := Lib.hid hdk.1
              have HRK := Lib.hid hdk.2.1
              have HOK := Lib.hid hdk.2.2
              have CR := Lib.hid (fun wx h => crash_disk g d HOK.out x.kept HXO.out.kept wx h)
              have CQ := Lib.hid (fun wx h => ref_crash rg d HOK.out x.kept HXO.out.kept wx h)
              have HO2 := Lib.hid (crash_ok HOK.out x.kept)
              have HZ2 := Lib.hid (HZ.out.crash x.kept)
              clear hdk hx3 hx2
              go_upto_region 23 with (fail)
              go_step
              go_step
              go_step
              go_step
              refine wpList_load_mid rfl 71 (.tmp 112) rfl b (o + k * 7) rfl _ _ HRG.out Try.underlying71 rfl (by kernel_rfl) ?_
              go_step
              go_step
              go_step
              refine wpList_store_mid rfl 71 (.tmp 17) (.tmp 113) rfl wr.heap.size 0 x.cells rfl rfl (opbox_there wr) (by kernel_rfl) (opcells_one x) ?_
              change wpList _ _ _ _ _ (opbox wr x)
              generalize opbox wr x = wb at *
              generalize wr.heap.size = xb at *
              generalize d.crash x.kept = d2 at *
              go_upto_region 30 with (first | (with_reducible refine wpList_load_mid rfl 31 (.tmp 131) rfl xb 3 rfl _ _ HCK.out Try.underlying31 rfl (by kernel_rfl) ?_) | (go_at_call 22; refine (CR.out _ HDK.out).mono ?_; rintro e w5 ⟨rfl, hd5, ho5⟩))
              have HB5 := Lib.hid (HB1.out.trans (ho5.onb HG.out HB1.out.size))
              have HCK5 := Lib.hid (show w5.rangeAt xb 3 (kept4 x.kept).toList from fun i v hv => ho5.cell (HCK.out i v hv) HXN.out.1)
              have hck5 := ho5.cell hck HXN.out.1
              have HR5 := Lib.hid (HRK.out.only ho5 (Ne.symm HNE.out))
              have HD5 := Lib.hid hd5
              clear hd5 ho5 hck HDK HRK HCK CR
              go_upto_region 31 with (first | (with_reducible refine wpList_load_mid rfl 31 (.tmp 135) rfl xb 3 rfl _ _ HCK5.out Try.underlying31 rfl (by kernel_rfl) ?_) | (go_at_call 51; refine (CQ.out _ HR5.out).mono ?_; rintro e w6 ⟨rfl, hd6, ho6⟩))
              have HBW := Lib.hid (HB5.out.trans (ho6.onb HRG0.out HB5.out.size))
              have hck6 := ho6.cell hck5 HXN.out.2
              have HDW := Lib.hid (HD5.out.only ho6 HNE.out)
              have HRW := Lib.hid hd6
              clear hd6 ho6 hck5 HD5 HR5 HB5 HCK5 CQ
              obtain ⟨c, oj, d9, hq⟩ : ∃ c oj d9, openJ d2 = (c, oj, d9) := ⟨_, _, _, rfl⟩
              have HQ := Lib.hid hq
              clear hq
              go_wp2_with fail
              go_at_call 41
              refine (open_p w0.heap.size g d2 c oj d9 HO2.out HG.out HQ.out _ HDW.out).mono ?_
              rintro e w11 ⟨p9, rfl, hh9, hok9, hon9⟩
              have HH9 := Lib.hid hh9
              have HN9 := Lib.hid hon9
              have HB9 := Lib.hid (HBW.out.trans (hon9.onb HG.out HBW.out.size))
              clear hh9 hok9 hon9
              go_wp2_with fail
              go_at_call 49
              refine (open_r w0.heap.size g rg HNE.out d2 c oj d9 HO2.out HRG0.out HQ.out k (4000 + jsz (L.take k) + 15 * k) HZ2.out _ _ _ HH9.out HN9.out HRW.out).mono ?_
              rintro e w12 ⟨r9, rfl, hb9, hon12⟩
              have HBO := Lib.hid hb9
              have HB12 := Lib.hid (HB9.out.trans (hon12.onb HRG0.out HB9.out.size))
              have HZO := Lib.hid (openJ_sz HZ2.out HQ.out)
              clear hb9 hon12 HH9 HN9 HB9 HQ HBW
              go_wp2_with fail
              go_at_call 50
              refine (same_both HBO.out (by omega) (by omega)).mono ?_
              rintro e w13 ⟨rfl, hb13⟩
              have HBB := Lib.hid (HB12.out.trans (hb13.mono HB12.out.size))
              replace HBO := Lib.hid (HBO.out.below hb13)
              clear hb13 HB12
              go_wp2
              go_roundw
              case rel => exact ⟨k + 1, _, by omega, by go_num, HBO.out.mono (by omega) (by have := HMM.out; omega), HZO.out.mono (by have := HMM.out; omega), HBB.out⟩
              case measure => simp [intOf]; omega
            have q3 : (x.k == 3) = false := by simpa using hx3
            by_cases hx4 : 3 ≤ x.k ∨ x.k < 0
            · clear HBO
              have hdk := HBO1.out.disks
              have HDW := Lib.hid hdk.1
              have HRW := Lib.hid hdk.2.1
              have HO2 := Lib.hid hdk.2.2
              have HZ2 := HZ
              have HBW := HB1
              clear hdk hx3 hx2
              rcases hx4 with q4 | q4
              · 
                go_upto_region 23 with (fail)
                go_step
                go_step
                go_step
                go_step
                refine wpList_load_mid rfl 71 (.tmp 112) rfl b (o + k * 7) rfl _ _ HRG.out Try.underlying71 rfl (by kernel_rfl) ?_
                go_step
                go_step
                go_step
                refine wpList_store_mid rfl 71 (.tmp 17) (.tmp 113) rfl wr.heap.size 0 x.cells rfl rfl (opbox_there wr) (by kernel_rfl) (opcells_one x) ?_
                change wpList _ _ _ _ _ (opbox wr x)
                generalize opbox wr x = wb at *
                generalize wr.heap.size = xb at *
                obtain ⟨c, oj, d9, hq⟩ : ∃ c oj d9, openJ d = (c, oj, d9) := ⟨_, _, _, rfl⟩
                have HQ := Lib.hid hq
                clear hq
                go_wp2_with fail
                go_at_call 41
                refine (open_p w0.heap.size g d c oj d9 HO2.out HG.out HQ.out _ HDW.out).mono ?_
                rintro e w11 ⟨p9, rfl, hh9, hok9, hon9⟩
                have HH9 := Lib.hid hh9
                have HN9 := Lib.hid hon9
                have HB9 := Lib.hid (HBW.out.trans (hon9.onb HG.out HBW.out.size))
                clear hh9 hok9 hon9
                go_wp2_with fail
                go_at_call 49
                refine (open_r w0.heap.size g rg HNE.out d c oj d9 HO2.out HRG0.out HQ.out k (4000 + jsz (L.take k) + 15 * k) HZ2.out _ _ _ HH9.out HN9.out HRW.out).mono ?_
                rintro e w12 ⟨r9, rfl, hb9, hon12⟩
                have HBO := Lib.hid hb9
                have HB12 := Lib.hid (HB9.out.trans (hon12.onb HRG0.out HB9.out.size))
                have HZO := Lib.hid (openJ_sz HZ2.out HQ.out)
                clear hb9 hon12 HH9 HN9 HB9 HQ HBW
                go_wp2_with fail
                go_at_call 50
                refine (same_both HBO.out (by omega) (by omega)).mono ?_
                rintro e w13 ⟨rfl, hb13⟩
                have HBB := Lib.hid (HB12.out.trans (hb13.mono HB12.out.size))
                replace HBO := Lib.hid (HBO.out.below hb13)
                clear hb13 HB12
                go_wp2
                go_roundw
                case rel => exact ⟨k + 1, _, by omega, by go_num, HBO.out.mono (by omega) (by have := HMM.out; omega), HZO.out.mono (by have := HMM.out; omega), HBB.out⟩
                case measure => simp [intOf]; omega
              · have q5 : ¬ (3 : Int) ≤ x.k := by omega
                go_upto_region 23 with (fail)
                go_step
                go_step
                go_step
                go_step
                refine wpList_load_mid rfl 71 (.tmp 112) rfl b (o + k * 7) rfl _ _ HRG.out Try.underlying71 rfl (by kernel_rfl) ?_
                go_step
                go_step
                go_step
                refine wpList_store_mid rfl 71 (.tmp 17) (.tmp 113) rfl wr.heap.size 0 x.cells rfl rfl (opbox_there wr) (by kernel_rfl) (opcells_one x) ?_
                change wpList _ _ _ _ _ (opbox wr x)
                generalize opbox wr x = wb at *
                generalize wr.heap.size = xb at *
                obtain ⟨c, oj, d9, hq⟩ : ∃ c oj d9, openJ d = (c, oj, d9) := ⟨_, _, _, rfl⟩
                have HQ := Lib.hid hq
                clear hq
                go_wp2_with fail
                go_at_call 41
                refine (open_p w0.heap.size g d c oj d9 HO2.out HG.out HQ.out _ HDW.out).mono ?_
                rintro e w11 ⟨p9, rfl, hh9, hok9, hon9⟩
                have HH9 := Lib.hid hh9
                have HN9 := Lib.hid hon9
                have HB9 := Lib.hid (HBW.out.trans (hon9.onb HG.out HBW.out.size))
                clear hh9 hok9 hon9
                go_wp2_with fail
                go_at_call 49
                refine (open_r w0.heap.size g rg HNE.out d c oj d9 HO2.out HRG0.out HQ.out k (4000 + jsz (L.take k) + 15 * k) HZ2.out _ _ _ HH9.out HN9.out HRW.out).mono ?_
                rintro e w12 ⟨r9, rfl, hb9, hon12⟩
                have HBO := Lib.hid hb9
                have HB12 := Lib.hid (HB9.out.trans (hon12.onb HRG0.out HB9.out.size))
                have HZO := Lib.hid (openJ_sz HZ2.out HQ.out)
                clear hb9 hon12 HH9 HN9 HB9 HQ HBW
                go_wp2_with fail
                go_at_call 50
                refine (same_both HBO.out (by omega) (by omega)).mono ?_
                rintro e w13 ⟨rfl, hb13⟩
                have HBB := Lib.hid (HB12.out.trans (hb13.mono HB12.out.size))
                replace HBO := Lib.hid (HBO.out.below hb13)
                clear hb13 HB12
                go_wp2
                go_roundw
                case rel => exact ⟨k + 1, _, by omega, by go_num, HBO.out.mono (by omega) (by have := HMM.out; omega), HZO.out.mono (by have := HMM.out; omega), HBB.out⟩
                case measure => simp [intOf]; omega
            have hx5 : x.k = 0 ∨ x.k = 1 := by omega
            have q5 : ¬ (3 : Int) ≤ x.k := by omega
            have q6 : ¬ x.k < 0 := by omega
            have hbc := HBO.out
            have hbx := opbox_below wr x
            clear HBO
            rcases hbc with ⟨rfl, rfl, hd1, hr1, ho1⟩ | ⟨J, rj, vj, rv, j, rfl, rfl, hj, hrl, hsp, hbd⟩
            · have HDW := Lib.hid (hd1.below hbx)
              have HRW := Lib.hid (hr1.below hbx)
              have HO2 := Lib.hid ho1
              have HZ2 := HZ
              have HBW := HB1
              clear hd1 hr1 ho1 hx3 hx2 hx4 hx5 hbx
              go_upto_region 23 with (fail)
              go_step
              go_step
              go_step
              go_step
              refine wpList_load_mid rfl 71 (.tmp 112) rfl b (o + k * 7) rfl _ _ HRG.out Try.underlying71 rfl (by kernel_rfl) ?_
              go_step
              go_step
              go_step
              refine wpList_store_mid rfl 71 (.tmp 17) (.tmp 113) rfl wr.heap.size 0 x.cells rfl rfl (opbox_there wr) (by kernel_rfl) (opcells_one x) ?_
              change wpList _ _ _ _ _ (opbox wr x)
              generalize opbox wr x = wb at *
              generalize wr.heap.size = xb at *
              obtain ⟨c, oj, d9, hq⟩ : ∃ c oj d9, openJ d = (c, oj, d9) := ⟨_, _, _, rfl⟩
              have HQ := Lib.hid hq
              clear hq
              go_wp2_with fail
              go_at_call 41
              refine (open_p w0.heap.size g d c oj d9 HO2.out HG.out HQ.out _ HDW.out).mono ?_
              rintro e w11 ⟨p9, rfl, hh9, hok9, hon9⟩
              have HH9 := Lib.hid hh9
              have HN9 := Lib.hid hon9
              have HB9 := Lib.hid (HBW.out.trans (hon9.onb HG.out HBW.out.size))
              clear hh9 hok9 hon9
              go_wp2_with fail
              go_at_call 49
              refine (open_r w0.heap.size g rg HNE.out d c oj d9 HO2.out HRG0.out HQ.out k (4000 + jsz (L.take k) + 15 * k) HZ2.out _ _ _ HH9.out HN9.out HRW.out).mono ?_
              rintro e w12 ⟨r9, rfl, hb9, hon12⟩
              have HBO := Lib.hid hb9
              have HB12 := Lib.hid (HB9.out.trans (hon12.onb HRG0.out HB9.out.size))
              have HZO := Lib.hid (openJ_sz HZ2.out HQ.out)
              clear hb9 hon12 HH9 HN9 HB9 HQ HBW
              go_wp2_with fail
              go_at_call 50
              refine (same_both HBO.out (by omega) (by omega)).mono ?_
              rintro e w13 ⟨rfl, hb13⟩
              have HBB := Lib.hid (HB12.out.trans (hb13.mono HB12.out.size))
              replace HBO := Lib.hid (HBO.out.below hb13)
              clear hb13 HB12
              go_wp2
              go_roundw
              case rel => exact ⟨k + 1, _, by omega, by go_num, HBO.out.mono (by omega) (by have := HMM.out; omega), HZO.out.mono (by have := HMM.out; omega), HBB.out⟩
              case measure => simp [intOf]; omega
            · have HVX0 := Lib.hid (show wr.heap.size ≠ g ∧ wr.heap.size ≠ J ∧ some wr.heap.size ≠ vj.ownBlock ∧ wr.heap.size ≠ rg ∧ wr.heap.size ≠ rj from by
                have e1 := hj.jlt
                have e2 := hj.lt
                have e3 := hrl.jlt
                have e4 := hrl.lt
                exact ⟨by omega, by omega, fun e => by have := (hj.row _ e.symm).2; omega, by omega, by omega⟩)
              have HJ := Lib.hid (hj.below hbx)
              have HL := Lib.hid (hrl.below hbx)
              have HSP := Lib.hid hsp
              have HBD := Lib.hid hbd
              have hbb := hbd.hb
              have hbr := hbd.hr
              clear hj hrl hsp hbd hx3 hx2 hx4 hbx
              rcases hx5 with hx5 | hx5
              · have q7 : (x.k == 0) = true := by simp [hx5]
                clear hx5
                have hBDN := appJ_bd HZ.out HBD.out x.b
                have HBDN := Lib.hid hBDN.1
                have HZN := Lib.hid hBDN.2
                clear hBDN
                obtain ⟨cc, j', d', hq⟩ : ∃ cc j' d', appJ j d x.b = (cc, j', d') := ⟨_, _, _, rfl⟩
                have CJ := Lib.hid (fun wx (h : JL w0.heap.size wx J g vj j d) => append_e h x.b hq hbl (by omega) (by omega))
                have CR := Lib.hid (fun wx (h : RL w0.heap.size wx rj rg rv j d) => append_ref h x.b hbl (by omega) (by omega))
                rw [hq] at CR HBDN HZN
                clear hq
                dsimp only at CR HBDN HZN
                go_upto_region 23 with (fail)
                go_step
                go_step
                go_step
                go_step
                refine wpList_load_mid rfl 71 (.tmp 112) rfl b (o + k * 7) rfl _ _ HRG.out Try.underlying71 rfl (by kernel_rfl) ?_
                go_step
                go_step
                go_step
                refine wpList_store_mid rfl 71 (.tmp 17) (.tmp 113) rfl wr.heap.size 0 x.cells rfl rfl (opbox_there wr) (by kernel_rfl) (opcells_one x) ?_
                change wpList _ _ _ _ _ (opbox wr x)
                generalize opbox wr x = wb at *
                generalize wr.heap.size = xb at *
                have HJD := Lib.hid (HJ.out.below (Below.refl _ _).drew)
                have HLD := Lib.hid (HL.out.below (Below.refl _ _).drew)
                have hcd : wb.drew.cell? ⟨xb, 2, none⟩ = some (.string ⟨x.b.toArray⟩) := hcb
                have HXW := Lib.hid HXL.out
                have HVX := Lib.hid HVX0.out
                go_upto_region 37 with (fail)
                go_region_held (fun wx => wx.cell? ⟨xb, 2, none⟩ = some (.string ⟨x.b.toArray⟩)) (first | assumption | exact hcd | exact cx5 | exact cx6)
                  (first
                    | (go_at_call 43; refine (CJ.out _ HJD.out).mono ?_; rintro e w5 ⟨rfl, v5, hj5, hk5, hv5⟩; have cx5 := kp_cell hk5 hcd HVX.out.1 HVX.out.2.1 HVX.out.2.2.1)
                    | (go_at_call 52; refine (CR.out _ (HLD.out.byJ hk5 HSP.out)).mono ?_; rintro e w6 ⟨rfl, v6, hl6, hk6, hv6⟩; have cx6 := kp_cell hk6 cx5 HVX.out.2.2.2.1 HVX.out.2.2.2.2 (by simp)))
                have HSP5 := Lib.hid (HSP.out.byJ HLD.out hv5)
                have HJ6 := Lib.hid (hj5.byR hk6 HSP5.out)
                have HSP6 := Lib.hid (HSP5.out.byR hj5 hv6)
                have HL6 := Lib.hid hl6
                have hs5 := hk5.size
                have HB6 := Lib.hid ((HB1.out.drew.trans (HJD.out.kpb hk5 HB1.out.size)).trans ((HLD.out.byJ hk5 HSP.out).kpb hk6 (Nat.le_trans HB1.out.size hs5)))
                have HBO := Lib.hid (show Both w0.heap.size w6 g rg (.pointer (some ⟨J, 0, none⟩)) (.pointer (some ⟨rj, 0, none⟩)) d' (k + 1) (4000 + jsz (L.take k) + 15 * k + (x.b.length + 16)) from .inr ⟨J, rj, v5, v6, j', rfl, rfl, HJ6.out, HL6.out, HSP6.out, HBDN.out⟩)
                clear hj5 hk5 hv5 hl6 hk6 hv6 cx5 cx6 hcd hcb CJ CR HJD HLD HSP5 HJ6 HL6 HSP6 HB1 hs5
                go_wp2_with fail
                go_at_call 50
                refine (same_both HBO.out (by omega) (by have := HMM.out; omega)).mono ?_
                rintro e w13 ⟨rfl, hb13⟩
                have HBB := Lib.hid (HB6.out.trans (hb13.mono HB6.out.size))
                replace HBO := Lib.hid (HBO.out.below hb13)
                clear hb13 HB6
                go_wp2
                go_roundw
                case rel => exact ⟨k + 1, d', by omega, by go_num, HMM.out ▸ HBO.out, HMM.out ▸ HZN.out, HBB.out⟩
                case measure => simp [intOf]; omega
              · have q7 : (x.k == 0) = false := by simp [hx5]
                clear hx5
                have hBDN := snapJ_bd HZ.out HBD.out hMk x.b
                have HBDN := Lib.hid hBDN.1
                have HZN := Lib.hid hBDN.2
                clear hBDN
                obtain ⟨cc, j', d', hq⟩ : ∃ cc j' d', snapJ j d x.b = (cc, j', d') := ⟨_, _, _, rfl⟩
                have CJ := Lib.hid (fun wx (h : JL w0.heap.size wx J g vj j d) => snap_e h x.b hq hbl (by omega))
                have CR := Lib.hid (fun wx (h : RL w0.heap.size wx rj rg rv j d) => snap_ref h x.b hbl (by omega))
                rw [hq] at CR HBDN HZN
                clear hq
                dsimp only at CR HBDN HZN
                go_upto_region 23 with (fail)
                go_step
                go_step
                go_step
                go_step
                refine wpList_load_mid rfl 71 (.tmp 112) rfl b (o + k * 7) rfl _ _ HRG.out Try.underlying71 rfl (by kernel_rfl) ?_
                go_step
                go_step
                go_step
                refine wpList_store_mid rfl 71 (.tmp 17) (.tmp 113) rfl wr.heap.size 0 x.cells rfl rfl (opbox_there wr) (by kernel_rfl) (opcells_one x) ?_
                change wpList _ _ _ _ _ (opbox wr x)
                generalize opbox wr x = wb at *
                generalize wr.heap.size = xb at *
                have HJD := Lib.hid (HJ.out.below (Below.refl _ _).drew)
                have HLD := Lib.hid (HL.out.below (Below.refl _ _).drew)
                have hcd : wb.drew.cell? ⟨xb, 2, none⟩ = some (.string ⟨x.b.toArray⟩) := hcb
                have HXW := Lib.hid HXL.out
                have HVX := Lib.hid HVX0.out
                go_upto_region 38 with (fail)
                go_region_held (fun wx => wx.cell? ⟨xb, 2, none⟩ = some (.string ⟨x.b.toArray⟩)) (first | assumption | exact hcd | exact cx5 | exact cx6)
                  (first
                    | (go_at_call 42; refine (CJ.out _ HJD.out).mono ?_; rintro e w5 ⟨rfl, v5, hj5, hk5, hv5⟩; have cx5 := kp_cell hk5 hcd HVX.out.1 HVX.out.2.1 HVX.out.2.2.1)
                    | (go_at_call 53; refine (CR.out _ (HLD.out.byJ hk5 HSP.out)).mono ?_; rintro e w6 ⟨rfl, v6, hl6, hk6, hv6⟩; have cx6 := kp_cell hk6 cx5 HVX.out.2.2.2.1 HVX.out.2.2.2.2 (by simp)))
                have HSP5 := Lib.hid (HSP.out.byJ HLD.out hv5)
                have HJ6 := Lib.hid (hj5.byR hk6 HSP5.out)
                have HSP6 := Lib.hid (HSP5.out.byR hj5 hv6)
                have HL6 := Lib.hid hl6
                have hs5 := hk5.size
                have HB6 := Lib.hid ((HB1.out.drew.trans (HJD.out.kpb hk5 HB1.out.size)).trans ((HLD.out.byJ hk5 HSP.out).kpb hk6 (Nat.le_trans HB1.out.size hs5)))
                have HBO := Lib.hid (show Both w0.heap.size w6 g rg (.pointer (some ⟨J, 0, none⟩)) (.pointer (some ⟨rj, 0, none⟩)) d' (k + 1) (4000 + jsz (L.take k) + 15 * k + (x.b.length + 16)) from .inr ⟨J, rj, v5, v6, j', rfl, rfl, HJ6.out, HL6.out, HSP6.out, HBDN.out⟩)
                clear hj5 hk5 hv5 hl6 hk6 hv6 cx5 cx6 hcd hcb CJ CR HJD HLD HSP5 HJ6 HL6 HSP6 HB1 hs5
                go_wp2_with fail
                go_at_call 50
                refine (same_both HBO.out (by omega) (by have := HMM.out; omega)).mono ?_
                rintro e w13 ⟨rfl, hb13⟩
                have HBB := Lib.hid (HB6.out.trans (hb13.mono HB6.out.size))
                replace HBO := Lib.hid (HBO.out.below hb13)
                clear hb13 HB6
                go_wp2
                go_roundw
                case rel => exact ⟨k + 1, d', by omega, by go_num, HMM.out ▸ HBO.out, HMM.out ▸ HZN.out, HBB.out⟩
                case measure => simp [intOf]; omega
          · obtain rfl : k = L.length := by omega
            go_wp2
            go_ret
            exact ⟨rfl, HAL.out.trans (HB.out.mono HAL.out.size)⟩
  · have hr : room < 0 ∨ 16777216 < room := by omega
    have N1 := Lib.hid (new_none room hr)
    have N2 := Lib.hid (ref_none room hr)
    clear hr hroom
    go_wp2_with (first
      | (go_at_call 16; refine (N1.out _).mono ?_; rintro e w3 ⟨rfl, rfl⟩)
      | (go_at_call 17; refine (N2.out _).mono ?_; rintro e w4 ⟨rfl, rfl⟩))
    go_ret
    exact ⟨rfl, HAL.out.trans (HB2.out.mono HAL.out.size)⟩
set_option maxRecDepth 100000 in
theorem lifted (os : Os) (started : os.Started) (H : Type) (enc : TypeId × Value → H) :
    ReturnsInHanded {} Try.checked os 12 .any (Rows.journalDoesSpec.pre6 enc Try.prog Try.f12 Rows.journalDoesRow.domain false) (Rows.journalDoesSpec.post enc Try.prog Try.f12 false true false false) := by
  refine returnsInHanded_of_change_sized (C := Try.checked) own_knob started (by kernel_rfl) Try.func12
    (ChangeSpec.witness6 (enc := enc) (C := Try.checked) false ⟨#[], #[.int .i64 0, .agg #[.string ByteArray.empty, .string ByteArray.empty, .string ByteArray.empty], .slice none 0 0], []⟩ 8 (by kernel_rfl) (by kernel_rfl) (by kernel_rfl) (by kernel_rfl)) ?_
  intro W base args ds gs before hval0 hW hcnd hsz _
  have hval : ∀ (j : Nat) t v, Try.f12.params[j]? = some t → args[j]? = some v → Value.okWide Try.prog W .any base t v := hval0
  have hww : ∀ (j : Nat) (t : TypeId) (d : DataW H), Try.f12.params.toList[j]? = some t → ds[j]? = some d → ∀ n ∈ d.weights Try.prog t, n ≤ reachBytes := fun j t d h1 h2 => weights_of hsz j h1 h2
  have hW' := hW
  obtain ⟨p, q, hA0, hV, rfl, hfz, hnd⟩ := hW
  have hA : DataW.TrodAll enc Try.prog W 0 (fun _ => true) true Try.f12.params.toList args.toList ds p := hA0
  rw [Try.params12] at hA hval hww
  obtain ⟨v0, vs0, d0, ds0, p0, q0, hargs, rfl, rfl, h0, r0⟩ := trodAll_cons hA
  obtain ⟨v1, vs1, d1, ds1, p1, q1, rfl, rfl, rfl, h1, r1⟩ := trodAll_cons r0
  obtain ⟨v2, vs2, d2, ds2, p2, q2, rfl, rfl, rfl, h2, r2⟩ := trodAll_cons r1
  obtain ⟨rfl, rfl, rfl⟩ := trodAll_nil r2
  obtain rfl : args = #[v0, v1, v2] := by cases args; simp_all
  obtain ⟨a0, rfl, _, _, hl0⟩ := open_int Try.underlying3 (hval 0 3 v0 rfl rfl) h0
  obtain ⟨f1, rfl, hf1⟩ := open_three (hval 1 77 v1 rfl rfl) h1 (hww 1 77 d1 rfl rfl)
  obtain ⟨L2, hs2, hn2, hx2⟩ := open_jops (hval 2 65 v2 rfl rfl) h2 (hww 2 65 d2 rfl rfl)
  clear hA0 hval0
  refine (walk a0 f1 v2 L2 W hf1 hs2 hn2 hx2).mono fun e W' ⟨he, hb⟩ => ?_
  subst he
  exact ⟨_, rfl, law_post hW' (by kernel_rfl) rfl rfl (by
    intro t ht
    rw [Try.params12] at ht
    simp at ht
    rcases ht with rfl | rfl | rfl
    all_goals exact ⟨by kernel_rfl, of_decide_eq_true (by kernel_rfl)⟩) hb⟩
theorem over : Rows.journalDoesRow.holds Try.pinned (OpenSpec.ofChange Rows.journalDoesSpec) :=
  OpenClaim.holds_of_wide 12 Try.f12 rfl rfl rfl rfl rfl rfl rfl ⟨rfl, rfl, rfl, rfl, rfl⟩ rfl rfl rfl rfl rfl (by kernel_rfl) Try.func12 (by kernel_rfl)
    (of_decide_eq_true (by kernel_rfl)) (by unfold Func.isWrapper; first | (rw [if_pos (by decide +kernel)]; kernel_rfl) | (rw [if_neg (by decide +kernel)]; exact ⟨rfl, rfl⟩))
    (fun os started H enc _ => lifted os started H enc)
theorem proved : Rows.JournalDoesSaid := over
#print axioms proved
end Go.Proofs.Ytdphnhgogokidaa.journalDoes
