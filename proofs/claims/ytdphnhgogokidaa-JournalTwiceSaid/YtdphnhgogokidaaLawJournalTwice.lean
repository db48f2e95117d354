/- JournalTwice: for every list of operations, every two fuses and every eight numbers the law returns true, and the list reads afterwards as it read before. No condition. -/
import Derived.Test.YtdphnhgogokidaaJourV
namespace Go.Proofs.Ytdphnhgogokidaa.journalTwice
open Go.ChangeShapes Go.WideShapes Go.ChangeAt Go.RowKit
open Go.ChangeMaps (open_string shut_string)

theorem range_of_row {w : World} {g : Nat} {cs : Array Value} {t : TypeId} (h : w.heap[g]? = some (.cells cs t (0, 0))) (o n : Nat) (sub : List Value) (hs : (cs.toList.drop o).take n = sub) : w.rangeAt g o sub := by
  intro i u hu
  rw [cell_of_row _ _ _ _ _ _ h]
  subst hs
  rw [List.getElem?_take] at hu
  split at hu
  · rw [List.getElem?_drop] at hu
    simpa using hu
  · cases hu
set_option maxRecDepth 100000 in
set_option maxHeartbeats 16000000 in
theorem walk (v : Value) (L : List JOp) (f0 f1 : Int) (kp0 kp1 : Nat → Int) (w : World) (hs : SlJ w v L) (hn : L.length ≤ 140737488355328) (hx : ∀ x ∈ L, x.Ok) (hf0 : -9223372036854775808 ≤ f0 ∧ f0 ≤ 9223372036854775807) (hf1 : -9223372036854775808 ≤ f1 ∧ f1 ≤ 9223372036854775807)
    (hk0 : ∀ i, -9223372036854775808 ≤ kp0 i ∧ kp0 i ≤ 9223372036854775807) (hk1 : ∀ i, -9223372036854775808 ≤ kp1 i ∧ kp1 i ≤ 9223372036854775807) :
    Calls Try.prog 14 #[v, .agg #[.int .i64 f0, .int .i64 f1], .agg (kept8 kp0 kp1)] w fun e w' => e = .returned (.bool true) ∧ Below w.heap.size w w' := by
  have hz1 := szo_eq L 0
  have hz2 := szo_le L 0
  have HSZ := Lib.hid (fun wx h => size06_any v L wx h hn hx)
  have HX := Lib.hid hx
  have HF1 := Lib.hid hf1
  have HF0 := Lib.hid hf0
  have HKP0 := Lib.hid hk0
  have HKP1 := Lib.hid hk1
  clear hx hf0 hf1 hk0 hk1
  -- the arrays' blocks
  have hal1 := alloc_below w (.cells #[.int .i64 f0, .int .i64 f1] 85 (0, 0))
  have hal2 := alloc_below (w.alloc (.cells #[.int .i64 f0, .int .i64 f1] 85 (0, 0))) (.cells (kept8 kp0 kp1) 86 (0, 0))
  have hb1 := (heap_alloc_new w (.cells #[.int .i64 f0, .int .i64 f1] 85 (0, 0)))
  have hb2 := (heap_alloc_new (w.alloc (.cells #[.int .i64 f0, .int .i64 f1] 85 (0, 0))) (.cells (kept8 kp0 kp1) 86 (0, 0)))
  have hs1 : (w.alloc (.cells #[.int .i64 f0, .int .i64 f1] 85 (0, 0))).heap.size = w.heap.size + 1 := by simp
  have HB1 := Lib.hid ((hal2.block w.heap.size (by rw [hs1]; omega)).trans hb1)
  rw [hs1] at hb2
  have HB2 := Lib.hid hb2
  have hal := hal1.trans (hal2.mono (by rw [hs1]; omega))
  have hs2 : ((w.alloc (.cells #[.int .i64 f0, .int .i64 f1] 85 (0, 0))).alloc (.cells (kept8 kp0 kp1) 86 (0, 0))).heap.size = w.heap.size + 1 + 1 := by simp
  have HAL := Lib.hid hal
  have HS := Lib.hid (hs.below hal (Nat.le_refl _))
  have HS2 := Lib.hid hs2
  obtain ⟨a, c, rfl, _⟩ := hs
  clear hal1 hal2 hb1 hb2 hs1 hs2 hal
  generalize hK8 : kept8 kp0 kp1 = K8 at *
  have HK8 := Lib.hid hK8
  clear hK8
  go_enter Try.func14, Try.ntmps14
  go_upto_region 1 with (fail)
  generalize (w.alloc (.cells #[.int .i64 f0, .int .i64 f1] 85 (0, 0))).alloc (.cells K8 86 (0, 0)) = w0 at *
  have c0 : w0.cell? ⟨w.heap.size, 0, none⟩ = some (.int .i64 f0) := (cell_of_row _ _ 0 _ _ _ HB1.out).trans rfl
  have c1 : w0.cell? ⟨w.heap.size, 1, none⟩ = some (.int .i64 f1) := (cell_of_row _ _ 1 _ _ _ HB1.out).trans rfl
  have HC0 := Lib.hid c0
  have HC1 := Lib.hid c1
  have HR0 := Lib.hid (show w0.rangeAt (w.heap.size + 1) 0 (kept4 kp0).toList from range_of_row HB2.out 0 4 _ (by rw [← HK8.out]; rfl))
  have HR1 := Lib.hid (show w0.rangeAt (w.heap.size + 1) 4 (kept4 kp1).toList from range_of_row HB2.out 4 4 _ (by rw [← HK8.out]; rfl))
  clear c0 c1 HB1 HB2
  by_cases hlen : 30 < L.length
  · have hli : (30 : Int) < L.length := by omega
    clear HSZ
    go_wp2_with (go_at_call 39; refine (awake06_any _).mono ?_; rintro e w1 ⟨rfl, hb1⟩)
    go_ret
    exact ⟨rfl, HAL.out.trans (hb1.mono HAL.out.size)⟩
  have hli : ¬ (30 : Int) < L.length := by omega
  have hzb : (szo L 0 : Int) ≤ 4222124650659870 := by
    have h1 := jsz_bound L 140737488355328 (fun x hx => (HX.out x hx).b)
    have h2 : L.length * (140737488355328 + 1) ≤ 30 * (140737488355328 + 1) := Nat.mul_le_mul_right _ (by omega)
    omega
  by_cases hbig : 4000 < szo L 0
  · have hbi : (4000 : Int) < (szo L 0 : Int) := by omega
    generalize szo L 0 = Z at *
    clear hz1 hz2
    go_wp2_with (first | (go_at_call 39; refine (awake06_any _).mono ?_; rintro e w1 ⟨rfl, hb1⟩; replace hb1 := Lib.hid hb1) | (go_at_call 40; refine (HSZ.out _ (HS.out.below hb1.out (Nat.le_refl _))).mono ?_; rintro e w2 ⟨rfl, rfl⟩))
    go_ret
    exact ⟨rfl, HAL.out.trans (hb1.out.mono HAL.out.size)⟩
  have hbi : ¬ (4000 : Int) < (szo L 0 : Int) := by omega
  have HJS := Lib.hid (show jsz L ≤ 4000 by have := hz1 (by omega); omega)
  generalize szo L 0 = Z at *
  clear hz1 hz2 hbig hzb
  have N0 := Lib.hid (new_disk 1048576 (by omega) (by omega))
  have HOK0 := Lib.hid (new_ok (room := 1048576) (by omega) (by omega))
  have HLV0 := Lib.hid (live_new 1048576)
  generalize Dk.new 1048576 = D0 at *
  go_wp2_with (first | (go_at_call 39; refine (awake06_any _).mono ?_; rintro e w1 ⟨rfl, hb1⟩; replace hb1 := Lib.hid hb1) | (go_at_call 40; refine (HSZ.out _ (HS.out.below hb1.out (Nat.le_refl _))).mono ?_; rintro e w2 ⟨rfl, rfl⟩))
  go_at_call 16
  refine (N0.out _).mono ?_
  rintro e w2 ⟨rfl, hd2, hb2, hl2⟩
  have HB2 := Lib.hid (hb1.out.trans (hb2.mono hb1.out.size))
  have HG := Lib.hid hb1.out.size
  have HD2 := Lib.hid hd2
  clear hd2 hb2 hl2 hb1
  generalize w1.heap.size = g at *
  go_wp2_with fail
  go_at_call 41
  refine (open_l w0.heap.size g D0 _ D0 HOK0.out HG.out HLV0.out.opened _ HD2.out).mono ?_
  rintro e w3 ⟨rfl, v3, hj3, ho3⟩
  have HB3 := Lib.hid (HB2.out.trans (ho3.onb HG.out HB2.out.size))
  have HJ3 := Lib.hid hj3
  clear hj3 ho3 HB2 HD2
  generalize w2.heap.size = J at *
  have hcf : w3.cell? ⟨w.heap.size, 0, none⟩ = some (.int .i64 f0) := (HB3.out.cell (by show w.heap.size < w0.heap.size; rw [HS2.out]; omega)).trans HC0.out
  go_wp2_with fail
  go_at_call 25
  refine (fuse_disk g D0 f0 _ HJ3.out.jour.hd).mono ?_
  rintro e w4 ⟨rfl, hd4, ho4⟩
  have HB4 := Lib.hid (HB3.out.trans (ho4.onb HG.out HB3.out.size))
  have HJ4 := Lib.hid (HJ3.out.turn ho4 hd4 (fuse_ok HOK0.out f0 HF0.out.2))
  have HLV4 := Lib.hid (live_fuse HLV0.out (max f0 (-1)))
  clear hd4 ho4 hcf HB3 HJ3 HLV0 HOK0
  generalize ({ D0 with fuse := max f0 (-1) } : Dk) = D1 at *
  go_wp2_with fail
  go_loopw [11, 12, 57] (fun u s i wr => ∃ (k : Nat) (v : Value) (j : Jn) (d : Dk) (all : List (List UInt8)) (n : Nat) (t : List UInt8), k ≤ L.length ∧ i = .int .i64 k ∧ s = .int .i64 all.length ∧ all.length ≤ k ∧ Live j d all n t ∧ JL w0.heap.size wr J g v j d ∧ Row w0.heap.size wr u all ∧ Apart u v g J ∧ Below w0.heap.size w0 wr) (fun _ _ i _ => L.length - (intOf i).toNat)
  case atStart => exact ⟨0, v3, _, D1, [], 0, [], by omega, rfl, rfl, Nat.le_refl _, HLV4.out, HJ4.out, row_nil _ _, apart_nil _ _ _, HB4.out⟩
  case round =>
    obtain ⟨k, v, j, d, all, n, t, hk, rfl, rfl, hal, hlv, hj, hr, ha, hb⟩ := hrel
    clear HJ4 HB4 HLV4
    obtain ⟨ua, uc, rfl⟩ := hr.form
    have HLV := Lib.hid hlv
    have HJ := Lib.hid hj
    have HR := Lib.hid hr
    have HA := Lib.hid ha
    have HB := Lib.hid hb
    clear hlv hj hr ha hb
    by_cases hlt : k < L.length
    · have hki : (k : Int) < L.length := by omega
      have hsl := HS.out.below HB.out (Nat.le_refl _)
      obtain ⟨_, _, he, hc0⟩ := hsl
      simp only [Value.slice.injEq] at he
      obtain ⟨rfl, _, rfl⟩ := he
      obtain ⟨b, o, rfl, hc⟩ := hc0 (by intro h; subst h; simp at hlt)
      have hrg := hc k L[k] (by simp [hlt])
      clear hc hc0
      have hxb := jsz_in (List.getElem_mem hlt)
      generalize L[k] = x at *
      have HRG := Lib.hid hrg
      clear hrg
      have hbx := opbox_below wr x
      have HXB := Lib.hid (opbox_free x HJ.out)
      have HB1 := Lib.hid (HB.out.trans (hbx.mono HB.out.size))
      have HJ1 := Lib.hid (HJ.out.below hbx)
      have HR1 := Lib.hid (HR.out.below hbx)
      have hck := opbox_k wr x
      have hcb := opbox_b wr x
      have hb4 := HJS.out
      have hbl : (x.b.length : Int) ≤ 140737488355328 := by omega
      have hbn : x.b.length ≤ 65528 := by omega
      have hjb : j.base + j.recs.length = all.length := by
        rw [HLV.out.je]; dsimp only; rw [seg_length (Nat.le_refl _)]; have := HLV.out.saf.h2; omega
      have HXR := Lib.hid (show ∀ k, (Value.slice ua all.length uc).ownBlock = some k → k ≠ wr.heap.size from fun k hk => by have := (HR.out.blk k hk).2; omega)
      clear hbx HJ HR HB
      by_cases hk1 : x.k = 1
      · have hk2 : (x.k == 1) = true := by simp [hk1]
        clear hk1
        have HSN := Lib.hid (snapJ_live HJ1.out.jour.ok HLV.out x.b hbn)
        obtain ⟨q, hq⟩ : ∃ q, snapJ j d x.b = q := ⟨_, rfl⟩
        rw [hq] at HSN
        obtain ⟨code, j', d'⟩ := q
        have E1 := Lib.hid hq
        clear hq
        dsimp only at HSN
        go_upto_region 14 with (fail)
        go_step
        go_step
        go_step
        go_step
        refine wpList_load_mid rfl 71 (.tmp 59) rfl b (o + k * 7) rfl _ _ HRG.out Try.underlying71 rfl (by kernel_rfl) ?_
        go_step
        go_step
        go_step
        refine wpList_store_mid rfl 71 (.tmp 14) (.tmp 60) rfl wr.heap.size 0 x.cells rfl rfl (opbox_there wr) (by kernel_rfl) (opcells_one x) ?_
        change wpList _ _ _ _ _ (opbox wr x)
        generalize opbox wr x = wb at *
        generalize wr.heap.size = xb at *
        go_wp2_with fail
        go_at_call 42
        refine (snap_e HJ1.out x.b E1.out hbl (by omega)).mono ?_
        rintro e w4 ⟨rfl, v4, hj4, hk4, hv4⟩
        have HB4 := Lib.hid (HB1.out.trans (HJ1.out.kpb hk4 HB1.out.size))
        have HJ4 := Lib.hid hj4
        have HR4 := Lib.hid (HR1.out.kp hk4 HA.out)
        have HA4 := Lib.hid (HA.out.kp HR1.out hv4)
        clear hj4 hk4 hv4 HB1 HJ1 HR1 hck hcb HA HXB hjb
        rcases HSN.out with ⟨hz, hl⟩ | ⟨hz, hq⟩
        · have HLN := Lib.hid hl
          subst hz
          clear hl
          go_wp2
          go_roundw
          case rel => exact ⟨k + 1, v4, _, d', all, _, _, by omega, by go_num, rfl, by omega, HLN.out, HJ4.out, HR4.out, HA4.out, HB4.out⟩
          case measure => simp [intOf]; omega
        · have hz1 : (code != 0) = true := by simpa using hz
          have HQ := Lib.hid (show ∀ kept, ∃ n0 n m t, Rest (d'.crash kept) all n0 n m t ∧ all.length ≤ m from fun kept => by
            obtain ⟨n', t', _, hr⟩ := hq kept
            exact ⟨_, _, _, _, hr, Nat.le_refl _⟩)
          have HAG := Lib.hid (show ∀ k, (Value.slice ua all.length uc).ownBlock = some k → k ≠ g from fun k hk => (HA4.out k hk).1)
          have HO := Lib.hid HJ4.out.jour.ok
          have HD := Lib.hid HJ4.out.jour.hd
          have has : (all.length : Int) ≤ 1000 := by omega
          clear hz hq HSN HLV HJ4 HA4 E1
          obtain ⟨n0, nn, m, tx, hr0, hSm⟩ := HQ.out kp0
          have hm := hr0.h3
          have hnm := hr0.h2
          have HRS := Lib.hid hr0
          have HRG0 := Lib.hid (range_below HB4.out (Nat.le_refl _) HR0.out)
          clear hr0 HQ
          go_upto_region 22 with (first | (with_reducible refine wpList_load_mid rfl 31 (.tmp 83) rfl (w.heap.size + 1) 0 rfl _ _ HRG0.out Try.underlying31 rfl (by kernel_rfl) ?_) | (go_at_call 22; refine (crash_disk g d' HO.out kp0 HKP0.out _ HD.out).mono ?_; rintro e x5 ⟨rfl, hd5, ho5⟩))
          have HB5 := Lib.hid (HB4.out.trans (ho5.onb HG.out HB4.out.size))
          have HR5 := Lib.hid (HR4.out.only ho5 HAG.out)
          have HD5 := Lib.hid hd5
          have HS5 := Lib.hid (crash_sured HO.out kp0)
          have HO5 := Lib.hid (crash_ok HO.out kp0)
          clear hd5 ho5 HB4 HR4 HRG0 HO HD
          generalize d'.crash kp0 = d5 at *
          have hcf : x5.cell? ⟨w.heap.size, 1, none⟩ = some (.int .i64 f1) := (HB5.out.cell (by show w.heap.size < w0.heap.size; rw [HS2.out]; omega)).trans HC1.out
          go_wp2_with fail
          go_at_call 25
          refine (fuse_disk g d5 f1 _ HD5.out).mono ?_
          rintro e x6 ⟨rfl, hd6, ho6⟩
          have HB6 := Lib.hid (HB5.out.trans (ho6.onb HG.out HB5.out.size))
          have HR6 := Lib.hid (HR5.out.only ho6 HAG.out)
          have HD6 := Lib.hid hd6
          have HS6 := Lib.hid (show Sured ({ d5 with fuse := max f1 (-1) } : Dk) from HS5.out)
          have HO6 := Lib.hid (fuse_ok HO5.out f1 HF1.out.2)
          have HRS6 := Lib.hid (show Rest ({ d5 with fuse := max f1 (-1) } : Dk) all n0 nn m tx from HRS.out.same rfl rfl)
          clear hd6 ho6 HB5 HR5 HD5 HS5 HO5 HRS hcf
          generalize ({ d5 with fuse := max f1 (-1) } : Dk) = d6 at *
          obtain ⟨hoc, hok7, hsu7, hrs7⟩ := HRS6.out.open_cases HO6.out HS6.out
          have HO7 := Lib.hid hok7
          have HS7 := Lib.hid hsu7
          have HRS7 := Lib.hid hrs7
          have HOC := Lib.hid hoc
          clear hok7 hsu7 hrs7 HRS6 HS6 hoc
          generalize (openJ d6).2.2 = d7 at *
          have hms : (m : Int) ≤ 1000 := by have := HRS7.out.h3; have := HRS7.out.h4; omega
          have hsl : (seg all nn m).length = m - nn := seg_length hm
          have HBM := Lib.hid (show nn + (seg all nn m).length = m by omega)
          have hrn : (seg all nn m).length ≤ 1000000 := by omega
          have hrm : (seg all nn m).length ≤ 9223372036854775807 := by omega
          have q1 : decide ((m : Int) < (all.length : Int)) = false := by simp; omega
          have q2 : decide ((all.length : Int) < (m : Int)) = false := by have := hm; simp; omega
          have q3 : decide ((m : Int) < (nn : Int)) = false := by simp; omega
          have q4 : ¬ (m : Int) < (all.length : Int) := by omega
          have q5 : ¬ (all.length : Int) < (m : Int) := by have := hm; omega
          have q6 : ¬ (m : Int) < (nn : Int) := by omega
          have HUP := Lib.hid ((HRS7.out.crash HS7.out kp1).open_up rfl rfl)
          have HO8 := Lib.hid (crash_ok HO7.out kp1)
          clear hsl hSm
          rcases HOC.out with ho7 | ho7
          · go_wp2_with fail
            go_at_call 41
            refine (open_n g d6 9 d7 HO6.out ho7 _ HD6.out).mono ?_
            rintro e x7 ⟨rfl, hd7, _, ho7b⟩
            have HB7 := Lib.hid (HB6.out.trans (ho7b.onb HG.out HB6.out.size))
            have HR7 := Lib.hid (HR6.out.only ho7b HAG.out)
            have HD7 := Lib.hid hd7
            clear hd7 ho7b HB6 HR6 HD6 ho7
            have HRG1 := Lib.hid (range_below HB7.out (Nat.le_refl _) HR1.out)
            go_upto_region 27 with (first | (with_reducible refine wpList_load_mid rfl 31 (.tmp 109) rfl (w.heap.size + 1) 4 rfl _ _ HRG1.out Try.underlying31 rfl (by kernel_rfl) ?_) | (go_at_call 22; refine (crash_disk g d7 HO7.out kp1 HKP1.out _ HD7.out).mono ?_; rintro e x8 ⟨rfl, hd8, ho8⟩))
            have HB8 := Lib.hid (HB7.out.trans (ho8.onb HG.out HB7.out.size))
            have HR8 := Lib.hid (HR7.out.only ho8 HAG.out)
            have HD8 := Lib.hid hd8
            clear hd8 ho8 HB7 HR7 HD7 HRG1
            generalize d7.crash kp1 = d8 at *
            generalize (openJ d8).2.2 = d9 at *
            go_wp2_with fail
            go_at_call 41
            refine (open_l w0.heap.size g d8 _ d9 HO8.out HG.out HUP.out _ HD8.out).mono ?_
            rintro e x9 ⟨rfl, v9, hj9, ho9⟩
            have HB9 := Lib.hid (HB8.out.trans (ho9.onb HG.out HB8.out.size))
            have HR9 := Lib.hid (HR8.out.only ho9 HAG.out)
            have HK9 := Lib.hid hj9
            clear hj9 ho9 HB8 HR8 HD8
            generalize x8.heap.size = K at *
            go_wp2_with fail
            go_at_call 46
            refine (text_l HK9.out).mono ?_
            rintro e x10 ⟨rfl, n10, rfl⟩
            have hb10 := drewN_below (Below.refl x9.heap.size x9) n10
            have HB10 := Lib.hid (drewN_below HB9.out n10)
            have HR10 := Lib.hid (HR9.out.below hb10)
            have HK10 := Lib.hid (HK9.out.below hb10)
            clear hb10 HB9 HR9 HK9
            generalize x9.drewN n10 = x10 at *
            go_wp2_with fail
            go_at_call 45
            refine (last_m HK10.out m HBM.out (by omega)).mono ?_
            rintro e x11 ⟨rfl, n11, rfl⟩
            have hb11 := drewN_below (Below.refl x10.heap.size x10) n11
            have HB11 := Lib.hid (drewN_below HB10.out n11)
            have HR11 := Lib.hid (HR10.out.below hb11)
            have HK11 := Lib.hid (HK10.out.below hb11)
            clear hb11 HB10 HR10 HK10
            generalize x10.drewN n11 = x11 at *
            go_upto_region 32 with (fail)
            obtain ⟨sv, hsl1, hsl2, hss⟩ := seg_slice HR11.out nn m hnm hm
            have HSS := Lib.hid hss
            have hbd := (Below.refl x11.heap.size x11).drew
            have HKD := Lib.hid (HK11.out.below hbd)
            have HRD := Lib.hid (HR11.out.below hbd)
            have HBD := Lib.hid HB11.out.drew
            clear hss hbd HB11 HR11 HK11
            have z4 : ¬ (m : Int) < (all.length : Int) := by omega
            have z5 : ¬ (all.length : Int) < (m : Int) := by omega
            have z6 : ¬ (m : Int) < (nn : Int) := by omega
            go_region_held (fun wx => Below x11.heap.size x11 wx) (first | assumption | exact (Below.refl _ _).drew | exact (Below.refl _ _).drew.trans hb13 | exact drewN_below ((Below.refl _ _).drew.trans hb13) n14) (first
              | (go_at_call 44; refine (records_l HKD.out hrn).mono ?_; rintro e x13 ⟨u13, rfl, hu13, hb13⟩)
              | (go_at_call 35; refine (same_same hu13 (HSS.out _ (HRD.out.below hb13)) hrm).mono ?_; rintro e x14 ⟨rfl, n14, rfl⟩))
            have HB14 := Lib.hid (drewN_below (HBD.out.trans (hb13.mono HBD.out.size)) n14)
            go_wp2
            go_ret
            exact ⟨rfl, HAL.out.trans (HB14.out.mono HAL.out.size)⟩
          · go_wp2_with fail
            go_at_call 41
            refine (open_l w0.heap.size g d6 _ d7 HO6.out HG.out ho7 _ HD6.out).mono ?_
            rintro e x7 ⟨rfl, v7, hj7, ho7b⟩
            have HB7 := Lib.hid (HB6.out.trans (ho7b.onb HG.out HB6.out.size))
            have HR7 := Lib.hid (HR6.out.only ho7b HAG.out)
            have HD7 := Lib.hid hj7.jour.hd
            have HP7 := Lib.hid hj7
            clear hj7 ho7b HB6 HR6 HD6 ho7
            generalize x6.heap.size = P at *
            have HRG1 := Lib.hid (range_below HB7.out (Nat.le_refl _) HR1.out)
            go_upto_region 27 with (first | (with_reducible refine wpList_load_mid rfl 31 (.tmp 109) rfl (w.heap.size + 1) 4 rfl _ _ HRG1.out Try.underlying31 rfl (by kernel_rfl) ?_) | (go_at_call 22; refine (crash_disk g d7 HO7.out kp1 HKP1.out _ HD7.out).mono ?_; rintro e x8 ⟨rfl, hd8, ho8⟩))
            have HB8 := Lib.hid (HB7.out.trans (ho8.onb HG.out HB7.out.size))
            have HR8 := Lib.hid (HR7.out.only ho8 HAG.out)
            have HD8 := Lib.hid hd8
            have HP8 := Lib.hid (HP7.out.turn ho8 hd8 HO8.out)
            clear HP7
            clear hd8 ho8 HB7 HR7 HD7 HRG1
            generalize d7.crash kp1 = d8 at *
            generalize (openJ d8).2.2 = d9 at *
            go_wp2_with fail
            go_at_call 41
            refine (open_l w0.heap.size g d8 _ d9 HO8.out HG.out HUP.out _ HD8.out).mono ?_
            rintro e x9 ⟨rfl, v9, hj9, ho9⟩
            have HB9 := Lib.hid (HB8.out.trans (ho9.onb HG.out HB8.out.size))
            have HR9 := Lib.hid (HR8.out.only ho9 HAG.out)
            have HK9 := Lib.hid hj9
            have HP9 := Lib.hid (HP8.out.turn ho9 hj9.jour.hd hj9.jour.ok)
            clear HP8
            clear hj9 ho9 HB8 HR8 HD8
            generalize x8.heap.size = K at *
            go_wp2_with fail
            go_at_call 46
            refine (text_l HK9.out).mono ?_
            rintro e x10 ⟨rfl, n10, rfl⟩
            have hb10 := drewN_below (Below.refl x9.heap.size x9) n10
            have HB10 := Lib.hid (drewN_below HB9.out n10)
            have HR10 := Lib.hid (HR9.out.below hb10)
            have HK10 := Lib.hid (HK9.out.below hb10)
            have HP10 := Lib.hid (HP9.out.below hb10)
            clear HP9
            clear hb10 HB9 HR9 HK9
            generalize x9.drewN n10 = x10 at *
            go_wp2_with fail
            go_at_call 45
            refine (last_m HK10.out m HBM.out (by omega)).mono ?_
            rintro e x11 ⟨rfl, n11, rfl⟩
            have hb11 := drewN_below (Below.refl x10.heap.size x10) n11
            have HB11 := Lib.hid (drewN_below HB10.out n11)
            have HR11 := Lib.hid (HR10.out.below hb11)
            have HK11 := Lib.hid (HK10.out.below hb11)
            have HP11 := Lib.hid (HP10.out.below hb11)
            clear HP10
            clear hb11 HB10 HR10 HK10
            generalize x10.drewN n11 = x11 at *
            go_upto_region 32 with (fail)
            obtain ⟨sv, hsl1, hsl2, hss⟩ := seg_slice HR11.out nn m hnm hm
            have HSS := Lib.hid hss
            have hbd := (Below.refl x11.heap.size x11).drew
            have HKD := Lib.hid (HK11.out.below hbd)
            have HRD := Lib.hid (HR11.out.below hbd)
            have HBD := Lib.hid HB11.out.drew
            have HPD := Lib.hid (HP11.out.below hbd)
            clear HP11
            clear hss hbd HB11 HR11 HK11
            have z4 : ¬ (m : Int) < (all.length : Int) := by omega
            have z5 : ¬ (all.length : Int) < (m : Int) := by omega
            have z6 : ¬ (m : Int) < (nn : Int) := by omega
            go_region_held (fun wx => Below x11.heap.size x11 wx) (first | assumption | exact (Below.refl _ _).drew | exact (Below.refl _ _).drew.trans hb13 | exact drewN_below ((Below.refl _ _).drew.trans hb13) n14) (first
              | (go_at_call 44; refine (records_l HKD.out hrn).mono ?_; rintro e x13 ⟨u13, rfl, hu13, hb13⟩)
              | (go_at_call 35; refine (same_same hu13 (HSS.out _ (HRD.out.below hb13)) hrm).mono ?_; rintro e x14 ⟨rfl, n14, rfl⟩))
            have HB14 := Lib.hid (drewN_below (HBD.out.trans (hb13.mono HBD.out.size)) n14)
            have HK14 := Lib.hid ((HKD.out.below hb13).below (drewN_below (Below.refl _ _) n14))
            have HP14 := Lib.hid ((HPD.out.below hb13).below (drewN_below (Below.refl _ _) n14))
            clear hb13 hu13 HBD HKD HPD HRD hsl1 hsl2
            generalize x13.drewN n14 = x14 at *
            go_wp2_with fail
            go_at_call 45
            refine (last_m HP14.out m HBM.out (by omega)).mono ?_
            rintro e x15 ⟨rfl, n15, rfl⟩
            have hb15 := drewN_below (Below.refl x14.heap.size x14) n15
            have HB15 := Lib.hid (drewN_below HB14.out n15)
            have HK15 := Lib.hid (HK14.out.below hb15)
            have HP15 := Lib.hid (HP14.out.below hb15)
            clear hb15 HB14 HK14 HP14
            generalize x14.drewN n15 = x15 at *
            go_wp2_with fail
            go_at_call 44
            refine (records_l HP15.out hrn).mono ?_
            rintro e x16 ⟨u16, rfl, hu16, hb16⟩
            have HB16 := Lib.hid (HB15.out.trans (hb16.mono HB15.out.size))
            have HK16 := Lib.hid (HK15.out.below hb16)
            have HU16 := Lib.hid hu16
            clear hu16 hb16 HB15 HK15 HP15
            go_wp2_with fail
            go_at_call 44
            refine (records_l HK16.out hrn).mono ?_
            rintro e x17 ⟨u17, rfl, hu17, hb17⟩
            have HB17 := Lib.hid (HB16.out.trans (hb17.mono HB16.out.size))
            have HU17 := Lib.hid hu17
            have HU16b := Lib.hid (slStr_below HU16.out hb17)
            clear hu17 hb17 HB16 HK16 HU16
            go_wp2_with fail
            go_at_call 35
            refine (same_same HU16b.out HU17.out hrm).mono ?_
            rintro e x18 ⟨rfl, n18, rfl⟩
            go_wp2
            go_ret
            exact ⟨rfl, HAL.out.trans ((drewN_below HB17.out n18).mono HAL.out.size)⟩
      · have hk2 : (x.k == 1) = false := by simpa using hk1
        clear hk1
        have HSN := Lib.hid (appJ_live HJ1.out.jour.ok HLV.out x.b hbn (by omega))
        obtain ⟨q, hq⟩ : ∃ q, appJ j d x.b = q := ⟨_, rfl⟩
        rw [hq] at HSN
        obtain ⟨code, j', d'⟩ := q
        have E1 := Lib.hid hq
        clear hq
        dsimp only at HSN
        go_upto_region 14 with (fail)
        go_step
        go_step
        go_step
        go_step
        refine wpList_load_mid rfl 71 (.tmp 59) rfl b (o + k * 7) rfl _ _ HRG.out Try.underlying71 rfl (by kernel_rfl) ?_
        go_step
        go_step
        go_step
        refine wpList_store_mid rfl 71 (.tmp 14) (.tmp 60) rfl wr.heap.size 0 x.cells rfl rfl (opbox_there wr) (by kernel_rfl) (opcells_one x) ?_
        change wpList _ _ _ _ _ (opbox wr x)
        generalize opbox wr x = wb at *
        generalize wr.heap.size = xb at *
        obtain ⟨i0, hi, hz0, hz1, hz2⟩ := info_parts infoStr
        have hal1 := alloc_below wb (.cells #[.string ⟨x.b.toArray⟩] 9)
        have HJ5 := Lib.hid (HJ1.out.below hal1)
        have HB5 := Lib.hid (HB1.out.trans (hal1.mono HB1.out.size))
        have HRA := Lib.hid (show (wb.alloc (.cells #[.string ⟨x.b.toArray⟩] 9)).ownsRow w0.heap.size 9 1 (.slice ua all.length uc) all.length (strs all) from HR1.out.alloc _)
        have HSZ5 := Lib.hid (show (wb.alloc (.cells #[.string ⟨x.b.toArray⟩] 9)).heap.size = wb.heap.size + 1 by simp)
        have HXC := Lib.hid (show (wb.alloc (.cells #[.string ⟨x.b.toArray⟩] 9)).cell? ⟨xb, 2, none⟩ = some (.string ⟨x.b.toArray⟩) from kept_at hal1 hcb)
        have h4s := HB1.out.size
        have HXN := Lib.hid (show some xb ≠ (Value.slice ua all.length uc).ownBlock from fun e => HXR.out xb e.symm rfl)
        clear hal1 HR1 HJ1 HB1
        go_wp2_with (at_builtin; refine wpList_append_lies _ rfl (.tmp 69) (.tmp 72) 50 rfl w0.heap.size 9 i0 (.string ByteArray.empty) 1 16 Try.underlying50 hi hz0 hz1 hz2 rfl (by decide) _ _ _ rfl HRA.out ⟨wb.heap.size, 0, none⟩ 1 1 [.string ⟨x.b.toArray⟩] rfl rfl ?c1 ?c2 (by decide) ?c3 ?c4 ?c5 _ rfl ?_)
        case c1 => exact cell_one_new _ _ _
        case c2 => intro u hu; simp at hu; subst hu; rfl
        case c3 => unfold maxLen; omega
        case c4 => omega
        case c5 => rw [HSZ5.out]; omega
        intro g' cap' w5 hown' hgrow hat _
        have HJ6 := Lib.hid (HJ5.out.grown hgrow HA.out)
        have HR6 := Lib.hid (Row.snoc hown')
        have HA6 := Lib.hid (HA.out.appended (n := all.length + 1) (c := cap') HJ5.out (by rw [HSZ5.out]; exact hat))
        have HB6 := Lib.hid (HB5.out.trans (Row.grownBelow (show Row w0.heap.size _ _ all from HRA.out) hgrow (Nat.le_refl _) HB5.out.size))
        have hcx : w5.cell? ⟨xb, 2, none⟩ = some (.string ⟨x.b.toArray⟩) := by
          rw [World.cell?_of_block (hgrow.block xb (block_lt_of_cell HXC.out) HXN.out)]
          exact HXC.out
        clear hown' hgrow hat HJ5 HRA HA HB5 hi hz0 hz1 hz2 hcb HXC
        go_wp2_with fail
        go_at_call 43
        refine (append_e HJ6.out x.b E1.out hbl (by omega) (by omega)).mono ?_
        rintro e w6 ⟨rfl, v6, hj6, hk6, hv6⟩
        have HB7 := Lib.hid (HB6.out.trans (HJ6.out.kpb hk6 HB6.out.size))
        have HJ7 := Lib.hid hj6
        have HR7 := Lib.hid (HR6.out.kp hk6 HA6.out)
        have HA7 := Lib.hid (HA6.out.kp HR6.out hv6)
        clear hj6 hk6 hv6 HB6 HJ6 HR6 hck hcx HA6 HXB hjb
        rcases HSN.out with ⟨hz, hl⟩ | ⟨hz, hq⟩
        · have HLN := Lib.hid hl
          subst hz
          clear hl
          go_wp2
          go_roundw
          case rel => exact ⟨k + 1, v6, _, d', all ++ [x.b], _, _, by omega, by go_num, by rw [List.length_append]; go_num, by rw [List.length_append]; exact Nat.succ_le_succ hal, HLN.out, HJ7.out, HR7.out, HA7.out, HB7.out⟩
          case measure => simp [intOf]; omega
        · have hz1 : (code != 0) = true := by simpa using hz
          have HQ := Lib.hid (show ∀ kept, ∃ n0 n m t, Rest (d'.crash kept) (all ++ [x.b]) n0 n m t ∧ all.length ≤ m from fun kept => by
            obtain ⟨m, hm, hr⟩ := hq kept
            exact ⟨_, _, _, _, hr, by omega⟩)
          have HAG := Lib.hid (show ∀ k, (Value.slice (some ⟨g', 0, none⟩) (all.length + 1) cap').ownBlock = some k → k ≠ g from fun k hk => (HA7.out k hk).1)
          have HO := Lib.hid HJ7.out.jour.ok
          have HD := Lib.hid HJ7.out.jour.hd
          have HR4 := HR7
          have HB4 := HB7
          have hlen2 : (all ++ [x.b]).length = all.length + 1 := by simp
          have hS : (all.length : Int) ≤ 1000 := by omega
          clear hz hq HSN HLV HJ7 HA7 E1 HR7 HB7
          have hN0 : all.length + 1 ≤ 1000 := by omega
          have HN2 := Lib.hid hlen2
          clear hlen2
          generalize all ++ [x.b] = all2 at *
          generalize hNN : all.length + 1 = N at *
          have HNN := Lib.hid hNN
          clear hNN
          obtain ⟨n0, nn, m, tx, hr0, hSm⟩ := HQ.out kp0
          have hm := hr0.h3
          have hnm := hr0.h2
          have HRS := Lib.hid hr0
          have HRG0 := Lib.hid (range_below HB4.out (Nat.le_refl _) HR0.out)
          clear hr0 HQ
          go_upto_region 22 with (first | (with_reducible refine wpList_load_mid rfl 31 (.tmp 83) rfl (w.heap.size + 1) 0 rfl _ _ HRG0.out Try.underlying31 rfl (by kernel_rfl) ?_) | (go_at_call 22; refine (crash_disk g d' HO.out kp0 HKP0.out _ HD.out).mono ?_; rintro e x5 ⟨rfl, hd5, ho5⟩))
          have HB5 := Lib.hid (HB4.out.trans (ho5.onb HG.out HB4.out.size))
          have HR5 := Lib.hid (HR4.out.only ho5 HAG.out)
          have HD5 := Lib.hid hd5
          have HS5 := Lib.hid (crash_sured HO.out kp0)
          have HO5 := Lib.hid (crash_ok HO.out kp0)
          clear hd5 ho5 HB4 HR4 HRG0 HO HD
          generalize d'.crash kp0 = d5 at *
          have hcf : x5.cell? ⟨w.heap.size, 1, none⟩ = some (.int .i64 f1) := (HB5.out.cell (by show w.heap.size < w0.heap.size; rw [HS2.out]; omega)).trans HC1.out
          go_wp2_with fail
          go_at_call 25
          refine (fuse_disk g d5 f1 _ HD5.out).mono ?_
          rintro e x6 ⟨rfl, hd6, ho6⟩
          have HB6 := Lib.hid (HB5.out.trans (ho6.onb HG.out HB5.out.size))
          have HR6 := Lib.hid (HR5.out.only ho6 HAG.out)
          have HD6 := Lib.hid hd6
          have HS6 := Lib.hid (show Sured ({ d5 with fuse := max f1 (-1) } : Dk) from HS5.out)
          have HO6 := Lib.hid (fuse_ok HO5.out f1 HF1.out.2)
          have HRS6 := Lib.hid (show Rest ({ d5 with fuse := max f1 (-1) } : Dk) all2 n0 nn m tx from HRS.out.same rfl rfl)
          clear hd6 ho6 HB5 HR5 HD5 HS5 HO5 HRS hcf
          generalize ({ d5 with fuse := max f1 (-1) } : Dk) = d6 at *
          obtain ⟨hoc, hok7, hsu7, hrs7⟩ := HRS6.out.open_cases HO6.out HS6.out
          have HO7 := Lib.hid hok7
          have HS7 := Lib.hid hsu7
          have HRS7 := Lib.hid hrs7
          have HOC := Lib.hid hoc
          clear hok7 hsu7 hrs7 HRS6 HS6 hoc
          generalize (openJ d6).2.2 = d7 at *
          have hms : (m : Int) ≤ 1000 := by have := HRS7.out.h3; have := HRS7.out.h4; omega
          have hsl : (seg all2 nn m).length = m - nn := seg_length hm
          have HBM := Lib.hid (show nn + (seg all2 nn m).length = m by omega)
          have hrn : (seg all2 nn m).length ≤ 1000000 := by omega
          have hrm : (seg all2 nn m).length ≤ 9223372036854775807 := by omega
          have q1 : decide ((m : Int) < (all.length : Int)) = false := by simp; omega
          have q2 : decide ((N : Int) < (m : Int)) = false := by have := HN2.out; simp; omega
          have q3 : decide ((m : Int) < (nn : Int)) = false := by simp; omega
          have q4 : ¬ (m : Int) < (all.length : Int) := by omega
          have q5 : ¬ (N : Int) < (m : Int) := by have := HN2.out; omega
          have q6 : ¬ (m : Int) < (nn : Int) := by omega
          have HUP := Lib.hid ((HRS7.out.crash HS7.out kp1).open_up rfl rfl)
          have HO8 := Lib.hid (crash_ok HO7.out kp1)
          clear hsl hSm
          rcases HOC.out with ho7 | ho7
          · go_wp2_with fail
            go_at_call 41
            refine (open_n g d6 9 d7 HO6.out ho7 _ HD6.out).mono ?_
            rintro e x7 ⟨rfl, hd7, _, ho7b⟩
            have HB7 := Lib.hid (HB6.out.trans (ho7b.onb HG.out HB6.out.size))
            have HR7 := Lib.hid (HR6.out.only ho7b HAG.out)
            have HD7 := Lib.hid hd7
            clear hd7 ho7b HB6 HR6 HD6 ho7
            have HRG1 := Lib.hid (range_below HB7.out (Nat.le_refl _) HR1.out)
            go_upto_region 27 with (first | (with_reducible refine wpList_load_mid rfl 31 (.tmp 109) rfl (w.heap.size + 1) 4 rfl _ _ HRG1.out Try.underlying31 rfl (by kernel_rfl) ?_) | (go_at_call 22; refine (crash_disk g d7 HO7.out kp1 HKP1.out _ HD7.out).mono ?_; rintro e x8 ⟨rfl, hd8, ho8⟩))
            have HB8 := Lib.hid (HB7.out.trans (ho8.onb HG.out HB7.out.size))
            have HR8 := Lib.hid (HR7.out.only ho8 HAG.out)
            have HD8 := Lib.hid hd8
            clear hd8 ho8 HB7 HR7 HD7 HRG1
            generalize d7.crash kp1 = d8 at *
            generalize (openJ d8).2.2 = d9 at *
            go_wp2_with fail
            go_at_call 41
            refine (open_l w0.heap.size g d8 _ d9 HO8.out HG.out HUP.out _ HD8.out).mono ?_
            rintro e x9 ⟨rfl, v9, hj9, ho9⟩
            have HB9 := Lib.hid (HB8.out.trans (ho9.onb HG.out HB8.out.size))
            have HR9 := Lib.hid (HR8.out.only ho9 HAG.out)
            have HK9 := Lib.hid hj9
            clear hj9 ho9 HB8 HR8 HD8
            generalize x8.heap.size = K at *
            go_wp2_with fail
            go_at_call 46
            refine (text_l HK9.out).mono ?_
            rintro e x10 ⟨rfl, n10, rfl⟩
            have hb10 := drewN_below (Below.refl x9.heap.size x9) n10
            have HB10 := Lib.hid (drewN_below HB9.out n10)
            have HR10 := Lib.hid (HR9.out.below hb10)
            have HK10 := Lib.hid (HK9.out.below hb10)
            clear hb10 HB9 HR9 HK9
            generalize x9.drewN n10 = x10 at *
            go_wp2_with fail
            go_at_call 45
            refine (last_m HK10.out m HBM.out (by omega)).mono ?_
            rintro e x11 ⟨rfl, n11, rfl⟩
            have hb11 := drewN_below (Below.refl x10.heap.size x10) n11
            have HB11 := Lib.hid (drewN_below HB10.out n11)
            have HR11 := Lib.hid (HR10.out.below hb11)
            have HK11 := Lib.hid (HK10.out.below hb11)
            clear hb11 HB10 HR10 HK10
            generalize x10.drewN n11 = x11 at *
            go_upto_region 32 with (fail)
            obtain ⟨sv, hsl1, hsl2, hss⟩ := seg_slice HR11.out nn m hnm hm
            have HSS := Lib.hid hss
            have hbd := (Below.refl x11.heap.size x11).drew
            have HKD := Lib.hid (HK11.out.below hbd)
            have HRD := Lib.hid (HR11.out.below hbd)
            have HBD := Lib.hid HB11.out.drew
            clear hss hbd HB11 HR11 HK11
            have z4 : ¬ (m : Int) < (all.length : Int) := by omega
            have z5 : ¬ (N : Int) < (m : Int) := by omega
            have z6 : ¬ (m : Int) < (nn : Int) := by omega
            go_region_held (fun wx => Below x11.heap.size x11 wx) (first | assumption | exact (Below.refl _ _).drew | exact (Below.refl _ _).drew.trans hb13 | exact drewN_below ((Below.refl _ _).drew.trans hb13) n14) (first
              | (go_at_call 44; refine (records_l HKD.out hrn).mono ?_; rintro e x13 ⟨u13, rfl, hu13, hb13⟩)
              | (go_at_call 35; refine (same_same hu13 (HSS.out _ (HRD.out.below hb13)) hrm).mono ?_; rintro e x14 ⟨rfl, n14, rfl⟩))
            have HB14 := Lib.hid (drewN_below (HBD.out.trans (hb13.mono HBD.out.size)) n14)
            go_wp2
            go_ret
            exact ⟨rfl, HAL.out.trans (HB14.out.mono HAL.out.size)⟩
          · go_wp2_with fail
            go_at_call 41
            refine (open_l w0.heap.size g d6 _ d7 HO6.out HG.out ho7 _ HD6.out).mono ?_
            rintro e x7 ⟨rfl, v7, hj7, ho7b⟩
            have HB7 := Lib.hid (HB6.out.trans (ho7b.onb HG.out HB6.out.size))
            have HR7 := Lib.hid (HR6.out.only ho7b HAG.out)
            have HD7 := Lib.hid hj7.jour.hd
            have HP7 := Lib.hid hj7
            clear hj7 ho7b HB6 HR6 HD6 ho7
            generalize x6.heap.size = P at *
            have HRG1 := Lib.hid (range_below HB7.out (Nat.le_refl _) HR1.out)
            go_upto_region 27 with (first | (with_reducible refine wpList_load_mid rfl 31 (.tmp 109) rfl (w.heap.size + 1) 4 rfl _ _ HRG1.out Try.underlying31 rfl (by kernel_rfl) ?_) | (go_at_call 22; refine (crash_disk g d7 HO7.out kp1 HKP1.out _ HD7.out).mono ?_; rintro e x8 ⟨rfl, hd8, ho8⟩))
            have HB8 := Lib.hid (HB7.out.trans (ho8.onb HG.out HB7.out.size))
            have HR8 := Lib.hid (HR7.out.only ho8 HAG.out)
            have HD8 := Lib.hid hd8
            have HP8 := Lib.hid (HP7.out.turn ho8 hd8 HO8.out)
            clear HP7
            clear hd8 ho8 HB7 HR7 HD7 HRG1
            generalize d7.crash kp1 = d8 at *
            generalize (openJ d8).2.2 = d9 at *
            go_wp2_with fail
            go_at_call 41
            refine (open_l w0.heap.size g d8 _ d9 HO8.out HG.out HUP.out _ HD8.out).mono ?_
            rintro e x9 ⟨rfl, v9, hj9, ho9⟩
            have HB9 := Lib.hid (HB8.out.trans (ho9.onb HG.out HB8.out.size))
            have HR9 := Lib.hid (HR8.out.only ho9 HAG.out)
            have HK9 := Lib.hid hj9
            have HP9 := Lib.hid (HP8.out.turn ho9 hj9.jour.hd hj9.jour.ok)
            clear HP8
            clear hj9 ho9 HB8 HR8 HD8
            generalize x8.heap.size = K at *
            go_wp2_with fail
            go_at_call 46
            refine (text_l HK9.out).mono ?_
            rintro e x10 ⟨rfl, n10, rfl⟩
            have hb10 := drewN_below (Below.refl x9.heap.size x9) n10
            have HB10 := Lib.hid (drewN_below HB9.out n10)
            have HR10 := Lib.hid (HR9.out.below hb10)
            have HK10 := Lib.hid (HK9.out.below hb10)
            have HP10 := Lib.hid (HP9.out.below hb10)
            clear HP9
            clear hb10 HB9 HR9 HK9
            generalize x9.drewN n10 = x10 at *
            go_wp2_with fail
            go_at_call 45
            refine (last_m HK10.out m HBM.out (by omega)).mono ?_
            rintro e x11 ⟨rfl, n11, rfl⟩
            have hb11 := drewN_below (Below.refl x10.heap.size x10) n11
            have HB11 := Lib.hid (drewN_below HB10.out n11)
            have HR11 := Lib.hid (HR10.out.below hb11)
            have HK11 := Lib.hid (HK10.out.below hb11)
            have HP11 := Lib.hid (HP10.out.below hb11)
            clear HP10
            clear hb11 HB10 HR10 HK10
            generalize x10.drewN n11 = x11 at *
            go_upto_region 32 with (fail)
            obtain ⟨sv, hsl1, hsl2, hss⟩ := seg_slice HR11.out nn m hnm hm
            have HSS := Lib.hid hss
            have hbd := (Below.refl x11.heap.size x11).drew
            have HKD := Lib.hid (HK11.out.below hbd)
            have HRD := Lib.hid (HR11.out.below hbd)
            have HBD := Lib.hid HB11.out.drew
            have HPD := Lib.hid (HP11.out.below hbd)
            clear HP11
            clear hss hbd HB11 HR11 HK11
            have z4 : ¬ (m : Int) < (all.length : Int) := by omega
            have z5 : ¬ (N : Int) < (m : Int) := by omega
            have z6 : ¬ (m : Int) < (nn : Int) := by omega
            go_region_held (fun wx => Below x11.heap.size x11 wx) (first | assumption | exact (Below.refl _ _).drew | exact (Below.refl _ _).drew.trans hb13 | exact drewN_below ((Below.refl _ _).drew.trans hb13) n14) (first
              | (go_at_call 44; refine (records_l HKD.out hrn).mono ?_; rintro e x13 ⟨u13, rfl, hu13, hb13⟩)
              | (go_at_call 35; refine (same_same hu13 (HSS.out _ (HRD.out.below hb13)) hrm).mono ?_; rintro e x14 ⟨rfl, n14, rfl⟩))
            have HB14 := Lib.hid (drewN_below (HBD.out.trans (hb13.mono HBD.out.size)) n14)
            have HK14 := Lib.hid ((HKD.out.below hb13).below (drewN_below (Below.refl _ _) n14))
            have HP14 := Lib.hid ((HPD.out.below hb13).below (drewN_below (Below.refl _ _) n14))
            clear hb13 hu13 HBD HKD HPD HRD hsl1 hsl2
            generalize x13.drewN n14 = x14 at *
            go_wp2_with fail
            go_at_call 45
            refine (last_m HP14.out m HBM.out (by omega)).mono ?_
            rintro e x15 ⟨rfl, n15, rfl⟩
            have hb15 := drewN_below (Below.refl x14.heap.size x14) n15
            have HB15 := Lib.hid (drewN_below HB14.out n15)
            have HK15 := Lib.hid (HK14.out.below hb15)
            have HP15 := Lib.hid (HP14.out.below hb15)
            clear hb15 HB14 HK14 HP14
            generalize x14.drewN n15 = x15 at *
            go_wp2_with fail
            go_at_call 44
            refine (records_l HP15.out hrn).mono ?_
            rintro e x16 ⟨u16, rfl, hu16, hb16⟩
            have HB16 := Lib.hid (HB15.out.trans (hb16.mono HB15.out.size))
            have HK16 := Lib.hid (HK15.out.below hb16)
            have HU16 := Lib.hid hu16
            clear hu16 hb16 HB15 HK15 HP15
            go_wp2_with fail
            go_at_call 44
            refine (records_l HK16.out hrn).mono ?_
            rintro e x17 ⟨u17, rfl, hu17, hb17⟩
            have HB17 := Lib.hid (HB16.out.trans (hb17.mono HB16.out.size))
            have HU17 := Lib.hid hu17
            have HU16b := Lib.hid (slStr_below HU16.out hb17)
            clear hu17 hb17 HB16 HK16 HU16
            go_wp2_with fail
            go_at_call 35
            refine (same_same HU16b.out HU17.out hrm).mono ?_
            rintro e x18 ⟨rfl, n18, rfl⟩
            go_wp2
            go_ret
            exact ⟨rfl, HAL.out.trans ((drewN_below HB17.out n18).mono HAL.out.size)⟩
    · obtain rfl : k = L.length := by omega
      have hb4 := HJS.out
      have HQ := Lib.hid (show ∀ kept, ∃ n0 n m t, Rest (d.crash kept) all n0 n m t ∧ all.length ≤ m from fun kept => ⟨_, _, _, _, HLV.out.saf.crash kept, Nat.le_refl _⟩)
      have HAG := Lib.hid (show ∀ k, (Value.slice ua all.length uc).ownBlock = some k → k ≠ g from fun k hk => (HA.out k hk).1)
      have HO := Lib.hid HJ.out.jour.ok
      have HD := Lib.hid HJ.out.jour.hd
      have HR4 := HR
      have HB4 := HB
      clear HLV HJ HA HR HB
      obtain ⟨n0, nn, m, tx, hr0, hSm⟩ := HQ.out kp0
      have hm := hr0.h3
      have hnm := hr0.h2
      have HRS := Lib.hid hr0
      have HRG0 := Lib.hid (range_below HB4.out (Nat.le_refl _) HR0.out)
      clear hr0 HQ
      go_upto_region 22 with (first | (with_reducible refine wpList_load_mid rfl 31 (.tmp 83) rfl (w.heap.size + 1) 0 rfl _ _ HRG0.out Try.underlying31 rfl (by kernel_rfl) ?_) | (go_at_call 22; refine (crash_disk g d HO.out kp0 HKP0.out _ HD.out).mono ?_; rintro e x5 ⟨rfl, hd5, ho5⟩))
      have HB5 := Lib.hid (HB4.out.trans (ho5.onb HG.out HB4.out.size))
      have HR5 := Lib.hid (HR4.out.only ho5 HAG.out)
      have HD5 := Lib.hid hd5
      have HS5 := Lib.hid (crash_sured HO.out kp0)
      have HO5 := Lib.hid (crash_ok HO.out kp0)
      clear hd5 ho5 HB4 HR4 HRG0 HO HD
      generalize d.crash kp0 = d5 at *
      have hcf : x5.cell? ⟨w.heap.size, 1, none⟩ = some (.int .i64 f1) := (HB5.out.cell (by show w.heap.size < w0.heap.size; rw [HS2.out]; omega)).trans HC1.out
      go_wp2_with fail
      go_at_call 25
      refine (fuse_disk g d5 f1 _ HD5.out).mono ?_
      rintro e x6 ⟨rfl, hd6, ho6⟩
      have HB6 := Lib.hid (HB5.out.trans (ho6.onb HG.out HB5.out.size))
      have HR6 := Lib.hid (HR5.out.only ho6 HAG.out)
      have HD6 := Lib.hid hd6
      have HS6 := Lib.hid (show Sured ({ d5 with fuse := max f1 (-1) } : Dk) from HS5.out)
      have HO6 := Lib.hid (fuse_ok HO5.out f1 HF1.out.2)
      have HRS6 := Lib.hid (show Rest ({ d5 with fuse := max f1 (-1) } : Dk) all n0 nn m tx from HRS.out.same rfl rfl)
      clear hd6 ho6 HB5 HR5 HD5 HS5 HO5 HRS hcf
      generalize ({ d5 with fuse := max f1 (-1) } : Dk) = d6 at *
      obtain ⟨hoc, hok7, hsu7, hrs7⟩ := HRS6.out.open_cases HO6.out HS6.out
      have HO7 := Lib.hid hok7
      have HS7 := Lib.hid hsu7
      have HRS7 := Lib.hid hrs7
      have HOC := Lib.hid hoc
      clear hok7 hsu7 hrs7 HRS6 HS6 hoc
      generalize (openJ d6).2.2 = d7 at *
      have hms : (m : Int) ≤ 1000 := by have := HRS7.out.h3; have := HRS7.out.h4; omega
      have hsl : (seg all nn m).length = m - nn := seg_length hm
      have HBM := Lib.hid (show nn + (seg all nn m).length = m by omega)
      have hrn : (seg all nn m).length ≤ 1000000 := by omega
      have hrm : (seg all nn m).length ≤ 9223372036854775807 := by omega
      have q1 : decide ((m : Int) < (all.length : Int)) = false := by simp; omega
      have q2 : decide ((all.length : Int) < (m : Int)) = false := by have := hm; simp; omega
      have q3 : decide ((m : Int) < (nn : Int)) = false := by simp; omega
      have q4 : ¬ (m : Int) < (all.length : Int) := by omega
      have q5 : ¬ (all.length : Int) < (m : Int) := by have := hm; omega
      have q6 : ¬ (m : Int) < (nn : Int) := by omega
      have HUP := Lib.hid ((HRS7.out.crash HS7.out kp1).open_up rfl rfl)
      have HO8 := Lib.hid (crash_ok HO7.out kp1)
      clear hsl hSm
      rcases HOC.out with ho7 | ho7
      · go_wp2_with fail
        go_at_call 41
        refine (open_n g d6 9 d7 HO6.out ho7 _ HD6.out).mono ?_
        rintro e x7 ⟨rfl, hd7, _, ho7b⟩
        have HB7 := Lib.hid (HB6.out.trans (ho7b.onb HG.out HB6.out.size))
        have HR7 := Lib.hid (HR6.out.only ho7b HAG.out)
        have HD7 := Lib.hid hd7
        clear hd7 ho7b HB6 HR6 HD6 ho7
        have HRG1 := Lib.hid (range_below HB7.out (Nat.le_refl _) HR1.out)
        go_upto_region 27 with (first | (with_reducible refine wpList_load_mid rfl 31 (.tmp 109) rfl (w.heap.size + 1) 4 rfl _ _ HRG1.out Try.underlying31 rfl (by kernel_rfl) ?_) | (go_at_call 22; refine (crash_disk g d7 HO7.out kp1 HKP1.out _ HD7.out).mono ?_; rintro e x8 ⟨rfl, hd8, ho8⟩))
        have HB8 := Lib.hid (HB7.out.trans (ho8.onb HG.out HB7.out.size))
        have HR8 := Lib.hid (HR7.out.only ho8 HAG.out)
        have HD8 := Lib.hid hd8
        clear hd8 ho8 HB7 HR7 HD7 HRG1
        generalize d7.crash kp1 = d8 at *
        generalize (openJ d8).2.2 = d9 at *
        go_wp2_with fail
        go_at_call 41
        refine (open_l w0.heap.size g d8 _ d9 HO8.out HG.out HUP.out _ HD8.out).mono ?_
        rintro e x9 ⟨rfl, v9, hj9, ho9⟩
        have HB9 := Lib.hid (HB8.out.trans (ho9.onb HG.out HB8.out.size))
        have HR9 := Lib.hid (HR8.out.only ho9 HAG.out)
        have HK9 := Lib.hid hj9
        clear hj9 ho9 HB8 HR8 HD8
        generalize x8.heap.size = K at *
        go_wp2_with fail
        go_at_call 46
        refine (text_l HK9.out).mono ?_
        rintro e x10 ⟨rfl, n10, rfl⟩
        have hb10 := drewN_below (Below.refl x9.heap.size x9) n10
        have HB10 := Lib.hid (drewN_below HB9.out n10)
        have HR10 := Lib.hid (HR9.out.below hb10)
        have HK10 := Lib.hid (HK9.out.below hb10)
        clear hb10 HB9 HR9 HK9
        generalize x9.drewN n10 = x10 at *
        go_wp2_with fail
        go_at_call 45
        refine (last_m HK10.out m HBM.out (by omega)).mono ?_
        rintro e x11 ⟨rfl, n11, rfl⟩
        have hb11 := drewN_below (Below.refl x10.heap.size x10) n11
        have HB11 := Lib.hid (drewN_below HB10.out n11)
        have HR11 := Lib.hid (HR10.out.below hb11)
        have HK11 := Lib.hid (HK10.out.below hb11)
        clear hb11 HB10 HR10 HK10
        generalize x10.drewN n11 = x11 at *
        go_upto_region 32 with (fail)
        obtain ⟨sv, hsl1, hsl2, hss⟩ := seg_slice HR11.out nn m hnm hm
        have HSS := Lib.hid hss
        have hbd := (Below.refl x11.heap.size x11).drew
        have HKD := Lib.hid (HK11.out.below hbd)
        have HRD := Lib.hid (HR11.out.below hbd)
        have HBD := Lib.hid HB11.out.drew
        clear hss hbd HB11 HR11 HK11
        have z4 : ¬ (m : Int) < (all.length : Int) := by omega
        have z5 : ¬ (all.length : Int) < (m : Int) := by omega
        have z6 : ¬ (m : Int) < (nn : Int) := by omega
        go_region_held (fun wx => Below x11.heap.size x11 wx) (first | assumption | exact (Below.refl _ _).drew | exact (Below.refl _ _).drew.trans hb13 | exact drewN_below ((Below.refl _ _).drew.trans hb13) n14) (first
          | (go_at_call 44; refine (records_l HKD.out hrn).mono ?_; rintro e x13 ⟨u13, rfl, hu13, hb13⟩)
          | (go_at_call 35; refine (same_same hu13 (HSS.out _ (HRD.out.below hb13)) hrm).mono ?_; rintro e x14 ⟨rfl, n14, rfl⟩))
        have HB14 := Lib.hid (drewN_below (HBD.out.trans (hb13.mono HBD.out.size)) n14)
        go_wp2
        go_ret
        exact ⟨rfl, HAL.out.trans (HB14.out.mono HAL.out.size)⟩
      · go_wp2_with fail
        go_at_call 41
        refine (open_l w0.heap.size g d6 _ d7 HO6.out HG.out ho7 _ HD6.out).mono ?_
        rintro e x7 ⟨rfl, v7, hj7, ho7b⟩
        have HB7 := Lib.hid (HB6.out.trans (ho7b.onb HG.out HB6.out.size))
        have HR7 := Lib.hid (HR6.out.only ho7b HAG.out)
        have HD7 := Lib.hid hj7.jour.hd
        have HP7 := Lib.hid hj7
        clear hj7 ho7b HB6 HR6 HD6 ho7
        generalize x6.heap.size = P at *
        have HRG1 := Lib.hid (range_below HB7.out (Nat.le_refl _) HR1.out)
        go_upto_region 27 with (first | (with_reducible refine wpList_load_mid rfl 31 (.tmp 109) rfl (w.heap.size + 1) 4 rfl _ _ HRG1.out Try.underlying31 rfl (by kernel_rfl) ?_) | (go_at_call 22; refine (crash_disk g d7 HO7.out kp1 HKP1.out _ HD7.out).mono ?_; rintro e x8 ⟨rfl, hd8, ho8⟩))
        have HB8 := Lib.hid (HB7.out.trans (ho8.onb HG.out HB7.out.size))
        have HR8 := Lib.hid (HR7.out.only ho8 HAG.out)
        have HD8 := Lib.hid hd8
        have HP8 := Lib.hid (HP7.out.turn ho8 hd8 HO8.out)
        clear HP7
        clear hd8 ho8 HB7 HR7 HD7 HRG1
        generalize d7.crash kp1 = d8 at *
        generalize (openJ d8).2.2 = d9 at *
        go_wp2_with fail
        go_at_call 41
        refine (open_l w0.heap.size g d8 _ d9 HO8.out HG.out HUP.out _ HD8.out).mono ?_
        rintro e x9 ⟨rfl, v9, hj9, ho9⟩
        have HB9 := Lib.hid (HB8.out.trans (ho9.onb HG.out HB8.out.size))
        have HR9 := Lib.hid (HR8.out.only ho9 HAG.out)
        have HK9 := Lib.hid hj9
        have HP9 := Lib.hid (HP8.out.turn ho9 hj9.jour.hd hj9.jour.ok)
        clear HP8
        clear hj9 ho9 HB8 HR8 HD8
        generalize x8.heap.size = K at *
        go_wp2_with fail
        go_at_call 46
        refine (text_l HK9.out).mono ?_
        rintro e x10 ⟨rfl, n10, rfl⟩
        have hb10 := drewN_below (Below.refl x9.heap.size x9) n10
        have HB10 := Lib.hid (drewN_below HB9.out n10)
        have HR10 := Lib.hid (HR9.out.below hb10)
        have HK10 := Lib.hid (HK9.out.below hb10)
        have HP10 := Lib.hid (HP9.out.below hb10)
        clear HP9
        clear hb10 HB9 HR9 HK9
        generalize x9.drewN n10 = x10 at *
        go_wp2_with fail
        go_at_call 45
        refine (last_m HK10.out m HBM.out (by omega)).mono ?_
        rintro e x11 ⟨rfl, n11, rfl⟩
        have hb11 := drewN_below (Below.refl x10.heap.size x10) n11
        have HB11 := Lib.hid (drewN_below HB10.out n11)
        have HR11 := Lib.hid (HR10.out.below hb11)
        have HK11 := Lib.hid (HK10.out.below hb11)
        have HP11 := Lib.hid (HP10.out.below hb11)
        clear HP10
        clear hb11 HB10 HR10 HK10
        generalize x10.drewN n11 = x11 at *
        go_upto_region 32 with (fail)
        obtain ⟨sv, hsl1, hsl2, hss⟩ := seg_slice HR11.out nn m hnm hm
        have HSS := Lib.hid hss
        have hbd := (Below.refl x11.heap.size x11).drew
        have HKD := Lib.hid (HK11.out.below hbd)
        have HRD := Lib.hid (HR11.out.below hbd)
        have HBD := Lib.hid HB11.out.drew
        have HPD := Lib.hid (HP11.out.below hbd)
        clear HP11
        clear hss hbd HB11 HR11 HK11
        have z4 : ¬ (m : Int) < (all.length : Int) := by omega
        have z5 : ¬ (all.length : Int) < (m : Int) := by omega
        have z6 : ¬ (m : Int) < (nn : Int) := by omega
        go_region_held (fun wx => Below x11.heap.size x11 wx) (first | assumption | exact (Below.refl _ _).drew | exact (Below.refl _ _).drew.trans hb13 | exact drewN_below ((Below.refl _ _).drew.trans hb13) n14) (first
          | (go_at_call 44; refine (records_l HKD.out hrn).mono ?_; rintro e x13 ⟨u13, rfl, hu13, hb13⟩)
          | (go_at_call 35; refine (same_same hu13 (HSS.out _ (HRD.out.below hb13)) hrm).mono ?_; rintro e x14 ⟨rfl, n14, rfl⟩))
        have HB14 := Lib.hid (drewN_below (HBD.out.trans (hb13.mono HBD.out.size)) n14)
        have HK14 := Lib.hid ((HKD.out.below hb13).below (drewN_below (Below.refl _ _) n14))
        have HP14 := Lib.hid ((HPD.out.below hb13).below (drewN_below (Below.refl _ _) n14))
        clear hb13 hu13 HBD HKD HPD HRD hsl1 hsl2
        generalize x13.drewN n14 = x14 at *
        go_wp2_with fail
        go_at_call 45
        refine (last_m HP14.out m HBM.out (by omega)).mono ?_
        rintro e x15 ⟨rfl, n15, rfl⟩
        have hb15 := drewN_below (Below.refl x14.heap.size x14) n15
        have HB15 := Lib.hid (drewN_below HB14.out n15)
        have HK15 := Lib.hid (HK14.out.below hb15)
        have HP15 := Lib.hid (HP14.out.below hb15)
        clear hb15 HB14 HK14 HP14
        generalize x14.drewN n15 = x15 at *
        go_wp2_with fail
        go_at_call 44
        refine (records_l HP15.out hrn).mono ?_
        rintro e x16 ⟨u16, rfl, hu16, hb16⟩
        have HB16 := Lib.hid (HB15.out.trans (hb16.mono HB15.out.size))
        have HK16 := Lib.hid (HK15.out.below hb16)
        have HU16 := Lib.hid hu16
        clear hu16 hb16 HB15 HK15 HP15
        go_wp2_with fail
        go_at_call 44
        refine (records_l HK16.out hrn).mono ?_
        rintro e x17 ⟨u17, rfl, hu17, hb17⟩
        have HB17 := Lib.hid (HB16.out.trans (hb17.mono HB16.out.size))
        have HU17 := Lib.hid hu17
        have HU16b := Lib.hid (slStr_below HU16.out hb17)
        clear hu17 hb17 HB16 HK16 HU16
        go_wp2_with fail
        go_at_call 35
        refine (same_same HU16b.out HU17.out hrm).mono ?_
        rintro e x18 ⟨rfl, n18, rfl⟩
        go_wp2
        go_ret
        exact ⟨rfl, HAL.out.trans ((drewN_below HB17.out n18).mono HAL.out.size)⟩
set_option maxRecDepth 100000 in
theorem lifted (os : Os) (started : os.Started) (H : Type) (enc : TypeId × Value → H) :
    ReturnsInHanded {} Try.checked os 14 .any (Rows.journalTwiceSpec.pre6 enc Try.prog Try.f14 Rows.journalTwiceRow.domain false) (Rows.journalTwiceSpec.post enc Try.prog Try.f14 false true false false) := by
  refine returnsInHanded_of_change_sized (C := Try.checked) own_knob started (by kernel_rfl) Try.func14
    (ChangeSpec.witness6 (enc := enc) (C := Try.checked) false ⟨#[], #[.slice none 0 0, .agg #[.int .i64 0, .int .i64 0], .agg #[.int .i64 0, .int .i64 0, .int .i64 0, .int .i64 0, .int .i64 0, .int .i64 0, .int .i64 0, .int .i64 0]], []⟩ 8 (by kernel_rfl) (by kernel_rfl) (by kernel_rfl) (by kernel_rfl)) ?_
  intro W base args ds gs before hval0 hW hcnd hsz _
  have hval : ∀ (j : Nat) t v, Try.f14.params[j]? = some t → args[j]? = some v → Value.okWide Try.prog W .any base t v := hval0
  have hww : ∀ (j : Nat) (t : TypeId) (d : DataW H), Try.f14.params.toList[j]? = some t → ds[j]? = some d → ∀ n ∈ d.weights Try.prog t, n ≤ reachBytes := fun j t d h1 h2 => weights_of hsz j h1 h2
  have hW' := hW
  obtain ⟨p, q, hA0, hV, rfl, hfz, hnd⟩ := hW
  have hA : DataW.TrodAll enc Try.prog W 0 (fun _ => true) true Try.f14.params.toList args.toList ds p := hA0
  rw [Try.params14] at hA hval hww
  obtain ⟨v0, vs0, d0, ds0, p0, q0, hargs, rfl, rfl, h0, r0⟩ := trodAll_cons hA
  obtain ⟨v1, vs1, d1, ds1, p1, q1, rfl, rfl, rfl, h1, r1⟩ := trodAll_cons r0
  obtain ⟨v2, vs2, d2, ds2, p2, q2, rfl, rfl, rfl, h2, r2⟩ := trodAll_cons r1
  obtain ⟨rfl, rfl, rfl⟩ := trodAll_nil r2
  obtain rfl : args = #[v0, v1, v2] := by cases args; simp_all
  obtain ⟨L0, hs0, hn0, hx0⟩ := open_jops (hval 0 65 v0 rfl rfl) h0 (hww 0 65 d0 rfl rfl)
  obtain ⟨x1, y1, rfl, hf1, hg1⟩ := open_two (hval 1 85 v1 rfl rfl) h1 (hww 1 85 d1 rfl rfl)
  obtain ⟨kp2, kq2, rfl, hk2, hl2⟩ := open_two4 (hval 2 86 v2 rfl rfl) h2 (hww 2 86 d2 rfl rfl)
  clear hA0 hval0
  refine (walk v0 L0 x1 y1 kp2 kq2 W hs0 hn0 hx0 hf1 hg1 hk2 hl2).mono fun e W' ⟨he, hb⟩ => ?_
  subst he
  exact ⟨_, rfl, law_post hW' (by kernel_rfl) rfl rfl (by
    intro t ht
    rw [Try.params14] at ht
    simp at ht
    rcases ht with rfl | rfl | rfl
    all_goals exact ⟨by kernel_rfl, of_decide_eq_true (by kernel_rfl)⟩) hb⟩
theorem over : Rows.journalTwiceRow.holds Try.pinned (OpenSpec.ofChange Rows.journalTwiceSpec) :=
  OpenClaim.holds_of_wide 14 Try.f14 rfl rfl rfl rfl rfl rfl rfl ⟨rfl, rfl, rfl, rfl, rfl⟩ rfl rfl rfl rfl rfl (by kernel_rfl) Try.func14 (by kernel_rfl)
    (of_decide_eq_true (by kernel_rfl)) (by unfold Func.isWrapper; first | (rw [if_pos (by decide +kernel)]; kernel_rfl) | (rw [if_neg (by decide +kernel)]; exact ⟨rfl, rfl⟩))
    (fun os started H enc _ => lifted os started H enc)
theorem proved : Rows.JournalTwiceSaid := over
#print axioms proved
end Go.Proofs.Ytdphnhgogokidaa.journalTwice
