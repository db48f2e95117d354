/- JournalOnce: for every list of operations and every text the law returns true, and the list reads afterwards as it read before. No condition. -/
import Derived.Test.YtdphnhgogokidaaJourV
namespace Go.Proofs.Ytdphnhgogokidaa.journalOnce
open Go.ChangeShapes Go.WideShapes Go.ChangeAt Go.RowKit
open Go.ChangeMaps (open_string shut_string)

set_option maxRecDepth 100000 in
set_option maxHeartbeats 8000000 in
theorem core (v : Value) (L : List JOp) (text : List UInt8) (w : World) (hs : SlJ w v L) (hn : L.length ≤ 140737488355328) (hx : ∀ x ∈ L, x.Ok) (ht : text.length ≤ 140737488355328) :
    Calls Try.prog 11 #[v, .string ⟨text.toArray⟩] w fun e w' => e = .returned (.bool true) ∧ Below w.heap.size w w' := by
  have hti : (text.length : Int) ≤ 140737488355328 := by omega
  have HS := Lib.hid hs
  have hz1 := szo_eq L 0
  have hz2 := szo_le L 0
  have HSZ := Lib.hid (fun wx h => size06_any v L wx h hn hx)
  obtain ⟨a, c, rfl, _⟩ := hs
  have HX := Lib.hid hx
  clear hx
  by_cases hlen : 30 < L.length
  · have hli : (30 : Int) < L.length := by omega
    clear HSZ
    go_enter Try.func11, Try.ntmps11
    go_wp2_with (go_at_call 39; refine (awake06_any _).mono ?_; rintro e w1 ⟨rfl, hb1⟩)
    go_ret
    exact ⟨rfl, hb1⟩
  have hli : ¬ (30 : Int) < L.length := by omega
  have hzb : (szo L 0 : Int) ≤ 4222124650659870 := by
    have h1 := jsz_bound L 140737488355328 (fun x hx => (HX.out x hx).b)
    have h2 : L.length * (140737488355328 + 1) ≤ 30 * (140737488355328 + 1) := Nat.mul_le_mul_right _ (by omega)
    omega
  by_cases hbig : 4000 < szo L 0 + text.length
  · have hbi : (4000 : Int) < (szo L 0 : Int) + text.length := by omega
    generalize szo L 0 = Z at *
    clear hz1 hz2
    go_enter Try.func11, Try.ntmps11
    go_wp2_with (first | (go_at_call 39; refine (awake06_any _).mono ?_; rintro e w1 ⟨rfl, hb1⟩; replace hb1 := Lib.hid hb1) | (go_at_call 40; refine (HSZ.out _ (HS.out.below hb1.out (Nat.le_refl _))).mono ?_; rintro e w2 ⟨rfl, rfl⟩))
    go_ret
    exact ⟨rfl, hb1.out⟩
  have hbi : ¬ (4000 : Int) < (szo L 0 : Int) + text.length := by omega
  have HJS := Lib.hid (show jsz L ≤ 4000 by have := hz1 (by omega); omega)
  have ht4 : (text.length : Int) ≤ 4000 := by omega
  generalize szo L 0 = Z at *
  clear hz1 hz2 hbig hti hzb
  have N0 := Lib.hid (new_disk 1048576 (by omega) (by omega))
  have HF0 := Lib.hid (fine_new (R := 1048576) (by omega) (by omega) 4000)
  generalize Dk.new 1048576 = D0 at *
  go_enter Try.func11, Try.ntmps11
  go_wp2_with (first | (go_at_call 39; refine (awake06_any _).mono ?_; rintro e w1 ⟨rfl, hb1⟩; replace hb1 := Lib.hid hb1) | (go_at_call 40; refine (HSZ.out _ (HS.out.below hb1.out (Nat.le_refl _))).mono ?_; rintro e w2 ⟨rfl, rfl⟩))
  go_at_call 16
  refine (N0.out _).mono ?_
  rintro e w2 ⟨rfl, hd2, hb2, hl2⟩
  have HB2 := Lib.hid (hb1.out.trans (hb2.mono hb1.out.size))
  have HG := Lib.hid hb1.out.size
  have HD2 := Lib.hid hd2
  clear hd2 hb2 hl2 hb1
  generalize w1.heap.size = g at *
  go_wp2_with fail
  go_at_call 41
  refine (open_l w.heap.size g D0 _ D0 HF0.out.ok HG.out HF0.out.opened _ HD2.out).mono ?_
  rintro e w3 ⟨rfl, v3, hj3, ho3⟩
  have HB3 := Lib.hid (HB2.out.trans (ho3.onb HG.out HB2.out.size))
  have HJ3 := Lib.hid hj3
  clear hj3 ho3 HB2 HD2
  generalize w2.heap.size = J at *
  go_wp2_with fail
  go_loopw [9, 50] (fun u i wr => ∃ (k : Nat) (v : Value) (j : Jn) (d : Dk), k ≤ L.length ∧ i = .int .i64 k ∧ Fine 1048576 4000 j d (jsz (L.take k) + 15 * k) k ∧ JL w.heap.size wr J g v j d ∧ Row w.heap.size wr u j.recs ∧ Apart u v g J ∧ Below w.heap.size w wr) (fun _ i _ => L.length - (intOf i).toNat)
  case atStart => exact ⟨0, v3, _, D0, by omega, rfl, HF0.out, HJ3.out, row_nil _ _, apart_nil _ _ _, HB3.out⟩
  case round =>
    obtain ⟨k, v, j, d, hk, rfl, hf, hj, hr, ha, hb⟩ := hrel
    clear HJ3 HB3 HF0
    obtain ⟨ua, uc, rfl⟩ := hr.form
    have HF := Lib.hid hf
    have HJ := Lib.hid hj
    have HR := Lib.hid hr
    have HA := Lib.hid ha
    have HB := Lib.hid hb
    clear hf hj hr ha hb
    by_cases hlt : k < L.length
    · have hki : (k : Int) < L.length := by omega
      have hsl := HS.out.below HB.out (Nat.le_refl _)
      obtain ⟨_, _, he, hc0⟩ := hsl
      simp only [Value.slice.injEq] at he
      obtain ⟨rfl, _, rfl⟩ := he
      obtain ⟨b, o, rfl, hc⟩ := hc0 (by intro h; subst h; simp at hlt)
      have hrg := hc k L[k] (by simp [hlt])
      clear hc hc0
      have hxb := jsz_in (List.getElem_mem hlt)
      have hT := jsz_take L hlt
      have hT2 := jsz_le L k
      have HT := Lib.hid (And.intro hT hT2)
      clear hT hT2
      generalize L[k] = x at *
      have HRG := Lib.hid hrg
      clear hrg
      have hbx := opbox_below wr x
      have HB1 := Lib.hid (HB.out.trans (hbx.mono HB.out.size))
      have HJ1 := Lib.hid (HJ.out.below hbx)
      have HR1 := Lib.hid (HR.out.below hbx)
      have hck := opbox_k wr x
      have hcb := opbox_b wr x
      have hbl : (x.b.length : Int) ≤ 140737488355328 := by have := HJS.out; omega
      have hb4 := HJS.out
      have HXB := Lib.hid (opbox_free x HJ.out)
      clear hbx HJ HR HB
      by_cases hk1 : x.k = 1
      · have hk2 : (x.k == 1) = true := by simp [hk1]
        obtain ⟨d', e1, HF1⟩ := HF.out.snap2 x.b (by omega) (by omega) (by have := HT.out; omega)
        have E1 := Lib.hid e1
        have HFN := Lib.hid HF1
        have hsm := HF.out.small.1
        clear e1 HF1 hk1 HF
        go_upto_region 12 with (fail)
        go_step
        go_step
        go_step
        go_step
        refine wpList_load_mid rfl 71 (.tmp 52) rfl b (o + k * 7) rfl _ _ HRG.out Try.underlying71 rfl (by kernel_rfl) ?_
        go_step
        go_step
        go_step
        refine wpList_store_mid rfl 71 (.tmp 11) (.tmp 53) rfl wr.heap.size 0 x.cells rfl rfl (opbox_there wr) (by kernel_rfl) (opcells_one x) ?_
        change wpList _ _ _ _ _ (opbox wr x)
        generalize opbox wr x = wb at *
        generalize wr.heap.size = xb at *
        go_wp2_with fail
        go_at_call 42
        refine (snap_e HJ1.out x.b E1.out hbl (by omega)).mono ?_
        rintro e w4 ⟨rfl, v4, hj4, hk4, hv4⟩
        have HB4 := Lib.hid (HB1.out.trans (HJ1.out.kpb hk4 HB1.out.size))
        have HJ4 := Lib.hid hj4
        clear hj4 hk4 hv4 HB1 HJ1 HR1 hck hcb
        go_wp2
        go_roundw
        case rel => exact ⟨k + 1, v4, _, d', by omega, by go_num, (show jsz (L.take k) + 15 * k + (x.b.length + 16) = jsz (L.take (k + 1)) + 15 * (k + 1) by have := HT.out; omega) ▸ HFN.out, HJ4.out, row_nil _ _, apart_nil _ _ _, HB4.out⟩
        case measure => simp [intOf]; omega
      · have hk2 : (x.k == 1) = false := by simpa using hk1
        obtain ⟨d', e1, HF1⟩ := HF.out.app2 x.b (by omega) (by have := HT.out; omega) (by omega)
        have E1 := Lib.hid e1
        have HFN := Lib.hid HF1
        have hsm := HF.out.small.1
        clear e1 HF1 hk1 HF
        go_upto_region 12 with (fail)
        go_step
        go_step
        go_step
        go_step
        refine wpList_load_mid rfl 71 (.tmp 52) rfl b (o + k * 7) rfl _ _ HRG.out Try.underlying71 rfl (by kernel_rfl) ?_
        go_step
        go_step
        go_step
        refine wpList_store_mid rfl 71 (.tmp 11) (.tmp 53) rfl wr.heap.size 0 x.cells rfl rfl (opbox_there wr) (by kernel_rfl) (opcells_one x) ?_
        change wpList _ _ _ _ _ (opbox wr x)
        generalize opbox wr x = wb at *
        generalize wr.heap.size = xb at *
        go_wp2_with fail
        go_at_call 43
        refine (append_e HJ1.out x.b E1.out hbl (by omega) (by omega)).mono ?_
        rintro e w4 ⟨rfl, v4, hj4, hk4, hv4⟩
        have HB4 := Lib.hid (HB1.out.trans (HJ1.out.kpb hk4 HB1.out.size))
        have HJ4 := Lib.hid hj4
        have HR4 := Lib.hid (HR1.out.kp hk4 HA.out)
        have HA4 := Lib.hid (HA.out.kp HR1.out hv4)
        have hcb4 := hcb
        have hka := HJ1.out
        have hcx : w4.cell? ⟨xb, 2, none⟩ = some (.string ⟨x.b.toArray⟩) := by
          rw [World.cell?_of_block (w := wb) (hk4.block xb HXB.out.1 HXB.out.2.1 HXB.out.2.2.1 HXB.out.2.2.2)]
          exact hcb
        clear hj4 hk4 hv4 HB1 HJ1 HR1 hck hcb hcb4 hka HA
        obtain ⟨i0, hi, hz0, hz1, hz2⟩ := info_parts infoStr
        have hal := alloc_below w4 (.cells #[.string ⟨x.b.toArray⟩] 9)
        have HJ5 := Lib.hid (HJ4.out.below hal)
        have HB5 := Lib.hid (HB4.out.trans (hal.mono HB4.out.size))
        have HRA := Lib.hid (show (w4.alloc (.cells #[.string ⟨x.b.toArray⟩] 9)).ownsRow w.heap.size 9 1 (.slice ua j.recs.length uc) j.recs.length (strs j.recs) from HR4.out.alloc _)
        have HSZ5 := Lib.hid (show (w4.alloc (.cells #[.string ⟨x.b.toArray⟩] 9)).heap.size = w4.heap.size + 1 by simp)
        have h4s := HB4.out.size
        clear hal HJ4 HB4 HR4
        go_wp2_with (at_builtin; refine wpList_append_lies _ rfl (.tmp 67) (.tmp 70) 50 rfl w.heap.size 9 i0 (.string ByteArray.empty) 1 16 Try.underlying50 hi hz0 hz1 hz2 rfl (by decide) _ _ _ rfl HRA.out ⟨w4.heap.size, 0, none⟩ 1 1 [.string ⟨x.b.toArray⟩] rfl rfl ?c1 ?c2 (by decide) ?c3 ?c4 ?c5 _ rfl ?_)
        case c1 => exact cell_one_new _ _ _
        case c2 => intro u hu; simp at hu; subst hu; rfl
        case c3 => unfold maxLen; omega
        case c4 => omega
        case c5 => rw [HSZ5.out]; omega
        intro g' cap' w5 hown' hgrow hat _
        have HJ6 := Lib.hid (HJ5.out.grown hgrow HA4.out)
        have HR6 := Lib.hid (Row.snoc hown')
        have HA6 := Lib.hid (HA4.out.appended (n := j.recs.length + 1) (c := cap') HJ5.out (by rw [HSZ5.out]; exact hat))
        have HB6 := Lib.hid (HB5.out.trans (Row.grownBelow (show Row w.heap.size _ _ j.recs from HRA.out) hgrow (Nat.le_refl _) HB5.out.size))
        clear hown' hgrow hat HJ5 HRA HA4 HB5 hi hz0 hz1 hz2
        go_wp2
        go_roundw
        case rel => exact ⟨k + 1, v4, _, d', by omega, by go_num, (show jsz (L.take k) + 15 * k + (x.b.length + 16) = jsz (L.take (k + 1)) + 15 * (k + 1) by have := HT.out; omega) ▸ HFN.out, HJ6.out, HR6.out, HA6.out, HB6.out⟩
        case measure => simp [intOf]; omega
    · obtain rfl : k = L.length := by omega
      have hT := HJS.out
      rw [List.take_length] at HF
      have hsm := HF.out.small.1
      obtain ⟨d', e1, HF1⟩ := HF.out.snap2 text (by omega) (by omega) (by omega)
      have E1 := Lib.hid e1
      have HFN := Lib.hid HF1
      have hrl : (j.recs.length : Int) ≤ 30 := by omega
      have hbl : (j.base : Int) + j.recs.length ≤ 30 := by omega
      have hrn : j.recs.length ≤ 1000000 := by omega
      have hrm : j.recs.length ≤ 9223372036854775807 := by omega
      clear e1 HF1 hsm
      go_wp2_with fail
      go_at_call 41
      refine (open_l w.heap.size g d j d HF.out.ok HG.out HF.out.opened _ HJ.out.jour.hd).mono ?_
      rintro e w4 ⟨rfl, v4, hj4, ho4⟩
      have HB4 := Lib.hid (HB.out.trans (ho4.onb HG.out HB.out.size))
      have HK4 := Lib.hid hj4
      have HJ4 := Lib.hid (HJ.out.turn ho4 hj4.jour.hd HF.out.ok)
      have HR4 := Lib.hid (HR.out.only ho4 (fun k hk => (HA.out k hk).1))
      clear hj4 ho4 HB HJ HR HA
      generalize wr.heap.size = K at *
      go_wp2_with fail
      go_at_call 44
      refine (records_l HK4.out hrn).mono ?_
      rintro e w5 ⟨u5, rfl, hu5, hb5⟩
      have HB5 := Lib.hid (HB4.out.trans (hb5.mono HB4.out.size))
      have HK5 := Lib.hid (HK4.out.below hb5)
      have HJ5 := Lib.hid (HJ4.out.below hb5)
      have HR5 := Lib.hid (HR4.out.below hb5)
      have HU5 := Lib.hid hu5
      clear hu5 hb5 HB4 HK4 HJ4 HR4
      go_wp2_with fail
      go_at_call 35
      refine (same_same HU5.out HR5.out.sl hrm).mono ?_
      rintro e w6 ⟨rfl, n6, rfl⟩
      have hb6 := drewN_below (Below.refl w5.heap.size w5) n6
      have HB6 := Lib.hid (drewN_below HB5.out n6)
      have HK6 := Lib.hid (HK5.out.below hb6)
      have HJ6 := Lib.hid (HJ5.out.below hb6)
      clear hb6 HB5 HK5 HJ5 HR5 HU5
      generalize w5.drewN n6 = w6 at *
      go_wp2_with fail
      go_at_call 45
      refine (last_l HK6.out (by omega)).mono ?_
      rintro e w7 ⟨rfl, n7, rfl⟩
      have hb7 := drewN_below (Below.refl w6.heap.size w6) n7
      have HB7 := Lib.hid (drewN_below HB6.out n7)
      have HK7 := Lib.hid (HK6.out.below hb7)
      have HJ7 := Lib.hid (HJ6.out.below hb7)
      clear hb7 HB6 HK6 HJ6
      generalize w6.drewN n7 = w7 at *
      go_wp2_with fail
      go_at_call 45
      refine (last_l HJ7.out (by omega)).mono ?_
      rintro e w8 ⟨rfl, n8, rfl⟩
      have hb8 := drewN_below (Below.refl w7.heap.size w7) n8
      have HB8 := Lib.hid (drewN_below HB7.out n8)
      have HK8 := Lib.hid (HK7.out.below hb8)
      clear hb8 HB7 HK7 HJ7
      generalize w7.drewN n8 = w8 at *
      go_wp2_with fail
      go_at_call 45
      refine (last_l HK8.out (by omega)).mono ?_
      rintro e w9 ⟨rfl, n9, rfl⟩
      have hb9 := drewN_below (Below.refl w8.heap.size w8) n9
      have HB9 := Lib.hid (drewN_below HB8.out n9)
      have HK9 := Lib.hid (HK8.out.below hb9)
      clear hb9 HB8 HK8
      generalize w8.drewN n9 = w9 at *
      go_wp2_with fail
      go_at_call 42
      refine (snap_e HK9.out text E1.out (by omega) (by omega)).mono ?_
      rintro e w10 ⟨rfl, v10, hj10, hk10, _⟩
      have HB10 := Lib.hid (HB9.out.trans (HK9.out.kpb hk10 HB9.out.size))
      have HK10 := Lib.hid hj10
      clear hj10 hk10 HB9 HK9
      go_wp2_with fail
      go_at_call 41
      refine (open_l w.heap.size g d' _ d' HFN.out.ok HG.out HFN.out.opened _ HK10.out.jour.hd).mono ?_
      rintro e w11 ⟨rfl, v11, hj11, ho11⟩
      have HB11 := Lib.hid (HB10.out.trans (ho11.onb HG.out HB10.out.size))
      have HM11 := Lib.hid hj11
      clear hj11 ho11 HB10 HK10
      generalize w10.heap.size = M at *
      go_wp2_with fail
      go_at_call 46
      refine (text_l HM11.out).mono ?_
      rintro e w12 ⟨rfl, n12, rfl⟩
      have hb12 := drewN_below (Below.refl w11.heap.size w11) n12
      have HB12 := Lib.hid (drewN_below HB11.out n12)
      have HM12 := Lib.hid (HM11.out.below hb12)
      clear hb12 HB11 HM11
      generalize w11.drewN n12 = w12 at *
      go_wp2_with fail
      go_at_call 45
      refine (last_l HM12.out (by show ((j.base + j.recs.length : Nat) : Int) + (0 : Nat) ≤ _; omega)).mono ?_
      rintro e w13 ⟨rfl, n13, rfl⟩
      have hb13 := drewN_below (Below.refl w12.heap.size w12) n13
      have HB13 := Lib.hid (drewN_below HB12.out n13)
      have HM13 := Lib.hid (HM12.out.below hb13)
      clear hb13 HB12 HM12
      generalize w12.drewN n13 = w13 at *
      go_wp2_with fail
      go_at_call 44
      refine (records_l HM13.out (Nat.zero_le _)).mono ?_
      rintro e w14 ⟨u14, rfl, hu14, hb14⟩
      obtain ⟨ua14, uc14, rfl, _⟩ := hu14
      have HB14 := Lib.hid (HB13.out.trans (hb14.mono HB13.out.size))
      clear hb14 HB13 HM13
      go_wp2
      go_ret
      exact ⟨rfl, HB14.out⟩
theorem walk (v : Value) (L : List JOp) (text : ByteArray) (w : World) (hs : SlJ w v L) (hn : L.length ≤ 140737488355328) (hx : ∀ x ∈ L, x.Ok) (ht : text.size ≤ 140737488355328) :
    Calls Try.prog 11 #[v, .string text] w fun e w' => e = .returned (.bool true) ∧ Below w.heap.size w w' := by
  obtain ⟨⟨l⟩⟩ := text
  exact core v L l w hs hn hx ht
set_option maxRecDepth 100000 in
theorem lifted (os : Os) (started : os.Started) (H : Type) (enc : TypeId × Value → H) :
    ReturnsInHanded {} Try.checked os 11 .any (Rows.journalOnceSpec.pre6 enc Try.prog Try.f11 Rows.journalOnceRow.domain false) (Rows.journalOnceSpec.post enc Try.prog Try.f11 false true false false) := by
  refine returnsInHanded_of_change_sized (C := Try.checked) own_knob started (by kernel_rfl) Try.func11
    (ChangeSpec.witness6 (enc := enc) (C := Try.checked) false ⟨#[], #[.slice none 0 0, .string ByteArray.empty], []⟩ 8 (by kernel_rfl) (by kernel_rfl) (by kernel_rfl) (by kernel_rfl)) ?_
  intro W base args ds gs before hval0 hW hcnd hsz _
  have hval : ∀ (j : Nat) t v, Try.f11.params[j]? = some t → args[j]? = some v → Value.okWide Try.prog W .any base t v := hval0
  have hww : ∀ (j : Nat) (t : TypeId) (d : DataW H), Try.f11.params.toList[j]? = some t → ds[j]? = some d → ∀ n ∈ d.weights Try.prog t, n ≤ reachBytes := fun j t d h1 h2 => weights_of hsz j h1 h2
  have hW' := hW
  obtain ⟨p, q, hA0, hV, rfl, hfz, hnd⟩ := hW
  have hA : DataW.TrodAll enc Try.prog W 0 (fun _ => true) true Try.f11.params.toList args.toList ds p := hA0
  rw [Try.params11] at hA hval hww
  obtain ⟨v0, vs0, d0, ds0, p0, q0, hargs, rfl, rfl, h0, r0⟩ := trodAll_cons hA
  obtain ⟨v1, vs1, d1, ds1, p1, q1, rfl, rfl, rfl, h1, r1⟩ := trodAll_cons r0
  obtain ⟨rfl, rfl, rfl⟩ := trodAll_nil r1
  obtain rfl : args = #[v0, v1] := by cases args; simp_all
  obtain ⟨L0, hs0, hn0, hx0⟩ := open_jops (hval 0 65 v0 rfl rfl) h0 (hww 0 65 d0 rfl rfl)
  have hr1 := hww 1 9 d1 rfl rfl
  obtain ⟨a1, rfl, hd1, _, _⟩ := open_string Try.underlying9 (hval 1 9 v1 rfl rfl) h1
  have hl1 : a1.size ≤ reachBytes := string_reach hd1 hr1
  clear hA0 hval0
  refine (walk v0 L0 a1 W hs0 hn0 hx0 (Nat.le_trans hl1 (by decide +kernel))).mono fun e W' ⟨he, hb⟩ => ?_
  subst he
  exact ⟨_, rfl, law_post hW' (by kernel_rfl) rfl rfl (by
    intro t ht
    rw [Try.params11] at ht
    simp at ht
    rcases ht with rfl | rfl
    all_goals exact ⟨by kernel_rfl, of_decide_eq_true (by kernel_rfl)⟩) hb⟩
theorem over : Rows.journalOnceRow.holds Try.pinned (OpenSpec.ofChange Rows.journalOnceSpec) :=
  OpenClaim.holds_of_wide 11 Try.f11 rfl rfl rfl rfl rfl rfl rfl ⟨rfl, rfl, rfl, rfl, rfl⟩ rfl rfl rfl rfl rfl (by kernel_rfl) Try.func11 (by kernel_rfl)
    (of_decide_eq_true (by kernel_rfl)) (by unfold Func.isWrapper; first | (rw [if_pos (by decide +kernel)]; kernel_rfl) | (rw [if_neg (by decide +kernel)]; exact ⟨rfl, rfl⟩))
    (fun os started H enc _ => lifted os started H enc)
theorem proved : Rows.JournalOnceSaid := over
#print axioms proved
end Go.Proofs.Ytdphnhgogokidaa.journalOnce
