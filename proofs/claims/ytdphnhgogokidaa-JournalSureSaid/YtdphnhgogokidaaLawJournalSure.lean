/- JournalSure: for every list of operations, every fuse and every four numbers the law returns true, and the list reads afterwards as it read before. No condition. -/
import Derived.Test.YtdphnhgogokidaaJourW
namespace Go.Proofs.Ytdphnhgogokidaa.journalSure
open Go.ChangeShapes Go.WideShapes Go.ChangeAt Go.RowKit
open Go.ChangeMaps (open_string shut_string)

theorem range_of_row {w : World} {g : Nat} {cs : Array Value} {t : TypeId} (h : w.heap[g]? = some (.cells cs t (0, 0))) (o n : Nat) (sub : List Value) (hs : (cs.toList.drop o).take n = sub) : w.rangeAt g o sub := by
  intro i u hu
  rw [cell_of_row _ _ _ _ _ _ h]
  subst hs
  rw [List.getElem?_take] at hu
  split at hu
  · rw [List.getElem?_drop] at hu
    simpa using hu
  · cases hu
/-- what a crash leaves is told, and its text was given. -/
def Tells (B : Nat) (wx : World) (d : Dk) (all : List (List UInt8)) (S g : Nat) (F : Nat → Value) (kept : Nat → Int) : Prop :=
  ∃ n0 n m t tv ts, Rest (d.crash kept) all n0 n m t ∧ S ≤ m ∧ F n = tv ∧ Row B wx tv ts ∧ t ∈ ts ∧ ∀ k, tv.ownBlock = some k → k ≠ g
theorem mem_take_succ {L : List (List UInt8)} {i : Nat} {t : List UInt8} (h : i < L.length) : decide (t ∈ L.take (i + 1)) = (decide (t ∈ L.take i) || decide (L[i] = t)) := by
  rw [List.take_succ_eq_append_getElem h]
  have e : t ∈ L.take i ++ [L[i]] ↔ t ∈ L.take i ∨ L[i] = t := by rw [List.mem_append, List.mem_singleton, eq_comm (a := t)]
  rw [decide_eq_decide.2 e]
  exact Bool.decide_or _ _
set_option maxRecDepth 100000 in
set_option maxHeartbeats 16000000 in
theorem walk (v : Value) (L : List JOp) (f0 : Int) (kp0 : Nat → Int) (w : World) (hs : SlJ w v L) (hn : L.length ≤ 140737488355328) (hx : ∀ x ∈ L, x.Ok) (hf0 : -9223372036854775808 ≤ f0 ∧ f0 ≤ 9223372036854775807)
    (hk0 : ∀ i, -9223372036854775808 ≤ kp0 i ∧ kp0 i ≤ 9223372036854775807) :
    Calls Try.prog 13 #[v, .int .i64 f0, .agg (kept4 kp0)] w fun e w' => e = .returned (.bool true) ∧ Below w.heap.size w w' := by
  have hmm := @run_makeMap Try.prog
  have hz1 := szo_eq L 0
  have hz2 := szo_le L 0
  have HSZ := Lib.hid (fun wx h => size06_any v L wx h hn hx)
  have HX := Lib.hid hx
  have HF0 := Lib.hid hf0
  have HKP0 := Lib.hid hk0
  clear hx hf0 hk0
  have hal := alloc_below w (.cells (kept4 kp0) 31 (0, 0))
  have hb1 := (heap_alloc_new w (.cells (kept4 kp0) 31 (0, 0)))
  have HB1 := Lib.hid hb1
  have HAL := Lib.hid hal
  have HS := Lib.hid (hs.below hal (Nat.le_refl _))
  have HS2 := Lib.hid (show (w.alloc (.cells (kept4 kp0) 31 (0, 0))).heap.size = w.heap.size + 1 by simp)
  obtain ⟨a, c, rfl, _⟩ := hs
  clear hal hb1
  generalize hK4 : kept4 kp0 = K4 at *
  have HK4 := Lib.hid hK4
  clear hK4
  go_enter Try.func13, Try.ntmps13
  go_upto_region 1 with (fail)
  generalize w.alloc (.cells K4 31 (0, 0)) = w0 at *
  have HR0 := Lib.hid (show w0.rangeAt w.heap.size 0 (kept4 kp0).toList from range_of_row HB1.out 0 4 _ (by rw [← HK4.out]; rfl))
  clear HB1
  by_cases hlen : 30 < L.length
  · have hli : (30 : Int) < L.length := by omega
    clear HSZ
    go_wp2_with (go_at_call 39; refine (awake06_any _).mono ?_; rintro e w1 ⟨rfl, hb1⟩)
    go_ret
    exact ⟨rfl, HAL.out.trans (hb1.mono HAL.out.size)⟩
  have hli : ¬ (30 : Int) < L.length := by omega
  have hzb : (szo L 0 : Int) ≤ 4222124650659870 := by
    have h1 := jsz_bound L 140737488355328 (fun x hx => (HX.out x hx).b)
    have h2 : L.length * (140737488355328 + 1) ≤ 30 * (140737488355328 + 1) := Nat.mul_le_mul_right _ (by omega)
    omega
  by_cases hbig : 4000 < szo L 0
  · have hbi : (4000 : Int) < (szo L 0 : Int) := by omega
    generalize szo L 0 = Z at *
    clear hz1 hz2
    go_wp2_with (first | (go_at_call 39; refine (awake06_any _).mono ?_; rintro e w1 ⟨rfl, hb1⟩; replace hb1 := Lib.hid hb1) | (go_at_call 40; refine (HSZ.out _ (HS.out.below hb1.out (Nat.le_refl _))).mono ?_; rintro e w2 ⟨rfl, rfl⟩))
    go_ret
    exact ⟨rfl, HAL.out.trans (hb1.out.mono HAL.out.size)⟩
  have hbi : ¬ (4000 : Int) < (szo L 0 : Int) := by omega
  have HJS := Lib.hid (show jsz L ≤ 4000 by have := hz1 (by omega); omega)
  generalize szo L 0 = Z at *
  clear hz1 hz2 hbig hzb
  have N0 := Lib.hid (new_disk 1048576 (by omega) (by omega))
  have HOK0 := Lib.hid (new_ok (room := 1048576) (by omega) (by omega))
  have HLV0 := Lib.hid (live_new 1048576)
  generalize Dk.new 1048576 = D0 at *
  go_wp2_with (first | (go_at_call 39; refine (awake06_any _).mono ?_; rintro e w1 ⟨rfl, hb1⟩; replace hb1 := Lib.hid hb1) | (go_at_call 40; refine (HSZ.out _ (HS.out.below hb1.out (Nat.le_refl _))).mono ?_; rintro e w2 ⟨rfl, rfl⟩))
  go_at_call 16
  refine (N0.out _).mono ?_
  rintro e w2 ⟨rfl, hd2, hb2, hl2⟩
  have HB2 := Lib.hid (hb1.out.trans (hb2.mono hb1.out.size))
  have HG := Lib.hid hb1.out.size
  have HD2 := Lib.hid hd2
  clear hd2 hb2 hl2 hb1
  generalize w1.heap.size = g at *
  go_wp2_with fail
  go_at_call 41
  refine (open_l w0.heap.size g D0 _ D0 HOK0.out HG.out HLV0.out.opened _ HD2.out).mono ?_
  rintro e w3 ⟨rfl, v3, hj3, ho3⟩
  have HB3 := Lib.hid (HB2.out.trans (ho3.onb HG.out HB2.out.size))
  have HJ3 := Lib.hid hj3
  clear hj3 ho3 HB2 HD2
  generalize w2.heap.size = J at *
  go_wp2_with fail
  go_at_call 25
  refine (fuse_disk g D0 f0 _ HJ3.out.jour.hd).mono ?_
  rintro e w4 ⟨rfl, hd4, ho4⟩
  have HB4 := Lib.hid (HB3.out.trans (ho4.onb HG.out HB3.out.size))
  have HJ4 := Lib.hid (HJ3.out.turn ho4 hd4 (fuse_ok HOK0.out f0 HF0.out.2))
  have HLV4 := Lib.hid (live_fuse HLV0.out (max f0 (-1)))
  clear hd4 ho4 HB3 HJ3 HLV0 HOK0
  generalize ({ D0 with fuse := max f0 (-1) } : Dk) = D1 at *
  -- the map and its first row
  have hm1 := mapAt_made w4
  have hal1 := alloc_below w4 (.map #[] 0)
  have hs5 : (w4.alloc (.map #[] 0)).heap.size = w4.heap.size + 1 := by simp
  have hal2 := alloc_below (w4.alloc (.map #[] 0)) (.cells #[.string ⟨#[]⟩] 9 (0, 0))
  have hrow := heap_alloc_new (w4.alloc (.map #[] 0)) (.cells #[.string ⟨#[]⟩] 9 (0, 0))
  rw [hs5] at hrow
  have hm2 := hm1.block (hal2.block w4.heap.size (by rw [hs5]; omega))
  obtain ⟨w6, hupd, hm6, hg6⟩ := hm2.put 0 (by omega) (by decide) (.slice (some ⟨w4.heap.size + 1, 0, none⟩) 1 1)
  have hsv : SV w0.heap.size ((w4.alloc (.map #[] 0)).alloc (.cells #[.string ⟨#[]⟩] 9 (0, 0))) J g w4.heap.size v3 (.slice none 0 0) (.slice (some ⟨w4.heap.size + 1, 0, none⟩) 1 1) ⟨0, [], [], false⟩ D1 [] [[]] := by
    have h1 := HJ4.out.jlt
    have h2 := HJ4.out.lt
    have h3 := HB4.out.size
    have hbb := hal1.trans (hal2.mono (by rw [hs5]; omega))
    have hj := HJ4.out.below hbb
    refine ⟨hj, row_nil _ _, apart_nil _ _ _, ⟨rfl, .inr ⟨w4.heap.size + 1, 1, #[.string ⟨#[]⟩], rfl, by omega, hrow, by simp, by unfold maxLen; omega, rfl, rfl⟩⟩, ?_, fun k hk => (by cases hk), ?_, by omega, by omega, by omega, ?_, fun e => (by cases e), ?_⟩
    · intro k hk
      have hk' : w4.heap.size + 1 = k := by simpa [Value.ownBlock] using hk
      subst hk'
      exact ⟨by omega, by omega, fun e => by have := (HJ4.out.row _ e).2; omega⟩
    · have := hbb.size
      simp
      omega
    · intro e; have := (HJ4.out.row _ e).2; omega
    · intro e
      simp [Value.ownBlock] at e
  have HSV6 := Lib.hid (hsv.put hg6)
  have HM6 := Lib.hid hm6
  have HB6 := Lib.hid ((HB4.out.trans ((hal1.trans (hal2.mono (by rw [hs5]; omega))).mono HB4.out.size)).trans (grown_below hg6 (by have := HB4.out.size; simp; omega) (fun k hk => by cases hk; exact HB4.out.size)))
  clear hm1 hal1 hal2 hrow hm2 hm6 hg6 hsv HJ4 HB4
  rw [show ((0 : Nat) : Int) = 0 from rfl] at hupd
  go_upto_region 15 with (fail)
  clear hupd hs5 hmm
  generalize w4.heap.size = mb at *
  go_wp2_with fail
  go_loopw [11, 12, 63] (fun u s i wr => ∃ (k : Nat) (v : Value) (j : Jn) (d : Dk) (all : List (List UInt8)) (n : Nat) (t : List UInt8) (tv : Value) (ts : List (List UInt8)) (F : Nat → Value) (cnt : Nat), k ≤ L.length ∧ i = .int .i64 k ∧ s = .int .i64 all.length ∧ all.length ≤ k ∧ Live j d all n t ∧
    SV w0.heap.size wr J g mb v u tv j d all ts ∧ MapAt wr mb cnt F ∧ cnt ≤ k + 1 ∧ F n = tv ∧ (∀ i, n < i → F i = .slice none 0 0) ∧ t ∈ ts ∧ ts.length ≤ k + 1 ∧ Below w0.heap.size w0 wr) (fun _ _ i _ => L.length - (intOf i).toNat)
  case atStart => exact ⟨0, v3, _, D1, [], 0, [], _, _, _, _, by omega, rfl, rfl, Nat.le_refl _, HLV4.out, HSV6.out, HM6.out, Nat.le_refl _, rfl, fun i hi => if_neg (by omega), List.mem_singleton.2 rfl, Nat.le_refl _, HB6.out⟩
  case round =>
    obtain ⟨k, v, j, d, all, n, t, tv, ts, F, cnt, hk, rfl, rfl, hal, hlv, hsv, hmp, hcn, hfn, hfz, htt, hts, hb⟩ := hrel
    clear HSV6 HM6 HB6 HLV4
    obtain ⟨ua, uc, rfl⟩ := hsv.ru.form
    have HLV := Lib.hid hlv
    have HSV := Lib.hid hsv
    have HM := Lib.hid hmp
    have HFN := Lib.hid hfn
    have HFZ := Lib.hid hfz
    have HTT := Lib.hid htt
    have HB := Lib.hid hb
    clear hlv hsv hmp hfn hfz htt hb
    by_cases hlt : k < L.length
    · have hki : (k : Int) < L.length := by omega
      have hsl := HS.out.below HB.out (Nat.le_refl _)
      obtain ⟨_, _, he, hc0⟩ := hsl
      simp only [Value.slice.injEq] at he
      obtain ⟨rfl, _, rfl⟩ := he
      obtain ⟨b, o, rfl, hc⟩ := hc0 (by intro h; subst h; simp at hlt)
      have hrg := hc k L[k] (by simp [hlt])
      clear hc hc0
      have hxb := jsz_in (List.getElem_mem hlt)
      generalize L[k] = x at *
      have HRG := Lib.hid hrg
      clear hrg
      have hbx := opbox_below wr x
      have HXB := Lib.hid (opbox_free x HSV.out.hj)
      have HB1 := Lib.hid (HB.out.trans (hbx.mono HB.out.size))
      have HSV1 := Lib.hid (HSV.out.below hbx)
      have HM1 := Lib.hid (HM.out.block (hbx.block mb HM.out.lt))
      have HXR := Lib.hid (show ∀ k, (Value.slice ua all.length uc).ownBlock = some k → k ≠ wr.heap.size from fun k hk => by have := (HSV.out.ru.blk k hk).2; omega)
      have HXT := Lib.hid (show ∀ k, tv.ownBlock = some k → k ≠ wr.heap.size from fun k hk => by have := (HSV.out.rt.blk k hk).2; omega)
      have HXM := Lib.hid (show wr.heap.size ≠ mb from by have := HM.out.lt; omega)
      have hck := opbox_k wr x
      have hcb := opbox_b wr x
      have hb4 := HJS.out
      have hbl : (x.b.length : Int) ≤ 140737488355328 := by omega
      have hbn : x.b.length ≤ 65528 := by omega
      have hjb : j.base + j.recs.length = all.length := by
        rw [HLV.out.je]; dsimp only; rw [seg_length (Nat.le_refl _)]; have := HLV.out.saf.h2; omega
      have hnl := HLV.out.saf.h2
      clear hbx HSV HM HB
      by_cases hk1 : x.k = 1
      · have hk2 : (x.k == 1) = true := by simp [hk1]
        clear hk1
        have HSN := Lib.hid (snapJ_live HSV1.out.hj.jour.ok HLV.out x.b hbn)
        obtain ⟨q, hq⟩ : ∃ q, snapJ j d x.b = q := ⟨_, rfl⟩
        rw [hq] at HSN
        obtain ⟨code, j', d'⟩ := q
        have E1 := Lib.hid hq
        clear hq
        dsimp only at HSN
        go_upto_region 17 with (fail)
        go_step
        go_step
        go_step
        go_step
        refine wpList_load_mid rfl 71 (.tmp 65) rfl b (o + k * 7) rfl _ _ HRG.out Try.underlying71 rfl (by kernel_rfl) ?_
        go_step
        go_step
        go_step
        refine wpList_store_mid rfl 71 (.tmp 15) (.tmp 66) rfl wr.heap.size 0 x.cells rfl rfl (opbox_there wr) (by kernel_rfl) (opcells_one x) ?_
        change wpList _ _ _ _ _ (opbox wr x)
        generalize opbox wr x = wb at *
        generalize wr.heap.size = xb at *
        obtain ⟨tvx, tsx, hfx, hsx, hcx, hlx, hxx⟩ : ∃ tvx tsx, F all.length = tvx ∧ SV w0.heap.size wb J g mb v (.slice ua all.length uc) tvx j d all tsx ∧ ((n = all.length ∧ t ∈ tsx) ∨ (n < all.length ∧ tvx = .slice none 0 0)) ∧ tsx.length ≤ k + 1 ∧ (∀ k, tvx.ownBlock = some k → k ≠ xb) := by
          rcases Nat.lt_or_ge n all.length with h | h
          · exact ⟨_, [], HFZ.out _ h, HSV1.out.bare, .inr ⟨h, rfl⟩, Nat.zero_le _, fun k hk => (by cases hk)⟩
          · obtain rfl : n = all.length := by omega
            exact ⟨tv, ts, HFN.out, HSV1.out, .inl ⟨rfl, HTT.out⟩, hts, HXT.out⟩
        obtain ⟨xa, xc, rfl⟩ := hsx.rt.form
        have hlk := HM1.out.look all.length (by omega)
        rw [hfx] at hlk
        have HCX := Lib.hid hcx
        have HXX := Lib.hid hxx
        obtain ⟨i0, hi, hz0, hz1, hz2⟩ := info_parts infoStr
        have hal1 := alloc_below wb (.cells #[.string ⟨x.b.toArray⟩] 9)
        have HS5 := Lib.hid (hsx.below hal1)
        have HO5 := Lib.hid (show n < all.length → Row w0.heap.size (wb.alloc (.cells #[.string ⟨x.b.toArray⟩] 9)) tv ts from fun _ => HSV1.out.rt.below hal1)
        have HOA := Lib.hid (And.intro HSV1.out.at' HSV1.out.mt)
        have HM5 := Lib.hid (HM1.out.block (hal1.block mb HM1.out.lt))
        have HB5 := Lib.hid (HB1.out.trans (hal1.mono HB1.out.size))
        have HSZ5 := Lib.hid (show (wb.alloc (.cells #[.string ⟨x.b.toArray⟩] 9)).heap.size = wb.heap.size + 1 by simp)
        have HXC := Lib.hid (show (wb.alloc (.cells #[.string ⟨x.b.toArray⟩] 9)).cell? ⟨xb, 2, none⟩ = some (.string ⟨x.b.toArray⟩) from kept_at hal1 hcb)
        have h4s := HB1.out.size
        clear hal1 HSV1 HM1 HB1 hfx hsx hcx hxx
        go_wp2_with (at_builtin; refine wpList_append_lies _ rfl (.tmp 74) (.tmp 77) 50 rfl w0.heap.size 9 i0 (.string ByteArray.empty) 1 16 Try.underlying50 hi hz0 hz1 hz2 rfl (by decide) _ _ _ rfl HS5.out.rt ⟨wb.heap.size, 0, none⟩ 1 1 [.string ⟨x.b.toArray⟩] rfl rfl ?c1 ?c2 (by decide) ?c3 ?c4 ?c5 _ rfl ?_)
        case c1 => exact cell_one_new _ _ _
        case c2 => intro u hu; simp at hu; subst hu; rfl
        case c3 => unfold maxLen; omega
        case c4 => omega
        case c5 => rw [HSZ5.out]; omega
        intro g' cap' w5 hown' hgrow hat _
        have HS6 := Lib.hid (HS5.out.appT hown' hgrow (by rw [HSZ5.out]; exact hat))
        have HM6 := Lib.hid (HS5.out.mapT HM5.out hgrow)
        have HO6 := Lib.hid (show n < all.length → Row w0.heap.size w5 tv ts from fun h => (HO5.out h).grownR hgrow (fun k hk => by
          rcases HCX.out with ⟨e, _⟩ | ⟨_, e⟩
          · omega
          · rw [e] at hk; cases hk))
        have HB6 := Lib.hid (HB5.out.trans (Row.grownBelow HS5.out.rt hgrow (Nat.le_refl _) HB5.out.size))
        have hcx : w5.cell? ⟨xb, 2, none⟩ = some (.string ⟨x.b.toArray⟩) := by
          rw [World.cell?_of_block (hgrow.block xb (block_lt_of_cell HXC.out) (fun e => HXX.out xb e.symm rfl))]
          exact HXC.out
        clear hown' hgrow hat HS5 HM5 HO5 HB5 hi hz0 hz1 hz2 hcb HXC hlk
        obtain ⟨w6, hupd, hm7, hg7⟩ := HM6.out.put all.length (by omega) (by unfold maxLen; omega) (.slice (some ⟨g', 0, none⟩) (tsx.length + 1) cap')
        have HS7 := Lib.hid (HS6.out.put hg7)
        have HM7 := Lib.hid hm7
        have HO7 := Lib.hid (show n < all.length → Row w0.heap.size w6 tv ts from fun h => (HO6.out h).grownR hg7 (fun k hk => by cases hk; exact HOA.out.2))
        have HB7 := Lib.hid (HB6.out.trans (grown_below hg7 HB6.out.size (fun k hk => by cases hk; exact HS6.out.mB)))
        have hcx7 : w6.cell? ⟨xb, 2, none⟩ = some (.string ⟨x.b.toArray⟩) := by
          rw [World.cell?_of_block (hg7.block xb (block_lt_of_cell hcx) (fun e => HXM.out (Option.some.inj e)))]
          exact hcx
        clear hm7 hg7 HS6 HM6 HO6 HB6 hcx
        go_upto_region 20 with (fail)
        clear hupd
        go_wp2_with fail
        go_at_call 42
        refine (snap_e HS7.out.hj x.b E1.out hbl (by omega)).mono ?_
        rintro e w7 ⟨rfl, v7, hj8, hk8, hv8⟩
        have HB8 := Lib.hid (HB7.out.trans (HS7.out.hj.kpb hk8 HB7.out.size))
        have HS8 := Lib.hid (HS7.out.kp hj8 hk8 hv8)
        have HM8 := Lib.hid (HS7.out.mapKp HM7.out hk8)
        have HO8 := Lib.hid (show n < all.length → Row w0.heap.size w7 tv ts from fun h => (HO7.out h).kp hk8 HOA.out.1)
        clear hj8 hk8 hv8 HB7 HS7 HM7 HO7 hck hcx7 HXB hjb
        rcases HSN.out with ⟨hz, hl⟩ | ⟨hz, hq⟩
        · have HLN := Lib.hid hl
          subst hz
          clear hl
          go_wp2
          go_roundw
          case rel =>
            refine ⟨k + 1, v7, _, d', all, _, _, _, _, _, cnt + 1, by omega, by go_num, rfl, by omega, HLN.out, HS8.out, HM8.out, by omega, if_pos rfl, fun i hi => ?_, List.mem_append.2 (.inr (List.mem_singleton.2 rfl)), by rw [List.length_append]; simp; omega, HB8.out⟩
            show (if i = all.length then _ else F i) = _
            rw [if_neg (by omega)]
            exact HFZ.out i (by omega)
          case measure => simp [intOf]; omega
        · have hz1 : (code != 0) = true := by simpa using hz
          have HQ := Lib.hid (show ∀ kept, Tells w0.heap.size w7 d' all all.length g (fun i => if i = all.length then (.slice (some ⟨g', 0, none⟩) (tsx.length + 1) cap') else F i) kept from fun kept => by
            obtain ⟨n', t', hnt, hr⟩ := hq kept
            rcases hnt with ⟨rfl, rfl⟩ | ⟨rfl, rfl⟩
            · rcases HCX.out with ⟨e, ht⟩ | ⟨hl, e⟩
              · exact ⟨_, _, _, _, _, tsx ++ [x.b], hr, Nat.le_refl _, by dsimp only; rw [if_pos e], HS8.out.rt, List.mem_append.2 (.inl ht), fun k hk => (HS8.out.at' k hk).1⟩
              · exact ⟨_, _, _, _, tv, ts, hr, Nat.le_refl _, by dsimp only; rw [if_neg (by omega)]; exact HFN.out, HO8.out hl, HTT.out, fun k hk => (HOA.out.1 k hk).1⟩
            · exact ⟨_, _, _, _, _, tsx ++ [x.b], hr, Nat.le_refl _, by dsimp only; rw [if_pos rfl], HS8.out.rt, List.mem_append.2 (.inr (List.mem_singleton.2 rfl)), fun k hk => (HS8.out.at' k hk).1⟩)
          have HAG := Lib.hid (show ∀ k, (Value.slice ua all.length uc).ownBlock = some k → k ≠ g from fun k hk => (HS8.out.au k hk).1)
          have HO := Lib.hid HS8.out.hj.jour.ok
          have HD := Lib.hid HS8.out.hj.jour.hd
          have HR4 := Lib.hid HS8.out.ru
          have HMG := Lib.hid HS8.out.mg
          have HM4 := HM8
          have HB4 := HB8
          have has : (all.length : Int) ≤ 1000 := by omega
          clear hz hq HSN HLV HS8 HM8 HB8 HO8 E1 HCX HXX HXM HXT HXR HOA HFN HFZ HTT HRG
          generalize (fun i => if i = all.length then Value.slice (some ⟨g', 0, none⟩) (tsx.length + 1) cap' else F i) = F4 at *
          obtain ⟨n0, nn, m, tx, tvx, tsx2, hr0, hSm, hF, hrt, htx, hgx⟩ := HQ.out kp0
          obtain ⟨ta, tc, rfl⟩ := hrt.form
          have hm := hr0.h3
          have hnm := hr0.h2
          have hms : (m : Int) ≤ 1000 := by have := hr0.h4; omega
          have HUP := Lib.hid (hr0.open_up rfl rfl)
          have HO5 := Lib.hid (crash_ok HO.out kp0)
          have HRT := Lib.hid hrt
          have HFF := Lib.hid hF
          have HTX := Lib.hid htx
          have HGX := Lib.hid hgx
          have hsl : (seg all nn m).length = m - nn := seg_length hm
          have HBM := Lib.hid (show nn + (seg all nn m).length = m by omega)
          have hrn : (seg all nn m).length ≤ 1000000 := by omega
          have hrm : (seg all nn m).length ≤ 9223372036854775807 := by omega
          have q1 : decide ((all.length : Int) ≤ (m : Int)) = true := by simp; omega
          have q2 : decide ((m : Int) ≤ (all.length : Int)) = true := by have := hm; simp; omega
          have q3 : decide ((nn : Int) ≤ (m : Int)) = true := by simp; omega
          have q4 : (all.length : Int) ≤ (m : Int) := by omega
          have q5 : (m : Int) ≤ (all.length : Int) := by have := hm; omega
          have q6 : (nn : Int) ≤ (m : Int) := by omega
          have HRG0 := Lib.hid (range_below HB4.out (Nat.le_refl _) HR0.out)
          clear hr0 HQ hF hrt htx hgx hsl hSm
          go_upto_region 26 with (first | (with_reducible refine wpList_load_mid rfl 31 (.tmp 5) rfl w.heap.size 0 rfl _ _ HRG0.out Try.underlying31 rfl (by kernel_rfl) ?_) | (go_at_call 22; refine (crash_disk g d' HO.out kp0 HKP0.out _ HD.out).mono ?_; rintro e x5 ⟨rfl, hd5, ho5⟩))
          have HB5 := Lib.hid (HB4.out.trans (ho5.onb HG.out HB4.out.size))
          have HR5 := Lib.hid (HR4.out.only ho5 HAG.out)
          have HT5 := Lib.hid (HRT.out.only ho5 HGX.out)
          have HM5 := Lib.hid (HM4.out.block (ho5.block mb HM4.out.lt (fun e => HMG.out (Option.some.inj e))))
          have HD5 := Lib.hid hd5
          clear hd5 ho5 HB4 HR4 HRT HM4 HRG0 HO HD
          generalize d'.crash kp0 = d5 at *
          generalize (openJ d5).2.2 = d6 at *
          go_wp2_with fail
          go_at_call 41
          refine (open_l w0.heap.size g d5 _ d6 HO5.out HG.out HUP.out _ HD5.out).mono ?_
          rintro e x6 ⟨rfl, v6k, hj6k, ho6k⟩
          have HB6 := Lib.hid (HB5.out.trans (ho6k.onb HG.out HB5.out.size))
          have HR6 := Lib.hid (HR5.out.only ho6k HAG.out)
          have HT6 := Lib.hid (HT5.out.only ho6k HGX.out)
          have HM6 := Lib.hid (HM5.out.block (ho6k.block mb HM5.out.lt (fun e => HMG.out (Option.some.inj e))))
          have HK6 := Lib.hid hj6k
          clear hj6k ho6k HB5 HR5 HT5 HM5 HD5 HO5
          generalize x5.heap.size = K at *
          go_wp2_with fail
          go_at_call 46
          refine (text_l HK6.out).mono ?_
          rintro e x7 ⟨rfl, n7, rfl⟩
          have hb7 := drewN_below (Below.refl x6.heap.size x6) n7
          have HB7 := Lib.hid (drewN_below HB6.out n7)
          have HR7 := Lib.hid (HR6.out.below hb7)
          have HT7 := Lib.hid (HT6.out.below hb7)
          have HM7 := Lib.hid (HM6.out.block (hb7.block mb HM6.out.lt))
          have HK7 := Lib.hid (HK6.out.below hb7)
          clear hb7 HB6 HR6 HT6 HM6 HK6
          generalize x6.drewN n7 = x7 at *
          have hlk := HM7.out.look nn (by omega)
          rw [HFF.out] at hlk
          have htl : (tsx2.length : Int) ≤ 9223372036854775807 := by
            have h := HT7.out.2
            rcases h with ⟨_, h⟩ | ⟨_, _, _, he, _, _, h1, h2, _⟩
            · omega
            · simp only [Value.slice.injEq] at he
              unfold maxLen at h2
              omega
          have HRW := Lib.hid (own_rows HT7.out)
          go_wp2_with fail
          clear hlk
          go_loopw [20, 120] (fun bv iv wx => ∃ (i : Nat) (bb : Bool), i ≤ tsx2.length ∧ iv = .int .i64 i ∧ bv = .bool bb ∧ decide (tx ∈ tsx2.take i) = bb ∧ x7 = wx) (fun _ iv _ => tsx2.length - (intOf iv).toNat)
          case atStart => exact ⟨0, false, by omega, rfl, rfl, by simp, rfl⟩
          case round =>
            obtain ⟨i, bb, hi, rfl, rfl, hbb, rfl⟩ := hrel
            have HBB := Lib.hid hbb
            clear hbb
            by_cases hil : i < tsx2.length
            · have hii : (i : Int) < tsx2.length := by omega
              obtain ⟨_, _, he, hrw⟩ := HRW.out
              simp only [Value.slice.injEq] at he
              obtain ⟨rfl, _, rfl⟩ := he
              obtain ⟨gl, rfl, _, hcl⟩ := hrw i tsx2[i] (by simp [hil])
              have HMT := Lib.hid (mem_take_succ (t := tx) hil)
              clear hrw
              generalize tsx2[i] = y at *
              cases bb
              · by_cases hy : y = tx
                · subst hy
                  have HNX := Lib.hid (show decide (y ∈ tsx2.take (i + 1)) = true by rw [HMT.out]; simp)
                  go_wp2
                  go_roundw
                  case rel => exact ⟨i + 1, true, by omega, by go_num, by simp, HNX.out, by first | rfl | trivial⟩
                  case measure => simp [intOf]; omega
                · have hy1 : (y == tx) = false := by simpa using hy
                  have HNX := Lib.hid (show decide (tx ∈ tsx2.take (i + 1)) = false by rw [HMT.out, HBB.out]; simpa using hy)
                  clear hy
                  go_wp2
                  go_roundw
                  case rel => exact ⟨i + 1, false, by omega, by go_num, by simp, HNX.out, by first | rfl | trivial⟩
                  case measure => simp [intOf]; omega
              · have HNX := Lib.hid (show decide (tx ∈ tsx2.take (i + 1)) = true by rw [HMT.out, HBB.out]; rfl)
                go_wp2
                go_roundw
                case rel => exact ⟨i + 1, true, by omega, by go_num, by simp, HNX.out, by first | rfl | trivial⟩
                case measure => simp [intOf]; omega
            · obtain rfl : i = tsx2.length := by omega
              have hbt : bb = true := by have := HBB.out; rw [List.take_length] at this; rw [← this]; simpa using HTX.out
              subst hbt
              go_wp2_with fail
              go_at_call 45
              refine (last_m HK7.out m HBM.out (by omega)).mono ?_
              rintro e x8 ⟨rfl, n8, rfl⟩
              have hb8 := drewN_below (Below.refl x7.heap.size x7) n8
              have HB8 := Lib.hid (drewN_below HB7.out n8)
              have HR8 := Lib.hid (HR7.out.below hb8)
              have HK8 := Lib.hid (HK7.out.below hb8)
              clear hb8 HB7 HR7 HT7 HM7 HK7
              generalize x7.drewN n8 = x8 at *
              go_upto_region 37 with (fail)
              obtain ⟨sv, hsl1, hsl2, hss⟩ := seg_slice HR8.out nn m hnm hm
              have HSS := Lib.hid hss
              have hbd := (Below.refl x8.heap.size x8).drew
              have HKD := Lib.hid (HK8.out.below hbd)
              have HRD := Lib.hid (HR8.out.below hbd)
              have HBD := Lib.hid HB8.out.drew
              clear hss hbd HB8 HR8 HK8
              go_region_held (fun wx => Below x8.heap.size x8 wx) (first | assumption | exact (Below.refl _ _).drew | exact (Below.refl _ _).drew.trans hb13 | exact drewN_below ((Below.refl _ _).drew.trans hb13) n14) (first
                | (go_at_call 44; refine (records_l HKD.out hrn).mono ?_; rintro e x13 ⟨u13, rfl, hu13, hb13⟩)
                | (go_at_call 35; refine (same_same hu13 (HSS.out _ (HRD.out.below hb13)) hrm).mono ?_; rintro e x14 ⟨rfl, n14, rfl⟩))
              have HB14 := Lib.hid (drewN_below (HBD.out.trans (hb13.mono HBD.out.size)) n14)
              go_wp2
              go_ret
              exact ⟨rfl, HAL.out.trans (HB14.out.mono HAL.out.size)⟩
      · have hk2 : (x.k == 1) = false := by simpa using hk1
        clear hk1
        have HSN := Lib.hid (appJ_live HSV1.out.hj.jour.ok HLV.out x.b hbn (by omega))
        obtain ⟨q, hq⟩ : ∃ q, appJ j d x.b = q := ⟨_, rfl⟩
        rw [hq] at HSN
        obtain ⟨code, j', d'⟩ := q
        have E1 := Lib.hid hq
        clear hq
        dsimp only at HSN
        go_upto_region 17 with (fail)
        go_step
        go_step
        go_step
        go_step
        refine wpList_load_mid rfl 71 (.tmp 65) rfl b (o + k * 7) rfl _ _ HRG.out Try.underlying71 rfl (by kernel_rfl) ?_
        go_step
        go_step
        go_step
        refine wpList_store_mid rfl 71 (.tmp 15) (.tmp 66) rfl wr.heap.size 0 x.cells rfl rfl (opbox_there wr) (by kernel_rfl) (opcells_one x) ?_
        change wpList _ _ _ _ _ (opbox wr x)
        generalize opbox wr x = wb at *
        generalize wr.heap.size = xb at *
        obtain ⟨i0, hi, hz0, hz1, hz2⟩ := info_parts infoStr
        have hal1 := alloc_below wb (.cells #[.string ⟨x.b.toArray⟩] 9)
        have HS5 := Lib.hid (HSV1.out.below hal1)
        have HM5 := Lib.hid (HM1.out.block (hal1.block mb HM1.out.lt))
        have HB5 := Lib.hid (HB1.out.trans (hal1.mono HB1.out.size))
        have HSZ5 := Lib.hid (show (wb.alloc (.cells #[.string ⟨x.b.toArray⟩] 9)).heap.size = wb.heap.size + 1 by simp)
        have HXC := Lib.hid (show (wb.alloc (.cells #[.string ⟨x.b.toArray⟩] 9)).cell? ⟨xb, 2, none⟩ = some (.string ⟨x.b.toArray⟩) from kept_at hal1 hcb)
        have h4s := HB1.out.size
        have HXN := Lib.hid (show some xb ≠ (Value.slice ua all.length uc).ownBlock from fun e => HXR.out xb e.symm rfl)
        clear hal1 HSV1 HM1 HB1
        go_wp2_with (at_builtin; refine wpList_append_lies _ rfl (.tmp 84) (.tmp 87) 50 rfl w0.heap.size 9 i0 (.string ByteArray.empty) 1 16 Try.underlying50 hi hz0 hz1 hz2 rfl (by decide) _ _ _ rfl HS5.out.ru ⟨wb.heap.size, 0, none⟩ 1 1 [.string ⟨x.b.toArray⟩] rfl rfl ?c1 ?c2 (by decide) ?c3 ?c4 ?c5 _ rfl ?_)
        case c1 => exact cell_one_new _ _ _
        case c2 => intro u hu; simp at hu; subst hu; rfl
        case c3 => unfold maxLen; omega
        case c4 => omega
        case c5 => rw [HSZ5.out]; omega
        intro g' cap' w5 hown' hgrow hat _
        have HS6 := Lib.hid (HS5.out.appU hown' hgrow (by rw [HSZ5.out]; exact hat))
        have HM6 := Lib.hid (HS5.out.mapU HM5.out hgrow)
        have HB6 := Lib.hid (HB5.out.trans (Row.grownBelow HS5.out.ru hgrow (Nat.le_refl _) HB5.out.size))
        have hcx : w5.cell? ⟨xb, 2, none⟩ = some (.string ⟨x.b.toArray⟩) := by
          rw [World.cell?_of_block (hgrow.block xb (block_lt_of_cell HXC.out) HXN.out)]
          exact HXC.out
        clear hown' hgrow hat HS5 HM5 HB5 hi hz0 hz1 hz2 hcb HXC
        go_wp2_with fail
        go_at_call 43
        refine (append_e HS6.out.hj x.b E1.out hbl (by omega) (by omega)).mono ?_
        rintro e w6 ⟨rfl, v6, hj6, hk6, hv6⟩
        have HB7 := Lib.hid (HB6.out.trans (HS6.out.hj.kpb hk6 HB6.out.size))
        have HS7 := Lib.hid (HS6.out.kp hj6 hk6 hv6)
        have HM7 := Lib.hid (HS6.out.mapKp HM6.out hk6)
        clear hj6 hk6 hv6 HB6 HS6 HM6 hck hcx HXB hjb
        rcases HSN.out with ⟨hz, hl⟩ | ⟨hz, hq⟩
        · have HLN := Lib.hid hl
          subst hz
          clear hl
          go_wp2
          go_roundw
          case rel => exact ⟨k + 1, v6, _, d', all ++ [x.b], _, _, _, _, _, cnt, by omega, by go_num, by rw [List.length_append]; go_num, by rw [List.length_append]; exact Nat.succ_le_succ hal, HLN.out, HS7.out, HM7.out, by omega, HFN.out, HFZ.out, HTT.out, by omega, HB7.out⟩
          case measure => simp [intOf]; omega
        · have hz1 : (code != 0) = true := by simpa using hz
          have HQ := Lib.hid (show ∀ kept, Tells w0.heap.size w6 d' (all ++ [x.b]) all.length g F kept from fun kept => by
            obtain ⟨m, hm, hr⟩ := hq kept
            exact ⟨_, _, _, _, tv, ts, hr, by omega, HFN.out, HS7.out.rt, HTT.out, fun k hk => (HS7.out.at' k hk).1⟩)
          have HAG := Lib.hid (show ∀ k, (Value.slice (some ⟨g', 0, none⟩) (all.length + 1) cap').ownBlock = some k → k ≠ g from fun k hk => (HS7.out.au k hk).1)
          have HO := Lib.hid HS7.out.hj.jour.ok
          have HD := Lib.hid HS7.out.hj.jour.hd
          have HR4 := Lib.hid HS7.out.ru
          have HMG := Lib.hid HS7.out.mg
          have HM4 := HM7
          have HB4 := HB7
          have hlen2 : (all ++ [x.b]).length = all.length + 1 := by simp
          have hS : (all.length : Int) ≤ 1000 := by omega
          clear hz hq HSN HLV HS7 HM7 E1 HB7 HXN HXM HXT HXR HFN HFZ HTT HRG
          have hN0 : all.length + 1 ≤ 1000 := by omega
          have HN2 := Lib.hid hlen2
          clear hlen2
          generalize all ++ [x.b] = all2 at *
          generalize hNN : all.length + 1 = N at *
          have HNN := Lib.hid hNN
          clear hNN
          obtain ⟨n0, nn, m, tx, tvx, tsx2, hr0, hSm, hF, hrt, htx, hgx⟩ := HQ.out kp0
          obtain ⟨ta, tc, rfl⟩ := hrt.form
          have hm := hr0.h3
          have hnm := hr0.h2
          have hms : (m : Int) ≤ 1000 := by have := hr0.h4; omega
          have HUP := Lib.hid (hr0.open_up rfl rfl)
          have HO5 := Lib.hid (crash_ok HO.out kp0)
          have HRT := Lib.hid hrt
          have HFF := Lib.hid hF
          have HTX := Lib.hid htx
          have HGX := Lib.hid hgx
          have hsl : (seg all2 nn m).length = m - nn := seg_length hm
          have HBM := Lib.hid (show nn + (seg all2 nn m).length = m by omega)
          have hrn : (seg all2 nn m).length ≤ 1000000 := by omega
          have hrm : (seg all2 nn m).length ≤ 9223372036854775807 := by omega
          have q1 : decide ((all.length : Int) ≤ (m : Int)) = true := by simp; omega
          have q2 : decide ((m : Int) ≤ (N : Int)) = true := by have := HN2.out; simp; omega
          have q3 : decide ((nn : Int) ≤ (m : Int)) = true := by simp; omega
          have q4 : (all.length : Int) ≤ (m : Int) := by omega
          have q5 : (m : Int) ≤ (N : Int) := by have := HN2.out; omega
          have q6 : (nn : Int) ≤ (m : Int) := by omega
          have HRG0 := Lib.hid (range_below HB4.out (Nat.le_refl _) HR0.out)
          clear hr0 HQ hF hrt htx hgx hsl hSm
          go_upto_region 26 with (first | (with_reducible refine wpList_load_mid rfl 31 (.tmp 5) rfl w.heap.size 0 rfl _ _ HRG0.out Try.underlying31 rfl (by kernel_rfl) ?_) | (go_at_call 22; refine (crash_disk g d' HO.out kp0 HKP0.out _ HD.out).mono ?_; rintro e x5 ⟨rfl, hd5, ho5⟩))
          have HB5 := Lib.hid (HB4.out.trans (ho5.onb HG.out HB4.out.size))
          have HR5 := Lib.hid (HR4.out.only ho5 HAG.out)
          have HT5 := Lib.hid (HRT.out.only ho5 HGX.out)
          have HM5 := Lib.hid (HM4.out.block (ho5.block mb HM4.out.lt (fun e => HMG.out (Option.some.inj e))))
          have HD5 := Lib.hid hd5
          clear hd5 ho5 HB4 HR4 HRT HM4 HRG0 HO HD
          generalize d'.crash kp0 = d5 at *
          generalize (openJ d5).2.2 = d6 at *
          go_wp2_with fail
          go_at_call 41
          refine (open_l w0.heap.size g d5 _ d6 HO5.out HG.out HUP.out _ HD5.out).mono ?_
          rintro e x6 ⟨rfl, v6k, hj6k, ho6k⟩
          have HB6 := Lib.hid (HB5.out.trans (ho6k.onb HG.out HB5.out.size))
          have HR6 := Lib.hid (HR5.out.only ho6k HAG.out)
          have HT6 := Lib.hid (HT5.out.only ho6k HGX.out)
          have HM6 := Lib.hid (HM5.out.block (ho6k.block mb HM5.out.lt (fun e => HMG.out (Option.some.inj e))))
          have HK6 := Lib.hid hj6k
          clear hj6k ho6k HB5 HR5 HT5 HM5 HD5 HO5
          generalize x5.heap.size = K at *
          go_wp2_with fail
          go_at_call 46
          refine (text_l HK6.out).mono ?_
          rintro e x7 ⟨rfl, n7, rfl⟩
          have hb7 := drewN_below (Below.refl x6.heap.size x6) n7
          have HB7 := Lib.hid (drewN_below HB6.out n7)
          have HR7 := Lib.hid (HR6.out.below hb7)
          have HT7 := Lib.hid (HT6.out.below hb7)
          have HM7 := Lib.hid (HM6.out.block (hb7.block mb HM6.out.lt))
          have HK7 := Lib.hid (HK6.out.below hb7)
          clear hb7 HB6 HR6 HT6 HM6 HK6
          generalize x6.drewN n7 = x7 at *
          have hlk := HM7.out.look nn (by omega)
          rw [HFF.out] at hlk
          have htl : (tsx2.length : Int) ≤ 9223372036854775807 := by
            have h := HT7.out.2
            rcases h with ⟨_, h⟩ | ⟨_, _, _, he, _, _, h1, h2, _⟩
            · omega
            · simp only [Value.slice.injEq] at he
              unfold maxLen at h2
              omega
          have HRW := Lib.hid (own_rows HT7.out)
          go_wp2_with fail
          clear hlk
          go_loopw [20, 120] (fun bv iv wx => ∃ (i : Nat) (bb : Bool), i ≤ tsx2.length ∧ iv = .int .i64 i ∧ bv = .bool bb ∧ decide (tx ∈ tsx2.take i) = bb ∧ x7 = wx) (fun _ iv _ => tsx2.length - (intOf iv).toNat)
          case atStart => exact ⟨0, false, by omega, rfl, rfl, by simp, rfl⟩
          case round =>
            obtain ⟨i, bb, hi, rfl, rfl, hbb, rfl⟩ := hrel
            have HBB := Lib.hid hbb
            clear hbb
            by_cases hil : i < tsx2.length
            · have hii : (i : Int) < tsx2.length := by omega
              obtain ⟨_, _, he, hrw⟩ := HRW.out
              simp only [Value.slice.injEq] at he
              obtain ⟨rfl, _, rfl⟩ := he
              obtain ⟨gl, rfl, _, hcl⟩ := hrw i tsx2[i] (by simp [hil])
              have HMT := Lib.hid (mem_take_succ (t := tx) hil)
              clear hrw
              generalize tsx2[i] = y at *
              cases bb
              · by_cases hy : y = tx
                · subst hy
                  have HNX := Lib.hid (show decide (y ∈ tsx2.take (i + 1)) = true by rw [HMT.out]; simp)
                  go_wp2
                  go_roundw
                  case rel => exact ⟨i + 1, true, by omega, by go_num, by simp, HNX.out, by first | rfl | trivial⟩
                  case measure => simp [intOf]; omega
                · have hy1 : (y == tx) = false := by simpa using hy
                  have HNX := Lib.hid (show decide (tx ∈ tsx2.take (i + 1)) = false by rw [HMT.out, HBB.out]; simpa using hy)
                  clear hy
                  go_wp2
                  go_roundw
                  case rel => exact ⟨i + 1, false, by omega, by go_num, by simp, HNX.out, by first | rfl | trivial⟩
                  case measure => simp [intOf]; omega
              · have HNX := Lib.hid (show decide (tx ∈ tsx2.take (i + 1)) = true by rw [HMT.out, HBB.out]; rfl)
                go_wp2
                go_roundw
                case rel => exact ⟨i + 1, true, by omega, by go_num, by simp, HNX.out, by first | rfl | trivial⟩
                case measure => simp [intOf]; omega
            · obtain rfl : i = tsx2.length := by omega
              have hbt : bb = true := by have := HBB.out; rw [List.take_length] at this; rw [← this]; simpa using HTX.out
              subst hbt
              go_wp2_with fail
              go_at_call 45
              refine (last_m HK7.out m HBM.out (by omega)).mono ?_
              rintro e x8 ⟨rfl, n8, rfl⟩
              have hb8 := drewN_below (Below.refl x7.heap.size x7) n8
              have HB8 := Lib.hid (drewN_below HB7.out n8)
              have HR8 := Lib.hid (HR7.out.below hb8)
              have HK8 := Lib.hid (HK7.out.below hb8)
              clear hb8 HB7 HR7 HT7 HM7 HK7
              generalize x7.drewN n8 = x8 at *
              go_upto_region 37 with (fail)
              obtain ⟨sv, hsl1, hsl2, hss⟩ := seg_slice HR8.out nn m hnm hm
              have HSS := Lib.hid hss
              have hbd := (Below.refl x8.heap.size x8).drew
              have HKD := Lib.hid (HK8.out.below hbd)
              have HRD := Lib.hid (HR8.out.below hbd)
              have HBD := Lib.hid HB8.out.drew
              clear hss hbd HB8 HR8 HK8
              go_region_held (fun wx => Below x8.heap.size x8 wx) (first | assumption | exact (Below.refl _ _).drew | exact (Below.refl _ _).drew.trans hb13 | exact drewN_below ((Below.refl _ _).drew.trans hb13) n14) (first
                | (go_at_call 44; refine (records_l HKD.out hrn).mono ?_; rintro e x13 ⟨u13, rfl, hu13, hb13⟩)
                | (go_at_call 35; refine (same_same hu13 (HSS.out _ (HRD.out.below hb13)) hrm).mono ?_; rintro e x14 ⟨rfl, n14, rfl⟩))
              have HB14 := Lib.hid (drewN_below (HBD.out.trans (hb13.mono HBD.out.size)) n14)
              go_wp2
              go_ret
              exact ⟨rfl, HAL.out.trans (HB14.out.mono HAL.out.size)⟩
    · obtain rfl : k = L.length := by omega
      have hb4 := HJS.out
      have HQ := Lib.hid (show ∀ kept, Tells w0.heap.size wr d all all.length g F kept from fun kept => ⟨_, _, _, _, tv, ts, HLV.out.saf.crash kept, Nat.le_refl _, HFN.out, HSV.out.rt, HTT.out, fun k hk => (HSV.out.at' k hk).1⟩)
      have HAG := Lib.hid (show ∀ k, (Value.slice ua all.length uc).ownBlock = some k → k ≠ g from fun k hk => (HSV.out.au k hk).1)
      have HO := Lib.hid HSV.out.hj.jour.ok
      have HD := Lib.hid HSV.out.hj.jour.hd
      have HR4 := Lib.hid HSV.out.ru
      have HMG := Lib.hid HSV.out.mg
      have HM4 := HM
      have HB4 := HB
      clear HLV HSV HM HB HFN HFZ HTT
      obtain ⟨n0, nn, m, tx, tvx, tsx2, hr0, hSm, hF, hrt, htx, hgx⟩ := HQ.out kp0
      obtain ⟨ta, tc, rfl⟩ := hrt.form
      have hm := hr0.h3
      have hnm := hr0.h2
      have hms : (m : Int) ≤ 1000 := by have := hr0.h4; omega
      have HUP := Lib.hid (hr0.open_up rfl rfl)
      have HO5 := Lib.hid (crash_ok HO.out kp0)
      have HRT := Lib.hid hrt
      have HFF := Lib.hid hF
      have HTX := Lib.hid htx
      have HGX := Lib.hid hgx
      have hsl : (seg all nn m).length = m - nn := seg_length hm
      have HBM := Lib.hid (show nn + (seg all nn m).length = m by omega)
      have hrn : (seg all nn m).length ≤ 1000000 := by omega
      have hrm : (seg all nn m).length ≤ 9223372036854775807 := by omega
      have q1 : decide ((all.length : Int) ≤ (m : Int)) = true := by simp; omega
      have q2 : decide ((m : Int) ≤ (all.length : Int)) = true := by have := hm; simp; omega
      have q3 : decide ((nn : Int) ≤ (m : Int)) = true := by simp; omega
      have q4 : (all.length : Int) ≤ (m : Int) := by omega
      have q5 : (m : Int) ≤ (all.length : Int) := by have := hm; omega
      have q6 : (nn : Int) ≤ (m : Int) := by omega
      have HRG0 := Lib.hid (range_below HB4.out (Nat.le_refl _) HR0.out)
      clear hr0 HQ hF hrt htx hgx hsl hSm
      go_upto_region 26 with (first | (with_reducible refine wpList_load_mid rfl 31 (.tmp 5) rfl w.heap.size 0 rfl _ _ HRG0.out Try.underlying31 rfl (by kernel_rfl) ?_) | (go_at_call 22; refine (crash_disk g d HO.out kp0 HKP0.out _ HD.out).mono ?_; rintro e x5 ⟨rfl, hd5, ho5⟩))
      have HB5 := Lib.hid (HB4.out.trans (ho5.onb HG.out HB4.out.size))
      have HR5 := Lib.hid (HR4.out.only ho5 HAG.out)
      have HT5 := Lib.hid (HRT.out.only ho5 HGX.out)
      have HM5 := Lib.hid (HM4.out.block (ho5.block mb HM4.out.lt (fun e => HMG.out (Option.some.inj e))))
      have HD5 := Lib.hid hd5
      clear hd5 ho5 HB4 HR4 HRT HM4 HRG0 HO HD
      generalize d.crash kp0 = d5 at *
      generalize (openJ d5).2.2 = d6 at *
      go_wp2_with fail
      go_at_call 41
      refine (open_l w0.heap.size g d5 _ d6 HO5.out HG.out HUP.out _ HD5.out).mono ?_
      rintro e x6 ⟨rfl, v6k, hj6k, ho6k⟩
      have HB6 := Lib.hid (HB5.out.trans (ho6k.onb HG.out HB5.out.size))
      have HR6 := Lib.hid (HR5.out.only ho6k HAG.out)
      have HT6 := Lib.hid (HT5.out.only ho6k HGX.out)
      have HM6 := Lib.hid (HM5.out.block (ho6k.block mb HM5.out.lt (fun e => HMG.out (Option.some.inj e))))
      have HK6 := Lib.hid hj6k
      clear hj6k ho6k HB5 HR5 HT5 HM5 HD5 HO5
      generalize x5.heap.size = K at *
      go_wp2_with fail
      go_at_call 46
      refine (text_l HK6.out).mono ?_
      rintro e x7 ⟨rfl, n7, rfl⟩
      have hb7 := drewN_below (Below.refl x6.heap.size x6) n7
      have HB7 := Lib.hid (drewN_below HB6.out n7)
      have HR7 := Lib.hid (HR6.out.below hb7)
      have HT7 := Lib.hid (HT6.out.below hb7)
      have HM7 := Lib.hid (HM6.out.block (hb7.block mb HM6.out.lt))
      have HK7 := Lib.hid (HK6.out.below hb7)
      clear hb7 HB6 HR6 HT6 HM6 HK6
      generalize x6.drewN n7 = x7 at *
      have hlk := HM7.out.look nn (by omega)
      rw [HFF.out] at hlk
      have htl : (tsx2.length : Int) ≤ 9223372036854775807 := by
        have h := HT7.out.2
        rcases h with ⟨_, h⟩ | ⟨_, _, _, he, _, _, h1, h2, _⟩
        · omega
        · simp only [Value.slice.injEq] at he
          unfold maxLen at h2
          omega
      have HRW := Lib.hid (own_rows HT7.out)
      go_wp2_with fail
      clear hlk
      go_loopw [20, 120] (fun bv iv wx => ∃ (i : Nat) (bb : Bool), i ≤ tsx2.length ∧ iv = .int .i64 i ∧ bv = .bool bb ∧ decide (tx ∈ tsx2.take i) = bb ∧ x7 = wx) (fun _ iv _ => tsx2.length - (intOf iv).toNat)
      case atStart => exact ⟨0, false, by omega, rfl, rfl, by simp, rfl⟩
      case round =>
        obtain ⟨i, bb, hi, rfl, rfl, hbb, rfl⟩ := hrel
        have HBB := Lib.hid hbb
        clear hbb
        by_cases hil : i < tsx2.length
        · have hii : (i : Int) < tsx2.length := by omega
          obtain ⟨_, _, he, hrw⟩ := HRW.out
          simp only [Value.slice.injEq] at he
          obtain ⟨rfl, _, rfl⟩ := he
          obtain ⟨gl, rfl, _, hcl⟩ := hrw i tsx2[i] (by simp [hil])
          have HMT := Lib.hid (mem_take_succ (t := tx) hil)
          clear hrw
          generalize tsx2[i] = y at *
          cases bb
          · by_cases hy : y = tx
            · subst hy
              have HNX := Lib.hid (show decide (y ∈ tsx2.take (i + 1)) = true by rw [HMT.out]; simp)
              go_wp2
              go_roundw
              case rel => exact ⟨i + 1, true, by omega, by go_num, by simp, HNX.out, by first | rfl | trivial⟩
              case measure => simp [intOf]; omega
            · have hy1 : (y == tx) = false := by simpa using hy
              have HNX := Lib.hid (show decide (tx ∈ tsx2.take (i + 1)) = false by rw [HMT.out, HBB.out]; simpa using hy)
              clear hy
              go_wp2
              go_roundw
              case rel => exact ⟨i + 1, false, by omega, by go_num, by simp, HNX.out, by first | rfl | trivial⟩
              case measure => simp [intOf]; omega
          · have HNX := Lib.hid (show decide (tx ∈ tsx2.take (i + 1)) = true by rw [HMT.out, HBB.out]; rfl)
            go_wp2
            go_roundw
            case rel => exact ⟨i + 1, true, by omega, by go_num, by simp, HNX.out, by first | rfl | trivial⟩
            case measure => simp [intOf]; omega
        · obtain rfl : i = tsx2.length := by omega
          have hbt : bb = true := by have := HBB.out; rw [List.take_length] at this; rw [← this]; simpa using HTX.out
          subst hbt
          go_wp2_with fail
          go_at_call 45
          refine (last_m HK7.out m HBM.out (by omega)).mono ?_
          rintro e x8 ⟨rfl, n8, rfl⟩
          have hb8 := drewN_below (Below.refl x7.heap.size x7) n8
          have HB8 := Lib.hid (drewN_below HB7.out n8)
          have HR8 := Lib.hid (HR7.out.below hb8)
          have HK8 := Lib.hid (HK7.out.below hb8)
          clear hb8 HB7 HR7 HT7 HM7 HK7
          generalize x7.drewN n8 = x8 at *
          go_upto_region 37 with (fail)
          obtain ⟨sv, hsl1, hsl2, hss⟩ := seg_slice HR8.out nn m hnm hm
          have HSS := Lib.hid hss
          have hbd := (Below.refl x8.heap.size x8).drew
          have HKD := Lib.hid (HK8.out.below hbd)
          have HRD := Lib.hid (HR8.out.below hbd)
          have HBD := Lib.hid HB8.out.drew
          clear hss hbd HB8 HR8 HK8
          go_region_held (fun wx => Below x8.heap.size x8 wx) (first | assumption | exact (Below.refl _ _).drew | exact (Below.refl _ _).drew.trans hb13 | exact drewN_below ((Below.refl _ _).drew.trans hb13) n14) (first
            | (go_at_call 44; refine (records_l HKD.out hrn).mono ?_; rintro e x13 ⟨u13, rfl, hu13, hb13⟩)
            | (go_at_call 35; refine (same_same hu13 (HSS.out _ (HRD.out.below hb13)) hrm).mono ?_; rintro e x14 ⟨rfl, n14, rfl⟩))
          have HB14 := Lib.hid (drewN_below (HBD.out.trans (hb13.mono HBD.out.size)) n14)
          go_wp2
          go_ret
          exact ⟨rfl, HAL.out.trans (HB14.out.mono HAL.out.size)⟩
set_option maxRecDepth 100000 in
theorem lifted (os : Os) (started : os.Started) (H : Type) (enc : TypeId × Value → H) :
    ReturnsInHanded {} Try.checked os 13 .any (Rows.journalSureSpec.pre6 enc Try.prog Try.f13 Rows.journalSureRow.domain false) (Rows.journalSureSpec.post enc Try.prog Try.f13 false true false false) := by
  refine returnsInHanded_of_change_sized (C := Try.checked) own_knob started (by kernel_rfl) Try.func13
    (ChangeSpec.witness6 (enc := enc) (C := Try.checked) false ⟨#[], #[.slice none 0 0, .int .i64 0, .agg #[.int .i64 0, .int .i64 0, .int .i64 0, .int .i64 0]], []⟩ 8 (by kernel_rfl) (by kernel_rfl) (by kernel_rfl) (by kernel_rfl)) ?_
  intro W base args ds gs before hval0 hW hcnd hsz _
  have hval : ∀ (j : Nat) t v, Try.f13.params[j]? = some t → args[j]? = some v → Value.okWide Try.prog W .any base t v := hval0
  have hww : ∀ (j : Nat) (t : TypeId) (d : DataW H), Try.f13.params.toList[j]? = some t → ds[j]? = some d → ∀ n ∈ d.weights Try.prog t, n ≤ reachBytes := fun j t d h1 h2 => weights_of hsz j h1 h2
  have hW' := hW
  obtain ⟨p, q, hA0, hV, rfl, hfz, hnd⟩ := hW
  have hA : DataW.TrodAll enc Try.prog W 0 (fun _ => true) true Try.f13.params.toList args.toList ds p := hA0
  rw [Try.params13] at hA hval hww
  obtain ⟨v0, vs0, d0, ds0, p0, q0, hargs, rfl, rfl, h0, r0⟩ := trodAll_cons hA
  obtain ⟨v1, vs1, d1, ds1, p1, q1, rfl, rfl, rfl, h1, r1⟩ := trodAll_cons r0
  obtain ⟨v2, vs2, d2, ds2, p2, q2, rfl, rfl, rfl, h2, r2⟩ := trodAll_cons r1
  obtain ⟨rfl, rfl, rfl⟩ := trodAll_nil r2
  obtain rfl : args = #[v0, v1, v2] := by cases args; simp_all
  obtain ⟨L0, hs0, hn0, hx0⟩ := open_jops (hval 0 65 v0 rfl rfl) h0 (hww 0 65 d0 rfl rfl)
  obtain ⟨a1, rfl, _, _, hl1⟩ := open_int Try.underlying3 (hval 1 3 v1 rfl rfl) h1
  obtain ⟨kp2, rfl, hk2⟩ := open_keptJ (hval 2 31 v2 rfl rfl) h2 (hww 2 31 d2 rfl rfl)
  clear hA0 hval0
  refine (walk v0 L0 a1 kp2 W hs0 hn0 hx0 (bounds_i64 hl1) hk2).mono fun e W' ⟨he, hb⟩ => ?_
  subst he
  exact ⟨_, rfl, law_post hW' (by kernel_rfl) rfl rfl (by
    intro t ht
    rw [Try.params13] at ht
    simp at ht
    rcases ht with rfl | rfl | rfl
    all_goals exact ⟨by kernel_rfl, of_decide_eq_true (by kernel_rfl)⟩) hb⟩
theorem over : Rows.journalSureRow.holds Try.pinned (OpenSpec.ofChange Rows.journalSureSpec) :=
  OpenClaim.holds_of_wide 13 Try.f13 rfl rfl rfl rfl rfl rfl rfl ⟨rfl, rfl, rfl, rfl, rfl⟩ rfl rfl rfl rfl rfl (by kernel_rfl) Try.func13 (by kernel_rfl)
    (of_decide_eq_true (by kernel_rfl)) (by unfold Func.isWrapper; first | (rw [if_pos (by decide +kernel)]; kernel_rfl) | (rw [if_neg (by decide +kernel)]; exact ⟨rfl, rfl⟩))
    (fun os started H enc _ => lifted os started H enc)
theorem proved : Rows.JournalSureSaid := over
#print axioms proved
end Go.Proofs.Ytdphnhgogokidaa.journalSure
