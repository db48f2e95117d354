/- The journal: a snapshot is laid. -/
import Derived.Test.YtdphnhgogokidaaJourE
import Derived.Deep.RegionHeld3
namespace Go.Proofs.Ytdphnhgogokidaa
open Go.RowKit

/-- what Snap lays. -/
def snaF (j : Jn) (b : List UInt8) : List UInt8 := frameOf (eight (j.base + j.recs.length) ++ b)
def snapF (f : List UInt8) : List (Dk → Out) := [cutx 2 0, fun d => d.append 2 f, fun d => d.sync 2, fun d => d.move 2 1, fun d => d.cutto 0 0]
def runF : List (Dk → Out) → Dk → Out
  | [], d => ⟨0, d⟩
  | F :: L, d => if (F d).code = 0 then runF L (F d).dk else F d
theorem runF_steps : ∀ (L : List Clo) (d : Dk), runSteps L d = runF (L.map Clo.F) d
  | [], _ => rfl
  | c :: L, d => by rw [runSteps_cons, List.map_cons, runF, runF_steps L]
def stS (f : List UInt8) (d : Dk) : Out := runF (snapF f) d
def snapJ (j : Jn) (d : Dk) (b : List UInt8) : Int × Jn × Dk :=
  if mayJ j b ≠ 0 then (mayJ j b, j, d)
  else if (stS (snaF j b) d).code = 0 then (0, ⟨j.base + j.recs.length, b, [], j.broken⟩, (stS (snaF j b) d).dk) else ((stS (snaF j b) d).code, { j with broken := brk j.broken (stS (snaF j b) d).code }, (stS (snaF j b) d).dk)
theorem snapJ_no {j : Jn} {d : Dk} {b : List UInt8} (h : mayJ j b ≠ 0) : snapJ j d b = (mayJ j b, j, d) := if_pos h
theorem snapJ_ok {j : Jn} {d : Dk} {b : List UInt8} (h : mayJ j b = 0) (h2 : (stS (snaF j b) d).code = 0) : snapJ j d b = (0, ⟨j.base + j.recs.length, b, [], j.broken⟩, (stS (snaF j b) d).dk) := by
  unfold snapJ; rw [if_neg (by simp [h]), if_pos h2]
theorem snapJ_bad {j : Jn} {d : Dk} {b : List UInt8} (h : mayJ j b = 0) (h2 : (stS (snaF j b) d).code ≠ 0) : snapJ j d b = ((stS (snaF j b) d).code, { j with broken := brk j.broken (stS (snaF j b) d).code }, (stS (snaF j b) d).dk) := by
  unfold snapJ; rw [if_neg (by simp [h]), if_neg h2]
theorem JAt.set2 {w : World} {jg g : Nat} {v : Value} {j : Jn} (h : JAt w jg g v j) (n : Nat) : JAt (w.setCell ⟨jg, 2, none⟩ (.int .i64 n)) jg g v { j with base := n } := by
  unfold JAt at h ⊢
  rw [heap_setCell_same _ _ _ _ _ _ h]; rfl
theorem JAt.set1 {w : World} {jg g : Nat} {v : Value} {j : Jn} (h : JAt w jg g v j) (b : List UInt8) : JAt (w.setCell ⟨jg, 1, none⟩ (.string ⟨b.toArray⟩)) jg g v { j with text := b } := by
  unfold JAt at h ⊢
  rw [heap_setCell_same _ _ _ _ _ _ h]; rfl
set_option maxRecDepth 100000 in
set_option maxHeartbeats 4000000 in
theorem snap_j (jg g B : Nat) (v : Value) (j : Jn) (d : Dk) (b : List UInt8) (hb : (b.length : Int) ≤ 140737488355328) (hne : jg ≠ g) (hjB : jg < B) (hgB : g < B) (w : World) (hBw : B ≤ w.heap.size) (h : Jour w jg g B v j d) (hfit : (j.base : Int) + j.recs.length ≤ 9223372036854775806) :
    Calls Try.prog 42 #[.pointer (some ⟨jg, 0, none⟩), .string ⟨b.toArray⟩] w fun e w' => e = .returned (.int .i64 (snapJ j d b).1) ∧ ∃ v', Jour w' jg g B v' (snapJ j d b).2.1 (snapJ j d b).2.2 ∧ Kp g jg v.ownBlock w w' ∧ (v'.ownBlock = v.ownBlock ∨ ∀ k, v'.ownBlock = some k → w.heap.size ≤ k) := by
  have hbox := heap_alloc_new w (.cells #[.pointer (some ⟨jg, 0, none⟩)] 67 (0, 0))
  have hba := (Below.refl w.heap.size w).alloc (Nat.le_refl _) (.cells #[.pointer (some ⟨jg, 0, none⟩)] 67 (0, 0))
  have HH := Lib.hid h
  have HBX := Lib.hid (show Box (w.alloc (.cells #[.pointer (some ⟨jg, 0, none⟩)] 67 (0, 0))) w.heap.size (.pointer (some ⟨jg, 0, none⟩)) from (cell_of_row _ _ 0 _ _ _ hbox).trans rfl)
  have HJ1 := Lib.hid (h.hj.below hba)
  have HD1 := Lib.hid (h.hd.below hba)
  have HT1 := Lib.hid (show Two g jg w (w.alloc (.cells #[.pointer (some ⟨jg, 0, none⟩)] 67 (0, 0))) from Two.of_below hba)
  clear hbox hba h
  have hBw' : B ≤ w.heap.size := hBw
  go_enter Try.func42, Try.ntmps42
  go_wp2_with fail
  generalize w.alloc (.cells #[.pointer (some ⟨jg, 0, none⟩)] 67 (0, 0)) = w1 at *
  refine (mayj_any jg g v j b hb _ HJ1.out).mono ?_
  rintro e w2 ⟨rfl, rfl⟩
  by_cases hm : mayJ j b = 0
  · have hmz := mayJ_zero hm
    have HM := Lib.hid hm
    have HMZ := Lib.hid hmz
    have hc := HBX.out
    unfold Box at hc
    have hb2 : (b.length : Int) ≤ 65528 := by have := hmz.1; omega
    obtain ⟨va, vc, rfl⟩ := own_form HH.out.ow
    rw [hm]
    clear hm hmz
    go_wp2_with (go_at_call 45; refine (last_any jg g va vc j (by omega) _ HJ1.out).mono ?_; rintro e w3 ⟨rfl, n3, rfl⟩)
    have hw3 := drewN_below (Below.refl w2.heap.size w2) n3
    have HJ3 := Lib.hid (HJ1.out.below hw3)
    have HD3 := Lib.hid (HD1.out.below hw3)
    have HT3 := Lib.hid (HT1.out.below' hw3)
    have HB3 := Lib.hid (show Box (w2.drewN n3) w.heap.size _ from kept_at hw3 HBX.out)
    have HNB := Lib.hid (show ∀ wx, Calls Try.prog 76 #[.int .i64 ((j.base : Int) + j.recs.length), .string ⟨b.toArray⟩] wx fun e w' => e = .returned (.string ⟨(eight (j.base + j.recs.length) ++ b).toArray⟩) ∧ Below wx.heap.size wx w' from fun wx => by
      have h := numbered_any (j.base + j.recs.length) (by omega) b hb wx
      rw [show ((j.base + j.recs.length : Nat) : Int) = (j.base : Int) + j.recs.length by omega] at h
      exact h)
    have HPT := Lib.hid (show ∀ wx, Calls Try.prog 29 #[.string ⟨(eight (j.base + j.recs.length) ++ b).toArray⟩] wx fun e w' => e = .returned (.tuple #[.string ⟨(snaF j b).toArray⟩, .int .i64 0]) ∧ Below wx.heap.size wx w' from fun wx => by
      have h := put_ok ⟨(eight (j.base + j.recs.length) ++ b).toArray⟩ (by show (eight _ ++ b).length ≤ 65536; rw [List.length_append]; show 8 + b.length ≤ 65536; omega) wx
      exact h)
    have hFl : (snaF j b).length ≤ 70000 := by
      unfold snaF frameOf
      simp only [List.length_append]
      show 4 + 4 + (8 + b.length) ≤ 70000
      omega
    have HFL := Lib.hid hFl
    clear hFl hw3 HJ1 HD1 HT1 HBX hc
    generalize hF : snaF j b = F at *
    have HF := Lib.hid hF
    clear hF
    generalize w2.drewN n3 = w3 at *
    refine (HNB.out _).mono ?_
    rintro e w4 ⟨rfl, hb4⟩
    go_wp2_with fail
    refine (HPT.out _).mono ?_
    rintro e w5 ⟨rfl, hb5⟩
    have HB5 := Lib.hid (show Box w5 w.heap.size _ from kept_at hb5 (kept_at hb4 HB3.out))
    have HJ5 := Lib.hid ((HJ3.out.below hb4).below hb5)
    have HD5 := Lib.hid ((HD3.out.below hb4).below hb5)
    have HT5 := Lib.hid ((HT3.out.below' hb4).below' hb5)
    clear hb4 hb5 HB3 HJ3 HD3 HT3 HNB HPT
    have c5 := HB5.out
    unfold Box at c5
    go_upto_region 5 with (fail)
    have hba := (Below.refl w5.heap.size w5).alloc (Nat.le_refl _) (.cells #[.string ⟨F.toArray⟩] 9 (0, 0))
    have HBF6 := Lib.hid (show Box (w5.alloc (.cells #[.string ⟨F.toArray⟩] 9 (0, 0))) w5.heap.size (.string ⟨F.toArray⟩) from (cell_of_row _ _ 0 _ _ _ (heap_alloc_new _ _)).trans rfl)
    have HB6 := Lib.hid (show Box (w5.alloc (.cells #[.string ⟨F.toArray⟩] 9 (0, 0))) w.heap.size _ from kept_at hba HB5.out)
    have HJ6 := Lib.hid (HJ5.out.below hba)
    have HD6 := Lib.hid (HD5.out.below hba)
    have HT6 := Lib.hid (HT5.out.below' hba)
    have hkf : w.heap.size < w5.heap.size := by have := HB5.out; unfold Box at this; exact block_lt_of_cell this
    have hs6 : (w5.alloc (.cells #[.string ⟨F.toArray⟩] 9 (0, 0))).heap.size = w5.heap.size + 1 := by simp
    have HS6 := Lib.hid hs6
    clear hba HB5 HJ5 HD5 HT5 c5 hs6
    generalize w5.alloc (.cells #[.string ⟨F.toArray⟩] 9 (0, 0)) = w6 at *
    generalize w5.heap.size = kf at *
    have c6 := HB6.out
    unfold Box at c6
    go_wp2_with fail
    have hba := (Below.refl w6.heap.size w6).alloc (Nat.le_refl _) (.cells #[.func (.func 77) #[] #[.pointer (some ⟨w.heap.size, 0, none⟩)], .func (.func 78) #[] #[.pointer (some ⟨w.heap.size, 0, none⟩), .pointer (some ⟨kf, 0, none⟩)], .func (.func 79) #[] #[.pointer (some ⟨w.heap.size, 0, none⟩)], .func (.func 80) #[] #[.pointer (some ⟨w.heap.size, 0, none⟩)], .func (.func 81) #[] #[.pointer (some ⟨w.heap.size, 0, none⟩)]] 95 (0, 0))
    have HB7 := Lib.hid (show Box (w6.alloc (.cells #[.func (.func 77) #[] #[.pointer (some ⟨w.heap.size, 0, none⟩)], .func (.func 78) #[] #[.pointer (some ⟨w.heap.size, 0, none⟩), .pointer (some ⟨kf, 0, none⟩)], .func (.func 79) #[] #[.pointer (some ⟨w.heap.size, 0, none⟩)], .func (.func 80) #[] #[.pointer (some ⟨w.heap.size, 0, none⟩)], .func (.func 81) #[] #[.pointer (some ⟨w.heap.size, 0, none⟩)]] 95 (0, 0))) w.heap.size _ from kept_at hba HB6.out)
    have HBF7 := Lib.hid (show Box (w6.alloc (.cells #[.func (.func 77) #[] #[.pointer (some ⟨w.heap.size, 0, none⟩)], .func (.func 78) #[] #[.pointer (some ⟨w.heap.size, 0, none⟩), .pointer (some ⟨kf, 0, none⟩)], .func (.func 79) #[] #[.pointer (some ⟨w.heap.size, 0, none⟩)], .func (.func 80) #[] #[.pointer (some ⟨w.heap.size, 0, none⟩)], .func (.func 81) #[] #[.pointer (some ⟨w.heap.size, 0, none⟩)]] 95 (0, 0))) kf _ from kept_at hba HBF6.out)
    have HJ7 := Lib.hid (HJ6.out.below hba)
    have HD7 := Lib.hid (HD6.out.below hba)
    have HT7 := Lib.hid (HT6.out.below' hba)
    have hc7 := heap_alloc_new w6 (.cells #[.func (.func 77) #[] #[.pointer (some ⟨w.heap.size, 0, none⟩)], .func (.func 78) #[] #[.pointer (some ⟨w.heap.size, 0, none⟩), .pointer (some ⟨kf, 0, none⟩)], .func (.func 79) #[] #[.pointer (some ⟨w.heap.size, 0, none⟩)], .func (.func 80) #[] #[.pointer (some ⟨w.heap.size, 0, none⟩)], .func (.func 81) #[] #[.pointer (some ⟨w.heap.size, 0, none⟩)]] 95 (0, 0))
    have HSZ := Lib.hid hkf
    clear hba HB6 HBF6 HJ6 HD6 HT6 c6
    generalize w6.alloc (.cells #[.func (.func 77) #[] #[.pointer (some ⟨w.heap.size, 0, none⟩)], .func (.func 78) #[] #[.pointer (some ⟨w.heap.size, 0, none⟩), .pointer (some ⟨kf, 0, none⟩)], .func (.func 79) #[] #[.pointer (some ⟨w.heap.size, 0, none⟩)], .func (.func 80) #[] #[.pointer (some ⟨w.heap.size, 0, none⟩)], .func (.func 81) #[] #[.pointer (some ⟨w.heap.size, 0, none⟩)]] 95 (0, 0)) = w7 at *
    have hcb : w6.heap.size ≠ g := by have := HS6.out; omega
    have hstep := steps_any jg g w6.heap.size (.slice va j.recs.length vc) j d HH.out.ok [⟨77, #[.pointer (some ⟨w.heap.size, 0, none⟩)], fun d => cutx 2 0 d⟩, ⟨78, #[.pointer (some ⟨w.heap.size, 0, none⟩), .pointer (some ⟨kf, 0, none⟩)], fun d => d.append 2 F⟩, ⟨79, #[.pointer (some ⟨w.heap.size, 0, none⟩)], fun d => d.sync 2⟩, ⟨80, #[.pointer (some ⟨w.heap.size, 0, none⟩)], fun d => d.move 2 1⟩, ⟨81, #[.pointer (some ⟨w.heap.size, 0, none⟩)], fun d => d.cutto 0 0⟩] hne hcb w7 HJ7.out HD7.out hc7 (by simp) (by
      intro c hc
      simp only [List.mem_cons, List.not_mem_nil, or_false] at hc
      rcases hc with rfl | rfl | rfl | rfl | rfl
      · exact does_clear jg g w.heap.size _ j w7 HB7.out (by omega) HJ7.out hne
      · exact does_append2 jg g w.heap.size kf _ j F (by have := HFL.out; omega) w7 HB7.out (by omega) HBF7.out (by omega) HJ7.out hne
      · exact does_sync2 jg g w.heap.size _ j w7 HB7.out (by omega) HJ7.out hne
      · exact does_move jg g w.heap.size _ j w7 HB7.out (by omega) HJ7.out hne
      · exact does_cut0 jg g w.heap.size _ j w7 HB7.out (by omega) HJ7.out hne)
    rw [show runSteps [⟨77, #[.pointer (some ⟨w.heap.size, 0, none⟩)], fun d => cutx 2 0 d⟩, ⟨78, #[.pointer (some ⟨w.heap.size, 0, none⟩), .pointer (some ⟨kf, 0, none⟩)], fun d => d.append 2 F⟩, ⟨79, #[.pointer (some ⟨w.heap.size, 0, none⟩)], fun d => d.sync 2⟩, ⟨80, #[.pointer (some ⟨w.heap.size, 0, none⟩)], fun d => d.move 2 1⟩, ⟨81, #[.pointer (some ⟨w.heap.size, 0, none⟩)], fun d => d.cutto 0 0⟩] d = stS F d from runF_steps _ _] at hstep
    have HST := Lib.hid hstep
    clear hstep hc7 hcb
    generalize w6.heap.size = cb at *
    have HAB := Lib.hid (fun h2 => snapJ_bad (d := d) HM.out (by rw [HF.out]; exact h2))
    have HAO := Lib.hid (fun h2 => snapJ_ok (d := d) HM.out (by rw [HF.out]; exact h2))
    rw [HF.out] at HAB HAO
    generalize stS F d = o at *
    obtain ⟨code, dk⟩ := o
    dsimp only at HST HAB HAO
    refine (HST.out).mono ?_
    rintro e w8 ⟨rfl, hd8, hok8, hj8, ht8⟩
    have HT8 := Lib.hid (HT7.out.trans ht8)
    have HD8 := Lib.hid hd8
    have HO8 := Lib.hid hok8
    have HJ8 := Lib.hid hj8
    have HB8 := Lib.hid (show Box w8 w.heap.size _ by
      have h := HB7.out
      unfold Box at h ⊢
      unfold World.cell? at h ⊢
      rw [ht8.block w.heap.size (by have := block_lt_of_cell (show w7.cell? ⟨w.heap.size, 0, none⟩ = some _ from HB7.out); exact this) (by omega) (by omega)]
      exact h)
    clear hd8 hok8 hj8 ht8 HB7 HBF7 HJ7 HD7 HT7 HST
    by_cases hz : code = 0
    · subst hz
      have HA := Lib.hid (HAO.out rfl)
      clear HAB HAO
      have hbx : w8.cell? ⟨w.heap.size, 0, none⟩ = some (.pointer (some ⟨jg, 0, none⟩)) := HB8.out
      have j1 := HJ8.out.c1
      have j2 := HJ8.out.c2
      have j3 := HJ8.out.c3
      have jf1 := HJ8.out.frozen 1
      have jf2 := HJ8.out.frozen 2
      have jf3 := HJ8.out.frozen 3
      go_upto_region 7 with (fail)
      have HJL := Lib.hid (show ∀ wx, JAt wx jg g (.slice va j.recs.length vc) { j with broken := brk j.broken 0 } → Calls Try.prog 45 #[.pointer (some ⟨jg, 0, none⟩)] wx fun e w' => e = .returned (.int .i64 ((j.base + j.recs.length : Nat) : Int)) ∧ ∃ n, w' = wx.drewN n from fun wx h => last_any jg g va vc { j with broken := brk j.broken 0 } (by show (j.base : Int) + j.recs.length ≤ _; omega) wx h)
      clear HM HMZ HFL HF HB8
      have KB : ∀ (wx : World) (i : Nat) (v : Value), wx.cell? ⟨w.heap.size, 0, none⟩ = some (.pointer (some ⟨jg, 0, none⟩)) → (wx.setCell ⟨jg, i, none⟩ v).cell? ⟨w.heap.size, 0, none⟩ = some (.pointer (some ⟨jg, 0, none⟩)) := fun wx i v h => by
        rw [World.cell?_setCell_other _ _ _ _ (by intro e; simp only [Addr.mk.injEq] at e; omega)]; exact h
      go_region_held3 (fun wx => wx.cell? ⟨w.heap.size, 0, none⟩ = some (.pointer (some ⟨jg, 0, none⟩))) (first | assumption | exact hbx | exact KB _ _ _ (by assumption))
        (first | (go_at_call 45; refine (HJL.out w8.drew HJ8.out).mono ?_; rintro e w9 ⟨rfl, n9, rfl⟩))
      have HJ9 := Lib.hid (show JAt ((((w8.drewN (1 + n9)).setCell ⟨jg, 2, none⟩ (.int .i64 ((j.base : Int) + j.recs.length))).setCell ⟨jg, 1, none⟩ (.string ⟨b.toArray⟩)).setCell ⟨jg, 3, none⟩ (.slice none 0 0)) jg g (.slice none 0 0) ⟨j.base + j.recs.length, b, [], j.broken⟩ by
        have h0 : JAt (w8.drewN (1 + n9)) jg g (.slice va j.recs.length vc) { j with broken := brk j.broken 0 } := HJ8.out
        have h1 := h0.set2 (j.base + j.recs.length)
        have h2 := (h1.set1 b).set3 (.slice none 0 0) []
        rw [show brk j.broken 0 = j.broken by simp [brk]] at h2
        exact h2)
      have HD9 := Lib.hid (show DiskAt ((((w8.drewN (1 + n9)).setCell ⟨jg, 2, none⟩ (.int .i64 ((j.base : Int) + j.recs.length))).setCell ⟨jg, 1, none⟩ (.string ⟨b.toArray⟩)).setCell ⟨jg, 3, none⟩ (.slice none 0 0)) g dk from
        DiskAt.setj (DiskAt.setj (DiskAt.setj (show DiskAt (w8.drewN (1 + n9)) g dk from HD8.out) (fun e => hne e.symm) _ _) (fun e => hne e.symm) _ _) (fun e => hne e.symm) _ _)
      have HK9 := Lib.hid ((((Kp.of_two (r := (Value.slice va j.recs.length vc).ownBlock) (HT8.out.drewN (1 + n9))).setj 2 (.int .i64 ((j.base : Int) + j.recs.length))).setj 1 (.string ⟨b.toArray⟩)).setj 3 (.slice none 0 0))
      clear KB HJL HD8 HJ8 HT8 hbx j1 j2 j3 jf1 jf2 jf3
      go_wp2
      go_ret
      rw [HA.out]
      exact ⟨rfl, .slice none 0 0, ⟨HJ9.out, HD9.out, HO8.out, World.ownsRow_nil _ _ _ _⟩, HK9.out, Or.inr (fun k h => by cases h)⟩
    · have hz1 : (code == 0) = false := by simpa using hz
      have HA := Lib.hid (HAB.out hz)
      clear hz HAB HAO
      go_wp2
      go_ret
      rw [HA.out]
      exact ⟨rfl, _, ⟨HJ8.out, HD8.out, HO8.out, own_two HH.out.ow HT8.out hgB hjB⟩, Kp.of_two HT8.out, Or.inl rfl⟩
  · have hm2 : (mayJ j b != 0) = true := by simpa using hm
    have HA := Lib.hid (snapJ_no (d := d) hm)
    clear hm
    generalize mayJ j b = m at *
    go_wp2
    go_ret
    rw [HA.out]
    exact ⟨rfl, v, ⟨HJ1.out, HD1.out, HH.out.ok, own_two HH.out.ow HT1.out hgB hjB⟩, Kp.of_two HT1.out, Or.inl rfl⟩
end Go.Proofs.Ytdphnhgogokidaa
