/- The document's journal: a snapshot is laid. -/
import Derived.Test.YtdphnhgogokidaaJrB
import Derived.BigQuiet
namespace Go.Proofs.Ytdphnhgogokidaa
open Go.RowKit

theorem code_cutto (d : Dk) (i n : Int) : (d.cutto i n).code = 0 ∨ (d.cutto i n).code = 9 ∨ (d.cutto i n).code = 1 := by
  unfold Dk.cutto
  split
  · rcases code_step (d := d) (f := (·.cut (Int.toNat i) (Int.toNat n))) (fun _ => rfl) with h | h
    · exact .inl h
    · exact .inr (.inl h)
  · exact .inr (.inr rfl)
theorem code_cutx (d : Dk) (i n : Nat) : (cutx i n d).code = 0 ∨ (cutx i n d).code = 9 ∨ (cutx i n d).code = 1 := by
  unfold cutx
  split
  · exact .inl rfl
  · exact code_cutto d i n
theorem code_sync2 (d : Dk) : (d.sync 2).code = 0 ∨ (d.sync 2).code = 9 ∨ (d.sync 2).code = 1 := by
  rcases code_sync d 2 (by omega) with h | h
  · exact .inl h
  · exact .inr (.inl h)
theorem code_move2 (d : Dk) : (d.move 2 1).code = 0 ∨ (d.move 2 1).code = 9 ∨ (d.move 2 1).code = 1 := by
  rcases code_move d with h | h
  · exact .inl h
  · exact .inr (.inl h)
set_option maxRecDepth 100000 in
set_option maxHeartbeats 8000000 in
theorem snap_ref {B : Nat} {w : World} {jg g : Nat} {v : Value} {j : Jn} {d : Dk} (h : RL B w jg g v j d) (b : List UInt8) (hb : (b.length : Int) ≤ 140737488355328) (hfit : (j.base : Int) + j.recs.length ≤ 9223372036854775806) :
    Calls Try.prog 53 #[.pointer (some ⟨jg, 0, none⟩), .string ⟨b.toArray⟩] w fun e w' => e = .returned (.int .i64 (snapJ j d b).1) ∧ ∃ v', RL B w' jg g v' (snapJ j d b).2.1 (snapJ j d b).2.2 ∧ Kp g jg none w w' ∧ (v'.ownBlock = v.ownBlock ∨ ∀ k, v'.ownBlock = some k → w.heap.size ≤ k) := by
  obtain ⟨va, vc, rfl⟩ := h.ow.form
  have HL := Lib.hid h
  have HM := Lib.hid (may_ref jg g _ j b hb w h.hj)
  clear h
  by_cases hm : mayJ j b = 0
  · have hmz := mayJ_zero hm
    have HBR := Lib.hid hmz.2
    have hb2 : (b.length : Int) ≤ 65528 := by have := hmz.1; omega
    rw [hm] at HM
    have hl8 : (eight (j.base + j.recs.length)).length = 8 := rfl
    have HE := Lib.hid (show ∀ wx, Calls Try.prog 90 #[.int .i64 ((j.base : Int) + j.recs.length)] wx fun e w' => e = .returned (.string ⟨(eight (j.base + j.recs.length)).toArray⟩) ∧ Below wx.heap.size wx w' from fun wx => by
      have h := eight_ref (j.base + j.recs.length) (by omega) wx
      rw [show ((j.base + j.recs.length : Nat) : Int) = (j.base : Int) + j.recs.length by omega] at h
      exact h)
    have hcat := catj (eight (j.base + j.recs.length)) b (by rw [hl8]; omega)
    have HP := Lib.hid (show ∀ wx, Calls Try.prog 30 #[.string ⟨(eight (j.base + j.recs.length) ++ b).toArray⟩] wx fun e w' => e = .returned (.tuple #[.string ⟨(snaF j b).toArray⟩, .int .i64 0]) ∧ Below wx.heap.size wx w' from fun wx => by
      have h := rput_ok ⟨(eight (j.base + j.recs.length) ++ b).toArray⟩ (by show (eight _ ++ b).length ≤ 65536; rw [List.length_append]; show 8 + b.length ≤ 65536; omega) wx
      exact h)
    have hF : (snaF j b).length ≤ 140737488355328 := by
      unfold snaF; rw [frame_len]; omega
    have HBAD := Lib.hid (show ∀ c dk, stS (snaF j b) d = ⟨c, dk⟩ → c ≠ 0 → c ≠ 4 → snapJ j d b = (c, { j with broken := true }, dk) from fun c dk e h0 h4 => by
      rw [snapJ_bad (d := d) hm (by rw [e]; exact h0), e]
      show (c, ({ j with broken := brk j.broken c } : Jn), dk) = _
      have h2 : brk j.broken c = true := by rw [hmz.2]; simp [brk, h0, h4]
      rw [h2])
    have HMANY := Lib.hid (show ∀ dk, stS (snaF j b) d = ⟨4, dk⟩ → snapJ j d b = (4, j, dk) from fun dk e => by
      rw [snapJ_bad (d := d) hm (by rw [e]; exact (by decide : (4 : Int) ≠ 0)), e]
      show ((4 : Int), ({ j with broken := brk j.broken 4 } : Jn), dk) = _
      have h2 : brk j.broken 4 = j.broken := by rw [hmz.2]; rfl
      rw [h2])
    have HOK := Lib.hid (show ∀ dk, stS (snaF j b) d = ⟨0, dk⟩ → snapJ j d b = (0, ⟨j.base + j.recs.length, b, [], j.broken⟩, dk) from fun dk e => by
      rw [snapJ_ok (d := d) hm (by rw [e]), e])
    have HS0 := Lib.hid (show stS (snaF j b) d = runF (snapF (snaF j b)) d from rfl)
    have HF := Lib.hid hF
    have s1 := IntWalk.i64_in ((j.base : Int) + j.recs.length) (by omega)
    clear hF hm hl8 hmz
    generalize eight (j.base + j.recs.length) = E8 at *
    generalize hEB : E8 ++ b = EB at *
    have HEB := Lib.hid hEB
    clear hEB
    generalize snaF j b = F at *
    generalize stS F d = S at *
    have k2 := HL.out.hj.c2
    have k3 := HL.out.hj.c3
    go_enter Try.func53, Try.ntmps53
    go_upto_region 4 with (go_at_call 89; refine (HM.out).mono ?_; rintro e w2 ⟨rfl, rfl⟩)
    go_quiet (fail)
    have hq := drewN_below (Below.refl w2.heap.size w2) nq
    have HLQ := Lib.hid (HL.out.below hq)
    have HBQ := Lib.hid hq
    clear hq k2 k3
    go_upto_region 6 with (first
        | (go_at_call 90; refine (HE.out _).mono ?_; rintro e w5 ⟨rfl, hbe⟩)
        | (go_at_call 30; refine (HP.out _).mono ?_; rintro e w6 ⟨rfl, hbp⟩))
    have HL6 := Lib.hid ((HLQ.out.below hbe).below hbp)
    have HK6 := Lib.hid (show Two g jg w2 w6 from Two.of_below ((HBQ.out.trans (hbe.mono HBQ.out.size)).trans (hbp.mono (HBQ.out.trans (hbe.mono HBQ.out.size)).size)))
    clear hbe hbp HLQ HBQ HE HP hcat HEB HM
    have c0 := HL6.out.hj.c0
    go_wp2_with fail
    go_at_call 88
    refine (cut_ref6 g d HL6.out.ok 2 0 (by omega) _ HL6.out.hd).mono ?_
    rintro e w7 ⟨rfl, hd7, ho7⟩
    have HL7 := Lib.hid (HL6.out.turn ho7 hd7 (cutx_ok HL6.out.ok 2 0))
    have HK7 := Lib.hid (HK6.out.trans (Two.of1 ho7))
    have HG0 := Lib.hid (show (cutx 2 0 d).code = 0 → S = runF ((snapF F).drop 1) (cutx 2 0 d).dk from fun h => HS0.out.trans (runF_go (F := fun d => cutx 2 0 d) h))
    have HT0 := Lib.hid (show (cutx 2 0 d).code ≠ 0 → S = cutx 2 0 d from fun h => HS0.out.trans (runF_stop (F := fun d => cutx 2 0 d) h))
    clear hd7 ho7 HL6 HK6 HS0 c0
    have hcode := code_cutx d 2 0
    obtain ⟨o, hO⟩ : ∃ o, cutx 2 0 d = o := ⟨_, rfl⟩
    rw [hO] at HL7 HG0 HT0 hcode ⊢
    clear hO
    obtain ⟨cc, d1⟩ := o
    dsimp only at HL7 HG0 HT0 hcode ⊢
    rcases hcode with rfl | rfl | rfl
    · have HS1 := Lib.hid (HG0.out rfl)
      clear HG0 HT0
      have c0 := HL7.out.hj.c0
      go_wp2_with fail
      go_at_call 47
      refine (ref_append g d1 HL7.out.ok 2 F HF.out _ HL7.out.hd).mono ?_
      rintro e w8 ⟨rfl, hd8, ho8⟩
      have HL8 := Lib.hid (HL7.out.turn ho8 hd8 (append_ok HL7.out.ok 2 F))
      have HK8 := Lib.hid (HK7.out.trans (Two.of1 ho8))
      have HG1 := Lib.hid (show (d1.append 2 F).code = 0 → S = runF ((snapF F).drop 2) (d1.append 2 F).dk from fun h => HS1.out.trans (runF_go (F := fun d => d.append 2 F) h))
      have HT1 := Lib.hid (show (d1.append 2 F).code ≠ 0 → S = d1.append 2 F from fun h => HS1.out.trans (runF_stop (F := fun d => d.append 2 F) h))
      clear hd8 ho8 HL7 HK7 HS1 c0
      obtain ⟨o, hO⟩ : ∃ o, d1.append 2 F = o := ⟨_, rfl⟩
      rw [hO] at HL8 HG1 HT1 ⊢
      clear hO
      obtain ⟨cc, d2⟩ := o
      dsimp only at HL8 HG1 HT1 ⊢
      by_cases h4 : cc = 4
      · subst h4
        have HA := Lib.hid (HMANY.out d2 (HT1.out (by decide)))
        clear HBAD HMANY HOK HG1 HT1
        go_wp2
        go_ret
        rw [HA.out]
        exact ⟨rfl, _, HL8.out, Kp.of_two HK8.out, Or.inl rfl⟩
      · have h4b : (cc == 4) = false := by simpa using h4
        by_cases hz : cc = 0
        · subst hz
          have HS2 := Lib.hid (HG1.out rfl)
          clear HG1 HT1
          have c0 := HL8.out.hj.c0
          go_wp2_with fail
          go_at_call 48
          refine (ref_sync g d2 HL8.out.ok 2 _ HL8.out.hd).mono ?_
          rintro e w9 ⟨rfl, hd9, ho9⟩
          have HL9 := Lib.hid (HL8.out.turn ho9 hd9 (sync_ok HL8.out.ok 2))
          have HK9 := Lib.hid (HK8.out.trans (Two.of1 ho9))
          have HG2 := Lib.hid (show (d2.sync 2).code = 0 → S = runF ((snapF F).drop 3) (d2.sync 2).dk from fun h => HS2.out.trans (runF_go (F := fun d => d.sync 2) h))
          have HT2 := Lib.hid (show (d2.sync 2).code ≠ 0 → S = d2.sync 2 from fun h => HS2.out.trans (runF_stop (F := fun d => d.sync 2) h))
          clear hd9 ho9 HL8 HK8 HS2 c0
          have hcode := code_sync2 d2
          obtain ⟨o, hO⟩ : ∃ o, d2.sync 2 = o := ⟨_, rfl⟩
          rw [hO] at HL9 HG2 HT2 hcode ⊢
          clear hO
          obtain ⟨cc, d3⟩ := o
          dsimp only at HL9 HG2 HT2 hcode ⊢
          rcases hcode with rfl | rfl | rfl
          · have HS3 := Lib.hid (HG2.out rfl)
            clear HG2 HT2
            have c0 := HL9.out.hj.c0
            go_wp2_with fail
            go_at_call 55
            refine (ref_move g d3 HL9.out.ok 2 1 _ HL9.out.hd).mono ?_
            rintro e w10 ⟨rfl, hd10, ho10⟩
            have HL10 := Lib.hid (HL9.out.turn ho10 hd10 (move_ok HL9.out.ok 2 1))
            have HK10 := Lib.hid (HK9.out.trans (Two.of1 ho10))
            have HG3 := Lib.hid (show (d3.move 2 1).code = 0 → S = runF ((snapF F).drop 4) (d3.move 2 1).dk from fun h => HS3.out.trans (runF_go (F := fun d => d.move 2 1) h))
            have HT3 := Lib.hid (show (d3.move 2 1).code ≠ 0 → S = d3.move 2 1 from fun h => HS3.out.trans (runF_stop (F := fun d => d.move 2 1) h))
            clear hd10 ho10 HL9 HK9 HS3 c0
            have hcode := code_move2 d3
            obtain ⟨o, hO⟩ : ∃ o, d3.move 2 1 = o := ⟨_, rfl⟩
            rw [hO] at HL10 HG3 HT3 hcode ⊢
            clear hO
            obtain ⟨cc, d4⟩ := o
            dsimp only at HL10 HG3 HT3 hcode ⊢
            rcases hcode with rfl | rfl | rfl
            · have HS4 := Lib.hid (HG3.out rfl)
              clear HG3 HT3
              have c0 := HL10.out.hj.c0
              go_wp2_with fail
              go_at_call 54
              refine (ref_cut g d4 HL10.out.ok 0 0 _ HL10.out.hd).mono ?_
              rintro e w11 ⟨rfl, hd11, ho11⟩
              have HL11 := Lib.hid (HL10.out.turn ho11 hd11 (cutto_ok HL10.out.ok 0 0))
              have HK11 := Lib.hid (HK10.out.trans (Two.of1 ho11))
              have HG4 := Lib.hid (show (d4.cutto 0 0).code = 0 → S = runF ((snapF F).drop 5) (d4.cutto 0 0).dk from fun h => HS4.out.trans (runF_go (F := fun d => d.cutto 0 0) h))
              have HT4 := Lib.hid (show (d4.cutto 0 0).code ≠ 0 → S = d4.cutto 0 0 from fun h => HS4.out.trans (runF_stop (F := fun d => d.cutto 0 0) h))
              clear hd11 ho11 HL10 HK10 HS4 c0
              have hcode := code_cutto d4 0 0
              obtain ⟨o, hO⟩ : ∃ o, d4.cutto 0 0 = o := ⟨_, rfl⟩
              rw [hO] at HL11 HG4 HT4 hcode ⊢
              clear hO
              obtain ⟨cc, d5⟩ := o
              dsimp only at HL11 HG4 HT4 hcode ⊢
              rcases hcode with rfl | rfl | rfl
              · have HA := Lib.hid (HOK.out d5 (HG4.out rfl))
                clear HG4 HT4 HBAD HMANY HOK
                have c1 := HL11.out.hj.c1
                have c2 := HL11.out.hj.c2
                have c3 := HL11.out.hj.c3
                have f1 := HL11.out.hj.frozen 1
                have f2 := HL11.out.hj.frozen 2
                have f3 := HL11.out.hj.frozen 3
                go_wp2
                go_ret
                rw [HA.out]
                refine ⟨rfl, .slice none 0 0, ⟨?_, ?_, HL11.out.ok, row_nil _ _, HL11.out.lt, HL11.out.ge⟩, (((Kp.of_two HK11.out).setj 2 _).setj 1 _).setj 3 _, Or.inr (fun k h => by cases h)⟩
                · have h2 := HL11.out.hj.set2 (j.base + j.recs.length)
                  have h3 := (h2.set1 b).set3 (.slice none 0 0) []
                  exact h3
                · have hlt := HL11.out.lt
                  have h := HL11.out.hd
                  unfold RefAt at h ⊢
                  rw [heap_setCell_other _ _ _ _ (by show g ≠ jg; omega), heap_setCell_other _ _ _ _ (by show g ≠ jg; omega), heap_setCell_other _ _ _ _ (by show g ≠ jg; omega)]
                  exact h
              · have HA := Lib.hid (HBAD.out _ _ (HT4.out (by decide)) (by decide) (by decide))
                have c4 := HL11.out.hj.c4
                have f4 := HL11.out.hj.frozen 4
                clear HBAD HMANY HOK
                go_wp2
                go_ret
                rw [HA.out]
                exact ⟨rfl, _, HL11.out.set (HL11.out.hj.set4 true) 4 _ rfl, (Kp.of_two HK11.out).setj 4 _, Or.inl rfl⟩
              · have HA := Lib.hid (HBAD.out _ _ (HT4.out (by decide)) (by decide) (by decide))
                have c4 := HL11.out.hj.c4
                have f4 := HL11.out.hj.frozen 4
                clear HBAD HMANY HOK
                go_wp2
                go_ret
                rw [HA.out]
                exact ⟨rfl, _, HL11.out.set (HL11.out.hj.set4 true) 4 _ rfl, (Kp.of_two HK11.out).setj 4 _, Or.inl rfl⟩
            · have HA := Lib.hid (HBAD.out _ _ (HT3.out (by decide)) (by decide) (by decide))
              have c4 := HL10.out.hj.c4
              have f4 := HL10.out.hj.frozen 4
              clear HBAD HMANY HOK
              go_wp2
              go_ret
              rw [HA.out]
              exact ⟨rfl, _, HL10.out.set (HL10.out.hj.set4 true) 4 _ rfl, (Kp.of_two HK10.out).setj 4 _, Or.inl rfl⟩
            · have HA := Lib.hid (HBAD.out _ _ (HT3.out (by decide)) (by decide) (by decide))
              have c4 := HL10.out.hj.c4
              have f4 := HL10.out.hj.frozen 4
              clear HBAD HMANY HOK
              go_wp2
              go_ret
              rw [HA.out]
              exact ⟨rfl, _, HL10.out.set (HL10.out.hj.set4 true) 4 _ rfl, (Kp.of_two HK10.out).setj 4 _, Or.inl rfl⟩
          · have HA := Lib.hid (HBAD.out _ _ (HT2.out (by decide)) (by decide) (by decide))
            have c4 := HL9.out.hj.c4
            have f4 := HL9.out.hj.frozen 4
            clear HBAD HMANY HOK
            go_wp2
            go_ret
            rw [HA.out]
            exact ⟨rfl, _, HL9.out.set (HL9.out.hj.set4 true) 4 _ rfl, (Kp.of_two HK9.out).setj 4 _, Or.inl rfl⟩
          · have HA := Lib.hid (HBAD.out _ _ (HT2.out (by decide)) (by decide) (by decide))
            have c4 := HL9.out.hj.c4
            have f4 := HL9.out.hj.frozen 4
            clear HBAD HMANY HOK
            go_wp2
            go_ret
            rw [HA.out]
            exact ⟨rfl, _, HL9.out.set (HL9.out.hj.set4 true) 4 _ rfl, (Kp.of_two HK9.out).setj 4 _, Or.inl rfl⟩
        · have hz1 : (cc == 0) = false := by simpa using hz
          have hz2 : (cc != 0) = true := by simpa using hz
          have HA := Lib.hid (HBAD.out _ _ (HT1.out hz) hz h4)
          have c4 := HL8.out.hj.c4
          have f4 := HL8.out.hj.frozen 4
          clear HBAD HMANY HOK HG1 HT1 hz h4
          go_wp2
          go_ret
          rw [HA.out]
          exact ⟨rfl, _, HL8.out.set (HL8.out.hj.set4 true) 4 _ rfl, (Kp.of_two HK8.out).setj 4 _, Or.inl rfl⟩
    · have HA := Lib.hid (HBAD.out _ _ (HT0.out (by decide)) (by decide) (by decide))
      have c4 := HL7.out.hj.c4
      have f4 := HL7.out.hj.frozen 4
      clear HBAD HMANY HOK
      go_wp2
      go_ret
      rw [HA.out]
      exact ⟨rfl, _, HL7.out.set (HL7.out.hj.set4 true) 4 _ rfl, (Kp.of_two HK7.out).setj 4 _, Or.inl rfl⟩
    · have HA := Lib.hid (HBAD.out _ _ (HT0.out (by decide)) (by decide) (by decide))
      have c4 := HL7.out.hj.c4
      have f4 := HL7.out.hj.frozen 4
      clear HBAD HMANY HOK
      go_wp2
      go_ret
      rw [HA.out]
      exact ⟨rfl, _, HL7.out.set (HL7.out.hj.set4 true) 4 _ rfl, (Kp.of_two HK7.out).setj 4 _, Or.inl rfl⟩
  · have hm2 : (mayJ j b != 0) = true := by simpa using hm
    have HA := Lib.hid (snapJ_no (d := d) hm)
    clear hm
    generalize mayJ j b = m at *
    go_enter Try.func53, Try.ntmps53
    go_wp2_with (go_at_call 89; refine (HM.out).mono ?_; rintro e w2 ⟨rfl, rfl⟩)
    go_ret
    rw [HA.out]
    exact ⟨rfl, _, HL.out, Kp.of_two (Two.refl _ _ _), Or.inl rfl⟩
end Go.Proofs.Ytdphnhgogokidaa
