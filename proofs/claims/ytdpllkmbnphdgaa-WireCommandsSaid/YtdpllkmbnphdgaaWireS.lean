/- Wire: the document's TakeReply. -/
import Derived.Test.YtdpllkmbnphdgaaWireP
import Derived.Test.YtdpllkmbnphdgaaWireR
import Derived.Deep.RegionLaw
namespace Go.Proofs.Ytdpllkmbnphdgaa
open Go.RowKit

theorem takeR_ok (s : List UInt8) (h1 : s.length = 11 + 4 * many s) (h2 : ¬ 200 < many s) : takeR s = if (idsOf s (many s)).all (fun n => fits n 4) = true then some ⟨(s.getD 0 0).toNat, IntKind.i64.wrap (val ((s.drop 1).take 8) : Nat), idsOf s (many s)⟩ else none := by
  unfold takeR
  rw [if_neg (by omega), if_neg (by omega)]
set_option maxRecDepth 100000 in
set_option maxHeartbeats 4000000 in
theorem rtaker_any (s : List UInt8) (hl : (s.length : Int) ≤ 1099511627776) (w : World) :
    Calls Try.prog 20 #[.string ⟨s.toArray⟩] w fun q w' => ∃ sl, q = .returned (.tuple #[.agg #[.int .i64 (rpOf (takeR s)).e, .int .i64 (rpOf (takeR s)).v, sl], .int .i64 (rpCode (takeR s))]) ∧ SlInt w' sl (rpOf (takeR s)).ids ∧ Below w.heap.size w w' := by
  have hn0 := rpAt_new 43 w 0 0 (.slice none 0 0)
  have hb0 := (Below.refl w.heap.size w).alloc (Nat.le_refl _) (.cells #[.int .i64 0, .int .i64 0, .slice none 0 0] 43 (0, 0))
  have HTR := Lib.hid (show takeR s = if s.length < 11 then none else if 200 < many s ∨ s.length ≠ 11 + 4 * many s then none else if (idsOf s (many s)).all (fun n => fits n 4) = true then some ⟨(s.getD 0 0).toNat, IntKind.i64.wrap (val ((s.drop 1).take 8) : Nat), idsOf s (many s)⟩ else none from rfl)
  have HN0 := Lib.hid hn0
  have HB0 := Lib.hid hb0
  clear hn0 hb0
  generalize takeR s = tr at *
  by_cases h11 : s.length < 11
  · have h11i : (s.length : Int) < 11 := by omega
    have HNO := Lib.hid (show tr = none by rw [HTR.out, if_pos h11])
    clear h11
    go_enter Try.func20, Try.ntmps20
    go_wp2
    refine bodyPost_ret (results_mid2 rfl _ _ _ w.heap.size _ _ rfl HN0.out.range Try.underlying43 rfl (by kernel_rfl)) rfl ⟨.slice none 0 0, ?_, ?_, HB0.out⟩
    · rw [HNO.out]; rfl
    · rw [HNO.out]; exact ⟨none, 0, rfl, fun h => absurd rfl h⟩
  · have h11i : ¬ (s.length : Int) < 11 := by omega
    have h11j : (11 : Int) ≤ s.length := by omega
    have hpos : 0 < s.length := by omega
    obtain ⟨x0, hx0⟩ : ∃ x0, s.getD 0 0 = x0 := ⟨_, rfl⟩
    rw [hx0] at HTR
    have hx1 : s[0]'hpos = x0 := by rw [← hx0]; simp [List.getD, hpos]
    have hx2 := x0.toNat_lt
    have hx3 : (x0.toNat : Int) ≤ 255 := by omega
    have h9i : (9 : Int) ≤ s.length := by omega
    have hw : IntKind.i64.wrap (((⟨s.toArray⟩ : ByteArray)[0]'(by show 0 < s.length; omega)).toNat : Int) = (x0.toNat : Int) := by
      have h : ((⟨s.toArray⟩ : ByteArray)[0]'(by show 0 < s.length; omega)) = x0 := hx1
      rw [h]
      exact IntWalk.i64_in _ (by omega)
    clear hx0 hx2
    have HN8 := Lib.hid (show ∀ wx, Calls Try.prog 34 #[.string ⟨s.toArray⟩, .int .i64 1, .int .i64 8] wx fun e w' => e = .returned (.int .u64 (val ((s.drop 1).take 8) : Nat)) ∧ w' = wx from fun wx => number_any s 1 8 (by omega) hl (by omega) wx)
    have HN9 := Lib.hid (show ∀ wx, Calls Try.prog 34 #[.string ⟨s.toArray⟩, .int .i64 9, .int .i64 2] wx fun e w' => e = .returned (.int .u64 (many s : Nat)) ∧ w' = wx from fun wx => number_any s 9 2 (by omega) hl (by omega) wx)
    have HN4 := Lib.hid (show ∀ p : Nat, p + 4 ≤ s.length → ∀ wx, Calls Try.prog 34 #[.string ⟨s.toArray⟩, .int .i64 p, .int .i64 4] wx fun e w' => e = .returned (.int .u64 (val ((s.drop p).take 4) : Nat)) ∧ w' = wx from fun p hp wx => number_any s p 4 hp hl (by omega) wx)
    generalize val ((s.drop 1).take 8) = U at *
    obtain ⟨V, hV⟩ : ∃ V, IntKind.i64.wrap (U : Int) = V := ⟨_, rfl⟩
    rw [hV] at HTR
    go_enter Try.func20, Try.ntmps20
    go_upto_region 3 with (fail)
    have hN2 := (rpAt_new 43 (w.alloc (.cells #[.int .i64 0, .int .i64 0, .slice none 0 0] 43 (0, 0))) 0 0 (.slice none 0 0))
    rw [show (w.alloc (.cells #[.int .i64 0, .int .i64 0, .slice none 0 0] 43 (0, 0))).heap.size = w.heap.size + 1 by simp] at hN2
    have HN2 := Lib.hid (show RpAt 43 ((w.alloc (.cells #[.int .i64 0, .int .i64 0, .slice none 0 0] 43 (0, 0))).alloc (.cells #[.int .i64 0, .int .i64 0, .slice none 0 0] 43 (0, 0))).drew (w.heap.size + 1) 0 0 (.slice none 0 0) from hN2)
    have HA2 := Lib.hid (HB0.out.alloc (by simp) (.cells #[.int .i64 0, .int .i64 0, .slice none 0 0] 43 (0, 0))).drew
    go_cut [4] (fun p wx => ∃ g, p = .pointer (some ⟨g, 0, none⟩) ∧ w.heap.size < g ∧ RpAt 43 wx g x0.toNat V (.slice none 0 0) ∧ RpAt 43 wx w.heap.size 0 0 (.slice none 0 0) ∧ Below w.heap.size w wx)
    case first =>
      go_region_with (first | (go_at_call 34; refine (HN8.out _).mono ?_; rintro e w8 ⟨rfl, rfl⟩))
      all_goals
        go_wp2_with fail
        go_meet
        refine ⟨_, rfl, Nat.lt_succ_self _, ?_, HN0.out.below ((Below.refl _ _).alloc (Nat.le_refl _) _).drew, (HB0.out.alloc (by simp) _).drew⟩
        have h := (rpAt_new 43 (w.alloc (.cells #[.int .i64 0, .int .i64 0, .slice none 0 0] 43 (0, 0))) x0.toNat V (.slice none 0 0))
        rw [show (w.alloc (.cells #[.int .i64 0, .int .i64 0, .slice none 0 0] 43 (0, 0))).heap.size = w.heap.size + 1 by simp] at h
        exact h
    case rest =>
      obtain ⟨g, rfl, hgt, hg, hr, hbel⟩ := hcut
      have HG := Lib.hid hg
      have HR := Lib.hid hr
      have HB := Lib.hid hbel
      have hml := many_lt s
      have hmli : (many s : Int) ≤ 65535 := by omega
      have HTR2 := Lib.hid (show tr = if 200 < many s ∨ s.length ≠ 11 + 4 * many s then none else if (idsOf s (many s)).all (fun n => fits n 4) = true then some ⟨x0.toNat, V, idsOf s (many s)⟩ else none by rw [HTR.out, if_neg h11])
      clear hg hr hbel hml HTR HN8 HN0 HB0 HN2 HA2 hN2 hx1 hw hx3 h9i h11 hpos hV
      generalize many s = M at *
      have hM1 : IntKind.i64.wrap (M : Int) = M := IntWalk.i64_in _ (by omega)
      by_cases hne : s.length ≠ 11 + 4 * M
      · have hni : ((s.length : Int) != 11 + 4 * (M : Int)) = true := by rw [bne_iff_ne]; omega
        have HNO := Lib.hid (show tr = none by rw [HTR2.out, if_pos (Or.inr hne)])
        have r0 := HR.out.c0
        have r1 := HR.out.c1
        have r2 := HR.out.c2
        have rf := HR.out.frozen
        go_wp2_with (go_at_call 34; refine (HN9.out _).mono ?_; rintro e w8 ⟨rfl, rfl⟩)
        refine bodyPost_ret (results_mid2 rfl _ _ _ w.heap.size _ _ rfl (RpAt.range (HR.out.set3 0 0 (.slice none 0 0))) Try.underlying43 rfl (by kernel_rfl)) rfl ⟨.slice none 0 0, ?_, ?_, ((HB.out.setCell (Nat.le_refl _) _).setCell (Nat.le_refl _) _).setCell (Nat.le_refl _) _⟩
        · rw [HNO.out]; rfl
        · rw [HNO.out]; exact ⟨none, 0, rfl, fun h => absurd rfl h⟩
      · have hni : ((s.length : Int) != 11 + 4 * (M : Int)) = false := by rw [bne_eq_false_iff_eq]; omega
        have hsl : s.length = 11 + 4 * M := by omega
        have HSL := Lib.hid hsl
        go_wp2_with (go_at_call 34; refine (HN9.out _).mono ?_; rintro e w8 ⟨rfl, rfl⟩)
        clear hsl hni hne HN9
        go_loopw [6] (fun q wr => ∃ (j : Nat) (sl : Value), j ≤ M ∧ q = .int .i64 j ∧ RpAt 43 wr g x0.toNat V sl ∧ wr.ownsRow (g + 1) 3 1 sl (idsOf s j).length ((idsOf s j).map (Value.int .i64)) ∧ RpAt 43 wr w.heap.size 0 0 (.slice none 0 0) ∧ Below w.heap.size w wr) (fun q _ => M - (intOf q).toNat)
        case atStart => exact ⟨0, _, by omega, rfl, HG.out, World.ownsRow_nil _ _ _ _, HR.out, HB.out⟩
        case round =>
          obtain ⟨j, sl, hj, rfl, hg, how, hr, hbel⟩ := hrel
          clear HR HG HB
          have HG := Lib.hid hg
          have HOW := Lib.hid how
          have HR := Lib.hid hr
          have HB := Lib.hid hbel
          clear how hg hr hbel
          by_cases hlt : j < M
          · have hji : (j : Int) < M := by omega
            have hp4 : 11 + 4 * j + 4 ≤ s.length := by rw [HSL.out]; omega
            have hid := idAt_in s j
            have hid2 : IntKind.i64.wrap (val ((s.drop (11 + 4 * j)).take 4) : Nat) = idAt s j := IntWalk.i64_in _ (by unfold idAt at hid; omega)
            have hidx : IntKind.i64.wrap (11 + IntKind.i64.wrap (4 * (j : Int))) = ((11 + 4 * j : Nat) : Int) := by
              rw [IntWalk.i64_in (4 * (j : Int)) (by omega), IntWalk.i64_in _ (by omega)]; omega
            have HNJ := Lib.hid (show ∀ wx, Calls Try.prog 34 #[.string ⟨s.toArray⟩, .int .i64 (IntKind.i64.wrap (11 + IntKind.i64.wrap (4 * (j : Int)))), .int .i64 4] wx fun e w' => e = .returned (.int .u64 (val ((s.drop (11 + 4 * j)).take 4) : Nat)) ∧ w' = wx by rw [hidx]; exact HN4.out (11 + 4 * j) hp4)
            clear hidx
            have HN := Lib.hid (idsOf_succ s j)
            generalize val ((s.drop (11 + 4 * j)).take 4) = U4 at *
            generalize idAt s j = x at *
            have c2 := HG.out.c2
            go_upto_region 10 with (fail)
            obtain ⟨i0, hi, hz0, hz1, hz2⟩ := info_parts infoInt
            have HIS := Lib.hid (And.intro hi (And.intro hz0 (And.intro hz1 hz2)))
            have HRa := Lib.hid (HR.out.below ((Below.refl _ _).alloc (Nat.le_refl _) (.cells #[.int .i64 x] 3)).drew)
            have HGa := Lib.hid (HG.out.below ((Below.refl _ _).alloc (Nat.le_refl _) (.cells #[.int .i64 x] 3)).drew)
            have HBa := Lib.hid (HB.out.alloc HB.out.size (.cells #[.int .i64 x] 3)).drew
            have HOa := Lib.hid (show (wr.alloc (.cells #[.int .i64 x] 3)).drew.ownsRow (g + 1) 3 1 sl (idsOf s j).length ((idsOf s j).map (Value.int .i64)) from HOW.out.alloc _)
            have hgl := HG.out.lt
            have HGL := Lib.hid (show g < (wr.alloc (.cells #[.int .i64 x] 3)).drew.heap.size by show g < (wr.alloc _).heap.size; simp; omega)
            clear hi hz0 hz1 hz2 hid hp4 HN4
            go_region_law (first
              | (go_simp; go_at_call 34; refine (HNJ.out _).mono ?_; rintro e w5 ⟨rfl, rfl⟩)
              | (refine step_append_lies _ rfl (.tmp 36) (.tmp 43) 38 rfl (g + 1) 3 i0 (.int .i64 0) 1 8 Try.underlying38 HIS.out.1 HIS.out.2.1 HIS.out.2.2.1 HIS.out.2.2.2 rfl (by decide) sl (idsOf s j).length ((idsOf s j).map (Value.int .i64)) ?_ HOa.out ⟨wr.heap.size, 0, none⟩ 1 1 [.int .i64 x] ?_ rfl ?_ ?_ (by decide) ?_ ?_ HGL.out (wr.heap.size + 1) ?_ ?_
                 · simp [Act.eval]
                 · simp [Act.eval]
                 · exact cell_one_new _ _ _
                 · intro u hu; simp at hu; subst hu; rfl
                 · rw [idsOf_len]; unfold maxLen; omega
                 · rw [idsOf_len]; omega
                 · simp
                 intro g' cap' w1 hown' hgrow hgg hlt'
                 have hg1 := HGa.out.grown hgrow HOa.out (by omega)
                 have y2 := hg1.c2
                 have yf := hg1.frozen 2
                 replace hown' := Lib.hid hown'
                 replace hgrow := Lib.hid hgrow
                 replace hg1 := Lib.hid hg1))
            all_goals
              have hb1 := HBa.out.grown hgrow.out (Nat.le_trans (Nat.le_of_lt hgt) (Nat.le_of_lt HGL.out)) (fun k hk => by have := HOa.out.lt k hk; omega)
              have hr1 := HRa.out.grown hgrow.out HOa.out (by omega)
              have HGs := Lib.hid (hg1.out.set2 (.slice (some ⟨g', 0, none⟩) ((idsOf s j).length + 1) cap'))
              have HRs := Lib.hid (hr1.apart (show w.heap.size ≠ g by omega) 2 (.slice (some ⟨g', 0, none⟩) ((idsOf s j).length + 1) cap'))
              have HBs := Lib.hid (hb1.setCell (p := ⟨g, 2, none⟩) (by show w.heap.size ≤ g; omega) (.slice (some ⟨g', 0, none⟩) ((idsOf s j).length + 1) cap'))
              have HOs := Lib.hid (show (w1.setCell ⟨g, 2, none⟩ (.slice (some ⟨g', 0, none⟩) ((idsOf s j).length + 1) cap')).ownsRow (g + 1) 3 1 (.slice (some ⟨g', 0, none⟩) ((idsOf s j).length + 1) cap') (idsOf s (j + 1)).length ((idsOf s (j + 1)).map (Value.int .i64)) by
                have h := own_setCell hown'.out (Nat.lt_succ_self g) 2 (.slice (some ⟨g', 0, none⟩) ((idsOf s j).length + 1) cap')
                rw [HN.out, List.length_append, List.map_append]
                exact h)
              clear hb1 hr1 hg1 hgrow hown' y2 yf c2 hgg hlt'
              go_wp2
              go_roundw
              case rel => exact ⟨j + 1, _, by omega, by go_num, HGs.out, HOs.out, HRs.out, HBs.out⟩
              case measure => simp [intOf]; omega
          · obtain rfl : j = M := by omega
            have hsl := slInt_own HOW.out
            obtain ⟨ao, nn, cc, rfl⟩ : ∃ ao nn cc, sl = .slice ao nn cc := by
              rcases HOW.out.2 with ⟨h, _⟩ | ⟨g, cap, _, h, _⟩
              · exact ⟨_, _, _, h⟩
              · exact ⟨_, _, _, h⟩
            have hput := rputr_any x0.toNat V (idsOf s j) (.slice ao nn cc) wr hsl (by rw [idsOf_len]; exact hmli)
            unfold putrV at hput
            have g0 := HG.out.c0
            have g1 := HG.out.c1
            have g2 := HG.out.c2
            have hx0 := x0.toNat_lt
            cases hok : putrOk x0.toNat (idsOf s j)
            · rw [hok] at hput
              have HPUT := Lib.hid hput
              have HNO := Lib.hid (show tr = none by
                rw [HTR2.out]
                by_cases h2 : 200 < j
                · rw [if_pos (Or.inl h2)]
                · rw [if_neg (by have := HSL.out; omega), if_neg]
                  intro h
                  unfold putrOk at hok
                  rw [h, decide_eq_true (by rw [idsOf_len]; omega)] at hok
                  cases hok)
              clear hput hsl hok hx0
              go_wp2_with (go_at_call 18; refine (HPUT.out).mono ?_; rintro e w9 ⟨rfl, hb9⟩; have hr9 := HR.out.below hb9; have r0 := hr9.c0; have r1 := hr9.c1; have r2 := hr9.c2; have rf := hr9.frozen; have hg9 := HG.out.below hb9; have k0 := hg9.c0; have k1 := hg9.c1; have k2 := hg9.c2; have HR9 := Lib.hid hr9; have HG9 := Lib.hid hg9; have HB9 := Lib.hid (HB.out.trans (hb9.mono HB.out.size)); have HO9 := Lib.hid (own_below HOW.out hb9 rfl); clear hr9 hg9 hb9)
              refine bodyPost_ret (results_mid2 rfl _ _ _ w.heap.size _ _ rfl (RpAt.range (HR9.out.set3 0 0 (.slice none 0 0))) Try.underlying43 rfl (by kernel_rfl)) rfl ⟨.slice none 0 0, ?_, ?_, ((HB9.out.setCell (Nat.le_refl _) _).setCell (Nat.le_refl _) _).setCell (Nat.le_refl _) _⟩
              · rw [HNO.out]; rfl
              · rw [HNO.out]; exact ⟨none, 0, rfl, fun h => absurd rfl h⟩
            · rw [hok] at hput
              have HPUT := Lib.hid hput
              have HYES := Lib.hid (show tr = some ⟨x0.toNat, V, idsOf s j⟩ by
                unfold putrOk at hok
                rw [Bool.and_eq_true, decide_eq_true_eq, idsOf_len] at hok
                rw [HTR2.out, if_neg (by have := HSL.out; omega), if_pos hok.2])
              clear hput hsl hok hx0
              generalize (putrB x0.toNat V (idsOf s j)).toArray = res at *
              go_wp2_with (go_at_call 18; refine (HPUT.out).mono ?_; rintro e w9 ⟨rfl, hb9⟩; have hr9 := HR.out.below hb9; have r0 := hr9.c0; have r1 := hr9.c1; have r2 := hr9.c2; have rf := hr9.frozen; have hg9 := HG.out.below hb9; have k0 := hg9.c0; have k1 := hg9.c1; have k2 := hg9.c2; have HR9 := Lib.hid hr9; have HG9 := Lib.hid hg9; have HB9 := Lib.hid (HB.out.trans (hb9.mono HB.out.size)); have HO9 := Lib.hid (own_below HOW.out hb9 rfl); clear hr9 hg9 hb9)
              refine bodyPost_ret (results_mid2 rfl _ _ _ w.heap.size _ _ rfl (RpAt.range (HR9.out.set3 x0.toNat V (.slice ao nn cc))) Try.underlying43 rfl (by kernel_rfl)) rfl ⟨.slice ao nn cc, ?_, ?_, ((HB9.out.setCell (Nat.le_refl _) _).setCell (Nat.le_refl _) _).setCell (Nat.le_refl _) _⟩
              · rw [HYES.out]; rfl
              · rw [HYES.out]; exact slInt_own (own_setCell (own_setCell (own_setCell HO9.out (by omega) _ _) (by omega) _ _) (by omega) _ _)
end Go.Proofs.Ytdpllkmbnphdgaa
