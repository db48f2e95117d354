/- Wire: the program's TakeReply. -/
import Derived.Test.YtdpllkmbnphdgaaWireQ
import Derived.Deep.RegionHeld3
namespace Go.Proofs.Ytdpllkmbnphdgaa
open Go.RowKit

theorem below_setc {B : Nat} {a w : World} {g : Nat} (h : Below B a w) (hg : B ≤ g) (i : Nat) (v : Value) : Below B a (w.setCell ⟨g, i, none⟩ v) := h.setCell hg v
theorem own_setCell {w : World} {B n : Nat} {E : TypeId} {v : Value} {xs : List Value} {g : Nat} (h : w.ownsRow B E 1 v n xs) (hlt : g < B) (i : Nat) (x : Value) : (w.setCell ⟨g, i, none⟩ x).ownsRow B E 1 v n xs := by
  refine ⟨h.1, ?_⟩
  rcases h.2 with hn | ⟨g', cap, cur, rfl, hb2, hgg, rest⟩
  · exact .inl hn
  · exact .inr ⟨g', cap, cur, rfl, hb2, by rw [heap_setCell_other _ _ _ _ (by show g' ≠ g; omega)]; exact hgg, rest⟩
set_option maxRecDepth 100000 in
set_option maxHeartbeats 4000000 in
theorem taker_any (s : List UInt8) (hl : (s.length : Int) ≤ 1099511627776) (w : World) :
    Calls Try.prog 19 #[.string ⟨s.toArray⟩] w fun q w' => ∃ sl, q = .returned (.tuple #[.agg #[.int .i64 (rpOf (takeR s)).e, .int .i64 (rpOf (takeR s)).v, sl], .int .i64 (rpCode (takeR s))]) ∧ SlInt w' sl (rpOf (takeR s)).ids ∧ Below w.heap.size w w' := by
  have hn0 := rpAt_new 40 w 0 0 (.slice none 0 0)
  have hb0 := (Below.refl w.heap.size w).alloc (Nat.le_refl _) (.cells #[.int .i64 0, .int .i64 0, .slice none 0 0] 40 (0, 0))
  have HTR := Lib.hid (show takeR s = if s.length < 11 then none else if 200 < many s ∨ s.length ≠ 11 + 4 * many s then none else if (idsOf s (many s)).all (fun n => fits n 4) = true then some ⟨(s.getD 0 0).toNat, IntKind.i64.wrap (val ((s.drop 1).take 8) : Nat), idsOf s (many s)⟩ else none from rfl)
  have HN0 := Lib.hid hn0
  have HB0 := Lib.hid hb0
  clear hn0 hb0
  generalize takeR s = tr at *
  by_cases h11 : s.length < 11
  · have h11i : (s.length : Int) < 11 := by omega
    have HNO := Lib.hid (show tr = none by rw [HTR.out, if_pos h11])
    clear h11
    go_enter Try.func19, Try.ntmps19
    go_wp2
    refine bodyPost_ret (results_mid2 rfl _ _ _ w.heap.size _ _ rfl HN0.out.range Try.underlying40 rfl (by kernel_rfl)) rfl ⟨.slice none 0 0, ?_, ?_, HB0.out⟩
    · rw [HNO.out]; rfl
    · rw [HNO.out]; exact ⟨none, 0, rfl, fun h => absurd rfl h⟩
  · have h11i : ¬ (s.length : Int) < 11 := by omega
    have h11j : (11 : Int) ≤ s.length := by omega
    have hpos : 0 < s.length := by omega
    obtain ⟨x0, hx0⟩ : ∃ x0, s.getD 0 0 = x0 := ⟨_, rfl⟩
    rw [hx0] at HTR
    have hx1 : s[0]'hpos = x0 := by rw [← hx0]; simp [List.getD, hpos]
    have hx2 := x0.toNat_lt
    have hx3 : (x0.toNat : Int) ≤ 255 := by omega
    have h9i : (9 : Int) ≤ s.length := by omega
    have hw : IntKind.i64.wrap (((⟨s.toArray⟩ : ByteArray)[0]'(by show 0 < s.length; omega)).toNat : Int) = (x0.toNat : Int) := by
      have h : ((⟨s.toArray⟩ : ByteArray)[0]'(by show 0 < s.length; omega)) = x0 := hx1
      rw [h]
      exact IntWalk.i64_in _ (by omega)
    clear hx0 hx2
    have he8 : (⟨s.toArray⟩ : ByteArray).extract 1 9 = ⟨((s.drop 1).take 8).toArray⟩ := by rw [ByteArray.extract_mk]; try simp
    have HTK := Lib.hid (show ∀ wx, Calls Try.prog 32 #[.string ((⟨s.toArray⟩ : ByteArray).extract 1 9)] wx fun e w' => e = .returned (.int .i64 (IntKind.i64.wrap (val ((s.drop 1).take 8) : Nat))) ∧ Below wx.heap.size wx w' by rw [he8]; exact take64_any _ (by simp [List.length_take]; omega))
    clear he8
    go_enter Try.func19, Try.ntmps19
    go_upto_region 3 with (fail)
    generalize IntKind.i64.wrap (val ((s.drop 1).take 8) : Nat) = V at *
    have hN2 := (rpAt_new 40 (w.alloc (.cells #[.int .i64 0, .int .i64 0, .slice none 0 0] 40 (0, 0))) 0 0 (.slice none 0 0))
    rw [show (w.alloc (.cells #[.int .i64 0, .int .i64 0, .slice none 0 0] 40 (0, 0))).heap.size = w.heap.size + 1 by simp] at hN2
    have HN2 := Lib.hid (show RpAt 40 ((w.alloc (.cells #[.int .i64 0, .int .i64 0, .slice none 0 0] 40 (0, 0))).alloc (.cells #[.int .i64 0, .int .i64 0, .slice none 0 0] 40 (0, 0))).drew (w.heap.size + 1) 0 0 (.slice none 0 0) from hN2)
    have HA2 := Lib.hid (HB0.out.alloc (by simp) (.cells #[.int .i64 0, .int .i64 0, .slice none 0 0] 40 (0, 0))).drew
    go_cut [4] (fun p wx => ∃ g, p = .pointer (some ⟨g, 0, none⟩) ∧ w.heap.size < g ∧ RpAt 40 wx g x0.toNat V (.slice none 0 0) ∧ RpAt 40 wx w.heap.size 0 0 (.slice none 0 0) ∧ Below w.heap.size w wx)
    case first =>
      go_region_held3 (fun wx => Below w.heap.size w wx) (first | assumption | exact HB0.out.drew | exact HA2.out | exact HB0.out.drew.trans (hb8.mono HB0.out.drew.size) | exact HA2.out.trans (hb8.mono HA2.out.size) | exact (HB0.out.drew.trans (hb8.mono HB0.out.drew.size)).alloc (Nat.le_trans HB0.out.drew.size hb8.size) _ | exact (((HA2.out.trans (hb8.mono HA2.out.size)).setCell (Nat.le_succ _) _).setCell (Nat.le_succ _) _).setCell (Nat.le_succ _) _)
        (first | (go_at_call 32; refine (HTK.out _).mono ?_; rintro e w8 ⟨rfl, hb8⟩; (try have hz8 := HN2.out.below hb8); (try have k0 := hz8.c0); (try have k1 := hz8.c1); (try have k2 := hz8.c2); (try have kf := hz8.frozen)))
      all_goals
        go_wp2_with fail
        go_meet
        rename_i hs
        first
          | exact ⟨_, rfl, Nat.lt_of_lt_of_le (show w.heap.size < _ by simp) hb8.size, rpAt_new _ _ _ _ _, ((HN0.out.below (Below.refl _ _).drew).below hb8).below ((Below.refl _ _).alloc (Nat.le_refl _) _), hs⟩
          | exact ⟨_, rfl, Nat.lt_succ_self _, hz8.set3 _ _ _, ((((HN0.out.below ((Below.refl _ _).alloc (Nat.le_refl _) _).drew).below hb8).apart (by omega) _ _).apart (by omega) _ _).apart (by omega) _ _, hs⟩
    case rest =>
      obtain ⟨g, rfl, hgt, hg, hr, hbel⟩ := hcut
      have HG := Lib.hid hg
      have HR := Lib.hid hr
      have HB := Lib.hid hbel
      have he2 : (⟨s.toArray⟩ : ByteArray).extract 9 11 = ⟨((s.drop 9).take 2).toArray⟩ := by rw [ByteArray.extract_mk]; try simp
      have hm2 : IntKind.i64.wrap (val ((s.drop 9).take 2) : Nat) = (many s : Int) := IntWalk.i64_in _ (by have := many_lt s; unfold many at this; omega)
      have HTK2 := Lib.hid (show ∀ wx, Calls Try.prog 33 #[.string ((⟨s.toArray⟩ : ByteArray).extract 9 11)] wx fun e w' => e = .returned (.int .i64 (many s)) ∧ Below wx.heap.size wx w' by rw [he2, ← hm2]; exact takeInt_any _ (by rw [List.length_take]; omega))
      have hml := many_lt s
      have hmli : (many s : Int) ≤ 65535 := by omega
      have HTR2 := Lib.hid (show tr = if 200 < many s ∨ s.length ≠ 11 + 4 * many s then none else if (idsOf s (many s)).all (fun n => fits n 4) = true then some ⟨x0.toNat, V, idsOf s (many s)⟩ else none by rw [HTR.out, if_neg h11])
      clear hg hr hbel he2 hm2 hml HTR HTK HN0 HB0 HN2 HA2 hN2 hx1 hw hx3 h9i h11 hpos
      generalize many s = M at *
      by_cases hbig : 200 < M
      · have hbi : (200 : Int) < M := by omega
        have HNO := Lib.hid (show tr = none by rw [HTR2.out, if_pos (Or.inl hbig)])
        go_wp2_with (go_at_call 33; refine (HTK2.out _).mono ?_; rintro e w8 ⟨rfl, hb8⟩; have hr8 := HR.out.below hb8; have r0 := hr8.c0; have r1 := hr8.c1; have r2 := hr8.c2; have rf := hr8.frozen; have HR8 := Lib.hid hr8; have HG8 := Lib.hid (HG.out.below hb8); have HB8 := Lib.hid (HB.out.trans (hb8.mono HB.out.size)); clear hr8 hb8)
        refine bodyPost_ret (results_mid2 rfl _ _ _ w.heap.size _ _ rfl (RpAt.range (HR8.out.set3 0 0 (.slice none 0 0))) Try.underlying40 rfl (by kernel_rfl)) rfl ⟨.slice none 0 0, ?_, ?_, ((HB8.out.setCell (Nat.le_refl _) _).setCell (Nat.le_refl _) _).setCell (Nat.le_refl _) _⟩
        · rw [HNO.out]; rfl
        · rw [HNO.out]; exact ⟨none, 0, rfl, fun h => absurd rfl h⟩
      · by_cases hne : s.length ≠ 11 + 4 * M
        · have hni : ((s.length : Int) != 11 + 4 * (M : Int)) = true := by rw [bne_iff_ne]; omega
          have hbi : ¬ (200 : Int) < M := by omega
          have HNO := Lib.hid (show tr = none by rw [HTR2.out, if_pos (Or.inr hne)])
          go_wp2_with (go_at_call 33; refine (HTK2.out _).mono ?_; rintro e w8 ⟨rfl, hb8⟩; have hr8 := HR.out.below hb8; have r0 := hr8.c0; have r1 := hr8.c1; have r2 := hr8.c2; have rf := hr8.frozen; have HR8 := Lib.hid hr8; have HG8 := Lib.hid (HG.out.below hb8); have HB8 := Lib.hid (HB.out.trans (hb8.mono HB.out.size)); clear hr8 hb8)
          refine bodyPost_ret (results_mid2 rfl _ _ _ w.heap.size _ _ rfl (RpAt.range (HR8.out.set3 0 0 (.slice none 0 0))) Try.underlying40 rfl (by kernel_rfl)) rfl ⟨.slice none 0 0, ?_, ?_, ((HB8.out.setCell (Nat.le_refl _) _).setCell (Nat.le_refl _) _).setCell (Nat.le_refl _) _⟩
          · rw [HNO.out]; rfl
          · rw [HNO.out]; exact ⟨none, 0, rfl, fun h => absurd rfl h⟩
        · have hni : ((s.length : Int) != 11 + 4 * (M : Int)) = false := by rw [bne_eq_false_iff_eq]; omega
          have hbi : ¬ (200 : Int) < M := by omega
          have hsl : s.length = 11 + 4 * M := by omega
          have HTR3 := Lib.hid (show tr = if (idsOf s M).all (fun n => fits n 4) = true then some ⟨x0.toNat, V, idsOf s M⟩ else none by rw [HTR2.out, if_neg (by omega)])
          have HSL := Lib.hid hsl
          clear hne hbig HTR2
          go_wp2_with (go_at_call 33; refine (HTK2.out _).mono ?_; rintro e w8 ⟨rfl, hb8⟩; have hr8 := HR.out.below hb8; have r0 := hr8.c0; have r1 := hr8.c1; have r2 := hr8.c2; have rf := hr8.frozen; have HR8 := Lib.hid hr8; have HG8 := Lib.hid (HG.out.below hb8); have HB8 := Lib.hid (HB.out.trans (hb8.mono HB.out.size)); clear hr8 hb8)
          clear r0 r1 r2 rf hsl HR HG HB hni HTK2
          go_loopw [6] (fun q wr => ∃ (j p : Nat) (sl : Value), j ≤ M ∧ q = .int .i64 p ∧ p = 11 + 4 * j ∧ (idsOf s j).all (fun n => fits n 4) = true ∧ RpAt 40 wr g x0.toNat V sl ∧ wr.ownsRow (g + 1) 3 1 sl (idsOf s j).length ((idsOf s j).map (Value.int .i64)) ∧ RpAt 40 wr w.heap.size 0 0 (.slice none 0 0) ∧ Below w.heap.size w wr) (fun q _ => s.length - (intOf q).toNat)
          case atStart => exact ⟨0, 11, _, by omega, rfl, rfl, rfl, HG8.out, World.ownsRow_nil _ _ _ _, HR8.out, HB8.out⟩
          case round =>
            obtain ⟨j, p, sl, hj, rfl, hp, hall, hg, how, hr, hbel⟩ := hrel
            clear HR8 HG8 HB8
            have HP := Lib.hid hp
            have HA := Lib.hid hall
            have HG := Lib.hid hg
            have HOW := Lib.hid how
            have HR := Lib.hid hr
            have HB := Lib.hid hbel
            have hSL := HSL.out
            clear hall how hg hr hbel
            by_cases hlt : j < M
            · have hpi : (p : Int) < s.length := by omega
              have hp4 : (p : Int) + 4 ≤ s.length := by omega
              have he2 : (⟨s.toArray⟩ : ByteArray).extract p (p + 4) = ⟨((s.drop p).take 4).toArray⟩ := by rw [ByteArray.extract_mk]; simp
              have hid := idAt_in s j
              have hm2 : IntKind.i64.wrap (val ((s.drop p).take 4) : Nat) = idAt s j := by rw [hp]; exact IntWalk.i64_in _ (by unfold idAt at hid; omega)
              have HTK4 := Lib.hid (show ∀ wx, Calls Try.prog 33 #[.string ((⟨s.toArray⟩ : ByteArray).extract p (p + 4))] wx fun e w' => e = .returned (.int .i64 (idAt s j)) ∧ Below wx.heap.size wx w' by rw [he2, ← hm2]; exact takeInt_any _ (by rw [List.length_take]; omega))
              have HN := Lib.hid (idsOf_succ s j)
              have HAT := Lib.hid (idsOf_at s hlt)
              clear he2 hm2 hid hp hSL
              generalize idAt s j = x at *
              cases hfit : fits x 4
              · have HF := Lib.hid hfit
                go_wp2_with (first
                  | (go_at_call 33; refine (HTK4.out _).mono ?_; rintro e w8 ⟨rfl, hb8⟩; have hr8 := HR.out.below hb8; have r0 := hr8.c0; have r1 := hr8.c1; have r2 := hr8.c2; have rf := hr8.frozen; have HR8 := Lib.hid hr8; have HB8 := Lib.hid (HB.out.trans (hb8.mono HB.out.size)); clear hr8 hb8)
                  | (go_at_call 35; refine (within_any x 4 _).mono ?_; rintro q w3 ⟨rfl, rfl⟩))
                have HNO := Lib.hid (show tr = none by rw [HTR3.out, all_false' HAT.out HF.out]; rfl)
                refine bodyPost_ret (results_mid2 rfl _ _ _ w.heap.size _ _ rfl (RpAt.range (HR8.out.set3 0 0 (.slice none 0 0))) Try.underlying40 rfl (by kernel_rfl)) rfl ⟨.slice none 0 0, ?_, ?_, ((HB8.out.setCell (Nat.le_refl _) _).setCell (Nat.le_refl _) _).setCell (Nat.le_refl _) _⟩
                · rw [HNO.out]; rfl
                · rw [HNO.out]; exact ⟨none, 0, rfl, fun h => absurd rfl h⟩
              · have HF := Lib.hid hfit
                go_upto_region 13 with (first
                  | (go_at_call 33; refine (HTK4.out _).mono ?_; rintro e w8 ⟨rfl, hb8⟩; have hg8 := HG.out.below hb8; have g2 := hg8.c2; have HG8 := Lib.hid hg8; have HR8 := Lib.hid (HR.out.below hb8); have HOW8 := Lib.hid (own_below HOW.out hb8 rfl); have HB8 := Lib.hid (HB.out.trans (hb8.mono HB.out.size)); clear hg8 hb8)
                  | (go_at_call 35; refine (within_any x 4 _).mono ?_; rintro q w3 ⟨rfl, rfl⟩))
                obtain ⟨i0, hi, hz0, hz1, hz2⟩ := info_parts infoInt
                have HRa := Lib.hid (HR8.out.below ((Below.refl _ _).alloc (Nat.le_refl _) (.cells #[.int .i64 x] 3)))
                have HGa := Lib.hid (HG8.out.below ((Below.refl _ _).alloc (Nat.le_refl _) (.cells #[.int .i64 x] 3)))
                have HBa := Lib.hid (HB8.out.alloc HB8.out.size (.cells #[.int .i64 x] 3))
                have hgl := HG8.out.lt
                go_wp2_with (at_builtin; with_reducible refine wpList_append_lies _ rfl (.tmp 50) (.tmp 52) 38 rfl (g + 1) 3 i0 (.int .i64 0) 1 8 Try.underlying38 hi hz0 hz1 hz2 rfl (by decide) _ _ _ rfl (HOW8.out.alloc _) ⟨w3.heap.size, 0, none⟩ 1 1 [.int .i64 x] rfl rfl ?c1 ?c2 (by decide) ?c3 ?c4 ?c5 _ rfl ?_)
                case c1 => exact cell_one_new _ _ _
                case c2 => intro u hu; simp at hu; subst hu; rfl
                case c3 => rw [idsOf_len]; unfold maxLen; omega
                case c4 => rw [idsOf_len]; omega
                case c5 => simp; omega
                intro g' cap' w1 hown' hgrow _ _
                have hg1 := HGa.out.grown hgrow (HOW8.out.alloc _) (by omega)
                have hr1 := HRa.out.grown hgrow (HOW8.out.alloc _) (by omega)
                have hb1 := HBa.out.grown hgrow (by simp; omega) (fun k hk => by have := HOW8.out.lt k hk; omega)
                have y2 := hg1.c2
                have yf := hg1.frozen 2
                have HGs := Lib.hid (hg1.set2 (.slice (some ⟨g', 0, none⟩) ((idsOf s j).length + 1) cap'))
                have HRs := Lib.hid (hr1.apart (show w.heap.size ≠ g by omega) 2 (.slice (some ⟨g', 0, none⟩) ((idsOf s j).length + 1) cap'))
                have HBs := Lib.hid (hb1.setCell (p := ⟨g, 2, none⟩) (by show w.heap.size ≤ g; omega) (.slice (some ⟨g', 0, none⟩) ((idsOf s j).length + 1) cap'))
                have HOs := Lib.hid (show (w1.setCell ⟨g, 2, none⟩ (.slice (some ⟨g', 0, none⟩) ((idsOf s j).length + 1) cap')).ownsRow (g + 1) 3 1 (.slice (some ⟨g', 0, none⟩) ((idsOf s j).length + 1) cap') (idsOf s (j + 1)).length ((idsOf s (j + 1)).map (Value.int .i64)) by
                  have h := own_setCell hown' (Nat.lt_succ_self g) 2 (.slice (some ⟨g', 0, none⟩) ((idsOf s j).length + 1) cap')
                  rw [HN.out, List.length_append, List.map_append]
                  exact h)
                clear hg1 hr1 hb1 hgrow hown' HRa HGa HBa HOW8 HG8 HR8 HB8 g2 hgl hi hz0 hz1 hz2
                go_wp2
                go_roundw
                case rel => exact ⟨j + 1, p + 4, _, by omega, by go_num, by have := HP.out; omega, by rw [HN.out, List.all_append, HA.out]; simp [HF.out], HGs.out, HOs.out, HRs.out, HBs.out⟩
                case measure => simp [intOf]; omega
            · obtain rfl : j = M := by omega
              have hpi : ¬ (p : Int) < s.length := by omega
              have HYES := Lib.hid (show tr = some ⟨x0.toNat, V, idsOf s j⟩ by rw [HTR3.out, if_pos HA.out])
              obtain ⟨ao, nn, cc, rfl⟩ : ∃ ao nn cc, sl = .slice ao nn cc := by
                rcases HOW.out.2 with ⟨h, _⟩ | ⟨g, cap, _, h, _⟩
                · exact ⟨_, _, _, h⟩
                · exact ⟨_, _, _, h⟩
              have g0 := HG.out.c0
              have g1 := HG.out.c1
              have g2 := HG.out.c2
              have r0 := HR.out.c0
              have r1 := HR.out.c1
              have r2 := HR.out.c2
              have rf := HR.out.frozen
              go_wp2
              refine bodyPost_ret (results_mid2 rfl _ _ _ w.heap.size _ _ rfl (RpAt.range (HR.out.set3 x0.toNat V (.slice ao nn cc))) Try.underlying40 rfl (by kernel_rfl)) rfl ⟨.slice ao nn cc, ?_, ?_, ((HB.out.setCell (Nat.le_refl _) _).setCell (Nat.le_refl _) _).setCell (Nat.le_refl _) _⟩
              · rw [HYES.out]; rfl
              · rw [HYES.out]; exact slInt_own (own_setCell (own_setCell (own_setCell HOW.out (by omega) _ _) (by omega) _ _) (by omega) _ _)
end Go.Proofs.Ytdpllkmbnphdgaa
