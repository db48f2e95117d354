/- The document's journal: what Open tells. -/
import Derived.Test.YtdphnhgogokidaaJrC
import Derived.Test.YtdphnhgogokidaaFrameS
import Derived.Deep.RegionLaw
namespace Go.Proofs.Ytdphnhgogokidaa
open Go.RowKit

theorem rscan_l (s : List UInt8) (hs : (s.length : Int) ≤ 1099511627776) (w : World) :
    Calls Try.prog 32 #[.string ⟨s.toArray⟩] w fun e w' => ∃ v, e = .returned (.tuple #[v, .int .i64 (scan s).2.1, .int .i64 (scan s).2.2]) ∧
      w'.ownsRow w.heap.size 9 1 v (scan s).1.length (strs (scan s).1) ∧ Below w.heap.size w w' := rscan_any ⟨s.toArray⟩ (by show s.toArray.size ≤ _; simp; omega) w
theorem numV_none {s : List UInt8} (h : part s = none) : numV s = -1 := by unfold numV; rw [h]
theorem numV_some {s : List UInt8} {n : Nat} {t : List UInt8} (h : part s = some (n, t)) : numV s = n := by unfold numV; rw [h]
theorem part_drop {s : List UInt8} {n : Nat} {t : List UInt8} (h : part s = some (n, t)) : 8 ≤ s.length ∧ t = s.drop 8 := by
  unfold part at h
  split at h
  · cases h
  · split at h
    · cases h
    · simp only [Option.some.injEq, Prod.mk.injEq] at h
      exact ⟨by omega, h.2.symm⟩
theorem part_ext {s : List UInt8} {n : Nat} {t : List UInt8} (h : part s = some (n, t)) : (⟨s.toArray⟩ : ByteArray).extract 8 s.length = ⟨t.toArray⟩ := by
  rw [(part_drop h).2, ByteArray.extract_mk]; simp; exact List.take_of_length_le (by simp)
/-- what the document's Open leaves. -/
def ROpenPost (B g : Nat) (w w' : World) (e : Ending) (o : Int × Option Jn × Dk) : Prop :=
  Only g w w' ∧ RefAt w' g o.2.2 ∧ o.2.2.Ok ∧ match o.2.1 with
    | none => e = .returned (.tuple #[.pointer none, .int .i64 o.1])
    | some j => e = .returned (.tuple #[.pointer (some ⟨w.heap.size, 0, none⟩), .int .i64 o.1]) ∧ ∃ v, RL B w' w.heap.size g v j o.2.2
theorem RefAt.grown {w w' : World} {g : Nat} {d : Dk} {row : Option Nat} (h : RefAt w g d) (hg : w.grownBy w' row) (hne : some g ≠ row) : RefAt w' g d := by
  unfold RefAt at h ⊢
  rw [hg.block g (Array.getElem?_eq_some_iff.1 h).1 hne]; exact h
set_option maxRecDepth 100000 in
set_option maxHeartbeats 16000000 in
theorem open_ref (B g : Nat) (d : Dk) (ho : d.Ok) (hBg : B ≤ g) (w : World) (h : RefAt w g d) :
    Calls Try.prog 49 #[.pointer (some ⟨g, 0, none⟩)] w fun e w' => ROpenPost B g w w' e (openJ d) := by
  have HD := Lib.hid h
  have HO := Lib.hid ho
  have HBG := Lib.hid hBg
  have hgl : g < w.heap.size := h.lt
  have hl0 := ho.len (i := 0) (by omega)
  have hl1 := ho.len (i := 1) (by omega)
  have hb1 := alloc_below w (.cells #[.pointer (some ⟨g, 0, none⟩), .string ⟨#[]⟩, .int .i64 0, .slice none 0 0, .bool false] 119 (0, 0))
  have hj1 : RJAt (w.alloc (.cells #[.pointer (some ⟨g, 0, none⟩), .string ⟨#[]⟩, .int .i64 0, .slice none 0 0, .bool false] 119 (0, 0))) w.heap.size g (.slice none 0 0) ⟨0, [], [], false⟩ := heap_alloc_new _ _
  have HJ1 := Lib.hid hj1
  have HB1 := Lib.hid hb1
  clear h ho hBg hb1 hj1
  have HRF := Lib.hid (show ∀ wx, Below w.heap.size w wx → RefAt wx g d from fun wx hb => HD.out.below hb)
  go_enter Try.func49, Try.ntmps49
  go_upto_region 2 with (fail)
  generalize w.alloc (.cells #[.pointer (some ⟨g, 0, none⟩), .string ⟨#[]⟩, .int .i64 0, .slice none 0 0, .bool false] 119 (0, 0)) = w1 at *
  by_cases he : d.b 1 = []
  · have hcb := (HRF.out _ HB1.out).cellb (i := 1) (by omega)
    rw [he] at hcb
    obtain ⟨nb, tx, hsn, hj2⟩ : ∃ nb tx, snapOf (d.b 1) = some (nb, tx) ∧ RJAt w1 w.heap.size g (.slice none 0 0) ⟨nb, tx, [], false⟩ := ⟨0, [], snapOf_nil he, HJ1.out⟩
    have HSNAP := Lib.hid hsn
    have HJ2 := Lib.hid hj2
    clear he hsn hj2
    go_upto_region 8 with (fail)
    clear hcb HJ1
    have hbs := snapOf_lt HSNAP.out
    have HTWO := Lib.hid (fun hh => openJ_two HSNAP.out hh)
    have HFOL := Lib.hid (fun h2 h3 => openJ_fol HSNAP.out h2 h3)
    have HBD := Lib.hid (fun rs h2 h3 h4 => openJ_bad (rs := rs) HSNAP.out h2 h3 h4)
    have HOKK := Lib.hid (fun rs h2 h3 h4 => openJ_ok (rs := rs) HSNAP.out h2 h3 h4)
    have HS0 := Lib.hid (And.intro (scan_len (d.b 0)) (scan_mem (d.b 0)))
    have hcb := (HRF.out _ HB1.out).cellb (i := 0) (by omega)
    clear HSNAP
    generalize d.b 0 = s0 at *
    have HSC0 := Lib.hid (fun wx => rscan_l s0 (by omega) wx)
    generalize scan s0 = q at *
    obtain ⟨L0, e0, b0⟩ := q
    dsimp only at HTWO HFOL HBD HOKK HS0 HSC0
    go_upto_region 9 with (go_at_call 32; refine (HSC0.out _).mono ?_; rintro e w5 ⟨v5, rfl, how5, hb5⟩)
    have HB5 := Lib.hid (HB1.out.trans (hb5.mono HB1.out.size))
    have HJ5 := Lib.hid (HJ2.out.below hb5)
    obtain ⟨a0, c0, rfl, hc5⟩ := own_rows how5
    have HC5 := Lib.hid hc5
    have HWT := Lib.hid (HJ2.out.lt)
    have hL0 := HS0.out.1
    clear hcb hb5 how5 hc5 HB1 HJ2 HSC0
    by_cases h2 : b0 = 2
    · have h2i : ((b0 : Int) == 2) = true := by simp [h2]
      have HNO := Lib.hid (HTWO.out h2)
      clear h2 HTWO HFOL HBD HOKK
      go_wp2
      go_ret2
      rw [HNO.out]
      exact ⟨Only.of_below HB5.out, HRF.out _ HB5.out, HO.out, rfl⟩
    · have h2i : ((b0 : Int) == 2) = false := by simp; omega
      obtain ⟨R, hR⟩ : ∃ R, fol nb true 0 L0 = R := ⟨_, rfl⟩
      have HR := Lib.hid hR
      have HR0 := Lib.hid (show R = (folFrom nb L0 0 0).map ([] ++ ·) by rw [← hR]; unfold folFrom; simp)
      have H2 := Lib.hid h2
      clear hR h2 HTWO
      go_wp2_with fail
      go_loopw [11] (fun iv wr => ∃ (k nx : Nat) (acc : List (List UInt8)) (v : Value), k ≤ L0.length ∧ iv = .int .i64 k ∧ (nx : Int) ≤ 4611686018427387904 ∧ acc.length ≤ k ∧ (0 < k → ∃ y p ty, L0[k - 1]? = some y ∧ part y = some (p, ty) ∧ nx = p + 1) ∧ R = (folFrom nb L0 k nx).map (acc ++ ·) ∧ RJAt wr w.heap.size g v ⟨nb, tx, acc, false⟩ ∧ Row w5.heap.size wr v acc ∧ Only w.heap.size w5 wr) (fun iv _ => L0.length - (intOf iv).toNat)
      case atStart => exact ⟨0, 0, [], .slice none 0 0, by omega, rfl, by omega, Nat.le_refl _, fun h => absurd h (by omega), HR0.out, HJ5.out, row_nil _ _, Only.refl _ _⟩
      case round =>
        obtain ⟨k, nx, acc, v, hk, rfl, hnx, hac, hlast, hr, hj, how, hon⟩ := hrel
        have HRR := Lib.hid hr
        have HJ := Lib.hid hj
        have HOW := Lib.hid how
        have HON := Lib.hid hon
        have HLAST := Lib.hid hlast
        have HBR := Lib.hid (show Below w.heap.size w wr from HB5.out.trans (hon.below_from HB5.out.size (Nat.le_refl _)))
        clear hr hj how hon hlast HR0
        by_cases hlt : k < L0.length
        · have hki : (k : Int) < L0.length := by omega
          obtain ⟨x, hx⟩ : ∃ x, L0[k]? = some x := ⟨L0[k], by simp [hlt]⟩
          have HK := Lib.hid hx
          obtain ⟨gl, rfl, hgl5, hcl⟩ := HC5.out k x hx
          have hxl : (x.length : Int) ≤ 140737488355328 := by have := HS0.out.2.1 x (List.mem_of_getElem? hx); omega
          have hcr : wr.cell? ⟨gl, k, none⟩ = some (.string ⟨x.toArray⟩) := HON.out.cell hcl (by show gl ≠ w.heap.size; have := HWT.out; omega)
          have HNX := Lib.hid (fun wx => number_ref x hxl wx)
          have c2 := HJ.out.c2
          dsimp only at c2
          clear hcl hx
          cases hp : part x with
          | none =>
            have HNO := Lib.hid (HFOL.out H2.out (show fol nb true 0 L0 = none from HR.out.trans (fol_none HK.out HRR.out hp)))
            rw [numV_none hp] at HNX
            clear hp
            go_wp2_with (go_at_call 87; refine (HNX.out _).mono ?_; rintro e w9 ⟨rfl, rfl⟩)
            go_ret2
            rw [HNO.out]
            exact ⟨Only.of_below HBR.out, HRF.out _ HBR.out, HO.out, rfl⟩
          | some qq =>
            obtain ⟨n, t⟩ := qq
            have HPT := Lib.hid hp
            have hnl := part_lt hp
            rw [numV_some hp] at HNX
            have h8i : (8 : Int) ≤ x.length := by have := (part_drop hp).1; omega
            have hext := part_ext hp
            have HBAD := Lib.hid (fun h => HFOL.out H2.out (show fol nb true 0 L0 = none from HR.out.trans (fol_bad HK.out HRR.out HPT.out h)))
            have HMORE0 := Lib.hid (fun h1 h2 => fol_more HK.out HRR.out HPT.out h1 h2)
            have HSKIP0 := Lib.hid (fun h1 h2 => fol_skip HK.out HRR.out HPT.out h1 h2)
            clear hp
            by_cases h1 : n < 1
            · have h1i : (n : Int) < 1 := by omega
              have HNO := Lib.hid (HBAD.out (Or.inl h1))
              clear HBAD HMORE0 HSKIP0
              go_wp2_with (go_at_call 87; refine (HNX.out _).mono ?_; rintro e w9 ⟨rfl, rfl⟩)
              go_ret2
              rw [HNO.out]
              exact ⟨Only.of_below HBR.out, HRF.out _ HBR.out, HO.out, rfl⟩
            · have h1i : ¬ (n : Int) < 1 := by omega
              by_cases h0 : k = 0
              · subst h0
                by_cases h3 : nb + 1 < n
                · have h3i : (nb : Int) + 1 < n := by omega
                  have HNO := Lib.hid (HBAD.out (Or.inr (Or.inl ⟨rfl, h3⟩)))
                  clear HBAD HMORE0 HSKIP0
                  go_wp2_with (go_at_call 87; refine (HNX.out _).mono ?_; rintro e w9 ⟨rfl, rfl⟩)
                  go_ret2
                  rw [HNO.out]
                  exact ⟨Only.of_below HBR.out, HRF.out _ HBR.out, HO.out, rfl⟩
                · have h3i : ¬ (nb : Int) + 1 < n := by omega
                  have hgood : ¬ badN nb (0 == 0) nx n := fun hb => by rcases hb with h | ⟨_, h⟩ | ⟨h, _⟩; exact h1 h; exact h3 h; exact absurd h (by decide)
                  by_cases hbn : nb < n
                  · have hbi : (nb : Int) < n := by omega
                    have HMORE := Lib.hid (HMORE0.out hgood hbn)
                    clear HMORE0 HSKIP0
                    have j3 := HJ.out.c3
                    have HBK := Lib.hid hbn
                    clear HBAD hgood hbn
                    go_upto_region 18 with (go_at_call 87; refine (HNX.out _).mono ?_; rintro e w9 ⟨rfl, rfl⟩)
                    obtain ⟨i0, hi, hz0, hz1, hz2⟩ := info_parts infoStr
                    have hba := ((Below.refl wr.heap.size wr).alloc (Nat.le_refl _) (.cells #[.string ⟨t.toArray⟩] 9 (0, 0))).drew
                    have HJa := Lib.hid (show RJAt (wr.alloc (.cells #[.string ⟨t.toArray⟩] 9 (0, 0))).drew w.heap.size g _ _ from HJ.out.below hba)
                    have HOa := Lib.hid (show (wr.alloc (.cells #[.string ⟨t.toArray⟩] 9 (0, 0))).drew.ownsRow w5.heap.size 9 1 v acc.length (strs acc) from HOW.out.alloc _)
                    have HIS := Lib.hid (And.intro hi (And.intro hz0 (And.intro hz1 hz2)))
                    have HBA := Lib.hid hba
                    have HWS := Lib.hid HON.out.size
                    have HJW := Lib.hid HJ5.out.lt
                    have j3a : (wr.alloc (.cells #[.string ⟨t.toArray⟩] 9 (0, 0))).cell? ⟨w.heap.size, 3, none⟩ = some v := HJa.out.c3
                    clear hi hz0 hz1 hz2 hba
                    go_region_law (first
                      | (refine step_append_lies _ rfl (.tmp 124) (.tmp 130) 50 rfl w5.heap.size 9 i0 (.string ByteArray.empty) 1 16 Try.underlying50 HIS.out.1 HIS.out.2.1 HIS.out.2.2.1 HIS.out.2.2.2 rfl (by decide) v acc.length (strs acc) ?_ HOa.out ⟨wr.heap.size, 0, none⟩ 1 1 [.string ⟨t.toArray⟩] ?_ rfl ?_ ?_ (by decide) ?_ ?_ (by have := HWS.out; have := HBA.out.size; omega) (wr.heap.size + 1) ?_ ?_
                         · simp [Act.eval]
                         · simp [Act.eval]
                         · exact cell_one_new _ _ _
                         · intro u hu; simp at hu; subst hu; rfl
                         · unfold maxLen; omega
                         · omega
                         · simp
                         intro g' cap' w7 hown' hgrow hgg hlt'
                         have hjn : some w.heap.size ≠ v.ownBlock := fun e => by have := (HOa.out.lt w.heap.size e.symm).1; have := HJW.out; omega
                         have hj7 := HJa.out.grown hgrow hjn
                         have y3 := hj7.c3
                         have yf := hj7.frozen 3
                         have HJ7 := Lib.hid hj7
                         have HO7 := Lib.hid ((HON.out.trans (Only.of_below HBA.out)).grow hgrow (fun k hk => (HOa.out.lt k hk).1))
                         replace hown' := Lib.hid hown'
                         clear hj7 hgrow hjn hlt' hgg))
                    all_goals
                      have HJ9 := Lib.hid (HJ7.out.set3 (.slice (some ⟨g', 0, none⟩) (acc.length + 1) cap') (acc ++ [t]))
                      have HO9 := Lib.hid (HO7.out.setCell 3 (.slice (some ⟨g', 0, none⟩) (acc.length + 1) cap'))
                      have HR9 := Lib.hid (show Row w5.heap.size _ (.slice (some ⟨g', 0, none⟩) (acc.length + 1) cap') (acc ++ [t]) from Row.snoc (own_setj hown'.out HJW.out 3 (.slice (some ⟨g', 0, none⟩) (acc.length + 1) cap')))
                      clear HJ7 HO7 hown' y3 yf HJa HOa HBA
                      go_wp2
                      go_roundw
                      case rel => exact ⟨0 + 1, n + 1, acc ++ [t], _, by omega, by go_num, by omega, by rw [List.length_append]; exact Nat.succ_le_succ hac, fun _ => ⟨x, n, t, HK.out, HPT.out, rfl⟩, HMORE.out, HJ9.out, HR9.out, HO9.out⟩
                      case measure => simp [intOf]; omega
                  · have hbi : ¬ (nb : Int) < n := by omega
                    have HSKIP := Lib.hid (HSKIP0.out hgood hbn)
                    clear HMORE0 HSKIP0
                    clear HBAD hgood hbn
                    go_wp2_with (go_at_call 87; refine (HNX.out _).mono ?_; rintro e w9 ⟨rfl, rfl⟩)
                    go_roundw
                    case rel => exact ⟨0 + 1, n + 1, acc, v, by omega, by go_num, by omega, by omega, fun _ => ⟨x, n, t, HK.out, HPT.out, rfl⟩, HSKIP.out, HJ.out, HOW.out, HON.out⟩
                    case measure => simp [intOf]; omega
              · have hk0 : ((k : Int) == 0) = false := by simpa using h0
                have hk1 : (0 : Int) < k := by omega
                have hkb : (k == 0) = false := by simpa using h0
                obtain ⟨y, p, ty, hy, hpy, hnxp⟩ := HLAST.out (by omega)
                have hyl : (y.length : Int) ≤ 140737488355328 := by have := HS0.out.2.1 y (List.mem_of_getElem? hy); omega
                have hpl := part_lt hpy
                have HNY := Lib.hid (fun wx => number_ref y hyl wx)
                rw [numV_some hpy] at HNY
                obtain ⟨gl2, hgl2, _, hcl2⟩ := HC5.out (k - 1) y hy
                simp only [Option.some.injEq, Addr.mk.injEq, and_true] at hgl2
                subst hgl2
                have hcr2 : wr.cell? ⟨gl, k - 1, none⟩ = some (.string ⟨y.toArray⟩) := HON.out.cell hcl2 (by show gl ≠ w.heap.size; have := HWT.out; omega)
                have hkm : ((k : Int) - 1).toNat = k - 1 := by omega
                have hkm1 : (0 : Int) ≤ (k : Int) - 1 := by omega
                have hkm2 : (k : Int) - 1 < L0.length := by omega
                have HNXP := Lib.hid hnxp
                clear hy hpy hcl2 hnxp
                by_cases h2 : n = p + 1
                · have h2i : ((n : Int) != (p : Int) + 1) = false := by simp [h2]
                  have hgood : ¬ badN nb (k == 0) nx n := fun hb => by rcases hb with h | ⟨h, _⟩ | ⟨_, h⟩; exact h1 h; exact absurd h (by rw [hkb]; decide); exact h (by rw [HNXP.out]; exact h2)
                  have H2N := Lib.hid h2
                  clear h2
                  by_cases hbn : nb < n
                  · have hbi : (nb : Int) < n := by omega
                    have HMORE := Lib.hid (HMORE0.out hgood hbn)
                    clear HMORE0 HSKIP0
                    have j3 := HJ.out.c3
                    have HBK := Lib.hid hbn
                    clear HBAD hgood hbn
                    go_upto_region 18 with (first | (go_at_call_of 87 (Value.string ⟨x.toArray⟩); refine (HNX.out _).mono ?_; rintro e w9 ⟨rfl, rfl⟩) | (go_at_call_of 87 (Value.string ⟨y.toArray⟩); refine (HNY.out _).mono ?_; rintro e w9 ⟨rfl, rfl⟩))
                    obtain ⟨i0, hi, hz0, hz1, hz2⟩ := info_parts infoStr
                    have hba := ((Below.refl wr.heap.size wr).alloc (Nat.le_refl _) (.cells #[.string ⟨t.toArray⟩] 9 (0, 0))).drew
                    have HJa := Lib.hid (show RJAt (wr.alloc (.cells #[.string ⟨t.toArray⟩] 9 (0, 0))).drew w.heap.size g _ _ from HJ.out.below hba)
                    have HOa := Lib.hid (show (wr.alloc (.cells #[.string ⟨t.toArray⟩] 9 (0, 0))).drew.ownsRow w5.heap.size 9 1 v acc.length (strs acc) from HOW.out.alloc _)
                    have HIS := Lib.hid (And.intro hi (And.intro hz0 (And.intro hz1 hz2)))
                    have HBA := Lib.hid hba
                    have HWS := Lib.hid HON.out.size
                    have HJW := Lib.hid HJ5.out.lt
                    have j3a : (wr.alloc (.cells #[.string ⟨t.toArray⟩] 9 (0, 0))).cell? ⟨w.heap.size, 3, none⟩ = some v := HJa.out.c3
                    clear hi hz0 hz1 hz2 hba
                    go_region_law (first
                      | (refine step_append_lies _ rfl (.tmp 124) (.tmp 130) 50 rfl w5.heap.size 9 i0 (.string ByteArray.empty) 1 16 Try.underlying50 HIS.out.1 HIS.out.2.1 HIS.out.2.2.1 HIS.out.2.2.2 rfl (by decide) v acc.length (strs acc) ?_ HOa.out ⟨wr.heap.size, 0, none⟩ 1 1 [.string ⟨t.toArray⟩] ?_ rfl ?_ ?_ (by decide) ?_ ?_ (by have := HWS.out; have := HBA.out.size; omega) (wr.heap.size + 1) ?_ ?_
                         · simp [Act.eval]
                         · simp [Act.eval]
                         · exact cell_one_new _ _ _
                         · intro u hu; simp at hu; subst hu; rfl
                         · unfold maxLen; omega
                         · omega
                         · simp
                         intro g' cap' w7 hown' hgrow hgg hlt'
                         have hjn : some w.heap.size ≠ v.ownBlock := fun e => by have := (HOa.out.lt w.heap.size e.symm).1; have := HJW.out; omega
                         have hj7 := HJa.out.grown hgrow hjn
                         have y3 := hj7.c3
                         have yf := hj7.frozen 3
                         have HJ7 := Lib.hid hj7
                         have HO7 := Lib.hid ((HON.out.trans (Only.of_below HBA.out)).grow hgrow (fun k hk => (HOa.out.lt k hk).1))
                         replace hown' := Lib.hid hown'
                         clear hj7 hgrow hjn hlt' hgg))
                    all_goals
                      have HJ9 := Lib.hid (HJ7.out.set3 (.slice (some ⟨g', 0, none⟩) (acc.length + 1) cap') (acc ++ [t]))
                      have HO9 := Lib.hid (HO7.out.setCell 3 (.slice (some ⟨g', 0, none⟩) (acc.length + 1) cap'))
                      have HR9 := Lib.hid (show Row w5.heap.size _ (.slice (some ⟨g', 0, none⟩) (acc.length + 1) cap') (acc ++ [t]) from Row.snoc (own_setj hown'.out HJW.out 3 (.slice (some ⟨g', 0, none⟩) (acc.length + 1) cap')))
                      clear HJ7 HO7 hown' y3 yf HJa HOa HBA
                      go_wp2
                      go_roundw
                      case rel => exact ⟨k + 1, n + 1, acc ++ [t], _, by omega, by go_num, by omega, by rw [List.length_append]; exact Nat.succ_le_succ hac, fun _ => ⟨x, n, t, HK.out, HPT.out, rfl⟩, HMORE.out, HJ9.out, HR9.out, HO9.out⟩
                      case measure => simp [intOf]; omega
                  · have hbi : ¬ (nb : Int) < n := by omega
                    have HSKIP := Lib.hid (HSKIP0.out hgood hbn)
                    clear HMORE0 HSKIP0
                    clear HBAD hgood hbn
                    go_wp2_with (first | (go_at_call_of 87 (Value.string ⟨x.toArray⟩); refine (HNX.out _).mono ?_; rintro e w9 ⟨rfl, rfl⟩) | (go_at_call_of 87 (Value.string ⟨y.toArray⟩); refine (HNY.out _).mono ?_; rintro e w9 ⟨rfl, rfl⟩))
                    go_roundw
                    case rel => exact ⟨k + 1, n + 1, acc, v, by omega, by go_num, by omega, by omega, fun _ => ⟨x, n, t, HK.out, HPT.out, rfl⟩, HSKIP.out, HJ.out, HOW.out, HON.out⟩
                    case measure => simp [intOf]; omega
                · have h2i : ((n : Int) != (p : Int) + 1) = true := by simpa using (show ¬ (n : Int) = (p : Int) + 1 by omega)
                  have HNO := Lib.hid (HBAD.out (Or.inr (Or.inr ⟨hkb, fun e => h2 (by rw [e, HNXP.out])⟩)))
                  clear HBAD HMORE0 HSKIP0 h2
                  go_wp2_with (first | (go_at_call_of 87 (Value.string ⟨x.toArray⟩); refine (HNX.out _).mono ?_; rintro e w9 ⟨rfl, rfl⟩) | (go_at_call_of 87 (Value.string ⟨y.toArray⟩); refine (HNY.out _).mono ?_; rintro e w9 ⟨rfl, rfl⟩))
                  go_ret2
                  rw [HNO.out]
                  exact ⟨Only.of_below HBR.out, HRF.out _ HBR.out, HO.out, rfl⟩
        · obtain rfl : k = L0.length := by omega
          have HF := Lib.hid (show fol nb true 0 L0 = some acc by rw [HR.out, HRR.out, fol_end]; simp)
          have HBX := Lib.hid (fun h4 => HBD.out acc H2.out HF.out h4)
          have HOX := Lib.hid (fun h4 => HOKK.out acc H2.out HF.out h4)
          have HSTEP := Lib.hid (show opS e0 d = runF [fun d => cutx 0 e0 d, fun d => cutx 2 0 d] d from rfl)
          generalize opS e0 d = S at *
          have HDR := Lib.hid (HRF.out _ HBR.out)
          have HRX := Lib.hid (show Row (w.heap.size + 1) wr v acc from own_mono HOW.out (by have := HWT.out; have := HJ5.out.lt; omega))
          have hc1 := code_cutx d 0 e0
          clear HBD HOKK HFOL HR HRR HF H2 HON HLAST HOW
          go_wp2_with fail
          go_at_call 88
          refine (cut_ref6 g d HO.out 0 e0 (by omega) _ HDR.out).mono ?_
          rintro e w7 ⟨rfl, hd7, ho7⟩
          have HD7 := Lib.hid hd7
          have HO7 := Lib.hid (cutx_ok HO.out 0 e0)
          have HN7 := Lib.hid ((Only.of_below (g := g) HBR.out).trans ho7)
          have HJ7 := Lib.hid (HJ.out.only ho7 (by omega))
          have HR7 := Lib.hid (HRX.out.only ho7 (fun k hk e => by have := (HRX.out.blk k hk).1; omega))
          have HG := Lib.hid (show (cutx 0 e0 d).code = 0 → S = runF [fun d => cutx 2 0 d] (cutx 0 e0 d).dk from fun h => HSTEP.out.trans (runF_go (F := fun d => cutx 0 e0 d) h))
          have HT := Lib.hid (show (cutx 0 e0 d).code ≠ 0 → S = cutx 0 e0 d from fun h => HSTEP.out.trans (runF_stop (F := fun d => cutx 0 e0 d) h))
          clear hd7 ho7 HDR HSTEP HJ HRX HBR
          obtain ⟨o, hO⟩ : ∃ o, cutx 0 e0 d = o := ⟨_, rfl⟩
          rw [hO] at HD7 HO7 HG HT hc1 ⊢
          clear hO
          obtain ⟨cc, d7⟩ := o
          dsimp only at HD7 HO7 HG HT hc1 ⊢
          rcases hc1 with rfl | rfl | rfl
          · have HG2 := Lib.hid (HG.out rfl)
            have hc2 := code_cutx d7 2 0
            clear HG HT
            go_wp2_with fail
            go_at_call 88
            refine (cut_ref6 g d7 HO7.out 2 0 (by omega) _ HD7.out).mono ?_
            rintro e w8 ⟨rfl, hd8, ho8⟩
            have HD8 := Lib.hid hd8
            have HO8 := Lib.hid (cutx_ok HO7.out 2 0)
            have HN8 := Lib.hid (HN7.out.trans ho8)
            have HJ8 := Lib.hid (HJ7.out.only ho8 (by omega))
            have HR8 := Lib.hid (HR7.out.only ho8 (fun k hk e => by have := (HR7.out.blk k hk).1; omega))
            have HGG := Lib.hid (show (cutx 2 0 d7).code = 0 → S = ⟨0, (cutx 2 0 d7).dk⟩ from fun h => HG2.out.trans (runF_go (F := fun d => cutx 2 0 d) h))
            have HTT := Lib.hid (show (cutx 2 0 d7).code ≠ 0 → S = cutx 2 0 d7 from fun h => HG2.out.trans (runF_stop (F := fun d => cutx 2 0 d) h))
            clear hd8 ho8 HD7 HO7 HN7 HJ7 HR7 HG2
            obtain ⟨o, hO⟩ : ∃ o, cutx 2 0 d7 = o := ⟨_, rfl⟩
            rw [hO] at HD8 HO8 HGG HTT hc2 ⊢
            clear hO
            obtain ⟨cd, d8⟩ := o
            dsimp only at HD8 HO8 HGG HTT hc2 ⊢
            rcases hc2 with rfl | rfl | rfl
            · have HA := Lib.hid (HOX.out (by rw [HGG.out rfl]))
              rw [HGG.out rfl] at HA
              clear HBX HOX HGG HTT
              go_wp2
              go_ret2
              rw [HA.out]
              exact ⟨HN8.out, HD8.out, HO8.out, rfl, v, ⟨HJ8.out, HD8.out, HO8.out, HR8.out, hgl, HBG.out⟩⟩
            · have HA := Lib.hid (HBX.out (by rw [HTT.out (by decide)]; exact (by decide : (9 : Int) ≠ 0)))
              rw [HTT.out (by decide)] at HA
              clear HBX HOX HGG HTT
              go_wp2
              go_ret2
              rw [HA.out]
              exact ⟨HN8.out, HD8.out, HO8.out, rfl⟩
            · have HA := Lib.hid (HBX.out (by rw [HTT.out (by decide)]; exact (by decide : (1 : Int) ≠ 0)))
              rw [HTT.out (by decide)] at HA
              clear HBX HOX HGG HTT
              go_wp2
              go_ret2
              rw [HA.out]
              exact ⟨HN8.out, HD8.out, HO8.out, rfl⟩
          · have HA := Lib.hid (HBX.out (by rw [HT.out (by decide)]; exact (by decide : (9 : Int) ≠ 0)))
            rw [HT.out (by decide)] at HA
            clear HBX HOX HG HT
            go_wp2
            go_ret2
            rw [HA.out]
            exact ⟨HN7.out, HD7.out, HO7.out, rfl⟩
          · have HA := Lib.hid (HBX.out (by rw [HT.out (by decide)]; exact (by decide : (1 : Int) ≠ 0)))
            rw [HT.out (by decide)] at HA
            clear HBX HOX HG HT
            go_wp2
            go_ret2
            rw [HA.out]
            exact ⟨HN7.out, HD7.out, HO7.out, rfl⟩
  · have hne := ne_empty_str he
    have HNE := Lib.hid he
    have hcb := (HRF.out _ HB1.out).cellb (i := 1) (by omega)
    have HSM := Lib.hid (fun h => openJ_snap (d := d) (snapOf_many he h))
    have HSO := Lib.hid (fun h => snapOf_one he h)
    have HSL := Lib.hid (And.intro (scan_len (d.b 1)) (scan_mem (d.b 1)))
    have HSC := Lib.hid (fun wx => rscan_l (d.b 1) (by omega) wx)
    have HOJ := Lib.hid (fun h => openJ_snap (d := d) h)
    clear he
    generalize hs1 : d.b 1 = s1 at *
    have HEQ1 := Lib.hid hs1
    clear hs1
    generalize scan s1 = q at *
    obtain ⟨L1, e1, b1⟩ := q
    dsimp only at HSM HSO HSL HSC
    have HJ1L := Lib.hid HJ1.out.lt
    go_upto_region 4 with (go_at_call 32; refine (HSC.out _).mono ?_; rintro e w2 ⟨v2, rfl, how2, hb2⟩)
    have HB2 := Lib.hid (HB1.out.trans (hb2.mono HB1.out.size))
    have HJ2 := Lib.hid (HJ1.out.below hb2)
    obtain ⟨al, cl, rfl, hc2⟩ := own_rows how2
    have HC2 := Lib.hid hc2
    clear hcb hb2 how2 hc2 HB1 HJ1 HSC hne
    by_cases hone : L1.length = 1 ∧ b1 = 0
    · obtain ⟨hL, hb0⟩ := hone
      obtain ⟨x, hx⟩ : ∃ x, L1 = [x] := by
        match L1, hL with
        | [x], _ => exact ⟨x, rfl⟩
      have HS1 := Lib.hid (show snapOf s1 = part x from by rw [HSO.out ⟨hL, hb0⟩, hx]; rfl)
      have hxl : (x.length : Int) ≤ 140737488355328 := by have := HSL.out.2.1 x (by rw [hx]; simp); omega
      subst hx
      subst hb0
      obtain ⟨gl, rfl, hgl2, hcx⟩ := HC2.out 0 x rfl
      have HNX := Lib.hid (fun wx => number_ref x hxl wx)
      cases hp : part x with
      | none =>
        have HNO := Lib.hid (HOJ.out (by rw [HS1.out, hp]))
        rw [numV_none hp] at HNX
        clear hp
        go_wp2_with (go_at_call 87; refine (HNX.out _).mono ?_; rintro e w3 ⟨rfl, rfl⟩)
        go_ret2
        rw [HNO.out]
        exact ⟨Only.of_below HB2.out, HRF.out _ HB2.out, HO.out, rfl⟩
      | some qq =>
        obtain ⟨nb, tx⟩ := qq
        have hnb := part_lt hp
        have HSNAP := Lib.hid (show snapOf (d.b 1) = some (nb, tx) by rw [HEQ1.out, HS1.out, hp])
        rw [numV_some hp] at HNX
        have h8 := (part_drop hp).1
        have h8i : (8 : Int) ≤ x.length := by omega
        have hext := part_ext hp
        have c2 := HJ2.out.c2
        have c1 := HJ2.out.c1
        have f2 := HJ2.out.frozen 2
        have f1 := HJ2.out.frozen 1
        have hgne : gl ≠ w.heap.size := by have := HJ1L.out; omega
        have hcy : (w2.setCell ⟨w.heap.size, 2, none⟩ (.int .i64 nb)).cell? ⟨gl, 0, none⟩ = some (.string ⟨x.toArray⟩) := by
          rw [World.cell?_setCell_other _ _ _ _ (by intro e; simp only [Addr.mk.injEq] at e; omega)]; exact hcx
        clear hp h8
        go_upto_region 8 with (go_at_call 87; refine (HNX.out _).mono ?_; rintro e w3 ⟨rfl, rfl⟩)
        have HJ3 := Lib.hid ((HJ2.out.set2 nb).set1 tx)
        have HB3 := Lib.hid ((HB2.out.setCell (p := ⟨w.heap.size, 2, none⟩) (Nat.le_refl _) (.int .i64 nb)).setCell (p := ⟨w.heap.size, 1, none⟩) (Nat.le_refl _) (.string ⟨tx.toArray⟩))
        clear c1 c2 f1 f2 hcy hcx hext HB2 HJ2 HNX
        generalize (w2.setCell ⟨w.heap.size, 2, none⟩ (.int .i64 nb)).setCell ⟨w.heap.size, 1, none⟩ (.string ⟨tx.toArray⟩) = w3 at *
        have hbs := snapOf_lt HSNAP.out
        have HTWO := Lib.hid (fun hh => openJ_two HSNAP.out hh)
        have HFOL := Lib.hid (fun h2 h3 => openJ_fol HSNAP.out h2 h3)
        have HBD := Lib.hid (fun rs h2 h3 h4 => openJ_bad (rs := rs) HSNAP.out h2 h3 h4)
        have HOKK := Lib.hid (fun rs h2 h3 h4 => openJ_ok (rs := rs) HSNAP.out h2 h3 h4)
        have HS0 := Lib.hid (And.intro (scan_len (d.b 0)) (scan_mem (d.b 0)))
        have hcb := (HRF.out _ HB3.out).cellb (i := 0) (by omega)
        clear HSNAP
        generalize d.b 0 = s0 at *
        have HSC0 := Lib.hid (fun wx => rscan_l s0 (by omega) wx)
        generalize scan s0 = q at *
        obtain ⟨L0, e0, b0⟩ := q
        dsimp only at HTWO HFOL HBD HOKK HS0 HSC0
        go_upto_region 9 with (go_at_call 32; refine (HSC0.out _).mono ?_; rintro e w5 ⟨v5, rfl, how5, hb5⟩)
        have HB5 := Lib.hid (HB3.out.trans (hb5.mono HB3.out.size))
        have HJ5 := Lib.hid (HJ3.out.below hb5)
        obtain ⟨a0, c0, rfl, hc5⟩ := own_rows how5
        have HC5 := Lib.hid hc5
        have HWT := Lib.hid (HJ3.out.lt)
        have hL0 := HS0.out.1
        clear hcb hb5 how5 hc5 HB3 HJ3 HSC0
        by_cases h2 : b0 = 2
        · have h2i : ((b0 : Int) == 2) = true := by simp [h2]
          have HNO := Lib.hid (HTWO.out h2)
          clear h2 HTWO HFOL HBD HOKK
          go_wp2
          go_ret2
          rw [HNO.out]
          exact ⟨Only.of_below HB5.out, HRF.out _ HB5.out, HO.out, rfl⟩
        · have h2i : ((b0 : Int) == 2) = false := by simp; omega
          obtain ⟨R, hR⟩ : ∃ R, fol nb true 0 L0 = R := ⟨_, rfl⟩
          have HR := Lib.hid hR
          have HR0 := Lib.hid (show R = (folFrom nb L0 0 0).map ([] ++ ·) by rw [← hR]; unfold folFrom; simp)
          have H2 := Lib.hid h2
          clear hR h2 HTWO
          go_wp2_with fail
          go_loopw [11] (fun iv wr => ∃ (k nx : Nat) (acc : List (List UInt8)) (v : Value), k ≤ L0.length ∧ iv = .int .i64 k ∧ (nx : Int) ≤ 4611686018427387904 ∧ acc.length ≤ k ∧ (0 < k → ∃ y p ty, L0[k - 1]? = some y ∧ part y = some (p, ty) ∧ nx = p + 1) ∧ R = (folFrom nb L0 k nx).map (acc ++ ·) ∧ RJAt wr w.heap.size g v ⟨nb, tx, acc, false⟩ ∧ Row w5.heap.size wr v acc ∧ Only w.heap.size w5 wr) (fun iv _ => L0.length - (intOf iv).toNat)
          case atStart => exact ⟨0, 0, [], .slice none 0 0, by omega, rfl, by omega, Nat.le_refl _, fun h => absurd h (by omega), HR0.out, HJ5.out, row_nil _ _, Only.refl _ _⟩
          case round =>
            obtain ⟨k, nx, acc, v, hk, rfl, hnx, hac, hlast, hr, hj, how, hon⟩ := hrel
            have HRR := Lib.hid hr
            have HJ := Lib.hid hj
            have HOW := Lib.hid how
            have HON := Lib.hid hon
            have HLAST := Lib.hid hlast
            have HBR := Lib.hid (show Below w.heap.size w wr from HB5.out.trans (hon.below_from HB5.out.size (Nat.le_refl _)))
            clear hr hj how hon hlast HR0
            by_cases hlt : k < L0.length
            · have hki : (k : Int) < L0.length := by omega
              obtain ⟨x, hx⟩ : ∃ x, L0[k]? = some x := ⟨L0[k], by simp [hlt]⟩
              have HK := Lib.hid hx
              obtain ⟨gl, rfl, hgl5, hcl⟩ := HC5.out k x hx
              have hxl : (x.length : Int) ≤ 140737488355328 := by have := HS0.out.2.1 x (List.mem_of_getElem? hx); omega
              have hcr : wr.cell? ⟨gl, k, none⟩ = some (.string ⟨x.toArray⟩) := HON.out.cell hcl (by show gl ≠ w.heap.size; have := HWT.out; omega)
              have HNX := Lib.hid (fun wx => number_ref x hxl wx)
              have c2 := HJ.out.c2
              dsimp only at c2
              clear hcl hx
              cases hp : part x with
              | none =>
                have HNO := Lib.hid (HFOL.out H2.out (show fol nb true 0 L0 = none from HR.out.trans (fol_none HK.out HRR.out hp)))
                rw [numV_none hp] at HNX
                clear hp
                go_wp2_with (go_at_call 87; refine (HNX.out _).mono ?_; rintro e w9 ⟨rfl, rfl⟩)
                go_ret2
                rw [HNO.out]
                exact ⟨Only.of_below HBR.out, HRF.out _ HBR.out, HO.out, rfl⟩
              | some qq =>
                obtain ⟨n, t⟩ := qq
                have HPT := Lib.hid hp
                have hnl := part_lt hp
                rw [numV_some hp] at HNX
                have h8i : (8 : Int) ≤ x.length := by have := (part_drop hp).1; omega
                have hext := part_ext hp
                have HBAD := Lib.hid (fun h => HFOL.out H2.out (show fol nb true 0 L0 = none from HR.out.trans (fol_bad HK.out HRR.out HPT.out h)))
                have HMORE0 := Lib.hid (fun h1 h2 => fol_more HK.out HRR.out HPT.out h1 h2)
                have HSKIP0 := Lib.hid (fun h1 h2 => fol_skip HK.out HRR.out HPT.out h1 h2)
                clear hp
                by_cases h1 : n < 1
                · have h1i : (n : Int) < 1 := by omega
                  have HNO := Lib.hid (HBAD.out (Or.inl h1))
                  clear HBAD HMORE0 HSKIP0
                  go_wp2_with (go_at_call 87; refine (HNX.out _).mono ?_; rintro e w9 ⟨rfl, rfl⟩)
                  go_ret2
                  rw [HNO.out]
                  exact ⟨Only.of_below HBR.out, HRF.out _ HBR.out, HO.out, rfl⟩
                · have h1i : ¬ (n : Int) < 1 := by omega
                  by_cases h0 : k = 0
                  · subst h0
                    by_cases h3 : nb + 1 < n
                    · have h3i : (nb : Int) + 1 < n := by omega
                      have HNO := Lib.hid (HBAD.out (Or.inr (Or.inl ⟨rfl, h3⟩)))
                      clear HBAD HMORE0 HSKIP0
                      go_wp2_with (go_at_call 87; refine (HNX.out _).mono ?_; rintro e w9 ⟨rfl, rfl⟩)
                      go_ret2
                      rw [HNO.out]
                      exact ⟨Only.of_below HBR.out, HRF.out _ HBR.out, HO.out, rfl⟩
                    · have h3i : ¬ (nb : Int) + 1 < n := by omega
                      have hgood : ¬ badN nb (0 == 0) nx n := fun hb => by rcases hb with h | ⟨_, h⟩ | ⟨h, _⟩; exact h1 h; exact h3 h; exact absurd h (by decide)
                      by_cases hbn : nb < n
                      · have hbi : (nb : Int) < n := by omega
                        have HMORE := Lib.hid (HMORE0.out hgood hbn)
                        clear HMORE0 HSKIP0
                        have j3 := HJ.out.c3
                        have HBK := Lib.hid hbn
                        clear HBAD hgood hbn
                        go_upto_region 18 with (go_at_call 87; refine (HNX.out _).mono ?_; rintro e w9 ⟨rfl, rfl⟩)
                        obtain ⟨i0, hi, hz0, hz1, hz2⟩ := info_parts infoStr
                        have hba := ((Below.refl wr.heap.size wr).alloc (Nat.le_refl _) (.cells #[.string ⟨t.toArray⟩] 9 (0, 0))).drew
                        have HJa := Lib.hid (show RJAt (wr.alloc (.cells #[.string ⟨t.toArray⟩] 9 (0, 0))).drew w.heap.size g _ _ from HJ.out.below hba)
                        have HOa := Lib.hid (show (wr.alloc (.cells #[.string ⟨t.toArray⟩] 9 (0, 0))).drew.ownsRow w5.heap.size 9 1 v acc.length (strs acc) from HOW.out.alloc _)
                        have HIS := Lib.hid (And.intro hi (And.intro hz0 (And.intro hz1 hz2)))
                        have HBA := Lib.hid hba
                        have HWS := Lib.hid HON.out.size
                        have HJW := Lib.hid HJ5.out.lt
                        have j3a : (wr.alloc (.cells #[.string ⟨t.toArray⟩] 9 (0, 0))).cell? ⟨w.heap.size, 3, none⟩ = some v := HJa.out.c3
                        clear hi hz0 hz1 hz2 hba
                        go_region_law (first
                          | (refine step_append_lies _ rfl (.tmp 124) (.tmp 130) 50 rfl w5.heap.size 9 i0 (.string ByteArray.empty) 1 16 Try.underlying50 HIS.out.1 HIS.out.2.1 HIS.out.2.2.1 HIS.out.2.2.2 rfl (by decide) v acc.length (strs acc) ?_ HOa.out ⟨wr.heap.size, 0, none⟩ 1 1 [.string ⟨t.toArray⟩] ?_ rfl ?_ ?_ (by decide) ?_ ?_ (by have := HWS.out; have := HBA.out.size; omega) (wr.heap.size + 1) ?_ ?_
                             · simp [Act.eval]
                             · simp [Act.eval]
                             · exact cell_one_new _ _ _
                             · intro u hu; simp at hu; subst hu; rfl
                             · unfold maxLen; omega
                             · omega
                             · simp
                             intro g' cap' w7 hown' hgrow hgg hlt'
                             have hjn : some w.heap.size ≠ v.ownBlock := fun e => by have := (HOa.out.lt w.heap.size e.symm).1; have := HJW.out; omega
                             have hj7 := HJa.out.grown hgrow hjn
                             have y3 := hj7.c3
                             have yf := hj7.frozen 3
                             have HJ7 := Lib.hid hj7
                             have HO7 := Lib.hid ((HON.out.trans (Only.of_below HBA.out)).grow hgrow (fun k hk => (HOa.out.lt k hk).1))
                             replace hown' := Lib.hid hown'
                             clear hj7 hgrow hjn hlt' hgg))
                        all_goals
                          have HJ9 := Lib.hid (HJ7.out.set3 (.slice (some ⟨g', 0, none⟩) (acc.length + 1) cap') (acc ++ [t]))
                          have HO9 := Lib.hid (HO7.out.setCell 3 (.slice (some ⟨g', 0, none⟩) (acc.length + 1) cap'))
                          have HR9 := Lib.hid (show Row w5.heap.size _ (.slice (some ⟨g', 0, none⟩) (acc.length + 1) cap') (acc ++ [t]) from Row.snoc (own_setj hown'.out HJW.out 3 (.slice (some ⟨g', 0, none⟩) (acc.length + 1) cap')))
                          clear HJ7 HO7 hown' y3 yf HJa HOa HBA
                          go_wp2
                          go_roundw
                          case rel => exact ⟨0 + 1, n + 1, acc ++ [t], _, by omega, by go_num, by omega, by rw [List.length_append]; exact Nat.succ_le_succ hac, fun _ => ⟨x, n, t, HK.out, HPT.out, rfl⟩, HMORE.out, HJ9.out, HR9.out, HO9.out⟩
                          case measure => simp [intOf]; omega
                      · have hbi : ¬ (nb : Int) < n := by omega
                        have HSKIP := Lib.hid (HSKIP0.out hgood hbn)
                        clear HMORE0 HSKIP0
                        clear HBAD hgood hbn
                        go_wp2_with (go_at_call 87; refine (HNX.out _).mono ?_; rintro e w9 ⟨rfl, rfl⟩)
                        go_roundw
                        case rel => exact ⟨0 + 1, n + 1, acc, v, by omega, by go_num, by omega, by omega, fun _ => ⟨x, n, t, HK.out, HPT.out, rfl⟩, HSKIP.out, HJ.out, HOW.out, HON.out⟩
                        case measure => simp [intOf]; omega
                  · have hk0 : ((k : Int) == 0) = false := by simpa using h0
                    have hk1 : (0 : Int) < k := by omega
                    have hkb : (k == 0) = false := by simpa using h0
                    obtain ⟨y, p, ty, hy, hpy, hnxp⟩ := HLAST.out (by omega)
                    have hyl : (y.length : Int) ≤ 140737488355328 := by have := HS0.out.2.1 y (List.mem_of_getElem? hy); omega
                    have hpl := part_lt hpy
                    have HNY := Lib.hid (fun wx => number_ref y hyl wx)
                    rw [numV_some hpy] at HNY
                    obtain ⟨gl2, hgl2, _, hcl2⟩ := HC5.out (k - 1) y hy
                    simp only [Option.some.injEq, Addr.mk.injEq, and_true] at hgl2
                    subst hgl2
                    have hcr2 : wr.cell? ⟨gl, k - 1, none⟩ = some (.string ⟨y.toArray⟩) := HON.out.cell hcl2 (by show gl ≠ w.heap.size; have := HWT.out; omega)
                    have hkm : ((k : Int) - 1).toNat = k - 1 := by omega
                    have hkm1 : (0 : Int) ≤ (k : Int) - 1 := by omega
                    have hkm2 : (k : Int) - 1 < L0.length := by omega
                    have HNXP := Lib.hid hnxp
                    clear hy hpy hcl2 hnxp
                    by_cases h2 : n = p + 1
                    · have h2i : ((n : Int) != (p : Int) + 1) = false := by simp [h2]
                      have hgood : ¬ badN nb (k == 0) nx n := fun hb => by rcases hb with h | ⟨h, _⟩ | ⟨_, h⟩; exact h1 h; exact absurd h (by rw [hkb]; decide); exact h (by rw [HNXP.out]; exact h2)
                      have H2N := Lib.hid h2
                      clear h2
                      by_cases hbn : nb < n
                      · have hbi : (nb : Int) < n := by omega
                        have HMORE := Lib.hid (HMORE0.out hgood hbn)
                        clear HMORE0 HSKIP0
                        have j3 := HJ.out.c3
                        have HBK := Lib.hid hbn
                        clear HBAD hgood hbn
                        go_upto_region 18 with (first | (go_at_call_of 87 (Value.string ⟨x.toArray⟩); refine (HNX.out _).mono ?_; rintro e w9 ⟨rfl, rfl⟩) | (go_at_call_of 87 (Value.string ⟨y.toArray⟩); refine (HNY.out _).mono ?_; rintro e w9 ⟨rfl, rfl⟩))
                        obtain ⟨i0, hi, hz0, hz1, hz2⟩ := info_parts infoStr
                        have hba := ((Below.refl wr.heap.size wr).alloc (Nat.le_refl _) (.cells #[.string ⟨t.toArray⟩] 9 (0, 0))).drew
                        have HJa := Lib.hid (show RJAt (wr.alloc (.cells #[.string ⟨t.toArray⟩] 9 (0, 0))).drew w.heap.size g _ _ from HJ.out.below hba)
                        have HOa := Lib.hid (show (wr.alloc (.cells #[.string ⟨t.toArray⟩] 9 (0, 0))).drew.ownsRow w5.heap.size 9 1 v acc.length (strs acc) from HOW.out.alloc _)
                        have HIS := Lib.hid (And.intro hi (And.intro hz0 (And.intro hz1 hz2)))
                        have HBA := Lib.hid hba
                        have HWS := Lib.hid HON.out.size
                        have HJW := Lib.hid HJ5.out.lt
                        have j3a : (wr.alloc (.cells #[.string ⟨t.toArray⟩] 9 (0, 0))).cell? ⟨w.heap.size, 3, none⟩ = some v := HJa.out.c3
                        clear hi hz0 hz1 hz2 hba
                        go_region_law (first
                          | (refine step_append_lies _ rfl (.tmp 124) (.tmp 130) 50 rfl w5.heap.size 9 i0 (.string ByteArray.empty) 1 16 Try.underlying50 HIS.out.1 HIS.out.2.1 HIS.out.2.2.1 HIS.out.2.2.2 rfl (by decide) v acc.length (strs acc) ?_ HOa.out ⟨wr.heap.size, 0, none⟩ 1 1 [.string ⟨t.toArray⟩] ?_ rfl ?_ ?_ (by decide) ?_ ?_ (by have := HWS.out; have := HBA.out.size; omega) (wr.heap.size + 1) ?_ ?_
                             · simp [Act.eval]
                             · simp [Act.eval]
                             · exact cell_one_new _ _ _
                             · intro u hu; simp at hu; subst hu; rfl
                             · unfold maxLen; omega
                             · omega
                             · simp
                             intro g' cap' w7 hown' hgrow hgg hlt'
                             have hjn : some w.heap.size ≠ v.ownBlock := fun e => by have := (HOa.out.lt w.heap.size e.symm).1; have := HJW.out; omega
                             have hj7 := HJa.out.grown hgrow hjn
                             have y3 := hj7.c3
                             have yf := hj7.frozen 3
                             have HJ7 := Lib.hid hj7
                             have HO7 := Lib.hid ((HON.out.trans (Only.of_below HBA.out)).grow hgrow (fun k hk => (HOa.out.lt k hk).1))
                             replace hown' := Lib.hid hown'
                             clear hj7 hgrow hjn hlt' hgg))
                        all_goals
                          have HJ9 := Lib.hid (HJ7.out.set3 (.slice (some ⟨g', 0, none⟩) (acc.length + 1) cap') (acc ++ [t]))
                          have HO9 := Lib.hid (HO7.out.setCell 3 (.slice (some ⟨g', 0, none⟩) (acc.length + 1) cap'))
                          have HR9 := Lib.hid (show Row w5.heap.size _ (.slice (some ⟨g', 0, none⟩) (acc.length + 1) cap') (acc ++ [t]) from Row.snoc (own_setj hown'.out HJW.out 3 (.slice (some ⟨g', 0, none⟩) (acc.length + 1) cap')))
                          clear HJ7 HO7 hown' y3 yf HJa HOa HBA
                          go_wp2
                          go_roundw
                          case rel => exact ⟨k + 1, n + 1, acc ++ [t], _, by omega, by go_num, by omega, by rw [List.length_append]; exact Nat.succ_le_succ hac, fun _ => ⟨x, n, t, HK.out, HPT.out, rfl⟩, HMORE.out, HJ9.out, HR9.out, HO9.out⟩
                          case measure => simp [intOf]; omega
                      · have hbi : ¬ (nb : Int) < n := by omega
                        have HSKIP := Lib.hid (HSKIP0.out hgood hbn)
                        clear HMORE0 HSKIP0
                        clear HBAD hgood hbn
                        go_wp2_with (first | (go_at_call_of 87 (Value.string ⟨x.toArray⟩); refine (HNX.out _).mono ?_; rintro e w9 ⟨rfl, rfl⟩) | (go_at_call_of 87 (Value.string ⟨y.toArray⟩); refine (HNY.out _).mono ?_; rintro e w9 ⟨rfl, rfl⟩))
                        go_roundw
                        case rel => exact ⟨k + 1, n + 1, acc, v, by omega, by go_num, by omega, by omega, fun _ => ⟨x, n, t, HK.out, HPT.out, rfl⟩, HSKIP.out, HJ.out, HOW.out, HON.out⟩
                        case measure => simp [intOf]; omega
                    · have h2i : ((n : Int) != (p : Int) + 1) = true := by simpa using (show ¬ (n : Int) = (p : Int) + 1 by omega)
                      have HNO := Lib.hid (HBAD.out (Or.inr (Or.inr ⟨hkb, fun e => h2 (by rw [e, HNXP.out])⟩)))
                      clear HBAD HMORE0 HSKIP0 h2
                      go_wp2_with (first | (go_at_call_of 87 (Value.string ⟨x.toArray⟩); refine (HNX.out _).mono ?_; rintro e w9 ⟨rfl, rfl⟩) | (go_at_call_of 87 (Value.string ⟨y.toArray⟩); refine (HNY.out _).mono ?_; rintro e w9 ⟨rfl, rfl⟩))
                      go_ret2
                      rw [HNO.out]
                      exact ⟨Only.of_below HBR.out, HRF.out _ HBR.out, HO.out, rfl⟩
            · obtain rfl : k = L0.length := by omega
              have HF := Lib.hid (show fol nb true 0 L0 = some acc by rw [HR.out, HRR.out, fol_end]; simp)
              have HBX := Lib.hid (fun h4 => HBD.out acc H2.out HF.out h4)
              have HOX := Lib.hid (fun h4 => HOKK.out acc H2.out HF.out h4)
              have HSTEP := Lib.hid (show opS e0 d = runF [fun d => cutx 0 e0 d, fun d => cutx 2 0 d] d from rfl)
              generalize opS e0 d = S at *
              have HDR := Lib.hid (HRF.out _ HBR.out)
              have HRX := Lib.hid (show Row (w.heap.size + 1) wr v acc from own_mono HOW.out (by have := HWT.out; have := HJ5.out.lt; omega))
              have hc1 := code_cutx d 0 e0
              clear HBD HOKK HFOL HR HRR HF H2 HON HLAST HOW
              go_wp2_with fail
              go_at_call 88
              refine (cut_ref6 g d HO.out 0 e0 (by omega) _ HDR.out).mono ?_
              rintro e w7 ⟨rfl, hd7, ho7⟩
              have HD7 := Lib.hid hd7
              have HO7 := Lib.hid (cutx_ok HO.out 0 e0)
              have HN7 := Lib.hid ((Only.of_below (g := g) HBR.out).trans ho7)
              have HJ7 := Lib.hid (HJ.out.only ho7 (by omega))
              have HR7 := Lib.hid (HRX.out.only ho7 (fun k hk e => by have := (HRX.out.blk k hk).1; omega))
              have HG := Lib.hid (show (cutx 0 e0 d).code = 0 → S = runF [fun d => cutx 2 0 d] (cutx 0 e0 d).dk from fun h => HSTEP.out.trans (runF_go (F := fun d => cutx 0 e0 d) h))
              have HT := Lib.hid (show (cutx 0 e0 d).code ≠ 0 → S = cutx 0 e0 d from fun h => HSTEP.out.trans (runF_stop (F := fun d => cutx 0 e0 d) h))
              clear hd7 ho7 HDR HSTEP HJ HRX HBR
              obtain ⟨o, hO⟩ : ∃ o, cutx 0 e0 d = o := ⟨_, rfl⟩
              rw [hO] at HD7 HO7 HG HT hc1 ⊢
              clear hO
              obtain ⟨cc, d7⟩ := o
              dsimp only at HD7 HO7 HG HT hc1 ⊢
              rcases hc1 with rfl | rfl | rfl
              · have HG2 := Lib.hid (HG.out rfl)
                have hc2 := code_cutx d7 2 0
                clear HG HT
                go_wp2_with fail
                go_at_call 88
                refine (cut_ref6 g d7 HO7.out 2 0 (by omega) _ HD7.out).mono ?_
                rintro e w8 ⟨rfl, hd8, ho8⟩
                have HD8 := Lib.hid hd8
                have HO8 := Lib.hid (cutx_ok HO7.out 2 0)
                have HN8 := Lib.hid (HN7.out.trans ho8)
                have HJ8 := Lib.hid (HJ7.out.only ho8 (by omega))
                have HR8 := Lib.hid (HR7.out.only ho8 (fun k hk e => by have := (HR7.out.blk k hk).1; omega))
                have HGG := Lib.hid (show (cutx 2 0 d7).code = 0 → S = ⟨0, (cutx 2 0 d7).dk⟩ from fun h => HG2.out.trans (runF_go (F := fun d => cutx 2 0 d) h))
                have HTT := Lib.hid (show (cutx 2 0 d7).code ≠ 0 → S = cutx 2 0 d7 from fun h => HG2.out.trans (runF_stop (F := fun d => cutx 2 0 d) h))
                clear hd8 ho8 HD7 HO7 HN7 HJ7 HR7 HG2
                obtain ⟨o, hO⟩ : ∃ o, cutx 2 0 d7 = o := ⟨_, rfl⟩
                rw [hO] at HD8 HO8 HGG HTT hc2 ⊢
                clear hO
                obtain ⟨cd, d8⟩ := o
                dsimp only at HD8 HO8 HGG HTT hc2 ⊢
                rcases hc2 with rfl | rfl | rfl
                · have HA := Lib.hid (HOX.out (by rw [HGG.out rfl]))
                  rw [HGG.out rfl] at HA
                  clear HBX HOX HGG HTT
                  go_wp2
                  go_ret2
                  rw [HA.out]
                  exact ⟨HN8.out, HD8.out, HO8.out, rfl, v, ⟨HJ8.out, HD8.out, HO8.out, HR8.out, hgl, HBG.out⟩⟩
                · have HA := Lib.hid (HBX.out (by rw [HTT.out (by decide)]; exact (by decide : (9 : Int) ≠ 0)))
                  rw [HTT.out (by decide)] at HA
                  clear HBX HOX HGG HTT
                  go_wp2
                  go_ret2
                  rw [HA.out]
                  exact ⟨HN8.out, HD8.out, HO8.out, rfl⟩
                · have HA := Lib.hid (HBX.out (by rw [HTT.out (by decide)]; exact (by decide : (1 : Int) ≠ 0)))
                  rw [HTT.out (by decide)] at HA
                  clear HBX HOX HGG HTT
                  go_wp2
                  go_ret2
                  rw [HA.out]
                  exact ⟨HN8.out, HD8.out, HO8.out, rfl⟩
              · have HA := Lib.hid (HBX.out (by rw [HT.out (by decide)]; exact (by decide : (9 : Int) ≠ 0)))
                rw [HT.out (by decide)] at HA
                clear HBX HOX HG HT
                go_wp2
                go_ret2
                rw [HA.out]
                exact ⟨HN7.out, HD7.out, HO7.out, rfl⟩
              · have HA := Lib.hid (HBX.out (by rw [HT.out (by decide)]; exact (by decide : (1 : Int) ≠ 0)))
                rw [HT.out (by decide)] at HA
                clear HBX HOX HG HT
                go_wp2
                go_ret2
                rw [HA.out]
                exact ⟨HN7.out, HD7.out, HO7.out, rfl⟩
    · have HNO := Lib.hid (HSM.out hone)
      have h0 : ¬ ((L1.length : Int) != 1) = true ∨ ((L1.length : Int) != 1) = true := by
        cases ((L1.length : Int) != 1) <;> simp
      rcases h0 with h0 | h0
      · have h0f : ((L1.length : Int) != 1) = false := by simpa using h0
        have hb1 : ((b1 : Int) != 0) = true := by
          have : (L1.length : Int) = 1 := by simpa using h0f
          have h3 : b1 ≠ 0 := fun e => hone ⟨by omega, e⟩
          simpa using h3
        clear hone h0
        go_wp2
        go_ret2
        rw [HNO.out]
        exact ⟨Only.of_below HB2.out, HRF.out _ HB2.out, HO.out, rfl⟩
      · clear hone
        go_wp2
        go_ret2
        rw [HNO.out]
        exact ⟨Only.of_below HB2.out, HRF.out _ HB2.out, HO.out, rfl⟩
end Go.Proofs.Ytdphnhgogokidaa
