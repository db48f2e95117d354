/- LAW TopBoth: of every configuration of a bank and every list of byte strings the given function TopBoth returns true and leaves its arguments as they were; no condition. A part of what it needs. -/
import Derived.Test.YtgcnnbjbdfgglaaGreatZbg
import Derived.Test.YtgcnnbjbdfgglaaGreatZbh
namespace Go.Proofs.YtgcnnbjbdfgglaaGreat
open Go.RowKit
def big64:Int:=9223372036854775807
def ClonedO (T:TypeId) (K n:Nat) (f:Nat→Nat→Value) (w:World) (e:Ending) (w':World):Prop:=∃ g c,e = .returned (.slice (some ⟨g,0,none⟩) n c)∧w'.ownsRow w.heap.size T K (.slice (some ⟨g,0,none⟩) n c) n (flatK K n f)∧Below w.heap.size w w'
set_option maxRecDepth 100000 in
set_option maxHeartbeats 1000000 in
theorem Bk.cloneLimO {w:World} {v:Value} {n:Nat} {f:Nat→Nat→Value} (hn:0 < n) (hn2:(n:Int)≤4000) (h:SlK w v 2 n f) (h1:∀ i j,i < n→j < 2→(f i j).oneCell' = true):Calls Tryz.prog 97 #[v] w (ClonedO 84 2 n f w):=by
 obtain ⟨i0,hi,hz0,hz1,hz2⟩:=info_parts Bk.infcLim
 have HH:=h
 obtain ⟨a,c,rfl,hc⟩:=h
 obtain ⟨b,o,rfl,hc⟩:=hc hn
 have HF:=Lib.hid (HH.flat (by omega))
 have H1:=Lib.hid (flatK_one (K:=2) (by omega) h1)
 clear hc HH h1
 have he:=Bk.eqlLim ⟨b,o,none⟩ n c
 have hb0:=(Below.refl w.heap.size w).alloc (Nat.le_refl _) (.cells #[] 84)
 go_enter Tryz.func97,Tryz.ntmps97
 go_wp2_with (at_builtin; with_reducible refine wpList_append_own _ rfl (.tmp 5) (.tmp 6) 23 rfl w.heap.size 84 i0 _ 2 32 Tryz.underlying23 hi hz0 hz1 hz2 rfl (by decide) _ _ _ rfl (World.ownsRow_made w #[] 0 (Nat.le_refl _) (Nat.zero_le _) rfl) ⟨b,o,none⟩ n c (flatK 2 n f) rfl ?c0 ?c1 ?c2 ?c3 ?c4 ?c5 ?_)
 case c0 => exact flatK_len _ _ _
 case c1 => intro j u hu; exact Bk.kept ((Below.refl w.heap.size w).alloc (Nat.le_refl _) (.cells #[] 84)) (HF.out j u hu)
 case c2 => exact H1.out
 case c3 => unfold maxLen; omega
 case c4 => omega
 case c5 => simp
 intro v' w3 hown hgrow _
 have hb3:=hb0.grown hgrow (by simp) (by intro k hk; simp [Value.ownBlock] at hk; omega)
 obtain ⟨g,c2,rfl⟩:∃ g c2,v' = .slice (some ⟨g,0,none⟩) n c2:=by
  rcases hown.2 with ⟨_,h⟩ | ⟨g,cap2,cur,h,_⟩
  · omega
  · exact ⟨g,cap2,h⟩
 have HO:=Lib.hid hown
 clear hown hgrow hb0 he
 go_wp2
 go_ret
 have hown:=HO.out
 refine ⟨g,c2,rfl,?_,hb3⟩
 simpa using hown
def LmPost (N C:Nat) (m:Nat→Nat) (f:Nat→Nat→Int) (all:Nat→Int) (w:World) (e:Ending) (w':World):Prop:=∃ v sv',e = .returned v∧LimsIn w' v (N + 1) sv' (fun i => if i < N then m i else C) (fun i j => if i < N then f i j else big64) (fun i => if i < N then all i else big64)∧Below w.heap.size w w'
theorem lims_snoc {w w7:World} {lv:Value} {N C:Nat} {sv:Nat→Value} {m:Nat→Nat} {f:Nat→Nat→Int} {all:Nat→Int} (hl:LimsIn w lv N sv m f all) (_hC:(C:Int)≤4000) {g6 g' cap':Nat} {F:Nat→Nat→Value} (hF:F = fun i j => if j = 0 then sv i else .int .i64 (all i)) (hown:w7.ownsRow w.heap.size 84 2 (.slice (some ⟨g',0,none⟩) (N + 1) cap') (N + 1) (flatK 2 N F ++ [.slice (some ⟨g6,0,none⟩) C C,.int .i64 big64])) (hb:Below w.heap.size w w7) (hcur:∀ i,i < C→w7.cell? ⟨g6,i,none⟩ = some (.int .i64 big64)):LmPost N C m f all w (.returned (.slice (some ⟨g',0,none⟩) (N + 1) cap')) w7:=by
 refine ⟨_,fun i => if i < N then sv i else .slice (some ⟨g6,0,none⟩) C C,rfl,⟨?_,fun i hi => ?_⟩,hb⟩
 · have h1:w7.ownsRow w.heap.size 84 2 (.slice (some ⟨g',0,none⟩) (N + 1) cap') (N + 1) (flatK 2 (N + 1) (fun i j => if j = 0 then (if i < N then sv i else .slice (some ⟨g6,0,none⟩) C C) else .int .i64 (if i < N then all i else big64))):=by
    rw [flatK_two,flatK_congr (g:=F) (fun i j hi _ => by subst hF; simp [hi])]
    simpa using hown
   exact SlK.of_row (RowK.of_own h1).1
 · by_cases h:i < N
   · rw [if_pos h,if_pos h,if_pos h]
     have:=hl.sl i h
     refine ⟨?_,this.2.1,fun j hj => ?_⟩
     · have h2:=SlC.below this.1 hb
       have e:(fun j => if i < N then f i j else big64) = f i:=by funext j; rw [if_pos h]
       rw [e]; exact h2
     · rw [if_pos h]; exact this.2.2 j hj
   · rw [if_neg h,if_neg h,if_neg h]
     refine ⟨⟨_,_,rfl,fun _ => ⟨g6,0,rfl,fun j hj => ?_⟩⟩,by unfold In64 big64; omega,fun j hj => by rw [if_neg h]; unfold In64 big64; omega⟩
     show w7.cell? _ = some (.int .i64 (if i < N then f i j else big64))
     rw [if_neg h,Nat.zero_add]
     exact hcur j hj
set_option maxRecDepth 100000 in
set_option maxHeartbeats 8000000 in
theorem Bk.limits {w:World} {la na da ta:Option Addr} {lc nn nc dn dc tc:Nat} {cut close:Int} {N C:Nat} {sv:Nat→Value} {m:Nat→Nat} {f:Nat→Nat→Int} {all:Nat→Int} (hl:LimsIn w (.slice la N lc) N sv m f all) (hN1:1≤N) (hN:N≤15) (hC1:1≤C) (hC:C≤8) :
    Calls Tryz.prog 51 #[.agg #[.slice ta C tc,.slice la N lc,.slice na nn nc,.int .i64 cut,.int .i64 close,.slice da dn dc]] w (LmPost N C m f all w):=by
 obtain ⟨i0,hi,hz0,hz1,hz2⟩:=info_parts Bk.infcLim
 have HIS:=Lib.hid (And.intro hi (And.intro hz0 (And.intro hz1 hz2)))
 clear hi hz0 hz1 hz2
 have HL:=Lib.hid hl
 have HW:=Lib.hid (Below.refl w.heap.size w)
 clear hl
 go_enter Tryz.func51,Tryz.ntmps51
 go_upto_region 1 with (fail)
 have HB1:=Lib.hid (HW.out.alloc (Nat.le_refl _) (.cells #[.slice ta C tc,.slice la N lc,.slice na nn nc,.int .i64 cut,.int .i64 close,.slice da dn dc] 29))
 have hX:=Blk.new w 29 #[.slice ta C tc,.slice la N lc,.slice na nn nc,.int .i64 cut,.int .i64 close,.slice da dn dc]
 generalize w.alloc (.cells #[.slice ta C tc,.slice la N lc,.slice na nn nc,.int .i64 cut,.int .i64 close,.slice da dn dc] 29) = w1 at *
 have x0:w1.cell? ⟨w.heap.size,0,none⟩ = some (.slice ta C tc):=(hX.cell 0).trans rfl
 have x1:w1.cell? ⟨w.heap.size,1,none⟩ = some (.slice la N lc):=(hX.cell 1).trans rfl
 have HX:=Lib.hid hX
 have HD1:=Lib.hid ((Below.refl w1.heap.size w1).drew)
 have HD2:=Lib.hid (((Below.refl w1.heap.size w1).alloc (Nat.le_refl _) (.cells #[.int .i64 9223372036854775807] 2)).drew)
 have HQ2:=Lib.hid (show (w1.alloc (.cells #[.int .i64 9223372036854775807] 2)).drew.cell? ⟨w1.heap.size,0,none⟩ = some (.int .i64 9223372036854775807) from (Blk.new w1 2 #[.int .i64 9223372036854775807]).cell 0)
 have HCL:=Lib.hid (fun (wx:World) (hb:Below w1.heap.size w1 wx) => Bk.cloneLimO (w:=wx) (v:=.slice la N lc) (n:=N) (f:=fun i j => if j = 0 then sv i else .int .i64 (all i)) (by omega) (by omega) ((HL.out.row.below HB1.out).below hb) (fun i j hi hj => by
  rcases (by omega:j = 0∨j = 1) with rfl | rfl
  · obtain ⟨a,c,e,_⟩:=(HL.out.sl i hi).1
    rw [if_pos rfl,e]; rfl
  · rfl))
 have HRP:=Lib.hid (fun (wx:World) (b:Nat) (hx:wx.cell? ⟨b,0,none⟩ = some (.int .i64 9223372036854775807)) => Bk.repeat1 (o:=0) (c:=1) hx C hC1 (by omega))
 have x0a:=Bk.kept ((Below.refl w1.heap.size w1).alloc (Nat.le_refl _) (.cells #[.int .i64 9223372036854775807] 2)) x0
 have x1a:=Bk.kept ((Below.refl w1.heap.size w1).alloc (Nat.le_refl _) (.cells #[.int .i64 9223372036854775807] 2)) x1
 clear hX
 generalize hF:(fun i j => if j = 0 then sv i else .int .i64 (all i):Nat→Nat→Value) = F at HCL
 have HF:=Lib.hid hF.symm
 clear hF
 go_region_law (first
   | (go_simp; go_at_call 97; refine (HCL.out w1.drew HD1.out).mono ?_; rintro e w5 ⟨g,cc,rfl,hown,hb5⟩; have q5:=(Blk.new w5 2 #[.int .i64 9223372036854775807]).cell 0; have y0a:=Bk.kept ((Below.refl w5.heap.size w5).alloc (Nat.le_refl _) (.cells #[.int .i64 9223372036854775807] 2)) (Bk.kept (HD1.out.trans (hb5.mono HD1.out.size)) x0); have HS5:=Lib.hid (fun (w6:World) (h:Below (w5.alloc (.cells #[.int .i64 9223372036854775807] 2)).heap.size (w5.alloc (.cells #[.int .i64 9223372036854775807] 2)) w6) => ((Below.refl w5.heap.size w5).alloc (Nat.le_refl _) (.cells #[.int .i64 9223372036854775807] 2)).trans (h.mono (by simp))); have HB5:=Lib.hid (HB1.out.trans ((HD1.out.trans (hb5.mono HD1.out.size)).mono HB1.out.size)); have HO5:=Lib.hid (own_wk (B':=w.heap.size) hown (Nat.le_trans HB1.out.size HD1.out.size)); clear hown; have y0:=Bk.kept (HD1.out.trans (hb5.mono HD1.out.size)) x0)
   | (go_simp; go_at_call 97; refine (HCL.out (w1.alloc (.cells #[.int .i64 9223372036854775807] 2)).drew HD2.out).mono ?_; rintro e w5 ⟨g,cc,rfl,hown,hb5⟩; have q5:=Bk.kept hb5 HQ2.out; have HS5:=Lib.hid (fun (w6:World) (h:Below w5.heap.size w5 w6) => h); have HB5:=Lib.hid (HB1.out.trans ((HD2.out.trans (hb5.mono HD2.out.size)).mono HB1.out.size)); have HO5:=Lib.hid (own_wk (B':=w.heap.size) hown (Nat.le_trans HB1.out.size HD2.out.size)); clear hown; have y0:=Bk.kept (HD2.out.trans (hb5.mono HD2.out.size)) x0)
   | (go_simp; go_at_call 98; refine (HRP.out _ _ q5).mono ?_; rintro e w6 ⟨g6,rfl,hg6,hcur,hb6⟩; have HB6:=Lib.hid (HB5.out.trans ((HS5.out w6 hb6).mono HB5.out.size)); have HO6:=Lib.hid ((own_below HO5.out (HS5.out w6 hb6)).alloc (.cells #[.slice (some ⟨g6,0,none⟩) C C,.int .i64 9223372036854775807] 84)); have HC6:=Lib.hid hcur; have HNW:=Lib.hid (Blk.new w6 84 #[.slice (some ⟨g6,0,none⟩) C C,.int .i64 9223372036854775807]); clear hcur hg6 hb6 y0)
   | (refine step_append_lies _ rfl (.tmp 5) (.tmp 12) 23 rfl w.heap.size 84 i0 (.agg #[.slice none 0 0,.int .i64 0]) 2 32 Tryz.underlying23 HIS.out.1 HIS.out.2.1 HIS.out.2.2.1 HIS.out.2.2.2 rfl (by decide) (.slice (some ⟨g,0,none⟩) N cc) N (flatK 2 N F) ?_ HO6.out ⟨w6.heap.size,0,none⟩ 1 1 [.slice (some ⟨g6,0,none⟩) C C,.int .i64 9223372036854775807] ?_ rfl ?_ ?_ (by decide) ?_ ?_ ?_ (w6.heap.size + 1) ?_ ?_
      · simp [Act.eval]
      · simp [Act.eval]
      · intro jj u hu; rw [WideShapes.add_plain]; exact HNW.out.range jj u hu
      · intro u hu; simp at hu; rcases hu with rfl | rfl <;> rfl
      · unfold maxLen; omega
      · omega
      · have:=HB6.out.size; simp; omega
      · simp
      intro g' cap' w7 hown' hgrow hat hlt'
      replace hown':=Lib.hid hown'
      replace hgrow:=Lib.hid hgrow))
 all_goals
   have hF7:=lims_snoc HL.out (C:=C) (by omega) HF.out hown'.out ((HB6.out.alloc HB6.out.size (.cells #[.slice (some ⟨g6,0,none⟩) C C,.int .i64 9223372036854775807] 84)).grown hgrow.out (by have:=HB6.out.size; simp; omega) (fun q hq => own_ge HO6.out hq)) (fun i hi => by
    obtain ⟨cur,hc1,hc2⟩:=HC6.out
    have hlt6:g6 < w6.heap.size:=(Array.getElem?_eq_some_iff.1 hc1).1
    have hne:g6 ≠ g:=Ty.ne (w:=w6.alloc (.cells #[.slice (some ⟨g6,0,none⟩) C C,.int .i64 9223372036854775807] 84)) (g':=g) ⟨_,(((Below.refl w6.heap.size w6).alloc (Nat.le_refl _) _).block g6 hlt6).trans hc1⟩ (own_ty HO6.out rfl) (by decide)
    have h7:=(hgrow.out.block g6 (by simp; omega) (fun e => hne (by simpa [Value.ownBlock] using e))).trans ((((Below.refl w6.heap.size w6).alloc (Nat.le_refl _) (.cells #[.slice (some ⟨g6,0,none⟩) C C,.int .i64 9223372036854775807] 84)).block g6 hlt6).trans hc1)
    rw [cell_of_row _ _ _ _ _ _ h7]
    simpa [big64] using hc2 i hi)
   have HF7:=Lib.hid hF7
   clear hF7 hown' hgrow hat hlt'
   go_wp2
   go_ret
   exact HF7.out
end Go.Proofs.YtgcnnbjbdfgglaaGreat
