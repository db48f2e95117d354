/- LAW TopBoth: of every configuration of a bank and every list of byte strings the given function TopBoth returns true and leaves its arguments as they were; no condition. A part of what it needs. -/
import Derived.Test.YtgcnnbjbdfgglaaGreatZat
import Derived.Deep.RegionLaw
import Derived.Deep.AppendLies
import Derived.Deep.CutRange
namespace Go.Proofs.YtgcnnbjbdfgglaaGreat
open Go.RowKit
theorem Bk.infoPrv:(Tryz.prog.info? 215).map (fun i => (i.zero,i.size,i.bytes)) = some (some (.agg #[.slice none 0 0,.bool false]),2,32):=by kernel_rfl
structure LineAt (w:World) (C b:Nat):Prop where
  ty:Ty w b 2
  am:∀ q,q < C→∃ v:Int,In64 v∧w.cell? ⟨b,q,none⟩ = some (.int .i64 v)
theorem LineAt.below {w w':World} {C b:Nat} (h:LineAt w C b) (hb:Below w.heap.size w w'):LineAt w' C b :=
 ⟨h.ty.below hb,fun q hq => by obtain ⟨v,h1,h2⟩:=h.am q hq; exact ⟨v,h1,Bk.kept hb h2⟩⟩
theorem LineAt.grown {w w':World} {C b:Nat} {row:Option Nat} (h:LineAt w C b) (hg:w.grownBy w' row) (hr:some b ≠ row):LineAt w' C b :=
 ⟨h.ty.same (hg.block b h.ty.lt hr),fun q hq => by obtain ⟨v,h1,h2⟩:=h.am q hq; exact ⟨v,h1,(World.cell?_of_block (a:=⟨b,q,none⟩) (hg.block b h.ty.lt hr)).trans h2⟩⟩
theorem LineAt.far {w:World} {C b g:Nat} (h:LineAt w C b) (hg:g ≠ b) (o:Nat) (u:Value):LineAt (w.setCell ⟨g,o,none⟩ u) C b :=
 ⟨h.ty.set _ _ _,fun q hq => by obtain ⟨v,h1,h2⟩:=h.am q hq; exact ⟨v,h1,(World.cell?_setCell_other _ _ _ _ (by intro e; simp only [Addr.mk.injEq] at e; exact hg e.1)).trans h2⟩⟩
theorem LineAt.drew {w:World} {C b:Nat} (h:LineAt w C b):LineAt w.drew C b:=⟨h.ty,h.am⟩
def prvF (C:Nat) (lb lc:Nat→Nat) (i:Nat):Nat→Value
  | 0 => .slice (some ⟨lb i,0,none⟩) C (lc i)
  | _ => .bool false
def LinesAt (w:World) (v:Value) (n:Nat):Prop:=∃ rv:Nat→Value,SlK w v 1 n (fun i _ => rv i)∧∀ i,i < n→∃ m f,SlI w (rv i) m f∧∀ j,j < m→In64 (f j)
set_option maxRecDepth 100000 in
theorem Bk.new11 (x:Int) (w:World):Calls Tryz.prog 101 #[.int .i64 x] w fun e w' => e = .returned (.bool (decide (x < 0)))∧Below w.heap.size w w':=by
 go_enter Tryz.func101,Tryz.ntmps101
 go_wp2
 go_ret
 exact ⟨rfl,Below.refl _ _⟩
def badLine (C m:Nat) (f:Nat→Int):Bool:=if m = C then anyTo (fun i => decide (f i < 0)) m else true
set_option maxRecDepth 100000 in
set_option maxHeartbeats 1000000 in
theorem Bk.new1 {w:World} {v:Value} {m:Nat} {f:Nat→Int} (h:SlI w v m f) (z C:Nat) (hC:(C:Int)≤8) (hz:w.cell? ⟨z,0,none⟩ = some (.int .i64 C)):Calls Tryz.prog 99 #[v,.pointer (some ⟨z,0,none⟩)] w fun e w' => e = .returned (.bool (badLine C m f))∧Below w.heap.size w w':=by
 unfold badLine
 by_cases hm:m = C
 · rw [if_pos hm]
   subst hm
   have HA:=Lib.hid (Bk.anyI64 h.slK (by omega) 101 #[] (fun i => decide (f i < 0)) (fun _ _ => by kernel_rfl) (fun i hi wx hbx => Bk.new11 (f i) wx))
   obtain ⟨a,c,rfl,hc⟩:=h
   clear hc
   generalize anyTo (fun i => decide (f i < 0)) m = t at *
   go_enter Tryz.func99,Tryz.ntmps99
   go_wp2_with fail
   refine HA.out.mono ?_
   rintro e w1 ⟨rfl,hb1⟩
   have HB1:=Lib.hid hb1
   clear hb1
   go_wp2
   go_ret
   exact ⟨rfl,HB1.out⟩
 · rw [if_neg hm]
   obtain ⟨a,c,rfl,hc⟩:=h
   clear hc
   have hmz:¬ (m:Int) = (C:Int):=by omega
   have hmb:((m:Int) != (C:Int)) = true:=by simp; omega
   go_enter Tryz.func99,Tryz.ntmps99
   go_wp2
   go_ret
   exact ⟨rfl,Below.refl _ _⟩
def LnwPost (C n:Nat) (w:World) (e:Ending) (w':World):Prop:=(∃ c:Int,e = .returned (.tuple #[.pointer none,.int .i64 c])∧1≤c∧c≤12∧n ≠ 0∧Below w.heap.size w w')∨∃ h:Lh,e = .returned (.tuple #[.pointer (some ⟨h.x,0,none⟩),.int .i64 0])∧h.C = C∧LeW w' h∧(∀ k,h.own k→w.heap.size≤k)∧Below w.heap.size w w'
set_option maxRecDepth 100000 in
set_option maxHeartbeats 4000000 in
theorem Bk.lenew {w:World} {v:Value} {n C:Nat} (h:LinesAt w v n) (hC1:1≤C) (hC8:(C:Int)≤8):Calls Tryz.prog 53 #[v,.int .i64 C] w (LnwPost C n w):=by
 obtain ⟨rv,hrv,hrows⟩:=h
 have hb0:=(Below.refl w.heap.size w).alloc (Nat.le_refl _) (.cells #[.int .i64 C] 3)
 have HB0:=Lib.hid hb0
 by_cases hn8:(n:Int)≤8
 · have hrows':∀ i,∃ m f,i < n→SlI w (rv i) m f∧∀ j,j < m→In64 (f j):=fun i => by
    by_cases hi:i < n
    · obtain ⟨m,f,h1⟩:=hrows i hi; exact ⟨m,f,fun _ => h1⟩
    · exact ⟨0,fun _ => 0,fun h => absurd h hi⟩
   obtain ⟨lm,hrows2⟩:=Classical.skolem.1 hrows'
   obtain ⟨lf,hrows3⟩:=Classical.skolem.1 hrows2
   have hz0:=(Blk.new w 3 #[.int .i64 C])
   have HA:=Bk.anyRow (hrv.below hb0) (by omega) 99 #[.pointer (some ⟨w.heap.size,0,none⟩)] (fun i => badLine C (lm i) (lf i)) (fun _ _ => by kernel_rfl)
     (fun i hi wx hbx => Bk.new1 (((hrows3 i hi).1.below hb0).below hbx) w.heap.size C hC8 (by rw [(hz0.below hbx).cell 0]; rfl))
   have HR3:=Lib.hid hrows3
   have HRV:=Lib.hid hrv
   obtain ⟨va,vc,rfl,hvc⟩:=hrv
   have HVC:=Lib.hid hvc
   clear hvc hrows hrows' hrows2 hrows3 hb0 hz0
   have hc1:¬ (C:Int) < 1:=by omega
   have hc2:¬ (8:Int) < (C:Int):=by omega
   have hd1:decide ((C:Int) < 1) = false:=decide_eq_false (by omega)
   have hnz:¬ (8:Int) < (n:Int):=by omega
   cases hany:anyTo (fun i => badLine C (lm i) (lf i)) n with
   | true =>
    rw [hany] at HA
    have HA:=Lib.hid HA
    have HNZ:=Lib.hid (show n ≠ 0 from fun e => by subst e; simp [anyTo] at hany)
    clear hany
    go_enter Tryz.func53,Tryz.ntmps53
    go_wp2_with fail
    refine HA.out.mono ?_
    rintro e w1 ⟨rfl,hb1⟩
    have HB1:=Lib.hid (HB0.out.trans (hb1.mono (by simp)))
    clear hb1
    go_wp2
    go_ret2
    exact .inl ⟨1,rfl,by omega,by omega,HNZ.out,HB1.out⟩
   | false =>
    rw [hany] at HA
    have HA:=Lib.hid HA
    have HALL:=Lib.hid (anyTo_false.1 hany)
    clear hany
    go_enter Tryz.func53,Tryz.ntmps53
    go_wp2_with fail
    refine HA.out.mono ?_
    rintro e w1 ⟨rfl,hb1⟩
    have hbb:=HB0.out.trans (hb1.mono (by simp))
    have hz1:w1.cell? ⟨w.heap.size,0,none⟩ = some (.int .i64 C):=Bk.kept hb1 (show (w.alloc (.cells #[.int .i64 C] 3)).cell? ⟨w.heap.size,0,none⟩ = _ by simp)
    have HX:=Lib.hid (Blk.new w1 213 #[.slice none 0 0,.int .i64 C])
    have HB1:=Lib.hid (hbb.alloc hbb.size (.cells #[.slice none 0 0,.int .i64 C] 213))
    have hs1:=hbb.size
    have hs1':=hb1.size
    simp only [World.size_alloc] at hs1'
    clear hb1 hbb
    obtain ⟨i0,hi,hz0',hz1',hz2'⟩:=info_parts Bk.infoPrv
    have HIS:=Lib.hid (And.intro hi (And.intro hz0' (And.intro hz1' hz2')))
    clear hi hz0' hz1' hz2'
    go_wp2
    clear hz1
    have hs1'':=HB1.out.size
    obtain ⟨X,hX⟩:∃ X,w1.heap.size = X:=⟨_,rfl⟩
    rw [hX] at hs1 hs1' HX ⊢
    clear hX hs1''
    go_loopw [30] (fun i wr => ∃ (k:Nat) (lv:Value) (lb lc:Nat→Nat),k≤n∧i = .int .i64 k∧Hid (Blk wr X 213 #[lv,.int .i64 C])∧Hid (wr.ownsRow w.heap.size 215 2 lv k (flatK 2 k (prvF C lb lc)))∧Hid (∀ i,i < k→LineAt wr C (lb i)∧w.heap.size≤lb i)∧Hid (Below w.heap.size w wr)) (fun i _ => n - (intOf i).toNat)
    case atStart => exact ⟨0,_,fun _ => 0,fun _ => 0,by omega,rfl,HX,Lib.hid (by rw [flatK_none]; exact World.ownsRow_nil _ _ _ _),Lib.hid (fun i hi => absurd hi (by omega)),HB1⟩
    case round =>
     clear HX HB1
     obtain ⟨k,lv,lb,lc,hk,rfl,HX,HOWN,HLN,HB⟩:=hrel
     by_cases hlt:k < n
     · have q2:(k:Int) < (n:Int):=by omega
       obtain ⟨b,o,rfl,hc⟩:=HVC.out (by omega)
       have h3:w.cell? ⟨b,o + k,none⟩ = some (rv k):=by have:=hc k 0 hlt (by omega); simpa using this
       have g3:=Bk.kept HB.out h3
       obtain ⟨hsl,h64⟩:=HR3.out k hlt
       have hgood:=HALL.out k hlt
       unfold badLine at hgood
       have hmC:lm k = C:=by by_cases e:lm k = C; exact e; rw [if_neg e] at hgood; cases hgood
       rw [hmC] at hsl h64
       have HBD:=Lib.hid (show Below w.heap.size w wr.drew from HB.out.drew)
       have HCL:=Lib.hid (Bk.cloneI64 (w:=wr.drew) (by omega) (by omega) (hsl.slK.below (HBD.out)) (fun _ _ _ _ => rfl))
       have H64:=Lib.hid h64
       obtain ⟨ra,rc,hrv,_⟩:=hsl
       rw [hrv] at g3 HCL
       clear h3 hc hgood hmC h64 hrv
       have hX0:=HX.out.drew
       have x0:wr.cell? ⟨X,0,none⟩ = some lv:=(HX.out.cell 0).trans rfl
       go_upto_region 10 with (fail)
       have HXD:=Lib.hid hX0
       have HOD:=Lib.hid (show wr.drew.ownsRow w.heap.size 215 2 lv k (flatK 2 k (prvF C lb lc)) from HOWN.out)
       have HLD:=Lib.hid (fun i hi => (HLN.out i hi).1.drew)
       clear hX0
       go_region_law (first
         | (go_simp; go_at_call 95; refine HCL.out.mono ?_; rintro e w2 ⟨gl,cl,rfl,hrow,hcap,hgl,hty,hb2⟩; have x2:w2.cell? ⟨X,0,none⟩ = some lv:=Bk.kept hb2 x0; have HO2:=Lib.hid ((own_below HOD.out hb2).alloc (.cells #[.slice (some ⟨gl,0,none⟩) C cl,.bool false] 215)); have HX2:=Lib.hid ((HXD.out.below hb2).alloc (.cells #[.slice (some ⟨gl,0,none⟩) C cl,.bool false] 215)); have x2a:(w2.alloc (.cells #[.slice (some ⟨gl,0,none⟩) C cl,.bool false] 215)).cell? ⟨X,0,none⟩ = some lv:=(HX2.out.cell 0).trans rfl; have HNW:=Lib.hid (Blk.new w2 215 #[.slice (some ⟨gl,0,none⟩) C cl,.bool false]); have HB2:=Lib.hid (HBD.out.trans (hb2.mono HBD.out.size)); replace hb2:=Lib.hid hb2; replace hrow:=Lib.hid hrow; replace hty:=Lib.hid hty; replace hgl:=Lib.hid hgl)
         | (refine step_append_lies _ rfl (.tmp 38) (.tmp 42) 211 rfl w.heap.size 215 i0 (.agg #[.slice none 0 0,.bool false]) 2 32 Tryz.underlying211 HIS.out.1 HIS.out.2.1 HIS.out.2.2.1 HIS.out.2.2.2 rfl (by decide) lv k (flatK 2 k (prvF C lb lc)) ?_ HO2.out ⟨w2.heap.size,0,none⟩ 1 1 [.slice (some ⟨gl,0,none⟩) C cl,.bool false] ?_ rfl ?_ ?_ (by decide) ?_ ?_ ?_ (w2.heap.size + 1) ?_ ?_
            · simp [Act.eval]
            · simp [Act.eval]
            · intro jj u hu; rw [WideShapes.add_plain]; exact HNW.out.range jj u hu
            · intro u hu; simp at hu; rcases hu with rfl | rfl <;> rfl
            · unfold maxLen; omega
            · omega
            · have:=HB2.out.size; simp; omega
            · simp
            intro g' cap' w3 hown' hgrow hat hlt'
            have hxr:some X ≠ lv.ownBlock:=fun e => Ty.ne ⟨_,HX2.out⟩ (own_ty HO2.out e.symm) (by decide) rfl
            have hx3:=HX2.out.grown hgrow hxr
            have y0:w3.cell? ⟨X,0,none⟩ = some lv:=(hx3.cell 0).trans rfl
            have yf:=hx3.frozen 0
            replace hx3:=Lib.hid hx3
            replace hown':=Lib.hid hown'
            replace hgrow:=Lib.hid hgrow))
       all_goals
         clear y0 yf x2 x2a x0
         have hrows:=LineAt.mk (w:=w2) (C:=C) hty.out (fun q hq => ⟨_,H64.out q hq,(by have:=hrow.out.cell hq (show 0 < 1 by omega); simpa using this)⟩)
         have hgr:∀ q,Ty (w2.alloc (.cells #[.slice (some ⟨gl,0,none⟩) C cl,.bool false] 215)) q 2→some q ≠ lv.ownBlock:=fun q hq e => Ty.ne hq (own_ty HO2.out e.symm) (by decide) rfl
         have hL4:∀ i,i < k + 1→LineAt (w3.setCell ⟨X,0,none⟩ (.slice (some ⟨g',0,none⟩) (k + 1) cap')) C (if i = k then gl else lb i)∧w.heap.size≤(if i = k then gl else lb i):=by
          intro i hi
          by_cases e:i = k
          · rw [if_pos e]
            have h1:=hrows.below ((Below.refl _ _).alloc (Nat.le_refl _) (.cells #[.slice (some ⟨gl,0,none⟩) C cl,.bool false] 215))
            have h2:=h1.grown hgrow.out (hgr _ h1.ty)
            exact ⟨h2.far (fun e => Ty.ne ⟨_,hx3.out⟩ h2.ty (by decide) e) _ _,Nat.le_trans HB.out.size hgl.out⟩
          · rw [if_neg e]
            have h0:=HLD.out i (by omega)
            have h1:=(h0.below hb2.out).below ((Below.refl _ _).alloc (Nat.le_refl _) (.cells #[.slice (some ⟨gl,0,none⟩) C cl,.bool false] 215))
            have h2:=h1.grown hgrow.out (hgr _ h1.ty)
            exact ⟨h2.far (fun e => Ty.ne ⟨_,hx3.out⟩ h2.ty (by decide) e) _ _,(HLN.out i (by omega)).2⟩
         have hO4:(w3.setCell ⟨X,0,none⟩ (.slice (some ⟨g',0,none⟩) (k + 1) cap')).ownsRow w.heap.size 215 2 (.slice (some ⟨g',0,none⟩) (k + 1) cap') (k + 1) (flatK 2 (k + 1) (prvF C (fun i => if i = k then gl else lb i) (fun i => if i = k then cl else lc i))):=by
          have h1:=own_far hown'.out (b:=X) (fun q hq e => Ty.ne (own_ty hown'.out hq) ⟨_,hx3.out⟩ (by decide) e) 0 (.slice (some ⟨g',0,none⟩) (k + 1) cap')
          rw [flatK_two,flatK_congr (g:=prvF C lb lc) (fun i j hi _ => by cases j <;> simp [prvF,show i ≠ k by omega])]
          have e1:prvF C (fun i => if i = k then gl else lb i) (fun i => if i = k then cl else lc i) k 0 = .slice (some ⟨gl,0,none⟩) C cl:=by simp [prvF]
          rw [e1]
          exact h1
         have HX4:=Lib.hid (hx3.out.set 0 (.slice (some ⟨g',0,none⟩) (k + 1) cap'))
         have HB4:=Lib.hid (((HB2.out.alloc HB2.out.size (.cells #[.slice (some ⟨gl,0,none⟩) C cl,.bool false] 215)).grown hgrow.out (by have:=HB2.out.size; simp; omega) (fun q hq => own_ge HO2.out hq)).setCell (p:=⟨X,0,none⟩) hs1 (.slice (some ⟨g',0,none⟩) (k + 1) cap'))
         have HL4:=Lib.hid hL4
         have HO4:=Lib.hid hO4
         clear hL4 hO4 hgr hrows hgrow hown' hx3 HNW HO2 HX2 hxr hat hlt'
         generalize w3.setCell ⟨X,0,none⟩ (.slice (some ⟨g',0,none⟩) (k + 1) cap') = w4 at HX4 HB4 HL4 HO4 ⊢
         go_wp2
         go_roundw
         case rel => exact ⟨k + 1,_,_,_,by omega,by go_num,HX4,HO4,HL4,HB4⟩
         case measure => simp [intOf]; omega
     · obtain rfl:k = n:=by omega
       go_wp2
       go_ret2
       obtain ⟨pa,pc,p,rfl,hpp,hpx,hpg,hrow,htp⟩:∃ pa pc p,lv = .slice pa k pc∧(0 < k→pa = some ⟨p,0,none⟩)∧(k = 0→p = X)∧w.heap.size≤p∧(∀ i j,i < k→j < 2→wr.cell? ⟨p,i * 2 + j,none⟩ = some (prvF C lb lc i j))∧(0 < k→Ty wr p 215):=by
        rcases Nat.eq_zero_or_pos k with e | e
        · subst e
          rcases HOWN.out.2 with ⟨e,_⟩ | ⟨g,cap,cur,e,_⟩
          · exact ⟨none,0,X,e,fun h => absurd h (by omega),fun _ => rfl,hs1,fun i j hi => absurd hi (by omega),fun h => absurd h (by omega)⟩
          · exact ⟨_,_,X,e,fun h => absurd h (by omega),fun _ => rfl,hs1,fun i j hi => absurd hi (by omega),fun h => absurd h (by omega)⟩
        · obtain ⟨g,cap,e',hg1,hg2⟩:=HOWN.out.form e
          have ho:=HOWN.out
          rw [e'] at ho
          exact ⟨some ⟨g,0,none⟩,cap,g,e',fun _ => rfl,fun h => absurd h (by omega),hg1,fun i j hi hj => (RowK.of_own ho).1.cell hi hj,fun _ => Ty.of_own ho⟩
       refine .inr ⟨⟨k,C,X,pa,p,pc,lb,lc⟩,rfl,rfl,⟨by show k≤8; omega,hC1,by show C≤8; omega,(HX.out.cell 0).trans rfl,(HX.out.cell 1).trans rfl,hpp,hpx,fun i hi => ⟨hrow i 0 hi (by omega),false,hrow i 1 hi (by omega)⟩,fun i hi q hq => (HLN.out i hi).1.am q hq,⟨_,HX.out⟩,htp,fun i hi => (HLN.out i hi).1.ty⟩,?_,HB.out⟩
       rintro q (rfl | rfl | ⟨i,hi,rfl⟩)
       · exact hs1
       · exact hpg
       · exact (HLN.out i hi).2
 · have hnz:(8:Int) < (n:Int):=by omega
   obtain ⟨va,vc,rfl,hvc⟩:=hrv
   clear hvc hrows hb0
   go_enter Tryz.func53,Tryz.ntmps53
   go_wp2
   go_ret2
   exact .inl ⟨4,rfl,by omega,by omega,by omega,HB0.out⟩
end Go.Proofs.YtgcnnbjbdfgglaaGreat
namespace Go.Proofs.YtgcnnbjbdfgglaaGreat
open Go.RowKit Go.Sort
theorem shares_le (f:Nat→Int) (T S:Int) (hS:0 < S) (hT:0≤T):∀ k,(∀ i,i < k→0≤f i)→sumTo (fun i => T * f i / S) k * S≤T * sumTo f k∧T * sumTo f k≤sumTo (fun i => T * f i / S) k * S + (k:Int) * (S - 1)∧0≤sumTo (fun i => T * f i / S) k
  | 0,_ => by simp [sumTo]
  | k + 1,h => by
   obtain ⟨h1,h2,h3⟩:=shares_le f T S hS hT k (fun i hi => h i (by omega))
   have e1:sumTo f (k + 1) = sumTo f k + f k:=rfl
   have e2:sumTo (fun i => T * f i / S) (k + 1) = sumTo (fun i => T * f i / S) k + T * f k / S:=rfl
   have a1:=Int.mul_ediv_add_emod (T * f k) S
   have a2:=Int.emod_nonneg (T * f k) (show S ≠ 0 by omega)
   have a3:=Int.emod_lt_of_pos (T * f k) hS
   have a4:0≤T * f k / S:=Int.ediv_nonneg (Int.mul_nonneg hT (h k (by omega))) (by omega)
   have e3:T * f k / S * S = S * (T * f k / S):=Int.mul_comm _ _
   rw [e1,e2,Int.mul_add,Int.add_mul]
   have e4:((k + 1:Nat):Int) * (S - 1) = (k:Int) * (S - 1) + (S - 1):=by rw [Int.natCast_add,Int.add_mul]; simp
   rw [e4]
   refine ⟨by omega,by omega,by omega⟩
theorem sumTo_mono (f:Nat→Int) {n:Nat} (h:∀ i,i < n→0≤f i):∀ k,k≤n→0≤sumTo f k∧sumTo f k≤sumTo f n:=by
 have h0:∀ k,k≤n→0≤sumTo f k:=by
  intro k
  induction k with
  | zero => intro _; exact Int.le_refl _
  | succ k ih => intro hk; have:=ih (by omega); have:=h k (by omega); show 0≤sumTo f k + f k; omega
 have h1:∀ d k,k + d = n→sumTo f k≤sumTo f n:=by
  intro d
  induction d with
  | zero => intro k hk; rw [show k = n by omega]; exact Int.le_refl _
  | succ d ih => intro k hk; have:=ih (k + 1) (by omega); have:=h k (by omega); have e:sumTo f (k + 1) = sumTo f k + f k:=rfl; omega
 exact fun k hk => ⟨h0 k hk,h1 (n - k) k (by omega)⟩
theorem sumTo_big (f:Nat→Int) (B:Int):∀ k,(∀ i,i < k→f i≤B)→sumTo f k≤(k:Int) * B
  | 0,_ => by simp [sumTo]
  | k + 1,h => by
   have:=sumTo_big f B k (fun i hi => h i (by omega))
   have:=h k (by omega)
   have e:((k + 1:Nat):Int) * B = (k:Int) * B + B:=by rw [Int.natCast_add,Int.add_mul]; simp
   show sumTo f k + f k≤_
   omega
theorem sumTo_pos (f:Nat→Int) {n i:Nat} (h:∀ i,i < n→0≤f i) (hi:i < n) (hp:0 < f i):0 < sumTo f n:=by
 have h1:=(sumTo_mono f h (i + 1) (by omega)).2
 have h2:=(sumTo_mono f h i (by omega)).1
 have e:sumTo f (i + 1) = sumTo f i + f i:=rfl
 omega
theorem missing_ok (f:Nat→Int) (T S:Int) {n:Nat} (h:∀ i,i < n→0≤f i) (hS:S = sumTo f n) (hS0:0 < S) (hT:0≤T) (k:Nat) (hk:k≤n):0≤T - sumTo (fun i => T * f i / S) k∧T - sumTo (fun i => T * f i / S) k≤T∧(k = n→T - sumTo (fun i => T * f i / S) k≤n):=by
 obtain ⟨h1,h2,h3⟩:=shares_le f T S hS0 hT k (fun i hi => h i (by omega))
 obtain ⟨m0,m1⟩:=sumTo_mono f h k hk
 have h4:T * sumTo f k≤T * S:=Int.mul_le_mul_of_nonneg_left (by omega) hT
 generalize sumTo (fun i => T * f i / S) k = A at *
 have hA:A≤T:=by
  have:A * S≤T * S:=by omega
  exact Int.le_of_mul_le_mul_right this hS0
 refine ⟨by omega,by omega,fun e => ?_⟩
 subst e
 rw [← hS] at h2
 have h5:(T - A) * S≤(k:Int) * (S - 1):=by rw [Int.sub_mul]; omega
 have h6:(k:Int) * (S - 1)≤(k:Int) * S:=Int.mul_le_mul_of_nonneg_left (by omega) (by omega)
 exact Int.le_of_mul_le_mul_right (Int.le_trans h5 h6) hS0
theorem share_le (T S x:Int) (hT:0≤T) (hx:0≤x) (hxS:x≤S) (hS:0 < S):0≤T * x / S∧T * x / S≤T:=by
 refine ⟨Int.ediv_nonneg (Int.mul_nonneg hT hx) (by omega),?_⟩
 have:T * x≤T * S:=Int.mul_le_mul_of_nonneg_left hxS hT
 exact Int.le_trans (Int.ediv_le_ediv hS this) (by rw [Int.mul_ediv_cancel _ (by omega)]; exact Int.le_refl _)
def RsPost (w:World) (e:Ending) (w':World):Prop:=∃ v:Int,e = .returned (.int .i64 v)∧w' = w
set_option maxRecDepth 100000 in
theorem Bk.rest (a b c d:Int) (w:World):Calls Tryz.prog 252 #[.int .i64 a,.int .i64 b,.int .i64 c,.int .i64 d] w (RsPost w):=by
 go_enter Tryz.func252,Tryz.ntmps252
 go_wp2
 go_ret
 exact ⟨_,rfl,rfl⟩
end Go.Proofs.YtgcnnbjbdfgglaaGreat
namespace Go.Proofs.YtgcnnbjbdfgglaaGreat
open Go.RowKit Go.Sort
def Apart (u v:Value):Prop:=∀ q,u.ownBlock = some q→v.ownBlock ≠ some q
theorem Apart.symm {u v:Value} (h:Apart u v):Apart v u:=fun q hq e => h q e hq
theorem Apart.app {u v:Value} {W:World} {B e K n:Nat} {xs:List Value} (h:Apart u v) (hu:W.ownsRow B e K u n xs) {g m c H:Nat} (hH:W.heap.size≤H) (hat:v.ownBlock = some g∨g = H):Apart u (.slice (some ⟨g,0,none⟩) m c):=by
 intro q hq e
 simp [Value.ownBlock] at e
 subst e
 rcases hat with h1 | h1
 · exact h _ hq h1
 · have:=(hu.lt _ hq).2; omega
theorem own_kept {W W':World} {B e K n:Nat} {u v:Value} {xs:List Value} (hu:W.ownsRow B e K u n xs) (h:Apart u v) (hg:W.grownBy W' v.ownBlock):W'.ownsRow B e K u n xs:=by
 refine hu.kept hg ?_
 cases hq:u.ownBlock with
 | none => exact .inl rfl
 | some q => exact .inr (fun e => h q hq e.symm)
def upTo (k:Nat):List Int:=(List.range k).map (fun i:Nat => (i:Int))
theorem upTo_snoc (k:Nat):upTo (k + 1) = upTo k ++ [(k:Int)]:=by simp [upTo,List.range_succ]
theorem upTo_at {k i:Nat} (hi:i < k):(ints (upTo k))[i]? = some (.int .i64 (i:Int)):=by simp [ints,upTo,hi]
structure ShS (X ks kw:Nat) (w:World) (sv lv wv:Value) (wr:World):Prop where
  blk:Blk wr X 371 #[lv]
  sh:∃ xs,wr.ownsRow (X + 1) 2 1 sv ks (ints xs)∧xs.length = ks∧∀ x ∈ xs,In64 x
  wo:wr.ownsRow (X + 1) 3 1 wv kw (ints (upTo kw))
  ap:Apart sv lv
  below:Below w.heap.size w wr
  hX:w.heap.size≤X
def LfS (X k:Nat) (lv:Value) (wr:World):Prop:=∃ ys,wr.ownsRow (X + 1) 2 1 lv k (ints ys)∧ys.length = k
theorem ShS.less {X ks kw:Nat} {w wr w':World} {sv lv wv:Value} (h:ShS X ks kw w sv lv wv wr) (hb:Below wr.heap.size wr w'):ShS X ks kw w sv lv wv w' :=
 ⟨h.blk.below hb,by obtain ⟨xs,h1,h2⟩:=h.sh; exact ⟨xs,own_below h1 hb,h2⟩,own_below h.wo hb,h.ap,h.below.trans (hb.mono h.below.size),h.hX⟩
theorem LfS.less {X k:Nat} {lv:Value} {wr w':World} (h:LfS X k lv wr) (hb:Below wr.heap.size wr w'):LfS X k lv w':=by obtain ⟨ys,h1,h2⟩:=h; exact ⟨ys,own_below h1 hb,h2⟩
theorem own_apartT {W:World} {B B' e e' K K' n n':Nat} {u v:Value} {xs ys:List Value} (hu:W.ownsRow B e K u n xs) (hv:W.ownsRow B' e' K' v n' ys) (hne:e ≠ e'):Apart u v:=fun _ hq hq' => Ty.ne (own_ty hu hq) (own_ty hv hq') hne rfl
def ShPost (n:Nat) (w:World) (e:Ending) (w':World):Prop:=∃ gs cap,e = .returned (.tuple #[.slice (some ⟨gs,0,none⟩) n cap,.int .i64 0])∧LineAt w' n gs∧w.heap.size≤gs∧Below w.heap.size w w'
set_option maxRecDepth 100000 in
set_option maxHeartbeats 8000000 in
theorem Bk.shares {w:World} {v:Value} {n:Nat} {f:Nat→Int} (h:SlI w v n f) (hn:(n:Int)≤15) (hf:∀ i,i < n→0≤f i∧f i≤1000) (hpos:∃ i,i < n∧0 < f i) (T:Int) (hT0:0≤T) (hT:In64 T):Calls Tryz.prog 218 #[.int .i64 T,v] w (ShPost n w):=by
 obtain ⟨i0,hi,hz0,hz1,hz2⟩:=info_parts Bk.info64
 obtain ⟨i1,ji,jz0,jz1,jz2⟩:=info_parts Bk.infoInt
 have HI0:=Lib.hid (And.intro hi (And.intro hz0 (And.intro hz1 hz2)))
 have HI1:=Lib.hid (And.intro ji (And.intro jz0 (And.intro jz1 jz2)))
 clear hi hz0 hz1 hz2 ji jz0 jz1 jz2
 have hf0:∀ i,i < n→0≤f i:=fun i hi => (hf i hi).1
 have hf64:∀ i,i < n→In64 (f i):=fun i hi => by have:=hf i hi; unfold In64; omega
 have HA:=Bk.anyI64 h.slK (by omega) 250 #[] (fun i => decide (f i < 0)) (fun _ _ => by kernel_rfl) (fun i hi wx hbx => Bk.below0 (f i) wx)
 rw [anyTo_false.2 (fun i hi => decide_eq_false (by have:=hf0 i hi; omega))] at HA
 have HA:=Lib.hid HA
 obtain ⟨p,hp1,hp2⟩:=hpos
 have HP:=Lib.hid (fun (W:World) (hb:Below w.heap.size w W) => by
  have HA:=Bk.anyI64 (w:=W) (SlK.below h.slK hb) (by omega) 251 #[] (fun i => decide (0 < f i)) (fun _ _ => by kernel_rfl) (fun i hi wx hbx => Bk.above0 (f i) wx)
  rw [anyTo_true hp1 (decide_eq_true hp2)] at HA
  exact HA)
 obtain ⟨S,hS⟩:∃ S,S = sumTo f n:=⟨_,rfl⟩
 have hS0:0 < S:=by rw [hS]; exact sumTo_pos f hf0 hp1 hp2
 have hSb:S≤15000:=by
  have:=sumTo_big f 1000 n (fun i hi => (hf i hi).2)
  rw [hS]; omega
 have hS64:In64 S:=by unfold In64; omega
 have HSUM:=Lib.hid (fun (W:World) (hb:Below w.heap.size w W) => by
  have:=Bk.sum v n f W (SlC.below h hb) (by omega) hf64
  rw [← hS,tn_in hS64,te_in hS64] at this
  exact this)
 have HMD:=Lib.hid (fun (W:World) (i:Nat) (hi:i < n) => by
  have h1:=share_le T S (f i) hT0 (hf0 i hi) (by rw [hS]; have:=sumTo_mono f hf0 (i + 1) (by omega); have e:sumTo f (i + 1) = sumTo f i + f i:=rfl; have:=(sumTo_mono f hf0 i (by omega)).1; omega) hS0
  have h2:In64 (md T (f i) S false):=by show In64 (T * f i / S); unfold In64 at *; omega
  have:=Bk.muldiv T (f i) S false hT (hf0 i hi) (hf64 i hi) (by omega) hS64 W
  rw [tn_in h2,te_in h2] at this
  exact And.intro this h2)
 have HMS:=Lib.hid (fun k hk => missing_ok f T S hf0 hS hS0 hT0 k hk)
 obtain ⟨va,vc,rfl,hvc⟩:=h
 have HVC:=Lib.hid hvc
 have HT:=Lib.hid (And.intro hT0 hT)
 have hd:decide (T < 0) = false:=decide_eq_false (by omega)
 have htz:¬ T < 0:=by omega
 have hnz:¬ (64:Int) < (n:Int):=by omega
 have HPN:=Lib.hid (show 0 < n by omega)
 clear hvc hf hf0 hf64 hT0 hT hp1 hp2 hS hS0 hSb hS64
 go_enter Tryz.func218,Tryz.ntmps218
 go_wp2_with fail
 refine HA.out.mono ?_
 rintro e w1 ⟨rfl,hb1⟩
 have HB1:=Lib.hid hb1
 clear hb1
 go_wp2_with fail
 refine (HP.out _ HB1.out).mono ?_
 rintro e w2 ⟨rfl,hb2⟩
 have HB2:=Lib.hid (HB1.out.trans (hb2.mono HB1.out.size))
 clear hb2
 go_wp2_with fail
 refine (HSUM.out _ HB2.out).mono ?_
 rintro e w3 ⟨rfl,rfl⟩
 have HX:=Lib.hid (Blk.new w3 371 #[.slice none 0 0])
 have HB3:=Lib.hid (HB2.out.alloc HB2.out.size (.cells #[.slice none 0 0] 371))
 have hs3:=HB2.out.size
 clear hd htz
 go_wp2
 obtain ⟨X,hX⟩:∃ X,w3.heap.size = X:=⟨_,rfl⟩
 rw [hX] at hs3 HX ⊢
 clear hX
 go_loopw [9,10,11,45] (fun s wh m i wr => ∃ (k:Nat) (lv sv wv:Value),k≤n∧sv = s∧wv = wh∧i = .int .i64 k∧m = .int .i64 (T - sumTo (fun i => T * f i / S) k)∧Hid (ShS X k k w sv lv wv wr)∧Hid (LfS X k lv wr)) (fun _ _ _ i _ => n - (intOf i).toNat)
 case atStart => exact ⟨0,_,_,_,by omega,rfl,rfl,rfl,by simp [sumTo],Lib.hid ⟨HX.out,⟨[],World.ownsRow_nil _ _ _ _,rfl,by simp⟩,World.ownsRow_nil _ _ _ _,by intro q hq; simp [Value.ownBlock] at hq,HB3.out,hs3⟩,Lib.hid ⟨[],World.ownsRow_nil _ _ _ _,rfl⟩⟩
 case round =>
  clear HX HB3
  obtain ⟨k,lv,sv,wv,hk,rfl,rfl,rfl,rfl,HS,HL⟩:=hrel
  by_cases hlt:k < n
  · have q2:(k:Int) < (n:Int):=by omega
    obtain ⟨b,o,rfl,hc⟩:=HVC.out (by omega)
    have g3:=Bk.kept HS.out.below (hc k hlt)
    have hm1:=HMS.out k (by omega)
    have hm2:=HMS.out (k + 1) (by omega)
    have hss:sumTo (fun i => T * f i / S) (k + 1) = sumTo (fun i => T * f i / S) k + T * f k / S:=rfl
    obtain ⟨hmd,hmd2⟩:=HMD.out wr k hlt
    have HMD':=Lib.hid hmd
    have hxx:md T (f k) S false = T * f k / S:=rfl
    rw [hxx] at HMD' hmd2
    have HM2:=Lib.hid hmd2
    have HSS:=Lib.hid hss
    generalize T * f k / S = x at HMD' HM2 HSS
    generalize hA1:sumTo (fun i => T * f i / S) (k + 1) = A1 at *
    have HA1:=Lib.hid hA1
    generalize hA0:sumTo (fun i => T * f i / S) k = A0 at *
    have HQ:=Lib.hid (show In64 (T - A0 - x)∧T - A0 - x = T - A1 by
     have h1:=HSS.out
     have h2:=HT.out.2
     unfold In64 at *
     omega)
    generalize f k = fk at *
    clear hc hmd hmd2 hxx hss hm1 hm2 hA0 hA1
    go_wp2_with fail
    refine HMD'.out.mono ?_
    rintro e w4 ⟨rfl,hb4⟩
    have HS4:=Lib.hid (HS.out.less hb4)
    have HL4:=Lib.hid (HL.out.less hb4)
    have hX4:=HS4.out.blk.lt
    have hsz4:=HS4.out.below.size
    have hXw:=HS4.out.hX
    clear hb4 g3 HS HL
    obtain ⟨xs,hx1,hx2,hx3⟩:=HS4.out.sh
    have HX3:=Lib.hid hx3
    clear hx3
    go_wp2_with (at_builtin; with_reducible refine wpList_append_lies _ rfl (.tmp 57) (.tmp 59) 70 rfl (X + 1) 2 i0 (.int .i64 0) 1 8 Tryz.underlying70 HI0.out.1 HI0.out.2.1 HI0.out.2.2.1 HI0.out.2.2.2 rfl (by decide) _ _ _ rfl (hx1.alloc _) ⟨w4.heap.size,0,none⟩ 1 1 [.int .i64 x] rfl rfl ?c1 ?c2 (by decide) ?c3 ?c4 ?c5 _ rfl ?_)
    case c1 => intro x' u hx; cases x' with | zero => cases hx; rw [WideShapes.add_plain]; exact (cell_of_row _ _ 0 _ _ _ (heap_alloc_new w4 (.cells #[.int .i64 x] 2))).trans rfl | succ x => simp at hx
    case c2 => intro u hu; simp at hu; subst hu; rfl
    case c3 => unfold maxLen; omega
    case c4 => omega
    case c5 => simp; omega
    intro gs cs w5 hown5 hgrow5 hat5 hlt5
    have HS5:Hid (ShS X (k + 1) k w (.slice (some ⟨gs,0,none⟩) (k + 1) cs) lv wv w5):=by
     obtain ⟨ys,hy1,hy2⟩:=HL4.out
     refine Lib.hid ⟨(HS4.out.blk.alloc _).grown hgrow5 (fun e => by have:=own_ge hx1 e.symm; omega),⟨xs ++ [x],by simpa [ints] using hown5,by simp [hx2],?_⟩,own_kept (HS4.out.wo.alloc _) (own_apartT HS4.out.wo hx1 (by decide)) hgrow5,?_,(HS4.out.below.alloc hsz4 _).grown hgrow5 (by simp; omega) (fun q hq => by have:=own_ge hx1 hq; omega),hXw⟩
     · intro y hy
       rcases List.mem_append.1 hy with h | h
       · exact HX3.out y h
       · simp at h; subst h; exact HM2.out
     · exact (Apart.app HS4.out.ap.symm (hy1.alloc (.cells #[.int .i64 x] 2)) (H:=w4.heap.size + 1) (by simp) hat5).symm
    have HL5:Hid (LfS X k lv w5):=by
     obtain ⟨ys,hy1,hy2⟩:=HL4.out
     exact Lib.hid ⟨ys,own_kept (hy1.alloc _) HS4.out.ap.symm hgrow5,hy2⟩
    clear hown5 hgrow5 hat5 hlt5 hx1 hx2 hX4 hsz4
    go_upto_region 17 with (fail)
    generalize hsv:(Value.slice (some ⟨gs,0,none⟩) (k + 1) cs) = sv5 at HS5 ⊢
    go_cut [] from 46 to 78 (fun wx => ∃ lv',Hid (ShS X (k + 1) k w sv5 lv' wv wx)∧Hid (LfS X (k + 1) lv' wx))
    case first =>
     have hRS:=fun W => Bk.rest T fk x S W
     obtain ⟨ys,hy1,hy2⟩:=HL5.out
     have HY2:=Lib.hid hy2
     have x0:w5.cell? ⟨X,0,none⟩ = some lv:=(HS5.out.blk.cell 0).trans rfl
     have x0a:∀ z:Int,(w5.alloc (.cells #[.int .i64 z] 2)).cell? ⟨X,0,none⟩ = some lv:=fun z => ((HS5.out.blk.alloc _).cell 0).trans rfl
     have HOA:=Lib.hid (fun z:Int => (show (w5.alloc (.cells #[.int .i64 z] 2)).drew.ownsRow (X + 1) 2 1 lv k (ints ys) from hy1.alloc _))
     have HNW:=Lib.hid (fun z:Int => (show Blk (w5.alloc (.cells #[.int .i64 z] 2)).drew w5.heap.size 2 #[.int .i64 z] from Blk.new w5 _ _))
     have hX5:=HS5.out.blk.lt
     clear hy1 hy2
     go_region_law (first
       | (go_simp; go_at_call 252; refine (hRS _).mono ?_; rintro e w8 ⟨z,rfl,rfl⟩)
       | (refine step_append_lies _ rfl (.tmp 62) (.tmp 68) 70 rfl (X + 1) 2 i0 (.int .i64 0) 1 8 Tryz.underlying70 HI0.out.1 HI0.out.2.1 HI0.out.2.2.1 HI0.out.2.2.2 rfl (by decide) lv k (ints ys) ?_ (HOA.out z) ⟨w5.heap.size,0,none⟩ 1 1 [.int .i64 z] ?_ rfl ?_ ?_ (by decide) ?_ ?_ ?_ (w5.heap.size + 1) ?_ ?_
          · simp [Act.eval]
          · simp [Act.eval]
          · intro jj u hu; rw [WideShapes.add_plain]; exact (HNW.out z).range jj u hu
          · intro u hu; simp at hu; subst hu; rfl
          · unfold maxLen; omega
          · omega
          · simp; omega
          · simp
          intro g' cap' w7 hown' hgrow hat hlt'
          have hlX:∀ q,lv.ownBlock = some q→X + 1≤q:=fun q hq => own_ge (HOA.out z) hq
          have hx3:Blk w7 X 371 #[lv]:=(show Blk (w5.alloc (.cells #[.int .i64 z] 2)).drew X 371 #[lv] from HS5.out.blk.alloc _).grown hgrow (fun e => by have:=hlX X e.symm; omega)
          have y0:w7.cell? ⟨X,0,none⟩ = some lv:=(hx3.cell 0).trans rfl
          have yf:=hx3.frozen 0
          replace hx3:=Lib.hid hx3
          replace hlX:=Lib.hid hlX
          replace hown':=Lib.hid hown'
          replace hgrow:=Lib.hid hgrow))
     all_goals
       clear y0 yf x0 x0a
       have hfin:ShS X (k + 1) k w sv5 (.slice (some ⟨g',0,none⟩) (k + 1) cap') wv (w7.setCell ⟨X,0,none⟩ (.slice (some ⟨g',0,none⟩) (k + 1) cap')):=by
        obtain ⟨xs',hx1,hx2,hx3'⟩:=HS5.out.sh
        have d1:(w5.alloc (.cells #[.int .i64 z] 2)).drew.ownsRow (X + 1) 2 1 sv5 (k + 1) (ints xs'):=hx1.alloc _
        have d2:(w5.alloc (.cells #[.int .i64 z] 2)).drew.ownsRow (X + 1) 3 1 wv k (ints (upTo k)):=HS5.out.wo.alloc _
        refine ⟨hx3.out.set 0 _,⟨xs',own_far (own_kept d1 HS5.out.ap hgrow.out) (b:=X) (fun q hq => by have:=own_ge d1 hq; omega) _ _,hx2,hx3'⟩,own_far (own_kept d2 (own_apartT d2 (HOA.out z) (by decide)) hgrow.out) (b:=X) (fun q hq => by have:=own_ge d2 hq; omega) _ _,?_,?_,hXw⟩
        · exact Apart.app HS5.out.ap d1 (H:=w5.heap.size + 1) (by simp) hat
        · exact ((((HS5.out.below.alloc HS5.out.below.size (.cells #[.int .i64 z] 2)).drew).grown hgrow.out (by have:=HS5.out.below.size; simp; omega) (fun q hq => by have:=hlX.out q hq; omega))).setCell (p:=⟨X,0,none⟩) hXw _
       have hfin2:LfS X (k + 1) (.slice (some ⟨g',0,none⟩) (k + 1) cap') (w7.setCell ⟨X,0,none⟩ (.slice (some ⟨g',0,none⟩) (k + 1) cap')) :=
        ⟨ys ++ [z],own_far (by have:=hown'.out; simpa [ints] using this) (b:=X) (fun q hq => by have:=own_ge hown'.out hq; omega) _ _,by simp [HY2.out]⟩
       have HF1:=Lib.hid hfin
       have HF2:=Lib.hid hfin2
       clear hfin hfin2 hx3 hlX hown' hgrow hat hlt'
       go_wp2_with fail
       go_meet
       case rel => exact ⟨_,HF1,HF2⟩
    case rest =>
     obtain ⟨lv',HS6,HL6⟩:=hcut
     clear HS5 HL5 hsv
     have hw1:=HS6.out.wo
     have hsz6:=HS6.out.below.size
     have hX6:=HS6.out.blk.lt
     obtain ⟨hq1,hq2⟩:=HQ.out
     unfold In64 at hq1
     go_wp2_with (at_builtin; with_reducible refine wpList_append_lies _ rfl (.tmp 71) (.tmp 73) 25 rfl (X + 1) 3 i1 (.int .i64 0) 1 8 Tryz.underlying25 HI1.out.1 HI1.out.2.1 HI1.out.2.2.1 HI1.out.2.2.2 rfl (by decide) _ _ _ rfl (hw1.alloc _) ⟨wc.heap.size,0,none⟩ 1 1 [.int .i64 k] rfl rfl ?c1 ?c2 (by decide) ?c3 ?c4 ?c5 _ rfl ?_)
     case c1 => intro x' u hx; cases x' with | zero => cases hx; rw [WideShapes.add_plain]; exact (cell_of_row _ _ 0 _ _ _ (heap_alloc_new wc (.cells #[.int .i64 k] 3))).trans rfl | succ x => simp at hx
     case c2 => intro u hu; simp at hu; subst hu; rfl
     case c3 => unfold maxLen; omega
     case c4 => omega
     case c5 => simp; omega
     intro gw cw w7 hown7 hgrow7 hat7 hlt7
     have HS7:Hid (ShS X (k + 1) (k + 1) w sv5 lv' (.slice (some ⟨gw,0,none⟩) (k + 1) cw) w7):=by
      obtain ⟨xs',hx1,hx2,hx3'⟩:=HS6.out.sh
      refine Lib.hid ⟨(HS6.out.blk.alloc _).grown hgrow7 (fun e => by have:=own_ge hw1 e.symm; omega),⟨xs',own_kept (hx1.alloc _) (own_apartT hx1 hw1 (by decide)) hgrow7,hx2,hx3'⟩,by rw [upTo_snoc]; simpa [ints] using hown7,HS6.out.ap,(HS6.out.below.alloc hsz6 _).grown hgrow7 (by simp; omega) (fun q hq => by have:=own_ge hw1 hq; omega),hXw⟩
     have HL7:Hid (LfS X (k + 1) lv' w7):=by
      obtain ⟨ys,hy1,hy2⟩:=HL6.out
      exact Lib.hid ⟨ys,own_kept (hy1.alloc _) (own_apartT hy1 hw1 (by decide)) hgrow7,hy2⟩
     clear hown7 hgrow7 hat7 hlt7 hw1 hX6 hsz6
     go_wp2
     go_roundw
     case rel => exact ⟨k + 1,_,_,_,by omega,rfl,rfl,by go_num,by rw [HA1.out],HS7,HL7⟩
     case measure => simp [intOf]; omega
  · obtain rfl:k = n:=by omega
    have hm:=HMS.out k (Nat.le_refl _)
    obtain ⟨m,hmm⟩:∃ m:Nat,T - sumTo (fun i => T * f i / S) k = m:=⟨(T - sumTo (fun i => T * f i / S) k).toNat,by omega⟩
    rw [hmm] at hm ⊢
    have hmk:m≤k:=by have:=hm.2.2 rfl; omega
    have hkp:=HPN.out
    obtain ⟨xs,hx1,hx2,hx3⟩:=HS.out.sh
    obtain ⟨ys,hy1,hy2⟩:=HL.out
    have hw1:=HS.out.wo
    have hap:=HS.out.ap
    have hxm:=HS.out.hX
    have hblk:=HS.out.blk
    obtain ⟨gs,cs,rfl,hgs1,hgs2⟩:=hx1.form hkp
    obtain ⟨gl,cl,rfl,hgl1,hgl2⟩:=hy1.form hkp
    obtain ⟨gw,cw,rfl,hgw1,hgw2⟩:=hw1.form hkp
    have hcw:k≤cw:=by
     rcases hw1.2 with ⟨e,_⟩ | ⟨g,cap,cur,e,_,_,h5,_⟩
     · cases e
     · cases e; exact h5
    have hsl:gs ≠ gl:=fun e => hap gs rfl (by rw [e]; rfl)
    have hSQ:SQ gw k gl 0 (fun i => ys.getD i 0) wr wr:=by
     refine ⟨Ty.of_own hw1,fun i hi => ⟨i,hi,?_⟩,fun i hi => ?_,Ty.ne (Ty.of_own hy1) (Ty.of_own hw1) (by decide),Kept.refl _ _⟩
     · have:=hw1.cellAt i (by omega)
       rw [this,upTo_at hi]
     · have:=hy1.cellAt i (by omega)
       rw [Nat.zero_add,this]
       simp [ints,List.getD,hy2,hi]
    have HSO:=Lib.hid (Bk.sortInts (c:=cl) (cap:=cw) hSQ hgl2 hn)
    have hLA:LineAt wr k gs:=⟨Ty.of_own hx1,fun q hq => ⟨xs.getD q 0,getD_all hx3 (by omega),by
     have:=hx1.cellAt q (by omega)
     rw [this]
     simp [ints,List.getD,hx2,hq]⟩⟩
    have HLA:=Lib.hid hLA
    have hne:gw ≠ gs:=Ty.ne (Ty.of_own hw1) (Ty.of_own hx1) (by decide)
    have HBE:=Lib.hid HS.out.below
    have hc0:wr.cell? ⟨X,0,none⟩ = some (.slice (some ⟨gl,0,none⟩) k cl):=(hblk.cell 0).trans rfl
    clear hSQ hLA hx1 hy1 hw1 hap hx3 hy2 hblk HS HL HMS hm hmm
    unfold ordV at HSO
    go_wp2_with fail
    refine HSO.out.mono ?_
    rintro e w5 ⟨rfl,hSQ⟩
    have HB5:=Lib.hid ((HBE.out.trans (hSQ.kept.below (B:=w.heap.size) HBE.out.size (by rintro q rfl; omega))))
    have HL5:Hid (LineAt w5 k gs):=Lib.hid ⟨HLA.out.ty.same (hSQ.kept.block gs HLA.out.ty.lt (fun e => hne e.symm)),fun q hq => by
     obtain ⟨v,h1,h2⟩:=HLA.out.am q hq
     exact ⟨v,h1,hSQ.kept.cell h2 (fun e => hne e.symm)⟩⟩
    have HW5:=Lib.hid hSQ.row
    have hmz:(m:Int)≤(cw:Int):=by omega
    have hm0:(0:Int)≤(m:Int):=by omega
    clear hSQ hc0 HLA HBE HSO
    go_wp2
    go_loopw [87] (fun i wx => ∃ j:Nat,j≤m∧i = .int .i64 j∧Hid (RowKit.Below w.heap.size w wx)∧Hid (LineAt wx k gs)∧Hid (∀ (i:Nat),i < k→∃ x:Nat,x < k∧wx.cell? ⟨gw,i,none⟩ = some (.int .i64 x))) (fun i _ => m - (intOf i).toNat)
    case atStart => exact ⟨0,by omega,rfl,HB5,HL5,HW5⟩
    case round =>
     clear HB5 HL5 HW5
     obtain ⟨j,hj,rfl,HB5,HL5,HW5⟩:=hrel
     by_cases hlt2:j < m
     · have q2:(j:Int) < (m:Int):=by omega
       obtain ⟨x,hx,hcx⟩:=HW5.out j (by omega)
       obtain ⟨v,v6,hcv⟩:=HL5.out.am x hx
       obtain ⟨cs',hty⟩:=HL5.out.ty
       have fz:World.frozen? _ ⟨gs,x,none⟩ = false:=frozen_of_row _ _ x _ _ hty
       have q3:(x:Int) < (k:Int):=by omega
       have HB6:=Lib.hid (HB5.out.setCell (p:=⟨gs,x,none⟩) (show w.heap.size≤gs by omega) (.int .i64 (wrap64 (v + 1))))
       have HL6:Hid (LineAt (World.setCell _ ⟨gs,x,none⟩ (.int .i64 (wrap64 (v + 1)))) k gs):=Lib.hid ⟨HL5.out.ty.set _ _ _,fun q hq => by
        obtain ⟨u,h1,h2⟩:=HL5.out.am q hq
        by_cases e:x = q
        · subst e; exact ⟨_,Bk.wrap_64 _,World.cell?_setCell_same _ _ _ h2⟩
        · exact ⟨u,h1,(World.cell?_setCell_other _ _ _ _ (by intro e'; simp only [Addr.mk.injEq] at e'; omega)).trans h2⟩⟩
       have HW6:Hid (∀ (i:Nat),i < k→∃ y:Nat,y < k∧(World.setCell _ ⟨gs,x,none⟩ (.int .i64 (wrap64 (v + 1)))).cell? ⟨gw,i,none⟩ = some (.int .i64 y)):=Lib.hid (fun i hi => by
        obtain ⟨y,h1,h2⟩:=HW5.out i hi
        exact ⟨y,h1,(World.cell?_setCell_other _ _ _ _ (by intro e'; simp only [Addr.mk.injEq] at e'; exact hne e'.1.symm)).trans h2⟩)
       clear hty HB5 HL5 HW5 v6
       go_wp2
       go_roundw
       case rel => exact ⟨j + 1,by omega,by go_num,HB6,HL6,HW6⟩
       case measure => simp [intOf]; omega
     · go_wp2
       go_ret2
       exact ⟨gs,cs,rfl,HL5.out,by omega,HB5.out⟩
end Go.Proofs.YtgcnnbjbdfgglaaGreat
