/- LAW TopBoth: of every configuration of a bank and every list of byte strings the given function TopBoth returns true and leaves its arguments as they were; no condition. A part of what it needs. -/
import Derived.Test.YtgcnnbjbdfgglaaGreatZas
namespace Go.Proofs.YtgcnnbjbdfgglaaGreat
open Go.RowKit
structure Prt where
  a:Int
  m:Int
def Prt.cell (p:Prt):Nat→Value
  | 0 => .int .i64 p.a
  | _ => .int .i64 p.m
def prtC (ps:List Prt):List Value:=flatK 2 ps.length fun i => (ps.getD i ⟨0,0⟩).cell
theorem prtC_snoc (ps:List Prt) (p:Prt):prtC (ps ++ [p]) = prtC ps ++ [.int .i64 p.a,.int .i64 p.m]:=by
 unfold prtC
 rw [show (ps ++ [p]).length = ps.length + 1 by simp,flatK_two]
 congr 1
 · unfold flatK
   apply List.map_congr_left
   intro k hk
   have:k < ps.length * 2:=by simpa using hk
   have h1:k / 2 < ps.length:=by omega
   simp [List.getD,List.getElem?_append_left h1]
 · simp [List.getD,Prt.cell]
theorem Bk.wrap_64 (x:Int):In64 (wrap64 x):=by
 unfold wrap64 In64; omega
theorem LeW.grown {w w':World} {h:Lh} {row:Option Nat} (L:LeW w h) (hg:w.grownBy w' row) (hr:∀ q,row = some q→¬ h.own q):LeW w' h :=
 L.frame (F:=fun k => some k = row) ⟨hg.os,hg.tape,hg.output,hg.size,fun k hk hn => hg.block k hk hn⟩ (fun q hq e => hr q e.symm hq)
theorem Kept.grown {F:Nat→Prop} {a b c:World} {row:Option Nat} (h:Kept F a b) (hg:b.grownBy c row) (hr:∀ q,row = some q→a.heap.size≤q):Kept F a c:=by
 refine ⟨hg.os.trans h.os,hg.tape.trans h.tape,hg.output.trans h.output,Nat.le_trans h.size hg.size,fun k hk hn => ?_⟩
 rw [hg.block k (Nat.lt_of_lt_of_le hk h.size) (fun e => by have:=hr k e.symm; omega)]
 exact h.block k hk hn
theorem Bk.infoPrt:(Tryz.prog.info? 361).map (fun i => (i.zero,i.size,i.bytes)) = some (some (.agg #[.int .i64 0,.int .i64 0]),2,16):=by kernel_rfl
def DrPost (h:Lh) (w:World) (e:Ending) (w':World):Prop:=∃ v t c ps,e = .returned (.tuple #[v,.int .i64 t,.int .i64 c])∧In64 t∧0≤c∧c≤12∧w'.ownsRow w.heap.size 361 2 v ps.length (prtC ps)∧ps.length≤8∧(∀ p ∈ ps,In64 p.m)∧LeW w' h∧Kept h.own w w'
set_option maxRecDepth 100000 in
set_option maxHeartbeats 4000000 in
theorem Bk.draw {w:World} {h:Lh} (L:LeW w h) (cur:Nat) (hcur:cur < h.C) (need:Int) (hn0:0≤need) (hn6:In64 need):Calls Tryz.prog 206 #[.pointer (some ⟨h.x,0,none⟩),.int .i64 cur,.int .i64 need] w (DrPost h w):=by
 obtain ⟨i0,hi,hz0,hz1,hz2⟩:=info_parts Bk.info64
 obtain ⟨i1,ji,jz0,jz1,jz2⟩:=info_parts Bk.infoPrt
 have HIS:=Lib.hid (And.intro ji (And.intro jz0 (And.intro jz1 jz2)))
 clear ji jz0 jz1 jz2
 have HH:=Bk.le_has L (cur:Int)
 rw [show inN h.C (cur:Int) = true from decide_eq_true ⟨by omega,by omega⟩] at HH
 have HH:=Lib.hid HH
 have HLF:=Lib.hid (fun (W:World) (hb:Below w.heap.size w W) (a:Int) => Bk.left (L.below hb) a cur hcur)
 have HL:=Lib.hid L
 have HLT:=Lib.hid L.ownlt
 have hn8:=L.n8
 have c0:=L.c0
 have HN:=Lib.hid (And.intro hn0 hn6)
 have hnz:¬ need < 0:=by omega
 have HC:=Lib.hid hcur
 clear L hn0 hn6 hcur
 go_enter Tryz.func206,Tryz.ntmps206
 go_wp2_with fail
 refine HH.out.mono ?_
 rintro e w1 ⟨rfl,rfl⟩
 go_wp2
 clear c0
 go_loopw [9,30] (fun l i wr => ∃ (k:Nat) (zs:List Int),k≤h.n∧i = .int .i64 k∧wr.ownsRow w1.heap.size 2 1 l zs.length (ints zs)∧zs.length = k∧Hid (∀ z ∈ zs,In64 z)∧Below w1.heap.size w1 wr) (fun _ i _ => h.n - (intOf i).toNat)
 case atStart => exact ⟨0,[],by omega,rfl,World.ownsRow_nil _ _ _ _,rfl,Lib.hid (by simp),Below.refl _ _⟩
 case round =>
  obtain ⟨k,zs,hk,rfl,hown,hzl,HZ,hb⟩:=hrel
  have HB:=Lib.hid hb
  by_cases hlt:k < h.n
  · have q2:(k:Int) < (h.n:Int):=by omega
    have hsz:=hb.size
    have HOWN:=Lib.hid hown
    clear hb hown
    go_wp2_with fail
    refine (HLF.out wr HB.out (k:Int)).mono ?_
    rintro e w2 ⟨x,rfl,x6,hb2⟩
    have HX6:=Lib.hid x6
    have HB2:=Lib.hid hb2
    have hown2:=own_below HOWN.out hb2
    have hsz2:=hb2.size
    clear x6 hb2
    go_wp2_with (at_builtin; with_reducible refine wpList_append_own _ rfl (.tmp 33) (.tmp 38) 70 rfl w1.heap.size 2 i0 (.int .i64 0) 1 8 Tryz.underlying70 hi hz0 hz1 hz2 rfl (by decide) _ _ _ rfl (hown2.alloc _) ⟨w2.heap.size,0,none⟩ 1 1 [.int .i64 x] rfl rfl ?c1 ?c2 ?c3 ?c4 ?c5 ?_)
    case c1 => intro x' u hx; cases x' with | zero => cases hx; rw [WideShapes.add_plain]; exact (cell_of_row _ _ 0 _ _ _ (heap_alloc_new w2 (.cells #[.int .i64 x] 2))).trans rfl | succ x => simp at hx
    case c2 => intro u hu; simp at hu; subst hu; rfl
    case c3 => unfold maxLen; omega
    case c4 => omega
    case c5 => simp; omega
    intro v' w3 hown' hgrow _
    have hb3:=((HB.out.trans (HB2.out.mono hsz)).alloc (by omega) (.cells #[.int .i64 x] 2)).grown hgrow (by simp; omega) (fun k hk => own_ge hown2 hk)
    have hrow:w3.ownsRow w1.heap.size 2 1 v' (zs ++ [x]).length (ints (zs ++ [x])):=by simpa [ints,hzl] using hown'
    have HR:=Lib.hid hrow
    have HB3:=Lib.hid hb3
    clear hgrow hown' hown2 hb3 hrow
    go_wp2
    go_roundw
    case rel => exact ⟨k + 1,zs ++ [x],by omega,by go_num,HR.out,by simp; omega,Lib.hid (by
     intro z hz
     rcases List.mem_append.1 hz with h | h
     · exact HZ.out z h
     · simp at h; subst h; exact HX6.out),HB3.out⟩
    case measure => simp [intOf]; omega
  · obtain rfl:k = h.n:=by omega
    clear hb
    have hsl:=own_slI hown
    have HLv:=Lib.hid (hown.lt)
    have hzf:∀ i,i < zs.length→In64 (zs.getD i 0):=fun i hi => getD_all HZ.out hi
    have HBs:=HB.out.size
    by_cases hneg:∀ i,i < zs.length→0≤zs.getD i 0
    · have HF:=Lib.hid (Bk.fill hsl (by omega) (fun i hi => ⟨hneg i hi,hzf i hi⟩) need HN.out.1 HN.out.2)
      have hzf2:=Lib.hid hzf
      clear hsl hneg hzf hown
      go_wp2_with fail
      refine HF.out.mono ?_
      rintro e w2 ⟨v,ys,t,rfl,hown2,hyl,hys,ht0,ht6,hb2⟩
      have L2:=(HL.out.below HB.out).below hb2
      have HK0:=Lib.hid ((Kept.of_below (F:=h.own) HB.out).trans (Kept.of_below hb2))
      have HT:=Lib.hid ht6
      have HYS:=Lib.hid hys
      have hsl2:=own_slI hown2
      rw [hyl] at hsl2
      have HLT2:=Lib.hid (fun q (hq:v.ownBlock = some q) => (hown2.lt q hq).1)
      obtain ⟨ya,yc,rfl,hy⟩:=hsl2
      have HY:=Lib.hid hy
      have HL2:=Lib.hid L2
      have hb2s:=hb2.size
      clear hown2 ht0 ht6 hb2 hys L2 hy
      go_wp2
      go_loopw [14,53] (fun l i wr => ∃ (k:Nat) (ps:List Prt),k≤h.n∧i = .int .i64 k∧wr.ownsRow w2.heap.size 361 2 l ps.length (prtC ps)∧ps.length≤k∧Hid (∀ p ∈ ps,In64 p.m)∧Hid (LeW wr h)∧Hid (Kept h.own w2 wr)) (fun _ i _ => h.n - (intOf i).toNat)
      case atStart => exact ⟨0,[],by omega,rfl,World.ownsRow_nil _ _ _ _,by simp,Lib.hid (by simp),HL2,Lib.hid (Kept.refl _ _)⟩
      case round =>
       obtain ⟨k,ps,hk,rfl,hown,hpl,HP,HLR,HK⟩:=hrel
       have HOWN:=Lib.hid hown
       have hks:=HK.out.size
       by_cases hlt:k < h.n
       · have q2:(k:Int) < (h.n:Int):=by omega
         obtain ⟨yb,yo,rfl,hy2⟩:=HY.out (by omega)
         have HYB:=Lib.hid (HLT2.out yb rfl)
         have y0:=hy2 k (by omega)
         have y1:wr.cell? ⟨yb,yo + k,none⟩ = some (.int .i64 (ys.getD k 0)):=HK.out.cell y0 (fun hf => by have:=HLT.out yb hf; have:=HYB.out; omega)
         clear hy2 y0 hown
         by_cases hpos:0 < ys.getD k 0
         · obtain ⟨r0,bb,r1⟩:=HLR.out.row k hlt
           obtain ⟨v,v6,hv⟩:=HLR.out.line k hlt cur HC.out
           have hpa:=HLR.out.pp (by omega)
           have c0:=HLR.out.c0
           rw [hpa] at c0
           obtain ⟨cs,htl⟩:=HLR.out.tl k hlt
           have fz:wr.frozen? ⟨h.lb k,cur,none⟩ = false:=frozen_of_row _ _ _ _ _ htl
           have q3:(cur:Int) < (h.C:Int):=by have:=HC.out; omega
           obtain ⟨z,hz⟩:∃ z,ys.getD k 0 = z:=⟨_,rfl⟩
           have hz6:In64 z:=by
            rw [← hz]
            have h1:=HYS.out k (by omega)
            have h2:=hzf2.out k (by omega)
            unfold In64 at *; omega
           rw [hz] at y1 hpos
           have HL3:=Lib.hid (HLR.out.setline k cur hlt (wrap64 (v - z)) (Bk.wrap_64 _))
           have HK3:=Lib.hid (HK.out.setCell (g:=h.lb k) (Or.inl (Or.inr (Or.inr ⟨k,hlt,rfl⟩))) cur (.int .i64 (wrap64 (v - z))))
           have hown3:=own_far HOWN.out (b:=h.lb k) (fun q hq e => by have h1:=(HOWN.out.lt q hq).1; have h2:=HLT.out q (Or.inr (Or.inr ⟨k,hlt,e⟩)); omega) cur (.int .i64 (wrap64 (v - z)))
           have hsz3:(wr.setCell ⟨h.lb k,cur,none⟩ (.int .i64 (wrap64 (v - z)))).heap.size = wr.heap.size:=by simp [World.setCell]
           have HZ6:=Lib.hid hz6
           clear htl hpa hz hz6 v6
           go_upto_region 18 with (fail)
           generalize wr.setCell ⟨h.lb k,cur,none⟩ (.int .i64 (wrap64 (v - z))) = w3 at HL3 HK3 hown3 hsz3 ⊢
           clear fz c0 r0 r1 hv y1 HLR HK HOWN
           have hks3:=HK3.out.size
           clear hsz3
           go_wp2_with (at_builtin; with_reducible refine wpList_append_own _ rfl (.tmp 74) (.tmp 78) 322 rfl w2.heap.size 361 i1 (.agg #[.int .i64 0,.int .i64 0]) 2 16 Tryz.underlying322 HIS.out.1 HIS.out.2.1 HIS.out.2.2.1 HIS.out.2.2.2 rfl (by decide) _ _ _ rfl (hown3.alloc _) ⟨w3.heap.size,0,none⟩ 1 1 [.int .i64 k,.int .i64 z] rfl rfl ?d1 ?d2 ?d3 ?d4 ?d5 ?_)
           case d1 => intro x' u hx; rw [WideShapes.add_plain]; exact (Blk.new w3 361 #[.int .i64 k,.int .i64 z]).range x' u hx
           case d2 => intro u hu; simp at hu; rcases hu with rfl | rfl <;> rfl
           case d3 => unfold maxLen; omega
           case d4 => omega
           case d5 => simp; omega
           intro v' w4 hown' hgrow _
           have hk4:Kept h.own w2 w4:=(HK3.out.alloc _).grown hgrow (fun q hq => own_ge hown3 hq)
           have hl4:LeW w4 h:=(HL3.out.below ((Below.refl _ _).alloc (Nat.le_refl _) _)).grown hgrow (fun q hq ho => by have h1:=own_ge hown3 hq; have h2:=HLT.out q ho; omega)
           have hrow:w4.ownsRow w2.heap.size 361 2 v' (ps ++ [(⟨k,z⟩:Prt)]).length (prtC (ps ++ [(⟨k,z⟩:Prt)])):=by rw [prtC_snoc,show (ps ++ [(⟨k,z⟩:Prt)]).length = ps.length + 1 by simp]; exact hown'
           have HR:=Lib.hid hrow
           have HK4:=Lib.hid hk4
           have HL4:=Lib.hid hl4
           clear hgrow hown' hown3 hk4 hl4 hrow
           go_wp2
           go_roundw
           case rel => exact ⟨k + 1,ps ++ [⟨k,z⟩],by omega,by go_num,HR.out,by simp; omega,Lib.hid (by
            intro p hp
            rcases List.mem_append.1 hp with h | h
            · exact HP.out p h
            · simp at h; subst h; exact HZ6.out),HL4,HK4⟩
           case measure => simp [intOf]; omega
         · obtain ⟨z,hz⟩:∃ z,ys.getD k 0 = z:=⟨_,rfl⟩
           rw [hz] at y1 hpos
           clear hz
           go_wp2
           go_roundw
           case rel => exact ⟨k + 1,ps,by omega,by go_num,HOWN.out,by omega,HP,HLR,HK⟩
           case measure => simp [intOf]; omega
       · obtain rfl:k = h.n:=by omega
         have hown4:wr.ownsRow w1.heap.size 361 2 _ ps.length (prtC ps):=own_base HOWN.out (by omega)
         have HO4:=Lib.hid hown4
         clear hown hown4 HOWN
         go_wp2
         go_ret3
         exact ⟨_,t,0,ps,rfl,HT.out,by omega,by omega,HO4.out,by omega,HP.out,HLR.out,HK0.out.trans HK.out⟩
    · have HF:=Lib.hid (Bk.fillNo hsl (by omega) hneg need HN.out.1)
      clear hsl hneg hzf hown
      go_wp2_with fail
      refine HF.out.mono ?_
      rintro e w2 ⟨rfl,hb2⟩
      have HB2:=Lib.hid hb2
      clear hb2
      go_wp2
      go_ret3
      exact ⟨_,0,1,[],rfl,by unfold In64; omega,by omega,by omega,World.ownsRow_nil _ _ _ _,by simp,by simp,(HL.out.below HB.out).below HB2.out,(Kept.of_below HB.out).trans (Kept.of_below HB2.out)⟩
end Go.Proofs.YtgcnnbjbdfgglaaGreat
namespace Go.Proofs.YtgcnnbjbdfgglaaGreat
open Go.RowKit
def PartsAt (w:World) (v:Value) (ps:List Prt):Prop:=SlK w v 2 ps.length fun i => (ps.getD i ⟨0,0⟩).cell
theorem parts_of_own {w:World} {B:Nat} {v:Value} {ps:List Prt} (h:w.ownsRow B 361 2 v ps.length (prtC ps)):PartsAt w v ps:=by
 rcases Nat.eq_zero_or_pos ps.length with e | e
 · rcases h.2 with ⟨rfl,h0⟩ | ⟨g,cap,cur,rfl,_⟩
   · exact ⟨none,0,by rw [e],fun hn => absurd hn (by omega)⟩
   · exact ⟨_,_,rfl,fun hn => absurd hn (by omega)⟩
 · obtain ⟨g,cap,rfl,hg1,hg2⟩:=h.form e
   exact SlK.of_row (RowK.of_own h).1
theorem PartsAt.below {w w':World} {v:Value} {ps:List Prt} (h:PartsAt w v ps) (hb:Below w.heap.size w w'):PartsAt w' v ps:=SlK.below h hb
set_option maxRecDepth 100000 in
set_option maxHeartbeats 1000000 in
theorem Bk.give1 {w:World} {h:Lh} (L:LeW w h) (z:Nat) (hz:w.cell? ⟨z,0,none⟩ = some (.pointer (some ⟨h.x,0,none⟩))) (p:Prt):Calls Tryz.prog 245 #[.agg #[.int .i64 p.a,.int .i64 p.m],.pointer (some ⟨z,0,none⟩)] w fun e w' => e = .returned (.bool (!inN h.n p.a || decide (p.m < 1)))∧Below w.heap.size w w':=by
 have hb:=(Below.refl w.heap.size w).alloc (Nat.le_refl _) (.cells #[.int .i64 p.a,.int .i64 p.m] 361)
 have HK:=Lib.hid (Bk.le_known (L.below hb) p.a)
 have hzl:=block_lt_of_cell hz
 have HB:=Lib.hid hb
 generalize inN h.n p.a = t at *
 clear L hb
 cases t with
 | true =>
  by_cases hm:p.m < 1
  · rw [decide_eq_true hm]
    go_enter Tryz.func245,Tryz.ntmps245
    go_wp2_with fail
    refine HK.out.mono ?_
    rintro e w1 ⟨rfl,rfl⟩
    go_wp2
    go_ret
    exact ⟨rfl,HB.out⟩
  · rw [decide_eq_false hm]
    have hd:decide (p.m < 1) = false:=decide_eq_false hm
    go_enter Tryz.func245,Tryz.ntmps245
    go_wp2_with fail
    refine HK.out.mono ?_
    rintro e w1 ⟨rfl,rfl⟩
    go_wp2
    go_ret
    exact ⟨rfl,HB.out⟩
 | false =>
  go_enter Tryz.func245,Tryz.ntmps245
  go_wp2_with fail
  refine HK.out.mono ?_
  rintro e w1 ⟨rfl,rfl⟩
  go_wp2
  go_ret
  exact ⟨rfl,HB.out⟩
set_option maxRecDepth 100000 in
set_option maxHeartbeats 8000000 in
theorem Bk.give {w:World} {h:Lh} (L:LeW w h) (cur:Nat) (hcur:cur < h.C) {v:Value} {ps:List Prt} (hp:PartsAt w v ps) (hp8:(ps.length:Int)≤100) (hp6:∀ p ∈ ps,In64 p.m) (hq:∀ k,v.ownBlock = some k→¬ h.own k):Calls Tryz.prog 209 #[.pointer (some ⟨h.x,0,none⟩),.int .i64 cur,v] w (LePost h w):=by
 have hb0:=(Below.refl w.heap.size w).alloc (Nat.le_refl _) (.cells #[.pointer (some ⟨h.x,0,none⟩)] 120)
 have HH:=Bk.le_has (L.below hb0) (cur:Int)
 rw [show inN h.C (cur:Int) = true from decide_eq_true ⟨by omega,by omega⟩] at HH
 have HH:=Lib.hid HH
 have hZ:=Blk.new w 120 #[.pointer (some ⟨h.x,0,none⟩)]
 have HA:=Bk.anyPrt (hp.below hb0) (by omega) 245 #[.pointer (some ⟨w.heap.size,0,none⟩)] (fun i => !inN h.n (ps.getD i ⟨0,0⟩).a || decide ((ps.getD i ⟨0,0⟩).m < 1)) (fun _ _ => by kernel_rfl)
   (fun i hi wx hbx => by
    have:=Bk.give1 ((L.below hb0).below hbx) w.heap.size (by rw [(hZ.below hbx).cell 0]; rfl) (ps.getD i ⟨0,0⟩)
    exact this)
 have HL:=Lib.hid L
 have HLT:=Lib.hid L.ownlt
 have HP:=Lib.hid hp
 have HP6:=Lib.hid hp6
 have HQ:=Lib.hid hq
 have HCU:=Lib.hid hcur
 have HZ:=Lib.hid hZ
 have HB0:=Lib.hid hb0
 clear hp6 hcur hZ L hb0 hq
 obtain ⟨va,vc,rfl,hvc⟩:=hp
 have HVC:=Lib.hid hvc
 clear hvc
 cases hany:anyTo (fun i => !inN h.n (ps.getD i ⟨0,0⟩).a || decide ((ps.getD i ⟨0,0⟩).m < 1)) ps.length with
 | true =>
  rw [hany] at HA
  have HA:=Lib.hid HA
  clear hany
  go_enter Tryz.func209,Tryz.ntmps209
  go_wp2_with fail
  refine HH.out.mono ?_
  rintro e w1 ⟨rfl,rfl⟩
  go_wp2_with fail
  refine HA.out.mono ?_
  rintro e w2 ⟨rfl,hb2⟩
  have HB2:=Lib.hid hb2
  clear hb2
  go_wp2
  go_ret
  exact ⟨1,rfl,by omega,by omega,(HL.out.below HB0.out).below HB2.out,(Kept.of_below (HB0.out)).trans (Kept.of_below HB2.out)⟩
 | false =>
  rw [hany] at HA
  have HA:=Lib.hid HA
  have HALL:=Lib.hid (anyTo_false.1 hany)
  clear hany
  go_enter Tryz.func209,Tryz.ntmps209
  go_wp2_with fail
  refine HH.out.mono ?_
  rintro e w1 ⟨rfl,rfl⟩
  go_wp2_with fail
  refine HA.out.mono ?_
  rintro e w2 ⟨rfl,hb2⟩
  have hbb:=HB0.out.trans (hb2.mono (by simp))
  have HB2:=Lib.hid (hbb.alloc hbb.size (.map #[] 0))
  have HMAP:=Lib.hid (IMap.made w2 (.int .i64 0))
  have HZ2:=Lib.hid ((HZ.out.below hb2).alloc (.map #[] 0))
  have hs2:=hb2.size
  simp only [World.size_alloc] at hs2
  obtain ⟨mb,hmb⟩:∃ mb,w2.heap.size = mb:=⟨_,rfl⟩
  rw [hmb] at HMAP
  have hmm:∀ (t:TypeId) (w:World),(Instr.makeMap t none).run Tryz.prog w = .ok (.map (some w.heap.size)) (w.alloc (.map #[] 0)):=fun _ _ => rfl
  clear hb2 hbb
  go_wp2
  clear hmm
  go_loopw [30] (fun i wr => ∃ (k:Nat) (F:Int→Option Value),k≤ps.length∧i = .int .i64 k∧Hid (IMap wr mb k (.int .i64 0) F)∧Hid (∀ q v,F q = some v→∃ z,v = .int .i64 z∧In64 z)∧Hid (Below w.heap.size w wr)∧Hid (Blk wr w.heap.size 120 #[.pointer (some ⟨h.x,0,none⟩)])) (fun i _ => ps.length - (intOf i).toNat)
  case atStart => exact ⟨0,fun _ => none,by omega,rfl,HMAP,Lib.hid (by simp),HB2,HZ2⟩
  case round =>
   obtain ⟨k,F,hk,rfl,HM,HF,HB,HZR⟩:=hrel
   by_cases hlt:k < ps.length
   · have q2:(k:Int) < (ps.length:Int):=by omega
     obtain ⟨b,o,rfl,hc⟩:=HVC.out (by omega)
     have h3:w.cell? ⟨b,o + k * 2,none⟩ = some ((ps.getD k ⟨0,0⟩).cell 0):=hc k 0 hlt (by omega)
     have h4:w.cell? ⟨b,o + k * 2 + 1,none⟩ = some ((ps.getD k ⟨0,0⟩).cell 1):=hc k 1 hlt (by omega)
     have hkn:=HALL.out k hlt
     have hpm:=HP6.out (ps.getD k ⟨0,0⟩) (by rw [List.getD_eq_getElem?_getD,List.getElem?_eq_getElem hlt]; exact List.getElem_mem hlt)
     generalize ps.getD k ⟨0,0⟩ = p at *
     simp only [Bool.or_eq_false_iff,Bool.not_eq_false',inN,decide_eq_true_eq] at hkn
     obtain ⟨⟨k1,k2⟩,-⟩:=hkn
     obtain ⟨⟨pa,hpa⟩,e2⟩:(∃ q:Nat,p.a = q)∧True:=⟨⟨p.a.toNat,by omega⟩,trivial⟩
     simp only [Prt.cell] at h3 h4
     rw [hpa] at h3
     have hi:pa < h.n:=by omega
     have g3:=Bk.kept HB.out h3
     have g4:=Bk.kept HB.out h4
     have LR:=HL.out.below HB.out
     have hbl:b < wr.heap.size:=block_lt_of_cell g3
     obtain ⟨r0,bb,r1⟩:=LR.row pa hi
     obtain ⟨x,x6,hx⟩:=LR.line pa hi cur HCU.out
     have hpp:=LR.pp (by omega)
     have c0:=LR.c0
     rw [hpp] at c0
     have z0:wr.cell? ⟨w.heap.size,0,none⟩ = some (.pointer (some ⟨h.x,0,none⟩)):=(HZR.out.cell 0).trans rfl
     have q1:(pa:Int) < (h.n:Int):=by omega
     have q3:(cur:Int) < (h.C:Int):=by have:=HCU.out; omega
     have q4:In64 (pa:Int):=by have:=LR.n8; unfold In64; omega
     have hlook:=IMap.look (HM.out.below ((Below.refl _ _).alloc (Nat.le_refl _) (.cells #[.int .i64 pa,.int .i64 p.m] 361))) Tryz.underlying365 (by kernel_rfl) (pa:Int) q4
     have hrest:=HM.out
     clear h3 h4 hc hpp hpa e2 k1 k2
     cases hF:F (pa:Int) with
     | none =>
      rw [hF] at hlook
      change _ = Result.ok (Value.tuple #[.int .i64 0,.bool false]) _ at hlook
      have h6:=x6
      have HADD:=Lib.hid (Bk.add x p.m h6 hpm)
      have HB5:=Lib.hid (HB.out.alloc HB.out.size (.cells #[.int .i64 pa,.int .i64 p.m] 361))
      have HM5:=Lib.hid (HM.out.below ((Below.refl _ _).alloc (Nat.le_refl _) (.cells #[.int .i64 pa,.int .i64 p.m] 361)))
      have HZ5:=Lib.hid (HZR.out.alloc (.cells #[.int .i64 pa,.int .i64 p.m] 361))
      have hf0:(wr.alloc (.cells #[.int .i64 pa,.int .i64 p.m] 361)).cell? ⟨wr.heap.size,0,none⟩ = some (.int .i64 pa):=by simp
      have hf1:(wr.alloc (.cells #[.int .i64 pa,.int .i64 p.m] 361)).cell? ⟨wr.heap.size,1,none⟩ = some (.int .i64 p.m):=by simp
      have HS5:=Lib.hid HB.out.size
      have hmb2:mb ≠ w.heap.size:=by omega
      have hmb3:w.heap.size≤mb:=by omega
      have hbn:=(Below.refl wr.heap.size wr).alloc (Nat.le_refl _) (.cells #[.int .i64 pa,.int .i64 p.m] 361)
      have z0:=Bk.kept hbn z0
      have c0:=Bk.kept hbn c0
      have r0:=Bk.kept hbn r0
      have hx:=Bk.kept hbn hx
      clear hF x6 hpm h6 HM HB HZR hbn
      go_wp2_with fail
      go_quiet (fail)
      have HB5:=Lib.hid (Bk.bdrew HB5.out nq)
      have HM5:=Lib.hid (HM5.out.same (w':=(wr.alloc (.cells #[.int .i64 pa,.int .i64 p.m] 361)).drewN nq) rfl)
      have HZ5:=Lib.hid (HZ5.out.drewN nq)
      have hf0:((wr.alloc (.cells #[.int .i64 pa,.int .i64 p.m] 361)).drewN nq).cell? ⟨wr.heap.size,0,none⟩ = some (.int .i64 pa):=hf0
      have hf1:((wr.alloc (.cells #[.int .i64 pa,.int .i64 p.m] 361)).drewN nq).cell? ⟨wr.heap.size,1,none⟩ = some (.int .i64 p.m):=hf1
      clear hlook c0 z0 r0 r1 g3 g4 hx
      generalize (wr.alloc (.cells #[.int .i64 pa,.int .i64 p.m] 361)).drewN nq = wx at *
      by_cases hin:In64 (x + p.m)
      · rw [tn_in hin,te_in hin] at HADD
        obtain ⟨w5,hupd,hmap5,hg5⟩:=HM5.out.put (t:=365) Tryz.underlying365 (by unfold maxLen; omega) (pa:Int) q4 (.int .i64 (x + p.m))
        have HMAP5:=Lib.hid hmap5
        have HB6:=Lib.hid (HB5.out.grown hg5 HB5.out.size (fun q hq => by cases hq; exact hmb3))
        have HZ6:=Lib.hid (HZ5.out.grown hg5 (by intro e; cases e; exact hmb2 rfl))
        have HIN:=Lib.hid hin
        clear hin hmap5 hg5
        go_wp2_with fail
        refine (HADD.out _).mono ?_
        rintro e w4 ⟨rfl,rfl⟩
        go_wp2
        go_roundw
        case rel => exact ⟨k + 1,_,by omega,by go_num,HMAP5,Lib.hid (by
         intro q v hq
         try dsimp only at hq
         split at hq
         · cases hq; exact ⟨_,rfl,HIN.out⟩
         · exact HF.out q v hq),HB6,HZ6⟩
        case measure => simp [intOf]; omega
      · rw [tn_out hin,te_out hin] at HADD
        clear hin
        go_wp2_with fail
        refine (HADD.out _).mono ?_
        rintro e w4 ⟨rfl,rfl⟩
        go_wp2
        go_ret
        exact ⟨3,rfl,by omega,by omega,HL.out.below HB5.out,Kept.of_below HB5.out⟩
     | some vv =>
      obtain ⟨z,rfl,h6⟩:=HF.out _ _ hF
      rw [hF] at hlook
      change _ = Result.ok (Value.tuple #[.int .i64 z,.bool true]) _ at hlook
      have HADD:=Lib.hid (Bk.add z p.m h6 hpm)
      have HB5:=Lib.hid (HB.out.alloc HB.out.size (.cells #[.int .i64 pa,.int .i64 p.m] 361))
      have HM5:=Lib.hid (HM.out.below ((Below.refl _ _).alloc (Nat.le_refl _) (.cells #[.int .i64 pa,.int .i64 p.m] 361)))
      have HZ5:=Lib.hid (HZR.out.alloc (.cells #[.int .i64 pa,.int .i64 p.m] 361))
      have hf0:(wr.alloc (.cells #[.int .i64 pa,.int .i64 p.m] 361)).cell? ⟨wr.heap.size,0,none⟩ = some (.int .i64 pa):=by simp
      have hf1:(wr.alloc (.cells #[.int .i64 pa,.int .i64 p.m] 361)).cell? ⟨wr.heap.size,1,none⟩ = some (.int .i64 p.m):=by simp
      have HS5:=Lib.hid HB.out.size
      have hmb2:mb ≠ w.heap.size:=by omega
      have hmb3:w.heap.size≤mb:=by omega
      have hbn:=(Below.refl wr.heap.size wr).alloc (Nat.le_refl _) (.cells #[.int .i64 pa,.int .i64 p.m] 361)
      have z0:=Bk.kept hbn z0
      have c0:=Bk.kept hbn c0
      have r0:=Bk.kept hbn r0
      have hx:=Bk.kept hbn hx
      clear hF x6 hpm h6 HM HB HZR hbn
      go_wp2_with fail
      clear hlook c0 z0 r0 r1 g3 g4 hx
      generalize wr.alloc (.cells #[.int .i64 pa,.int .i64 p.m] 361) = wx at *
      by_cases hin:In64 (z + p.m)
      · rw [tn_in hin,te_in hin] at HADD
        obtain ⟨w5,hupd,hmap5,hg5⟩:=HM5.out.put (t:=365) Tryz.underlying365 (by unfold maxLen; omega) (pa:Int) q4 (.int .i64 (z + p.m))
        have HMAP5:=Lib.hid hmap5
        have HB6:=Lib.hid (HB5.out.grown hg5 HB5.out.size (fun q hq => by cases hq; exact hmb3))
        have HZ6:=Lib.hid (HZ5.out.grown hg5 (by intro e; cases e; exact hmb2 rfl))
        have HIN:=Lib.hid hin
        clear hin hmap5 hg5
        skip
        refine (HADD.out _).mono ?_
        rintro e w4 ⟨rfl,rfl⟩
        go_wp2
        go_roundw
        case rel => exact ⟨k + 1,_,by omega,by go_num,HMAP5,Lib.hid (by
         intro q v hq
         try dsimp only at hq
         split at hq
         · cases hq; exact ⟨_,rfl,HIN.out⟩
         · exact HF.out q v hq),HB6,HZ6⟩
        case measure => simp [intOf]; omega
      · rw [tn_out hin,te_out hin] at HADD
        clear hin
        skip
        refine (HADD.out _).mono ?_
        rintro e w4 ⟨rfl,rfl⟩
        go_wp2
        go_ret
        exact ⟨3,rfl,by omega,by omega,HL.out.below HB5.out,Kept.of_below HB5.out⟩
   · obtain rfl:k = ps.length:=by omega
     have LR:=Lib.hid (HL.out.below HB.out)
     have KR:=Lib.hid (Kept.of_below (F:=h.own) HB.out)
     have hmbz:w.heap.size < mb:=by omega
     clear HZ HZ2 HMAP
     go_wp2
     go_loopw [72] (fun i wx => ∃ k:Nat,k≤ps.length∧i = .int .i64 k∧Hid (LeW wx h)∧Hid (Kept h.own w wx)∧Hid (IMap wx mb ps.length (.int .i64 0) F)∧Hid (Blk wx w.heap.size 120 #[.pointer (some ⟨h.x,0,none⟩)])) (fun i _ => ps.length - (intOf i).toNat)
     case atStart => exact ⟨0,by omega,rfl,LR,KR,HM,HZR⟩
     case round =>
      clear LR KR HM HZR HB
      obtain ⟨k,hk,rfl,LR,KR,HM,HZR⟩:=hrel
      by_cases hlt:k < ps.length
      · have q2:(k:Int) < (ps.length:Int):=by omega
        obtain ⟨b,o,rfl,hc⟩:=HVC.out (by omega)
        have h3:w.cell? ⟨b,o + k * 2,none⟩ = some ((ps.getD k ⟨0,0⟩).cell 0):=hc k 0 hlt (by omega)
        have h4:w.cell? ⟨b,o + k * 2 + 1,none⟩ = some ((ps.getD k ⟨0,0⟩).cell 1):=hc k 1 hlt (by omega)
        have hown:¬ h.own b:=HQ.out b rfl
        have hkn:=HALL.out k hlt
        have g3:=KR.out.cell h3 hown
        have g4:=KR.out.cell h4 hown
        generalize ps.getD k ⟨0,0⟩ = p at *
        simp only [Bool.or_eq_false_iff,Bool.not_eq_false',inN,decide_eq_true_eq] at hkn
        obtain ⟨⟨k1,k2⟩,-⟩:=hkn
        obtain ⟨pa,hpa⟩:∃ q:Nat,p.a = q:=⟨p.a.toNat,by omega⟩
        simp only [Prt.cell] at g3 g4
        rw [hpa] at g3
        have hi:pa < h.n:=by omega
        have hbl:b < wr.heap.size:=block_lt_of_cell g3
        obtain ⟨r0,bb,r1⟩:=LR.out.row pa hi
        obtain ⟨x,x6,hx⟩:=LR.out.line pa hi cur HCU.out
        have hpp:=LR.out.pp (by omega)
        have c0:=LR.out.c0
        rw [hpp] at c0
        have z0:wr.cell? ⟨w.heap.size,0,none⟩ = some (.pointer (some ⟨h.x,0,none⟩)):=(HZR.out.cell 0).trans rfl
        have q1:(pa:Int) < (h.n:Int):=by omega
        have q3:(cur:Int) < (h.C:Int):=by have:=HCU.out; omega
        have q4:In64 (pa:Int):=by have:=LR.out.n8; unfold In64; omega
        have hM5:=HM.out.below ((Below.refl _ _).alloc (Nat.le_refl _) (.cells #[.int .i64 pa,.int .i64 p.m] 361))
        have hlook:=IMap.look1 (IMap.same hM5 (w':=(wr.alloc (.cells #[.int .i64 pa,.int .i64 p.m] 361)).drew) rfl) Tryz.underlying365 (by kernel_rfl) (pa:Int) q4
        obtain ⟨y,hy⟩:∃ y:Int,(F (pa:Int)).getD (.int .i64 0) = .int .i64 y∧In64 y:=by
         cases hF':F (pa:Int) with
         | none => exact ⟨0,rfl,by unfold In64; omega⟩
         | some vv =>
          obtain ⟨z,rfl,hz⟩:=HF.out _ _ hF'
          exact ⟨z,rfl,hz⟩
        rw [hy.1] at hlook
        obtain ⟨cs,htl⟩:=LR.out.tl pa hi
        have fz:wr.frozen? ⟨h.lb pa,cur,none⟩ = false:=frozen_of_row _ _ _ _ _ htl
        have hll:=(LR.out.tl pa hi).lt
        have Y6:=Lib.hid hy.2
        have HI:=Lib.hid hi
        have PT:=Lib.hid (show mb ≠ h.lb pa from fun e => (HM.out.ne (LR.out.tl pa hi)) e.symm)
        have PZ:=Lib.hid (show w.heap.size ≠ h.lb pa from fun e => by have:=HLT.out _ (Or.inr (Or.inr ⟨pa,hi,rfl⟩)); omega)
        clear h3 h4 hc k1 k2 hpp hpa hM5 hy htl hi hown
        have hbn:=(Below.refl wr.heap.size wr).alloc (Nat.le_refl _) (.cells #[.int .i64 pa,.int .i64 p.m] 361)
        have z0:=Bk.kept hbn z0
        have c0:=Bk.kept hbn c0
        have r0:=Bk.kept hbn r0
        have hx:=Bk.kept hbn hx
        have hf0:(wr.alloc (.cells #[.int .i64 pa,.int .i64 p.m] 361)).cell? ⟨wr.heap.size,0,none⟩ = some (.int .i64 pa):=by simp
        have fz2:(wr.alloc (.cells #[.int .i64 pa,.int .i64 p.m] 361)).frozen? ⟨h.lb pa,cur,none⟩ = false:=by
         obtain ⟨cs,htl⟩:=((LR.out.below hbn).tl pa HI.out)
         exact frozen_of_row _ _ _ _ _ htl
        go_upto_region 19 with (fail)
        clear hbn
        go_big_region
        have LR2:=Lib.hid ((((LR.out.setline pa cur HI.out y Y6.out).below ((Below.refl _ _).alloc (Nat.le_refl _) (.cells #[.int .i64 pa,.int .i64 p.m] 361))).drew))
        have KR2:=Lib.hid ((((KR.out.setCell (g:=h.lb pa) (Or.inl (Or.inr (Or.inr ⟨pa,HI.out,rfl⟩))) cur (.int .i64 y)).alloc (.cells #[.int .i64 pa,.int .i64 p.m] 361)).drew))
        have HM2:=Lib.hid (((((HM.out.same (w':=wr.setCell ⟨h.lb pa,cur,none⟩ (.int .i64 y)) (Below.heap_setCell _ _ _ _ PT.out)).below ((Below.refl _ _).alloc (Nat.le_refl _) (.cells #[.int .i64 pa,.int .i64 p.m] 361)))).same (w':=((wr.setCell ⟨h.lb pa,cur,none⟩ (.int .i64 y)).alloc (.cells #[.int .i64 pa,.int .i64 p.m] 361)).drew) rfl))
        have HZ2:=Lib.hid ((((HZR.out.far PZ.out.symm cur (.int .i64 y)).alloc (.cells #[.int .i64 pa,.int .i64 p.m] 361)).drew))
        clear fz fz2 hx r0 r1 c0 z0 hf0 hlook g3 g4
        generalize ((wr.setCell ⟨h.lb pa,cur,none⟩ (.int .i64 y)).alloc (.cells #[.int .i64 pa,.int .i64 p.m] 361)).drew = w6 at LR2 KR2 HM2 HZ2 ⊢
        go_wp2
        go_roundw
        case rel => exact ⟨k + 1,by omega,by go_num,LR2,KR2,HM2,HZ2⟩
        case measure => simp [intOf]; omega
      · go_wp2
        go_ret
        exact ⟨0,rfl,by omega,by omega,LR.out,KR.out⟩
end Go.Proofs.YtgcnnbjbdfgglaaGreat
