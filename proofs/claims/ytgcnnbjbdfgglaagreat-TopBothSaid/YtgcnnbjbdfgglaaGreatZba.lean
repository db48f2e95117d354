/- LAW TopBoth: of every configuration of a bank and every list of byte strings the given function TopBoth returns true and leaves its arguments as they were; no condition. A part of what it needs. -/
import Derived.Test.YtgcnnbjbdfgglaaGreatZan
namespace Go.Proofs.YtgcnnbjbdfgglaaGreat
open Go.RowKit
structure AcT (ab m N gw gs n:Nat) (A:Nat→Nat→Value) (ow os:Nat→Option Int) (w wx:World):Prop where
  rw_:RowK wx gw 2 n (tcell ow)
  rs:RowK wx gs 2 n (tcell os)
  row:∃ A',RowK wx ab 7 N A'∧∀ i j,(i ≠ m∨j < 3)→A' i j = A i j
  aty:Ty wx ab 243
  tw:Ty wx gw 241
  ts:Ty wx gs 241
  kept:Kept (fun k => k = ab) w wx
def AcS (ab m N gw gs n:Nat) (A:Nat→Nat→Value) (ow os:Nat→Option Int) (wv sv:Value) (w wx:World):Prop:=wx.cell? ⟨ab,m * 7 + 1,none⟩ = some wv∧wx.cell? ⟨ab,m * 7 + 2,none⟩ = some sv∧AcT ab m N gw gs n A ow os w wx
theorem AcS.call {ab m N gw gs n:Nat} {A:Nat→Nat→Value} {ow os:Nat→Option Int} {wv sv:Value} {w wx w':World} (h:AcS ab m N gw gs n A ow os wv sv w wx) (hm:m < N) (hb:Below wx.heap.size wx w') :
    (w'.cell? ⟨ab,m * 7 + 1,none⟩ = some wv∧w'.cell? ⟨ab,m * 7 + 2,none⟩ = some sv∧AcT ab m N gw gs n A ow os w w')∧Below wx.heap.size wx w'∧∃ x3 x4 x5 x6,(w'.cell? ⟨ab,m * 7 + 3,none⟩ = some x3∧w'.cell? ⟨ab,m * 7 + 4,none⟩ = some x4∧w'.cell? ⟨ab,m * 7 + 5,none⟩ = some x5∧w'.cell? ⟨ab,m * 7 + 6,none⟩ = some x6)∧(w'.frozen? ⟨ab,m * 7 + 3,none⟩ = false∧w'.frozen? ⟨ab,m * 7 + 4,none⟩ = false∧w'.frozen? ⟨ab,m * 7 + 5,none⟩ = false∧w'.frozen? ⟨ab,m * 7 + 6,none⟩ = false):=by
 obtain ⟨h1,h2,h3⟩:=h
 obtain ⟨A',hr,hA⟩:=h3.row
 have hr':=hr.below hb
 have q1:=Bk.kept hb h1
 have q2:=Bk.kept hb h2
 exact ⟨⟨q1,q2,h3.rw_.below hb,h3.rs.below hb,⟨A',hr',hA⟩,h3.aty.below hb,h3.tw.below hb,h3.ts.below hb,h3.kept.trans (Kept.of_below hb)⟩,hb,_,_,_,_,⟨hr'.cell hm (show 3 < 7 by omega),hr'.cell hm (show 4 < 7 by omega),hr'.cell hm (show 5 < 7 by omega),hr'.cell hm (show 6 < 7 by omega)⟩,hr'.frozen _,hr'.frozen _,hr'.frozen _,hr'.frozen _⟩
theorem AcS.store {ab m N gw gs n:Nat} {A:Nat→Nat→Value} {ow os:Nat→Option Int} {wv sv:Value} {w wx:World} (h:AcS ab m N gw gs n A ow os wv sv w wx) (hm:m < N) (hw:gw ≠ ab) (hs:gs ≠ ab) (j:Nat) (hj:j = 3∨j = 4∨j = 5∨j = 6) (v:Value):AcS ab m N gw gs n A ow os wv sv w (wx.setCell ⟨ab,m * 7 + j,none⟩ v):=by
 obtain ⟨h1,h2,h3⟩:=h
 obtain ⟨A',hr,hA⟩:=h3.row
 have hne:∀ o,(⟨ab,o,none⟩:Addr) = ⟨ab,m * 7 + j,none⟩→o = m * 7 + j:=fun o e => by injection e
 refine ⟨(World.cell?_setCell_other _ _ _ _ (fun e => by have:=hne _ e.symm; omega)).trans h1,(World.cell?_setCell_other _ _ _ _ (fun e => by have:=hne _ e.symm; omega)).trans h2,h3.rw_.far hw.symm _ _,h3.rs.far hs.symm _ _,⟨_,hr.set hm (show j < 7 by omega) v,fun i k hik => ?_⟩,h3.aty.set _ _ _,h3.tw.set _ _ _,h3.ts.set _ _ _,h3.kept.setCell (.inl rfl) _ _⟩
 rw [if_neg (fun h => by omega)]
 exact hA i k hik
theorem SlT.same {w w1:World} {v:Value} {t:Rates} {code:Nat→ByteArray} {b o c:Nat} (hv:v = .slice (some ⟨b,o,none⟩) t.n c) (h:SlT w v t code) (hs:w1.heap[b]? = w.heap[b]?):SlT w1 v t code:=by
 obtain ⟨b',o',c',he,hcc⟩:=h
 rw [hv] at he
 simp only [Value.slice.injEq,Option.some.injEq,Addr.mk.injEq] at he
 obtain ⟨⟨rfl,rfl,_⟩,_,rfl⟩:=he
 refine ⟨b,o,c,hv,fun i hi => ?_⟩
 obtain ⟨c1,c2,c3⟩:=hcc i hi
 exact ⟨Bk.cell_heap hs c1,Bk.cell_heap hs c2,Bk.cell_heap hs c3⟩
theorem GuS.settab {w:World} {h:Gh} {d:Gd} (a:GuS w h d NoneS) {t':Rates} {v:Value} (ht:SlT w v t' d.code) (hv:∃ b o c,v = .slice (some ⟨b,o,none⟩) t'.n c∧Ty w b 82) (ho:t'.Ok) (hn:t'.n = d.t.n) :
    GuS (w.setCell ⟨h.wb,0,none⟩ v) { h with tv:=v } { d with t:=t' } (fun m => 0≤m)∧(∀ m,m < d.L.n→AccOK (w.setCell ⟨h.wb,0,none⟩ v) d.t (d.L.bal m) (h.A m) (h.bm m) (h.gw m) (h.gs m)):=by
 have hs:∀ k T',Ty w k T'→T' ≠ 236→(w.setCell ⟨h.wb,0,none⟩ v).heap[k]? = w.heap[k]?:=fun k T' hk hT => Below.heap_setCell _ _ _ _ (hk.ne a.wor.ty hT)
 obtain ⟨b,o,c,rfl,hty⟩:=hv
 refine ⟨⟨(hs _ _ ⟨_,a.gu⟩ (by decide)).trans a.gu,a.led.same (hs _ _ ⟨_,a.led.hl⟩ (by decide)) (hs _ _ a.led.ty (by decide)),?_,ht.same rfl (hs _ _ hty (by decide)),⟨b,o,c,rfl,hty.set _ _ _⟩,a.acc.same (hs _ _ a.aty (by decide)),a.aty.set _ _ _,fun m _ hn => absurd (Nat.zero_le m) hn,fun k hk => ?_,a.inj,?_,a.lty.set _ _ _,fun k hk => ?_,fun k hk => (a.sty k hk).set _ _ _,a.flags.same (hs _ _ a.fty (by decide)),a.fty.set _ _ _,⟨a.ok.lok,ho,a.ok.c.trans hn.symm,fun m i hm hi => a.ok.s64 m i hm (hn ▸ hi),a.ok.a64⟩⟩,fun m hm => ?_⟩
 · exact heap_setCell_same w h.wb 0 _ _ _ a.wor
 · obtain ⟨t1,t2,t3⟩:=a.told k hk
   exact ⟨t1.set _ _ _,t2.set _ _ _,t3.set _ _ _⟩
 · show RowK _ h.lb 2 d.L.n (fun m j => if j = 0 then .slice (some ⟨h.sb m,0,none⟩) t'.n (h.sc m) else .int .i64 (d.lim m).all)
   have e:=a.lims.same (hs _ _ a.lty (by decide))
   rw [← hn] at e
   exact e
 · show RowK _ (h.sb k) 1 t'.n _
   have e:=(a.sho k hk).same (hs _ _ (a.sty k hk) (by decide))
   rw [← hn] at e
   exact e
 · obtain ⟨t1,t2,t3⟩:=a.told m hm
   exact (a.acs m hm id).same (hs _ _ t1 (by decide)) (hs _ _ t2 (by decide)) (hs _ _ t3 (by decide))
abbrev Trio (a b c:Nat) (q:Nat):Prop:=q = a∨q = b∨q = c
theorem GuS.turn1 {w w':World} {h:Gh} {d:Gd} {S:Nat→Prop} (a:GuS w h d S) {m:Nat} (hm:m < d.L.n) {A':Nat→Value} (hk:Kept (Trio h.ab (h.gw m) (h.gs m)) w w') (hr:RowK w' h.ab 7 d.L.n (fun i j => if i = m then A' j else h.A i j)) (hty:Ty w' h.ab 243) (hac:AccOK w' d.t (d.L.bal m) A' (h.bm m) (h.gw m) (h.gs m)) :
    GuS w' { h with A:=fun i j => if i = m then A' j else h.A i j } d (fun k => S k∧k ≠ m)∧Kept (h.own d.L.n) w w'∧∀ t k,k < d.L.n→k ≠ m→AccOK w t (d.L.bal k) (h.A k) (h.bm k) (h.gw k) (h.gs k)→AccOK w' t (d.L.bal k) (h.A k) (h.bm k) (h.gw k) (h.gs k):=by
 have tm:=a.told m hm
 have hs:∀ k T',Ty w k T'→T' ≠ 243→T' ≠ 241→w'.heap[k]? = w.heap[k]?:=fun k T' hk' h1 h2 => hk.block k hk'.lt (fun e => by
  rcases e with e | e | e
  · exact hk'.ne a.aty h1 e
  · exact hk'.ne tm.2.1 h2 e
  · exact hk'.ne tm.2.2 h2 e)
 have hot:∀ k,k < d.L.n→k ≠ m→w'.heap[h.gw k]? = w.heap[h.gw k]?∧w'.heap[h.gs k]? = w.heap[h.gs k]?:=fun k hkn hne => by
  have tk:=a.told k hkn
  have j1:=a.inj k m hkn hm
  have j2:=a.inj m k hm hkn
  exact ⟨hk.block _ tk.2.1.lt (fun e => by
   rcases e with e | e | e
   · exact tk.2.1.ne a.aty (by decide) e
   · exact hne (j1.1 e)
   · exact j1.2.2 e),hk.block _ tk.2.2.lt (fun e => by
   rcases e with e | e | e
   · exact tk.2.2.ne a.aty (by decide) e
   · exact j2.2.2 e.symm
   · exact hne (j1.2.1 e))⟩
 have hacs:∀ t k,k < d.L.n→k ≠ m→AccOK w t (d.L.bal k) (h.A k) (h.bm k) (h.gw k) (h.gs k)→AccOK w' t (d.L.bal k) (h.A k) (h.bm k) (h.gw k) (h.gs k):=fun t k hkn hne hx => hx.same (hs _ _ (a.told k hkn).1 (by decide) (by decide)) (hot k hkn hne).1 (hot k hkn hne).2
 obtain ⟨tb,tof,tc,htv,htt⟩:=a.tty
 refine ⟨⟨(hs _ _ ⟨_,a.gu⟩ (by decide) (by decide)).trans a.gu,a.led.same (hs _ _ ⟨_,a.led.hl⟩ (by decide) (by decide)) (hs _ _ a.led.ty (by decide) (by decide)),(hs _ _ a.wor.ty (by decide) (by decide)).trans a.wor,a.tab.same htv (hs _ _ htt (by decide) (by decide)),⟨tb,tof,tc,htv,htt.same (hs _ _ htt (by decide) (by decide))⟩,hr,hty,fun k hk' hn => ?_,fun k hk' => ?_,a.inj,a.lims.same (hs _ _ a.lty (by decide) (by decide)),a.lty.same (hs _ _ a.lty (by decide) (by decide)),fun k hk' => (a.sho k hk').same (hs _ _ (a.sty k hk') (by decide) (by decide)),fun k hk' => (a.sty k hk').same (hs _ _ (a.sty k hk') (by decide) (by decide)),a.flags.same (hs _ _ a.fty (by decide) (by decide)),a.fty.same (hs _ _ a.fty (by decide) (by decide)),a.ok⟩,hk.mono (fun q _ hq => ?_),hacs⟩
 · show AccOK w' d.t (d.L.bal k) (fun j => if k = m then A' j else h.A k j) (h.bm k) (h.gw k) (h.gs k)
   by_cases e:k = m
   · subst e
     simp only [if_true]
     exact hac
   · simp only [e,if_false]
     exact hacs d.t k hk' e (a.acs k hk' (fun hs' => hn ⟨hs',e⟩))
 · by_cases e:k = m
   · subst e
     exact ⟨hac.tb,hac.tw,hac.ts⟩
   · exact ⟨(a.told k hk').1.same (hs _ _ (a.told k hk').1 (by decide) (by decide)),(a.told k hk').2.1.same (hot k hk' e).1,(a.told k hk').2.2.same (hot k hk' e).2⟩
 · rcases hq with rfl | rfl | rfl
   · simp [Gh.own]
   · exact .inr (.inr (.inr (.inr (.inr (.inr (.inr (.inr ⟨m,hm,.inr (.inl rfl)⟩)))))))
   · exact .inr (.inr (.inr (.inr (.inr (.inr (.inr (.inr ⟨m,hm,.inr (.inr (.inl rfl))⟩)))))))
def TurnPost (h:Gh) (d:Gd) (v:Value) (t':Rates) (w:World) (e:Ending) (w':World):Prop:=∃ A',e = .returned (.tuple #[])∧GuS w' { h with tv:=v,A:=A' } { d with t:=t' } NoneS∧Kept (h.own d.L.n) w w'
set_option maxRecDepth 100000 in
set_option maxHeartbeats 4000000 in
theorem Bk.turn {w:World} {h:Gh} {d:Gd} (a:GuS w h d NoneS) {t':Rates} {v:Value} (ht:SlT w v t' d.code) (hv:∃ b o c,v = .slice (some ⟨b,o,none⟩) t'.n c∧Ty w b 82) (ho:t'.Ok) (hn:t'.n = d.t.n) (k:Nat) (hk:k < d.t.n) (he:∀ i,i ≠ k→t'.rate i = d.t.rate i∧t'.cut i = d.t.cut i) :
    Calls Tryz.prog 223 #[.pointer (some ⟨h.wb,0,none⟩),v,.int .i64 k] w (TurnPost h d v t' w):=by
 have H0:=Lib.hid (a.settab ht hv ho hn)
 obtain ⟨vb,vo,vc,rfl,_⟩:=hv
 have HK0:=Lib.hid (show Kept (h.own d.L.n) w (w.setCell ⟨h.wb,0,none⟩ (.slice (some ⟨vb,vo,none⟩) t'.n vc)) from (Kept.refl _ _).setCell (.inl (by simp [Gh.own])) _ _)
 have wc:=a.wor.c0
 have wf:w.frozen? ⟨h.wb,0,none⟩ = false:=frozen_of_row _ _ _ _ _ a.wor
 have w2:(w.setCell ⟨h.wb,0,none⟩ (.slice (some ⟨vb,vo,none⟩) t'.n vc)).cell? ⟨h.wb,2,none⟩ = some (.slice (some ⟨h.ab,0,none⟩) d.L.n h.ca):=H0.out.1.wor.c2
 have n16:=a.ok.lok.n16
 have q16:(d.L.n:Int)≤16:=by omega
 have n8:=a.ok.tok.le
 have q8:(d.t.n:Int)≤8:=by omega
 have qk:(k:Int) < (d.t.n:Int):=by omega
 have HH:=Lib.hid (And.intro ho (And.intro hn (And.intro hk he)))
 clear a ht ho hn hk he n16 n8
 go_enter Tryz.func223,Tryz.ntmps223
 go_wp2
 go_loopw [17] (fun i wr => ∃ (q:Nat) (A:Nat→Nat→Value),q≤d.L.n∧i = .int .i64 q∧GuS wr { h with tv:=.slice (some ⟨vb,vo,none⟩) t'.n vc,A:=A } { d with t:=t' } (fun m => q≤m)∧(∀ m,q≤m→m < d.L.n→AccOK wr d.t (d.L.bal m) (A m) (h.bm m) (h.gw m) (h.gs m))∧Kept (h.own d.L.n) w wr) (fun i _ => d.L.n - (intOf i).toNat)
 case atStart => exact ⟨0,h.A,by omega,rfl,H0.out.1,fun m _ hm => H0.out.2 m hm,HK0.out⟩
 case round =>
  clear wc wf w2
  obtain ⟨q,A,hq,rfl,hg,hac,hkp⟩:=hrel
  have HG:=Lib.hid hg
  have HAC:=Lib.hid hac
  have HKP:=Lib.hid hkp
  clear hac hkp
  by_cases hlt:q < d.L.n
  · have q1:(q:Int) < (d.L.n:Int):=by omega
    have hx:=HAC.out q (Nat.le_refl _) hlt
    obtain ⟨cb,cw,cs,e0,e1,e2,lw,ls⟩:=id hx.ex
    have w2:wr.cell? ⟨h.wb,2,none⟩ = some (.slice (some ⟨h.ab,0,none⟩) d.L.n h.ca):=hg.wor.c2
    have hro:RowK wr h.ab 7 d.L.n A:=hg.acc
    have p0:=hro.cell hlt (show 0 < 7 by omega)
    have p1:=hro.cell hlt (show 1 < 7 by omega)
    have p2:=hro.cell hlt (show 2 < 7 by omega)
    rw [Nat.add_zero] at p0
    rw [e0] at p0
    rw [e1] at p1
    rw [e2] at p2
    have pb:=hx.rb.cell1 HH.out.2.2.1
    have b64:=hg.ok.lok.b64 q k hlt (by have:=HH.out.2.2.1; omega)
    change In64 (d.L.bal q k) at b64
    have HONE:=Lib.hid (fun (wx:World) (hb:Below wr.heap.size wr wx) => (Bk.one (t:=t') (hg.wor.below hb) (hg.tab.below hb) HH.out.1 k (by have:=HH.out.2.2.1; have:=HH.out.2.1; omega) (d.L.bal q k) b64:Calls _ _ #[.pointer (some ⟨h.wb,0,none⟩),.int .i64 k,.int .i64 (d.L.bal q k)] wx _))
    have nb:h.bm q ≠ h.gw q:=hx.tb.ne hx.tw (by decide)
    have nb2:h.bm q ≠ h.gs q:=hx.tb.ne hx.ts (by decide)
    have na:h.ab ≠ h.gw q:=(show Ty wr h.ab _ from hg.aty).ne hx.tw (by decide)
    have na2:h.ab ≠ h.gs q:=(show Ty wr h.ab _ from hg.aty).ne hx.ts (by decide)
    have HNE:=Lib.hid (And.intro nb (And.intro nb2 (And.intro na (And.intro na2 hx.ne))))
    have HX:=Lib.hid hx
    have HLT:=Lib.hid hlt
    have HE:=Lib.hid (And.intro e0 (And.intro e1 (And.intro e2 (And.intro lw ls))))
    clear hx e0 e1 e2 hro hg nb nb2 na na2 b64
    generalize hxx:d.L.bal q k = x at *
    have HXX:=Lib.hid hxx
    have KW:=Lib.hid (fun (wx:World) (u y:Value) (g:(wx.cell? ⟨h.ab,q * 7,none⟩ = some (.slice (some ⟨h.bm q,0,none⟩) d.t.n cb)∧wx.cell? ⟨h.ab,q * 7 + 1,none⟩ = some (.slice (some ⟨h.gw q,0,none⟩) d.t.n cw)∧wx.cell? ⟨h.ab,q * 7 + 2,none⟩ = some (.slice (some ⟨h.gs q,0,none⟩) d.t.n cs)∧wx.cell? ⟨h.bm q,k,none⟩ = some (.int .i64 x))) => (show (((wx.setCell ⟨h.gw q,k * 2,none⟩ u).setCell ⟨h.gw q,k * 2 + 1,none⟩ y).cell? ⟨h.ab,q * 7,none⟩ = some (.slice (some ⟨h.bm q,0,none⟩) d.t.n cb)∧((wx.setCell ⟨h.gw q,k * 2,none⟩ u).setCell ⟨h.gw q,k * 2 + 1,none⟩ y).cell? ⟨h.ab,q * 7 + 1,none⟩ = some (.slice (some ⟨h.gw q,0,none⟩) d.t.n cw)∧((wx.setCell ⟨h.gw q,k * 2,none⟩ u).setCell ⟨h.gw q,k * 2 + 1,none⟩ y).cell? ⟨h.ab,q * 7 + 2,none⟩ = some (.slice (some ⟨h.gs q,0,none⟩) d.t.n cs)∧((wx.setCell ⟨h.gw q,k * 2,none⟩ u).setCell ⟨h.gw q,k * 2 + 1,none⟩ y).cell? ⟨h.bm q,k,none⟩ = some (.int .i64 x)) from
      ⟨Bk.cell_heap ((Below.heap_setCell _ _ _ _ HNE.out.2.2.1).trans (Below.heap_setCell _ _ _ _ HNE.out.2.2.1)) g.1,Bk.cell_heap ((Below.heap_setCell _ _ _ _ HNE.out.2.2.1).trans (Below.heap_setCell _ _ _ _ HNE.out.2.2.1)) g.2.1,Bk.cell_heap ((Below.heap_setCell _ _ _ _ HNE.out.2.2.1).trans (Below.heap_setCell _ _ _ _ HNE.out.2.2.1)) g.2.2.1,Bk.cell_heap ((Below.heap_setCell _ _ _ _ HNE.out.1).trans (Below.heap_setCell _ _ _ _ HNE.out.1)) g.2.2.2⟩))
    have KS:=Lib.hid (fun (wx:World) (u y:Value) (g:(wx.cell? ⟨h.ab,q * 7,none⟩ = some (.slice (some ⟨h.bm q,0,none⟩) d.t.n cb)∧wx.cell? ⟨h.ab,q * 7 + 1,none⟩ = some (.slice (some ⟨h.gw q,0,none⟩) d.t.n cw)∧wx.cell? ⟨h.ab,q * 7 + 2,none⟩ = some (.slice (some ⟨h.gs q,0,none⟩) d.t.n cs)∧wx.cell? ⟨h.bm q,k,none⟩ = some (.int .i64 x))) => (show (((wx.setCell ⟨h.gs q,k * 2,none⟩ u).setCell ⟨h.gs q,k * 2 + 1,none⟩ y).cell? ⟨h.ab,q * 7,none⟩ = some (.slice (some ⟨h.bm q,0,none⟩) d.t.n cb)∧((wx.setCell ⟨h.gs q,k * 2,none⟩ u).setCell ⟨h.gs q,k * 2 + 1,none⟩ y).cell? ⟨h.ab,q * 7 + 1,none⟩ = some (.slice (some ⟨h.gw q,0,none⟩) d.t.n cw)∧((wx.setCell ⟨h.gs q,k * 2,none⟩ u).setCell ⟨h.gs q,k * 2 + 1,none⟩ y).cell? ⟨h.ab,q * 7 + 2,none⟩ = some (.slice (some ⟨h.gs q,0,none⟩) d.t.n cs)∧((wx.setCell ⟨h.gs q,k * 2,none⟩ u).setCell ⟨h.gs q,k * 2 + 1,none⟩ y).cell? ⟨h.bm q,k,none⟩ = some (.int .i64 x)) from
      ⟨Bk.cell_heap ((Below.heap_setCell _ _ _ _ HNE.out.2.2.2.1).trans (Below.heap_setCell _ _ _ _ HNE.out.2.2.2.1)) g.1,Bk.cell_heap ((Below.heap_setCell _ _ _ _ HNE.out.2.2.2.1).trans (Below.heap_setCell _ _ _ _ HNE.out.2.2.2.1)) g.2.1,Bk.cell_heap ((Below.heap_setCell _ _ _ _ HNE.out.2.2.2.1).trans (Below.heap_setCell _ _ _ _ HNE.out.2.2.2.1)) g.2.2.1,Bk.cell_heap ((Below.heap_setCell _ _ _ _ HNE.out.2.1).trans (Below.heap_setCell _ _ _ _ HNE.out.2.1)) g.2.2.2⟩))
    have SS:=Lib.hid (show (wr.drew.cell? ⟨h.ab,q * 7,none⟩ = some (.slice (some ⟨h.bm q,0,none⟩) d.t.n cb)∧wr.drew.cell? ⟨h.ab,q * 7 + 1,none⟩ = some (.slice (some ⟨h.gw q,0,none⟩) d.t.n cw)∧wr.drew.cell? ⟨h.ab,q * 7 + 2,none⟩ = some (.slice (some ⟨h.gs q,0,none⟩) d.t.n cs)∧wr.drew.cell? ⟨h.bm q,k,none⟩ = some (.int .i64 x)) from ⟨p0,p1,p2,pb⟩)
    go_upto_region 5 with (fail)
    clear w2 p0 p1 p2 pb hxx
    unfold oc at HONE
    generalize hN:on (worthO (t'.rate k) (t'.cut k) x) = N at *
    have EN:=Lib.hid hN
    clear hN
    generalize hE:oe (worthO (t'.rate k) (t'.cut k) x) = E at *
    have EE:=Lib.hid hE
    clear hE
    generalize hS:on (shortO (t'.rate k) x) = S at *
    have ES:=Lib.hid hS
    clear hS
    generalize hF:oe (shortO (t'.rate k) x) = F at *
    have EF:=Lib.hid hF
    clear hF
    go_region_held3 (fun wx => wx.cell? ⟨h.ab,q * 7,none⟩ = some (.slice (some ⟨h.bm q,0,none⟩) d.t.n cb)∧wx.cell? ⟨h.ab,q * 7 + 1,none⟩ = some (.slice (some ⟨h.gw q,0,none⟩) d.t.n cw)∧wx.cell? ⟨h.ab,q * 7 + 2,none⟩ = some (.slice (some ⟨h.gs q,0,none⟩) d.t.n cs)∧wx.cell? ⟨h.bm q,k,none⟩ = some (.int .i64 x)) (first | (with_reducible assumption) | (with_reducible exact SS.out) | (with_reducible exact KW.out _ _ _ (by assumption)) | (with_reducible exact KS.out _ _ _ (by assumption)))
      (first | (go_at_call 169; ((with_reducible refine (HONE.out _ (Below.refl _ _).drew).mono ?_); rintro e w8 ⟨rfl,hb8⟩; have s8:(w8.cell? ⟨h.ab,q * 7,none⟩ = some (.slice (some ⟨h.bm q,0,none⟩) d.t.n cb)∧w8.cell? ⟨h.ab,q * 7 + 1,none⟩ = some (.slice (some ⟨h.gw q,0,none⟩) d.t.n cw)∧w8.cell? ⟨h.ab,q * 7 + 2,none⟩ = some (.slice (some ⟨h.gs q,0,none⟩) d.t.n cs)∧w8.cell? ⟨h.bm q,k,none⟩ = some (.int .i64 x)):=⟨Bk.kept hb8 SS.out.1,Bk.kept hb8 SS.out.2.1,Bk.kept hb8 SS.out.2.2.1,Bk.kept hb8 SS.out.2.2.2⟩; have hw8:=(HX.out.rw_.below (Below.refl _ _).drew).below hb8; have hs8:=(HX.out.rs.below (Below.refl _ _).drew).below hb8; have s0:=hw8.cell HH.out.2.2.1 (show 0 < 2 by omega); rw [Nat.add_zero] at s0; have s1:=hw8.cell HH.out.2.2.1 (show 1 < 2 by omega); have z0:=hw8.frozen (k * 2); have z1:=hw8.frozen (k * 2 + 1); have y0:=hs8.cell HH.out.2.2.1 (show 0 < 2 by omega); rw [Nat.add_zero] at y0; have y1:=hs8.cell HH.out.2.2.1 (show 1 < 2 by omega); have f0:=hs8.frozen (k * 2); have f1:=hs8.frozen (k * 2 + 1); have ngs:=HNE.out.2.2.2.2; replace hb8:=Lib.hid ((Below.refl _ _).drew.trans hb8); replace hw8:=Lib.hid hw8; replace hs8:=Lib.hid hs8)))
    rename_i hheld
    have nab:=HNE.out.2.2.1.symm
    have nab2:=HNE.out.2.2.2.1.symm
    have r1:=(hw8.out.set HH.out.2.2.1 (show 0 < 2 by omega) (.int .i64 N)).set HH.out.2.2.1 (show 1 < 2 by omega) (.int .i64 E)
    have r2:=((hs8.out.far ngs (k * 2) (.int .i64 N)).far ngs (k * 2 + 1) (.int .i64 E))
    have r2:=(r2.set HH.out.2.2.1 (show 0 < 2 by omega) (.int .i64 S)).set HH.out.2.2.1 (show 1 < 2 by omega) (.int .i64 F)
    rw [Nat.add_zero] at r1 r2
    have R1:=Lib.hid (((r1.far ngs.symm (k * 2) (.int .i64 S)).far ngs.symm (k * 2 + 1) (.int .i64 F)).ext (f':=tcell fun i => worthO (t'.rate i) (t'.cut i) (d.L.bal q i)) fun i j hi hj => by
     by_cases e:i = k
     · subst e
       have:j = 0∨j = 1:=by omega
       rcases this with rfl | rfl
       · simp [tcell,HXX.out,EN.out]
       · simp [tcell,HXX.out,EE.out]
     · simp [tcell,e,HH.out.2.2.2 i e])
    have R2:=Lib.hid (r2.ext (f':=tcell fun i => shortO (t'.rate i) (d.L.bal q i)) fun i j hi hj => by
     by_cases e:i = k
     · subst e
       have:j = 0∨j = 1:=by omega
       rcases this with rfl | rfl
       · simp [tcell,HXX.out,ES.out]
       · simp [tcell,HXX.out,EF.out]
     · simp [tcell,e,HH.out.2.2.2 i e])
    have R3:=Lib.hid (((((show RowK wr h.ab 7 d.L.n A from HG.out.acc).below hb8.out).far nab (k * 2) (.int .i64 N)).far nab (k * 2 + 1) (.int .i64 E)).far nab2 (k * 2) (.int .i64 S) |>.far nab2 (k * 2 + 1) (.int .i64 F))
    have R4:=Lib.hid ((((((show Ty wr h.ab 243 from HG.out.aty).below hb8.out).set (h.gw q) (k * 2) (.int .i64 N)).set (h.gw q) (k * 2 + 1) (.int .i64 E)).set (h.gs q) (k * 2) (.int .i64 S)).set (h.gs q) (k * 2 + 1) (.int .i64 F))
    have R5:=Lib.hid ((((((Kept.of_below hb8.out:Kept (Trio h.ab (h.gw q) (h.gs q)) wr w8).setCell (.inl (.inr (.inl rfl))) (k * 2) (.int .i64 N)).setCell (.inl (.inr (.inl rfl))) (k * 2 + 1) (.int .i64 E)).setCell (.inl (.inr (.inr rfl))) (k * 2) (.int .i64 S)).setCell (.inl (.inr (.inr rfl))) (k * 2 + 1) (.int .i64 F)))
    have R6:=Lib.hid (((((HX.out.tw.below hb8.out).set (h.gw q) (k * 2) (.int .i64 N)).set (h.gw q) (k * 2 + 1) (.int .i64 E)).set (h.gs q) (k * 2) (.int .i64 S)).set (h.gs q) (k * 2 + 1) (.int .i64 F))
    have R7:=Lib.hid (((((HX.out.ts.below hb8.out).set (h.gw q) (k * 2) (.int .i64 N)).set (h.gw q) (k * 2 + 1) (.int .i64 E)).set (h.gs q) (k * 2) (.int .i64 S)).set (h.gs q) (k * 2 + 1) (.int .i64 F))
    clear r1 r2 hw8 hs8 hb8 s8 s0 s1 z0 z1 y0 y1 f0 f1 ngs nab nab2 EN EE ES EF HONE KW KS SS
    generalize (((w8.setCell ⟨h.gw q,k * 2,none⟩ (.int .i64 N)).setCell ⟨h.gw q,k * 2 + 1,none⟩ (.int .i64 E)).setCell ⟨h.gs q,k * 2,none⟩ (.int .i64 S)).setCell ⟨h.gs q,k * 2 + 1,none⟩ (.int .i64 F) = w9 at *
    have hcn:t'.net (d.L.bal q) = chain 0 (olist t'.n fun i => worthO (t'.rate i) (t'.cut i) (d.L.bal q i)):=rfl
    have hcs:t'.short (d.L.bal q) = chain 0 (olist t'.n fun i => shortO (t'.rate i) (d.L.bal q i)):=rfl
    rw [HH.out.2.1] at hcn hcs
    have O1:=Lib.hid (fun (i:Nat) (x:Int) (_:i < d.t.n) (h:worthO (t'.rate i) (t'.cut i) (d.L.bal q i) = some x) => told_64 h)
    have O2:=Lib.hid (fun (i:Nat) (x:Int) (_:i < d.t.n) (h:shortO (t'.rate i) (d.L.bal q i) = some x) => shortO_64 h)
    generalize how:(fun i => worthO (t'.rate i) (t'.cut i) (d.L.bal q i)) = ow at *
    generalize hos:(fun i => shortO (t'.rate i) (d.L.bal q i)) = os at *
    have O1':=Lib.hid (fun (i:Nat) (x:Int) (hi:i < d.t.n) (h:ow i = some x) => O1.out i x hi (by rw [← how] at h; exact h))
    have O2':=Lib.hid (fun (i:Nat) (x:Int) (hi:i < d.t.n) (h:os i = some x) => O2.out i x hi (by rw [← hos] at h; exact h))
    have Eow:=Lib.hid how
    have Eos:=Lib.hid hos
    have HT9:=Lib.hid (show AcT h.ab q d.L.n (h.gw q) (h.gs q) d.t.n A ow os w9 w9 from ⟨R1.out,R2.out,⟨A,R3.out,fun _ _ _ => rfl⟩,R4.out,R6.out,R7.out,Kept.refl _ _⟩)
    have SS:=Lib.hid (show (w9.drew.cell? ⟨h.ab,q * 7 + 1,none⟩ = some (.slice (some ⟨h.gw q,0,none⟩) d.t.n cw)∧w9.drew.cell? ⟨h.ab,q * 7 + 2,none⟩ = some (.slice (some ⟨h.gs q,0,none⟩) d.t.n cs)∧AcT h.ab q d.L.n (h.gw q) (h.gs q) d.t.n A ow os w9 w9.drew) from ⟨hheld.2.1,hheld.2.2.1,R1.out,R2.out,⟨A,R3.out,fun _ _ _ => rfl⟩,R4.out,R6.out,R7.out,(Kept.refl _ _).drew⟩)
    have CW:=Lib.hid (fun (wx:World) (g:(wx.cell? ⟨h.ab,q * 7 + 1,none⟩ = some (.slice (some ⟨h.gw q,0,none⟩) d.t.n cw)∧wx.cell? ⟨h.ab,q * 7 + 2,none⟩ = some (.slice (some ⟨h.gs q,0,none⟩) d.t.n cs)∧AcT h.ab q d.L.n (h.gw q) (h.gs q) d.t.n A ow os w9 wx)) => (Bk.chainW (SlK.of_row (c:=cw) g.2.2.rw_) q8 O1'.out).mono fun e w' h' => (⟨h'.1,AcS.call g HLT.out h'.2⟩:e = .returned (.agg (oc (chain 0 (olist d.t.n ow))))∧((w'.cell? ⟨h.ab,q * 7 + 1,none⟩ = some (.slice (some ⟨h.gw q,0,none⟩) d.t.n cw)∧w'.cell? ⟨h.ab,q * 7 + 2,none⟩ = some (.slice (some ⟨h.gs q,0,none⟩) d.t.n cs)∧AcT h.ab q d.L.n (h.gw q) (h.gs q) d.t.n A ow os w9 w')∧Below wx.heap.size wx w'∧∃ x3 x4 x5 x6,(w'.cell? ⟨h.ab,q * 7 + 3,none⟩ = some x3∧w'.cell? ⟨h.ab,q * 7 + 4,none⟩ = some x4∧w'.cell? ⟨h.ab,q * 7 + 5,none⟩ = some x5∧w'.cell? ⟨h.ab,q * 7 + 6,none⟩ = some x6)∧(w'.frozen? ⟨h.ab,q * 7 + 3,none⟩ = false∧w'.frozen? ⟨h.ab,q * 7 + 4,none⟩ = false∧w'.frozen? ⟨h.ab,q * 7 + 5,none⟩ = false∧w'.frozen? ⟨h.ab,q * 7 + 6,none⟩ = false))))
    have CS:=Lib.hid (fun (wx:World) (g:(wx.cell? ⟨h.ab,q * 7 + 1,none⟩ = some (.slice (some ⟨h.gw q,0,none⟩) d.t.n cw)∧wx.cell? ⟨h.ab,q * 7 + 2,none⟩ = some (.slice (some ⟨h.gs q,0,none⟩) d.t.n cs)∧AcT h.ab q d.L.n (h.gw q) (h.gs q) d.t.n A ow os w9 wx)) => (Bk.chainW (SlK.of_row (c:=cs) g.2.2.rs) q8 O2'.out).mono fun e w' h' => (⟨h'.1,AcS.call g HLT.out h'.2⟩:e = .returned (.agg (oc (chain 0 (olist d.t.n os))))∧((w'.cell? ⟨h.ab,q * 7 + 1,none⟩ = some (.slice (some ⟨h.gw q,0,none⟩) d.t.n cw)∧w'.cell? ⟨h.ab,q * 7 + 2,none⟩ = some (.slice (some ⟨h.gs q,0,none⟩) d.t.n cs)∧AcT h.ab q d.L.n (h.gw q) (h.gs q) d.t.n A ow os w9 w')∧Below wx.heap.size wx w'∧∃ x3 x4 x5 x6,(w'.cell? ⟨h.ab,q * 7 + 3,none⟩ = some x3∧w'.cell? ⟨h.ab,q * 7 + 4,none⟩ = some x4∧w'.cell? ⟨h.ab,q * 7 + 5,none⟩ = some x5∧w'.cell? ⟨h.ab,q * 7 + 6,none⟩ = some x6)∧(w'.frozen? ⟨h.ab,q * 7 + 3,none⟩ = false∧w'.frozen? ⟨h.ab,q * 7 + 4,none⟩ = false∧w'.frozen? ⟨h.ab,q * 7 + 5,none⟩ = false∧w'.frozen? ⟨h.ab,q * 7 + 6,none⟩ = false))))
    rw [← hcn] at CW
    rw [← hcs] at CS
    have K2:=Lib.hid (fun (wx:World) (u y:Value) (g:(wx.cell? ⟨h.ab,q * 7 + 1,none⟩ = some (.slice (some ⟨h.gw q,0,none⟩) d.t.n cw)∧wx.cell? ⟨h.ab,q * 7 + 2,none⟩ = some (.slice (some ⟨h.gs q,0,none⟩) d.t.n cs)∧AcT h.ab q d.L.n (h.gw q) (h.gs q) d.t.n A ow os w9 wx)) => (show (((wx.setCell ⟨h.ab,q * 7 + 3,none⟩ u).setCell ⟨h.ab,q * 7 + 4,none⟩ y).cell? ⟨h.ab,q * 7 + 1,none⟩ = some (.slice (some ⟨h.gw q,0,none⟩) d.t.n cw)∧((wx.setCell ⟨h.ab,q * 7 + 3,none⟩ u).setCell ⟨h.ab,q * 7 + 4,none⟩ y).cell? ⟨h.ab,q * 7 + 2,none⟩ = some (.slice (some ⟨h.gs q,0,none⟩) d.t.n cs)∧AcT h.ab q d.L.n (h.gw q) (h.gs q) d.t.n A ow os w9 ((wx.setCell ⟨h.ab,q * 7 + 3,none⟩ u).setCell ⟨h.ab,q * 7 + 4,none⟩ y)) from AcS.store (AcS.store g HLT.out HNE.out.2.2.1.symm HNE.out.2.2.2.1.symm 3 (by simp) u) HLT.out HNE.out.2.2.1.symm HNE.out.2.2.2.1.symm 4 (by simp) y))
    have K3:=Lib.hid (fun (wx:World) (u y:Value) (g:(wx.cell? ⟨h.ab,q * 7 + 1,none⟩ = some (.slice (some ⟨h.gw q,0,none⟩) d.t.n cw)∧wx.cell? ⟨h.ab,q * 7 + 2,none⟩ = some (.slice (some ⟨h.gs q,0,none⟩) d.t.n cs)∧AcT h.ab q d.L.n (h.gw q) (h.gs q) d.t.n A ow os w9 wx)) => (show (((wx.setCell ⟨h.ab,q * 7 + 5,none⟩ u).setCell ⟨h.ab,q * 7 + 6,none⟩ y).cell? ⟨h.ab,q * 7 + 1,none⟩ = some (.slice (some ⟨h.gw q,0,none⟩) d.t.n cw)∧((wx.setCell ⟨h.ab,q * 7 + 5,none⟩ u).setCell ⟨h.ab,q * 7 + 6,none⟩ y).cell? ⟨h.ab,q * 7 + 2,none⟩ = some (.slice (some ⟨h.gs q,0,none⟩) d.t.n cs)∧AcT h.ab q d.L.n (h.gw q) (h.gs q) d.t.n A ow os w9 ((wx.setCell ⟨h.ab,q * 7 + 5,none⟩ u).setCell ⟨h.ab,q * 7 + 6,none⟩ y)) from AcS.store (AcS.store g HLT.out HNE.out.2.2.1.symm HNE.out.2.2.2.1.symm 5 (by simp) u) HLT.out HNE.out.2.2.1.symm HNE.out.2.2.2.1.symm 6 (by simp) y))
    clear how hos hcn hcs O1 O2 hheld
    unfold oc at CW CS
    generalize hN:on (t'.net (d.L.bal q)) = N2 at *
    have EN:=Lib.hid hN
    clear hN
    generalize hE:oe (t'.net (d.L.bal q)) = E2 at *
    have EE:=Lib.hid hE
    clear hE
    generalize hS:on (t'.short (d.L.bal q)) = S2 at *
    have ES:=Lib.hid hS
    clear hS
    generalize hF:oe (t'.short (d.L.bal q)) = F2 at *
    have EF:=Lib.hid hF
    clear hF
    go_upto_region 6 with (fail)
    go_region_held3 (fun wx => wx.cell? ⟨h.ab,q * 7 + 1,none⟩ = some (.slice (some ⟨h.gw q,0,none⟩) d.t.n cw)∧wx.cell? ⟨h.ab,q * 7 + 2,none⟩ = some (.slice (some ⟨h.gs q,0,none⟩) d.t.n cs)∧AcT h.ab q d.L.n (h.gw q) (h.gs q) d.t.n A ow os w9 wx) (first | (with_reducible assumption) | (with_reducible exact SS.out) | (with_reducible exact K2.out _ _ _ (by assumption)) | (with_reducible exact K3.out _ _ _ (by assumption)))
      (first | (go_at_call_of 170 (Value.slice (some ⟨h.gw q,0,none⟩) d.t.n cw); ((with_reducible refine (CW.out _ (by assumption)).mono ?_); rintro e w10 ⟨rfl,hs10,hb10,x3,x4,x5,x6,⟨q3,q4,q5,q6⟩,f3,f4,f5,f6⟩; have HB10:=Lib.hid hb10; clear hb10)) | (go_at_call_of 170 (Value.slice (some ⟨h.gs q,0,none⟩) d.t.n cs); ((with_reducible refine (CS.out _ (by assumption)).mono ?_); rintro e w11 ⟨rfl,hs11,hb11,x3,x4,x5,x6,⟨q3,q4,q5,q6⟩,f3,f4,f5,f6⟩; have HB11:=Lib.hid hb11; clear hb11)))
    rename_i hlast
    clear q3 q4 q5 q6 f3 f4 f5 f6
    have HL:=Lib.hid hlast.2.2
    obtain ⟨A',hrA,hA⟩:=hs11.2.2.row
    have hrow:=(((hrA.set HLT.out (show 3 < 7 by omega) (.int .i64 N2)).set HLT.out (show 4 < 7 by omega) (.int .i64 E2)).set HLT.out (show 5 < 7 by omega) (.int .i64 S2)).set HLT.out (show 6 < 7 by omega) (.int .i64 F2)
    have hrow:=Lib.hid (hrow.ext (f':=fun i j => if i = q then (if j = 3 then .int .i64 N2 else if j = 4 then .int .i64 E2 else if j = 5 then .int .i64 S2 else if j = 6 then .int .i64 F2 else A q j) else A i j) fun i j hi hj => by
     by_cases e:i = q
     · subst e
       have:j < 3∨j = 3∨j = 4∨j = 5∨j = 6:=by omega
       rcases this with h | rfl | rfl | rfl | rfl
       · have z:=hA i j (.inr h)
         simp [show j ≠ 3 by omega,show j ≠ 4 by omega,show j ≠ 5 by omega,show j ≠ 6 by omega,z]
       · simp
       · simp
       · simp
       · simp
     · simp [e,hA i j (.inl e)])
    clear hlast hs10 hs11 hrA hA CW CS K2 K3 SS
    generalize (((w11.setCell ⟨h.ab,q * 7 + 3,none⟩ (.int .i64 N2)).setCell ⟨h.ab,q * 7 + 4,none⟩ (.int .i64 E2)).setCell ⟨h.ab,q * 7 + 5,none⟩ (.int .i64 S2)).setCell ⟨h.ab,q * 7 + 6,none⟩ (.int .i64 F2) = w12 at *
    have hkt:Kept (Trio h.ab (h.gw q) (h.gs q)) wr w12:=R5.out.trans (HL.out.kept.mono (fun _ _ hk => .inl hk))
    have hbm:w12.heap[h.bm q]? = wr.heap[h.bm q]?:=hkt.block _ HX.out.tb.lt (fun e => by
     rcases e with e | e | e
     · exact HX.out.tb.ne HG.out.aty (by decide) e
     · exact HNE.out.1 e
     · exact HNE.out.2.1 e)
    have hacc:AccOK w12 t' (d.L.bal q) (fun j => if j = 3 then .int .i64 N2 else if j = 4 then .int .i64 E2 else if j = 5 then .int .i64 S2 else if j = 6 then .int .i64 F2 else A q j) (h.bm q) (h.gw q) (h.gs q) :=
     ⟨⟨cb,cw,cs,by rw [HH.out.2.1]; exact HE.out.1,by rw [HH.out.2.1]; exact HE.out.2.1,by rw [HH.out.2.1]; exact HE.out.2.2.1,by rw [HH.out.2.1]; exact HE.out.2.2.2.1,by rw [HH.out.2.1]; exact HE.out.2.2.2.2⟩,by rw [EN.out]; rfl,by rw [EE.out]; rfl,by rw [ES.out]; rfl,by rw [EF.out]; rfl,by rw [HH.out.2.1]; exact HX.out.rb.same hbm,by rw [Eow.out,HH.out.2.1]; exact HL.out.rw_,by rw [Eos.out,HH.out.2.1]; exact HL.out.rs,HNE.out.2.2.2.2,HX.out.tb.same hbm,HL.out.tw,HL.out.ts⟩
    have hfin:=HG.out.turn1 (m:=q) hlt hkt hrow.out HL.out.aty hacc
    have HF1:=Lib.hid (hfin.1.less (T:=fun m => q + 1≤m) (fun m _ hm => by omega))
    have HF2:=Lib.hid (HKP.out.trans (show Kept (h.own d.L.n) wr w12 from hkt.mono (fun j _ hj => by
     rcases hj with rfl | rfl | rfl
     · simp [Gh.own]
     · exact .inr (.inr (.inr (.inr (.inr (.inr (.inr (.inr ⟨q,hlt,.inr (.inl rfl)⟩)))))))
     · exact .inr (.inr (.inr (.inr (.inr (.inr (.inr (.inr ⟨q,hlt,.inr (.inr (.inl rfl))⟩))))))))))
    have HF3:=Lib.hid (fun (m:Nat) (h1:q + 1≤m) (h2:m < d.L.n) => hfin.2.2 d.t m h2 (by omega) (HAC.out m (by omega) h2))
    clear hfin hacc hkt hbm hlt
    go_wp2
    go_roundw
    case rel => exact ⟨q + 1,_,by omega,by go_num,HF1.out,fun m h1 h2 => by have z:=HF3.out m h1 h2; simp only [if_neg (show m ≠ q by omega)]; exact z,HF2.out⟩
    case measure => simp [intOf]; omega
  · obtain rfl:q = d.L.n:=by omega
    have w2:wr.cell? ⟨h.wb,2,none⟩ = some (.slice (some ⟨h.ab,0,none⟩) d.L.n h.ca):=hg.wor.c2
    clear hg
    go_wp2
    go_end0
    exact ⟨A,rfl,HG.out.less (fun m hm hs => by change m < d.L.n at hm; omega),HKP.out⟩
def WTPost (h:Gh) (d:Gd) (w:World) (e:Ending) (w':World):Prop:=∃ c d' h',e = .returned (.int .i64 c)∧(c = 0∨c = 1)∧GuS w' h' d' NoneS∧Step w h w' h' d.L.n∧d'.L = d.L∧d'.t.n = d.t.n∧(c = 1→d' = d)
set_option maxRecDepth 100000 in
set_option maxHeartbeats 2000000 in
theorem Bk.wrate {w:World} {h:Gh} {d:Gd} (a:GuS w h d NoneS) (k r:Int) :
    Calls Tryz.prog 191 #[.pointer (some ⟨h.wb,0,none⟩),.int .i64 k,.int .i64 r] w (WTPost h d w):=by
 have c0:=a.wor.c0
 have HW:=Lib.hid (Bk.withRate a.tab a.ok.tok k r)
 have HA:=Lib.hid a
 clear a
 go_enter Tryz.func191,Tryz.ntmps191
 go_wp2_with fail
 refine HW.out.mono ?_
 rintro e w1 ⟨v,c,rfl,hc,hb1,hyes⟩
 have HB1:=Lib.hid hb1
 have HA1:=Lib.hid (HA.out.below hb1)
 rcases hc with rfl | rfl
 · obtain ⟨i,rfl,hi,hok,hsl,b,o,cc,hv,hty,hbn⟩:=hyes rfl
   have HT:=Lib.hid (Bk.turn HA1.out hsl ⟨b,o,cc,hv,hty⟩ hok rfl i hi (fun j hj => by constructor <;> simp [Rates.withRate,Rates.put,hj]))
   have HX:=Lib.hid (And.intro hok (And.intro hsl (And.intro (show ∃ b o cc,v = .slice (some ⟨b,o,none⟩) d.t.n cc∧w.heap.size≤b from ⟨b,o,cc,hv,hbn⟩) hi)))
   clear hyes hb1 hi hok hsl hv hty hbn c0
   go_wp2_with fail
   refine HT.out.mono ?_
   rintro e w2 ⟨A',rfl,hg2,hk2⟩
   have HG2:=Lib.hid hg2
   have HK2:=Lib.hid hk2
   clear hg2 hk2
   go_wp2
   go_ret
   refine ⟨0,_,_,rfl,.inl rfl,HG2.out,⟨rfl,(Kept.of_below HB1.out).trans ((HK2.out:Kept (h.own d.L.n) w1 w2)),fun q hq => ?_⟩,rfl,rfl,fun h => by omega⟩
   rcases hq with e | e | e | e | e | e | e | ⟨o,c,m,e⟩ | e
   · exact .inl (.inl e)
   · exact .inl (.inr (.inl e))
   · exact .inl (.inr (.inr (.inl e)))
   · exact .inl (.inr (.inr (.inr (.inl e))))
   · exact .inl (.inr (.inr (.inr (.inr (.inl e)))))
   · exact .inl (.inr (.inr (.inr (.inr (.inr (.inl e))))))
   · exact .inl (.inr (.inr (.inr (.inr (.inr (.inr (.inl e)))))))
   · right
     obtain ⟨b,o',cc,hv,hbn⟩:=HX.out.2.2.1
     change v = _ at e
     rw [hv] at e
     simp only [Value.slice.injEq,Option.some.injEq,Addr.mk.injEq] at e
     omega
   · exact .inl (.inr (.inr (.inr (.inr (.inr (.inr (.inr (.inr e))))))))
 · clear hyes hb1 c0
   go_wp2
   go_ret
   exact ⟨1,d,h,rfl,.inr rfl,HA1.out,Step.of_below HB1.out _ _,rfl,rfl,fun _ => rfl⟩
set_option maxRecDepth 100000 in
set_option maxHeartbeats 2000000 in
theorem Bk.grate {w:World} {h:Gh} {d:Gd} (a:GuS w h d NoneS) (k r:Int) :
    Calls Tryz.prog 151 #[.pointer (some ⟨h.g,0,none⟩),.int .i64 k,.int .i64 r] w (GPost h d (fun _ _ => True) w):=by
 have c1:=a.c1
 have HW:=Lib.hid (Bk.wrate a k r)
 clear a
 go_enter Tryz.func151,Tryz.ntmps151
 go_wp2_with fail
 refine HW.out.mono ?_
 rintro e w1 ⟨c,d1,h1,rfl,hc,hg1,hs1,e1,e2,e3⟩
 have HG1:=Lib.hid hg1
 have HS1:=Lib.hid hs1
 have HE:=Lib.hid (And.intro e1 (And.intro e2 e3))
 have hgg:=Gh.pg hs1.g
 clear hg1 hs1 e1 e2 e3 c1
 rcases hc with rfl | rfl
 · have HJ:=Bk.judge HG1.out
   rw [hgg] at HJ
   have HJ:=Lib.hid HJ
   clear hgg
   go_wp2_with fail
   refine HJ.out.mono ?_
   rintro e w5 ⟨fl,rfl,hg5,hj,hst5⟩
   rw [HE.out.1] at hst5
   have HG5:=Lib.hid hg5
   have HJ5:=Lib.hid hj
   have HST5:=Lib.hid (HS1.out.trans hst5)
   clear hg5 hj hst5
   go_wp2
   go_ret
   refine ⟨0,_,h1,rfl,by omega,HG5.out,HST5.out,⟨by show d1.L.n = d.L.n; rw [HE.out.1],HE.out.2.1⟩,fun hgd => ⟨fun m hm hf => (HJ5.out m hm).1 hf,fun c hc => ?_⟩,trivial⟩
   have hc':c < d1.L.c:=hc
   show 0≤d1.L.nos c
   rw [HE.out.1] at hc' ⊢
   exact hgd.no c hc'
 · clear hgg
   go_wp2
   go_ret
   exact ⟨1,d1,h1,rfl,by omega,HG1.out,HS1.out,⟨by rw [HE.out.1],HE.out.2.1⟩,fun hgd => HE.out.2.2 (by trivial) ▸ hgd,trivial⟩
set_option maxRecDepth 100000 in
set_option maxHeartbeats 2000000 in
theorem Bk.wcut {w:World} {h:Gh} {d:Gd} (a:GuS w h d NoneS) (k r:Int) :
    Calls Tryz.prog 192 #[.pointer (some ⟨h.wb,0,none⟩),.int .i64 k,.int .i64 r] w (WTPost h d w):=by
 have c0:=a.wor.c0
 have HW:=Lib.hid (Bk.withCut a.tab a.ok.tok k r)
 have HA:=Lib.hid a
 clear a
 go_enter Tryz.func192,Tryz.ntmps192
 go_wp2_with fail
 refine HW.out.mono ?_
 rintro e w1 ⟨v,c,rfl,hc,hb1,hyes⟩
 have HB1:=Lib.hid hb1
 have HA1:=Lib.hid (HA.out.below hb1)
 rcases hc with rfl | rfl
 · obtain ⟨i,rfl,hi,hok,hsl,b,o,cc,hv,hty,hbn⟩:=hyes rfl
   have HT:=Lib.hid (Bk.turn HA1.out hsl ⟨b,o,cc,hv,hty⟩ hok rfl i hi (fun j hj => by constructor <;> simp [Rates.withCut,Rates.put,hj]))
   have HX:=Lib.hid (And.intro hok (And.intro hsl (And.intro (show ∃ b o cc,v = .slice (some ⟨b,o,none⟩) d.t.n cc∧w.heap.size≤b from ⟨b,o,cc,hv,hbn⟩) hi)))
   clear hyes hb1 hi hok hsl hv hty hbn c0
   go_wp2_with fail
   refine HT.out.mono ?_
   rintro e w2 ⟨A',rfl,hg2,hk2⟩
   have HG2:=Lib.hid hg2
   have HK2:=Lib.hid hk2
   clear hg2 hk2
   go_wp2
   go_ret
   refine ⟨0,_,_,rfl,.inl rfl,HG2.out,⟨rfl,(Kept.of_below HB1.out).trans ((HK2.out:Kept (h.own d.L.n) w1 w2)),fun q hq => ?_⟩,rfl,rfl,fun h => by omega⟩
   rcases hq with e | e | e | e | e | e | e | ⟨o,c,m,e⟩ | e
   · exact .inl (.inl e)
   · exact .inl (.inr (.inl e))
   · exact .inl (.inr (.inr (.inl e)))
   · exact .inl (.inr (.inr (.inr (.inl e))))
   · exact .inl (.inr (.inr (.inr (.inr (.inl e)))))
   · exact .inl (.inr (.inr (.inr (.inr (.inr (.inl e))))))
   · exact .inl (.inr (.inr (.inr (.inr (.inr (.inr (.inl e)))))))
   · right
     obtain ⟨b,o',cc,hv,hbn⟩:=HX.out.2.2.1
     change v = _ at e
     rw [hv] at e
     simp only [Value.slice.injEq,Option.some.injEq,Addr.mk.injEq] at e
     omega
   · exact .inl (.inr (.inr (.inr (.inr (.inr (.inr (.inr (.inr e))))))))
 · clear hyes hb1 c0
   go_wp2
   go_ret
   exact ⟨1,d,h,rfl,.inr rfl,HA1.out,Step.of_below HB1.out _ _,rfl,rfl,fun _ => rfl⟩
set_option maxRecDepth 100000 in
set_option maxHeartbeats 2000000 in
theorem Bk.gcut {w:World} {h:Gh} {d:Gd} (a:GuS w h d NoneS) (k r:Int) :
    Calls Tryz.prog 152 #[.pointer (some ⟨h.g,0,none⟩),.int .i64 k,.int .i64 r] w (GPost h d (fun _ _ => True) w):=by
 have c1:=a.c1
 have HW:=Lib.hid (Bk.wcut a k r)
 clear a
 go_enter Tryz.func152,Tryz.ntmps152
 go_wp2_with fail
 refine HW.out.mono ?_
 rintro e w1 ⟨c,d1,h1,rfl,hc,hg1,hs1,e1,e2,e3⟩
 have HG1:=Lib.hid hg1
 have HS1:=Lib.hid hs1
 have HE:=Lib.hid (And.intro e1 (And.intro e2 e3))
 have hgg:=Gh.pg hs1.g
 clear hg1 hs1 e1 e2 e3 c1
 rcases hc with rfl | rfl
 · have HJ:=Bk.judge HG1.out
   rw [hgg] at HJ
   have HJ:=Lib.hid HJ
   clear hgg
   go_wp2_with fail
   refine HJ.out.mono ?_
   rintro e w5 ⟨fl,rfl,hg5,hj,hst5⟩
   rw [HE.out.1] at hst5
   have HG5:=Lib.hid hg5
   have HJ5:=Lib.hid hj
   have HST5:=Lib.hid (HS1.out.trans hst5)
   clear hg5 hj hst5
   go_wp2
   go_ret
   refine ⟨0,_,h1,rfl,by omega,HG5.out,HST5.out,⟨by show d1.L.n = d.L.n; rw [HE.out.1],HE.out.2.1⟩,fun hgd => ⟨fun m hm hf => (HJ5.out m hm).1 hf,fun c hc => ?_⟩,trivial⟩
   have hc':c < d1.L.c:=hc
   show 0≤d1.L.nos c
   rw [HE.out.1] at hc' ⊢
   exact hgd.no c hc'
 · clear hgg
   go_wp2
   go_ret
   exact ⟨1,d1,h1,rfl,by omega,HG1.out,HS1.out,⟨by rw [HE.out.1],HE.out.2.1⟩,fun hgd => HE.out.2.2 (by trivial) ▸ hgd,trivial⟩
end Go.Proofs.YtgcnnbjbdfgglaaGreat
