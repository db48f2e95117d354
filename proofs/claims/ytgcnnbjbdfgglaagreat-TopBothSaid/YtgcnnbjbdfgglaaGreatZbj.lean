/- LAW TopBoth: of every configuration of a bank and every list of byte strings the given function TopBoth returns true and leaves its arguments as they were; no condition. A part of what it needs. -/
import Derived.Test.YtgcnnbjbdfgglaaGreatZbi
namespace Go.Proofs.YtgcnnbjbdfgglaaGreat
open Go.RowKit
structure Cf where
  ta:Option Addr
  n:Nat
  tc:Nat
  la:Option Addr
  N:Nat
  lc:Nat
  na:Option Addr
  nn:Nat
  nc:Nat
  cut:Int
  close:Int
  da:Option Addr
  dn:Nat
  dc:Nat
  code:Nat→ByteArray
  rate:Nat→Int
  ct:Nat→Int
  sv:Nat→Value
  m:Nat→Nat
  f:Nat→Nat→Int
  all:Nat→Int
  fd:Nat→Int
abbrev Cf.cells (c:Cf):Array Value:=#[.slice c.ta c.n c.tc,.slice c.la c.N c.lc,.slice c.na c.nn c.nc,.int .i64 c.cut,.int .i64 c.close,.slice c.da c.dn c.dc]
structure CfAt (w:World) (c:Cf):Prop where
  tab:TabIn w (.slice c.ta c.n c.tc) c.n c.code c.rate c.ct
  lim:LimsIn w (.slice c.la c.N c.lc) c.N c.sv c.m c.f c.all
  lin:LinesAt w (.slice c.na c.nn c.nc) c.nn
  day:SlI w (.slice c.da c.dn c.dc) c.dn c.fd
theorem LinesAt.below {w w':World} {v:Value} {n:Nat} (h:LinesAt w v n) (hb:Below w.heap.size w w'):LinesAt w' v n:=by
 obtain ⟨rv,h1,h2⟩:=h
 exact ⟨rv,h1.below hb,fun i hi => by obtain ⟨m,f,h3,h4⟩:=h2 i hi; exact ⟨m,f,SlC.below h3 hb,h4⟩⟩
theorem CfAt.below {w w':World} {c:Cf} (h:CfAt w c) (hb:Below w.heap.size w w'):CfAt w' c :=
 ⟨SlK.below h.tab hb,h.lim.below hb,h.lin.below hb,SlC.below h.day hb⟩
structure CfOne (c:Cf):Prop where
  one:CkOne c.n c.code c.rate c.ct
  N:1≤c.N∧c.N≤15
  lim:∀ i,i < c.N→fitsL c.n (c.m i) (c.f i) (c.all i)
  nn:c.nn = 0
  day:0≤c.cut∧c.cut < c.close∧c.close≤2147483647∧c.dn = 1∧c.cut≤c.fd 0∧c.fd 0 < c.close
structure BnkNew (c:Cf) (s:Bnk):Prop where
  N:s.N = c.N
  t:s.d.t = ratesOf c.n c.rate c.ct
  L:s.d.L = Led.zero (c.N + 1) c.n
  B:s.B.n = 0
  cut:s.cut = c.cut
  close:s.close = c.close
  now:s.now = 0
  fl:∀ i,s.fl i = false
def BnPost (c:Cf) (w:World) (e:Ending) (w':World):Prop:=Below w.heap.size w w'∧((∃ x:Int,e = .returned (.tuple #[.pointer none,.int .i64 x])∧1≤x∧x≤12∧¬ CfOne c)∨∃ q s,e = .returned (.tuple #[.pointer (some ⟨q.b,0,none⟩),.int .i64 0])∧BkAt w' q s∧(∀ x,q.own s.d.L.n x→w.heap.size≤x)∧BnkNew c s)
theorem BnPost.no {c:Cf} {w w':World} (hb:Below w.heap.size w w') {x:Int} (h0:1≤x) (h1:x≤12) (hc:¬ CfOne c):BnPost c w (.returned (.tuple #[.pointer none,.int .i64 x])) w':=⟨hb,.inl ⟨x,rfl,h0,h1,hc⟩⟩
theorem BkAt.mk1 {w:World} {b:Nat} {h:Gh} {d:Gd} {k:Bh} {B:Bo} {e:Lh} {fb fc:Nat} {c:Cf} {dv:Value} (hblk:Blk w b 123 #[.slice c.ta c.n c.tc,.slice c.la c.N c.lc,.slice c.na c.nn c.nc,.int .i64 c.cut,.int .i64 c.close,dv,.int .i64 c.N,.pointer (some ⟨h.l,0,none⟩),.pointer (some ⟨h.g,0,none⟩),.pointer (some ⟨k.b,0,none⟩),.pointer (some ⟨e.x,0,none⟩),.int .i64 0,.slice (some ⟨fb,0,none⟩) c.N fc])
    (hg:GuS w h d NoneS) (hk:BoAt w k B) (he:LeW w e) (hbn:B.n = 0) (hbm:B.mem = c.N) (heC:e.C = c.n) (hj:Judged d d.L.n) (hL:d.L = Led.zero (c.N + 1) c.n) (ht:d.t = ratesOf c.n c.rate c.ct) (hf:RowK w fb 1 c.N (fun _ _ => .bool false)) (hft:Ty w fb 4) (hN1:1≤c.N) (hN15:c.N≤15)
    {z0 z1 z2 z3:Nat} (q0:z0≤z1) (q1:z1≤z2) (q2:z2≤z3) (o1:∀ x,h.own d.L.n x→z0≤x∧x < z1) (o2:∀ x,e.own x→z1≤x∧x < z2) (o3:∀ x,k.own x→z2≤x∧x < z3) (o4:z3≤fb) (o5:fb < b) :
    BkAt w ⟨b,h,k,e,fb,fc,c.ta,c.tc,.slice c.la c.N c.lc,.slice c.na c.nn c.nc,dv⟩ ⟨d,B,c.N,c.cut,c.close,0,fun _ => false⟩∧∀ x,(⟨b,h,k,e,fb,fc,c.ta,c.tc,.slice c.la c.N c.lc,.slice c.na c.nn c.nc,dv⟩:Qh).own d.L.n x→z0≤x:=by
 have hLn:d.L.n = c.N + 1:=by rw [hL]; rfl
 have htn:d.t.n = c.n:=by rw [ht]; rfl
 refine ⟨⟨?_,⟨hg,hk,by rw [hbm,hLn]; omega⟩,he,by rw [heC]; exact htn.symm,hf,hft,?_,?_,?_,hN1,hN15,hLn,hbm,⟨fun m hm => (hj m hm).1,fun i hi => by rw [hL]; exact Int.le_refl 0⟩,fun i hi => by rw [hbn] at hi; omega⟩,?_⟩
 · unfold Qh.cells
   rw [show ({ d:=d,B:=B,N:=c.N,cut:=c.cut,close:=c.close,now:=0,fl:=fun _ => false }:Bnk).d.t.n = c.n from htn]
   exact hblk
 · intro x hx ho
   rcases hx with rfl | rfl | hx
   · rcases ho with ho | ho
     · have:=o1 _ ho; simp only at *; omega
     · have:=o3 _ ho; simp only at *; omega
   · rcases ho with ho | ho
     · have:=o1 _ ho; simp only at *; omega
     · have:=o3 _ ho; simp only at *; omega
   · have h0:=o2 _ hx
     rcases ho with ho | ho
     · have:=o1 _ ho; omega
     · have:=o3 _ ho; omega
 · intro ho
   have:=o2 _ ho
   simp only at *; omega
 · intro ho
   have:=o2 _ ho
   simp only at *; omega
 · intro x hx
   rcases hx with rfl | rfl | hx | hx | hx
   · omega
   · omega
   · have:=o2 _ hx; omega
   · have:=o1 _ hx; omega
   · have:=o3 _ hx; omega
end Go.Proofs.YtgcnnbjbdfgglaaGreat
namespace Go.Proofs.YtgcnnbjbdfgglaaGreat
open Go.RowKit
theorem fits_house {n N:Nat} {m:Nat→Nat} {f:Nat→Nat→Int} {all:Nat→Int} (h:∀ i,i < N→fitsL n (m i) (f i) (all i)):∀ i,i < N + 1→fitsL n (if i < N then m i else n) (fun j => if i < N then f i j else big64) (if i < N then all i else big64):=fun i hi => by
 by_cases e:i < N
 · rw [if_pos e,if_pos e,show (fun j => if i < N then f i j else big64) = f i from by funext j; rw [if_pos e]]
   exact h i e
 · rw [if_neg e,if_neg e]
   exact ⟨rfl,by unfold big64; omega,fun j hj => by show 0≤(if i < N then f i j else big64); rw [if_neg e]; unfold big64; omega⟩
theorem RnPost.one {n:Nat} {code:Nat→ByteArray} {rate cut:Nat→Int} {l r cap:Nat} {L:Led} {m:Nat→Nat} {f:Nat→Nat→Int} {all:Nat→Int} {w:World} {e:Ending} {w':World} (p:RnPost n code rate cut l r cap L m f all w e w'):∃ (pa:Option Addr) (c:Int),e = .returned (.tuple #[.pointer pa,.int .i64 c])∧(0≤c∧c≤12)∧Kept (Pair l r) w w'∧(CkOne n code rate cut→(∀ i,i < L.n→fitsL n (m i) (f i) (all i))→c = 0) ∧
    (c = 0→∃ h d,pa = some ⟨h.g,0,none⟩∧GuS w' h d NoneS∧Judged d d.L.n∧d.L = L∧h.l = l∧d.t = ratesOf n rate cut∧(∀ k,h.own L.n k→k = l∨k = r∨w.heap.size≤k)):=by
 obtain ⟨c,h0,h1,hk,hno,hone,hyes⟩:=p
 by_cases hc:c = 0
 · obtain ⟨h,d,rfl,a1,a2,a3,a4,_,_,a5,a6⟩:=hyes hc
   subst hc
   exact ⟨_,0,rfl,⟨h0,h1⟩,hk,hone,fun _ => ⟨h,d,rfl,a1,a2,a3,a4,a5,a6⟩⟩
 · exact ⟨none,c,hno hc,⟨h0,h1⟩,hk,hone,fun e => absurd e hc⟩
theorem blk6 {w:World} {X:Nat} {c:Cf} (h:Blk w X 29 c.cells):w.cell? ⟨X,0,none⟩ = some (.slice c.ta c.n c.tc)∧w.cell? ⟨X,1,none⟩ = some (.slice c.la c.N c.lc)∧w.cell? ⟨X,2,none⟩ = some (.slice c.na c.nn c.nc)∧w.cell? ⟨X,3,none⟩ = some (.int .i64 c.cut)∧w.cell? ⟨X,4,none⟩ = some (.int .i64 c.close)∧w.cell? ⟨X,5,none⟩ = some (.slice c.da c.dn c.dc) :=
 ⟨(h.cell 0).trans rfl,(h.cell 1).trans rfl,(h.cell 2).trans rfl,(h.cell 3).trans rfl,(h.cell 4).trans rfl,(h.cell 5).trans rfl⟩
set_option maxRecDepth 100000 in
set_option maxHeartbeats 16000000 in
theorem Bk.bnew {w:World} {c:Cf} (h:CfAt w c):Calls Tryz.prog 25 #[.agg c.cells] w (BnPost c w):=by
 have HH:=Lib.hid h
 have HB0:=Lib.hid ((Below.refl w.heap.size w).alloc (Nat.le_refl _) (.cells c.cells 29))
 have HX0:=Lib.hid (Blk.new w 29 c.cells)
 have hmkb:=Bk.makeBool
 clear h
 go_enter Tryz.func25,Tryz.ntmps25
 go_upto_region 1 with (fail)
 generalize w.alloc (.cells #[.slice c.ta c.n c.tc,.slice c.la c.N c.lc,.slice c.na c.nn c.nc,.int .i64 c.cut,.int .i64 c.close,.slice c.da c.dn c.dc] 29) = w1 at *
 have x0:w1.cell? ⟨w.heap.size,0,none⟩ = some (.slice c.ta c.n c.tc):=(HX0.out.cell 0).trans rfl
 have HC1:=Lib.hid (HH.out.below HB0.out)
 have HCK:=Lib.hid (Bk.checkAny HC1.out.tab)
 go_wp2_with fail
 refine HCK.out.mono ?_
 rintro e w2 ⟨r,rfl,hr0,hr1,hcr,hone,hb2⟩
 have HB2:=Lib.hid (HB0.out.trans (hb2.mono HB0.out.size))
 have HX2:=Lib.hid (HX0.out.below hb2)
 have HCR:=Lib.hid (And.intro hcr (And.intro hr0 hr1))
 have HON:=Lib.hid (show CkOne c.n c.code c.rate c.ct→r = 0 from fun ho => hone ho.1 ho.2.1 ho.2.2.1 ho.2.2.2.1 ho.2.2.2.2)
 clear hb2 hr0 hr1 hcr hone x0 HCK HC1 HB0 HX0
 rcases eqs r 0 with ⟨a1,a2,a3⟩ | ⟨a1,a2,a3⟩
 case inr =>
  have HNE:=Lib.hid a1
  have a4:(r != 0) = true:=by simpa using a1
  clear a1 a3
  go_wp2
  go_ret2
  exact BnPost.no HB2.out (by have:=HCR.out.2; have:=HNE.out; omega) HCR.out.2.2 (fun ho => HNE.out (HON.out ho.one))
 subst a1
 clear a2 a3 HON
 have hck:=HCR.out.1 rfl
 have hn1:=hck.1
 have hn8:=hck.2.1
 clear hck
 have x1:w2.cell? ⟨w.heap.size,1,none⟩ = some (.slice c.la c.N c.lc):=(HX2.out.cell 1).trans rfl
 have x0:w2.cell? ⟨w.heap.size,0,none⟩ = some (.slice c.ta c.n c.tc):=(HX2.out.cell 0).trans rfl
 by_cases hN1:c.N < 1
 · have d1:decide ((c.N:Int) < 1) = true:=decide_eq_true (by omega)
   have d1':decide (c.N < 1) = true:=decide_eq_true hN1
   have d1'':decide (c.N = 0) = true:=decide_eq_true (by omega)
   have HN:=Lib.hid hN1
   go_wp2
   go_ret2
   exact BnPost.no HB2.out (by omega) (by omega) (fun ho => by have:=ho.N; have:=HN.out; omega)
 by_cases hN15:16≤c.N
 · have d1:decide ((c.N:Int) < 1) = false:=decide_eq_false (by omega)
   have d1':decide (c.N < 1) = false:=decide_eq_false hN1
   have d2:decide ((16:Int)≤(c.N:Int)) = true:=decide_eq_true (by omega)
   have d2':decide (16≤c.N) = true:=decide_eq_true hN15
   have HN:=Lib.hid hN15
   clear hN1 hN15
   go_wp2
   go_ret2
   exact BnPost.no HB2.out (by omega) (by omega) (fun ho => by have:=ho.N; have:=HN.out; omega)
 have d1:decide ((c.N:Int) < 1) = false:=decide_eq_false (by omega)
 have d1':decide (c.N < 1) = false:=decide_eq_false hN1
 have d2:decide ((16:Int)≤(c.N:Int)) = false:=decide_eq_false (by omega)
 have d2':decide (16≤c.N) = false:=decide_eq_false hN15
 have hNp:1≤c.N:=by omega
 have hNq:c.N≤15:=by omega
 clear hN1 hN15
 have hl:=Bk.lnew w2 (c.N + 1) c.n ⟨by omega,by omega⟩ ⟨hn1,hn8⟩
 rw [show (((c.N + 1:Nat):Int)) = (c.N:Int) + 1 by omega] at hl
 have HLN:=Lib.hid hl
 have hw1:wrap64 ((c.N:Int) + 1) = (c.N:Int) + 1:=Bk.wrap_in (by unfold In64; omega)
 clear hl
 go_wp2_with fail
 refine HLN.out.mono ?_
 rintro e w3 ⟨l,r,rfl,hled,hl2,hr2,hb3⟩
 have HLD:=Lib.hid hled
 have HLG:=Lib.hid (And.intro hl2 (And.intro hr2 (show l < w3.heap.size∧r < w3.heap.size from ⟨hled.llt,hled.rlt⟩)))
 have HB3:=Lib.hid (HB2.out.trans (hb3.mono HB2.out.size))
 have HX3:=Lib.hid (HX2.out.below hb3)
 have HLT:=Lib.hid HX2.out.lt
 clear hled hl2 hr2 hb3 HLN hw1 x0 x1 HX2
 go_upto_region 8 with (fail)
 have S0:=blk6 (w:=w3.drew) (X:=w.heap.size) (c:=c) HX3.out
 have HC3:=Lib.hid (HH.out.below HB3.out.drew)
 have HLM:=Lib.hid (Bk.limits (ta:=c.ta) (na:=c.na) (da:=c.da) (nn:=c.nn) (nc:=c.nc) (dn:=c.dn) (dc:=c.dc) (tc:=c.tc) (cut:=c.cut) (close:=c.close) HC3.out.lim hNp hNq hn1 hn8)
 have HC3b:=Lib.hid (fun (w4:World) (hb:Below w3.drew.heap.size w3.drew w4) => HC3.out.below hb)
 have HRW:=Lib.hid (fun (w4:World) (hb:Below w3.drew.heap.size w3.drew w4) (lv:Value) (sv:Nat→Value) (hls:LimsIn w4 lv (c.N + 1) sv (fun i => if i < c.N then c.m i else c.n) (fun i j => if i < c.N then c.f i j else big64) (fun i => if i < c.N then c.all i else big64)) => Bk.rnew (L:=Led.zero (c.N + 1) c.n) (HC3b.out w4 hb).tab (by omega) (LedAt.below (w:=w3) HLD.out (show Below w3.heap.size w3 w4 from ⟨hb.os,hb.tape,hb.output,hb.size,hb.block⟩)) (Led.zero_ok ⟨by omega,by omega⟩ ⟨hn1,hn8⟩) rfl hls)
 go_region_held3 (fun wx => wx.cell? ⟨w.heap.size,0,none⟩ = some (.slice c.ta c.n c.tc)∧wx.cell? ⟨w.heap.size,1,none⟩ = some (.slice c.la c.N c.lc)∧wx.cell? ⟨w.heap.size,2,none⟩ = some (.slice c.na c.nn c.nc)∧wx.cell? ⟨w.heap.size,3,none⟩ = some (.int .i64 c.cut)∧wx.cell? ⟨w.heap.size,4,none⟩ = some (.int .i64 c.close)∧wx.cell? ⟨w.heap.size,5,none⟩ = some (.slice c.da c.dn c.dc))
   (first | with_reducible exact S2 | with_reducible exact S1 | exact S0)
   (first
     | (go_at_call 51; refine HLM.out.mono ?_; rintro e w4 ⟨lv,sv,rfl,hls,hb4⟩; have HLS4:=Lib.hid hls; have HB4:=Lib.hid hb4; obtain ⟨la',lc',rfl,hlc'⟩:=hls.row; clear hlc' hls hb4; have S1:=blk6 (HX3.out.below (show Below w3.heap.size w3 w4 from ⟨HB4.out.os,HB4.out.tape,HB4.out.output,HB4.out.size,HB4.out.block⟩)))
     | (go_at_call 50; refine (HRW.out w4 HB4.out _ sv HLS4.out).mono ?_; intro e w5 hpost; obtain ⟨pa,rc,rfl,hrc,hk5,hone,hyes⟩:=hpost.one; clear hpost; have S2:=blk6 (hk5.heap (show w4.heap[w.heap.size]? = _ from HX3.out.below (show Below w3.heap.size w3 w4 from ⟨HB4.out.os,HB4.out.tape,HB4.out.output,HB4.out.size,HB4.out.block⟩)) (fun hp => by rcases hp with hp | hp <;> (have h1:=HLG.out; have h2:=HLT.out; omega)))))
 have hb34:Below w.heap.size w w4:=HB3.out.drew.trans (HB4.out.mono HB3.out.drew.size)
 have hb5:Below w.heap.size w4 w5:=hk5.below hb34.size (fun k hp => by rcases hp with hp | hp <;> (have h1:=HLG.out; have h2:=HLT.out; omega))
 have HSZ:=Lib.hid (show w3.heap.size≤w4.heap.size∧w4.heap.size≤w5.heap.size from ⟨HB4.out.size,hk5.size⟩)
 have HB5:=Lib.hid (hb34.trans hb5)
 have HX5:=Lib.hid (show Blk w5 w.heap.size 29 c.cells from hk5.heap (show w4.heap[w.heap.size]? = _ from HX3.out.below (show Below w3.heap.size w3 w4 from ⟨HB4.out.os,HB4.out.tape,HB4.out.output,HB4.out.size,HB4.out.block⟩)) (fun hp => by rcases hp with hp | hp <;> (have h1:=HLG.out; have h2:=HLT.out; omega)))
 have HGN:=Lib.hid (And.intro hone hyes)
 have HC5:=Lib.hid (HH.out.below HB5.out)
 have hrc1:=hrc.1
 have hrc2:=hrc.2
 clear hb34 hb5 hk5 hone hyes hrc S0 S1 S2 HC3 HLM HC3b HRW HLD HB3 HX3 HB4 HLS4
 rcases eqs rc 0 with ⟨a1,a2,a3⟩ | ⟨a1,a2,a3⟩
 case inr =>
  have HNE:=Lib.hid a1
  have a4:(rc != 0) = true:=by simpa using a1
  clear a1 a3
  go_wp2
  go_ret2
  exact BnPost.no HB5.out (by omega) (by omega) (fun ho => HNE.out (HGN.out.1 ho.one (fits_house ho.lim)))
 subst a1
 clear a2 a3
 have x3:w5.cell? ⟨w.heap.size,3,none⟩ = some (.int .i64 c.cut):=(blk6 HX5.out).2.2.2.1
 have x4:w5.cell? ⟨w.heap.size,4,none⟩ = some (.int .i64 c.close):=(blk6 HX5.out).2.2.2.2.1
 have x5:w5.cell? ⟨w.heap.size,5,none⟩ = some (.slice c.da c.dn c.dc):=(blk6 HX5.out).2.2.2.2.2
 have HDC:=Lib.hid (Bk.dcheck HC5.out.day c.cut c.close)
 go_wp2_with fail
 refine HDC.out.mono ?_
 rintro e w6 ⟨x,rfl,hx,hb6,hdn,hone2⟩
 have HB6:=Lib.hid (HB5.out.trans (hb6.mono HB5.out.size))
 have HX6:=Lib.hid (HX5.out.below hb6)
 have HC6:=Lib.hid (HC5.out.below hb6)
 have HB56:=Lib.hid hb6
 have HDN:=Lib.hid hdn
 have HO2:=Lib.hid hone2
 clear hb6 hdn hone2 x3 x4 x5 HDC HX5 HC5
 rcases hx with rfl | rfl
 case inr =>
  go_wp2
  go_ret2
  exact BnPost.no HB6.out (by omega) (by omega) (fun ho => by have:=HO2.out ho.day.1 ho.day.2.1 ho.day.2.2.1 ho.day.2.2.2.1 ho.day.2.2.2.2.1 ho.day.2.2.2.2.2; omega)
 have hdn:=HDN.out rfl
 have x0:w6.cell? ⟨w.heap.size,0,none⟩ = some (.slice c.ta c.n c.tc):=(blk6 HX6.out).1
 have x2:w6.cell? ⟨w.heap.size,2,none⟩ = some (.slice c.na c.nn c.nc):=(blk6 HX6.out).2.2.1
 have HLE:=Lib.hid (Bk.lenew HC6.out.lin hn1 (by omega))
 go_wp2_with fail
 refine HLE.out.mono ?_
 rintro e w7 (⟨x,rfl,hx1,hx2,hnn,hb7⟩ | ⟨eh,rfl,heC,hle,heo,hb7⟩)
 case inl =>
  have HB7:=Lib.hid (HB6.out.trans (hb7.mono HB6.out.size))
  have a4:(x != 0) = true:=by simp; omega
  have HNN:=Lib.hid hnn
  clear hb7 hnn x0 x2
  go_wp2
  go_ret2
  exact BnPost.no HB7.out hx1 hx2 (fun ho => HNN.out ho.nn)
 have HB7:=Lib.hid (HB6.out.trans (hb7.mono HB6.out.size))
 have HX7:=Lib.hid (HX6.out.below hb7)
 have HC7:=Lib.hid (HC6.out.below hb7)
 have HS56:=Lib.hid HB56.out.size
 have HB57:=Lib.hid (HB56.out.trans (hb7.mono HB56.out.size))
 have HS57:=Lib.hid HB57.out.size
 have HL7:=Lib.hid (And.intro heC (And.intro hle heo))
 clear heC hle heo hb7 x0 x2 HLE HB56 HX6 HC6
 have x0:w7.cell? ⟨w.heap.size,0,none⟩ = some (.slice c.ta c.n c.tc):=(blk6 HX7.out).1
 have HDL:=Lib.hid (Bk.dealNew w7 c.N c.n ⟨hNp,by omega⟩ ⟨hn1,hn8⟩)
 go_wp2_with fail
 refine HDL.out.mono ?_
 rintro e w8 ⟨k,B,rfl,hbo,hbn,hbm,hbc,hb8,hko⟩
 have HB8:=Lib.hid (HB7.out.trans (hb8.mono HB7.out.size))
 have HX8:=Lib.hid (HX7.out.below hb8)
 have HC8:=Lib.hid (HC7.out.below hb8)
 have HB58:=Lib.hid (HB57.out.trans (hb8.mono HB57.out.size))
 have HB78:=Lib.hid hb8
 have HK8:=Lib.hid (And.intro hbo (And.intro hbn (And.intro hbm hko)))
 clear hbo hbn hbm hbc hb8 hko x0 HDL HX7 HC7 HB57
 have x5:w8.cell? ⟨w.heap.size,5,none⟩ = some (.slice c.da c.dn c.dc):=(blk6 HX8.out).2.2.2.2.2
 have HCL:=Lib.hid (Bk.cloneInt (by omega) (by omega) HC8.out.day.slK (fun _ _ _ _ => rfl))
 go_wp2_with fail
 refine HCL.out.mono ?_
 rintro e w9 ⟨g9,c9,rfl,hrow,hc9,hg9,hty9,hb9⟩
 have HB9:=Lib.hid (HB8.out.trans (hb9.mono HB8.out.size))
 have HX9:=Lib.hid (HX8.out.below hb9)
 have HB59:=Lib.hid (HB58.out.trans (hb9.mono HB58.out.size))
 have HB79:=Lib.hid (HB78.out.trans (hb9.mono HB78.out.size))
 have HB89:=Lib.hid hb9
 clear hb9 hrow hty9 hg9 hc9 x5 HCL HX8 HC8 HB58
 have x5:w9.cell? ⟨w.heap.size,5,none⟩ = some (.slice c.da c.dn c.dc):=(blk6 HX9.out).2.2.2.2.2
 have f5:=HX9.out.frozen 5
 have HXA:=Lib.hid (HX9.out.set 5 (.slice (some ⟨g9,0,none⟩) c.dn c9))
 obtain ⟨h,d,hpa,hg,hj,hL,hhl,ht,hown⟩:=HGN.out.2 trivial
 subst hpa
 have HG:=Lib.hid (And.intro hg (And.intro hj (And.intro hL (And.intro hhl (And.intro ht hown)))))
 clear hg hj hL hhl ht hown HGN
 have HK10:=Lib.hid ((Kept.refl (fun x => x = w.heap.size) w9).setCell (.inl rfl) 5 (.slice (some ⟨g9,0,none⟩) c.dn c9))
 have HB10:=Lib.hid (HB9.out.setCell (p:=⟨w.heap.size,5,none⟩) (Nat.le_refl _) (.slice (some ⟨g9,0,none⟩) c.dn c9))
 have HS10:=Lib.hid (show (w9.setCell ⟨w.heap.size,5,none⟩ (.slice (some ⟨g9,0,none⟩) c.dn c9)).heap.size = w9.heap.size by simp [World.setCell])
 go_upto_region 18 with (fail)
 generalize w9.setCell ⟨w.heap.size,5,none⟩ (.slice (some ⟨g9,0,none⟩) c.dn c9) = w10 at *
 have z0:w10.cell? ⟨w.heap.size,0,none⟩ = some (.slice c.ta c.n c.tc):=(HXA.out.cell 0).trans rfl
 have z1:w10.cell? ⟨w.heap.size,1,none⟩ = some (.slice c.la c.N c.lc):=(HXA.out.cell 1).trans rfl
 have z2:w10.cell? ⟨w.heap.size,2,none⟩ = some (.slice c.na c.nn c.nc):=(HXA.out.cell 2).trans rfl
 have z3:w10.cell? ⟨w.heap.size,3,none⟩ = some (.int .i64 c.cut):=(HXA.out.cell 3).trans rfl
 have z4:w10.cell? ⟨w.heap.size,4,none⟩ = some (.int .i64 c.close):=(HXA.out.cell 4).trans rfl
 have z5:w10.cell? ⟨w.heap.size,5,none⟩ = some (.slice (some ⟨g9,0,none⟩) c.dn c9):=(HXA.out.cell 5).trans rfl
 have hA1:=(Below.refl w10.heap.size w10).alloc (Nat.le_refl _) (.cells (madeCells #[.bool false] c.N) 4)
 have z0a:=Bk.kept hA1 z0
 have z1a:=Bk.kept hA1 z1
 have z2a:=Bk.kept hA1 z2
 have z3a:=Bk.kept hA1 z3
 have z4a:=Bk.kept hA1 z4
 have z5a:=Bk.kept hA1 z5
 have hm:=hmkb c.N (by omega)
 clear hmkb x5 f5 hA1
 go_region
 have hbx:∀ x,x < w9.heap.size→x ≠ w.heap.size→(((w10.alloc (.cells (madeCells #[.bool false] c.N) 4)).alloc (.cells #[.slice c.ta c.n c.tc,.slice c.la c.N c.lc,.slice c.na c.nn c.nc,.int .i64 c.cut,.int .i64 c.close,.slice (some ⟨g9,0,none⟩) c.dn c9,.int .i64 c.N,.pointer (some ⟨l,0,none⟩),.pointer (some ⟨h.g,0,none⟩),.pointer (some ⟨k.b,0,none⟩),.pointer (some ⟨eh.x,0,none⟩),.int .i64 0,.slice (some ⟨w10.heap.size,0,none⟩) c.N c.N] 123)).drew).heap[x]? = w9.heap[x]?:=fun x hx hne => by
  have h1:=(((Below.refl w10.heap.size w10).alloc (Nat.le_refl _) (.cells (madeCells #[.bool false] c.N) 4)).alloc (by simp) (.cells #[.slice c.ta c.n c.tc,.slice c.la c.N c.lc,.slice c.na c.nn c.nc,.int .i64 c.cut,.int .i64 c.close,.slice (some ⟨g9,0,none⟩) c.dn c9,.int .i64 c.N,.pointer (some ⟨l,0,none⟩),.pointer (some ⟨h.g,0,none⟩),.pointer (some ⟨k.b,0,none⟩),.pointer (some ⟨eh.x,0,none⟩),.int .i64 0,.slice (some ⟨w10.heap.size,0,none⟩) c.N c.N] 123)).drew.block x (by have:=HS10.out; omega)
  exact h1.trans (HK10.out.block x hx hne)
 have hbT:=(((HB10.out).alloc HB10.out.size (.cells (madeCells #[.bool false] c.N) 4)).alloc (by have:=HB10.out.size; simp; omega) (.cells #[.slice c.ta c.n c.tc,.slice c.la c.N c.lc,.slice c.na c.nn c.nc,.int .i64 c.cut,.int .i64 c.close,.slice (some ⟨g9,0,none⟩) c.dn c9,.int .i64 c.N,.pointer (some ⟨l,0,none⟩),.pointer (some ⟨h.g,0,none⟩),.pointer (some ⟨k.b,0,none⟩),.pointer (some ⟨eh.x,0,none⟩),.int .i64 0,.slice (some ⟨w10.heap.size,0,none⟩) c.N c.N] 123)).drew
 have hblk:=Blk.new (w10.alloc (.cells (madeCells #[.bool false] c.N) 4)) 123 #[.slice c.ta c.n c.tc,.slice c.la c.N c.lc,.slice c.na c.nn c.nc,.int .i64 c.cut,.int .i64 c.close,.slice (some ⟨g9,0,none⟩) c.dn c9,.int .i64 c.N,.pointer (some ⟨l,0,none⟩),.pointer (some ⟨h.g,0,none⟩),.pointer (some ⟨k.b,0,none⟩),.pointer (some ⟨eh.x,0,none⟩),.int .i64 0,.slice (some ⟨w10.heap.size,0,none⟩) c.N c.N]
 rw [World.size_alloc] at hblk
 have hA2:=((Below.refl (w10.alloc (.cells (madeCells #[.bool false] c.N) 4)).heap.size (w10.alloc (.cells (madeCells #[.bool false] c.N) 4))).alloc (Nat.le_refl _) (.cells #[.slice c.ta c.n c.tc,.slice c.la c.N c.lc,.slice c.na c.nn c.nc,.int .i64 c.cut,.int .i64 c.close,.slice (some ⟨g9,0,none⟩) c.dn c9,.int .i64 c.N,.pointer (some ⟨l,0,none⟩),.pointer (some ⟨h.g,0,none⟩),.pointer (some ⟨k.b,0,none⟩),.pointer (some ⟨eh.x,0,none⟩),.int .i64 0,.slice (some ⟨w10.heap.size,0,none⟩) c.N c.N] 123)).drew
 have hfl:=(made_bools w10 c.N).below hA2
 have hft:Ty _ w10.heap.size 4:=(Ty.below (w:=w10.alloc (.cells (madeCells #[.bool false] c.N) 4)) ⟨_,heap_alloc_new w10 _⟩ hA2)
 obtain ⟨hg,hj,hL,hhl,ht,hown⟩:=HG.out
 obtain ⟨heC,hle,heo⟩:=HL7.out
 obtain ⟨hbo,hbn,hbm,hko⟩:=HK8.out
 have s1:=HSZ.out
 have s2:=HLG.out
 have s3:=HLT.out
 have s5:=HB59.out
 have s7:=HB79.out
 have s8:=HB89.out
 have s57:w5.heap.size≤w7.heap.size:=HS57.out
 have s56:w5.heap.size≤w6.heap.size:=HS56.out
 have hZ:∀ x,w2.heap.size≤x→x ≠ w.heap.size:=fun x hx => by omega
 have o1:∀ x,h.own d.L.n x→w2.heap.size≤x∧x < w5.heap.size:=fun x hx => by
  have hlt:=hg.ownlt hx
  rw [hL] at hx
  rcases hown x hx with e | e | e <;> omega
 have o2:∀ x,eh.own x→w5.heap.size≤x∧x < w7.heap.size:=fun x hx => ⟨Nat.le_trans s56 (heo x hx),hle.ownlt x hx⟩
 have o3:∀ x,k.own x→w7.heap.size≤x∧x < w8.heap.size:=fun x hx => ⟨hko x hx,hbo.ownlt hx⟩
 have hs58:=s5.size
 have hs78:=s7.size
 have hs89:=s8.size
 have hs788:=HB78.out.size
 have hF:=BkAt.mk1 (c:=c) (h:=h) (d:=d) (k:=k) (B:=B) (e:=eh) (b:=w10.heap.size + 1) (fb:=w10.heap.size) (fc:=c.N) (dv:=.slice (some ⟨g9,0,none⟩) c.dn c9) (by rw [hhl]; exact hblk)
   (hg.frame (fun x hx => (hbx x (by have:=o1 x hx; omega) (hZ x (o1 x hx).1)).trans (s5.block x (o1 x hx).2)))
   (hbo.frame (fun x hx => (hbx x (by have:=o3 x hx; omega) (hZ x (by have:=o3 x hx; omega))).trans (s8.block x (o3 x hx).2)))
   (hle.frame (F:=fun x => ¬ eh.own x) ⟨by rw [← s7.os]; exact hbT.os.trans HB9.out.os.symm,by rw [← s7.tape]; exact hbT.tape.trans HB9.out.tape.symm,by rw [← s7.output]; exact hbT.output.trans HB9.out.output.symm,by simp [World.drew]; have:=HS10.out; omega,fun x hx hn => by
    have hx2:eh.own x:=Classical.not_not.1 hn
    exact (hbx x (by omega) (hZ x (by have:=o2 x hx2; omega))).trans (s7.block x hx)⟩ (fun x hx hn => hn hx))
   hbn hbm heC hj hL ht hfl hft hNp hNq (z0:=w2.heap.size) (z1:=w5.heap.size) (z2:=w7.heap.size) (z3:=w8.heap.size) (by omega) (by omega) (by omega) o1 o2 o3 (by have:=HS10.out; omega) (by omega)
 have HF:=Lib.hid hF
 have HBT:=Lib.hid hbT
 have HBN:=Lib.hid hbn
 have HE1:=Lib.hid (And.intro hL ht)
 clear hF hbT hbx hblk hA2 hfl hft hg hj hL hhl ht hown heC hle heo hbo hbn hbm hko s1 s2 s3 s5 s7 s8 s57 s56 hZ o1 o2 o3 hs58 hs78 hs89 hs788 z0 z1 z2 z3 z4 z5 z0a z1a z2a z3a z4a z5a hm
 go_wp2
 go_ret2
 exact ⟨HBT.out,.inr ⟨_,_,rfl,HF.out.1,fun x hx => by have:=HF.out.2 x hx; have:=HLT.out; omega,⟨rfl,HE1.out.2,HE1.out.1,HBN.out,rfl,rfl,rfl,fun _ => rfl⟩⟩⟩
end Go.Proofs.YtgcnnbjbdfgglaaGreat
