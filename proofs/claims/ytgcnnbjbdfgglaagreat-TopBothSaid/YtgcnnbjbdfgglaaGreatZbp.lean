/- LAW TopBoth: of every configuration of a bank and every list of byte strings the given function TopBoth returns true and leaves its arguments as they were; no condition. A part of what it needs. -/
import Derived.Test.YtgcnnbjbdfgglaaGreatZbo
namespace Go.Proofs.YtgcnnbjbdfgglaaGreat
open Go.RowKit
theorem Bk.append01 {jg g B:Nat} {v:Value} {w:World} (room:Int) (hr:1000≤room) (h:J.Jour w jg g B v J.Jn.none (J.Dk.new room)) (hne:jg ≠ g) (hjB:jg < B) (hgB:g < B) (hBw:B≤w.heap.size) (b:List UInt8) (hb:b.length≤100) :
    Calls Tryz.prog 37 #[.pointer (some ⟨jg,0,none⟩),.string ⟨b.toArray⟩] w (ApPost (fun r=>r=0) jg g B v 0 w):=by
 refine (J.append_j jg g B v J.Jn.none (J.Dk.new room) b (by omega) hne hjB hgB w hBw h (by simp [J.Jn.none]) (by simp [J.Jn.none])).mono ?_
 rintro e w' ⟨rfl,v',h1,h2,h3⟩
 have h0:=J.appJ_first room hr b hb
 have hm:=J.appJ_more J.Jn.none (J.Dk.new room) b
 have e1:J.Jn.none.base=0:=rfl
 have e2:J.Jn.none.recs.length=0:=rfl
 exact ⟨_,rfl,by rw [h0]; omega,by rw [h0]; omega,h0,v',⟨⟨_,_,h1,by omega⟩,hne,hjB,hgB,Nat.le_trans hBw h2.size⟩,h2,h3⟩
theorem ifres_e:∃ x,ifRes (ratesOf 1 (fun _=>10000) (fun _=>0)) (fun _=>0) 0 [⟨0,0,9⟩]=some x:=⟨(9,0),by decide +kernel⟩
theorem inn_e:(Led.zero 2 1).inn 0 0 9=(0,((Led.zero 2 1).setB 0 0 9).setN 0 9):=by
 simp [Led.inn,Led.has,Led.zero,In64]
theorem get_e:(((Led.zero 2 1).setB 0 0 9).setN 0 9).get 0 0=9:=by
 simp [Led.get,Led.has,Led.zero,Led.setB,Led.setN]
def cmE:W.Cm:=⟨3,fun i=>if i=6 then 9 else 0⟩
def bytesE:List UInt8:=[3,0,0,0,0,0,0,0,0,0,9]
theorem may_e:W.may cmE=true:=by decide +kernel
theorem take_e:∃ c,W.take bytesE=some c∧c.k=3∧c.n 1=0∧c.n 4=0∧c.n 6=9:=by
 have h:(W.take bytesE).isSome=true:=by decide +kernel
 have h1:(W.take bytesE).map (fun c=>(c.k,c.n 1,c.n 4,c.n 6))=some (3,0,0,9):=by decide +kernel
 obtain ⟨c,hc⟩:=Option.isSome_iff_exists.1 h
 rw [hc] at h1
 simp only [Option.map_some,Option.some.injEq,Prod.mk.injEq] at h1
 exact ⟨c,hc,h1.1,h1.2.1,h1.2.2.1,h1.2.2.2⟩
def cfE (b:Nat):Cf:=⟨some ⟨b,0,none⟩,1,1,some ⟨b + 1 + 1,0,none⟩,1,1,none,0,0,1,3,some ⟨b + 1 + 1 + 1,0,none⟩,1,1,fun _=>⟨#[69,85,82]⟩,fun _=>10000,fun _=>0,fun _=>.slice (some ⟨b + 1,0,none⟩) 1 1,fun _=>1,fun _ _=>0,fun _=>0,fun _=>1⟩
theorem cfE_at {w:World} {b:Nat} (h0:Blk w b 82 #[.string ⟨#[69,85,82]⟩,.int .i64 10000,.int .i64 0]) (h1:Blk w (b + 1) 2 #[.int .i64 0]) (h2:Blk w (b + 1 + 1) 84 #[.slice (some ⟨b + 1,0,none⟩) 1 1,.int .i64 0]) (h3:Blk w (b + 1 + 1 + 1) 3 #[.int .i64 1]):CfAt w (cfE b):=by
 refine ⟨⟨_,_,rfl,fun _=>⟨b,0,rfl,fun i j hi hj=>?_⟩⟩,⟨⟨_,_,rfl,fun _=>⟨b + 1 + 1,0,rfl,fun i j hi hj=>?_⟩⟩,fun i hi=>⟨⟨_,_,rfl,fun _=>⟨b + 1,0,rfl,fun j hj=>?_⟩⟩,by unfold In64 cfE; simp,fun j hj=>by unfold In64 cfE; simp⟩⟩,⟨fun _=>.int .i64 0,⟨none,0,rfl,fun h=>absurd h (by simp [cfE])⟩,fun i hi=>absurd hi (by simp [cfE])⟩,⟨_,_,rfl,fun _=>⟨b + 1 + 1 + 1,0,rfl,fun i hi=>?_⟩⟩⟩
 · have:i < 1:=hi
   obtain rfl:i=0:=by omega
   have:j=0∨j=1∨j=2:=by omega
   rcases this with rfl | rfl | rfl
   · exact (h0.cell 0).trans rfl
   · exact (h0.cell 1).trans rfl
   · exact (h0.cell 2).trans rfl
 · have:i < 1:=hi
   obtain rfl:i=0:=by omega
   have:j=0∨j=1:=by omega
   rcases this with rfl | rfl
   · exact (h2.cell 0).trans rfl
   · exact (h2.cell 1).trans rfl
 · have:j < 1:=hj
   obtain rfl:j=0:=by omega
   exact (h1.cell 0).trans rfl
 · have:i < 1:=hi
   obtain rfl:i=0:=by omega
   exact (h3.cell 0).trans rfl
theorem caps_e:Caps ⟨#[69,85,82]⟩:=fun i h=>by
 have h3:i < 3:=h
 have:i=0∨i=1∨i=2:=by omega
 rcases this with rfl | rfl | rfl
 · exact ⟨(by decide:65≤(69:UInt8).toNat),(by decide:(69:UInt8).toNat≤90)⟩
 · exact ⟨(by decide:65≤(85:UInt8).toNat),(by decide:(85:UInt8).toNat≤90)⟩
 · exact ⟨(by decide:65≤(82:UInt8).toNat),(by decide:(82:UInt8).toNat≤90)⟩
theorem cfE_one (b:Nat):CfOne (cfE b) :=
 ⟨⟨rfl,caps_e,rfl,rfl,rfl⟩,⟨by simp [cfE],by simp [cfE]⟩,fun i hi=>⟨rfl,by simp [cfE],fun j hj=>by simp [cfE]⟩,rfl,by simp [cfE]⟩
theorem five_blocks (w:World) (c0 c1 c2 c3 c4:Array Value) (T0 T1 T2 T3 T4:TypeId):Blk (((((w.alloc (.cells c0 T0)).alloc (.cells c1 T1)).alloc (.cells c2 T2)).alloc (.cells c3 T3)).alloc (.cells c4 T4)) w.heap.size T0 c0∧Blk (((((w.alloc (.cells c0 T0)).alloc (.cells c1 T1)).alloc (.cells c2 T2)).alloc (.cells c3 T3)).alloc (.cells c4 T4)) (w.heap.size + 1) T1 c1∧Blk (((((w.alloc (.cells c0 T0)).alloc (.cells c1 T1)).alloc (.cells c2 T2)).alloc (.cells c3 T3)).alloc (.cells c4 T4)) (w.heap.size + 1 + 1) T2 c2∧Blk (((((w.alloc (.cells c0 T0)).alloc (.cells c1 T1)).alloc (.cells c2 T2)).alloc (.cells c3 T3)).alloc (.cells c4 T4)) (w.heap.size + 1 + 1 + 1) T3 c3∧Blk (((((w.alloc (.cells c0 T0)).alloc (.cells c1 T1)).alloc (.cells c2 T2)).alloc (.cells c3 T3)).alloc (.cells c4 T4)) (w.heap.size + 1 + 1 + 1 + 1) T4 c4∧Below w.heap.size w (((((w.alloc (.cells c0 T0)).alloc (.cells c1 T1)).alloc (.cells c2 T2)).alloc (.cells c3 T3)).alloc (.cells c4 T4)):=by
 have h0:=Blk.new w T0 c0
 have h1:=Blk.new (w.alloc (.cells c0 T0)) T1 c1
 have h2:=Blk.new ((w.alloc (.cells c0 T0)).alloc (.cells c1 T1)) T2 c2
 have h3:=Blk.new (((w.alloc (.cells c0 T0)).alloc (.cells c1 T1)).alloc (.cells c2 T2)) T3 c3
 have h4:=Blk.new ((((w.alloc (.cells c0 T0)).alloc (.cells c1 T1)).alloc (.cells c2 T2)).alloc (.cells c3 T3)) T4 c4
 simp only [World.size_alloc] at h1 h2 h3 h4
 exact ⟨(((h0.alloc _).alloc _).alloc _).alloc _,((h1.alloc _).alloc _).alloc _,(h2.alloc _).alloc _,h3.alloc _,h4,(((((Below.refl _ _).alloc (Nat.le_refl _) _).alloc (by simp) _).alloc (by simp; omega) _).alloc (by simp; omega) _).alloc (by simp; omega) _⟩
theorem awake_q {b:Nat} {s s':Bnk} (n:BnkNew (cfE b) s) {c:W.Cm} (hk:c.k=3) (h1:c.n 1=0) (h4:c.n 4=0) (h6:c.n 6=9) (hm:W.may c=true) {E V:Int} {zs:List Int} (h:DoQ s c E V zs s'):E=0∧V=0∧zs=[]∧s'.d.L.get 0 0=9:=by
 have hN:s.N=1:=n.N
 have hL:s.d.L=Led.zero 2 1:=n.L
 have ht:s.d.t=ratesOf 1 (fun _=>10000) (fun _=>0):=n.t
 have hc:s.cut=1:=n.cut
 obtain ⟨hv,hz,q1,q2⟩:=h.2 hk hm (by rw [h1,hN]; omega) (n.fl _) (by rw [n.now,hc]; omega)
 rw [h1,h4,h6,hL,inn_e,ht] at q1 q2
 have hE:=q2 (by decide) (by decide) (by omega) ifres_e rfl
 refine ⟨hE,hv,hz,?_⟩
 rw [(q1 hE).1]
 exact get_e
end Go.Proofs.YtgcnnbjbdfgglaaGreat
namespace Go.Proofs.YtgcnnbjbdfgglaaGreat
open Go.RowKit
theorem below_of_kept {a b c:World} {g:Nat} (h:Below a.heap.size a b) (k:Kept (fun x=>x=g) b c) (hg:a.heap.size≤g):Below a.heap.size a c :=
 h.trans (k.below h.size (fun x hx=>by cases hx; exact hg))
theorem putrB_e:W.putrB 0 0 []=[0,0,0,0,0,0,0,0,0,0,0]:=by decide +kernel
theorem putrV_e:W.putrV 0 0 []=.tuple #[.string ⟨#[0,0,0,0,0,0,0,0,0,0,0]⟩,.int .i64 0]:=by
 unfold W.putrV
 rw [putr_ok (by omega) (by omega) ids_ok0,if_pos rfl,putrB_e]
theorem dk_ok (room:Int) (h0:0≤room) (h1:room≤16777216):(J.Dk.new room).Ok:=⟨h0,h1,by simp [J.Dk.new],by simp [J.Dk.new],by simp [J.Dk.left,J.Dk.new]; omega,fun i=>by simp [J.Dk.new]⟩
set_option maxRecDepth 100000 in
set_option maxHeartbeats 8000000 in
theorem Bk.lawake (w:World):Calls Tryz.prog 4 #[] w fun e w'=>e=.returned (.bool true)∧Below w.heap.size w w':=by
 have H5:=Lib.hid (five_blocks w #[.string ⟨#[69,85,82]⟩,.int .i64 10000,.int .i64 0] #[.int .i64 0] #[.slice (some ⟨w.heap.size + 1,0,none⟩) 1 1,.int .i64 0] #[.int .i64 1] (cfE w.heap.size).cells 82 2 84 3 29)
 go_enter Tryz.func4,Tryz.ntmps4
 go_upto_region 2 with (fail)
 change Code.wp _ _ _ _ (((((w.alloc (.cells #[.string ⟨#[69,85,82]⟩,.int .i64 10000,.int .i64 0] 82)).alloc (.cells #[.int .i64 0] 2)).alloc (.cells #[.slice (some ⟨w.heap.size + 1,0,none⟩) 1 1,.int .i64 0] 84)).alloc (.cells #[.int .i64 1] 3)).alloc (.cells (cfE w.heap.size).cells 29))
 generalize (((((w.alloc (.cells #[.string ⟨#[69,85,82]⟩,.int .i64 10000,.int .i64 0] 82)).alloc (.cells #[.int .i64 0] 2)).alloc (.cells #[.slice (some ⟨w.heap.size + 1,0,none⟩) 1 1,.int .i64 0] 84)).alloc (.cells #[.int .i64 1] 3)).alloc (.cells (cfE w.heap.size).cells 29))=w1 at *
 have HC1:=Lib.hid (cfE_at H5.out.1 H5.out.2.1 H5.out.2.2.1 H5.out.2.2.2.1)
 have HX1:=Lib.hid H5.out.2.2.2.2.1
 have HB1:=Lib.hid H5.out.2.2.2.2.2
 clear H5
 have HND:=Lib.hid (J.new_disk 10000 (by omega) (by omega) w1)
 go_wp2_with fail
 refine HND.out.mono ?_
 rintro e w2 ⟨rfl,hd,hb2,_⟩
 have HD2:=Lib.hid hd
 have HB12:=Lib.hid hb2
 have HX2:=Lib.hid (HX1.out.below hb2)
 have HKO:=Lib.hid (Bk.kopen (HC1.out.below hb2) hd (dk_ok 10000 (by omega) (by omega)) rfl rfl rfl)
 clear hd hb2 HND
 have x0:w2.cell? ⟨w.heap.size + 1 + 1 + 1 + 1,0,none⟩=some (.slice (some ⟨w.heap.size,0,none⟩) 1 1):=(HX2.out.cell 0).trans rfl
 have x1:w2.cell? ⟨w.heap.size + 1 + 1 + 1 + 1,1,none⟩=some (.slice (some ⟨w.heap.size + 1 + 1,0,none⟩) 1 1):=(HX2.out.cell 1).trans rfl
 have x2:w2.cell? ⟨w.heap.size + 1 + 1 + 1 + 1,2,none⟩=some (.slice none 0 0):=(HX2.out.cell 2).trans rfl
 have x3:w2.cell? ⟨w.heap.size + 1 + 1 + 1 + 1,3,none⟩=some (.int .i64 1):=(HX2.out.cell 3).trans rfl
 have x4:w2.cell? ⟨w.heap.size + 1 + 1 + 1 + 1,4,none⟩=some (.int .i64 3):=(HX2.out.cell 4).trans rfl
 have x5:w2.cell? ⟨w.heap.size + 1 + 1 + 1 + 1,5,none⟩=some (.slice (some ⟨w.heap.size + 1 + 1 + 1,0,none⟩) 1 1):=(HX2.out.cell 5).trans rfl
 go_wp2_with fail
 refine HKO.out.mono ?_
 rintro e w3 ⟨hk3,hor⟩
 rcases hor with ⟨x,rfl,_,_,hno⟩ | ⟨K,q,s,jg,B,rfl,hkp,hj,hko,hnew⟩
 · exact absurd (cfE_one _) hno
 have HB3:=Lib.hid (below_of_kept HB12.out hk3 (Nat.le_refl _))
 have HS23:=Lib.hid hk3.size
 have HX3:=Lib.hid (HX1.out.below HB3.out)
 have HKP3:=Lib.hid hkp
 have HJ3:=Lib.hid hj
 have HKO3:=Lib.hid hko
 have HNW:=Lib.hid hnew
 have HBN:=Lib.hid (Bk.bnew (HC1.out.below HB3.out))
 clear x0 x1 x2 x3 x4 x5 HKO hk3 hkp hj hko hnew HX2 HC1 HX1
 have x0:w3.cell? ⟨w.heap.size + 1 + 1 + 1 + 1,0,none⟩=some (.slice (some ⟨w.heap.size,0,none⟩) 1 1):=(HX3.out.cell 0).trans rfl
 have x1:w3.cell? ⟨w.heap.size + 1 + 1 + 1 + 1,1,none⟩=some (.slice (some ⟨w.heap.size + 1 + 1,0,none⟩) 1 1):=(HX3.out.cell 1).trans rfl
 have x2:w3.cell? ⟨w.heap.size + 1 + 1 + 1 + 1,2,none⟩=some (.slice none 0 0):=(HX3.out.cell 2).trans rfl
 have x3:w3.cell? ⟨w.heap.size + 1 + 1 + 1 + 1,3,none⟩=some (.int .i64 1):=(HX3.out.cell 3).trans rfl
 have x4:w3.cell? ⟨w.heap.size + 1 + 1 + 1 + 1,4,none⟩=some (.int .i64 3):=(HX3.out.cell 4).trans rfl
 have x5:w3.cell? ⟨w.heap.size + 1 + 1 + 1 + 1,5,none⟩=some (.slice (some ⟨w.heap.size + 1 + 1 + 1,0,none⟩) 1 1):=(HX3.out.cell 5).trans rfl
 go_wp2_with fail
 refine HBN.out.mono ?_
 rintro e w4 ⟨hb4,hor⟩
 rcases hor with ⟨x,rfl,_,_,hno⟩ | ⟨q2,s2,rfl,ha2,hq2,hn2⟩
 · exact absurd (cfE_one _) hno
 have HB4:=Lib.hid hb4
 have HKP:=Lib.hid (HKP3.out.below hb4)
 have HA2:=Lib.hid ha2
 have HQ2:=Lib.hid hq2
 have HN2:=Lib.hid hn2
 have HKB:=Lib.hid (Bk.kbank HKP.out)
 have HL1:=Lib.hid (Bk.bkLedger HKP.out.bk)
 have HL2:=Lib.hid (Bk.bkLedger ha2)
 clear x0 x1 x2 x3 x4 x5 hb4 ha2 hq2 hn2 HBN
 go_upto_region 7 with (first
   | (go_at_call 10; refine HKB.out.mono ?_; rintro e w5 ⟨rfl,rfl⟩)
   | (go_at_call_of 23 (Value.pointer (some ⟨q.b,0,none⟩)); refine HL1.out.mono ?_; rintro e w5 ⟨rfl,rfl⟩)
   | (go_at_call_of 23 (Value.pointer (some ⟨q2.b,0,none⟩)); refine HL2.out.mono ?_; rintro e w5 ⟨rfl,rfl⟩))
 have HKD:=Lib.hid (show Calls Tryz.prog 12 #[.pointer (some ⟨K,0,none⟩),.string ⟨#[3,0,0,0,0,0,0,0,0,0,9]⟩] w5 (KdPost (fun r=>r=0) K q s w1.heap.size jg B (.slice none 0 0) 0 bytesE w5) from
   Bk.kdo HKP.out bytesE (by decide) (fun wx hb=>Bk.append01 10000 (by omega) (by
    have hb2:Below w3.heap.size w3 wx:=HB4.out.trans (hb.mono HB4.out.size)
    exact ⟨HJ3.out.hj.below hb2,HJ3.out.hd.below hb2,HJ3.out.ok,World.ownsRow_nil _ _ _ _⟩) HKP.out.jk.ne HKP.out.jk.jB HKP.out.jk.gB (Nat.le_trans HKP.out.jk.Bw hb.size) bytesE (by decide)))
 clear HKB HL1 HL2
 go_wp2_with fail
 refine HKD.out.mono ?_
 rintro e w6 ⟨E,V,zs,q',s',v',he,hE,hV,hz,hkp',hst,hqb,hkept,hown,h1,h2⟩
 obtain ⟨c,htk,hk,hn1,hn4,hn6⟩:=take_e
 obtain ⟨e0,eV,ez,hget⟩:=awake_q HNW.out hk hn1 hn4 hn6 (take_in64 htk).1 (h2 c htk (fun r h=>h))
 subst e0 eV ez
 rw [putrB_e] at he
 replace he:e=.returned (.string ⟨#[0,0,0,0,0,0,0,0,0,0,0]⟩):=he
 subst he
 have hA6:BkAt w6 q2 s2:=HA2.out.kept hkept (fun x hx ho=>by
  have:=HQ2.out x hx
  have:=HKP3.out.ownlt ho
  omega)
 have HKP6:=Lib.hid hkp'
 have HGET:=Lib.hid hget
 have HK56:=Lib.hid hkept
 have HO6:=Lib.hid (show ∀ x,kown K q' s'.d.L.n w1.heap.size jg v' x→¬ q2.own s2.d.L.n x from fun x hx ho=>by
  rw [hst.L] at hx
  have h3:=HQ2.out x ho
  have h4:=HA2.out.ownlt ho
  rcases hown x hx with h | h
  · have:=HKP3.out.ownlt h
    omega
  · omega)
 have HBD:=Lib.hid (show Calls Tryz.prog 26 #[.pointer (some ⟨q2.b,0,none⟩),.agg #[.int .i64 3,.int .i64 0,.int .i64 0,.int .i64 0,.int .i64 0,.int .i64 0,.int .i64 9,.int .i64 0]] w6 (DoPost q2 s2 (DoQ s2 cmE) w6) from Bk.bdo hA6 cmE (by unfold In64 cmE; simp) (by unfold In64 cmE; simp))
 clear hE hV hz hkp' hst hqb hkept hown h1 h2 htk hk hn1 hn4 hn6 hget hA6 HKD
 go_wp2_with fail
 refine HBD.out.mono ?_
 rintro e w7 ⟨E,V,iv,zs,q3,s3,he,hE,hE2,hV,hrow,hz,ha3,hst3,hbs3,hq3⟩
 obtain ⟨e0,eV,ez,hget⟩:=awake_q HN2.out (c:=cmE) rfl rfl rfl rfl may_e hq3
 subst e0 eV ez
 obtain ⟨ra,rn,rc,rfl⟩:∃ ra rn rc,iv=.slice ra rn rc:=by
  rcases hrow.2 with ⟨rfl,_⟩ | ⟨g,cap,cur,rfl,_⟩
  · exact ⟨_,_,_,rfl⟩
  · exact ⟨_,_,_,rfl⟩
 subst he
 have HKP7:=Lib.hid (HKP6.out.frame hst3.kept HO6.out)
 have HA3:=Lib.hid ha3
 have HK67:=Lib.hid hst3.kept
 have HQB:=Lib.hid hst3.b
 have HGET3:=Lib.hid hget
 have hbA:=(Below.refl w7.heap.size w7).alloc (Nat.le_refl _) (.cells #[.int .i64 0,.int .i64 0,.slice ra rn rc] 49)
 have HBA:=Lib.hid hbA
 have HXA:=Lib.hid (Blk.new w7 49 #[.int .i64 0,.int .i64 0,.slice ra rn rc])
 have hp:=W.putr_any 0 0 [] (.slice ra rn rc) (w7.alloc (.cells #[.int .i64 0,.int .i64 0,.slice ra rn rc] 49)) (W.slInt_own (own_below hrow hbA)) (by simp)
 rw [putrV_e] at hp
 have HP:=Lib.hid hp
 clear hE hE2 hV hrow hz ha3 hst3 hbs3 hq3 hget hbA hp HBD
 go_upto_region 9 with (fail)
 generalize w7.alloc (.cells #[.int .i64 0,.int .i64 0,.slice ra rn rc] 49)=w8 at *
 have y0:w8.cell? ⟨w7.heap.size,0,none⟩=some (.int .i64 0):=(HXA.out.cell 0).trans rfl
 have y1:w8.cell? ⟨w7.heap.size,1,none⟩=some (.int .i64 0):=(HXA.out.cell 1).trans rfl
 have y2:w8.cell? ⟨w7.heap.size,2,none⟩=some (.slice ra rn rc):=(HXA.out.cell 2).trans rfl
 go_wp2_with fail
 refine HP.out.mono ?_
 rintro e w9 ⟨rfl,hb9⟩
 have HB79:=Lib.hid (HBA.out.trans (hb9.mono HBA.out.size))
 have HKP9:=Lib.hid (HKP7.out.below HB79.out)
 have HA9:=Lib.hid (HA3.out.below HB79.out)
 have HKB:=Lib.hid (Bk.kbank HKP9.out)
 have HL1:=Lib.hid (Bk.bkLedger HKP9.out.bk)
 have HL2:=Lib.hid (Bk.bkLedger HA9.out)
 rw [HQB.out] at HL2
 have HG1:=Lib.hid (Bk.get HKP9.out.bk.ps.gu.led HKP9.out.bk.ps.gu.ok.lok 0 0)
 have HG2:=Lib.hid (Bk.get HA9.out.ps.gu.led HA9.out.ps.gu.ok.lok 0 0)
 rw [HGET.out] at HG1
 rw [HGET3.out] at HG2
 have HBF:=Lib.hid (show Below w.heap.size w w9 from by
  have b1:Below w1.heap.size w1 w5:=HB3.out.trans (HB4.out.mono HB3.out.size)
  have s5:=HB4.out.size
  have s3:=HB3.out.size
  have b2:Below w1.heap.size w1 w6:=b1.trans (HK56.out.below (by omega) (fun x hx=>by
   have:=HKO3.out x hx
   have:=HB12.out.size
   omega))
  have b3:Below w1.heap.size w1 w7:=b2.trans (HK67.out.below b2.size (fun x hx=>by
   have:=HQ2.out x hx
   omega))
  have b4:Below w1.heap.size w1 w9:=b3.trans (HB79.out.mono b3.size)
  exact HB1.out.trans (b4.mono HB1.out.size))
 clear y0 y1 y2 hb9 HP HXA HBA
 go_wp2_with (first
   | (go_at_call 10; refine HKB.out.mono ?_; rintro e wz ⟨rfl,rfl⟩)
   | (go_at_call_of 23 (Value.pointer (some ⟨q'.b,0,none⟩)); refine HL1.out.mono ?_; rintro e wz ⟨rfl,rfl⟩)
   | (go_at_call_of 23 (Value.pointer (some ⟨q2.b,0,none⟩)); refine HL2.out.mono ?_; rintro e wz ⟨rfl,rfl⟩)
   | (go_at_call_of 28 (Value.pointer (some ⟨q'.h.l,0,none⟩)); refine HG1.out.mono ?_; rintro e wz ⟨rfl,rfl⟩)
   | (go_at_call_of 28 (Value.pointer (some ⟨q3.h.l,0,none⟩)); refine HG2.out.mono ?_; rintro e wz ⟨rfl,rfl⟩))
 go_ret
 exact ⟨rfl,HBF.out⟩
end Go.Proofs.YtgcnnbjbdfgglaaGreat
