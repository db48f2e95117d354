/- LAW TopBoth: of every configuration of a bank and every list of byte strings the given function TopBoth returns true and leaves its arguments as they were; no condition. A part of what it needs. -/
import Derived.Test.YtgcnnbjbdfgglaaGreatZbu
import Derived.Deep.LoopGhost
import Derived.Deep.DeepCutAuto
import Derived.Outline
namespace Go.Proofs.YtgcnnbjbdfgglaaGreat
open Go.RowKit
theorem Cf.at6 {w:World} {X:Nat} {c:Cf} (h:Blk w X 29 c.cells):w.cell? ⟨X,0,none⟩=some (.slice c.ta c.n c.tc)∧w.cell? ⟨X,1,none⟩=some (.slice c.la c.N c.lc)∧w.cell? ⟨X,2,none⟩=some (.slice c.na c.nn c.nc)∧w.cell? ⟨X,3,none⟩=some (.int .i64 c.cut)∧w.cell? ⟨X,4,none⟩=some (.int .i64 c.close)∧w.cell? ⟨X,5,none⟩=some (.slice c.da c.dn c.dc):=blk6 h
set_option maxRecDepth 100000 in
set_option maxHeartbeats 400000000 in
theorem Bk.top {w:World} {c:Cf} (h:CfAt w c) (hl:CfLen c) {a:Option Addr} {n cap:Nat} {f:Nat→List UInt8} (hs:SlS w (.slice a n cap) n f) (hn:(n:Int)≤140737488355328) (hf:∀ i,i < n→((f i).length:Int)≤140737488355328) :
    Calls Tryz.prog 3 #[.agg c.cells,.slice a n cap] w fun e w'=>e=.returned (.bool true)∧Below w.heap.size w w':=by
 have HC:=Lib.hid h
 have HL:=Lib.hid hl
 have HS:=Lib.hid hs
 have HN:=Lib.hid (And.intro hn hf)
 have HB1:=Lib.hid ((Below.refl w.heap.size w).alloc (Nat.le_refl _) (.cells c.cells 29))
 have HX1:=Lib.hid (Blk.new w 29 c.cells)
 have hmm:=@run_makeMap Tryz.prog
 clear h hl hs hn hf
 go_enter Tryz.func3,Tryz.ntmps3
 go_upto_region 1 with (fail)
 generalize w.alloc (.cells #[.slice c.ta c.n c.tc,.slice c.la c.N c.lc,.slice c.na c.nn c.nc,.int .i64 c.cut,.int .i64 c.close,.slice c.da c.dn c.dc] 29)=w1 at *
 have HAW:=Lib.hid (Bk.lawake w1)
 go_wp2_with fail
 refine HAW.out.mono ?_
 rintro e w2 ⟨rfl,hb2⟩
 have HB2:=Lib.hid (HB1.out.trans (hb2.mono HB1.out.size))
 have HX2:=Lib.hid (HX1.out.below hb2)
 obtain ⟨x0,x1,x2,x3,x4,x5⟩:=Cf.at6 HX2.out
 have HOW:=Lib.hid (Bk.lown c w2)
 clear hb2 HAW
 go_wp2_with fail
 refine HOW.out.mono ?_
 rintro e w3 ⟨rfl,hb3⟩
 have HB3:=Lib.hid (HB2.out.trans (hb3.mono HB2.out.size))
 have HX3:=Lib.hid (HX2.out.below hb3)
 have HBG:=Lib.hid (Bk.lbig (HC.out.below HB3.out) HL.out)
 clear hb3 HOW x0 x1 x2 x3 x4 x5
 go_wp2_with fail
 refine HBG.out.mono ?_
 rintro e w4 ⟨⟨b,rfl⟩,hb4⟩
 have HB4:=Lib.hid (HB3.out.trans (hb4.mono HB3.out.size))
 have HX4:=Lib.hid (HX3.out.below hb4)
 clear hb4 HBG
 cases b with
 | true =>
  go_wp2
  go_ret
  exact ⟨rfl,HB4.out⟩
 | false =>
  have HLA:=Lib.hid (Bk.llarge (SlC.below HS.out HB4.out) HN.out.1 HN.out.2)
  go_wp2_with fail
  refine HLA.out.mono ?_
  rintro e w5 ⟨b,rfl,rfl,hlt⟩
  cases b with
  | true =>
   go_wp2
   go_ret
   exact ⟨rfl,HB4.out⟩
  | false =>
   obtain ⟨hn40,hf4⟩:=hlt rfl
   have HN4:=Lib.hid (And.intro hn40 hf4)
   clear hlt hn40 hf4 HLA
   have HND:=Lib.hid (J.new_disk 1048576 (by omega) (by omega) w5)
   go_wp2_with fail
   refine HND.out.mono ?_
   rintro e w6 ⟨rfl,hd,hb6,_⟩
   have HB56:=Lib.hid hb6
   have HX6:=Lib.hid (HX4.out.below hb6)
   have HKO:=Lib.hid (Bk.kopen (HC.out.below (HB4.out.trans (hb6.mono HB4.out.size))) hd (dk_ok 1048576 (by omega) (by omega)) rfl rfl rfl)
   obtain ⟨x0,x1,x2,x3,x4,x5⟩:=Cf.at6 HX6.out
   clear hd hb6 HND
   go_wp2_with fail
   refine HKO.out.mono ?_
   rintro e w7 ⟨hk7,hor⟩
   have HB57:=Lib.hid (below_of_kept HB56.out hk7 (Nat.le_refl _))
   have HB7:=Lib.hid (HB4.out.trans (HB57.out.mono HB4.out.size))
   have HX7:=Lib.hid (HX4.out.below HB57.out)
   have HS67:=Lib.hid hk7.size
   clear x0 x1 x2 x3 x4 x5 hk7 HKO HX6
   rcases hor with ⟨x,rfl,_,_,_⟩ | ⟨K,q,s,jg,B,rfl,hkp,hj,hko,hnew⟩
   · go_wp2
     go_ret
     exact ⟨rfl,HB7.out⟩
   have HKP:=Lib.hid hkp
   have HKW:=Lib.hid hko
   have HNW:=Lib.hid hnew
   have HKB:=Lib.hid (Bk.kbank hkp)
   clear hkp hj hko hnew
   go_upto_region 11 with (first
     | (go_at_call 10; refine HKB.out.mono ?_; rintro e w8 ⟨rfl,rfl⟩))
   have HLW:=Lib.hid (LwAt.start HKP.out (fun x hx=>by
    have h1:=HKW.out x hx
    have h2:=HX4.out.lt
    have h3:=HB56.out.size
    omega) HX7.out HB7.out HNW.out)
   clear HKP HKW HNW HKB HX7 HS67 HB56 HB57 HX4 HB4 HB7 HX3 HX2 HX1 HB1 HB2 HB3
   generalize w5.heap.size=D at *
   generalize w8.heap.size + 1=F at *
   generalize w8.heap.size=S at *
   generalize ((w8.alloc (.map #[] 0)).alloc (.map #[] 0))=w10 at *
   go_wp2
   go_loopg [69] n (fun gh i wr=>∃ (k:Nat) (q:Qh) (s:Bnk) (v:Value) (nS nF:Nat) (FS FF:Int→Option Value),k≤n∧n - k≤gh∧i=.int .i64 k∧Hid (nS≤200 * k∧nF≤k)∧Hid (LwAt c w wr ⟨K,q,s,D,jg,B,v,k,S,F,w.heap.size,nS,nF,FS,FF⟩))
   case atStart=>exact ⟨0,_,_,_,0,0,_,_,by omega,by omega,rfl,Lib.hid (by omega),HLW⟩
   case round =>
    clear HLW
    obtain ⟨k,q,s,v,nS,nF,FS,FF,hk,hg,rfl,HNN,HLW⟩:=hrel
    by_cases hlt:k < n
    · have q1:(k:Int) < (n:Int):=by omega
      obtain ⟨a',c',he,hc⟩:=HS.out
      obtain ⟨b,o,hab,hc⟩:=hc (by omega)
      have ha:a=some ⟨b,o,none⟩:=by injection he with e1; rw [e1,hab]
      subst ha
      have c1:wr.cell? ⟨b,o + k,none⟩=some (.string ⟨(f k).toArray⟩):=Bk.kept HLW.out.bel (hc k hlt)
      have HFL:=Lib.hid (HN4.out.2 k hlt)
      have HK40:=Lib.hid (Nat.lt_of_lt_of_le hlt HN4.out.1)
      clear he hab hc
      generalize f k=bs at *
      have HKP:Hid (KpAt wr K q s D jg B v k):=Lib.hid HLW.out.kp
      have HKD:=Lib.hid (Bk.kdo (P:=fun _=>True) HKP.out bs (by have:=HFL.out; omega) (fun wx hb=>Bk.appendAny (HKP.out.below hb).jk (by have:=HK40.out; omega) bs (by have:=HFL.out; omega)))
      go_wp2_with fail
      refine HKD.out.mono ?_
      rintro e w11 ⟨E,V,zs,q',s',v',rfl,hE,hV,hz,hkp',hst,hqb,hkept,hown,h1,h2⟩
      have HLW1:Hid (LwAt c w w11 ⟨K,q',s',D,jg,B,v',k + 1,S,F,w.heap.size,nS,nF,FS,FF⟩):=Lib.hid (HLW.out.step hkp' hst hkept hown)
      have HDQ:=Lib.hid h1
      have HTR:=Lib.hid (Bk.taker hE hV hz w11)
      clear hE hV hz hkp' hst hqb hkept hown h1 h2 HKD HKP c1
      go_wp2_with fail
      refine HTR.out.mono ?_
      rintro e w12 ⟨ra,rn,rc,rfl,hb12⟩
      have HR13:=Lib.hid (Blk.new w12 49 #[.int .i64 E,.int .i64 V,.slice ra rn rc])
      have HB13:=Lib.hid (hb12.alloc hb12.size (.cells #[.int .i64 E,.int .i64 V,.slice ra rn rc] 49))
      clear hb12 HTR
      go_upto_region 15 with (fail)
      generalize w12.alloc (.cells #[.int .i64 E,.int .i64 V,.slice ra rn rc] 49)=w13 at *
      generalize w12.heap.size=R at *
      have HLW3:=Lib.hid (HLW1.out.below HB13.out)
      have HTK:=Lib.hid (Bk.takes bs (by have:=HFL.out; omega) w13)
      clear HLW1 HB13
      go_wp2_with fail
      refine HTK.out.mono ?_
      rintro e w14 ⟨cc,z,rfl,hz,hb14⟩
      have HZ:=Lib.hid hz
      have HR14:=Lib.hid (HR13.out.below hb14)
      have HC15:=Lib.hid (Blk.new w14 54 cc.cells)
      have HB15:=Lib.hid (hb14.alloc hb14.size (.cells cc.cells 54))
      have HR15:=Lib.hid (HR14.out.alloc (.cells cc.cells 54))
      unfold W.Cm.cells at HC15 HB15 HR15
      unfold W.Cm.cells
      clear hz hb14 HTK HR13 HR14
      go_upto_region 18 with (fail)
      generalize w14.alloc (.cells #[.int .i64 cc.k,.int .i64 (cc.n 1),.int .i64 (cc.n 2),.int .i64 (cc.n 3),.int .i64 (cc.n 4),.int .i64 (cc.n 5),.int .i64 (cc.n 6),.int .i64 (cc.n 7)] 54)=w15 at *
      generalize w14.heap.size=X at *
      have HLW5:=Lib.hid (HLW3.out.below HB15.out)
      clear HLW3 HB15
      go_cut [16,98] from 70 to 239 (fun s16 s wx=>∃ (zz:Int) (tb:Bool),s16=.int .i64 zz∧s=.bool tb∧Hid (tb=true→z=0∧cc.k=7∧E=0)∧wx=w15)
      case first =>
       as_aux_lemma =>
        have y0:w15.cell? ⟨X,0,none⟩=some (.int .i64 cc.k):=(HC15.out.cell 0).trans rfl
        have r0:w15.cell? ⟨R,0,none⟩=some (.int .i64 E):=(HR15.out.cell 0).trans rfl
        clear HC15 HR15 HLW5 HDQ HZ HNN
        generalize cc.k=kk at *
        rcases eqs z 0 with ⟨a1,a2,a3⟩ | ⟨a1,a2,a3⟩
        · have HA:=Lib.hid a1
          clear a1
          rcases eqs kk 7 with ⟨b1,b2,b3⟩ | ⟨b1,b2,b3⟩
          · have HB:=Lib.hid b1
            clear b1
            rcases eqs E 0 with ⟨d1,d2,d3⟩ | ⟨d1,d2,d3⟩
            · have HD:=Lib.hid d1
              clear d1
              go_wp2_with fail
              go_meet
              exact ⟨_,true,rfl,rfl,Lib.hid (fun _=>⟨HA.out,HB.out,HD.out⟩),rfl⟩
            · clear d1
              go_wp2_with fail
              go_meet
              exact ⟨_,false,rfl,rfl,Lib.hid (fun h=>by cases h),rfl⟩
          · clear b1
            go_wp2_with fail
            go_meet
            exact ⟨_,false,rfl,rfl,Lib.hid (fun h=>by cases h),rfl⟩
        · clear a1
          go_wp2_with fail
          go_meet
          exact ⟨_,false,rfl,rfl,Lib.hid (fun h=>by cases h),rfl⟩
      case rest =>
       obtain ⟨zz,tb,rfl,rfl,HTB,rfl⟩:=hcut
       go_upto_if 98 with (fail)
       go_cut [] from 70 to 239 (fun wx=>∃ (nF':Nat) (FF':Int→Option Value),Hid (nF'≤k + 1)∧Hid (LwAt c w wx ⟨K,q',s',D,jg,B,v',k + 1,S,F,w.heap.size,nS,nF',FS,FF'⟩))
       case first =>
        as_aux_lemma =>
         cases tb with
         | false =>
          go_wp2_with fail
          go_meet
          exact ⟨nF,FF,Lib.hid (by have:=HNN.out; omega),HLW5⟩
         | true =>
          obtain ⟨e1,e2,e3⟩:=HTB.out rfl
          obtain ⟨c2,ht2,hd2⟩:=HDQ.out e3
          have ht:=HZ.out e1
          rw [ht] at ht2
          injection ht2 with ht2
          subst ht2
          have hm:∃ M:Nat,cc.n 1=M∧s'.fl M=true:=by
           obtain ⟨M,m1,_,m2⟩:=hd2.1 e2 e3
           exact ⟨M,m1,m2⟩
          have hi:=(take_in64 ht).2 1
          have y1:wc.cell? ⟨X,1,none⟩=some (.int .i64 (cc.n 1)):=(HC15.out.cell 1).trans rfl
          generalize cc.n 1=mm at *
          obtain ⟨w16,hupd,hmap,hgr⟩:=HLW5.out.fai.put (t:=47) Tryz.underlying47 (by have:=HNN.out; have:=HK40.out; unfold maxLen; show nF < _; omega) mm hi (.bool true)
          have HF:=Lib.hid (HLW5.out.fail hmap hgr hm)
          clear e1 e2 e3 hd2 ht hm hi hmap hgr HLW5 HC15 HR15 HDQ HZ HTB
          go_wp2_with fail
          go_meet
          exact ⟨_,_,Lib.hid (by have:=HNN.out; omega),HF⟩
       case rest =>
        clear HLW5 HTB HC15 HR15 HDQ HZ
        obtain ⟨nF',FF',HNF,HLW6⟩:=hcut
        have HKP6:Hid (KpAt wc K q' s' D jg B v' (k + 1)):=Lib.hid HLW6.out.kp
        have HKB:=Lib.hid (Bk.kbank HKP6.out)
        have HBB:=Lib.hid (Bk.bkBook HKP6.out.bk)
        clear HLW HFL
        go_upto_region 23 with (first
          | (go_at_call 10; refine HKB.out.mono ?_; rintro e wy ⟨rfl,hw⟩; replace hw:=hw.symm; subst hw)
          | (go_at_call 14; refine HBB.out.mono ?_; rintro e wy ⟨rfl,hw⟩; replace hw:=hw.symm; subst hw))
        go_wp2_with (at_range; refine wpList_range_imap _ rfl _ 47 rfl 4 Tryz.underlying47 S nS (.bool false) FS rfl HLW6.out.set ?_; intro w20 cnt hir hg20 hs20)
        go_frame
        have HIR:=Lib.hid hir
        have HB20:=Lib.hid (show Below wc.heap.size wc w20 from ⟨hg20.os,hg20.tape,hg20.output,hg20.size,fun i hi=>hg20.block i hi (by simp)⟩)
        clear hir hg20 hs20 HKB HBB
        go_loopg [18] cnt (fun gh _ wr2=>∃ cnt':Nat,cnt'≤gh∧Hid (IRan wr2 S wc.heap.size nS (.bool false) FS cnt')∧Hid (Below wc.heap.size wc wr2))
        case atStart=>exact ⟨cnt,Nat.le_refl _,HIR,HB20⟩
        case round =>
         obtain ⟨cn2,hcn,HI2,HBB2⟩:=hrel
         go_wp2_with (at_next; refine wpList_next_imap _ rfl _ rfl S wc.heap.size nS (.bool false) FS cn2 rfl HI2.out ?_ ?_)
         · clear HIR HB20 HI2 hcn
           have HLW7:=Lib.hid (HLW6.out.below HBB2.out)
           have HAL:=Lib.hid (Bk.all HLW7.out.kp.bk.ps.bo 3)
           clear HLW6 HKP6 HBB2
           refine HAL.out.mono ?_
           rintro e w22 ⟨vl,zl,rfl,hids,hzl,hz3,hb22,hown⟩
           obtain ⟨za,zc,rfl,hidc⟩:=hids
           have HSM:=Lib.hid HLW7.out.set.lt
           have HOK:Hid s'.B.Ok:=Lib.hid HLW7.out.kp.bk.ps.bo.ok
           have HLW8:=Lib.hid (HLW7.out.below hb22)
           have HOW:=Lib.hid hown
           have HZ3:Hid (zl.length≤s'.B.n∧∀ z ∈ zl,∃ i,i < s'.B.n∧(s'.B.e i).id=z∧(s'.B.e i).st=3):=Lib.hid ⟨hzl,hz3⟩
           clear HAL hzl hz3 hb22 hown hidc HLW7
           generalize wr.heap.size=M at *
           go_wp2
           go_loopg [120] zl.length (fun gh i wr3=>∃ (j nS':Nat) (FS':Int→Option Value),j≤zl.length∧zl.length - j≤gh∧i=.int .i64 j∧Hid (nS'≤nS + j)∧Hid (LwAt c w wr3 ⟨K,q',s',D,jg,B,v',k + 1,S,F,w.heap.size,nS',nF',FS',FF'⟩)∧Hid (wr3.ownsRow M 3 1 (.slice za zl.length zc) zl.length (ints zl)))
           case atStart=>exact ⟨0,nS,FS,Nat.zero_le _,Nat.le_refl _,rfl,Lib.hid (Nat.le_refl _),HLW8,HOW⟩
           case round =>
            clear HLW8 HOW
            obtain ⟨j,nS',FS',hj,hgj,rfl,HNS,HLW8,HOW⟩:=hrel
            by_cases hjl:j < zl.length
            · have q3:(j:Int) < (zl.length:Int):=by omega
              obtain ⟨za',zc',hze,hzc⟩:=ids_of_own HOW.out
              obtain ⟨zb,zo,hzab,hzc⟩:=hzc (by omega)
              have hza:za=some ⟨zb,zo,none⟩:=by injection hze with e1; rw [e1,hzab]
              subst hza
              have cz:wr.cell? ⟨zb,zo + j,none⟩=some (.int .i64 (zl.getD j 0)):=hzc j hjl
              have hmem:zl.getD j 0 ∈ zl:=by
               rw [List.getD_eq_getElem?_getD,List.getElem?_eq_getElem hjl]
               exact List.getElem_mem hjl
              obtain ⟨ix,hix,hid,hst3⟩:=HZ3.out.2 _ hmem
              have hin:In64 (zl.getD j 0):=by
               rw [← hid]
               have h1:=(HOK.out.ent ix hix).i1
               have h2:=(HOK.out.ent ix hix).i2
               unfold In64
               omega
              have HXO:=Lib.hid (HOK.out.ent ix hix)
              have hget:s'.B.get (zl.getD j 0)=s'.B.e ix:=by rw [← hid]; exact get_of HOK.out hix
              have hs3:s'.B.state (zl.getD j 0)=3:=by rw [← hid,state_of HOK.out hix]; exact hst3
              clear hze hzab hzc hmem hix hid hst3
              generalize s'.B.e ix=x at *
              generalize zl.getD j 0=zid at *
              obtain ⟨w23,hupd,hmap,hgr⟩:=HLW8.out.set.put (t:=47) Tryz.underlying47 (by have:=HNS.out; have:=HNN.out; have:=HK40.out; have:=HZ3.out.1; have:=HOK.out.n200; unfold maxLen; show nS' < _; omega) zid hin (.bool true)
              have HLW9:Hid (LwAt c w w23 ⟨K,q',s',D,jg,B,v',k + 1,S,F,w.heap.size,nS' + 1,nF',fun i=>if i=zid then some (.bool true) else FS' i,FF'⟩):=Lib.hid (HLW8.out.mark hmap hgr hs3)
              have HOW9:=Lib.hid (HOW.out.kept hgr (.inr (fun e=>by have:S < M:=HSM.out; have:M≤S:=own_ge HOW.out e; omega)))
              have HB24:=Lib.hid ((Below.refl w23.heap.size w23).alloc (Nat.le_refl _) (.map #[] 0))
              have HMM:=Lib.hid (IMap.made w23 (.slice none 0 0))
              have hbk:BkAt (w23.alloc (.map #[] 0)) q' s':=(HLW9.out.below HB24.out).kp.bk
              have hdl:=Bk.dealOf hbk.ps.bo zid hin
              rw [hget] at hdl
              have HLD:=Lib.hid hdl
              clear HLW8 HOW hmap hgr hin hget hs3 hbk hdl
              go_upto_region 33 with (fail)
              generalize w23.alloc (.map #[] 0)=w24 at *
              go_wp2_with fail
              refine HLD.out.mono ?_
              rintro e w25 ⟨rfl,hb25⟩
              have HB25:=Lib.hid (HB24.out.trans (hb25.mono HB24.out.size))
              have HM25:=Lib.hid (HMM.out.below hb25)
              have HB26:=Lib.hid (HB25.out.alloc HB25.out.size (.cells x.deal 63))
              have HM26:=Lib.hid (HM25.out.below ((Below.refl w25.heap.size w25).alloc (Nat.le_refl _) (.cells x.deal 63)))
              have HX26:=Lib.hid (Blk.new w25 63 x.deal)
              have HLG:=Lib.hid (fun wx=>Bk.legs x HXO.out.se HXO.out.bu wx)
              unfold Ent.deal at HB26 HM26 HX26 HLG
              unfold Ent.deal
              clear hb25 HLD HMM HB24 HB25 HM25
              go_upto_region 34 with (fail)
              generalize w25.alloc (.cells #[.int .i64 x.id,.int .i64 x.a,.int .i64 x.b,.int .i64 x.sc,.int .i64 x.bc,.int .i64 x.sell,.int .i64 x.buy] 63)=w26 at *
              generalize w25.heap.size=Y at *
              have d0:w26.cell? ⟨Y,0,none⟩=some (.int .i64 x.id):=(HX26.out.cell 0).trans rfl
              have d1:w26.cell? ⟨Y,1,none⟩=some (.int .i64 x.a):=(HX26.out.cell 1).trans rfl
              have d2:w26.cell? ⟨Y,2,none⟩=some (.int .i64 x.b):=(HX26.out.cell 2).trans rfl
              have d3:w26.cell? ⟨Y,3,none⟩=some (.int .i64 x.sc):=(HX26.out.cell 3).trans rfl
              have d4:w26.cell? ⟨Y,4,none⟩=some (.int .i64 x.bc):=(HX26.out.cell 4).trans rfl
              have d5:w26.cell? ⟨Y,5,none⟩=some (.int .i64 x.sell):=(HX26.out.cell 5).trans rfl
              have d6:w26.cell? ⟨Y,6,none⟩=some (.int .i64 x.buy):=(HX26.out.cell 6).trans rfl
              go_wp2_with fail
              refine (HLG.out _).mono ?_
              rintro e w27 ⟨g,rfl,hgb,hgl,hb27⟩
              have HG:=Lib.hid hgb
              have HB27:=Lib.hid (HB26.out.trans (hb27.mono HB26.out.size))
              have HGM:=Lib.hid (GMap.start (base:=w27.heap.size) (HM26.out.below hb27) (HM26.out.below hb27).lt)
              have HML:=Lib.hid (show w23.heap.size < w27.heap.size from (HM26.out.below hb27).lt)
              have HGN:=Lib.hid (show g < w27.heap.size from hgb.lt)
              clear d0 d1 d2 d3 d4 d5 d6 hgb hgl hb27 HX26 HB26 HM26 HLG
              have HBS:=Lib.hid (Nat.le_refl w27.heap.size)
              generalize hbsz:w27.heap.size=BS at *
              rw [← hbsz] at HBS
              replace HBS:Hid (BS≤w27.heap.size):=Lib.hid (by rw [hbsz]; exact Nat.le_refl _)
              clear hbsz
              have HKL:=Lib.hid (fun (wz:World) (hb:Below w23.heap.size w23 wz)=>HLW9.out.below hb)
              have HKO:=Lib.hid (fun (wz:World) (hb:Below w23.heap.size w23 wz)=>own_below HOW9.out hb)
              clear HLW9 HOW9
              generalize w23.heap.size=mb at *
              go_wp2
              go_loopg [136] 4 (fun gh i wr4=>∃ (t:Nat) (G:Int→Option Value),t≤4∧4 - t≤gh∧i=.int .i64 t∧Hid (GMap wr4 mb t BS G (legL x t))∧Hid (Below mb w23 wr4)∧Hid (Blk wr4 g 69 (legCells x))∧Hid (BS≤wr4.heap.size))
              case atStart=>exact ⟨0,_,by omega,by omega,rfl,HGM,HB27,HG,HBS⟩
              case round =>
               clear HGM HB27 HG HBS
               obtain ⟨t,G,ht,hgt,rfl,HGM,HB4,HG,HBS⟩:=hrel
               by_cases ht4:t < 4
               · have q4:(t:Int) < 4:=by omega
                 obtain ⟨p,hp⟩:∃ p,(legsOf x)[t]?=some p:=⟨_,List.getElem?_eq_getElem (by show t < 4; omega)⟩
                 obtain ⟨k0,k1,k2⟩:=leg_cells HG.out hp
                 obtain ⟨hpc,hpa⟩:=leg_in64 HXO.out HOK.out.cur hp
                 have HP:=Lib.hid hp
                 have HPA:=Lib.hid hpa
                 have HPC:=Lib.hid hpc
                 have HP30:=Lib.hid (Blk.new wr 69 #[.int .i64 p.m,.int .i64 p.c,.int .i64 p.a])
                 have HB30:=Lib.hid ((Below.refl wr.heap.size wr).alloc (Nat.le_refl _) (.cells #[.int .i64 p.m,.int .i64 p.c,.int .i64 p.a] 69))
                 clear hp hpc hpa
                 have HTY:=Lib.hid (show ∀ q,((G p.c).getD (.slice none 0 0)).ownBlock=some q→q < wr.heap.size from fun q hq=>((HGM.out.get p.c).lt q hq).2)
                 have HGM30:=Lib.hid (HGM.out.below HB30.out)
                 have HB4b:=Lib.hid (HB4.out.alloc (Nat.le_of_lt (Nat.lt_of_lt_of_le HML.out HBS.out)) (.cells #[.int .i64 p.m,.int .i64 p.c,.int .i64 p.a] 69))
                 have HG30:=Lib.hid (HG.out.below HB30.out)
                 have HBS30:=Lib.hid (Nat.le_trans HBS.out HB30.out.size)
                 have HPB:=Lib.hid (show mb < wr.heap.size from Nat.lt_of_lt_of_le HML.out HBS.out)
                 have HPL:=Lib.hid (show wr.heap.size < (wr.alloc (.cells #[.int .i64 p.m,.int .i64 p.c,.int .i64 p.a] 69)).heap.size by simp)
                 go_upto_region 37 with (fail)
                 clear k0 k1 k2 HGM HB30 HB4 HG HBS
                 generalize wr.alloc (.cells #[.int .i64 p.m,.int .i64 p.c,.int .i64 p.a] 69)=w30 at *
                 generalize wr.heap.size=P at *
                 as_aux_lemma =>
                  obtain ⟨i0,hi0,hz0,hz1,hz2⟩:=info_parts Bk.info64'
                  have HIS:=Lib.hid (And.intro hi0 (And.intro hz0 (And.intro hz1 hz2)))
                  have hbA:Below w30.heap.size w30 (w30.alloc (.cells #[.int .i64 p.a] 2)).drew:=((Below.refl w30.heap.size w30).alloc (Nat.le_refl _) (.cells #[.int .i64 p.a] 2)).drew
                  have HBA:=Lib.hid hbA
                  have p1:w30.cell? ⟨P,1,none⟩=some (.int .i64 p.c):=(HP30.out.cell 1).trans rfl
                  have p2:w30.cell? ⟨P,2,none⟩=some (.int .i64 p.a):=(HP30.out.cell 2).trans rfl
                  have hlk0:=(HGM30.out.below (Below.refl w30.heap.size w30).drew).map.look1 (t:=61) Tryz.underlying61 (by kernel_rfl) p.c HPC.out
                  have hlk1:=(HGM30.out.below hbA).map.look1 (t:=61) Tryz.underlying61 (by kernel_rfl) p.c HPC.out
                  have HGA:=Lib.hid (HGM30.out.below hbA)
                  have HNW:=Lib.hid (show Blk (w30.alloc (.cells #[.int .i64 p.a] 2)).drew w30.heap.size 2 #[.int .i64 p.a] from Blk.new w30 _ _)
                  have HOa:=Lib.hid (HGA.out.get p.c)
                  generalize hv0:(G p.c).getD (.slice none 0 0)=v0 at *
                  have HV0:=Lib.hid hv0
                  clear hi0 hz0 hz1 hz2 hbA hv0
                  have p1a:(w30.alloc (.cells #[.int .i64 p.a] 2)).cell? ⟨P,1,none⟩=some (.int .i64 p.c):=Bk.kept ((Below.refl w30.heap.size w30).alloc (Nat.le_refl _) _) p1
                  go_region_law (first
                    | (refine step_append_lies _ rfl (.tmp 146) (.tmp 149) 70 rfl BS 2 i0 (.int .i64 0) 1 8 Tryz.underlying70 HIS.out.1 HIS.out.2.1 HIS.out.2.2.1 HIS.out.2.2.2 rfl (by decide) v0 (legL x t p.c).length (ints (legL x t p.c)) ?_ HOa.out ⟨w30.heap.size,0,none⟩ 1 1 [.int .i64 p.a] ?_ rfl ?_ ?_ (by decide) ?_ ?_ ?_ (w30.heap.size + 1) ?_ ?_
                       · simp [Act.eval]
                       · simp [Act.eval]
                       · intro jj u hu; rw [WideShapes.add_plain]; exact HNW.out.range jj u hu
                       · intro u hu; simp at hu; subst hu; rfl
                       · have:=legL_len x t p.c; unfold maxLen; omega
                       · have:=legL_len x t p.c; omega
                       · exact Nat.le_trans HBS30.out HBA.out.size
                       · simp
                       intro g' cap' w31 hown' hgrow hat hlt'
                       have y1:w31.cell? ⟨P,1,none⟩=some (.int .i64 p.c):=(hgrow.cell_far ⟨P,1,none⟩ (by have:=HPL.out; simp; omega) (fun e=>by have:=HTY.out P e.symm; omega)).trans p1a
                       obtain ⟨w32,hupd2,hgm2,hg32⟩:=HGA.out.put (by unfold maxLen; omega) p.c HPC.out (v':=.slice (some ⟨g',0,none⟩) ((legL x t p.c).length + 1) cap') (x:=p.a) (by rw [HV0.out]; exact hgrow) hown' (by rw [HV0.out]; exact hat.imp (fun e=>e.symm) (fun e=>⟨g',rfl,by rw [e]; simp [World.drew]⟩)) (t:=61) Tryz.underlying61
                       replace hown':=Lib.hid hown'
                       replace hgrow:=Lib.hid hgrow
                       replace hat:=Lib.hid hat
                       replace hgm2:=Lib.hid hgm2
                       replace hg32:=Lib.hid hg32
                       clear hlt'))
                  all_goals
                    clear y1 p1 p2 p1a hlk0 hlk1
                    go_wp2
                    go_roundg (4 - (t + 1))
                    case measure=>omega
                    case rel =>
                     have hl:(fun i=>if i=p.c then legL x t p.c ++ [p.a] else legL x t i)=legL x (t + 1):=funext fun i=>(legL_step x HP.out i).symm
                     have hgm3:=hgm2.out
                     rw [hl] at hgm3
                     have hrow:∀ q,v0.ownBlock=some q→BS≤q:=fun q hq=>own_ge HOa.out hq
                     have hs31:=hgrow.out.size
                     have hgmb:g ≠ mb:=HGM30.out.map.ne ⟨_,HG30.out⟩
                     have hs32:=hg32.out.size
                     have hsA:=HBA.out.size
                     have hm30:mb≤w30.heap.size:=by have:=HML.out; have:=HBS30.out; omega
                     have hmbs:mb≤w31.heap.size:=by have:=HML.out; have:=HBS30.out; omega
                     have hg1:Blk w31 g 69 (legCells x):=(HG30.out.below HBA.out).grown hgrow.out (fun e=>by have:=hrow g e.symm; have:=HGN.out; omega)
                     have hg2:Blk w32 g 69 (legCells x):=hg1.grown hg32.out (fun e=>hgmb (by injection e))
                     have hbl:Below mb w23 w32:=(((HB4b.out.trans (HBA.out.mono hm30)).grown hgrow.out (by omega) (fun q hq=>by have:=hrow q hq; have:=HML.out; omega))).grown hg32.out hmbs (fun q hq=>by cases hq; exact Nat.le_refl _)
                     exact ⟨t + 1,_,by omega,by omega,by go_num,Lib.hid hgm3,Lib.hid hbl,Lib.hid hg2,Lib.hid (by have:=HBS30.out; omega)⟩
               · obtain rfl:t=4:=by omega
                 clear ht hgt ht4
                 go_wp2_with (at_range; refine wpList_range_imap _ rfl _ 61 rfl 70 Tryz.underlying61 mb 4 (.slice none 0 0) G rfl HGM.out.map ?_; intro w40 cnt5 hir hg40 hs40)
                 go_frame
                 have HIR:=Lib.hid hir
                 have HB40:=Lib.hid (show Below wr.heap.size wr w40 from ⟨hg40.os,hg40.tape,hg40.output,hg40.size,fun i hi=>hg40.block i hi (by simp)⟩)
                 clear hir hg40 hs40
                 go_loopg [27] cnt5 (fun gh _ wr5=>∃ cn:Nat,cn≤gh∧Hid (IRan wr5 mb wr.heap.size 4 (.slice none 0 0) G cn)∧Hid (Below wr.heap.size wr wr5))
                 case atStart=>exact ⟨cnt5,Nat.le_refl _,HIR,HB40⟩
                 case round =>
                  clear HIR HB40
                  obtain ⟨cn,hcn5,HI5,HB5⟩:=hrel
                  go_wp2_with (at_next; refine wpList_next_imap _ rfl _ rfl mb _ 4 (.slice none 0 0) G cn rfl HI5.out ?_ ?_)
                  · have HBX:=Lib.hid (HB4.out.trans (HB5.out.mono (by have:=HBS.out; have:=HML.out; omega)))
                    have HLWa:=Lib.hid (HKL.out _ HBX.out)
                    have HOWa:=Lib.hid (HKO.out _ HBX.out)
                    clear HI5 HB5 hcn5
                    go_wp2
                    go_roundg (zl.length - (j + 1))
                    case measure=>omega
                    case rel =>
                     have hz200:zl.length≤200:=Nat.le_trans HZ3.out.1 HOK.out.n200
                     exact ⟨j + 1,_,_,by omega,by omega,by rw [Bk.wrap_in (show In64 ((j:Int) + 1) by unfold In64; omega)]; rfl,Lib.hid (by have:=HNS.out; omega),HLWa,HOWa⟩
                  · intro x5 v5 w41 cn' hx5 hF5 hir5 hlt5 hg5 hs5 hen5
                    as_aux_lemma =>
                     have HB41:=Lib.hid (HB5.out.grown hg5 HB5.out.size (fun q hq=>by cases hq; exact Nat.le_refl _))
                     have hsl:=sl_own (own_below (HGM.out.own x5 v5 hF5) HB41.out)
                     have hsum:=Bk.sum v5 _ _ w41 hsl (by have:=legL_len x 4 x5; omega) (fun i hi=>legL_in HXO.out.se HXO.out.bu x5 i hi)
                     rw [legL_sum] at hsum
                     have HSU:=Lib.hid (show Calls Tryz.prog 19 #[v5] w41 fun e w'=>e=.returned (.tuple #[.int .i64 0,.int .i64 0])∧w'=w41 from hsum)
                     have HI6:=Lib.hid hir5
                     clear hF5 hir5 hg5 hs5 hsl hsum
                     go_wp2_with fail
                     refine HSU.out.mono ?_
                     rintro e wy ⟨rfl,hw⟩
                     replace hw:=hw.symm
                     subst hw
                     go_wp2
                     go_roundg cn'
                     case measure=>omega
                     case rel=>exact ⟨cn',Nat.le_refl _,HI6,HB41⟩
            · obtain rfl:j=zl.length:=by omega
              as_aux_lemma =>
               clear hj hgj hjl
               have HZL:=Lib.hid (show zl.length≤200 from Nat.le_trans HZ3.out.1 HOK.out.n200)
               clear HZ3 HOW HSM
               have HAR:=Lib.hid (Blk.new wr 3 #[.int .i64 1,.int .i64 2])
               have HLWb:=Lib.hid (HLW8.out.below ((Below.refl wr.heap.size wr).alloc (Nat.le_refl _) (.cells #[.int .i64 1,.int .i64 2] 3)))
               clear HLW8
               go_wp2
               generalize wr.alloc (.cells #[.int .i64 1,.int .i64 2] 3)=w50 at *
               generalize wr.heap.size=AB at *
               have HARL:=Lib.hid HAR.out.lt
               go_loopg [172] 2 (fun gh i wr6=>∃ u:Nat,u≤2∧2 - u≤gh∧i=.int .i64 u∧Hid (Below w50.heap.size w50 wr6))
               case atStart=>exact ⟨0,by omega,by omega,rfl,Lib.hid (Below.refl _ _)⟩
               case round =>
                obtain ⟨u,hu,hgu,rfl,HB6⟩:=hrel
                by_cases hu2:u < 2
                · have q6:(u:Int) < 2:=by omega
                  have cu:wr.cell? ⟨AB,u,none⟩=some (.int .i64 ((u:Int) + 1)):=by
                   have:u=0∨u=1:=by omega
                   rcases this with rfl | rfl
                   · exact Bk.kept HB6.out ((HAR.out.cell 0).trans rfl)
                   · exact Bk.kept HB6.out ((HAR.out.cell 1).trans rfl)
                  have HLWc:=Lib.hid (HLWb.out.below HB6.out)
                  have HAL:=Lib.hid (show Calls Tryz.prog 16 #[.pointer (some ⟨q'.k.b,0,none⟩),.int .i64 ((u:Int) + 1)] wr (AllPost s'.B ((u:Int) + 1) wr) from Bk.all HLWc.out.kp.bk.ps.bo ((u:Int) + 1))
                  go_wp2_with fail
                  refine HAL.out.mono ?_
                  rintro e w52 ⟨vl,yl,rfl,hids,hyl,hy3,hb52,hown⟩
                  obtain ⟨ya,yc,rfl,hidc⟩:=hids
                  have HYC:=Lib.hid hidc
                  have HB52:=Lib.hid (HB6.out.trans (hb52.mono HB6.out.size))
                  have HLWd:=Lib.hid (HLWc.out.below hb52)
                  have HY3:Hid (yl.length≤s'.B.n∧∀ z ∈ yl,∃ i,i < s'.B.n∧(s'.B.e i).id=z∧(s'.B.e i).st=(u:Int) + 1):=Lib.hid ⟨hyl,hy3⟩
                  clear HAL hyl hy3 hb52 hown hidc HLWc cu HB6
                  go_wp2
                  go_loopg [180] yl.length (fun gh i wr7=>∃ y:Nat,y≤yl.length∧yl.length - y≤gh∧i=.int .i64 y∧Hid (Below w52.heap.size w52 wr7))
                  case atStart=>exact ⟨0,Nat.zero_le _,Nat.le_refl _,rfl,Lib.hid (Below.refl _ _)⟩
                  case round =>
                   obtain ⟨y,hy,hgy,rfl,HB7⟩:=hrel
                   by_cases hyl:y < yl.length
                   · have q7:(y:Int) < (yl.length:Int):=by omega
                     as_aux_lemma =>
                      obtain ⟨yb,yo,hyab,hyc⟩:=HYC.out (by omega)
                      subst hyab
                      have cy:wr.cell? ⟨yb,yo + y,none⟩=some (.int .i64 (yl.getD y 0)):=Bk.kept HB7.out (hyc y hyl)
                      have hmem:yl.getD y 0 ∈ yl:=by
                       rw [List.getD_eq_getElem?_getD,List.getElem?_eq_getElem hyl]
                       exact List.getElem_mem hyl
                      obtain ⟨ix,hix,hid,hst⟩:=HY3.out.2 _ hmem
                      have hok:=HOK.out.ent ix hix
                      have hin:In64 (yl.getD y 0):=by
                       rw [← hid]
                       have h1:=hok.i1
                       have h2:=hok.i2
                       unfold In64
                       omega
                      have hget:s'.B.get (yl.getD y 0)=s'.B.e ix:=by rw [← hid]; exact get_of HOK.out hix
                      have HLWe:=Lib.hid (HLWd.out.below HB7.out)
                      have hwt:(FF' (s'.B.e ix).a).getD (.bool false)=.bool false∧(FF' (s'.B.e ix).b).getD (.bool false)=.bool false:=HLWe.out.waits hix (by rw [hst]; omega)
                      have hia:In64 (s'.B.e ix).a∧In64 (s'.B.e ix).b:=by
                       have h1:=hok.a0
                       have h2:=hok.b0
                       have h3:=HOK.out.mem
                       unfold In64
                       omega
                      have hbk:BkAt wr q' s':=HLWe.out.kp.bk
                      have hdl:=Bk.dealOf hbk.ps.bo _ hin
                      rw [hget] at hdl
                      have HWT:=Lib.hid hwt
                      have HIA:=Lib.hid hia
                      clear hyc hmem hix hid hst hok hget hwt hia hbk
                      generalize s'.B.e ix=x at *
                      generalize yl.getD y 0=yid at *
                      have HDL:=Lib.hid hdl
                      clear hdl hin
                      go_wp2_with fail
                      refine HDL.out.mono ?_
                      rintro e w53 ⟨rfl,hb53⟩
                      have HB54:=Lib.hid (hb53.alloc hb53.size (.cells x.deal 63))
                      have HX54:=Lib.hid (Blk.new w53 63 x.deal)
                      unfold Ent.deal at HB54 HX54
                      unfold Ent.deal
                      clear hb53 HDL
                      go_upto_region 53 with (fail)
                      generalize w53.alloc (.cells #[.int .i64 x.id,.int .i64 x.a,.int .i64 x.b,.int .i64 x.sc,.int .i64 x.bc,.int .i64 x.sell,.int .i64 x.buy] 63)=w54 at *
                      generalize w53.heap.size=Y at *
                      have d1:w54.cell? ⟨Y,1,none⟩=some (.int .i64 x.a):=(HX54.out.cell 1).trans rfl
                      have d2:w54.cell? ⟨Y,2,none⟩=some (.int .i64 x.b):=(HX54.out.cell 2).trans rfl
                      have hfm:IMap w54 F nF' (.bool false) FF':=(HLWe.out.below HB54.out).fai
                      have hl1:=hfm.look1 (t:=47) Tryz.underlying47 (by kernel_rfl) x.a HIA.out.1
                      have hl2:=hfm.look1 (t:=47) Tryz.underlying47 (by kernel_rfl) x.b HIA.out.2
                      rw [HWT.out.1] at hl1
                      rw [HWT.out.2] at hl2
                      have HB7b:=Lib.hid (HB7.out.trans (HB54.out.mono HB7.out.size))
                      clear hfm
                      go_wp2
                      go_roundg (yl.length - (y + 1))
                      case measure=>omega
                      case rel =>
                       have hz200:yl.length≤200:=Nat.le_trans HY3.out.1 HOK.out.n200
                       exact ⟨y + 1,by omega,by omega,by rw [Bk.wrap_in (show In64 ((y:Int) + 1) by unfold In64; omega)]; rfl,HB7b⟩
                   · have HB6b:=Lib.hid (HB52.out.trans (HB7.out.mono HB52.out.size))
                     obtain rfl:y=yl.length:=by omega
                     go_wp2
                     go_roundg (2 - (u + 1))
                     case measure=>omega
                     case rel=>exact ⟨u + 1,by omega,by omega,by go_num,HB6b⟩
                · obtain rfl:u=2:=by omega
                  clear hu hgu hu2
                  have HLWf:=Lib.hid (HLWb.out.below HB6.out)
                  clear HLWb HB6 HAR HARL
                  have x1:wr.cell? ⟨w.heap.size,1,none⟩=some (.slice c.la c.N c.lc):=(Cf.at6 HLWf.out.cfg).2.1
                  go_wp2
                  go_loopg [205] c.N (fun gh i wr8=>∃ m:Nat,m≤c.N∧c.N - m≤gh∧i=.int .i64 m∧Hid (Below wr.heap.size wr wr8))
                  case atStart=>exact ⟨0,Nat.zero_le _,Nat.le_refl _,rfl,Lib.hid (Below.refl _ _)⟩
                  case round =>
                   clear x1
                   obtain ⟨m,hm,hgm,rfl,HB8⟩:=hrel
                   have HLWg:=Lib.hid (HLWf.out.below HB8.out)
                   have HCN:Hid (s'.N=c.N):=Lib.hid HLWf.out.N
                   have HCT:Hid (s'.d.t.n=c.n):=Lib.hid HLWf.out.t
                   have HBK:Hid (BkAt wr q' s'):=Lib.hid HLWg.out.kp.bk
                   have HKB:Hid (Calls Tryz.prog 10 #[.pointer (some ⟨K,0,none⟩)] wr fun e w'=>e=.returned (.pointer (some ⟨q'.b,0,none⟩))∧w'=wr):=Lib.hid (Bk.kbank HLWg.out.kp)
                   by_cases hml:m < c.N
                   · have q8:(m:Int) < (c.N:Int):=by omega
                     as_aux_lemma =>
                      have HGD:=Lib.hid (Bk.bkGuard HBK.out)
                      have hml2:m < s'.d.L.n:=by have:=HBK.out.nL; have:=HCN.out; omega
                      have HM:=Lib.hid (show m≤15 from by have:=HBK.out.n15; have:=HCN.out; omega)
                      have hflg:=Bk.flagged HBK.out.ps.gu.at (m:Int)
                      have hgd:=HBK.out.good.fl m hml2
                      have hfe:s'.d.flagged (m:Int)=s'.d.flag m:=by unfold Gd.flagged; rw [hasN_yes hml2,Int.toNat_natCast]; rfl
                      rw [hfe] at hflg
                      have HFA:=Lib.hid (Bk.fails HBK.out.ps.gu.at m hml2 (.slice none 0 0) [] (SlP.nil wr) (by simp) (by simp))
                      cases hfg:s'.d.flag m with
                      | true =>
                       rw [hfg] at hflg
                       have HFL:=Lib.hid hflg
                       clear hflg hgd hfe hfg hml2 HFA
                       go_wp2_with (first
                         | (go_at_call 10; refine HKB.out.mono ?_; rintro e wy ⟨rfl,hw⟩; replace hw:=hw.symm; subst hw)
                         | (go_at_call 20; refine HGD.out.mono ?_; rintro e wy ⟨rfl,hw⟩; replace hw:=hw.symm; subst hw)
                         | (go_at_call 21; refine HFL.out.mono ?_; rintro e wy ⟨rfl,hw⟩; replace hw:=hw.symm; subst hw))
                       go_roundg (c.N - (m + 1))
                       case measure=>omega
                       case rel =>
                        have:=HM.out
                        exact ⟨m + 1,by omega,by omega,by first | go_num | (rw [Bk.wrap_in (show In64 ((m:Int) + 1) by unfold In64; omega)]; rfl),HB8⟩
                      | false =>
                       rw [hfg] at hflg
                       have HFL:=Lib.hid hflg
                       have HPB:=Lib.hid (hgd hfg)
                       clear hflg hgd hfe hfg hml2
                       go_wp2_with (first
                         | (go_at_call 10; refine HKB.out.mono ?_; rintro e wy ⟨rfl,hw⟩; replace hw:=hw.symm; subst hw)
                         | (go_at_call 20; refine HGD.out.mono ?_; rintro e wy ⟨rfl,hw⟩; replace hw:=hw.symm; subst hw)
                         | (go_at_call 21; refine HFL.out.mono ?_; rintro e wy ⟨rfl,hw⟩; replace hw:=hw.symm; subst hw))
                       refine HFA.out.mono ?_
                       rintro e w61 ⟨vf,rfl,hb61,hiff⟩
                       obtain rfl:=hiff.2 HPB.out
                       have HB8b:=Lib.hid (HB8.out.trans (hb61.mono HB8.out.size))
                       clear hb61 hiff
                       go_wp2
                       go_roundg (c.N - (m + 1))
                       case measure=>omega
                       case rel =>
                        have:=HM.out
                        exact ⟨m + 1,by omega,by omega,by first | go_num | (rw [Bk.wrap_in (show In64 ((m:Int) + 1) by unfold In64; omega)]; rfl),HB8b⟩
                   · obtain rfl:m=c.N:=by omega
                     as_aux_lemma =>
                      clear hm hgm hml
                      have x0:wr.cell? ⟨w.heap.size,0,none⟩=some (.slice c.ta c.n c.tc):=(Cf.at6 HLWg.out.cfg).1
                      clear HLWf HB8 HBK HKB
                      go_wp2
                      go_loopg [229] c.n (fun gh i wr9=>∃ m:Nat,m≤c.n∧c.n - m≤gh∧i=.int .i64 m∧wr9=wr)
                      case atStart=>exact ⟨0,Nat.zero_le _,Nat.le_refl _,rfl,rfl⟩
                      case round =>
                       clear x0
                       obtain ⟨m,hm,hgm,rfl,rfl⟩:=hrel
                       have HBK:Hid (BkAt wr q' s'):=Lib.hid HLWg.out.kp.bk
                       have HKB:Hid (Calls Tryz.prog 10 #[.pointer (some ⟨K,0,none⟩)] wr fun e w'=>e=.returned (.pointer (some ⟨q'.b,0,none⟩))∧w'=wr):=Lib.hid (Bk.kbank HLWg.out.kp)
                       by_cases hml:m < c.n
                       · have q9:(m:Int) < (c.n:Int):=by omega
                         as_aux_lemma =>
                          have HLD:=Lib.hid (Bk.bkLedger HBK.out)
                          have hno:=Bk.nostro HBK.out.ps.gu.led HBK.out.ps.gu.ok.lok (m:Int)
                          have hlc:m < s'.d.L.c:=by have:=HBK.out.ps.gu.ok.c; have:=HCT.out; omega
                          have HM:=Lib.hid (show m≤8 from by have:=HBK.out.ps.gu.ok.lok.c8; omega)
                          have hge:0≤s'.d.L.nostro (m:Int):=by
                           unfold Led.nostro
                           split
                           · rw [Int.toNat_natCast]
                             exact HBK.out.good.no m hlc
                           · omega
                          generalize s'.d.L.nostro (m:Int)=nv at *
                          have HNO:=Lib.hid hno
                          have hd:decide (nv < 0)=false:=decide_eq_false (by omega)
                          clear hno hlc hge
                          go_wp2_with (first
                            | (go_at_call 10; refine HKB.out.mono ?_; rintro e wy ⟨rfl,hw⟩; replace hw:=hw.symm; subst hw)
                            | (go_at_call 23; refine HLD.out.mono ?_; rintro e wy ⟨rfl,hw⟩; replace hw:=hw.symm; subst hw)
                            | (go_at_call 24; refine HNO.out.mono ?_; rintro e wy ⟨rfl,hw⟩; replace hw:=hw.symm; subst hw))
                          go_roundg (c.n - (m + 1))
                          case measure=>omega
                          case rel =>
                           have:=HM.out
                           exact ⟨m + 1,by omega,by omega,by first | go_num | (rw [Bk.wrap_in (show In64 ((m:Int) + 1) by unfold In64; omega)]; rfl),by first | rfl | trivial⟩
                       · obtain rfl:m=c.n:=by omega
                         clear HBK HKB hm hgm hml
                         go_wp2
                         go_roundg (n - (k + 1))
                         case measure=>omega
                         case rel =>
                          have:=HK40.out
                          exact ⟨k + 1,_,_,_,_,_,_,_,by omega,by omega,by first | go_num | (rw [Bk.wrap_in (show In64 ((k:Int) + 1) by unfold In64; omega)]; rfl),Lib.hid (by have:=HNS.out; have:=HNN.out; have:=HZL.out; have:=HNF.out; omega),HLWg⟩
         · intro x vv w21 cnt3 hx hF hir3 hlt3 hg3 hs3 hen
           as_aux_lemma =>
            have HB21:=Lib.hid (HBB2.out.grown hg3 HBB2.out.size (fun j hj=>by cases hj; exact Nat.le_refl _))
            have HST:=Lib.hid (Bk.state (HLW6.out.below HB21.out).kp.bk.ps.bo x hx)
            have hdn:s'.B.state x=3:=HLW6.out.done x (by show FS x ≠ none; rw [hF]; simp)
            simp only at HST
            rw [hdn] at HST
            have HI3:=Lib.hid hir3
            clear hF hir3 hg3 hs3 hdn
            go_wp2_with fail
            refine HST.out.mono ?_
            rintro e wy ⟨rfl,hw⟩
            replace hw:=hw.symm
            subst hw
            go_wp2
            go_roundg cnt3
            case measure=>omega
            case rel=>exact ⟨cnt3,Nat.le_refl _,HI3,HB21⟩
    · obtain rfl:k=n:=by omega
      have HBE:=Lib.hid HLW.out.bel
      clear HLW
      go_wp2
      go_ret
      exact ⟨rfl,HBE.out⟩
end Go.Proofs.YtgcnnbjbdfgglaaGreat
