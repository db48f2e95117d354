/- LAW TopBoth: of every configuration of a bank and every list of byte strings the given function TopBoth returns true and leaves its arguments as they were; no condition. A part of what it needs. -/
import Derived.Test.YtgcnnbjbdfgglaaGreatZax
import Derived.Test.YtgcnnbjbdfgglaaGreatZaz
import Derived.Test.YtgcnnbjbdfgglaaGreatZba
import Derived.Test.YtgcnnbjbdfgglaaGreatZbc
namespace Go.Proofs.YtgcnnbjbdfgglaaGreat
open Go.RowKit
set_option maxRecDepth 100000 in
set_option maxHeartbeats 16000000 in
theorem Bk.close {w:World} {h:Gh} {d:Gd} {k:Bh} {B:Bo} (p:PS w h d k B) (hs fa:Int) {B0:Nat} {bv:Value} {bs:List Int} (hb:w.ownsRow B0 3 1 bv bs.length (ints bs)) (hbl:(bs.length:Int)≤15) :
    Calls Tryz.prog 149 #[.pointer (some ⟨h.g,0,none⟩),.pointer (some ⟨k.b,0,none⟩),.int .i64 hs,.int .i64 fa,bv] w (CloPost h d k B fa w):=by
 have HP:=Lib.hid p
 have HBV:=Lib.hid hb
 have HB0:=Lib.hid ((Below.refl w.heap.size w).alloc (Nat.le_refl _) (.cells zero3 265))
 have HX0:=Lib.hid (Blk.new w 265 zero3)
 have HGL:=Lib.hid (Bk.gledger (p.below HB0.out).gu)
 have HSZ:=Lib.hid (Bk.ledger_size (p.below HB0.out).gu.led)
 obtain ⟨ba,bn,bc,hbvf⟩:∃ ba bn bc,bv = .slice ba bn bc:=by
  rcases hb.2 with ⟨rfl,_⟩ | ⟨g,cap,cur,rfl,_⟩
  · exact ⟨_,_,_,rfl⟩
  · exact ⟨_,_,_,rfl⟩
 subst hbvf
 clear p hb
 go_enter Tryz.func149,Tryz.ntmps149
 go_wp2_with fail
 refine HGL.out.mono ?_
 rintro e w1 ⟨rfl,rfl⟩
 go_wp2_with fail
 refine HSZ.out.mono ?_
 rintro e w2 ⟨rfl,nq,rfl⟩
 clear HGL HSZ
 have HB2:=Lib.hid (Bk.bdrew HB0.out nq)
 have HX2:=Lib.hid (HX0.out.drewN nq)
 clear HB0 HX0
 generalize (w.alloc (.cells #[.slice none 0 0,.int .i64 0,.slice none 0 0] 265)).drewN nq = w2 at *
 have hlit:=World.ownsRow_lit (base:=w.heap.size) (e:=3) (size:=1) w2 #[.int .i64 hs,.int .i64 fa] 2 HB2.out.size (by unfold maxLen; omega) rfl
 have hA2:=(Below.refl w2.heap.size w2).alloc (Nat.le_refl _) (.cells #[.int .i64 hs,.int .i64 fa] 3)
 obtain ⟨kv,w3,hap,hkn,hgr⟩:=Bk.appendInts (zs:=[hs,fa]) 25 hlit (own_below (own_below HBV.out HB2.out) hA2) (by rw [World.size_alloc]; have:=HB2.out.size; omega) (by simp; omega)
 have hkl:(([hs,fa] ++ bs).length:Int)≤17:=by rw [List.length_append]; simp; omega
 have hk0:0 < ([hs,fa] ++ bs).length:=by simp
 generalize [hs,fa] ++ bs = ks at *
 have HAP:=Lib.hid hap
 have HB3:=Lib.hid ((HB2.out.alloc HB2.out.size (.cells #[.int .i64 hs,.int .i64 fa] 3)).grown hgr (by simp; have:=HB2.out.size; omega) (fun q hq => own_ge hlit hq))
 have HX3:=Lib.hid ((HX2.out.alloc (.cells #[.int .i64 hs,.int .i64 fa] 3)).grown hgr (fun e => by have:=HX2.out.lt; simp [Value.ownBlock] at e; omega))
 have HKN:=Lib.hid hkn
 obtain ⟨ka,kc,hkf⟩:∃ ka kc,kv = .slice ka ks.length kc:=by
  rcases hkn.2 with ⟨rfl,hz⟩ | ⟨g,cap,cur,rfl,_⟩
  · omega
  · exact ⟨_,_,rfl⟩
 subst hkf
 clear hlit hA2 hap hkn hgr HB2 HX2
 go_wp2_with (at_builtin; refine wpList_append_run rfl (.tmp 36) (.tmp 37) 25 rfl _ _ _ rfl rfl HAP.out ?_)
 clear HAP
 go_loopw [41] (fun i wr => ∃ j:Nat,j≤ks.length∧i = .int .i64 j∧wr.ownsRow w.heap.size 3 1 (.slice ka ks.length kc) ks.length (ints ks)∧Hid (Blk wr w.heap.size 265 zero3)∧Hid (Below w.heap.size w wr)) (fun i _ => ks.length - (intOf i).toNat)
 case atStart => exact ⟨0,by omega,rfl,HKN.out,HX3,HB3⟩
 case round =>
  clear HKN HX3 HB3
  obtain ⟨j,hj,rfl,hown,HX,HB⟩:=hrel
  by_cases hlt:j < ks.length
  · have q1:(j:Int) < (ks.length:Int):=by omega
    obtain ⟨g,cap,he,hg1,hg2⟩:=hown.form (by omega)
    have hka:ka = some ⟨g,0,none⟩:=by injection he
    subst hka
    have cz:wr.cell? ⟨g,j,none⟩ = some (.int .i64 (ks.getD j 0)):=by
     rw [hown.cellAt j (by omega)]
     simp [ints,List.getD,List.getElem?_eq_getElem hlt]
    have HO:=Lib.hid hown
    have hkc:ks.length≤kc:=by
     rcases hown.2 with ⟨e,_⟩ | ⟨g2,cap2,cur,e,_,_,h5,_⟩
     · cases e
     · injection e with e1 e2 e3; omega
    have hids:IdsAt wr (.slice (some ⟨g,0,none⟩) j kc) (ks.take j):=by
     refine ⟨some ⟨g,0,none⟩,kc,by rw [List.length_take,Nat.min_eq_left (by omega)],fun _ => ⟨g,0,rfl,fun i hi => ?_⟩⟩
     rw [List.length_take] at hi
     have h5:=HO.out.cellAt i (by omega)
     rw [Nat.zero_add,h5]
     simp [ints,List.getD,List.getElem?_eq_getElem (show i < ks.length by omega),show i < j by omega]
    have HCT:=Lib.hid (fun x => Bk.contains hids (by rw [List.length_take]; omega) x)
    have q3:(j:Int)≤kc:=by omega
    clear he hown hids
    generalize ks.getD j 0 = m at *
    have HCM:=Lib.hid (HCT.out m)
    clear HCT
    obtain ⟨cb,hcb⟩:∃ cb,(ks.take j).contains m = cb:=⟨_,rfl⟩
    rw [hcb] at HCM
    clear hcb
    by_cases hm0:m < 0
    · have d1:decide (m < 0) = true:=decide_eq_true hm0
      have x0:=(HX.out.cell 0).trans (show _ = some (.slice none 0 0) from rfl)
      have f0:=HX.out.frozen 0
      have x1:=(HX.out.cell 1).trans (show _ = some (.int .i64 0) from rfl)
      have f1:=HX.out.frozen 1
      have x2:=(HX.out.cell 2).trans (show _ = some (.slice none 0 0) from rfl)
      have f2:=HX.out.frozen 2
      go_wp2
      exact bodyPost_ret (results_row1t rfl _ _ _ w.heap.size _ _ _ rfl rfl (blk_set3 HX.out (.slice none 0 0) (.int .i64 0) (.slice none 0 0)).range Tryz.underlying265 rfl (by kernel_rfl)) rfl (CloPost.no (c:=1) HP.out (below_set3 HB.out (Nat.le_refl _) _ _ _) (by omega) (by omega) (by omega))
    · by_cases hm1:(d.L.n:Int)≤m
      · have d1:decide (m < 0) = false:=decide_eq_false hm0
        have d2:decide ((d.L.n:Int)≤m) = true:=decide_eq_true hm1
        have x0:=(HX.out.cell 0).trans (show _ = some (.slice none 0 0) from rfl)
        have f0:=HX.out.frozen 0
        have x1:=(HX.out.cell 1).trans (show _ = some (.int .i64 0) from rfl)
        have f1:=HX.out.frozen 1
        have x2:=(HX.out.cell 2).trans (show _ = some (.slice none 0 0) from rfl)
        have f2:=HX.out.frozen 2
        go_wp2
        exact bodyPost_ret (results_row1t rfl _ _ _ w.heap.size _ _ _ rfl rfl (blk_set3 HX.out (.slice none 0 0) (.int .i64 0) (.slice none 0 0)).range Tryz.underlying265 rfl (by kernel_rfl)) rfl (CloPost.no (c:=1) HP.out (below_set3 HB.out (Nat.le_refl _) _ _ _) (by omega) (by omega) (by omega))
      · have d1:decide (m < 0) = false:=decide_eq_false hm0
        have d2:decide ((d.L.n:Int)≤m) = false:=decide_eq_false hm1
        cases cb with
        | true =>
         have x0:=(HX.out.cell 0).trans (show _ = some (.slice none 0 0) from rfl)
         have f0:=HX.out.frozen 0
         have x1:=(HX.out.cell 1).trans (show _ = some (.int .i64 0) from rfl)
         have f1:=HX.out.frozen 1
         have x2:=(HX.out.cell 2).trans (show _ = some (.slice none 0 0) from rfl)
         have f2:=HX.out.frozen 2
         go_wp2_with fail
         refine HCM.out.mono ?_
         rintro e w4 ⟨rfl,rfl⟩
         go_wp2
         exact bodyPost_ret (results_row1t rfl _ _ _ w.heap.size _ _ _ rfl rfl (blk_set3 HX.out (.slice none 0 0) (.int .i64 0) (.slice none 0 0)).range Tryz.underlying265 rfl (by kernel_rfl)) rfl (CloPost.no (c:=1) HP.out (below_set3 HB.out (Nat.le_refl _) _ _ _) (by omega) (by omega) (by omega))
        | false =>
         go_wp2_with fail
         refine HCM.out.mono ?_
         rintro e w4 ⟨rfl,rfl⟩
         go_wp2
         go_roundw
         case rel => exact ⟨j + 1,by omega,by go_num,HO.out,HX,HB⟩
         case measure => simp [intOf]; omega
  · clear hown
    rename Hid (Below w.heap.size w wr) => HB3
    rename Hid (Blk wr w.heap.size _ _) => HX3
    have hp:=HP.out.below HB3.out
    have HT:=Lib.hid (Bk.takeover hp.gu.led hp.gu.ok.lok hs fa)
    have HBb:=Lib.hid (own_below HBV.out HB3.out)
    have HXS:=Lib.hid (show ∀ x,w.heap.size≤x→¬ own2 h k d.L.n x from fun x hx ho => by have:=HP.out.ownlt ho; omega)
    clear hp
    generalize hW3:wr = w3 at *
    clear hW3
    go_wp2_with fail
    refine HT.out.mono ?_
    rintro e w4 ⟨ov,c,ops,rfl,hc0,hc1,how4,hol,hops,hb4⟩
    have HB4:=Lib.hid (HB3.out.trans (hb4.mono HB3.out.size))
    have HX4:=Lib.hid (HX3.out.below hb4)
    have HOW4:=Lib.hid how4
    have HOP:=Lib.hid (And.intro hol (fun p hp => (hops p hp).1))
    clear HT how4 hol hops hb4
    rcases eqs c 0 with ⟨a1,a2,a3⟩ | ⟨a1,a2,a3⟩
    · subst a1
      clear a2 a3 hc0 hc1
      have HTX:=Lib.hid (Bk.ltext (HP.out.below HB4.out).gu.led HP.out.gu.ok.lok)
      go_wp2_with fail
      refine HTX.out.mono ?_
      rintro e w5 ⟨s,rfl,hs5,hb5⟩
      have HB5:=Lib.hid (HB4.out.trans (hb5.mono HB4.out.size))
      have HX5:=Lib.hid (HX4.out.below hb5)
      have HOW5:=Lib.hid (own_below HOW4.out hb5)
      have HRD:=Lib.hid (Bk.lread w5 s hs5)
      have HOVU:=Lib.hid (fun q hq => (HOW5.out.lt q hq).2)
      clear HTX hs5 hb5 HOW4
      go_wp2_with fail
      refine HRD.out.mono ?_
      rintro e w6 ⟨lv,x,rfl,hx0,hx1,hb6,hok⟩
      have HB6:=Lib.hid (HB5.out.trans (hb6.mono HB5.out.size))
      have HX6:=Lib.hid (HX5.out.below hb6)
      have HOW6:=Lib.hid (own_below HOW5.out hb6)
      have HOK:=Lib.hid hok
      have HSZ5:=Lib.hid (show w.heap.size < w5.heap.size from HX5.out.lt)
      clear HRD hok hb6 HOW5
      rcases eqs x 0 with ⟨a1,a2,a3⟩ | ⟨a1,a2,a3⟩
      · subst a1
        clear a2 a3 hx0 hx1
        obtain ⟨l,r,cap,L,rfl,hl,hlo,hl1,hr1⟩:=HOK.out rfl
        have HLL:=Lib.hid (show w.heap.size < l from Nat.lt_of_lt_of_le HSZ5.out hl1)
        have HL5:=Lib.hid hl1
        have HLO:=Lib.hid hlo
        have HPO:=Lib.hid (Bk.post hl hlo ov ops (slp_of_own HOW6.out) (by have:=HOP.out.1; omega) HOP.out.2)
        clear hl hlo hl1 hr1 HOK
        go_wp2_with fail
        refine HPO.out.mono ?_
        rintro e w7 ⟨c,rfl,hno,hyes,hc0,hc1⟩
        rcases eqs c 0 with ⟨a1,a2,a3⟩ | ⟨a1,a2,a3⟩
        · subst a1
          clear a2 a3 hno hc0 hc1
          obtain ⟨r7,cap7,bal,_,_,hl7,h647,hk7,hr7⟩:=hyes rfl
          have hlo7:=rowsOf_ok (L:=L) h647 HLO.out
          have HB7:=Lib.hid (HB6.out.trans (hk7.below HB6.out.size (fun q hq => by rw [hq]; exact Nat.le_of_lt HLL.out)))
          have HX7:=Lib.hid (show Blk w7 w.heap.size 265 zero3 from hk7.heap HX6.out (by have:=HLL.out; omega))
          have HOW7:=Lib.hid (own_same HOW6.out (fun q hq => hk7.block q (HOW6.out.lt q hq).2 (by have:=HOVU.out q hq; have:=HL5.out; omega)))
          have hn7:∀ q,ov.ownBlock = some q→q ≠ l:=fun q hq => by have:=HOVU.out q hq; have:=HL5.out; omega
          have HNL:=Lib.hid hn7
          clear HPO hyes hk7 hr7 h647 HOW6 hn7
          generalize hL7:({ L with bal:=bal }:Led) = L7 at *
          clear hL7
          have HL7:=Lib.hid (And.intro hl7 hlo7)
          have hp7:=HP.out.below HB7.out
          have HGW:=Lib.hid (Bk.gworths hp7.gu)
          have HWT:=Lib.hid (Bk.wtable hp7.gu)
          clear hl7 hlo7 hp7
          go_wp2_with fail
          refine HGW.out.mono ?_
          rintro e w8 ⟨rfl,rfl⟩
          go_wp2_with fail
          refine HWT.out.mono ?_
          rintro e w9 ⟨tv,rfl,htv,hb9⟩
          have HB9:=Lib.hid (HB7.out.trans (hb9.mono HB7.out.size))
          have HX9:=Lib.hid (HX7.out.below hb9)
          have HL9:=Lib.hid (HL7.out.1.below hb9)
          have HOW9:=Lib.hid (own_below HOW7.out hb9)
          have HLS:=Lib.hid (Bk.loss htv HP.out.gu.ok.tok HL9.out HL7.out.2 hs)
          clear HGW HWT htv hb9 HOW7
          go_wp2_with fail
          refine HLS.out.mono ?_
          rintro e w10 ⟨n,c,rfl,hn0,hn6,hc0,hc1,hb10⟩
          have HB10:=Lib.hid (HB9.out.trans (hb10.mono HB9.out.size))
          have HX10:=Lib.hid (HX9.out.below hb10)
          have HL10:=Lib.hid (HL9.out.below hb10)
          have HOW10:=Lib.hid (own_below HOW9.out hb10)
          have HN:=Lib.hid (And.intro hn0 hn6)
          clear HLS hb10 hn0 hn6 HOW9 HL9
          rcases eqs c 0 with ⟨a1,a2,a3⟩ | ⟨a1,a2,a3⟩
          · subst a1
            clear a2 a3 hc0 hc1
            have HWE:=Lib.hid (Bk.weights (HP.out.below HB10.out).bo fa (ids_of_own (own_below HBV.out HB10.out)) (by omega))
            go_wp2_with fail
            refine HWE.out.mono ?_
            rintro e w11 ⟨wv,xs,rfl,how11,hxl,hxb,hb11⟩
            have HB11:=Lib.hid (HB10.out.trans (hb11.mono HB10.out.size))
            have HX11:=Lib.hid (HX10.out.below hb11)
            have HL11:=Lib.hid (HL10.out.below hb11)
            have HOW11:=Lib.hid (own_below HOW10.out hb11)
            have HSH:=Lib.hid (Bk.share (f:=fun i => xs.getD i 0) (N:=bs.length) (by rw [← hxl]; exact own_slI how11) hbl (fun i hi => getD_all (P:=fun z => 0≤z∧z≤1000) hxb (by omega)) (ids_of_own (own_below HBV.out HB11.out)) rfl n HN.out.1 HN.out.2 hs)
            clear HWE how11 hxl hxb hb11 HL10 HOW10
            go_wp2_with fail
            refine HSH.out.mono ?_
            rintro e w12 ⟨sa,sn,sc,bov,c,bps,rfl,hc0,hc1,how12,hbpl,hbps,hb12⟩
            have HB12:=Lib.hid (HB11.out.trans (hb12.mono HB11.out.size))
            have HX12:=Lib.hid (HX11.out.below hb12)
            have HL12:=Lib.hid (HL11.out.below hb12)
            have HOW12:=Lib.hid (own_below HOW11.out hb12)
            have HOB12:=Lib.hid how12
            have HOBU:=Lib.hid (fun q hq => own_ge how12 (k:=q) hq)
            have HBP:=Lib.hid (And.intro hbpl (fun p hp => (hbps p hp).1))
            have HSZ11:=Lib.hid (show l < w11.heap.size from HL11.out.llt)
            clear HSH how12 hbpl hbps hb12 HL11 HOW11
            rcases eqs c 0 with ⟨a1,a2,a3⟩ | ⟨a1,a2,a3⟩
            · subst a1
              clear a2 a3 hc0 hc1
              have HPO:=Lib.hid (Bk.post HL12.out HL7.out.2 bov bps (slp_of_own HOB12.out) (by have:=HBP.out.1; omega) HBP.out.2)
              go_wp2_with fail
              refine HPO.out.mono ?_
              rintro e w13 ⟨c,rfl,hno,hyes,hc0,hc1⟩
              rcases eqs c 0 with ⟨a1,a2,a3⟩ | ⟨a1,a2,a3⟩
              · subst a1
                clear a2 a3 hno hc0 hc1
                obtain ⟨r13,cap13,bal13,_,_,_,_,hk13,_⟩:=hyes rfl
                have HB13:=Lib.hid (HB12.out.trans (hk13.below HB12.out.size (fun q hq => by rw [hq]; exact Nat.le_of_lt HLL.out)))
                have HX13:=Lib.hid (show Blk w13 w.heap.size 265 zero3 from hk13.heap HX12.out (by have:=HLL.out; omega))
                have HOW13:=Lib.hid (own_same HOW12.out (fun q hq => hk13.block q (HOW12.out.lt q hq).2 (HNL.out q hq)))
                have HOB13:=Lib.hid (own_same HOB12.out (fun q hq => hk13.block q (HOB12.out.lt q hq).2 (by have:=HOBU.out q hq; have:=HSZ11.out; omega)))
                have HOBG:=Lib.hid (show ∀ q,bov.ownBlock = some q→w.heap.size≤q from fun q hq => by have:=HOBU.out q hq; have:=HB11.out.size; omega)
                clear HPO hyes hk13 HOW12 HOB12 HL12 HOBU HNL HSZ11 HOVU HL5 HLL HSZ5
                have hp13:=HP.out.below HB13.out
                have HP13:=Lib.hid hp13
                have HRM:=Lib.hid (Bk.remove hp13.bo fa)
                clear hp13
                go_wp2_with fail
                refine HRM.out.mono ?_
                rintro e w14 ⟨B',k',hb14,hs14,hst14,rv,zs,rfl,hown14,hzok,hgone⟩
                obtain ⟨hp14,hS14⟩:=HP13.out.bstep hb14 hs14 hst14.mem
                obtain ⟨ra,rn,rc,hrv⟩:∃ ra rn rc,rv = .slice ra rn rc:=by
                 rcases hown14.2 with ⟨rfl,_⟩ | ⟨g,cap,cur,rfl,_⟩
                 · exact ⟨_,_,_,rfl⟩
                 · exact ⟨_,_,_,rfl⟩
                subst hrv
                have hx14:=blk_step2 hS14 HX13.out (HXS.out _ (Nat.le_refl _))
                have ho14:=row_step2 hS14 HOW13.out (fun q hq => HXS.out q (Nat.le_trans HB3.out.size (own_ge HOW13.out hq)))
                have hob14:=row_step2 hS14 HOB13.out (fun q hq => HXS.out q (HOBG.out q hq))
                have hr14:∀ q,Value.ownBlock (.slice ra rn rc) = some q→¬ own2 h k' d.L.n q:=fun q hq ho => by
                 rcases ho with h1 | h1
                 · have h2:=HP.out.ownlt (.inl h1)
                   have h3:=own_ge hown14 hq
                   have h4:=HB13.out.size
                   omega
                 · exact book_int hb14 (own_ty hown14 hq) h1
                have HS14:=Lib.hid ((Step2.of_below HB13.out h k d.L.n).trans hS14)
                have HBO:=Lib.hid (And.intro hst14 (And.intro hzok hgone))
                have hA:=(Below.refl w14.heap.size w14).alloc (Nat.le_refl _) (.cells #[.slice ra rn rc,.int .i64 n,.slice sa sn sc] 265)
                have hY:=Blk.new w14 265 #[.slice ra rn rc,.int .i64 n,.slice sa sn sc]
                have HYN:=Lib.hid (show ¬ own2 h k' d.L.n w14.heap.size from fun ho => by have:=hp14.ownlt ho; omega)
                have HP15:=Lib.hid (hp14.below hA)
                have HS15:=Lib.hid (HS14.out.trans (Step2.of_below hA h k' d.L.n))
                have HX15:=Lib.hid (And.intro (hx14.1.below hA) hx14.2)
                have HY15:=Lib.hid hY
                have HO15:=Lib.hid (And.intro (own_below ho14.1 hA) ho14.2)
                have HOB15:=Lib.hid (And.intro (own_below hob14.1 hA) hob14.2)
                have HR15:=Lib.hid (And.intro (own_below hown14 hA) hr14)
                have HWX:Hid (w.heap.size < w14.heap.size):=Lib.hid hx14.1.lt
                have HX13S:Hid (w.heap.size < w13.heap.size):=Lib.hid HX13.out.lt
                clear HRM hb14 hs14 hst14 hown14 hzok hgone hp14 hS14 hx14 ho14 hob14 hr14 hA hY HS14 HX13 HOW13 HOB13 HP13
                have HTK:=Lib.hid (Bk.take HP15.out.gu ov ops (slp_of_own HO15.out.1) (by have:=HOP.out.1; omega) HOP.out.2)
                go_wp2_with fail
                refine HTK.out.mono ?_
                rintro e w16 ⟨c,d16,h16,rfl,hg16,hs16,hsz16,hgd16⟩
                obtain ⟨hp16,hS16⟩:=HP15.out.gstep hg16 hs16 hsz16.1
                have HP16:=Lib.hid hp16
                have HS16:=Lib.hid (HS15.out.trans hS16)
                have HX16:=Lib.hid (blk_step2 hS16 HX15.out.1 HX15.out.2)
                have HY16:=Lib.hid (blk_step2 hS16 HY15.out HYN.out)
                have HOB16:=Lib.hid (row_step2 hS16 HOB15.out.1 HOB15.out.2)
                have HR16:=Lib.hid (row_step2 hS16 HR15.out.1 HR15.out.2)
                have HD16:=Lib.hid (And.intro hsz16 hgd16)
                have HG16:=Lib.hid (Gh.pg hs16.g)
                clear hg16 hs16 hsz16 hgd16 hp16 hS16 HTK HP15 HS15 HX15 HY15 HOB15 HR15 HO15
                have htk:=Bk.take HP16.out.gu bov bps (slp_of_own HOB16.out.1) (by have:=HBP.out.1; omega) HBP.out.2
                rw [HG16.out] at htk
                have HTK:=Lib.hid htk
                clear htk
                go_wp2_with fail
                refine HTK.out.mono ?_
                rintro e w17 ⟨c2,d17,h17,rfl,hg17,hs17,hsz17,hgd17⟩
                obtain ⟨hp17,hS17⟩:=HP16.out.gstep hg17 hs17 hsz17.1
                rw [HD16.out.1.1] at hS17
                have HP17:=Lib.hid hp17
                have HS17:=Lib.hid (HS16.out.trans hS17)
                have HX17:=Lib.hid (blk_step2 hS17 HX16.out.1 HX16.out.2)
                have HY17:=Lib.hid (blk_step2 hS17 HY16.out.1 HY16.out.2)
                have HR17:=Lib.hid (row_step2 hS17 HR16.out.1 HR16.out.2)
                have HD17:=Lib.hid (And.intro (show d17.L.n = d.L.n∧d17.t.n = d.t.n from ⟨hsz17.1.trans HD16.out.1.1,hsz17.2.trans HD16.out.1.2⟩) (show Good d→Good d17 from fun g => hgd17 (HD16.out.2 g)))
                clear hg17 hs17 hsz17 hgd17 hp17 hS17 HTK HP16 HS16 HX16 HY16 HOB16 HR16 HD16
                have y0:=(HY17.out.1.cell 0).trans (show _ = some (.slice ra rn rc) from rfl)
                have y1:=(HY17.out.1.cell 1).trans (show _ = some (.int .i64 n) from rfl)
                have y2:=(HY17.out.1.cell 2).trans (show _ = some (.slice sa sn sc) from rfl)
                have x0:=(HX17.out.1.cell 0).trans (show _ = some (.slice none 0 0) from rfl)
                have f0:=HX17.out.1.frozen 0
                have x1:=(HX17.out.1.cell 1).trans (show _ = some (.int .i64 0) from rfl)
                have f1:=HX17.out.1.frozen 1
                have x2:=(HX17.out.1.cell 2).trans (show _ = some (.slice none 0 0) from rfl)
                have f2:=HX17.out.1.frozen 2
                have HXY:Hid (w14.heap.size ≠ w.heap.size):=Lib.hid (by have:=HWX.out; omega)
                generalize w14.heap.size = Y at *
                go_wp2
                refine bodyPost_ret (results_row1t rfl _ _ _ w.heap.size _ _ _ rfl rfl (blk_set3 HX17.out.1 (.slice ra rn rc) (.int .i64 n) (.slice sa sn sc)).range Tryz.underlying265 rfl (by kernel_rfl)) rfl ?_
                have hxn:¬ own2 h17 k' d17.L.n w.heap.size:=by rw [HD17.out.1.1]; exact HX17.out.2
                exact ⟨ra,rn,rc,n,_,_,_,0,zs,d17,h17,B',k',rfl,by omega,by omega,HN.out.2,own_wk (own_same HR17.out.1 (fun q hq => heap_set3 w17 (fun e => by have:=own_ge HR17.out.1 hq; have:=HX13S.out; omega) _ _ _)) (by have:=HX13S.out; omega),HBO.out.2.1,HP17.out.set3 hxn _ _ _,HS17.out.set3 (Nat.le_refl _) _ _ _,HD17.out.1,HD17.out.2,HBO.out.1,fun _ => HBO.out.2.2⟩
              · have a4:(c != 0) = true:=by simpa using a1
                have HNE:=Lib.hid a1
                have HB13:=Lib.hid (HB12.out.trans ((hno a1).mono HB12.out.size))
                have HX13:=Lib.hid (HX12.out.below (hno a1))
                clear a1 hno hyes
                have x0:=(HX13.out.cell 0).trans (show _ = some (.slice none 0 0) from rfl)
                have f0:=HX13.out.frozen 0
                have x1:=(HX13.out.cell 1).trans (show _ = some (.int .i64 0) from rfl)
                have f1:=HX13.out.frozen 1
                have x2:=(HX13.out.cell 2).trans (show _ = some (.slice none 0 0) from rfl)
                have f2:=HX13.out.frozen 2
                go_wp2
                exact bodyPost_ret (results_row1t rfl _ _ _ w.heap.size _ _ _ rfl rfl (blk_set3 HX13.out (.slice none 0 0) (.int .i64 0) (.slice none 0 0)).range Tryz.underlying265 rfl (by kernel_rfl)) rfl (CloPost.no (c:=c) HP.out (below_set3 HB13.out (Nat.le_refl _) _ _ _) hc0 hc1 HNE.out)
            · have a4:(c != 0) = true:=by simpa using a1
              have HNE:=Lib.hid a1
              clear a1
              have x0:=(HX12.out.cell 0).trans (show _ = some (.slice none 0 0) from rfl)
              have f0:=HX12.out.frozen 0
              have x1:=(HX12.out.cell 1).trans (show _ = some (.int .i64 0) from rfl)
              have f1:=HX12.out.frozen 1
              have x2:=(HX12.out.cell 2).trans (show _ = some (.slice none 0 0) from rfl)
              have f2:=HX12.out.frozen 2
              go_wp2
              exact bodyPost_ret (results_row1t rfl _ _ _ w.heap.size _ _ _ rfl rfl (blk_set3 HX12.out (.slice none 0 0) (.int .i64 0) (.slice none 0 0)).range Tryz.underlying265 rfl (by kernel_rfl)) rfl (CloPost.no (c:=c) HP.out (below_set3 HB12.out (Nat.le_refl _) _ _ _) hc0 hc1 HNE.out)
          · have a4:(c != 0) = true:=by simpa using a1
            have HNE:=Lib.hid a1
            clear a1
            have x0:=(HX10.out.cell 0).trans (show _ = some (.slice none 0 0) from rfl)
            have f0:=HX10.out.frozen 0
            have x1:=(HX10.out.cell 1).trans (show _ = some (.int .i64 0) from rfl)
            have f1:=HX10.out.frozen 1
            have x2:=(HX10.out.cell 2).trans (show _ = some (.slice none 0 0) from rfl)
            have f2:=HX10.out.frozen 2
            go_wp2
            exact bodyPost_ret (results_row1t rfl _ _ _ w.heap.size _ _ _ rfl rfl (blk_set3 HX10.out (.slice none 0 0) (.int .i64 0) (.slice none 0 0)).range Tryz.underlying265 rfl (by kernel_rfl)) rfl (CloPost.no (c:=c) HP.out (below_set3 HB10.out (Nat.le_refl _) _ _ _) hc0 hc1 HNE.out)
        · have a4:(c != 0) = true:=by simpa using a1
          have HNE:=Lib.hid a1
          have HB7:=Lib.hid (HB6.out.trans ((hno a1).mono HB6.out.size))
          have HX7:=Lib.hid (HX6.out.below (hno a1))
          clear a1 hno hyes
          have x0:=(HX7.out.cell 0).trans (show _ = some (.slice none 0 0) from rfl)
          have f0:=HX7.out.frozen 0
          have x1:=(HX7.out.cell 1).trans (show _ = some (.int .i64 0) from rfl)
          have f1:=HX7.out.frozen 1
          have x2:=(HX7.out.cell 2).trans (show _ = some (.slice none 0 0) from rfl)
          have f2:=HX7.out.frozen 2
          go_wp2
          exact bodyPost_ret (results_row1t rfl _ _ _ w.heap.size _ _ _ rfl rfl (blk_set3 HX7.out (.slice none 0 0) (.int .i64 0) (.slice none 0 0)).range Tryz.underlying265 rfl (by kernel_rfl)) rfl (CloPost.no (c:=c) HP.out (below_set3 HB7.out (Nat.le_refl _) _ _ _) hc0 hc1 HNE.out)
      · have a4:(x != 0) = true:=by simpa using a1
        have HNE:=Lib.hid a1
        clear a1
        have x0:=(HX6.out.cell 0).trans (show _ = some (.slice none 0 0) from rfl)
        have f0:=HX6.out.frozen 0
        have x1:=(HX6.out.cell 1).trans (show _ = some (.int .i64 0) from rfl)
        have f1:=HX6.out.frozen 1
        have x2:=(HX6.out.cell 2).trans (show _ = some (.slice none 0 0) from rfl)
        have f2:=HX6.out.frozen 2
        go_wp2
        exact bodyPost_ret (results_row1t rfl _ _ _ w.heap.size _ _ _ rfl rfl (blk_set3 HX6.out (.slice none 0 0) (.int .i64 0) (.slice none 0 0)).range Tryz.underlying265 rfl (by kernel_rfl)) rfl (CloPost.no (c:=x) HP.out (below_set3 HB6.out (Nat.le_refl _) _ _ _) hx0 hx1 HNE.out)
    · have a4:(c != 0) = true:=by simpa using a1
      have HNE:=Lib.hid a1
      clear a1
      have x0:=(HX4.out.cell 0).trans (show _ = some (.slice none 0 0) from rfl)
      have f0:=HX4.out.frozen 0
      have x1:=(HX4.out.cell 1).trans (show _ = some (.int .i64 0) from rfl)
      have f1:=HX4.out.frozen 1
      have x2:=(HX4.out.cell 2).trans (show _ = some (.slice none 0 0) from rfl)
      have f2:=HX4.out.frozen 2
      go_wp2
      exact bodyPost_ret (results_row1t rfl _ _ _ w.heap.size _ _ _ rfl rfl (blk_set3 HX4.out (.slice none 0 0) (.int .i64 0) (.slice none 0 0)).range Tryz.underlying265 rfl (by kernel_rfl)) rfl (CloPost.no (c:=c) HP.out (below_set3 HB4.out (Nat.le_refl _) _ _ _) hc0 hc1 HNE.out)
end Go.Proofs.YtgcnnbjbdfgglaaGreat
namespace Go.Proofs.YtgcnnbjbdfgglaaGreat
open Go.RowKit
structure Qh where
  b:Nat
  h:Gh
  k:Bh
  e:Lh
  fb:Nat
  fc:Nat
  ta:Option Addr
  tc:Nat
  lv:Value
  nv:Value
  dv:Value
structure Bnk where
  d:Gd
  B:Bo
  N:Nat
  cut:Int
  close:Int
  now:Int
  fl:Nat→Bool
def Qh.cells (q:Qh) (s:Bnk):Array Value:=#[.slice q.ta s.d.t.n q.tc,q.lv,q.nv,.int .i64 s.cut,.int .i64 s.close,q.dv,.int .i64 s.N,.pointer (some ⟨q.h.l,0,none⟩),.pointer (some ⟨q.h.g,0,none⟩),.pointer (some ⟨q.k.b,0,none⟩),.pointer (some ⟨q.e.x,0,none⟩),.int .i64 s.now,.slice (some ⟨q.fb,0,none⟩) s.N q.fc]
def GoneF (B:Bo) (fl:Nat→Bool):Prop:=∀ i,i < B.n→(fl (B.e i).a.toNat = true∨fl (B.e i).b.toNat = true)→3≤(B.e i).st
structure BkAt (w:World) (q:Qh) (s:Bnk):Prop where
  blk:Blk w q.b 123 (q.cells s)
  ps:PS w q.h s.d q.k s.B
  le:LeW w q.e
  C:q.e.C = s.d.t.n
  flr:RowK w q.fb 1 s.N (fun i _ => .bool (s.fl i))
  fty:Ty w q.fb 4
  ap:∀ x,(x = q.b∨x = q.fb∨q.e.own x)→¬ own2 q.h q.k s.d.L.n x
  eb:¬ q.e.own q.b
  ef:¬ q.e.own q.fb
  n1:1≤s.N
  n15:s.N≤15
  nL:s.d.L.n = s.N + 1
  mem:s.B.mem = s.N
  good:Good s.d
  gone:GoneF s.B s.fl
def Qh.own (q:Qh) (n:Nat) (x:Nat):Prop:=x = q.b∨x = q.fb∨q.e.own x∨own2 q.h q.k n x
structure BkSt (w:World) (q:Qh) (w':World) (q':Qh) (n:Nat):Prop where
  b:q'.b = q.b
  kept:Kept (q.own n) w w'
  own:∀ x,q'.own n x→q.own n x∨w.heap.size≤x
theorem BkSt.refl (w:World) (q:Qh) (n:Nat):BkSt w q w q n:=⟨rfl,Kept.refl _ _,fun _ h => .inl h⟩
theorem BkSt.of_below {w w':World} (hb:Below w.heap.size w w') (q:Qh) (n:Nat):BkSt w q w' q n:=⟨rfl,Kept.of_below hb,fun _ h => .inl h⟩
theorem BkSt.trans {a b c:World} {q q1 q2:Qh} {n:Nat} (x:BkSt a q b q1 n) (y:BkSt b q1 c q2 n):BkSt a q c q2 n :=
 ⟨y.b.trans x.b,⟨y.kept.os.trans x.kept.os,y.kept.tape.trans x.kept.tape,y.kept.output.trans x.kept.output,Nat.le_trans x.kept.size y.kept.size,fun k hk hn => (y.kept.block k (Nat.lt_of_lt_of_le hk x.kept.size) (fun h' => by rcases x.own k h' with h | h; exact hn h; omega)).trans (x.kept.block k hk hn)⟩,
   fun k hk => by
    rcases y.own k hk with h | h
    · exact x.own k h
    · exact .inr (Nat.le_trans x.kept.size h)⟩
structure BnkSt (s s':Bnk):Prop where
  N:s'.N = s.N
  L:s'.d.L.n = s.d.L.n
  t:s'.d.t.n = s.d.t.n
  fl:∀ i,s.fl i = true→s'.fl i = true
  bo:BoStep s.B s'.B (fun _ => True)
theorem BnkSt.refl (s:Bnk):BnkSt s s:=⟨rfl,rfl,rfl,fun _ h => h,BoStep.refl _ _⟩
theorem BnkSt.trans {a b c:Bnk} (x:BnkSt a b) (y:BnkSt b c):BnkSt a c:=⟨y.N.trans x.N,y.L.trans x.L,y.t.trans x.t,fun i h => y.fl i (x.fl i h),⟨Nat.le_trans x.bo.n y.bo.n,y.bo.mem.trans x.bo.mem,y.bo.cur.trans x.bo.cur,fun i hi => (x.bo.old i hi).trans (y.bo.old i (Nat.lt_of_lt_of_le hi x.bo.n)),fun _ _ _ => trivial⟩⟩
theorem BoStep.any {B B':Bo} {P:Ent→Prop} (h:BoStep B B' P):BoStep B B' (fun _ => True):=⟨h.n,h.mem,h.cur,h.old,fun _ _ _ => trivial⟩
theorem GoneF.step {B B':Bo} {fl:Nat→Bool} (g:GoneF B fl) {P:Ent→Prop} (h:BoStep B B' P) (hP:∀ y,P y→fl y.a.toNat = false∧fl y.b.toNat = false):GoneF B' fl:=fun i hi hf => by
 by_cases hb:i < B.n
 · have hl:=h.old i hb
   rw [hl.a,hl.b] at hf
   have:=g i hb hf
   have:=hl.up
   omega
 · have h2:=hP _ (h.new i (by omega) hi)
   rw [h2.1,h2.2] at hf
   simp at hf
theorem BkAt.ownlt {w:World} {q:Qh} {s:Bnk} (a:BkAt w q s) {x:Nat} (hx:q.own s.d.L.n x):x < w.heap.size:=by
 rcases hx with rfl | rfl | h | h
 · exact a.blk.lt
 · exact a.fty.lt
 · exact a.le.ownlt _ h
 · exact a.ps.ownlt h
theorem BkAt.frame {w w':World} {q:Qh} {s:Bnk} (a:BkAt w q s) (hk:Kept (fun _ => False) w w'):BkAt w' q s :=
 ⟨(hk.block _ a.blk.lt id).trans a.blk,a.ps.frame (fun x hx => hk.block x (a.ps.ownlt hx) id),a.le.frame hk (fun _ _ => id),a.C,a.flr.same (hk.block _ a.fty.lt id),a.fty.same (hk.block _ a.fty.lt id),a.ap,a.eb,a.ef,a.n1,a.n15,a.nL,a.mem,a.good,a.gone⟩
theorem BkAt.below {w w':World} {q:Qh} {s:Bnk} (a:BkAt w q s) (hb:Below w.heap.size w w'):BkAt w' q s:=a.frame (Kept.of_below hb)
theorem BkAt.kept {w w':World} {q:Qh} {s:Bnk} {F:Nat→Prop} (a:BkAt w q s) (hk:Kept F w w') (hF:∀ x,q.own s.d.L.n x→¬ F x):BkAt w' q s :=
 have h:∀ x,q.own s.d.L.n x→w'.heap[x]? = w.heap[x]?:=fun x hx => hk.block x (a.ownlt hx) (hF x hx)
 ⟨(h _ (.inl rfl)).trans a.blk,a.ps.frame (fun x hx => h x (.inr (.inr (.inr hx)))),a.le.frame hk (fun x hx => hF x (.inr (.inr (.inl hx)))),a.C,a.flr.same (h _ (.inr (.inl rfl))),a.fty.same (h _ (.inr (.inl rfl))),a.ap,a.eb,a.ef,a.n1,a.n15,a.nL,a.mem,a.good,a.gone⟩
theorem BkAt.step2 {w w':World} {q:Qh} {s:Bnk} (a:BkAt w q s) {h':Gh} {d':Gd} {k':Bh} {B':Bo} (p:PS w' h' d' k' B') (st:Step2 w q.h q.k w' h' k' s.d.L.n) (hn:d'.L.n = s.d.L.n∧d'.t.n = s.d.t.n) (hg:Good d') {P:Ent→Prop} (hb:BoStep s.B B' P) (hgo:GoneF B' s.fl) :
    BkAt w' { q with h:=h',k:=k' } { s with d:=d',B:=B' }∧BkSt w q w' { q with h:=h',k:=k' } s.d.L.n∧BnkSt s { s with d:=d',B:=B' }:=by
 have hl:=Gh.pl st.g
 have hgg:=Gh.pg st.g
 have he:∀ x,(x = q.b∨x = q.fb∨q.e.own x)→x < w.heap.size:=fun x hx => by
  rcases hx with rfl | rfl | h
  · exact a.blk.lt
  · exact a.fty.lt
  · exact a.le.ownlt _ h
 have hap:∀ x,(x = q.b∨x = q.fb∨q.e.own x)→¬ own2 h' k' s.d.L.n x:=fun x hx ho => by
  rcases st.own x ho with h1 | h1
  · exact a.ap x hx h1
  · have:=he x hx; omega
 refine ⟨⟨?_,p,a.le.frame st.kept (fun x hx => a.ap x (.inr (.inr hx))),a.C.trans hn.2.symm,a.flr.same (st.kept.block _ a.fty.lt (a.ap _ (.inr (.inl rfl)))),a.fty.same (st.kept.block _ a.fty.lt (a.ap _ (.inr (.inl rfl)))),?_,a.eb,a.ef,a.n1,a.n15,hn.1.trans a.nL,hb.mem.trans a.mem,hg,hgo⟩,⟨rfl,st.kept.mono (fun _ _ h => .inr (.inr (.inr h))),?_⟩,⟨rfl,hn.1,hn.2,fun _ h => h,hb.any⟩⟩
 · have h1:=(st.kept.block _ a.blk.lt (a.ap _ (.inl rfl))).trans a.blk
   unfold Blk
   rw [h1]
   unfold Qh.cells
   simp only [hl,hgg,st.b,hn.2]
 · intro x hx
   show ¬ own2 h' k' d'.L.n x
   rw [hn.1]
   exact hap x hx
 · intro x hx
   rcases hx with h1 | h1 | h1 | h1
   · exact .inl (.inl h1)
   · exact .inl (.inr (.inl h1))
   · exact .inl (.inr (.inr (.inl h1)))
   · rcases st.own x h1 with h2 | h2
     · exact .inl (.inr (.inr (.inr h2)))
     · exact .inr h2
theorem BkAt.set3 {w:World} {q:Qh} {s:Bnk} (a:BkAt w q s) {X:Nat} (hX:¬ q.own s.d.L.n X) (v0 v1 v2:Value):BkAt (((w.setCell ⟨X,0,none⟩ v0).setCell ⟨X,1,none⟩ v1).setCell ⟨X,2,none⟩ v2) q s :=
 a.kept (F:=fun x => x = X) ((((Kept.refl (fun x => x = X) w).setCell (.inl rfl) 0 v0).setCell (.inl rfl) 1 v1).setCell (.inl rfl) 2 v2) (fun _ hx e => hX (e ▸ hx))
theorem BkSt.set3 {w w':World} {q q':Qh} {n X:Nat} (s:BkSt w q w' q' n) (hX:w.heap.size≤X) (v0 v1 v2:Value):BkSt w q (((w'.setCell ⟨X,0,none⟩ v0).setCell ⟨X,1,none⟩ v1).setCell ⟨X,2,none⟩ v2) q' n :=
 ⟨s.b,((s.kept.setCell (.inr hX) 0 v0).setCell (.inr hX) 1 v1).setCell (.inr hX) 2 v2,s.own⟩
def DoPost (q:Qh) (s:Bnk) (Q:Int→Int→List Int→Bnk→Prop) (w:World) (e:Ending) (w':World):Prop :=
 ∃ (E V:Int) (iv:Value) (zs:List Int) (q':Qh) (s':Bnk),e = .returned (.agg #[.int .i64 E,.int .i64 V,iv])∧0≤E∧E≤12∧In64 V∧w'.ownsRow w.heap.size 3 1 iv zs.length (ints zs)∧IdsOk zs∧BkAt w' q' s'∧BkSt w q w' q' s.d.L.n∧BnkSt s s'∧Q E V zs s'
theorem DoPost.of {w w1:World} {q q1:Qh} {s s1:Bnk} {Q:Int→Int→List Int→Bnk→Prop} {X:Nat} (a1:BkAt w1 q1 s1) (b1:BkSt w q w1 q1 s.d.L.n) (n1:BnkSt s s1) (hX:w.heap.size≤X) (hn:¬ q1.own s.d.L.n X) {E V:Int} (h0:0≤E) (h1:E≤12) (hv:In64 V) {iv:Value} {zs:List Int} (hr:w1.ownsRow w.heap.size 3 1 iv zs.length (ints zs)) (hrX:∀ k,iv.ownBlock = some k→k ≠ X) (hz:IdsOk zs) (hq:Q E V zs s1) (v0 v1 v2:Value) :
    DoPost q s Q w (.returned (.agg #[.int .i64 E,.int .i64 V,iv])) (((w1.setCell ⟨X,0,none⟩ v0).setCell ⟨X,1,none⟩ v1).setCell ⟨X,2,none⟩ v2) :=
 ⟨E,V,iv,zs,q1,s1,rfl,h0,h1,hv,own_same hr (fun k hk => heap_set3 w1 (hrX k hk) v0 v1 v2),hz,a1.set3 (by rw [n1.L]; exact hn) v0 v1 v2,b1.set3 hX v0 v1 v2,n1,hq⟩
theorem BkSt.none {w w1 w2:World} {q q2:Qh} {s:Bnk} {X:Nat} (a:BkAt w q s) (b:BkSt w1 q w2 q2 s.d.L.n) (h1:w.heap.size≤X) (h2:X < w1.heap.size):¬ q2.own s.d.L.n X:=fun ho => by
 rcases b.own X ho with h | h
 · have:=a.ownlt h; omega
 · omega
theorem blk_bk {w w':World} {q q':Qh} {n x:Nat} {T:TypeId} {cs:Array Value} (s:BkSt w q w' q' n) (hx:Blk w x T cs) (hn:¬ q.own n x):Blk w' x T cs:=(s.kept.block x hx.lt hn).trans hx
end Go.Proofs.YtgcnnbjbdfgglaaGreat
namespace Go.Proofs.YtgcnnbjbdfgglaaGreat
open Go.RowKit
section
variable {w:World} {q:Qh} {s:Bnk} (a:BkAt w q s)
include a
theorem BkAt.c0:w.cell? ⟨q.b,0,none⟩ = some (.slice q.ta s.d.t.n q.tc):=(a.blk.cell 0).trans rfl
theorem BkAt.c3:w.cell? ⟨q.b,3,none⟩ = some (.int .i64 s.cut):=(a.blk.cell 3).trans rfl
theorem BkAt.c4:w.cell? ⟨q.b,4,none⟩ = some (.int .i64 s.close):=(a.blk.cell 4).trans rfl
theorem BkAt.c5:w.cell? ⟨q.b,5,none⟩ = some q.dv:=(a.blk.cell 5).trans rfl
theorem BkAt.c6:w.cell? ⟨q.b,6,none⟩ = some (.int .i64 s.N):=(a.blk.cell 6).trans rfl
theorem BkAt.c7:w.cell? ⟨q.b,7,none⟩ = some (.pointer (some ⟨q.h.l,0,none⟩)):=(a.blk.cell 7).trans rfl
theorem BkAt.c8:w.cell? ⟨q.b,8,none⟩ = some (.pointer (some ⟨q.h.g,0,none⟩)):=(a.blk.cell 8).trans rfl
theorem BkAt.c9:w.cell? ⟨q.b,9,none⟩ = some (.pointer (some ⟨q.k.b,0,none⟩)):=(a.blk.cell 9).trans rfl
theorem BkAt.c10:w.cell? ⟨q.b,10,none⟩ = some (.pointer (some ⟨q.e.x,0,none⟩)):=(a.blk.cell 10).trans rfl
theorem BkAt.c11:w.cell? ⟨q.b,11,none⟩ = some (.int .i64 s.now):=(a.blk.cell 11).trans rfl
theorem BkAt.c12:w.cell? ⟨q.b,12,none⟩ = some (.slice (some ⟨q.fb,0,none⟩) s.N q.fc):=(a.blk.cell 12).trans rfl
theorem BkAt.fr (i:Nat):w.frozen? ⟨q.b,i,none⟩ = false:=a.blk.frozen i
theorem BkAt.flc {i:Nat} (hi:i < s.N):w.cell? ⟨q.fb,i,none⟩ = some (.bool (s.fl i)):=a.flr.cell1 hi
end
set_option maxRecDepth 100000 in
theorem Bk.bkLedger {w:World} {q:Qh} {s:Bnk} (a:BkAt w q s):Calls Tryz.prog 23 #[.pointer (some ⟨q.b,0,none⟩)] w fun e w' => e = .returned (.pointer (some ⟨q.h.l,0,none⟩))∧w' = w:=by
 have c:=a.c7
 clear a
 go_enter Tryz.func23,Tryz.ntmps23
 go_wp2
 go_ret
 exact ⟨rfl,rfl⟩
set_option maxRecDepth 100000 in
theorem Bk.bkGuard {w:World} {q:Qh} {s:Bnk} (a:BkAt w q s):Calls Tryz.prog 20 #[.pointer (some ⟨q.b,0,none⟩)] w fun e w' => e = .returned (.pointer (some ⟨q.h.g,0,none⟩))∧w' = w:=by
 have c:=a.c8
 clear a
 go_enter Tryz.func20,Tryz.ntmps20
 go_wp2
 go_ret
 exact ⟨rfl,rfl⟩
set_option maxRecDepth 100000 in
theorem Bk.bkBook {w:World} {q:Qh} {s:Bnk} (a:BkAt w q s):Calls Tryz.prog 14 #[.pointer (some ⟨q.b,0,none⟩)] w fun e w' => e = .returned (.pointer (some ⟨q.k.b,0,none⟩))∧w' = w:=by
 have c:=a.c9
 clear a
 go_enter Tryz.func14,Tryz.ntmps14
 go_wp2
 go_ret
 exact ⟨rfl,rfl⟩
def Bnk.phase (s:Bnk):Int:=phaseI s.cut s.close s.now
set_option maxRecDepth 100000 in
set_option maxHeartbeats 4000000 in
theorem Bk.bkPhase {w:World} {q:Qh} {s:Bnk} (a:BkAt w q s):Calls Tryz.prog 57 #[.pointer (some ⟨q.b,0,none⟩)] w fun e w' => e = .returned (.int .i64 s.phase)∧Below w.heap.size w w':=by
 have c3:=a.c3
 have c4:=a.c4
 have c5:=a.c5
 have c11:=a.c11
 have HP:=Lib.hid (fun W => Bk.phaseD s.cut s.close q.dv s.now W)
 have HD:=Lib.hid (Below.refl w.heap.size w).drew
 show Calls _ _ _ _ fun e w' => e = .returned (.int .i64 (phaseI s.cut s.close s.now))∧_
 clear a
 generalize s.cut = cut at *
 generalize s.close = close at *
 generalize s.now = now at *
 generalize q.dv = dv at *
 go_enter Tryz.func57,Tryz.ntmps57
 go_upto_region 1 with (fail)
 go_still_tail 9,(by kernel_rfl)
 change wpList _ _ _ _ _ w.drew
 go_wp2_with fail
 refine (HP.out _).mono ?_
 rintro e w1 ⟨rfl,hb⟩
 have HB:=Lib.hid (HD.out.trans (hb.mono HD.out.size))
 clear hb
 go_wp2
 go_ret
 exact ⟨rfl,HB.out⟩
end Go.Proofs.YtgcnnbjbdfgglaaGreat
