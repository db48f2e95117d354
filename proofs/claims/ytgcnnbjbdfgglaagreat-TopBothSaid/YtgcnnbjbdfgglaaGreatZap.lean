/- LAW TopBoth: of every configuration of a bank and every list of byte strings the given function TopBoth returns true and leaves its arguments as they were; no condition. A part of what it needs. -/
import Derived.Test.YtgcnnbjbdfgglaaGreatZao
import Derived.Maps.RangeWalk
import Derived.Maps.AppendAt
import Derived.Deep.RegionWith
import Derived.Shelf.SlSortCmp.QuietGrown
namespace Go.Proofs.YtgcnnbjbdfgglaaGreat
open Go.RowKit
open Classical in
noncomputable def failB (d:Gd) (ps:List Pst) (m:Nat):Bool:=decide (¬ PassB d m ps)
theorem failB_no {d:Gd} {ps:List Pst} {m:Nat}:failB d ps m = false ↔ PassB d m ps:=by unfold failB; simp
set_option maxRecDepth 100000 in
set_option maxHeartbeats 1000000 in
theorem Bk.bookC {w:World} {h:Gh} {d:Gd} (a:GuAt w h d) (m:Nat) (hm:m < d.L.n) (v:Value) (ps:List Pst) (hp:SlP w v ps) (hn:(ps.length:Int)≤4000) (ha:∀ p ∈ ps,In64 p.a) (bg bb:Nat) (hg:w.cell? ⟨bg,0,none⟩ = some (.pointer (some ⟨h.g,0,none⟩))) (hb:w.cell? ⟨bb,0,none⟩ = some v) :
    Calls Tryz.prog 263 #[.int .i64 m,.pointer (some ⟨bg,0,none⟩),.pointer (some ⟨bb,0,none⟩)] w fun e w' => e = .returned (.bool (d.flag m || failB d ps m))∧Below w.heap.size w w':=by
 have HF:=Lib.hid (Bk.fails a m hm v ps hp hn ha)
 obtain ⟨pa,pc,rfl,_⟩:=hp
 have g3:=(a.gu.cell 3).trans rfl
 have cf:=a.flags.cell1 hm
 have q1:(m:Int) < (d.L.n:Int):=by omega
 cases hfl:d.flag m with
 | true =>
  rw [hfl] at cf
  clear HF ha hfl a
  go_enter Tryz.func263,Tryz.ntmps263
  go_wp2
  go_ret
  exact ⟨rfl,Below.refl _ _⟩
 | false =>
  rw [hfl] at cf
  clear ha hfl a
  go_enter Tryz.func263,Tryz.ntmps263
  go_wp2_with fail
  refine HF.out.mono ?_
  rintro e w1 ⟨x,rfl,hb1,hx⟩
  have HB:=Lib.hid hb1
  have HX:=Lib.hid hx
  clear hb1 hx
  by_cases h0:x = 0
  · have h1:(x != 0) = false:=by simp [h0]
    have HR:=Lib.hid (failB_no.2 (HX.out.1 h0))
    clear h0
    go_wp2
    go_ret
    exact ⟨by rw [HR.out]; rfl,HB.out⟩
  · have h1:(x != 0) = true:=by simp [h0]
    have HR:=Lib.hid (show failB d ps m = true by
     cases hh:failB d ps m with
     | true => rfl
     | false => exact absurd (HX.out.2 (failB_no.1 hh)) h0)
    clear h0
    go_wp2
    go_ret
    exact ⟨by rw [HR.out]; rfl,HB.out⟩
theorem IdsAt.slK {w:World} {v:Value} {zs:List Int} (h:IdsAt w v zs):SlK w v 1 zs.length (fun i _ => .int .i64 (zs.getD i 0)):=by
 obtain ⟨a,c,rfl,hc⟩:=h
 refine ⟨a,c,rfl,fun hn => ?_⟩
 obtain ⟨b,o,rfl,h2⟩:=hc hn
 refine ⟨b,o,rfl,fun i j hi hj => ?_⟩
 obtain rfl:j = 0:=by omega
 rw [Nat.mul_one,Nat.add_zero]
 exact h2 i hi
theorem TPost.same {h:Gh} {d:Gd} {w w':World} (a:GuS w h d NoneS) (hb:Below w.heap.size w w') (c:Int):TPost h d w (.returned (.int .i64 c)) w':=⟨c,d,h,rfl,a.below hb,Step.of_below hb _ _,⟨rfl,rfl⟩,id⟩
theorem book_good {d:Gd} {ps:List Pst} {bal:Nat→Nat→Int} (hin:∀ p ∈ ps,0≤p.m∧p.m < d.L.n) (hr:rowsOf d.L.bal ps = some bal) (hz:∀ m:Nat,(∃ p ∈ ps,p.m = m)→PassB d m ps) (hg:Good d):Good { d with L:={ d.L with bal:=bal } }:=by
 refine ⟨fun m hm hf => ?_,hg.no⟩
 have h1:=rowsOf_row ps d.L.bal bal (fun p hp => (hin p hp).1) hr m
 rw [passB_nil]
 show Passes d.t (d.lim m) (bal m)
 by_cases hmv:∃ p ∈ ps,p.m = m
 · obtain ⟨_,row,h2,h3⟩:=hz m hmv
   rw [h1] at h2
   cases h2
   exact h3
 · have h2:=rowOf_other ps m (d.L.bal m) (fun p hp e => hmv ⟨p,hp,e⟩)
   rw [h1] at h2
   have h3:bal m = d.L.bal m:=by injection h2
   rw [h3]
   exact passB_nil.1 (hg.fl m hm hf)
set_option maxRecDepth 100000 in
set_option maxHeartbeats 4000000 in
theorem Bk.book {w:World} {h:Gh} {d:Gd} (a:GuS w h d NoneS) (v:Value) (ps:List Pst) (hp:SlP w v ps) (hn:(ps.length:Int)≤4000) (ha:∀ p ∈ ps,In64 p.a) (hin:∀ p ∈ ps,0≤p.m∧p.m < d.L.n) :
    Calls Tryz.prog 236 #[.pointer (some ⟨h.g,0,none⟩),v] w (TPost h d w):=by
 obtain ⟨pa,pc,rfl,hpc⟩:=hp
 have HP:=Lib.hid (show SlP w (.slice pa ps.length pc) ps from ⟨pa,pc,rfl,hpc⟩)
 have HA:=Lib.hid a
 have HPA:=Lib.hid ha
 have HIN:=Lib.hid hin
 have hA0:=((Below.refl w.heap.size w).alloc (Nat.le_refl _) (.cells #[.pointer (some ⟨h.g,0,none⟩)] 73))
 have hA1:=hA0.alloc (by simp) (.cells #[.slice pa ps.length pc] 66)
 have x0:((w.alloc (.cells #[.pointer (some ⟨h.g,0,none⟩)] 73)).alloc (.cells #[.slice pa ps.length pc] 66)).cell? ⟨w.heap.size,0,none⟩ = some (.pointer (some ⟨h.g,0,none⟩)):=by
  have:=((Blk.new w 73 #[.pointer (some ⟨h.g,0,none⟩)]).alloc (.cells #[.slice pa ps.length pc] 66)).cell 0
  exact this
 have x1:((w.alloc (.cells #[.pointer (some ⟨h.g,0,none⟩)] 73)).alloc (.cells #[.slice pa ps.length pc] 66)).cell? ⟨w.heap.size + 1,0,none⟩ = some (.slice pa ps.length pc):=by
  have:=(Blk.new (w.alloc (.cells #[.pointer (some ⟨h.g,0,none⟩)] 73)) 66 #[.slice pa ps.length pc]).cell 0
  rw [World.size_alloc] at this
  exact this
 have HX:=Lib.hid (And.intro x0 x1)
 have HW:=Lib.hid hA1
 have HSZ:Hid (((w.alloc (.cells #[.pointer (some ⟨h.g,0,none⟩)] 73)).alloc (.cells #[.slice pa ps.length pc] 66)).heap.size = w.heap.size + 2):=Lib.hid (by simp)
 have g0:=(hA1.cell (p:=⟨h.g,0,none⟩) a.gu.lt).trans a.c0
 have HT:=Lib.hid (Bk.ltext (a.led.below hA1) a.ok.lok)
 clear a hpc ha hin hA0 hA1 x0 x1
 go_enter Tryz.func236,Tryz.ntmps236
 go_upto_region 1 with (fail)
 generalize hW:(w.alloc (.cells #[.pointer (some ⟨h.g,0,none⟩)] 73)).alloc (.cells #[.slice pa ps.length pc] 66) = W at *
 clear hW
 obtain ⟨x0,x1⟩:=HX.out
 go_wp2_with fail
 refine HT.out.mono ?_
 rintro e w1 ⟨s,rfl,hs,hb1⟩
 have HB1:=Lib.hid hb1
 have HR:=Lib.hid (Bk.lread w1 s hs)
 clear hs hb1 HT
 go_wp2_with fail
 refine HR.out.mono ?_
 rintro e w2 ⟨ov,x,rfl,hx0,hx1,hb2,hok⟩
 have HB2:=Lib.hid (HB1.out.trans (hb2.mono HB1.out.size))
 have HOK:=Lib.hid hok
 have HSZ1:=Lib.hid HB1.out.size
 clear hb2 hok HR HB1 g0
 by_cases hx:x = 0
 · subst hx
   obtain ⟨l,r,cap,L,rfl,hl,hlo,hl1,hr1⟩:=HOK.out rfl
   have y1:=(HB2.out.cell (p:=⟨w.heap.size + 1,0,none⟩) (by rw [HSZ.out]; show w.heap.size + 1 < _; omega)).trans x1
   have y0:=(HB2.out.cell (p:=⟨w.heap.size,0,none⟩) (by rw [HSZ.out]; show w.heap.size < _; omega)).trans x0
   have HWB2:=Lib.hid (HW.out.trans (HB2.out.mono HW.out.size))
   have HPO:=Lib.hid (Bk.post hl hlo _ ps (HP.out.below HWB2.out) hn HPA.out)
   have HL1:=Lib.hid (show W.heap.size≤l from Nat.le_trans HSZ1.out hl1)
   clear hl hlo hl1 hr1 HOK
   go_wp2_with fail
   refine HPO.out.mono ?_
   rintro e w3 ⟨c,rfl,hno,hyes,-⟩
   have hb3:Below W.heap.size W w3:=by
    by_cases hc:c = 0
    · obtain ⟨_,_,_,_,_,_,_,hk,_⟩:=hyes hc
      exact HB2.out.trans (hk.below HB2.out.size (fun k hk => by rw [hk]; exact HL1.out))
    · exact HB2.out.trans ((hno hc).mono HB2.out.size)
   have HB3:=Lib.hid hb3
   have z1:=(hb3.cell (p:=⟨w.heap.size + 1,0,none⟩) (by rw [HSZ.out]; show w.heap.size + 1 < _; omega)).trans x1
   have z0:=(hb3.cell (p:=⟨w.heap.size,0,none⟩) (by rw [HSZ.out]; show w.heap.size < _; omega)).trans x0
   have HWB3:=Lib.hid (HW.out.trans (HB3.out.mono HW.out.size))
   clear hno hyes hb3 HPO y0 y1
   by_cases hc:c = 0
   · subst hc
     have HMV:=Lib.hid (Bk.mvd (HP.out.below HWB3.out) hn)
     go_wp2_with fail
     refine HMV.out.mono ?_
     rintro e w4 ⟨wv,zs,rfl,hwn,hzl,hpz,hzp,hb4⟩
     have HOW:=Lib.hid hwn
     have HW3:=Lib.hid HWB3.out.size
     have hids:=ids_of_own hwn
     obtain ⟨wa,wcp,rfl⟩:∃ wa wcp,wv = .slice wa zs.length wcp:=by obtain ⟨x,y,e,_⟩:=hids; exact ⟨x,y,e⟩
     clear hwn
     have HZ:=Lib.hid (And.intro hzl (And.intro hpz hzp))
     have HB4:=Lib.hid (HB3.out.trans (hb4.mono HB3.out.size))
     have HWB4:=Lib.hid (HWB3.out.trans (hb4.mono HWB3.out.size))
     have u1:=(HB4.out.cell (p:=⟨w.heap.size + 1,0,none⟩) (by rw [HSZ.out]; show w.heap.size + 1 < _; omega)).trans x1
     have u0:=(HB4.out.cell (p:=⟨w.heap.size,0,none⟩) (by rw [HSZ.out]; show w.heap.size < _; omega)).trans x0
     have hzn:∀ z ∈ zs,0≤z∧z < d.L.n:=fun z hz => by obtain ⟨p,hp,e⟩:=hzp z hz; rw [e]; exact HIN.out p hp
     have HZN:=Lib.hid hzn
     have HANY:=Lib.hid (Bk.anyInt (n:=zs.length) (f:=fun i _ => .int .i64 (zs.getD i 0)) (hids.slK) (by omega) 263 #[.pointer (some ⟨w.heap.size,0,none⟩),.pointer (some ⟨w.heap.size + 1,0,none⟩)] (fun i => d.flag (zs.getD i 0).toNat || failB d ps (zs.getD i 0).toNat) (enters_of Tryz.func263 (by kernel_rfl) rfl) (fun i hi wx hbx => by
      have hz:=HZN.out (zs.getD i 0) (by simp [List.getD,List.getElem?_eq_getElem hi])
      have hbw:=HWB4.out.trans (hbx.mono HWB4.out.size)
      have:=Bk.bookC (HA.out.at.below hbw) (zs.getD i 0).toNat (by omega) _ ps (HP.out.below hbw) hn HPA.out w.heap.size (w.heap.size + 1) (Bk.kept hbx u0) (Bk.kept hbx u1)
      rw [show (((zs.getD i 0).toNat:Nat):Int) = zs.getD i 0 by omega] at this
      exact this))
     clear hids hzl hpz hzp hb4 hzn z0 z1 HMV
     go_wp2_with fail
     refine HANY.out.mono ?_
     rintro e w5 ⟨rfl,hb5⟩
     have HWB5:=Lib.hid (HWB4.out.trans (hb5.mono HWB4.out.size))
     have HB5:=Lib.hid (HB4.out.trans (hb5.mono HB4.out.size))
     have HOW5:=Lib.hid (own_below HOW.out hb5)
     have u1:=(HB5.out.cell (p:=⟨w.heap.size + 1,0,none⟩) (by rw [HSZ.out]; show w.heap.size + 1 < _; omega)).trans x1
     have u0:=(HB5.out.cell (p:=⟨w.heap.size,0,none⟩) (by rw [HSZ.out]; show w.heap.size < _; omega)).trans x0
     have HA5:=Lib.hid (HA.out.below HWB5.out)
     clear hb5 HANY
     cases hany:anyTo (fun i => d.flag (zs.getD i 0).toNat || failB d ps (zs.getD i 0).toNat) zs.length with
     | true =>
      clear u0 u1 hany
      go_wp2
      go_ret
      exact TPost.same HA.out HWB5.out 10
     | false =>
      have hpass:∀ m:Nat,(∃ p ∈ ps,p.m = m)→PassB d m ps:=fun m hm => by
       obtain ⟨p,hp,e⟩:=hm
       obtain ⟨i,hi,e2⟩:=List.getElem_of_mem (HZ.out.2.1 p hp)
       have h1:=anyTo_false.1 hany i hi
       have h2:zs.getD i 0 = (m:Int):=by rw [← e,← e2]; simp [List.getD,List.getElem?_eq_getElem hi]
       rw [h2,Int.toNat_natCast,Bool.or_eq_false_iff] at h1
       exact failB_no.1 h1.2
      have HPASS:=Lib.hid hpass
      have g0:=HA5.out.c0
      clear hpass hany
      go_upto_region 10 with (fail)
      have hdr:=(Below.refl w5.heap.size w5).drew
      have HA6:=Lib.hid (HA5.out.below hdr)
      have HWB6:=Lib.hid HWB5.out.drew
      have HOW6:=Lib.hid (own_below HOW5.out hdr)
      replace u0:w5.drew.cell? ⟨w.heap.size,0,none⟩ = _:=u0
      replace u1:w5.drew.cell? ⟨w.heap.size + 1,0,none⟩ = _:=u1
      replace g0:w5.drew.cell? ⟨h.g,0,none⟩ = _:=g0
      clear hdr HA5 HWB5 HOW5 HB5
      go_still_tail 5,(by kernel_rfl)
      change wpList _ _ _ _ _ w5.drew
      generalize w5.drew = w6 at *
      have HPO:=Lib.hid (Bk.post HA6.out.led HA6.out.ok.lok _ ps (HP.out.below HWB6.out) hn HPA.out)
      have HU:=Lib.hid (And.intro u0 u1)
      go_wp2_with fail
      refine HPO.out.mono ?_
      rintro e w7 ⟨c,rfl,hno,hyes,-⟩
      have huni:∃ d7 h7,GuS w7 h7 d7 (fun m => ∃ p ∈ ps,p.m = (m:Int))∧Step w6 h w7 h7 d.L.n∧(d7.L.n = d.L.n∧d7.t.n = d.t.n)∧(Good d→Good d7):=by
       by_cases hc:c = 0
       · obtain ⟨r,cap,bal,_,hrw,hl,h64,hk,hr⟩:=hyes hc
         obtain ⟨hG,hS⟩:=HA6.out.ledger (T:=fun m => ∃ p ∈ ps,p.m = (m:Int)) hl (hk.mono (fun k _ hk' => .inl hk')) (.inr hr) rfl rfl (rowsOf_ok h64 HA6.out.ok.lok) (fun m hm hT k hk' => by
          have h1:=rowsOf_row ps d.L.bal bal (fun p hp => (HIN.out p hp).1) hrw m
          have h2:=rowOf_other ps m (d.L.bal m) (fun p hp e => hT ⟨p,hp,e⟩)
          rw [h1] at h2
          have h3:bal m = d.L.bal m:=by injection h2
          show bal m k = _
          rw [h3])
         exact ⟨_,_,hG.less (fun m _ hm => by rcases hm with h | h; exact h.elim; exact h),hS,⟨rfl,rfl⟩,book_good HIN.out hrw HPASS.out⟩
       · have hb:=hno hc
         exact ⟨d,h,(HA6.out.below hb).less (fun m _ hm => hm.elim),Step.of_below hb _ _,⟨rfl,rfl⟩,id⟩
      obtain ⟨d7,h7,hG,hS,hsz7,hgood⟩:=huni
      have HG7:=Lib.hid hG
      have HS7:=Lib.hid hS
      have HD7:=Lib.hid (And.intro hsz7 hgood)
      have v0:=HS7.out.kept.cell HU.out.1 (fun ho => absurd (HA.out.ownlt ho) (Nat.lt_irrefl _))
      have HOW7:=Lib.hid (own_same HOW6.out (fun k hk => HS7.out.kept.block k (HOW6.out.lt k hk).2 (fun ho => by
       have h1:=HA.out.ownlt ho
       have h2:=(HOW6.out.lt k hk).1
       have h3:=HW3.out
       omega)))
      have HV:=Lib.hid v0
      have hlt6:w.heap.size < w6.heap.size:=block_lt_of_cell HU.out.1
      have HNO:=Lib.hid (show ∀ k,k = w.heap.size∨w3.heap.size≤k→k < w6.heap.size→¬ h7.own d.L.n k from fun k hk hlt ho => by
       rcases HS7.out.own k ho with h | h
       · have h1:=HA.out.ownlt h
         have h2:=HW3.out
         rcases hk with e | e <;> omega
       · omega)
      have HLT6:=Lib.hid hlt6
      have hzl:=HZ.out.1
      have HOL:=Lib.hid (show ∀ k,Value.ownBlock (.slice wa zs.length wcp) = some k→w3.heap.size≤k∧k < w6.heap.size from fun k hk => HOW6.out.lt k hk)
      clear hG hS hsz7 hgood hno hyes u0 u1 g0 HPO HA6 v0 hlt6 HOW6
      go_wp2
      go_loopw [42] (fun i wr => ∃ (k:Nat) (hr:Gh),k≤zs.length∧i = .int .i64 k∧GuS wr hr d7 (fun m => (∃ p ∈ ps,p.m = (m:Int))∧∀ j,j < k→zs.getD j 0 ≠ (m:Int))∧Step w7 h7 wr hr d.L.n∧wr.cell? ⟨w.heap.size,0,none⟩ = some (.pointer (some ⟨h.g,0,none⟩))∧wr.ownsRow w3.heap.size 3 1 (.slice wa zs.length wcp) zs.length (ints zs)) (fun i _ => zs.length - (intOf i).toNat)
      case atStart => exact ⟨0,h7,by omega,rfl,HG7.out.less (fun m _ hm => ⟨hm,fun j hj => by omega⟩),Step.refl _ _ _,HV.out,HOW7.out⟩
      case round =>
       obtain ⟨k,hr,hk,rfl,hG,hS,hv,hown⟩:=hrel
       by_cases hlt:k < zs.length
       · have q1:(k:Int) < (zs.length:Int):=by omega
         obtain ⟨g,cap,he,hg1,hg2⟩:=hown.form (by omega)
         have hwa:wa = some ⟨g,0,none⟩:=by injection he
         subst hwa
         have hz:=HZN.out (zs.getD k 0) (by simp [List.getD,List.getElem?_eq_getElem hlt])
         have cz:wr.cell? ⟨g,k,none⟩ = some (.int .i64 (zs.getD k 0)):=by
          rw [hown.cellAt k (by omega)]
          simp [ints,List.getD,List.getElem?_eq_getElem hlt]
         have hgg:hr.g = h.g:=Gh.pg (hS.g.trans HS7.out.g)
         have cw:=hG.c1
         rw [hgg] at cw
         have hmv:=Bk.gmoved hG (zs.getD k 0).toNat (by rw [HD7.out.1.1]; omega)
         rw [show (((zs.getD k 0).toNat:Nat):Int) = zs.getD k 0 by omega] at hmv
         have HMV:=Lib.hid hmv
         have HSr:=Lib.hid hS
         have HOr:=Lib.hid hown
         have HVr:=Lib.hid hv
         have HMZ:=Lib.hid (show ∀ q:Nat,q ≠ (zs.getD k 0).toNat→zs.getD k 0 ≠ (q:Int) from fun q hq e => hq (by omega))
         clear hG hS hown hmv he hgg hz
         generalize hzk:zs.getD k 0 = z at *
         have HZK:=Lib.hid hzk
         clear hzk
         go_wp2_with fail
         refine HMV.out.mono ?_
         rintro e w8 ⟨h8,rfl,hG8,hS8⟩
         rw [HD7.out.1.1] at hS8
         have HS8:=Lib.hid (HSr.out.trans hS8)
         have hno8:∀ k,k = w.heap.size∨w3.heap.size≤k→k < w6.heap.size→¬ hr.own d.L.n k:=fun k hk hlt ho => by
          rcases HSr.out.own k ho with h | h
          · exact HNO.out k hk hlt h
          · have:=HS7.out.kept.size; omega
         have hv8:=hS8.kept.cell hv (hno8 _ (.inl rfl) HLT6.out)
         have hown8:=own_same HOr.out (fun q hq => hS8.kept.block q (HOr.out.lt q hq).2 (hno8 q (.inr (HOL.out q hq).1) (HOL.out q hq).2))
         have HG8:=Lib.hid hG8
         have HV8:=Lib.hid (And.intro hv8 hown8)
         clear hG8 hS8 hv8 hown8 hno8 cz cw hv
         go_wp2
         go_roundw
         case rel => exact ⟨k + 1,h8,by omega,by go_num,HG8.out.less (fun q _ hq => ⟨hq.1.1,fun j hj => by
          by_cases e:j = k
          · subst e
            rw [HZK.out]
            exact HMZ.out q hq.2
          · exact hq.1.2 j (by omega)⟩),HS8.out,HV8.out.1,HV8.out.2⟩
         case measure => simp [intOf]; omega
       · obtain rfl:k = zs.length:=by omega
         have HGf:=Lib.hid (hG.less (T:=NoneS) (fun m _ hm => by
          obtain ⟨⟨p,hp,e⟩,hall⟩:=hm
          obtain ⟨i,hi,e2⟩:=List.getElem_of_mem (HZ.out.2.1 p hp)
          exact hall i hi (by rw [← e,← e2]; simp [List.getD,List.getElem?_eq_getElem hi])))
         have HSf:=Lib.hid hS
         clear hG hS hv hown
         go_wp2
         go_ret
         exact ⟨c,d7,hr,rfl,HGf.out,(Step.of_below HWB6.out h d.L.n).trans (HS7.out.trans HSf.out),HD7.out.1,HD7.out.2⟩
   · have hcb:(c != 0) = true:=by simp [hc]
     clear hc
     go_wp2
     go_ret
     exact TPost.same HA.out HWB3.out c
 · have hxb:(x != 0) = true:=by simp [hx]
   clear hx
   go_wp2
   go_ret
   exact TPost.same HA.out (HW.out.trans (HB2.out.mono HW.out.size)) x
end Go.Proofs.YtgcnnbjbdfgglaaGreat
namespace Go.Proofs.YtgcnnbjbdfgglaaGreat
open Go.RowKit
def legsOf (x:Ent):List Pst:=[⟨x.a,x.sc,-x.sell⟩,⟨x.b,x.sc,x.sell⟩,⟨x.b,x.bc,-x.buy⟩,⟨x.a,x.bc,x.buy⟩]
def legCells (x:Ent):Array Value:=#[.int .i64 x.a,.int .i64 x.sc,.int .i64 (-x.sell),.int .i64 x.b,.int .i64 x.sc,.int .i64 x.sell,.int .i64 x.b,.int .i64 x.bc,.int .i64 (-x.buy),.int .i64 x.a,.int .i64 x.bc,.int .i64 x.buy]
def LegsPost (x:Ent) (w:World) (e:Ending) (w':World):Prop:=∃ g,e = .returned (.slice (some ⟨g,0,none⟩) 4 4)∧Blk w' g 69 (legCells x)∧w.heap.size≤g∧Below w.heap.size w w'
theorem legs_slp {w:World} {g:Nat} {x:Ent} (h:Blk w g 69 (legCells x)):SlP w (.slice (some ⟨g,0,none⟩) 4 4) (legsOf x):=by
 refine ⟨some ⟨g,0,none⟩,4,rfl,fun _ => ⟨g,0,rfl,fun i p hp => ?_⟩⟩
 have hi:i < 4:=by have:=(List.getElem?_eq_some_iff.1 hp).1; simpa [legsOf] using this
 have:i = 0∨i = 1∨i = 2∨i = 3:=by omega
 rcases this with rfl | rfl | rfl | rfl
 all_goals
   simp [legsOf] at hp
   subst hp
   exact ⟨(h.cell _).trans rfl,(h.cell _).trans rfl,(h.cell _).trans rfl⟩
set_option maxRecDepth 100000 in
set_option maxHeartbeats 1000000 in
theorem Bk.legs (x:Ent) (hs:1≤x.sell∧x.sell≤9223372036854775807) (hb:1≤x.buy∧x.buy≤9223372036854775807) (w:World):Calls Tryz.prog 18 #[.agg x.deal] w (LegsPost x w):=by
 have hn1:wrap64 (-x.sell) = -x.sell:=by unfold wrap64; omega
 have hn2:wrap64 (-x.buy) = -x.buy:=by unfold wrap64; omega
 unfold Ent.deal
 clear hs hb
 go_enter Tryz.func18,Tryz.ntmps18
 go_wp2
 go_ret
 have hA:=(Below.refl w.heap.size w).alloc (Nat.le_refl _) (.cells x.deal 63)
 have hB:=Blk.new (w.alloc (.cells x.deal 63)) 69 (legCells x)
 rw [World.size_alloc] at hB
 exact ⟨w.heap.size + 1,rfl,hB,by omega,hA.alloc (by simp) _⟩
theorem GuS.ownty {w:World} {h:Gh} {d:Gd} {S:Nat→Prop} (a:GuS w h d S) {x:Nat} (hx:h.own d.L.n x):∃ T,Ty w x T∧T ≠ 131∧T ≠ 127:=by
 obtain ⟨tb,tof,tc,htv,htt⟩:=a.tty
 rcases hx with rfl | rfl | rfl | rfl | rfl | rfl | rfl | ⟨o,c,m,he⟩ | ⟨m,hm,rfl | rfl | rfl | rfl⟩
 · exact ⟨_,⟨_,a.gu⟩,by decide,by decide⟩
 · exact ⟨_,⟨_,a.led.hl⟩,by decide,by decide⟩
 · exact ⟨_,a.led.ty,by decide,by decide⟩
 · exact ⟨_,a.wor.ty,by decide,by decide⟩
 · exact ⟨_,a.aty,by decide,by decide⟩
 · exact ⟨_,a.lty,by decide,by decide⟩
 · exact ⟨_,a.fty,by decide,by decide⟩
 · rw [htv] at he
   simp only [Value.slice.injEq,Option.some.injEq,Addr.mk.injEq] at he
   obtain ⟨⟨rfl,_⟩,_⟩:=he
   exact ⟨_,htt,by decide,by decide⟩
 · exact ⟨_,(a.told m hm).1,by decide,by decide⟩
 · exact ⟨_,(a.told m hm).2.1,by decide,by decide⟩
 · exact ⟨_,(a.told m hm).2.2,by decide,by decide⟩
 · exact ⟨_,a.sty m hm,by decide,by decide⟩
theorem own_apart {w:World} {h:Gh} {d:Gd} {S:Nat→Prop} {k:Bh} {B:Bo} (a:GuS w h d S) (b:BoAt w k B) {x:Nat} (hx:h.own d.L.n x) (hk:k.own x):False:=by
 obtain ⟨T,ht,h1,h2⟩:=a.ownty hx
 rcases hk with e | e | e
 · exact ht.ne ⟨_,b.blk⟩ h1 e
 · exact (b.map.ne ht) e
 · exact ht.ne (own_ty b.own e) h2 rfl
structure PS (w:World) (h:Gh) (d:Gd) (k:Bh) (B:Bo):Prop where
  gu:GuS w h d NoneS
  bo:BoAt w k B
  mem:B.mem≤d.L.n
def own2 (h:Gh) (k:Bh) (n:Nat) (x:Nat):Prop:=h.own n x∨k.own x
structure Step2 (w:World) (h:Gh) (k:Bh) (w':World) (h':Gh) (k':Bh) (n:Nat):Prop where
  g:(h'.g,h'.l) = (h.g,h.l)
  b:k'.b = k.b
  kept:Kept (own2 h k n) w w'
  own:∀ x,own2 h' k' n x→own2 h k n x∨w.heap.size≤x
theorem Step2.of_below {w w':World} (hb:Below w.heap.size w w') (h:Gh) (k:Bh) (n:Nat):Step2 w h k w' h k n:=⟨rfl,rfl,Kept.of_below hb,fun _ hx => .inl hx⟩
theorem Step2.trans {a b c:World} {h h1 h2:Gh} {k k1 k2:Bh} {n:Nat} (x:Step2 a h k b h1 k1 n) (y:Step2 b h1 k1 c h2 k2 n):Step2 a h k c h2 k2 n :=
 ⟨y.g.trans x.g,y.b.trans x.b,⟨y.kept.os.trans x.kept.os,y.kept.tape.trans x.kept.tape,y.kept.output.trans x.kept.output,Nat.le_trans x.kept.size y.kept.size,fun q hq hn => (y.kept.block q (Nat.lt_of_lt_of_le hq x.kept.size) (fun h' => by rcases x.own q h' with h | h; exact hn h; omega)).trans (x.kept.block q hq hn)⟩,
   fun q hq => by
    rcases y.own q hq with h | h
    · exact x.own q h
    · exact .inr (Nat.le_trans x.kept.size h)⟩
theorem PS.below {w w':World} {h:Gh} {d:Gd} {k:Bh} {B:Bo} (p:PS w h d k B) (hb:Below w.heap.size w w'):PS w' h d k B:=⟨p.gu.below hb,p.bo.below hb,p.mem⟩
theorem PS.ownlt {w:World} {h:Gh} {d:Gd} {k:Bh} {B:Bo} (p:PS w h d k B) {x:Nat} (hx:own2 h k d.L.n x):x < w.heap.size:=by
 rcases hx with e | e
 · exact p.gu.ownlt e
 · exact p.bo.ownlt e
theorem PS.frame {w w':World} {h:Gh} {d:Gd} {k:Bh} {B:Bo} (p:PS w h d k B) (hs:∀ x,own2 h k d.L.n x→w'.heap[x]? = w.heap[x]?):PS w' h d k B :=
 ⟨p.gu.frame fun x hx => hs x (.inl hx),p.bo.frame fun x hx => hs x (.inr hx),p.mem⟩
theorem PS.gstep {w w':World} {h h':Gh} {d d':Gd} {k:Bh} {B:Bo} (p:PS w h d k B) (g:GuS w' h' d' NoneS) (s:Step w h w' h' d.L.n) (hn:d'.L.n = d.L.n):PS w' h' d' k B∧Step2 w h k w' h' k d.L.n :=
 ⟨⟨g,p.bo.frame fun x hx => s.kept.block x (p.bo.ownlt hx) (fun ho => own_apart p.gu p.bo ho hx),by rw [hn]; exact p.mem⟩,
   s.g,rfl,s.kept.mono (fun _ _ h => .inl h),fun x hx => by
    rcases hx with e | e
    · rcases s.own x e with h1 | h1
      · exact .inl (.inl h1)
      · exact .inr h1
    · exact .inl (.inr e)⟩
theorem PS.bstep {w w':World} {h:Gh} {d:Gd} {k k':Bh} {B B':Bo} (p:PS w h d k B) (b:BoAt w' k' B') (s:BSt w k w' k') (hm:B'.mem = B.mem):PS w' h d k' B'∧Step2 w h k w' h k' d.L.n :=
 ⟨⟨p.gu.frame fun x hx => s.kept.block x (p.gu.ownlt hx) (fun ho => own_apart p.gu p.bo hx ho),b,by rw [hm]; exact p.mem⟩,
   rfl,s.b,s.kept.mono (fun _ _ h => .inr h),fun x hx => by
    rcases hx with e | e
    · exact .inl (.inl e)
    · rcases s.own x e with h1 | h1
      · exact .inl (.inr h1)
      · exact .inr h1⟩
def cnt (B:Bo):Nat:=(List.range B.n).countP fun i => decide ((B.e i).st = 2)
theorem cnt_le (B:Bo):cnt B≤B.n:=by unfold cnt; have:=List.countP_le_length (p:=fun i => decide ((B.e i).st = 2)) (l:=List.range B.n); simpa using this
theorem countP_one {n i:Nat} (hi:i < n) (p q:Nat→Bool) (hp:p i = true) (hq:q i = false) (he:∀ j,j ≠ i→q j = p j):(List.range n).countP q + 1 = (List.range n).countP p:=by
 induction n with
 | zero => omega
 | succ n ih =>
  rw [List.range_succ,List.countP_append,List.countP_append]
  by_cases e:i = n
  · subst e
    have:(List.range i).countP q = (List.range i).countP p:=by
     apply List.countP_congr
     intro x hx
     have:=List.mem_range.1 hx
     rw [he x (by omega)]
    rw [this]
    simp [hp,hq]
  · have h1:=ih (by omega)
    have h2:=he n (Ne.symm e)
    simp only [List.countP_cons,List.countP_nil,h2]
    omega
theorem cnt_upd {B:Bo} {i:Nat} (hi:i < B.n) (h2:(B.e i).st = 2) {x:Ent} (hx:x.st = 3):cnt (B.upd i x) + 1 = cnt B:=by
 unfold cnt
 refine countP_one hi _ _ (by simp [h2]) (by simp [Bo.upd,hx]) fun j hj => by simp [Bo.upd,hj]
def TryPost (h:Gh) (d:Gd) (k:Bh) (B:Bo) (w:World) (e:Ending) (w':World):Prop:=∃ c d' h' B' k',e = .returned (.int .i64 c)∧PS w' h' d' k' B'∧Step2 w h k w' h' k' d.L.n∧(d'.L.n = d.L.n∧d'.t.n = d.t.n)∧(Good d→Good d')∧BoStep B B' (fun _ => False)∧(c = 0→cnt B' + 1 = cnt B)∧(c ≠ 0→cnt B' = cnt B)∧B'.n = B.n
theorem TryPost.no {h:Gh} {d:Gd} {k:Bh} {B:Bo} {w w':World} (p:PS w h d k B) (hb:Below w.heap.size w w') {c:Int} (hc:c ≠ 0):TryPost h d k B w (.returned (.int .i64 c)) w' :=
 ⟨c,d,h,B,k,rfl,p.below hb,Step2.of_below hb _ _ _,⟨rfl,rfl⟩,id,BoStep.refl B _,fun h => absurd h hc,fun _ => rfl,rfl⟩
set_option maxRecDepth 100000 in
set_option maxHeartbeats 2000000 in
theorem Bk.tryOne {w:World} {h:Gh} {d:Gd} {k:Bh} {B:Bo} (p:PS w h d k B) (id:Int) (hi:In64 id):Calls Tryz.prog 201 #[.pointer (some ⟨h.g,0,none⟩),.pointer (some ⟨k.b,0,none⟩),.int .i64 id] w (TryPost h d k B w):=by
 have HP:=Lib.hid p
 have HI:=Lib.hid hi
 have HD:=Lib.hid (Bk.dealOf p.bo id hi)
 clear p hi
 unfold Ent.deal at HD
 go_enter Tryz.func201,Tryz.ntmps201
 go_wp2_with fail
 refine HD.out.mono ?_
 rintro e w1 ⟨rfl,hb1⟩
 have HB1:=Lib.hid hb1
 have hA:=(Below.refl w1.heap.size w1).alloc (Nat.le_refl _) (.cells (B.get id).deal 63)
 unfold Ent.deal at hA
 have HA:=Lib.hid hA
 have HB2:=Lib.hid (HB1.out.trans (hA.mono HB1.out.size))
 have HBK:=Lib.hid (show Blk (w1.alloc (.cells #[.int .i64 (B.get id).id,.int .i64 (B.get id).a,.int .i64 (B.get id).b,.int .i64 (B.get id).sc,.int .i64 (B.get id).bc,.int .i64 (B.get id).sell,.int .i64 (B.get id).buy] 63)) w1.heap.size 63 _ from Blk.new _ _ _)
 clear hb1 hA
 have hget:B.get id = match B.ix id with | none => Ent.none | some i => B.e i:=rfl
 cases hx:B.ix id with
 | none =>
  clear hget hx
  simp only [Option.isSome_none]
  go_wp2
  go_ret
  exact TryPost.no HP.out HB2.out (by omega)
 | some i =>
  rw [hx] at hget
  replace hget:B.get id = B.e i:=hget
  obtain ⟨i1,i2⟩:=HP.out.bo.ok.ix2 _ _ hx
  have hst0:B.state id = (B.e i).st:=by unfold Bo.state; rw [hx]
  have HST:=Lib.hid (Bk.state (HP.out.bo.below HB2.out) id HI.out)
  rw [hst0] at HST
  rw [hget] at HB2 HBK HST HA
  have HI1:=Lib.hid (And.intro i1 (And.intro hst0 (HP.out.bo.ok.ent i i1)))
  rw [hget]
  clear hget hx i1 i2 hst0
  simp only [Option.isSome_some]
  generalize hX:B.e i = x at *
  have HX:=Lib.hid hX
  clear hX
  by_cases hs2:x.st = 2
  · have hsb:(x.st != 2) = false:=by simp [hs2]
    have HS2:=Lib.hid hs2
    have hok:=HI1.out.2.2
    have HLG:=Lib.hid (fun w => Bk.legs x hok.se hok.bu w)
    have HOK:=Lib.hid hok
    unfold Ent.deal at HLG
    have y0:=HBK.out.cell 0
    have y1:=HBK.out.cell 1
    have y2:=HBK.out.cell 2
    have y3:=HBK.out.cell 3
    have y4:=HBK.out.cell 4
    have y5:=HBK.out.cell 5
    have y6:=HBK.out.cell 6
    clear hs2 hok HBK
    go_wp2_with fail
    refine HST.out.mono ?_
    rintro e w2 ⟨rfl,rfl⟩
    go_wp2_with fail
    refine (HLG.out _).mono ?_
    rintro e w3 ⟨g,rfl,hbk,_,hb3⟩
    have HB3:=Lib.hid (HB2.out.trans (hb3.mono HB2.out.size))
    have hok:=HOK.out
    have hp3:=HP.out.below HB3.out
    have hmem:=HP.out.mem
    have HBO:=Lib.hid (Bk.book hp3.gu _ (legsOf x) (legs_slp hbk) (by simp [legsOf]) (by
     have h1:=hok.se
     have h2:=hok.bu
     intro p hp
     simp [legsOf] at hp
     unfold In64
     rcases hp with rfl | rfl | rfl | rfl
     all_goals (dsimp only; omega)) (by
     have h1:=hok.a0
     have h2:=hok.b0
     intro p hp
     simp [legsOf] at hp
     rcases hp with rfl | rfl | rfl | rfl
     all_goals (dsimp only; omega)))
    have HP3:=Lib.hid hp3
    clear hbk hb3 hok hp3 y0 y1 y2 y3 y4 y5 y6
    go_wp2_with fail
    refine HBO.out.mono ?_
    rintro e w4 ⟨c,d4,h4,rfl,hg4,hst4,hsz4,hgd4⟩
    obtain ⟨hp4,hs4⟩:=HP3.out.gstep hg4 hst4 hsz4.1
    have HP4:=Lib.hid hp4
    have HS4:=Lib.hid ((Step2.of_below HB3.out h k d.L.n).trans hs4)
    have HD4:=Lib.hid (And.intro hsz4 hgd4)
    clear hg4 hst4 hsz4 hgd4 hp4 hs4
    by_cases hc:c = 0
    · subst hc
      have HSE:=Lib.hid (Bk.settle HP4.out.bo id HI.out (by rw [HI1.out.2.1]; exact HS2.out))
      go_wp2_with fail
      refine HSE.out.mono ?_
      rintro e w5 ⟨B5,k5,hb5,hs5,hst5,rfl,j,hj,hj2,hB5⟩
      obtain ⟨hp5,hS5⟩:=HP4.out.bstep hb5 hs5 hst5.mem
      have HP5:=Lib.hid hp5
      have HS5:=Lib.hid hS5
      have HST5:=Lib.hid hst5
      have HC5:=Lib.hid (show cnt B5 + 1 = cnt B∧B5.n = B.n by rw [hB5]; exact ⟨cnt_upd hj hj2 rfl,rfl⟩)
      clear hb5 hs5 hst5 hB5 hp5 hS5
      go_wp2
      go_ret
      exact ⟨0,d4,h4,B5,k5,rfl,HP5.out,HS4.out.trans (by have:=HS5.out; rw [HD4.out.1.1] at this; exact this),HD4.out.1,HD4.out.2,HST5.out,fun _ => HC5.out.1,fun h => absurd rfl h,HC5.out.2⟩
    · have hcb:(c != 0) = true:=by simp [hc]
      have HC:=Lib.hid hc
      clear hc
      go_wp2
      go_ret
      exact ⟨c,d4,h4,B,k,rfl,HP4.out,HS4.out,HD4.out.1,HD4.out.2,BoStep.refl B _,fun h => absurd h HC.out,fun _ => rfl,rfl⟩
  · have hsb:(x.st != 2) = true:=by simp [hs2]
    clear hs2 HBK
    go_wp2_with fail
    refine HST.out.mono ?_
    rintro e w2 ⟨rfl,rfl⟩
    go_wp2
    go_ret
    exact TryPost.no HP.out HB2.out (by omega)
end Go.Proofs.YtgcnnbjbdfgglaaGreat
namespace Go.Proofs.YtgcnnbjbdfgglaaGreat
open Go.RowKit
open Go.Maps (Keyed keyOf_int_mk)
structure GMap (w:World) (mb n base:Nat) (F:Int→Option Value) (L:Int→List Int):Prop where
  map:IMap w mb n (.slice none 0 0) F
  lt:mb < base
  own:∀ k v,F k = some v→w.ownsRow base 2 1 v (L k).length (ints (L k))
  no:∀ k,F k = none→L k = []
  ap:∀ k k' v v',k ≠ k'→F k = some v→F k' = some v'→v.ownBlock = none∨v.ownBlock ≠ v'.ownBlock
theorem GMap.start {w:World} {mb base:Nat} (h:IMap w mb 0 (.slice none 0 0) (fun _ => none)) (hlt:mb < base):GMap w mb 0 base (fun _ => none) (fun _ => []) :=
 ⟨h,hlt,fun _ _ h => (by cases h),fun _ _ => rfl,fun _ _ _ _ _ h => (by cases h)⟩
def IRan (w:World) (mb r n:Nat) (z:Value) (F:Int→Option Value) (cnt:Nat):Prop :=
 ∃ D left,w.ranges Tryz.prog 3 heldElem mb r n D left cnt∧(∀ k:Int,In64 k→D.atKey (.int .i64 k) (.held z) = .held ((F k).getD z)∧Maps.has D (.int .i64 k) = (F k).isSome)∧∀ kl,left kl = true→Maps.has D kl = true
section
variable (w:World) {ops:Array Oper} {rest:List Oper} {o:Oper} {a:Act} {Q:Exit→Act→World→Prop}
theorem wpList_range_imap (hg:o.guard = none) (m:Operand) (t:TypeId) (hop:o.op = Op.range t m) (e:TypeId) (ht:Tryz.prog.underlying t = some (.map 3 e)) (b n:Nat) (z:Value) (F:Int→Option Value)
    (hm:a.eval m = .map (some b)) (hown:IMap w b n z F)
    (hK:∀ w' cnt,IRan w' b w.heap.size n z F cnt→w.grownBy w' none→w'.heap.size = w.heap.size + 1→wpList Tryz.prog ops Q rest (a.put o.dst (.pointer (some ⟨w.heap.size,0,none⟩))) w') :
    wpList Tryz.prog ops Q (o :: rest) a w:=by
 obtain ⟨D,h1,h2⟩:=hown
 exact wpList_range_own w hg m t hop 3 e keyInt ht heldElem b n D hm h1 (fun w' hr hg' hs => hK w' _ ⟨D,_,hr,h2,fun _ h => h⟩ hg' hs)
theorem wpList_next_imap (hg:o.guard = none) (it:Operand) (hop:o.op = Op.next it false) (b r n:Nat) (z:Value) (F:Int→Option Value) (cnt:Nat)
    (hit:a.eval it = .pointer (some ⟨r,0,none⟩)) (h:IRan w b r n z F cnt)
    (hDone:wpList Tryz.prog ops Q rest (a.put o.dst (.tuple #[.bool false])) w)
    (hMore:∀ (x:Int) (v:Value) (w':World) (cnt':Nat),In64 x→F x = some v→IRan w' b r n z F cnt'→cnt' < cnt→w.grownBy w' (some r)→w'.heap.size = w.heap.size →
      (Instr.entry (.pointer (some ⟨r,0,none⟩))).run Tryz.prog w' = .ok (.tuple #[.int .i64 x,v]) w'→wpList Tryz.prog ops Q rest (a.put o.dst (.tuple #[.bool true,.int .i64 x,v])) w') :
    wpList Tryz.prog ops Q (o :: rest) a w:=by
 obtain ⟨D,left,h1,h2,h3⟩:=h
 refine wpList_next_ranges w hg it hop 3 keyInt heldElem (Value.int .i64) (fun v:Value => v) (fun key kl hkey => by obtain ⟨x,rfl,_⟩:=Maps.keyOf_int_inv Tryz.underlying3 hkey; exact ⟨x,rfl⟩) (fun v y _ => ⟨v,rfl⟩) b r n D left cnt hit h1 (fun _ _ => hDone)
   (fun x v kl y w' cnt' hkey hlk hv hat hrg hlt hgr hsz hen => ?_)
 obtain ⟨x',ex,rfl,hw⟩:=Maps.keyOf_int_inv Tryz.underlying3 hkey
 cases ex
 have hx:In64 x:=by
  simp [Lit.wf] at hw
  unfold In64
  have:IntKind.i64.min = -9223372036854775808:=rfl
  omega
 obtain ⟨h4,h5⟩:=h2 x hx
 have h6:=h3 _ hlk
 rw [h5] at h6
 obtain ⟨u,hu⟩:=Option.isSome_iff_exists.1 h6
 have h7:=hat (.held z)
 rw [h4,hu] at h7
 simp only [heldElem,Option.some.injEq] at hv
 subst hv
 simp only [Option.getD_some,DataW.held.injEq] at h7
 subst h7
 exact hMore x u w' cnt' hx hu ⟨D,_,hrg,h2,fun kl hkl => h3 kl (by simp only [Bool.and_eq_true] at hkl; exact hkl.1)⟩ hlt hgr hsz hen
end
def legL (x:Ent) (k:Nat) (c:Int):List Int:=((legsOf x).take k).filterMap fun p => if p.c = c then some p.a else none
theorem legL_step (x:Ent) {k:Nat} {p:Pst} (hp:(legsOf x)[k]? = some p) (c:Int):legL x (k + 1) c = if c = p.c then legL x k p.c ++ [p.a] else legL x k c:=by
 have hk:=(List.getElem?_eq_some_iff.1 hp).1
 have hv:=(List.getElem?_eq_some_iff.1 hp).2
 unfold legL
 rw [List.take_succ_eq_append_getElem hk,List.filterMap_append,hv]
 by_cases h:c = p.c
 · subst h
   simp
 · rw [if_neg h]
   simp [show ¬ p.c = c from fun e => h e.symm]
theorem legL_len (x:Ent) (k:Nat) (c:Int):(legL x k c).length≤4:=by
 unfold legL
 refine Nat.le_trans (List.length_filterMap_le _ _) ?_
 rw [List.length_take]
 show min k 4≤4
 omega
theorem legL_sum (x:Ent) (c:Int):sumTo (fun i => (legL x 4 c).getD i 0) (legL x 4 c).length = 0:=by
 by_cases h1:x.sc = c
 · by_cases h2:x.bc = c
   · simp [legL,legsOf,h1,h2,sumTo] <;> omega
   · simp [legL,legsOf,h1,h2,sumTo] <;> omega
 · by_cases h2:x.bc = c
   · simp [legL,legsOf,h1,h2,sumTo] <;> omega
   · simp [legL,legsOf,h1,h2,sumTo]
theorem legL_in {x:Ent} (hs:1≤x.sell∧x.sell≤9223372036854775807) (hb:1≤x.buy∧x.buy≤9223372036854775807) (c:Int) (i:Nat) (hi:i < (legL x 4 c).length):In64 ((legL x 4 c).getD i 0):=by
 have hm:(legL x 4 c).getD i 0 ∈ legL x 4 c:=by
  rw [List.getD_eq_getElem?_getD,List.getElem?_eq_getElem hi]
  exact List.getElem_mem hi
 generalize (legL x 4 c).getD i 0 = y at *
 unfold legL at hm
 obtain ⟨p,hp,he⟩:=List.mem_filterMap.1 hm
 have hp2:=List.mem_of_mem_take hp
 split at he
 · injection he with he
   subst he
   unfold In64
   simp only [legsOf,List.mem_cons,List.not_mem_nil,or_false] at hp2
   rcases hp2 with rfl | rfl | rfl | rfl <;> simp only <;> omega
 · cases he
theorem sl_own {w:World} {B e:Nat} {v:Value} {xs:List Int} (h:w.ownsRow B e 1 v xs.length (ints xs)):SlI w v xs.length (fun i => xs.getD i 0):=ids_of_own h
theorem leg_cells {w:World} {g t:Nat} {x:Ent} {p:Pst} (h:Blk w g 69 (legCells x)) (hp:(legsOf x)[t]? = some p):w.cell? ⟨g,t * 3,none⟩ = some (.int .i64 p.m)∧w.cell? ⟨g,t * 3 + 1,none⟩ = some (.int .i64 p.c)∧w.cell? ⟨g,t * 3 + 2,none⟩ = some (.int .i64 p.a):=by
 have hi:t < 4:=by have:=(List.getElem?_eq_some_iff.1 hp).1; simpa [legsOf] using this
 have:t = 0∨t = 1∨t = 2∨t = 3:=by omega
 rcases this with rfl | rfl | rfl | rfl
 all_goals
   simp [legsOf] at hp
   subst hp
   exact ⟨(h.cell _).trans rfl,(h.cell _).trans rfl,(h.cell _).trans rfl⟩
theorem leg_in64 {x:Ent} {m c t:Nat} (o:x.Ok m c) (hc:c≤8) {p:Pst} (hp:(legsOf x)[t]? = some p):In64 p.c∧In64 p.a:=by
 have hi:t < 4:=by have:=(List.getElem?_eq_some_iff.1 hp).1; simpa [legsOf] using this
 have:t = 0∨t = 1∨t = 2∨t = 3:=by omega
 have h1:=o.s0
 have h2:=o.c0
 have h3:=o.se
 have h4:=o.bu
 rcases this with rfl | rfl | rfl | rfl
 all_goals
   simp [legsOf] at hp
   subst hp
   unfold In64
   simp only
   omega
end Go.Proofs.YtgcnnbjbdfgglaaGreat
namespace Go.Proofs.YtgcnnbjbdfgglaaGreat
open Go.RowKit Go.Sort
def cmpI (x y:Int):Int:=if x < y then -1 else if y < x then 1 else 0
def ordF (f:Nat→Int) (x y:Nat):Int:=if cmpI (f y) (f x) = 0 then Lib.compareInt x y else cmpI (f y) (f x)
set_option maxRecDepth 100000 in
theorem Bk.nan64 (x:Int) (w:World):Calls Tryz.prog 280 #[.int .i64 x] w fun e w' => e = .returned (.bool false)∧w' = w:=by
 go_enter Tryz.func280,Tryz.ntmps280
 go_wp2
 go_ret
 exact ⟨rfl,rfl⟩
set_option maxRecDepth 100000 in
set_option maxHeartbeats 1000000 in
theorem Bk.cmp64 (x y:Int) (w:World):Calls Tryz.prog 269 #[.int .i64 x,.int .i64 y] w fun e w' => e = .returned (.int .i64 (cmpI x y))∧w' = w:=by
 have h1:=Lib.hid (fun w => Bk.nan64 x w)
 have h2:=Lib.hid (fun w => Bk.nan64 y w)
 unfold cmpI
 go_enter Tryz.func269,Tryz.ntmps269
 by_cases ha:x < y
 · rw [if_pos ha]
   go_wp2_with fail
   refine (h1.out _).mono ?_
   rintro e w1 ⟨rfl,rfl⟩
   go_wp2_with fail
   refine (h2.out _).mono ?_
   rintro e w1 ⟨rfl,rfl⟩
   go_wp2
   go_ret
   exact ⟨rfl,rfl⟩
 · rw [if_neg ha]
   by_cases hb:y < x
   · rw [if_pos hb]
     go_wp2_with fail
     refine (h1.out _).mono ?_
     rintro e w1 ⟨rfl,rfl⟩
     go_wp2_with fail
     refine (h2.out _).mono ?_
     rintro e w1 ⟨rfl,rfl⟩
     go_wp2
     go_ret
     exact ⟨rfl,rfl⟩
   · rw [if_neg hb]
     go_wp2_with fail
     refine (h1.out _).mono ?_
     rintro e w1 ⟨rfl,rfl⟩
     go_wp2_with fail
     refine (h2.out _).mono ?_
     rintro e w1 ⟨rfl,rfl⟩
     go_wp2
     go_ret
     exact ⟨rfl,rfl⟩
set_option maxRecDepth 100000 in
set_option maxHeartbeats 1000000 in
theorem Bk.or2 (g c:Nat) (x y:Int) (w:World) (h0:w.cell? ⟨g,0,none⟩ = some (.int .i64 x)) (h1:w.cell? ⟨g,1,none⟩ = some (.int .i64 y)):Calls Tryz.prog 268 #[.slice (some ⟨g,0,none⟩) 2 c] w fun e w' => e = .returned (.int .i64 (if x = 0 then y else x))∧w' = w:=by
 go_enter Tryz.func268,Tryz.ntmps268
 go_wp2
 go_loopw [8] (fun i wr => wr = w∧∃ k:Nat,i = .int .i64 k∧k≤2∧(1≤k→x = 0)∧(2≤k→y = 0)) (fun i _ => 2 - (intOf i).toNat)
 case atStart => exact ⟨rfl,0,rfl,by omega,by omega,by omega⟩
 case round =>
  obtain ⟨rfl,k,rfl,hk,q1,q2⟩:=hrel
  rcases (by omega:k = 0∨k = 1∨k = 2) with rfl | rfl | rfl
  · by_cases hx:x = 0
    · subst hx
      go_wp2
      go_roundw
      case rel => exact ⟨trivial,1,by go_num,by omega,fun _ => trivial,by omega⟩
      case measure => simp [intOf]
    · go_wp2
      go_ret
      simp
  · have hx:=q1 (by omega)
    subst hx
    by_cases hy:y = 0
    · subst hy
      go_wp2
      go_roundw
      case rel => exact ⟨trivial,2,by go_num,by omega,fun _ => trivial,fun _ => trivial⟩
      case measure => simp [intOf]
    · go_wp2
      go_ret
      simp
  · have hx:=q1 (by omega)
    have hy:=q2 (by omega)
    subst hx hy
    go_wp2
    go_ret
    simp
set_option maxRecDepth 100000 in
set_option maxHeartbeats 2000000 in
theorem Bk.order {w:World} {b o n c:Nat} {f:Nat→Int} (hl:∀ i,i < n→w.cell? ⟨b,o + i,none⟩ = some (.int .i64 (f i))) (x y:Nat) (hx:x < n) (hy:y < n):Calls Tryz.prog 254 #[.agg #[.slice (some ⟨b,o,none⟩) n c],.int .i64 x,.int .i64 y] w fun e w' => e = .returned (.int .i64 (ordF f x y))∧∃ q os',w' = grow (w.drewN q) os':=by
 have l1:=hl x hx
 have l2:=hl y hy
 have HC:=Lib.hid (fun W' => Tryz.cmp_Compare_int x y W')
 have HD:=Lib.hid (fun W' => Bk.cmp64 (f y) (f x) W')
 have q1:(x:Int) < (n:Int):=by omega
 have q2:(y:Int) < (n:Int):=by omega
 have HO:=Lib.hid (fun o1 => Bk.or2 (w.alloc o1).heap.size 2 (cmpI (f y) (f x)) (Lib.compareInt x y) ((w.alloc o1).alloc (.cells #[.int .i64 (cmpI (f y) (f x)),.int .i64 (Lib.compareInt x y)] 3)).drew ((Blk.new _ _ _).drew.cell 0) ((Blk.new _ _ _).drew.cell 1))
 simp only [World.size_alloc] at HO
 unfold ordF
 generalize cmpI (f y) (f x) = r at *
 generalize Lib.compareInt x y = t at *
 generalize (if r = 0 then t else r) = z at *
 generalize f x = fx at *
 generalize f y = fy at *
 have hb:b < w.heap.size:=block_lt_of_cell l1
 clear hl hx hy
 have a1:=Bk.kept (((Below.refl _ _).alloc (Nat.le_refl _) (.cells #[.slice (some ⟨b,o,none⟩) n c] 371)):Below w.heap.size w _) l1
 have a2:=Bk.kept (((Below.refl _ _).alloc (Nat.le_refl _) (.cells #[.slice (some ⟨b,o,none⟩) n c] 371)):Below w.heap.size w _) l2
 go_enter Tryz.func254,Tryz.ntmps254
 go_upto_region 1 with (fail)
 go_region_with (first | (go_at_call 269; refine (HD.out _).mono ?_; rintro e w8 ⟨rfl,rfl⟩) | (go_at_call 43; refine (HC.out _).mono ?_; rintro e w8 ⟨rfl,rfl⟩) | (go_at_call 268; refine (HO.out _).mono ?_; rintro e w8 ⟨rfl,rfl⟩))
 all_goals
   go_wp2
   go_ret
   exact ⟨rfl,1,_,by rw [alloc_eq_grow,alloc_eq_grow,grow_grow]; rfl⟩
end Go.Proofs.YtgcnnbjbdfgglaaGreat
