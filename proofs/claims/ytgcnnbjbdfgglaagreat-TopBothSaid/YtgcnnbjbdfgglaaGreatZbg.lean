/- LAW TopBoth: of every configuration of a bank and every list of byte strings the given function TopBoth returns true and leaves its arguments as they were; no condition. A part of what it needs. -/
import Derived.Test.YtgcnnbjbdfgglaaGreatZbf
import Derived.Deep.RegionWith
namespace Go.Proofs.YtgcnnbjbdfgglaaGreat
open Go.RowKit
theorem Mid2.guard {w:World} {q:Qh} {s:Bnk} (a:BkAt w q s) {w2 w3:World} {Y:Nat} {v0 v1 v2:Value} (m:Mid2 w q s w2 q s Y v0 v1 v2) {cs:Array Value} (hc:Blk w2 w.heap.size 54 cs) {Q:Int→Gd→Prop} {e:Ending} (p:GPost q.h s.d Q w2 e w3):∃ (E:Int) (q':Qh) (s':Bnk),e = .returned (.int .i64 E)∧(0≤E∧E≤12)∧Q E s'.d∧s'.phase = s.phase∧Mid2 w q s w3 q' s' Y v0 v1 v2∧w3.cell? ⟨q.b,8,none⟩ = some (.pointer (some ⟨q.h.g,0,none⟩))∧Blk w3 w.heap.size 54 cs:=by
 obtain ⟨c,d',h',rfl,hc0,hg,hs,hsz,hgd,hq⟩:=p
 obtain ⟨h1,h2,h3⟩:=m.m.a.gstep hg hs hsz hgd
 refine ⟨c,{ q with h:=h' },{ s with d:=d' },rfl,hc0,hq,rfl,m.step h1 h2 h3,?_,blk_bk h2 hc (fun ho => by have:=a.ownlt ho; omega)⟩
 have h8:=h1.c8
 rw [show ({ q with h:=h' }:Qh).h.g = q.h.g from Gh.pg hs.g] at h8
 exact h8
def OthQ (s:Bnk) (k n1 n4 n6:Int):Int→Int→List Int→Bnk→Prop:=fun E V zs s' => k = 3→s.now < s.cut→V = 0∧zs = []∧InQ s.d n1 n4 n6 E s'.d
theorem phase_cut {s:Bnk} (h:s.now < s.cut):s.phase = 0:=by unfold Bnk.phase phaseI; rw [if_pos h]
set_option maxRecDepth 100000 in
set_option maxHeartbeats 8000000 in
theorem Bk.bother {w:World} {q:Qh} {s:Bnk} (a:BkAt w q s) (k n1 n2 n3 n4 n5 n6 n7:Int) (hk:k = 3∨k = 5∨k = 6∨k = 8) (h6:In64 n6) :
    Calls Tryz.prog 109 #[.pointer (some ⟨q.b,0,none⟩),.agg (cmdC k n1 n2 n3 n4 n5 n6 n7)] w (DoPost q s (OthQ s k n1 n4 n6) w):=by
 have HA:=Lib.hid a
 have HB:=Lib.hid (Beg.new a k n1 n2 n3 n4 n5 n6 n7)
 have HH:=Lib.hid (And.intro hk h6)
 clear a hk h6
 go_enter Tryz.func109,Tryz.ntmps109
 go_upto_region 1 with (fail)
 generalize ((w.alloc (.cells #[.int .i64 k,.int .i64 n1,.int .i64 n2,.int .i64 n3,.int .i64 n4,.int .i64 n5,.int .i64 n6,.int .i64 n7] 54)).alloc (.cells #[.int .i64 0,.int .i64 0,.slice none 0 0] 49)) = w1 at *
 have HM:=Lib.hid ((HB.out.mid HA.out HB.out.a (BkSt.refl w1 q s.d.L.n) (BnkSt.refl s)).two rfl)
 have HCC:=Lib.hid (HB.out.below ((Below.refl w1.heap.size w1).alloc (Nat.le_refl _) (.cells #[.int .i64 0,.int .i64 0,.slice none 0 0] 49))).c
 go_upto_region 2 with (fail)
 generalize w1.alloc (.cells #[.int .i64 0,.int .i64 0,.slice none 0 0] 49) = w2 at *
 generalize w1.heap.size = Y at *
 clear HB
 have x0:w2.cell? ⟨w.heap.size,0,none⟩ = some (.int .i64 k):=(HCC.out.cell 0).trans rfl
 have hXY:Y ≠ w.heap.size + 1:=by have:=HM.out.yl; omega
 have HYX:=Lib.hid (show w.heap.size ≠ Y from by have:=HM.out.yl; omega)
 have HYb:Hid (q.b ≠ Y):=Lib.hid (fun e => HM.out.yo (e ▸ .inl rfl))
 go_upto_block 0 with (fail)
 go_cut [] from 8 to 55 (fun wx => ∃ (E:Int) (q2:Qh) (s2:Bnk),Hid (0≤E∧E≤12)∧Hid (Mid2 w q s wx q2 s2 Y (.int .i64 E) (.int .i64 0) (.slice none 0 0))∧Hid (s2.phase = s.phase∧(k = 3→InQ s.d n1 n4 n6 E s2.d)))
 case first =>
  have hk:=HH.out.1
  have c8:=HM.out.m.a.c8
  have c10:=HM.out.m.a.c10
  have x1:w2.cell? ⟨w.heap.size,1,none⟩ = some (.int .i64 n1):=(HCC.out.cell 1).trans rfl
  have x2:w2.cell? ⟨w.heap.size,2,none⟩ = some (.int .i64 n2):=(HCC.out.cell 2).trans rfl
  have x4:w2.cell? ⟨w.heap.size,4,none⟩ = some (.int .i64 n4):=(HCC.out.cell 4).trans rfl
  have x6:w2.cell? ⟨w.heap.size,6,none⟩ = some (.int .i64 n6):=(HCC.out.cell 6).trans rfl
  have HMD:=Lib.hid (HM.out.below (Below.refl w2.heap.size w2).drew)
  have HCD:=Lib.hid (show Blk w2.drew w.heap.size 54 (cmdC k n1 n2 n3 n4 n5 n6 n7) from HCC.out)
  rcases hk with rfl | rfl | rfl | rfl
  · go_upto_region 4 with (fail)
    have HG:=Lib.hid (Bk.gin HMD.out.m.a.ps.gu n1 n4 n6 HH.out.2)
    go_region_held3 (fun wx => wx.cell? ⟨q.b,8,none⟩ = some (.pointer (some ⟨q.h.g,0,none⟩))∧wx.cell? ⟨w.heap.size,1,none⟩ = some (.int .i64 n1)∧wx.cell? ⟨w.heap.size,4,none⟩ = some (.int .i64 n4)∧wx.cell? ⟨w.heap.size,6,none⟩ = some (.int .i64 n6))
      (first | with_reducible exact S1 | with_reducible exact S2 | exact ⟨c8,x1,x4,x6⟩)
      (first
        | (go_at_call 150; refine HG.out.mono ?_; intro e w3 hpost; obtain ⟨E,q2,s2,rfl,hE,hq,hph,hm3,k8,hcc⟩:=HMD.out.guard HA.out HCD.out hpost; clear hpost; have z1:=(hcc.cell 1).trans (show _ = some (.int .i64 n1) from rfl); have z4:=(hcc.cell 4).trans (show _ = some (.int .i64 n4) from rfl); have z6:=(hcc.cell 6).trans (show _ = some (.int .i64 n6) from rfl); have S1:=And.intro k8 (And.intro z1 (And.intro z4 z6)); have S2:=And.intro (cell_setc k8 HYb.out 0 (.int .i64 E)) (And.intro (cell_setc z1 HYX.out 0 (.int .i64 E)) (And.intro (cell_setc z4 HYX.out 0 (.int .i64 E)) (cell_setc z6 HYX.out 0 (.int .i64 E)))); have y0:=(hm3.y.cell 0).trans (show _ = some (.int .i64 0) from rfl); have f0:=hm3.y.frozen 0; have HF:=Lib.hid (hm3.set (i:=0) (v:=.int .i64 E) rfl); have HQ:=Lib.hid (And.intro hE (And.intro hph hq)); clear hm3 hq hph hE))
    go_wp2_with fail
    go_meet
    case rel => exact ⟨E,q2,s2,Lib.hid HQ.out.1,HF,Lib.hid ⟨HQ.out.2.1,fun _ => HQ.out.2.2⟩⟩
  · go_upto_region 6 with (fail)
    have HG:=Lib.hid (Bk.grate HMD.out.m.a.ps.gu n4 n6)
    go_region_held3 (fun wx => wx.cell? ⟨q.b,8,none⟩ = some (.pointer (some ⟨q.h.g,0,none⟩))∧wx.cell? ⟨w.heap.size,4,none⟩ = some (.int .i64 n4)∧wx.cell? ⟨w.heap.size,6,none⟩ = some (.int .i64 n6))
      (first | with_reducible exact S1 | with_reducible exact S2 | exact ⟨c8,x4,x6⟩)
      (first
        | (go_at_call 151; refine HG.out.mono ?_; intro e w3 hpost; obtain ⟨E,q2,s2,rfl,hE,hq,hph,hm3,k8,hcc⟩:=HMD.out.guard HA.out HCD.out hpost; clear hpost; have z4:=(hcc.cell 4).trans (show _ = some (.int .i64 n4) from rfl); have z6:=(hcc.cell 6).trans (show _ = some (.int .i64 n6) from rfl); have S1:=And.intro k8 (And.intro z4 z6); have S2:=And.intro (cell_setc k8 HYb.out 0 (.int .i64 E)) (And.intro (cell_setc z4 HYX.out 0 (.int .i64 E)) (cell_setc z6 HYX.out 0 (.int .i64 E))); have y0:=(hm3.y.cell 0).trans (show _ = some (.int .i64 0) from rfl); have f0:=hm3.y.frozen 0; have HF:=Lib.hid (hm3.set (i:=0) (v:=.int .i64 E) rfl); have HQ:=Lib.hid (And.intro hE hph); clear hm3 hq hph hE))
    go_wp2_with fail
    go_meet
    case rel => exact ⟨E,q2,s2,Lib.hid HQ.out.1,HF,Lib.hid ⟨HQ.out.2,fun h => absurd h (by decide)⟩⟩
  · go_upto_region 8 with (fail)
    have HG:=Lib.hid (Bk.gcut HMD.out.m.a.ps.gu n4 n6)
    go_region_held3 (fun wx => wx.cell? ⟨q.b,8,none⟩ = some (.pointer (some ⟨q.h.g,0,none⟩))∧wx.cell? ⟨w.heap.size,4,none⟩ = some (.int .i64 n4)∧wx.cell? ⟨w.heap.size,6,none⟩ = some (.int .i64 n6))
      (first | with_reducible exact S1 | with_reducible exact S2 | exact ⟨c8,x4,x6⟩)
      (first
        | (go_at_call 152; refine HG.out.mono ?_; intro e w3 hpost; obtain ⟨E,q2,s2,rfl,hE,hq,hph,hm3,k8,hcc⟩:=HMD.out.guard HA.out HCD.out hpost; clear hpost; have z4:=(hcc.cell 4).trans (show _ = some (.int .i64 n4) from rfl); have z6:=(hcc.cell 6).trans (show _ = some (.int .i64 n6) from rfl); have S1:=And.intro k8 (And.intro z4 z6); have S2:=And.intro (cell_setc k8 HYb.out 0 (.int .i64 E)) (And.intro (cell_setc z4 HYX.out 0 (.int .i64 E)) (cell_setc z6 HYX.out 0 (.int .i64 E))); have y0:=(hm3.y.cell 0).trans (show _ = some (.int .i64 0) from rfl); have f0:=hm3.y.frozen 0; have HF:=Lib.hid (hm3.set (i:=0) (v:=.int .i64 E) rfl); have HQ:=Lib.hid (And.intro hE hph); clear hm3 hq hph hE))
    go_wp2_with fail
    go_meet
    case rel => exact ⟨E,q2,s2,Lib.hid HQ.out.1,HF,Lib.hid ⟨HQ.out.2,fun h => absurd h (by decide)⟩⟩
  · go_upto_region 10 with (fail)
    have HG:=Lib.hid (Bk.le_fail HMD.out.m.a.le n2)
    have hXb:q.b ≠ w.heap.size + 1:=fun e => by have:=HA.out.ownlt (.inl rfl:q.own s.d.L.n q.b); omega
    have hXX:w.heap.size ≠ w.heap.size + 1:=by omega
    go_region_held3 (fun wx => wx.cell? ⟨q.b,10,none⟩ = some (.pointer (some ⟨q.e.x,0,none⟩))∧wx.cell? ⟨w.heap.size,2,none⟩ = some (.int .i64 n2))
      (first | with_reducible exact S1 | with_reducible exact S2 | exact ⟨c10,x2⟩)
      (first
        | (go_at_call 153; refine HG.out.mono ?_; rintro e w3 ⟨E,rfl,hE0,hE1,hle,hkk⟩; obtain ⟨t1,t2,t3⟩:=HMD.out.m.a.estep hle hkk; have hm3:=HMD.out.step t1 t2 t3; have k10:=t1.c10; have z2:=((blk_bk t2 HCD.out (fun ho => by have:=HA.out.ownlt ho; omega)).cell 2).trans (show _ = some (.int .i64 n2) from rfl); have S1:=And.intro k10 z2; have S2:=And.intro (cell_set3 k10 hXb (.int .i64 E) (.int .i64 0) (.slice none 0 0)) (cell_set3 z2 hXX (.int .i64 E) (.int .i64 0) (.slice none 0 0)); have y0:=(hm3.m.r.cell 0).trans (show _ = some (.int .i64 0) from rfl); have f0:=hm3.m.r.frozen 0; have y1:=(hm3.m.r.cell 1).trans (show _ = some (.int .i64 0) from rfl); have f1:=hm3.m.r.frozen 1; have y2:=(hm3.m.r.cell 2).trans (show _ = some (.slice none 0 0) from rfl); have f2:=hm3.m.r.frozen 2; have HF:=Lib.hid hm3; have HE:=Lib.hid (And.intro hE0 hE1); clear hm3 hle hkk t1 t2 t3 hE0 hE1))
    go_wp2_with fail
    exact bodyPost_ret (results_row1 rfl _ _ _ (w.heap.size + 1) _ _ rfl (blk_set3 HF.out.m.r (.int .i64 E) (.int .i64 0) (.slice none 0 0)).range Tryz.underlying49 rfl (by kernel_rfl)) rfl (HF.out.m.done HE.out.1 HE.out.2 in0 Mid.row ids_ok0 (fun h => absurd h (by decide)) _ _ _)
 case rest =>
  clear HM HCC
  obtain ⟨E,q2,s2,HE,HM,HQ⟩:=hcut
  have y0:=(HM.out.y.cell 0).trans (show _ = some (.int .i64 E) from rfl)
  rcases eqs E 0 with ⟨a1,a2,a3⟩ | ⟨a1,a2,a3⟩
  · subst a1
    clear a2 a3
    have hpd:=Bk.bkPhase HM.out.m.a
    rw [HM.out.m.b.b] at hpd
    have HPD:=Lib.hid hpd
    have HP2:=Lib.hid (show s2.phase = s.phase from HQ.out.1)
    clear hpd
    generalize hp:s2.phase = ph at *
    clear hp
    go_wp2_with fail
    refine HPD.out.mono ?_
    rintro e w6 ⟨rfl,hb6⟩
    have HM6:=Lib.hid (HM.out.below hb6)
    clear hb6 HPD HM y0
    by_cases hp1:ph = 1
    · subst hp1
      go_upto_region 12 with (fail)
      have HM7:=Lib.hid (HM6.out.below (Below.refl w6.heap.size w6).drew)
      have c8:=HM6.out.m.a.c8
      have c9:=HM6.out.m.a.c9
      rw [HM6.out.m.b.b] at c8 c9
      have HCY:=Lib.hid (Bk.cycle HM7.out.m.a.ps)
      have HCK:=Lib.hid (fun (e:Ending) (w':World) p => HM7.out.m.a.cycle (e:=e) (w':=w') p)
      have HBB:=Lib.hid (show q2.b = q.b from HM6.out.m.b.b)
      clear HM6
      go_region_held3 (fun wx => wx.cell? ⟨q.b,8,none⟩ = some (.pointer (some ⟨q2.h.g,0,none⟩))∧wx.cell? ⟨q.b,9,none⟩ = some (.pointer (some ⟨q2.k.b,0,none⟩)))
        (first | with_reducible exact S1 | with_reducible exact S2 | exact ⟨c8,c9⟩)
        (first
          | (go_at_call 147; refine HCY.out.mono ?_; intro e w8 hpost; obtain ⟨ra,rn,rc,zs,ec,q3,s3,rfl,hown,hz,hap,ha8,hb8,hn8,k8,k9⟩:=HCK.out e w8 hpost; clear hpost hap; rw [HBB.out] at k8 k9; have S1:=And.intro k8 k9; have S2:=And.intro (cell_setc k8 HYb.out 2 (.slice ra rn rc)) (cell_setc k9 HYb.out 2 (.slice ra rn rc)); have HM8:=Lib.hid (HM7.out.step ha8 hb8 hn8); have z2:=(HM8.out.y.cell 2).trans (show _ = some (.slice none 0 0) from rfl); have g2:=HM8.out.y.frozen 2))
      have hYl:=HM7.out.y.lt
      have hX1:=HM7.out.m.sz
      have HM9:=Lib.hid (HM8.out.set (i:=2) (v:=.slice ra rn rc) rfl)
      have HRY:=Lib.hid (show ∀ x,Value.ownBlock (.slice ra rn rc) = some x→x ≠ Y from fun x hx e => by have:=own_ge hown hx; omega)
      have HRW:=Lib.hid (own_wk (own_same (w':=w8.setCell ⟨Y,2,none⟩ (.slice ra rn rc)) hown (fun x hx => heap_setCell_other _ _ _ _ (HRY.out x hx))) (show w.heap.size + 2≤_ from hX1))
      have HZ:=Lib.hid hz
      clear hYl hX1 hown hz ha8 hb8 hn8 k8 k9 S1 S2 z2 g2 HM8 HM7 HCY HCK c8 c9
      generalize w8.setCell ⟨Y,2,none⟩ (.slice ra rn rc) = w9 at *
      have x0:=(HM9.out.m.r.cell 0).trans (show _ = some (.int .i64 0) from rfl)
      have f0:=HM9.out.m.r.frozen 0
      have x1:=(HM9.out.m.r.cell 1).trans (show _ = some (.int .i64 0) from rfl)
      have f1:=HM9.out.m.r.frozen 1
      have x2:=(HM9.out.m.r.cell 2).trans (show _ = some (.slice none 0 0) from rfl)
      have f2:=HM9.out.m.r.frozen 2
      have y0:=(HM9.out.y.cell 0).trans (show _ = some (.int .i64 0) from rfl)
      have y1:=(HM9.out.y.cell 1).trans (show _ = some (.int .i64 0) from rfl)
      have y2:=(HM9.out.y.cell 2).trans (show _ = some (.slice ra rn rc) from rfl)
      go_wp2
      exact bodyPost_ret (results_row1 rfl _ _ _ (w.heap.size + 1) _ _ rfl (blk_set3 HM9.out.m.r (.int .i64 0) (.int .i64 0) (.slice ra rn rc)).range Tryz.underlying49 rfl (by kernel_rfl)) rfl (HM9.out.m.done (by omega) (by omega) in0 HRW.out HZ.out (fun _ hcut => by have h1:=HP2.out; rw [phase_cut hcut] at h1; omega) _ _ _)
    · have d4:(ph == 1) = false:=by simp [hp1]
      have d5:decide (ph = 1) = false:=decide_eq_false hp1
      clear hp1
      have x0:=(HM6.out.m.r.cell 0).trans (show _ = some (.int .i64 0) from rfl)
      have f0:=HM6.out.m.r.frozen 0
      have x1:=(HM6.out.m.r.cell 1).trans (show _ = some (.int .i64 0) from rfl)
      have f1:=HM6.out.m.r.frozen 1
      have x2:=(HM6.out.m.r.cell 2).trans (show _ = some (.slice none 0 0) from rfl)
      have f2:=HM6.out.m.r.frozen 2
      have y0:=(HM6.out.y.cell 0).trans (show _ = some (.int .i64 0) from rfl)
      have y1:=(HM6.out.y.cell 1).trans (show _ = some (.int .i64 0) from rfl)
      have y2:=(HM6.out.y.cell 2).trans (show _ = some (.slice none 0 0) from rfl)
      go_wp2
      exact bodyPost_ret (results_row1 rfl _ _ _ (w.heap.size + 1) _ _ rfl (blk_set3 HM6.out.m.r (.int .i64 0) (.int .i64 0) (.slice none 0 0)).range Tryz.underlying49 rfl (by kernel_rfl)) rfl (HM6.out.m.done (by omega) (by omega) in0 Mid.row ids_ok0 (fun h3 _ => ⟨rfl,rfl,HQ.out.2 h3⟩) _ _ _)
  · have a4:(E == 0) = false:=by simpa using a1
    clear a1 a3
    have x0:=(HM.out.m.r.cell 0).trans (show _ = some (.int .i64 0) from rfl)
    have f0:=HM.out.m.r.frozen 0
    have x1:=(HM.out.m.r.cell 1).trans (show _ = some (.int .i64 0) from rfl)
    have f1:=HM.out.m.r.frozen 1
    have x2:=(HM.out.m.r.cell 2).trans (show _ = some (.slice none 0 0) from rfl)
    have f2:=HM.out.m.r.frozen 2
    have y1:=(HM.out.y.cell 1).trans (show _ = some (.int .i64 0) from rfl)
    have y2:=(HM.out.y.cell 2).trans (show _ = some (.slice none 0 0) from rfl)
    go_wp2
    exact bodyPost_ret (results_row1 rfl _ _ _ (w.heap.size + 1) _ _ rfl (blk_set3 HM.out.m.r (.int .i64 E) (.int .i64 0) (.slice none 0 0)).range Tryz.underlying49 rfl (by kernel_rfl)) rfl (HM.out.m.done HE.out.1 HE.out.2 in0 Mid.row ids_ok0 (fun h3 _ => ⟨rfl,rfl,HQ.out.2 h3⟩) _ _ _)
end Go.Proofs.YtgcnnbjbdfgglaaGreat
namespace Go.Proofs.YtgcnnbjbdfgglaaGreat
open Go.RowKit
theorem DoPost.imp {q:Qh} {s:Bnk} {Q Q':Int→Int→List Int→Bnk→Prop} {w w':World} {e:Ending} (p:DoPost q s Q w e w') (h:∀ E V zs s',Q E V zs s'→Q' E V zs s'):DoPost q s Q' w e w':=by
 obtain ⟨E,V,iv,zs,q',s',rfl,h0,h1,hv,hr,hz,ha,hs,hn,hq⟩:=p
 exact ⟨E,V,iv,zs,q',s',rfl,h0,h1,hv,hr,hz,ha,hs,hn,h _ _ _ _ hq⟩
theorem may_spec {c:W.Cm} (h:W.may c = true):(1≤c.k∧c.k≤9)∧0≤c.n 1∧0≤c.n 3∧In64 (c.n 2):=by
 unfold W.may at h
 simp only [Bool.and_eq_true,decide_eq_true_eq] at h
 obtain ⟨h1,h2,h3⟩:=h
 unfold W.same at h3
 simp only [decide_eq_true_eq] at h3
 unfold In64
 unfold W.specs at h1 h2 h3
 by_cases k1:c.k = 1
 · rw [if_pos k1] at h1 h2 h3
   simp [W.okField,W.fits,W.pn] at h2 h3
   omega
 rw [if_neg k1] at h1 h2 h3
 by_cases k2:c.k = 2
 · rw [if_pos k2] at h1 h2 h3
   simp [W.okField,W.fits,W.pn] at h2 h3
   omega
 rw [if_neg k2] at h1 h2 h3
 by_cases k3:c.k = 3
 · rw [if_pos k3] at h1 h2 h3
   simp [W.okField,W.fits,W.pn] at h2 h3
   omega
 rw [if_neg k3] at h1 h2 h3
 by_cases k4:c.k = 4∨c.k = 8
 · rw [if_pos k4] at h1 h2 h3
   simp [W.okField,W.fits,W.pn] at h2 h3
   omega
 rw [if_neg k4] at h1 h2 h3
 by_cases k5:c.k = 5∨c.k = 6
 · rw [if_pos k5] at h1 h2 h3
   simp [W.okField,W.fits,W.pn] at h2 h3
   omega
 rw [if_neg k5] at h1 h2 h3
 by_cases k7:c.k = 7
 · rw [if_pos k7] at h1 h2 h3
   simp [W.okField,W.fits,W.pn] at h2 h3
   omega
 rw [if_neg k7] at h1 h2 h3
 by_cases k9:c.k = 9
 · rw [if_pos k9] at h1 h2 h3
   simp [W.okField,W.fits,W.pn] at h2 h3
   omega
 rw [if_neg k9] at h1
 simp at h1
def doesF (k:Int):FuncId:=if k = 1 then 104 else if k = 2 then 105 else if k = 4 then 106 else if k = 7 then 107 else if k = 9 then 108 else 109
set_option maxRecDepth 100000 in
set_option maxHeartbeats 4000000 in
theorem Bk.does (p:Value) (k:Int) (hk:1≤k∧k≤9) (w:World):Calls Tryz.prog 59 #[p,.int .i64 k] w fun e w' => e = .returned (.func (.func (doesF k)) #[p] #[])∧w' = w:=by
 have hk':k = 1∨k = 2∨k = 3∨k = 4∨k = 5∨k = 6∨k = 7∨k = 8∨k = 9:=by omega
 clear hk
 rcases hk' with rfl | rfl | rfl | rfl | rfl | rfl | rfl | rfl | rfl
 all_goals
   go_enter Tryz.func59,Tryz.ntmps59
   go_wp2
   go_ret
   exact ⟨rfl,rfl⟩
def DoQ (s:Bnk) (c:W.Cm):Int→Int→List Int→Bnk→Prop:=fun E V zs s' => (c.k = 7→E = 0→∃ m:Nat,c.n 1 = m∧m < s.N∧s'.fl m = true)∧(c.k = 3→W.may c = true→(0≤c.n 1∧c.n 1 < s.N)→s.fl (c.n 1).toNat = false→s.now < s.cut→V = 0∧zs = []∧InQ s.d (c.n 1) (c.n 4) (c.n 6) E s'.d)
theorem Bk.handler {w:World} {q:Qh} {s:Bnk} (a:BkAt w q s) (c:W.Cm) (hm:W.may c = true) (h6:In64 (c.n 6)) (h7:In64 (c.n 7)) (hw:∀ m ∈ membersOf c.k (c.n 1) (c.n 3),m < s.N∧(c.k ≠ 9→s.fl m.toNat = false)) :
    Calls Tryz.prog (doesF c.k) #[.pointer (some ⟨q.b,0,none⟩),.agg c.cells] w (DoPost q s (DoQ s c) w):=by
 obtain ⟨hk,h1,h3,h2⟩:=may_spec hm
 have hk':c.k = 1∨c.k = 2∨c.k = 3∨c.k = 4∨c.k = 5∨c.k = 6∨c.k = 7∨c.k = 8∨c.k = 9:=by omega
 have tr:∀ {E V:Int} {zs:List Int} {s':Bnk},c.k ≠ 7→c.k ≠ 3→DoQ s c E V zs s':=fun e7 e3 => ⟨fun e => absurd e e7,fun e => absurd e e3⟩
 rcases hk' with e | e | e | e | e | e | e | e | e
 · rw [show doesF c.k = 104 by unfold doesF; simp [e]]
   have hw1:=hw (c.n 1) (by unfold membersOf; simp [e])
   have hw3:=hw (c.n 3) (by unfold membersOf; simp [e])
   exact (Bk.bsubmit a c.k (c.n 1) (c.n 2) (c.n 3) (c.n 4) (c.n 5) (c.n 6) (c.n 7) h2 h6.2 h7.2 ⟨hw1.2 (by omega),hw3.2 (by omega)⟩).mono fun _ _ p => p.imp fun _ _ _ _ _ => tr (by omega) (by omega)
 · rw [show doesF c.k = 105 by unfold doesF; simp [e]]
   exact (Bk.brescind a c.k (c.n 1) (c.n 2) (c.n 3) (c.n 4) (c.n 5) (c.n 6) (c.n 7) h2).mono fun _ _ p => p.imp fun _ _ _ _ _ => tr (by omega) (by omega)
 · rw [show doesF c.k = 109 by unfold doesF; simp [e]]
   exact (Bk.bother a c.k (c.n 1) (c.n 2) (c.n 3) (c.n 4) (c.n 5) (c.n 6) (c.n 7) (by omega) h6).mono fun _ _ p => p.imp fun _ _ _ _ hq => ⟨fun e7 => by omega,fun e3 _ _ _ hc => hq e3 hc⟩
 · rw [show doesF c.k = 106 by unfold doesF; simp [e]]
   exact (Bk.btick a c.k (c.n 1) (c.n 2) (c.n 3) (c.n 4) (c.n 5) (c.n 6) (c.n 7)).mono fun _ _ p => p.imp fun _ _ _ _ _ => tr (by omega) (by omega)
 · rw [show doesF c.k = 109 by unfold doesF; simp [e]]
   exact (Bk.bother a c.k (c.n 1) (c.n 2) (c.n 3) (c.n 4) (c.n 5) (c.n 6) (c.n 7) (by omega) h6).mono fun _ _ p => p.imp fun _ _ _ _ _ => tr (by omega) (by omega)
 · rw [show doesF c.k = 109 by unfold doesF; simp [e]]
   exact (Bk.bother a c.k (c.n 1) (c.n 2) (c.n 3) (c.n 4) (c.n 5) (c.n 6) (c.n 7) (by omega) h6).mono fun _ _ p => p.imp fun _ _ _ _ _ => tr (by omega) (by omega)
 · rw [show doesF c.k = 107 by unfold doesF; simp [e]]
   have hw1:=hw (c.n 1) (by unfold membersOf; simp [e])
   obtain ⟨m,em⟩:∃ m:Nat,c.n 1 = m:=⟨(c.n 1).toNat,by omega⟩
   have hmN:m < s.N:=by omega
   have h:=Bk.bfail a c.k m hmN (c.n 2) (c.n 3) (c.n 4) (c.n 5) (c.n 6) (c.n 7)
   rw [← em] at h
   exact h.mono fun _ _ p => p.imp fun _ _ _ _ hq => ⟨fun _ h0 => ⟨m,em,hmN,hq h0⟩,fun e3 => by omega⟩
 · rw [show doesF c.k = 109 by unfold doesF; simp [e]]
   exact (Bk.bother a c.k (c.n 1) (c.n 2) (c.n 3) (c.n 4) (c.n 5) (c.n 6) (c.n 7) (by omega) h6).mono fun _ _ p => p.imp fun _ _ _ _ _ => tr (by omega) (by omega)
 · rw [show doesF c.k = 108 by unfold doesF; simp [e]]
   exact (Bk.bask a c.k (c.n 1) (c.n 2) (c.n 3) (c.n 4) (c.n 5) (c.n 6) (c.n 7)).mono fun _ _ p => p.imp fun _ _ _ _ _ => tr (by omega) (by omega)
end Go.Proofs.YtgcnnbjbdfgglaaGreat
namespace Go.Proofs.YtgcnnbjbdfgglaaGreat
open Go.RowKit
theorem doesF_enters (k:Int) (args:Array Value) (w:World):(callFunc (doesF k) args).run Tryz.prog w = .ok (.enter (doesF k) args) w:=by
 unfold doesF
 repeat' split
 · exact enters_of Tryz.func104 (by kernel_rfl) rfl args w
 · exact enters_of Tryz.func105 (by kernel_rfl) rfl args w
 · exact enters_of Tryz.func106 (by kernel_rfl) rfl args w
 · exact enters_of Tryz.func107 (by kernel_rfl) rfl args w
 · exact enters_of Tryz.func108 (by kernel_rfl) rfl args w
 · exact enters_of Tryz.func109 (by kernel_rfl) rfl args w
theorem Beg.handed {w:World} {q:Qh} {s:Bnk} (a:BkAt w q s) {k n1 n2 n3 n4 n5 n6 n7:Int} {W w':World} (b:Beg w q s k n1 n2 n3 n4 n5 n6 n7 W) {Q:Int→Int→List Int→Bnk→Prop} {e:Ending} (p:DoPost q s Q W e w'):∃ (E V:Int) (ra:Option Addr) (rn rc:Nat) (zs:List Int) (q':Qh) (s':Bnk),e = .returned (.agg #[.int .i64 E,.int .i64 V,.slice ra rn rc])∧(0≤E∧E≤12)∧In64 V∧w'.ownsRow (w.heap.size + 2) 3 1 (.slice ra rn rc) zs.length (ints zs)∧IdsOk zs∧Mid w q s w' q' s'∧Q E V zs s'∧Blk w' w.heap.size 54 (cmdC k n1 n2 n3 n4 n5 n6 n7):=by
 obtain ⟨E,V,iv,zs,q',s',rfl,h0,h1,hv,hr,hz,ha,hs,hn,hq⟩:=p
 obtain ⟨ra,rn,rc,rfl⟩:∃ ra rn rc,iv = .slice ra rn rc:=by
  rcases hr.2 with ⟨rfl,_⟩ | ⟨g,cap,cur,rfl,_⟩
  · exact ⟨_,_,_,rfl⟩
  · exact ⟨_,_,_,rfl⟩
 exact ⟨E,V,ra,rn,rc,zs,q',s',rfl,⟨h0,h1⟩,hv,own_wk hr b.sz,hz,b.mid a ha hs hn,hq,blk_bk hs b.c (fun ho => by have:=a.ownlt ho; omega)⟩
set_option maxRecDepth 100000 in
set_option maxHeartbeats 8000000 in
theorem Bk.bdo {w:World} {q:Qh} {s:Bnk} (a:BkAt w q s) (c:W.Cm) (h6:In64 (c.n 6)) (h7:In64 (c.n 7)) :
    Calls Tryz.prog 26 #[.pointer (some ⟨q.b,0,none⟩),.agg c.cells] w (DoPost q s (DoQ s c) w):=by
 have HA:=Lib.hid a
 have HB:=Lib.hid (Beg.new a c.k (c.n 1) (c.n 2) (c.n 3) (c.n 4) (c.n 5) (c.n 6) (c.n 7))
 have HMY:=Lib.hid (fun wx => W.may_any c wx)
 have HH:=Lib.hid (fun (wx:World) (aw:BkAt wx q s) hm hw => Bk.handler aw c hm h6 h7 hw)
 have HWH:=Lib.hid (fun (wx:World) (aw:BkAt wx q s) (hm:W.may c = true) => Bk.who aw c.k (c.n 1) (c.n 2) (c.n 3) (c.n 4) (c.n 5) (c.n 6) (c.n 7) (may_spec hm).1 (may_spec hm).2.1 (may_spec hm).2.2.1)
 have HPH:=Lib.hid (fun (wx:World) (aw:BkAt wx q s) => Bk.bkPhase aw)
 have eg:=doesF_enters c.k
 clear a h6 h7
 go_enter Tryz.func26,Tryz.ntmps26
 go_upto_region 1 with (fail)
 change Code.wp _ _ _ { tmps:=#[_,.agg (cmdC c.k (c.n 1) (c.n 2) (c.n 3) (c.n 4) (c.n 5) (c.n 6) (c.n 7)),_,_,_,_,_,_,_,_,_,_,_,_,_,_,_,_,_,_,_,_,_,_,_,_,_,_,_,_],defers:=_ } ((w.alloc (.cells (cmdC c.k (c.n 1) (c.n 2) (c.n 3) (c.n 4) (c.n 5) (c.n 6) (c.n 7)) 54)).alloc (.cells rep0 49))
 generalize ((w.alloc (.cells (cmdC c.k (c.n 1) (c.n 2) (c.n 3) (c.n 4) (c.n 5) (c.n 6) (c.n 7)) 54)).alloc (.cells rep0 49)) = w1 at *
 have y0:w1.cell? ⟨w.heap.size,0,none⟩ = some (.int .i64 c.k):=(HB.out.c.cell 0).trans rfl
 have y1:w1.cell? ⟨w.heap.size,1,none⟩ = some (.int .i64 (c.n 1)):=(HB.out.c.cell 1).trans rfl
 have y2:w1.cell? ⟨w.heap.size,2,none⟩ = some (.int .i64 (c.n 2)):=(HB.out.c.cell 2).trans rfl
 have y3:w1.cell? ⟨w.heap.size,3,none⟩ = some (.int .i64 (c.n 3)):=(HB.out.c.cell 3).trans rfl
 have y4:w1.cell? ⟨w.heap.size,4,none⟩ = some (.int .i64 (c.n 4)):=(HB.out.c.cell 4).trans rfl
 have y5:w1.cell? ⟨w.heap.size,5,none⟩ = some (.int .i64 (c.n 5)):=(HB.out.c.cell 5).trans rfl
 have y6:w1.cell? ⟨w.heap.size,6,none⟩ = some (.int .i64 (c.n 6)):=(HB.out.c.cell 6).trans rfl
 have y7:w1.cell? ⟨w.heap.size,7,none⟩ = some (.int .i64 (c.n 7)):=(HB.out.c.cell 7).trans rfl
 have HM1:=Lib.hid (HMY.out w1)
 cases hmay:W.may c with
 | false =>
  have HMF:=Lib.hid hmay
  rw [hmay] at HM1
  clear hmay
  go_wp2_with fail
  refine HM1.out.mono ?_
  rintro e w2 ⟨rfl,hb2⟩
  have HM2:=Lib.hid ((HB.out.mid HA.out HB.out.a (BkSt.refl w1 q s.d.L.n) (BnkSt.refl s)).below hb2)
  clear hb2 y0 y1 y2 y3 y4 y5 y6 y7
  have x0:=(HM2.out.r.cell 0).trans (show _ = some (.int .i64 0) from rfl)
  have f0:=HM2.out.r.frozen 0
  have x1:=(HM2.out.r.cell 1).trans (show _ = some (.int .i64 0) from rfl)
  have f1:=HM2.out.r.frozen 1
  have x2:=(HM2.out.r.cell 2).trans (show _ = some (.slice none 0 0) from rfl)
  have f2:=HM2.out.r.frozen 2
  go_wp2
  exact bodyPost_ret (results_row1 rfl _ _ _ (w.heap.size + 1) _ _ rfl (blk_set3 HM2.out.r (.int .i64 2) (.int .i64 0) (.slice none 0 0)).range Tryz.underlying49 rfl (by kernel_rfl)) rfl (HM2.out.done (by omega) (by omega) in0 Mid.row ids_ok0 ⟨fun _ h => by omega,fun _ hm => by rw [HMF.out] at hm; cases hm⟩ _ _ _)
 | true =>
  have HMT:=Lib.hid hmay
  rw [hmay] at HM1
  clear hmay
  have HKK:=Lib.hid (may_spec HMT.out).1
  go_wp2_with fail
  refine HM1.out.mono ?_
  rintro e w2 ⟨rfl,hb2⟩
  have HB2:=Lib.hid (HB.out.below hb2)
  clear hb2 y0 y1 y2 y3 y4 y5 y6 y7 HM1 HB
  go_upto_region 3 with (fail)
  have hph:=phase_of s
  have HPX:=Lib.hid hph
  clear hph
  have HB2D:=Lib.hid (HB2.out.below (Below.refl w2.heap.size w2).drew)
  have HP2:=Lib.hid (HPH.out w2.drew HB2D.out.a)
  have HP3:=Lib.hid (phase_cut (s:=s))
  generalize s.phase = ph at *
  have HMD:=Lib.hid (fun wx => Bk.mayDay ph c.k HPX.out HKK.out wx)
  have y0:w2.cell? ⟨w.heap.size,0,none⟩ = some (.int .i64 c.k):=(HB2.out.c.cell 0).trans rfl
  have HMX:=Lib.hid (show mayD 0 c.k = true from by
   have h:=HKK.out
   unfold mayD
   simp [h])
  generalize hmd:mayD ph c.k = md at *
  have HME:=Lib.hid hmd
  clear hmd
  go_region_held3 (fun wx => wx.cell? ⟨w.heap.size,0,none⟩ = some (.int .i64 c.k))
    (first | exact y0 | exact Bk.kept hb3 y0)
    (first
      | (go_at_call 57; refine HP2.out.mono ?_; rintro e w3 ⟨rfl,hb3⟩)
      | (go_at_call 56; refine (HMD.out _).mono ?_; rintro e w3 ⟨rfl,rfl⟩))
  have HB3:=Lib.hid (HB2D.out.below hb3)
  clear hb3 HB2 HB2D HP2 HMD y0
  have hgen:∀ (X:World),Beg w q s c.k (c.n 1) (c.n 2) (c.n 3) (c.n 4) (c.n 5) (c.n 6) (c.n 7) X→Mid w q s X q s:=fun X hX => hX.mid HA.out hX.a (BkSt.refl X q s.d.L.n) (BnkSt.refl s)
  have HGEN:=Lib.hid hgen
  clear hgen
  cases md with
  | false =>
   have HM3:=Lib.hid (HGEN.out _ HB3.out)
   have x0:=(HM3.out.r.cell 0).trans (show _ = some (.int .i64 0) from rfl)
   have f0:=HM3.out.r.frozen 0
   have x1:=(HM3.out.r.cell 1).trans (show _ = some (.int .i64 0) from rfl)
   have f1:=HM3.out.r.frozen 1
   have x2:=(HM3.out.r.cell 2).trans (show _ = some (.slice none 0 0) from rfl)
   have f2:=HM3.out.r.frozen 2
   go_wp2
   exact bodyPost_ret (results_row1 rfl _ _ _ (w.heap.size + 1) _ _ rfl (blk_set3 HM3.out.r (.int .i64 7) (.int .i64 0) (.slice none 0 0)).range Tryz.underlying49 rfl (by kernel_rfl)) rfl (HM3.out.done (by omega) (by omega) in0 Mid.row ids_ok0 ⟨fun _ h => by omega,fun _ _ _ _ hcut => by have h1:=HP3.out hcut; have h2:=HME.out; rw [h1,HMX.out] at h2; cases h2⟩ _ _ _)
  | true =>
   have y0:w3.cell? ⟨w.heap.size,0,none⟩ = some (.int .i64 c.k):=(HB3.out.c.cell 0).trans rfl
   have y1:w3.cell? ⟨w.heap.size,1,none⟩ = some (.int .i64 (c.n 1)):=(HB3.out.c.cell 1).trans rfl
   have y2:w3.cell? ⟨w.heap.size,2,none⟩ = some (.int .i64 (c.n 2)):=(HB3.out.c.cell 2).trans rfl
   have y3:w3.cell? ⟨w.heap.size,3,none⟩ = some (.int .i64 (c.n 3)):=(HB3.out.c.cell 3).trans rfl
   have y4:w3.cell? ⟨w.heap.size,4,none⟩ = some (.int .i64 (c.n 4)):=(HB3.out.c.cell 4).trans rfl
   have y5:w3.cell? ⟨w.heap.size,5,none⟩ = some (.int .i64 (c.n 5)):=(HB3.out.c.cell 5).trans rfl
   have y6:w3.cell? ⟨w.heap.size,6,none⟩ = some (.int .i64 (c.n 6)):=(HB3.out.c.cell 6).trans rfl
   have y7:w3.cell? ⟨w.heap.size,7,none⟩ = some (.int .i64 (c.n 7)):=(HB3.out.c.cell 7).trans rfl
   have HWC:=Lib.hid (HWH.out w3 HB3.out.a HMT.out)
   go_wp2_with fail
   refine HWC.out.mono ?_
   rintro e w4 ⟨E,rfl,hE,hb4,hw1,hw2⟩
   have HB4:=Lib.hid (HB3.out.below hb4)
   have HWW:=Lib.hid (And.intro hw1 hw2)
   have HE:=Lib.hid hE
   clear hb4 hw1 hw2 hE y0 y1 y2 y3 y4 y5 y6 y7 HWC HB3
   rcases eqs E 0 with ⟨a1,a2,a3⟩ | ⟨a1,a2,a3⟩
   · subst a1
     clear a2 a3
     go_upto_region 8 with (fail)
     have HB5:=Lib.hid (HB4.out.below (Below.refl w4.heap.size w4).drew)
     have HHD:=Lib.hid (HH.out w4.drew HB5.out.a HMT.out (HWW.out.1 trivial))
     have HDO:=Lib.hid (fun wx => Bk.does (.pointer (some ⟨q.b,0,none⟩)) c.k HKK.out wx)
     have HCK:=Lib.hid (fun (e:Ending) (w':World) p => HB5.out.handed HA.out (Q:=DoQ s c) (e:=e) (w':=w') p)
     have hXX:w.heap.size ≠ w.heap.size + 1:=by omega
     have hcc:=HB4.out.c
     have S0:w4.drew.cell? ⟨w.heap.size,0,none⟩ = some (.int .i64 c.k)∧w4.drew.cell? ⟨w.heap.size,1,none⟩ = some (.int .i64 (c.n 1))∧w4.drew.cell? ⟨w.heap.size,2,none⟩ = some (.int .i64 (c.n 2))∧w4.drew.cell? ⟨w.heap.size,3,none⟩ = some (.int .i64 (c.n 3))∧w4.drew.cell? ⟨w.heap.size,4,none⟩ = some (.int .i64 (c.n 4))∧w4.drew.cell? ⟨w.heap.size,5,none⟩ = some (.int .i64 (c.n 5))∧w4.drew.cell? ⟨w.heap.size,6,none⟩ = some (.int .i64 (c.n 6))∧w4.drew.cell? ⟨w.heap.size,7,none⟩ = some (.int .i64 (c.n 7)):=⟨(hcc.cell 0).trans rfl,(hcc.cell 1).trans rfl,(hcc.cell 2).trans rfl,(hcc.cell 3).trans rfl,(hcc.cell 4).trans rfl,(hcc.cell 5).trans rfl,(hcc.cell 6).trans rfl,(hcc.cell 7).trans rfl⟩
     clear hcc
     go_region_held3 (fun wx => wx.cell? ⟨w.heap.size,0,none⟩ = some (.int .i64 c.k)∧wx.cell? ⟨w.heap.size,1,none⟩ = some (.int .i64 (c.n 1))∧wx.cell? ⟨w.heap.size,2,none⟩ = some (.int .i64 (c.n 2))∧wx.cell? ⟨w.heap.size,3,none⟩ = some (.int .i64 (c.n 3))∧wx.cell? ⟨w.heap.size,4,none⟩ = some (.int .i64 (c.n 4))∧wx.cell? ⟨w.heap.size,5,none⟩ = some (.int .i64 (c.n 5))∧wx.cell? ⟨w.heap.size,6,none⟩ = some (.int .i64 (c.n 6))∧wx.cell? ⟨w.heap.size,7,none⟩ = some (.int .i64 (c.n 7)))
       (first | with_reducible exact S1 | with_reducible exact S2 | exact S0)
       (first
         | (go_at_call 59; refine (HDO.out _).mono ?_; rintro e w5 ⟨rfl,rfl⟩)
         | (refine HHD.out.mono ?_; intro e w6 hpost; obtain ⟨E,V,ra,rn,rc,zs,q2,s2,rfl,hE6,hV,hr,hz,hm6,hq,hcc⟩:=HCK.out e w6 hpost; clear hpost; have S1:=And.intro ((hcc.cell 0).trans (show _ = some (.int .i64 c.k) from rfl)) (And.intro ((hcc.cell 1).trans (show _ = some (.int .i64 (c.n 1)) from rfl)) (And.intro ((hcc.cell 2).trans (show _ = some (.int .i64 (c.n 2)) from rfl)) (And.intro ((hcc.cell 3).trans (show _ = some (.int .i64 (c.n 3)) from rfl)) (And.intro ((hcc.cell 4).trans (show _ = some (.int .i64 (c.n 4)) from rfl)) (And.intro ((hcc.cell 5).trans (show _ = some (.int .i64 (c.n 5)) from rfl)) (And.intro ((hcc.cell 6).trans (show _ = some (.int .i64 (c.n 6)) from rfl)) ((hcc.cell 7).trans (show _ = some (.int .i64 (c.n 7)) from rfl)))))))); have S2:=And.intro (cell_set3 S1.1 hXX (.int .i64 E) (.int .i64 V) (.slice ra rn rc)) (And.intro (cell_set3 S1.2.1 hXX (.int .i64 E) (.int .i64 V) (.slice ra rn rc)) (And.intro (cell_set3 S1.2.2.1 hXX (.int .i64 E) (.int .i64 V) (.slice ra rn rc)) (And.intro (cell_set3 S1.2.2.2.1 hXX (.int .i64 E) (.int .i64 V) (.slice ra rn rc)) (And.intro (cell_set3 S1.2.2.2.2.1 hXX (.int .i64 E) (.int .i64 V) (.slice ra rn rc)) (And.intro (cell_set3 S1.2.2.2.2.2.1 hXX (.int .i64 E) (.int .i64 V) (.slice ra rn rc)) (And.intro (cell_set3 S1.2.2.2.2.2.2.1 hXX (.int .i64 E) (.int .i64 V) (.slice ra rn rc)) (cell_set3 S1.2.2.2.2.2.2.2 hXX (.int .i64 E) (.int .i64 V) (.slice ra rn rc)))))))); have x0:=(hm6.r.cell 0).trans (show _ = some (.int .i64 0) from rfl); have f0:=hm6.r.frozen 0; have x1:=(hm6.r.cell 1).trans (show _ = some (.int .i64 0) from rfl); have f1:=hm6.r.frozen 1; have x2:=(hm6.r.cell 2).trans (show _ = some (.slice none 0 0) from rfl); have f2:=hm6.r.frozen 2; have HM6:=Lib.hid hm6; have HQ6:=Lib.hid (And.intro hE6 (And.intro hV (And.intro hr (And.intro hz hq)))); clear hm6 hE6 hV hr hz hq hcc))
     go_wp2
     exact bodyPost_ret (results_row1 rfl _ _ _ (w.heap.size + 1) _ _ rfl (blk_set3 HM6.out.r (.int .i64 E) (.int .i64 V) (.slice ra rn rc)).range Tryz.underlying49 rfl (by kernel_rfl)) rfl (HM6.out.done HQ6.out.1.1 HQ6.out.1.2 HQ6.out.2.1 HQ6.out.2.2.1 HQ6.out.2.2.2.1 HQ6.out.2.2.2.2 _ _ _)
   · have HNE:=Lib.hid a1
     have a4:(E != 0) = true:=by simpa using a1
     clear a1 a3
     have HM3:=Lib.hid (HGEN.out _ HB4.out)
     have x0:=(HM3.out.r.cell 0).trans (show _ = some (.int .i64 0) from rfl)
     have f0:=HM3.out.r.frozen 0
     have x1:=(HM3.out.r.cell 1).trans (show _ = some (.int .i64 0) from rfl)
     have f1:=HM3.out.r.frozen 1
     have x2:=(HM3.out.r.cell 2).trans (show _ = some (.slice none 0 0) from rfl)
     have f2:=HM3.out.r.frozen 2
     go_wp2
     exact bodyPost_ret (results_row1 rfl _ _ _ (w.heap.size + 1) _ _ rfl (blk_set3 HM3.out.r (.int .i64 E) (.int .i64 0) (.slice none 0 0)).range Tryz.underlying49 rfl (by kernel_rfl)) rfl (HM3.out.done (by have:=HE.out; omega) (by have:=HE.out; omega) in0 Mid.row ids_ok0 ⟨fun _ h => absurd h HNE.out,fun h3 _ hn hf _ => absurd (HWW.out.2 (fun m hm => by unfold membersOf at hm; simp [h3] at hm; subst hm; exact ⟨hn.2,hf⟩)) HNE.out⟩ _ _ _)
end Go.Proofs.YtgcnnbjbdfgglaaGreat
namespace Go.Proofs.YtgcnnbjbdfgglaaGreat
open Go.RowKit
def DckPost (cut close:Int) (n:Nat) (f:Nat→Int) (w:World) (e:Ending) (w':World):Prop:=∃ c:Int,e = .returned (.int .i64 c)∧(c = 0∨c = 1)∧Below w.heap.size w w'∧(c = 0→1≤n∧n≤16)∧(0≤cut→cut < close→close≤2147483647→n = 1→cut≤f 0→f 0 < close→c = 0)
set_option maxRecDepth 100000 in
set_option maxHeartbeats 8000000 in
theorem Bk.dcheck {w:World} {da:Option Addr} {dc n:Nat} {f:Nat→Int} (h:SlI w (.slice da n dc) n f) (cut close:Int):Calls Tryz.prog 52 #[.agg #[.int .i64 cut,.int .i64 close,.slice da n dc]] w (DckPost cut close n f w):=by
 have HH:=Lib.hid h
 have HB0:=Lib.hid ((Below.refl w.heap.size w).alloc (Nat.le_refl _) (.cells #[.int .i64 cut,.int .i64 close,.slice da n dc] 27))
 have HX0:=Lib.hid (Blk.new w 27 #[.int .i64 cut,.int .i64 close,.slice da n dc])
 clear h
 go_enter Tryz.func52,Tryz.ntmps52
 go_upto_region 1 with (fail)
 generalize w.alloc (.cells #[.int .i64 cut,.int .i64 close,.slice da n dc] 27) = w1 at *
 have x0:w1.cell? ⟨w.heap.size,0,none⟩ = some (.int .i64 cut):=(HX0.out.cell 0).trans rfl
 have x1:w1.cell? ⟨w.heap.size,1,none⟩ = some (.int .i64 close):=(HX0.out.cell 1).trans rfl
 have x2:w1.cell? ⟨w.heap.size,2,none⟩ = some (.slice da n dc):=(HX0.out.cell 2).trans rfl
 by_cases h1:cut < 0
 · have d1:decide (cut < 0) = true:=decide_eq_true h1
   have HN:=Lib.hid h1
   clear h1
   go_wp2
   go_ret
   exact ⟨1,rfl,by omega,HB0.out,fun h => by omega,fun h0 => by have:=HN.out; omega⟩
 have d1:decide (cut < 0) = false:=decide_eq_false h1
 by_cases h2:close≤cut
 · have d2:decide (close≤cut) = true:=decide_eq_true h2
   have HN:=Lib.hid h2
   clear h2 h1
   go_wp2
   go_ret
   exact ⟨1,rfl,by omega,HB0.out,fun h => by omega,fun _ h0 => by have:=HN.out; omega⟩
 have d2:decide (close≤cut) = false:=decide_eq_false h2
 by_cases h3:2147483647 < close
 · have d3:decide (2147483647 < close) = true:=decide_eq_true h3
   have HN:=Lib.hid h3
   clear h3 h2 h1
   go_wp2
   go_ret
   exact ⟨1,rfl,by omega,HB0.out,fun h => by omega,fun _ _ h0 => by have:=HN.out; omega⟩
 have d3:decide (2147483647 < close) = false:=decide_eq_false h3
 by_cases h4:n = 0
 · subst h4
   clear h3 h2 h1
   go_wp2
   go_ret
   exact ⟨1,rfl,by omega,HB0.out,fun h => by omega,fun _ _ _ h0 => by omega⟩
 have d4:decide ((n:Int) < 1) = false:=decide_eq_false (by omega)
 have d4':decide (n < 1) = false:=decide_eq_false (by omega)
 by_cases h5:16 < n
 · have d5:decide ((16:Int) < (n:Int)) = true:=decide_eq_true (by omega)
   have d5':decide (16 < n) = true:=decide_eq_true h5
   have HN:=Lib.hid h5
   clear h5 h3 h2 h1
   go_wp2
   go_ret
   exact ⟨1,rfl,by omega,HB0.out,fun h => by omega,fun _ _ _ h0 => by have:=HN.out; omega⟩
 have d5:decide ((16:Int) < (n:Int)) = false:=decide_eq_false (by omega)
 have d5':decide (16 < n) = false:=decide_eq_false h5
 obtain ⟨a',c',he,hcc⟩:=HH.out
 obtain ⟨b,o,hab,hc⟩:=hcc (by omega)
 have hda:da = some ⟨b,o,none⟩:=by injection he with e1; rw [e1,hab]
 subst hda
 have HC:=Lib.hid (fun i (hi:i < n) => Bk.kept HB0.out (hc i hi))
 have hn16:n≤16:=by omega
 have hn1:1≤n:=by omega
 have HCT:=Lib.hid (And.intro h1 (And.intro h2 h3))
 clear he hcc hab hc h1 h2 h3 h4 h5
 go_upto_region 4 with (fail)
 have q0:=HC.out 0 (by omega)
 rw [Nat.add_zero] at q0
 have q1:=HC.out (n - 1) (by omega)
 have w0:wrap64 ((n:Int) - 1) = ((n - 1:Nat):Int):=by rw [Bk.wrap_in (by unfold In64; omega)]; omega
 have b0:(0:Int) < (n:Int):=by omega
 have b1:((n - 1:Nat):Int) < (n:Int):=by omega
 by_cases h6:f 0 < cut
 · have d6:decide (f 0 < cut) = true:=decide_eq_true h6
   have HN:=Lib.hid h6
   clear h6
   go_quiet (fail)
   go_wp2
   go_ret
   exact ⟨1,rfl,by omega,Bk.bdrew HB0.out _,fun h => by omega,fun _ _ _ _ h0 => by have:=HN.out; omega⟩
 have d6:decide (f 0 < cut) = false:=decide_eq_false h6
 by_cases h7:close≤f (n - 1)
 · have d7:decide (close≤f (n - 1)) = true:=decide_eq_true h7
   have HN:=Lib.hid h7
   clear h6 h7
   go_quiet (fail)
   go_wp2
   go_ret
   exact ⟨1,rfl,by omega,Bk.bdrew HB0.out _,fun h => by omega,fun _ _ _ h1 _ h0 => by have:=HN.out; subst h1; simp at this; omega⟩
 have d7:decide (close≤f (n - 1)) = false:=decide_eq_false h7
 clear h6 h7
 go_quiet (fail)
 have HB1:=Lib.hid (Bk.bdrew HB0.out nq)
 have x2':(w1.drewN nq).cell? ⟨w.heap.size,2,none⟩ = some (.slice (some ⟨b,o,none⟩) n dc):=x2
 have HC1:=Lib.hid (show ∀ i,i < n→(w1.drewN nq).cell? ⟨b,o + i,none⟩ = some (.int .i64 (f i)) from HC.out)
 clear x0 x1 x2 q0 q1 w0 HC d1 d2 d3 d4 d4' d5 d5' d6 d7 HX0
 generalize w1.drewN nq = w2 at *
 have HX2:=Lib.hid x2'
 clear x2'
 go_wp2
 go_loopw [4] (fun i wr => ∃ j:Nat,1≤j∧j≤n∧i = .int .i64 j∧Hid (Below w2.heap.size w2 wr)) (fun i _ => n - (intOf i).toNat)
 case atStart => exact ⟨1,by omega,by omega,rfl,Lib.hid (Below.refl _ _)⟩
 case round =>
  obtain ⟨j,hj1,hj,rfl,HBW⟩:=hrel
  by_cases hlt:j < n
  · have p1:(j:Int) < (n:Int):=by omega
    have z2:=Bk.kept HBW.out HX2.out
    have r1:=Bk.kept HBW.out (HC1.out j hlt)
    have r0:=Bk.kept HBW.out (HC1.out (j - 1) (by omega))
    have w0:wrap64 ((j:Int) - 1) = ((j - 1:Nat):Int):=by rw [Bk.wrap_in (by unfold In64; omega)]; omega
    have b2:((j - 1:Nat):Int) < (n:Int):=by omega
    by_cases h8:f j≤f (j - 1)
    · have d8:decide (f j≤f (j - 1)) = true:=decide_eq_true h8
      have HN1:=Lib.hid hlt
      clear h8
      go_upto_region 9 with (fail)
      go_quiet (fail)
      go_wp2
      go_ret
      exact ⟨1,rfl,by omega,Bk.bdrew (HB1.out.trans (HBW.out.mono HB1.out.size)) _,fun h => by omega,fun _ _ _ h1 _ _ => by have:=HN1.out; omega⟩
    · have d8:decide (f j≤f (j - 1)) = false:=decide_eq_false h8
      clear h8
      go_upto_region 9 with (fail)
      go_quiet (fail)
      have HBX:=Lib.hid (Bk.bdrew HBW.out nq)
      clear z2 r1 r0
      go_wp2
      go_roundw
      case rel => exact ⟨j + 1,by omega,by omega,by go_num,HBX⟩
      case measure => simp [intOf]; omega
  · obtain rfl:j = n:=by omega
    go_wp2
    go_ret
    exact ⟨0,rfl,by omega,HB1.out.trans (HBW.out.mono HB1.out.size),fun _ => ⟨hn1,hn16⟩,fun _ _ _ _ _ _ => rfl⟩
set_option maxRecDepth 100000 in
set_option maxHeartbeats 4000000 in
theorem Bk.checkAny {w:World} {v:Value} {n:Nat} {code:Nat→ByteArray} {rate cut:Nat→Int} (h:TabIn w v n code rate cut):Calls Tryz.prog 48 #[v] w (CkPost n code rate cut w):=by
 by_cases hn:(n:Int)≤4000
 · exact Bk.check h hn
 · obtain ⟨a,c,rfl,hc⟩:=h
   clear hc
   have h1:¬ (n:Int) = 0:=by omega
   have h2:(8:Int) < n:=by omega
   go_enter Tryz.func48,Tryz.ntmps48
   go_wp2
   go_ret
   exact ⟨4,rfl,by omega,by omega,by omega,by omega,Below.refl _ _⟩
end Go.Proofs.YtgcnnbjbdfgglaaGreat
