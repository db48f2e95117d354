/- LAW TopBoth: of every configuration of a bank and every list of byte strings the given function TopBoth returns true and leaves its arguments as they were; no condition. A part of what it needs. -/
import Derived.Test.YtgcnnbjbdfgglaaGreatZbe
namespace Go.Proofs.YtgcnnbjbdfgglaaGreat
open Go.RowKit
theorem phase_of (s:Bnk):s.phase = 0∨s.phase = 1∨s.phase = 2:=by
 unfold Bnk.phase phaseI
 split
 · exact .inl rfl
 · split
   · exact .inr (.inl rfl)
   · exact .inr (.inr rfl)
theorem BkAt.time {w:World} {q:Qh} {s:Bnk} (a:BkAt w q s) (t:Int):BkAt (w.setCell ⟨q.b,11,none⟩ (.int .i64 t)) q { s with now:=t }∧BkSt w q (w.setCell ⟨q.b,11,none⟩ (.int .i64 t)) q s.d.L.n∧BnkSt s { s with now:=t }:=by
 have hne:∀ x,x ≠ q.b→(w.setCell ⟨q.b,11,none⟩ (.int .i64 t)).heap[x]? = w.heap[x]?:=fun x hx => heap_setCell_other _ _ _ _ hx
 have hfb:q.fb ≠ q.b:=fun e => Ty.ne a.fty ⟨_,a.blk⟩ (by decide) e
 have hk:Kept (fun x => x = q.b) w (w.setCell ⟨q.b,11,none⟩ (.int .i64 t)):=(Kept.refl (fun x => x = q.b) w).setCell (.inl rfl) _ _
 refine ⟨⟨a.blk.set 11 _,a.ps.frame (fun x hx => hne x (fun e => a.ap x (.inl e) hx)),a.le.frame hk (fun x hx e => a.eb (e ▸ hx)),a.C,a.flr.same (hne _ hfb),a.fty.same (hne _ hfb),a.ap,a.eb,a.ef,a.n1,a.n15,a.nL,a.mem,a.good,a.gone⟩,⟨rfl,hk.mono (fun _ _ h => .inl h),fun _ h => .inl h⟩,⟨rfl,rfl,rfl,fun _ h => h,BoStep.refl _ _⟩⟩
theorem BkAt.cycle {w:World} {q:Qh} {s:Bnk} (a:BkAt w q s) {e:Ending} {w':World} (p:CyPost q.h s.d q.k s.B w e w'):∃ (ra:Option Addr) (rn rc:Nat) (zs:List Int) (x:Int) (q':Qh) (s':Bnk),e = .returned (.tuple #[.slice ra rn rc,.int .i64 x])∧w'.ownsRow w.heap.size 3 1 (.slice ra rn rc) zs.length (ints zs)∧IdsOk zs∧(∀ x,q'.own s.d.L.n x→Value.ownBlock (.slice ra rn rc) ≠ some x)∧BkAt w' q' s'∧BkSt w q w' q' s.d.L.n∧BnkSt s s'∧w'.cell? ⟨q.b,8,none⟩ = some (.pointer (some ⟨q.h.g,0,none⟩))∧w'.cell? ⟨q.b,9,none⟩ = some (.pointer (some ⟨q.k.b,0,none⟩)):=by
 obtain ⟨v,zs,x,d',h',B',k',rfl,hown,hz,hap,hp,hS,hsz,hgd,hst⟩:=p
 obtain ⟨h1,h2,h3⟩:=a.step2 hp hS hsz (hgd a.good) hst (a.gone.step hst (fun y hy => hy.elim))
 obtain ⟨ra,rn,rc,rfl⟩:∃ ra rn rc,v = .slice ra rn rc:=by
  rcases hown.2 with ⟨rfl,_⟩ | ⟨g,cap,cur,rfl,_⟩
  · exact ⟨_,_,_,rfl⟩
  · exact ⟨_,_,_,rfl⟩
 refine ⟨ra,rn,rc,zs,x,_,_,rfl,hown,hz,fun x hx hv => ?_,h1,h2,h3,?_,?_⟩
 · have hge:=own_ge hown hv
   rcases hx with h | h | h | h
   · have:=a.ownlt (.inl rfl:q.own s.d.L.n q.b); rw [h] at hge; exact absurd hge (by show ¬ w.heap.size≤q.b; omega)
   · have:=a.ownlt (.inr (.inl rfl):q.own s.d.L.n q.fb); rw [h] at hge; exact absurd hge (by show ¬ w.heap.size≤q.fb; omega)
   · have:=a.ownlt (.inr (.inr (.inl h)):q.own s.d.L.n x); omega
   · exact hap x h hv
 · have h8:=h1.c8
   rw [show ({ q with h:=h',k:=k' }:Qh).h.g = q.h.g from Gh.pg hS.g] at h8
   exact h8
 · have h9:=h1.c9
   rw [show ({ q with h:=h',k:=k' }:Qh).k.b = q.k.b from hS.b] at h9
   exact h9
theorem cell_setc {w:World} {p:Addr} {v:Value} (h:w.cell? p = some v) {X:Nat} (hne:p.block ≠ X) (i:Nat) (u:Value):(w.setCell ⟨X,i,none⟩ u).cell? p = some v:=by
 rw [World.cell?_of_block (heap_setCell_other _ _ _ _ hne)]
 exact h
structure Mid2 (w:World) (q:Qh) (s:Bnk) (w':World) (q':Qh) (s':Bnk) (Y:Nat) (v0 v1 v2:Value):Prop where
  m:Mid w q s w' q' s'
  y:Blk w' Y 49 #[v0,v1,v2]
  yo:¬ q'.own s.d.L.n Y
  yl:w.heap.size + 1 < Y
theorem Mid.two {w:World} {q:Qh} {s:Bnk} {w':World} {q':Qh} {s':Bnk} (m:Mid w q s w' q' s') {Y:Nat} (hY:Y = w'.heap.size):Mid2 w q s (w'.alloc (.cells #[.int .i64 0,.int .i64 0,.slice none 0 0] 49)) q' s' Y (.int .i64 0) (.int .i64 0) (.slice none 0 0):=by
 subst hY
 exact ⟨m.below ((Below.refl _ _).alloc (Nat.le_refl _) _),Blk.new _ _ _,fun ho => by have:=m.a.ownlt (by rw [m.n.L]; exact ho); omega,m.sz⟩
theorem Mid2.below {w:World} {q:Qh} {s:Bnk} {w' w2:World} {q':Qh} {s':Bnk} {Y:Nat} {v0 v1 v2:Value} (m:Mid2 w q s w' q' s' Y v0 v1 v2) (hb:Below w'.heap.size w' w2):Mid2 w q s w2 q' s' Y v0 v1 v2:=⟨m.m.below hb,m.y.below hb,m.yo,m.yl⟩
theorem Mid2.step {w:World} {q:Qh} {s:Bnk} {w' w2:World} {q' q2:Qh} {s' s2:Bnk} {Y:Nat} {v0 v1 v2:Value} (m:Mid2 w q s w' q' s' Y v0 v1 v2) (a2:BkAt w2 q2 s2) (b0:BkSt w' q' w2 q2 s'.d.L.n) (n:BnkSt s' s2):Mid2 w q s w2 q2 s2 Y v0 v1 v2 :=
 have b:BkSt w' q' w2 q2 s.d.L.n:=m.m.n.L ▸ b0
 ⟨m.m.step a2 b0 n,blk_bk b m.y m.yo,fun ho => by
  rcases b.own _ ho with h | h
  · exact m.yo h
  · have:=m.y.lt; omega,m.yl⟩
theorem Mid2.set {w:World} {q:Qh} {s:Bnk} {w':World} {q':Qh} {s':Bnk} {Y:Nat} {v0 v1 v2:Value} (m:Mid2 w q s w' q' s' Y v0 v1 v2) {i:Nat} {v u0 u1 u2:Value} (hi:(#[v0,v1,v2]:Array Value).set! i v = #[u0,u1,u2]):Mid2 w q s (w'.setCell ⟨Y,i,none⟩ v) q' s' Y u0 u1 u2:=by
 have hk:Kept (fun x => x = Y) w' (w'.setCell ⟨Y,i,none⟩ v):=(Kept.refl (fun x => x = Y) w').setCell (.inl rfl) _ _
 have ha:=m.m.a.kept hk (fun x hx e => m.yo (by rw [m.m.n.L] at hx; exact e ▸ hx))
 have hy:=m.yl
 have h2:=m.y.set i v
 rw [hi] at h2
 exact ⟨⟨ha,⟨m.m.b.b,m.m.b.kept.setCell (.inr (by omega)) i v,m.m.b.own⟩,m.m.n,by have:=m.m.sz; simpa [World.setCell] using this,m.m.own,(hk.block _ m.m.r.lt (by omega)).trans m.m.r⟩,h2,m.yo,hy⟩
set_option maxRecDepth 100000 in
set_option maxHeartbeats 8000000 in
theorem Bk.btick {w:World} {q:Qh} {s:Bnk} (a:BkAt w q s) (k n1 n2 n3 n4 n5 n6 n7:Int) :
    Calls Tryz.prog 106 #[.pointer (some ⟨q.b,0,none⟩),.agg (cmdC k n1 n2 n3 n4 n5 n6 n7)] w (DoPost q s (fun _ _ _ _ => True) w):=by
 have HA:=Lib.hid a
 have HB:=Lib.hid (Beg.new a k n1 n2 n3 n4 n5 n6 n7)
 clear a
 go_enter Tryz.func106,Tryz.ntmps106
 go_upto_region 1 with (fail)
 generalize ((w.alloc (.cells #[.int .i64 k,.int .i64 n1,.int .i64 n2,.int .i64 n3,.int .i64 n4,.int .i64 n5,.int .i64 n6,.int .i64 n7] 54)).alloc (.cells #[.int .i64 0,.int .i64 0,.slice none 0 0] 49)) = w1 at *
 have c11:=HB.out.a.c11
 have y2:w1.cell? ⟨w.heap.size,2,none⟩ = some (.int .i64 n2):=(HB.out.c.cell 2).trans rfl
 go_quiet (fail)
 have HB1:=Lib.hid (HB.out.below (Bk.bdrew (Below.refl w1.heap.size w1) nq))
 generalize w1.drewN nq = w2 at *
 clear HB c11 y2
 by_cases hx:n2 < s.now
 · have d1:decide (n2 < s.now) = true:=decide_eq_true hx
   have HM:=Lib.hid (HB1.out.mid HA.out HB1.out.a (BkSt.refl w2 q s.d.L.n) (BnkSt.refl s))
   have x0:=(HB1.out.r.cell 0).trans (show _ = some (.int .i64 0) from rfl)
   have f0:=HB1.out.r.frozen 0
   have x1:=(HB1.out.r.cell 1).trans (show _ = some (.int .i64 0) from rfl)
   have f1:=HB1.out.r.frozen 1
   have x2:=(HB1.out.r.cell 2).trans (show _ = some (.slice none 0 0) from rfl)
   have f2:=HB1.out.r.frozen 2
   go_wp2
   exact bodyPost_ret (results_row1 rfl _ _ _ (w.heap.size + 1) _ _ rfl (blk_set3 HM.out.r (.int .i64 1) (.int .i64 0) (.slice none 0 0)).range Tryz.underlying49 rfl (by kernel_rfl)) rfl (HM.out.done (by omega) (by omega) in0 Mid.row ids_ok0 trivial _ _ _)
 · have d1:decide (n2 < s.now) = false:=decide_eq_false hx
   have HP1:=Lib.hid (Bk.bkPhase HB1.out.a)
   have hph:=phase_of s
   have HPH:=Lib.hid hph
   clear hph
   generalize s.phase = ph at *
   go_wp2_with fail
   refine HP1.out.mono ?_
   rintro e w3 ⟨rfl,hb3⟩
   have HB3:=Lib.hid (HB1.out.below hb3)
   clear hb3 HP1 HB1
   have HM3:=Lib.hid (HB3.out.mid HA.out HB3.out.a (BkSt.refl w3 q s.d.L.n) (BnkSt.refl s))
   obtain ⟨t1,t2,t3⟩:=HB3.out.a.time n2
   have HM4:=Lib.hid (HM3.out.step t1 t2 t3)
   have c11:=HB3.out.a.c11
   have f11:=HB3.out.a.fr 11
   have y2:w3.cell? ⟨w.heap.size,2,none⟩ = some (.int .i64 n2):=(HB3.out.c.cell 2).trans rfl
   have HNL:=Lib.hid t3.L
   clear t1 t2 t3 HM3
   generalize hs1:({ s with now:=n2 }:Bnk) = s1 at *
   clear hs1
   have hX:q.b ≠ w.heap.size + 1:=fun e => by have:=HA.out.ownlt (.inl rfl:q.own s.d.L.n q.b); omega
   have hYs:w3.heap.size = (w3.setCell ⟨q.b,11,none⟩ (.int .i64 n2)).heap.size:=by simp [World.setCell]
   have HM5:=Lib.hid (HM4.out.two hYs)
   clear hYs HM4
   go_upto_region 6 with (fail)
   generalize ((w3.setCell ⟨q.b,11,none⟩ (.int .i64 n2)).alloc (.cells #[.int .i64 0,.int .i64 0,.slice none 0 0] 49)) = w5 at *
   generalize w3.heap.size = Y at *
   clear c11 f11 y2 HB3
   have HPD:=Lib.hid (show ∀ (W:World) (q':Qh) (s':Bnk) (v0 v1 v2:Value),Mid2 w q s W q' s' Y v0 v1 v2→Calls Tryz.prog 57 #[.pointer (some ⟨q.b,0,none⟩)] W fun e w' => e = .returned (.int .i64 s'.phase)∧Below W.heap.size W w' from fun W q' s' v0 v1 v2 m => by
    have h:=Bk.bkPhase m.m.a
    rw [m.m.b.b] at h
    exact h)
   have hXY:Y ≠ w.heap.size + 1:=by have:=HM5.out.yl; omega
   by_cases hp2:ph = 2
   · have d2:decide (ph = 2) = true:=decide_eq_true hp2
     have d3:(ph == 2) = true:=by simp [hp2]
     have x0:=(HM5.out.m.r.cell 0).trans (show _ = some (.int .i64 0) from rfl)
     have f0:=HM5.out.m.r.frozen 0
     have x1:=(HM5.out.m.r.cell 1).trans (show _ = some (.int .i64 0) from rfl)
     have f1:=HM5.out.m.r.frozen 1
     have x2:=(HM5.out.m.r.cell 2).trans (show _ = some (.slice none 0 0) from rfl)
     have f2:=HM5.out.m.r.frozen 2
     have y0:=(HM5.out.y.cell 0).trans (show _ = some (.int .i64 0) from rfl)
     have y1:=(HM5.out.y.cell 1).trans (show _ = some (.int .i64 0) from rfl)
     have y2:=(HM5.out.y.cell 2).trans (show _ = some (.slice none 0 0) from rfl)
     clear hp2 hx
     go_wp2
     exact bodyPost_ret (results_row1 rfl _ _ _ (w.heap.size + 1) _ _ rfl (blk_set3 HM5.out.m.r (.int .i64 0) (.int .i64 0) (.slice none 0 0)).range Tryz.underlying49 rfl (by kernel_rfl)) rfl (HM5.out.m.done (by omega) (by omega) in0 Mid.row ids_ok0 trivial _ _ _)
   · have d2:decide (ph = 2) = false:=decide_eq_false hp2
     have d3:(ph == 2) = false:=by simp [hp2]
     have HC5:=Lib.hid (HPD.out w5 q s1 _ _ _ HM5.out)
     have hp1:=phase_of s1
     have HP1:=Lib.hid hp1
     clear hp1 hp2 hx
     generalize hp:s1.phase = p1 at *
     clear hp
     go_wp2_with fail
     refine HC5.out.mono ?_
     rintro e w6 ⟨rfl,hb6⟩
     have HM6:=Lib.hid (HM5.out.below hb6)
     clear hb6 HC5 HM5
     by_cases hp0:p1 = 0
     · subst hp0
       have x0:=(HM6.out.m.r.cell 0).trans (show _ = some (.int .i64 0) from rfl)
       have f0:=HM6.out.m.r.frozen 0
       have x1:=(HM6.out.m.r.cell 1).trans (show _ = some (.int .i64 0) from rfl)
       have f1:=HM6.out.m.r.frozen 1
       have x2:=(HM6.out.m.r.cell 2).trans (show _ = some (.slice none 0 0) from rfl)
       have f2:=HM6.out.m.r.frozen 2
       have y0:=(HM6.out.y.cell 0).trans (show _ = some (.int .i64 0) from rfl)
       have y1:=(HM6.out.y.cell 1).trans (show _ = some (.int .i64 0) from rfl)
       have y2:=(HM6.out.y.cell 2).trans (show _ = some (.slice none 0 0) from rfl)
       go_wp2
       exact bodyPost_ret (results_row1 rfl _ _ _ (w.heap.size + 1) _ _ rfl (blk_set3 HM6.out.m.r (.int .i64 0) (.int .i64 0) (.slice none 0 0)).range Tryz.underlying49 rfl (by kernel_rfl)) rfl (HM6.out.m.done (by omega) (by omega) in0 Mid.row ids_ok0 trivial _ _ _)
     · have d4:(p1 == 0) = false:=by simp [hp0]
       have d5:decide (p1 = 0) = false:=decide_eq_false hp0
       clear hp0
       go_upto_region 8 with (fail)
       have HM7:=Lib.hid (HM6.out.below (Below.refl w6.heap.size w6).drew)
       have c8:=HM6.out.m.a.c8
       have c9:=HM6.out.m.a.c9
       have g8:=HM6.out.y.cell 2
       have HCY:=Lib.hid (Bk.cycle HM7.out.m.a.ps)
       have HCK:=Lib.hid (fun (e:Ending) (w':World) p => HM7.out.m.a.cycle (e:=e) (w':=w') p)
       have hYb:Hid (q.b ≠ Y):=Lib.hid (fun e => HM6.out.yo (e ▸ .inl rfl))
       clear HM6
       go_region_held3 (fun wx => wx.cell? ⟨q.b,8,none⟩ = some (.pointer (some ⟨q.h.g,0,none⟩))∧wx.cell? ⟨q.b,9,none⟩ = some (.pointer (some ⟨q.k.b,0,none⟩)))
         (first | exact ⟨c8,c9⟩ | exact ⟨k8,k9⟩ | exact ⟨cell_setc k8 hYb.out _ _,cell_setc k9 hYb.out _ _⟩)
         (first
           | (go_at_call 147; refine HCY.out.mono ?_; intro e w8 hpost; obtain ⟨ra,rn,rc,zs,ec,q2,s2,rfl,hown,hz,hap,ha8,hb8,hn8,k8,k9⟩:=HCK.out e w8 hpost; clear hpost; have HM8:=Lib.hid (HM7.out.step ha8 hb8 hn8); have z2:=(HM8.out.y.cell 2).trans (show _ = some (.slice none 0 0) from rfl); have g2:=HM8.out.y.frozen 2))
       have hYl:=HM7.out.y.lt
       have hX1:=HM7.out.m.sz
       have HM9:=Lib.hid (HM8.out.set (i:=2) (v:=.slice ra rn rc) rfl)
       have HRY:=Lib.hid (show ∀ x,Value.ownBlock (.slice ra rn rc) = some x→x ≠ Y from fun x hx e => by have:=own_ge hown hx; omega)
       have HRW:=Lib.hid (own_wk (own_same (w':=w8.setCell ⟨Y,2,none⟩ (.slice ra rn rc)) hown (fun x hx => heap_setCell_other _ _ _ _ (HRY.out x hx))) (show w.heap.size + 2≤_ from hX1))
       have HRN:=Lib.hid hap
       have HZ:=Lib.hid hz
       clear hYl hX1 hown hap hz ha8 hb8 hn8 k8 k9 z2 g2 HM8 HM7 HCY HCK c8 c9 g8
       generalize w8.setCell ⟨Y,2,none⟩ (.slice ra rn rc) = w9 at *
       have HC9:=Lib.hid (HPD.out w9 q2 s2 _ _ _ HM9.out)
       have hp1:=phase_of s2
       have HPX:=Lib.hid hp1
       clear hp1
       generalize hp:s2.phase = p2 at *
       clear hp
       go_wp2_with fail
       refine HC9.out.mono ?_
       rintro e w10 ⟨rfl,hb10⟩
       have HM10:=Lib.hid (HM9.out.below hb10)
       have HRW10:=Lib.hid (own_below HRW.out hb10)
       clear hb10 HC9 HM9 HRW
       by_cases hp2:p2 = 2
       · subst hp2
         have hpa:=Bk.payAll HM10.out.m.a
         rw [HM10.out.m.b.b] at hpa
         have HPA:=Lib.hid hpa
         clear hpa
         go_wp2_with fail
         refine HPA.out.mono ?_
         rintro e w11 ⟨v,q3,s3,rfl,hv,ha11,hb11,hn11⟩
         have HM11:=Lib.hid (HM10.out.step ha11 hb11 hn11)
         have HRW11:=Lib.hid (own_same HRW10.out (fun x hx => hb11.kept.block x (HRW10.out.lt x hx).2 (fun ho => by
          have h1:=HM10.out.m.n.L
          rw [h1] at ho
          have h2:=HRN.out x
          have h3:s1.d.L.n = s.d.L.n:=HNL.out
          rw [h3] at h2
          exact h2 ho hx)))
         have HV:=Lib.hid hv
         clear ha11 hb11 hn11 hv HPA HM10 HRW10
         have z1:=(HM11.out.y.cell 1).trans (show _ = some (.int .i64 0) from rfl)
         have g1:=HM11.out.y.frozen 1
         have HM12:=Lib.hid (HM11.out.set (i:=1) (v:=.int .i64 v) rfl)
         have HRW12:=Lib.hid (own_same (w':=w11.setCell ⟨Y,1,none⟩ (.int .i64 v)) HRW11.out (fun x hx => heap_setCell_other _ _ _ _ (HRY.out x hx)))
         go_upto_region 11 with (fail)
         generalize w11.setCell ⟨Y,1,none⟩ (.int .i64 v) = w12 at *
         clear z1 g1 HM11 HRW11
         have x0:=(HM12.out.m.r.cell 0).trans (show _ = some (.int .i64 0) from rfl)
         have f0:=HM12.out.m.r.frozen 0
         have x1:=(HM12.out.m.r.cell 1).trans (show _ = some (.int .i64 0) from rfl)
         have f1:=HM12.out.m.r.frozen 1
         have x2:=(HM12.out.m.r.cell 2).trans (show _ = some (.slice none 0 0) from rfl)
         have f2:=HM12.out.m.r.frozen 2
         have y0:=(HM12.out.y.cell 0).trans (show _ = some (.int .i64 0) from rfl)
         have y1:=(HM12.out.y.cell 1).trans (show _ = some (.int .i64 v) from rfl)
         have y2:=(HM12.out.y.cell 2).trans (show _ = some (.slice ra rn rc) from rfl)
         go_wp2
         exact bodyPost_ret (results_row1 rfl _ _ _ (w.heap.size + 1) _ _ rfl (blk_set3 HM12.out.m.r (.int .i64 0) (.int .i64 v) (.slice ra rn rc)).range Tryz.underlying49 rfl (by kernel_rfl)) rfl (HM12.out.m.done (by omega) (by omega) HV.out HRW12.out HZ.out trivial _ _ _)
       · have d6:(p2 == 2) = false:=by simp [hp2]
         have d7:decide (p2 = 2) = false:=decide_eq_false hp2
         clear hp2
         have x0:=(HM10.out.m.r.cell 0).trans (show _ = some (.int .i64 0) from rfl)
         have f0:=HM10.out.m.r.frozen 0
         have x1:=(HM10.out.m.r.cell 1).trans (show _ = some (.int .i64 0) from rfl)
         have f1:=HM10.out.m.r.frozen 1
         have x2:=(HM10.out.m.r.cell 2).trans (show _ = some (.slice none 0 0) from rfl)
         have f2:=HM10.out.m.r.frozen 2
         have y0:=(HM10.out.y.cell 0).trans (show _ = some (.int .i64 0) from rfl)
         have y1:=(HM10.out.y.cell 1).trans (show _ = some (.int .i64 0) from rfl)
         have y2:=(HM10.out.y.cell 2).trans (show _ = some (.slice ra rn rc) from rfl)
         go_wp2
         exact bodyPost_ret (results_row1 rfl _ _ _ (w.heap.size + 1) _ _ rfl (blk_set3 HM10.out.m.r (.int .i64 0) (.int .i64 0) (.slice ra rn rc)).range Tryz.underlying49 rfl (by kernel_rfl)) rfl (HM10.out.m.done (by omega) (by omega) in0 HRW10.out HZ.out trivial _ _ _)
end Go.Proofs.YtgcnnbjbdfgglaaGreat
namespace Go.Proofs.YtgcnnbjbdfgglaaGreat
open Go.RowKit
theorem BkAt.mark {w:World} {q:Qh} {s:Bnk} (a:BkAt w q s) {m:Nat} (hm:m < s.N) (hg:∀ i,i < s.B.n→((s.B.e i).a = m∨(s.B.e i).b = m)→3≤(s.B.e i).st) (hn:∀ i,i < s.B.n→0≤(s.B.e i).a∧0≤(s.B.e i).b):BkAt (w.setCell ⟨q.fb,m,none⟩ (.bool true)) q { s with fl:=fun i => if i = m then true else s.fl i }∧BkSt w q (w.setCell ⟨q.fb,m,none⟩ (.bool true)) q s.d.L.n∧BnkSt s { s with fl:=fun i => if i = m then true else s.fl i }:=by
 have hne:∀ x,x ≠ q.fb→(w.setCell ⟨q.fb,m,none⟩ (.bool true)).heap[x]? = w.heap[x]?:=fun x hx => heap_setCell_other _ _ _ _ hx
 have hfb:q.b ≠ q.fb:=fun e => Ty.ne a.fty ⟨_,a.blk⟩ (by decide) e.symm
 have hk:Kept (fun x => x = q.fb) w (w.setCell ⟨q.fb,m,none⟩ (.bool true)):=(Kept.refl (fun x => x = q.fb) w).setCell (.inl rfl) _ _
 refine ⟨⟨(hne _ hfb).trans a.blk,a.ps.frame (fun x hx => hne x (fun e => a.ap x (.inr (.inl e)) hx)),a.le.frame hk (fun x hx e => a.ef (e ▸ hx)),a.C,?_,a.fty.set _ _ _,a.ap,a.eb,a.ef,a.n1,a.n15,a.nL,a.mem,a.good,?_⟩,⟨rfl,hk.mono (fun _ _ h => .inr (.inl h)),fun _ h => .inl h⟩,⟨rfl,rfl,rfl,fun i h => ?_,BoStep.refl _ _⟩⟩
 · refine (a.flr.set1 hm (.bool true)).ext (fun i j hi hj => ?_)
   by_cases e:i = m
   · simp [e]
   · simp [e]
 · intro i hi hf
   have h0:=hn i hi
   by_cases ha:(s.B.e i).a = m∨(s.B.e i).b = m
   · exact hg i hi ha
   · refine a.gone i hi ?_
     simp only at hf
     rcases hf with h | h
     · rw [if_neg (by omega)] at h; exact .inl h
     · rw [if_neg (by omega)] at h; exact .inr h
 · show (if i = m then true else s.fl i) = true
   split
   · rfl
   · exact h
theorem BkAt.close {w:World} {q:Qh} {s:Bnk} (a:BkAt w q s) {m:Int} {e:Ending} {w':World} (p:CloPost q.h s.d q.k s.B m w e w'):∃ (ra:Option Addr) (rn rc:Nat) (n:Int) (sa:Option Addr) (sn sc:Nat) (c:Int) (zs:List Int) (q':Qh) (s':Bnk),e = .returned (.tuple #[.agg #[.slice ra rn rc,.int .i64 n,.slice sa sn sc],.int .i64 c])∧0≤c∧c≤12∧In64 n∧w'.ownsRow w.heap.size 3 1 (.slice ra rn rc) zs.length (ints zs)∧IdsOk zs∧BkAt w' q' s'∧BkSt w q w' q' s.d.L.n∧BnkSt s s'∧(c = 0→∀ i,i < s'.B.n→((s'.B.e i).a = m∨(s'.B.e i).b = m)→3≤(s'.B.e i).st)∧(w'.cell? ⟨q.b,6,none⟩ = some (.int .i64 s.N)∧w'.cell? ⟨q.b,8,none⟩ = some (.pointer (some ⟨q.h.g,0,none⟩))∧w'.cell? ⟨q.b,9,none⟩ = some (.pointer (some ⟨q.k.b,0,none⟩))):=by
 obtain ⟨ra,rn,rc,n,sa,sn,sc,c,zs,d',h',B',k',rfl,h0,h1,hn,hr,hz,hp,hS,hsz,hgd,hst,hgone⟩:=p
 obtain ⟨b1,b2,b3⟩:=a.step2 hp hS hsz (hgd a.good) hst (a.gone.step hst (fun y hy => hy.elim))
 refine ⟨ra,rn,rc,n,sa,sn,sc,c,zs,_,_,rfl,h0,h1,hn,hr,hz,b1,b2,b3,hgone,b1.c6,?_,?_⟩
 · have h8:=b1.c8
   rw [show ({ q with h:=h',k:=k' }:Qh).h.g = q.h.g from Gh.pg hS.g] at h8
   exact h8
 · have h9:=b1.c9
   rw [show ({ q with h:=h',k:=k' }:Qh).k.b = q.k.b from hS.b] at h9
   exact h9
def ClsR (w:World) (q:Qh) (s:Bnk) (cs:Array Value) (m:Int) (p cv:Value) (wx:World):Prop :=
 ∃ (Y:Nat) (ra:Option Addr) (rn rc:Nat) (n:Int) (sa:Option Addr) (sn sc:Nat) (c:Int) (zs:List Int) (q2:Qh) (s2:Bnk),p = .pointer (some ⟨Y,0,none⟩)∧cv = .int .i64 c∧(0≤c∧c≤12)∧(In64 n∧IdsOk zs)∧wx.ownsRow (w.heap.size + 2) 3 1 (.slice ra rn rc) zs.length (ints zs)∧Mid w q s wx q2 s2∧Blk wx Y 265 #[.slice ra rn rc,.int .i64 n,.slice sa sn sc]∧(w.heap.size + 1 < Y∧¬ q2.own s.d.L.n Y)∧Blk wx w.heap.size 54 cs∧(c = 0→∀ i,i < s2.B.n→((s2.B.e i).a = m∨(s2.B.e i).b = m)→3≤(s2.B.e i).st)
theorem ClsR.late {w:World} {q:Qh} {s:Bnk} (a:BkAt w q s) {k n1 n2 n3 n4 n5 n6 n7:Int} {W w8:World} (hb:Beg w q s k n1 n2 n3 n4 n5 n6 n7 W) {ra:Option Addr} {rn rc:Nat} {n:Int} {sa:Option Addr} {sn sc:Nat} {c:Int} {zs:List Int} {q2:Qh} {s2:Bnk} (h0:0≤c) (h1:c≤12) (hn:In64 n) (hr:w8.ownsRow W.heap.size 3 1 (.slice ra rn rc) zs.length (ints zs)) (hz:IdsOk zs) (ha:BkAt w8 q2 s2) (hs:BkSt W q w8 q2 s.d.L.n) (hn8:BnkSt s s2) (hg:c = 0→∀ i,i < s2.B.n→((s2.B.e i).a = n1∨(s2.B.e i).b = n1)→3≤(s2.B.e i).st) :
    ClsR w q s (cmdC k n1 n2 n3 n4 n5 n6 n7) n1 (.pointer (some ⟨w8.heap.size,0,none⟩)) (.int .i64 c) (w8.alloc (.cells #[.slice ra rn rc,.int .i64 n,.slice sa sn sc] 265)):=by
 have hA:=(Below.refl w8.heap.size w8).alloc (Nat.le_refl _) (.cells #[.slice ra rn rc,.int .i64 n,.slice sa sn sc] 265)
 have hm:=hb.mid a ha hs hn8
 exact ⟨w8.heap.size,ra,rn,rc,n,sa,sn,sc,c,zs,q2,s2,rfl,rfl,⟨h0,h1⟩,⟨hn,hz⟩,own_below (own_wk hr hb.sz) hA,hm.below hA,Blk.new _ _ _,⟨hm.sz,fun ho => by have:=ha.ownlt (by rw [hn8.L]; exact ho); omega⟩,(blk_bk hs hb.c (fun ho => by have:=a.ownlt ho; omega)).below hA,hg⟩
theorem ClsR.soon {w:World} {q:Qh} {s:Bnk} (a:BkAt w q s) {k n1 n2 n3 n4 n5 n6 n7:Int} {W w8:World} (hb:Beg w q s k n1 n2 n3 n4 n5 n6 n7 W) {Y:Nat} (hY:w.heap.size + 1 < Y) (hy:Blk W Y 265 zero3) {ra:Option Addr} {rn rc:Nat} {n:Int} {sa:Option Addr} {sn sc:Nat} {c:Int} {zs:List Int} {q2:Qh} {s2:Bnk} (h0:0≤c) (h1:c≤12) (hn:In64 n) (hr:w8.ownsRow W.heap.size 3 1 (.slice ra rn rc) zs.length (ints zs)) (hz:IdsOk zs) (ha:BkAt w8 q2 s2) (hs:BkSt W q w8 q2 s.d.L.n) (hn8:BnkSt s s2) (hg:c = 0→∀ i,i < s2.B.n→((s2.B.e i).a = n1∨(s2.B.e i).b = n1)→3≤(s2.B.e i).st) :
    ClsR w q s (cmdC k n1 n2 n3 n4 n5 n6 n7) n1 (.pointer (some ⟨Y,0,none⟩)) (.int .i64 c) (((w8.setCell ⟨Y,0,none⟩ (.slice ra rn rc)).setCell ⟨Y,1,none⟩ (.int .i64 n)).setCell ⟨Y,2,none⟩ (.slice sa sn sc)):=by
 have hyq:¬ q.own s.d.L.n Y:=fun ho => by have:=a.ownlt ho; omega
 have hyq2:¬ q2.own s.d.L.n Y:=fun ho => by
  rcases hs.own _ ho with h | h
  · exact hyq h
  · have:=hy.lt; omega
 have hm:=hb.mid a ha hs hn8
 have hc:=blk_bk hs hb.c (fun ho => by have:=a.ownlt ho; omega)
 have hrY:∀ x,Value.ownBlock (.slice ra rn rc) = some x→x ≠ Y:=fun x hx e => by have:=own_ge hr hx; have:=hy.lt; omega
 refine ⟨Y,ra,rn,rc,n,sa,sn,sc,c,zs,q2,s2,rfl,rfl,⟨h0,h1⟩,⟨hn,hz⟩,own_same (own_wk hr hb.sz) (fun x hx => heap_set3 w8 (hrY x hx) _ _ _),⟨ha.set3 (by rw [hn8.L]; exact hyq2) _ _ _,hm.b.set3 (by omega) _ _ _,hn8,by simpa [World.setCell] using hm.sz,hm.own,(heap_set3 w8 (by omega) _ _ _).trans hm.r⟩,blk_set3 (blk_bk hs hy hyq) _ _ _,⟨hY,hyq2⟩,(heap_set3 w8 (by omega) _ _ _).trans hc,hg⟩
def FailQ (m:Nat):Int→Int→List Int→Bnk→Prop:=fun E _ _ s' => E = 0→s'.fl m = true
set_option maxRecDepth 100000 in
set_option maxHeartbeats 8000000 in
theorem Bk.bfail {w:World} {q:Qh} {s:Bnk} (a:BkAt w q s) (k:Int) (m:Nat) (hm:m < s.N) (n2 n3 n4 n5 n6 n7:Int) :
    Calls Tryz.prog 107 #[.pointer (some ⟨q.b,0,none⟩),.agg (cmdC k m n2 n3 n4 n5 n6 n7)] w (DoPost q s (FailQ m) w):=by
 obtain ⟨i0,hi,hz0,hz1,hz2⟩:=info_parts Bk.infoInt
 have HIS:=Lib.hid (And.intro hi (And.intro hz0 (And.intro hz1 hz2)))
 clear hi hz0 hz1 hz2
 have HA:=Lib.hid a
 have HB:=Lib.hid (Beg.new a k m n2 n3 n4 n5 n6 n7)
 have hN15:=a.n15
 clear a
 go_enter Tryz.func107,Tryz.ntmps107
 go_upto_region 1 with (fail)
 generalize ((w.alloc (.cells #[.int .i64 k,.int .i64 m,.int .i64 n2,.int .i64 n3,.int .i64 n4,.int .i64 n5,.int .i64 n6,.int .i64 n7] 54)).alloc (.cells #[.int .i64 0,.int .i64 0,.slice none 0 0] 49)) = w1 at *
 have c12:=HB.out.a.c12
 have HSZ1:=Lib.hid HB.out.sz
 have HR1:=Lib.hid (Below.refl w1.heap.size w1)
 go_wp2
 go_loopw [5,6,7,15] (fun sv _ _ i wr => ∃ (j:Nat) (zs:List Int),j≤s.N∧i = .int .i64 j∧wr.ownsRow w1.heap.size 3 1 sv zs.length (ints zs)∧zs.length≤j∧Hid (Below w1.heap.size w1 wr)) (fun _ _ _ i _ => s.N - (intOf i).toNat)
 case atStart => exact ⟨0,[],by omega,rfl,World.ownsRow_nil _ _ _ _,by simp,HR1⟩
 case round =>
  clear HR1 c12
  obtain ⟨j,zs,hj,rfl,hown,hzl,HBW⟩:=hrel
  have HB2:=Lib.hid (HB.out.below HBW.out)
  by_cases hlt:j < s.N
  · have p1:(j:Int) < (s.N:Int):=by omega
    have cf:=HB2.out.a.flc (i:=j) hlt
    have y1:wr.cell? ⟨w.heap.size,1,none⟩ = some (.int .i64 m):=(HB2.out.c.cell 1).trans rfl
    by_cases hjm:j = m
    · have d1:decide ((j:Int) = (m:Int)) = true:=decide_eq_true (by omega)
      have d2:((j:Int) != (m:Int)) = false:=by simp; omega
      have HO:=Lib.hid hown
      clear hown hjm
      go_wp2
      go_roundw
      case rel => exact ⟨j + 1,zs,by omega,by go_num,HO.out,by omega,HBW⟩
      case measure => simp [intOf]; omega
    · have d1:decide ((j:Int) = (m:Int)) = false:=decide_eq_false (by omega)
      have d2:((j:Int) != (m:Int)) = true:=by simp; omega
      have HJM:=Lib.hid hjm
      clear hjm
      cases hfl:s.fl j with
      | true =>
       rw [hfl] at cf
       have HO:=Lib.hid hown
       clear hown hfl
       go_wp2
       go_roundw
       case rel => exact ⟨j + 1,zs,by omega,by go_num,HO.out,by omega,HBW⟩
       case measure => simp [intOf]; omega
      | false =>
       rw [hfl] at cf
       have hown2:=hown
       clear hown hfl
       have hszw:=HBW.out.size
       go_wp2_with (at_builtin; with_reducible refine wpList_append_own _ rfl (.tmp 28) (.tmp 30) 25 rfl w1.heap.size 3 i0 (.int .i64 0) 1 8 Tryz.underlying25 HIS.out.1 HIS.out.2.1 HIS.out.2.2.1 HIS.out.2.2.2 rfl (by decide) _ _ _ rfl (hown2.alloc _) ⟨wr.heap.size,0,none⟩ 1 1 [.int .i64 j] rfl rfl ?c1 ?c2 ?c3 ?c4 ?c5 ?_)
       case c1 => exact cell_one_new _ _ _
       case c2 => intro u hu; simp at hu; subst hu; rfl
       case c3 => unfold maxLen; omega
       case c4 => omega
       case c5 => simp; omega
       intro v' w2 hown' hgrow _
       have hb3:=(HBW.out.alloc (by omega) (.cells #[.int .i64 j] 3)).grown hgrow (by simp; omega) (fun x hx => own_ge hown2 hx)
       have hrow:w2.ownsRow w1.heap.size 3 1 v' (zs ++ [(j:Int)]).length (ints (zs ++ [(j:Int)])):=by simpa [ints] using hown'
       have HR:=Lib.hid hrow
       have HB3:=Lib.hid hb3
       clear hgrow hown' hown2 hb3 hrow
       go_wp2
       go_roundw
       case rel => exact ⟨j + 1,zs ++ [(j:Int)],by omega,by go_num,HR.out,by simp; omega,HB3⟩
       case measure => simp [intOf]; omega
  · have HO:=Lib.hid (own_below hown (Below.refl wr.heap.size wr).drew)
    clear hown
    go_upto_region 8 with (fail)
    go_cut [8,9] from 33 to 51 (fun p c wx => Hid (ClsR w q s (cmdC k m n2 n3 n4 n5 n6 n7) m p c wx))
    case first =>
     have c6:=HB2.out.a.c6
     have c8:=HB2.out.a.c8
     have c9:=HB2.out.a.c9
     have y1:wr.cell? ⟨w.heap.size,1,none⟩ = some (.int .i64 m):=(HB2.out.c.cell 1).trans rfl
     have S0:wr.drew.cell? ⟨q.b,6,none⟩ = some (.int .i64 s.N)∧wr.drew.cell? ⟨q.b,8,none⟩ = some (.pointer (some ⟨q.h.g,0,none⟩))∧wr.drew.cell? ⟨q.b,9,none⟩ = some (.pointer (some ⟨q.k.b,0,none⟩))∧wr.drew.cell? ⟨w.heap.size,1,none⟩ = some (.int .i64 m):=⟨c6,c8,c9,y1⟩
     have hbW:Below wr.heap.size wr (wr.alloc (.cells zero3 265)).drew:=((Below.refl wr.heap.size wr).alloc (Nat.le_refl _) (.cells zero3 265)).drew
     have S5:(wr.alloc (.cells #[.slice none 0 0,.int .i64 0,.slice none 0 0] 265)).drew.cell? ⟨q.b,6,none⟩ = some (.int .i64 s.N)∧(wr.alloc (.cells #[.slice none 0 0,.int .i64 0,.slice none 0 0] 265)).drew.cell? ⟨q.b,8,none⟩ = some (.pointer (some ⟨q.h.g,0,none⟩))∧(wr.alloc (.cells #[.slice none 0 0,.int .i64 0,.slice none 0 0] 265)).drew.cell? ⟨q.b,9,none⟩ = some (.pointer (some ⟨q.k.b,0,none⟩))∧(wr.alloc (.cells #[.slice none 0 0,.int .i64 0,.slice none 0 0] 265)).drew.cell? ⟨w.heap.size,1,none⟩ = some (.int .i64 m):=⟨Bk.kept hbW c6,Bk.kept hbW c8,Bk.kept hbW c9,Bk.kept hbW y1⟩
     have HB3:=Lib.hid (HB2.out.below (Below.refl wr.heap.size wr).drew)
     have HB4:=Lib.hid (HB2.out.below hbW)
     have HO4:=Lib.hid (own_below HO.out (show Below wr.drew.heap.size wr.drew (wr.alloc (.cells zero3 265)).drew from ⟨rfl,rfl,rfl,by show wr.heap.size≤(wr.alloc (.cells zero3 265)).heap.size; simp,fun x hx => by
      have hx2:x < wr.heap.size:=hx
      exact ((Below.refl wr.heap.size wr).alloc (Nat.le_refl _) (.cells zero3 265)).block x hx2⟩))
     have HY4:=Lib.hid (show Blk (wr.alloc (.cells zero3 265)).drew wr.heap.size 265 zero3 from Blk.new wr 265 zero3)
     have HYl:=Lib.hid HB2.out.sz
     have HYq:=Lib.hid (show ¬ q.own s.d.L.n wr.heap.size from fun ho => by have:=HA.out.ownlt ho; have:=HYl.out; omega)
     have HCL:=Lib.hid (Bk.close HB3.out.a.ps s.N m HO.out (by omega))
     have HCK:=Lib.hid (fun (e:Ending) (w':World) p => HB3.out.a.close (m:=m) (e:=e) (w':=w') p)
     have HCL4:=Lib.hid (Bk.close HB4.out.a.ps s.N m HO4.out (by omega))
     have HCK4:=Lib.hid (fun (e:Ending) (w':World) p => HB4.out.a.close (m:=m) (e:=e) (w':=w') p)
     clear hbW
     have hYb:q.b ≠ wr.heap.size:=fun e => HYq.out (e ▸ .inl rfl)
     have hYw:w.heap.size ≠ wr.heap.size:=by have:=HYl.out; omega
     go_region_held3 (fun wx => wx.cell? ⟨q.b,6,none⟩ = some (.int .i64 s.N)∧wx.cell? ⟨q.b,8,none⟩ = some (.pointer (some ⟨q.h.g,0,none⟩))∧wx.cell? ⟨q.b,9,none⟩ = some (.pointer (some ⟨q.k.b,0,none⟩))∧wx.cell? ⟨w.heap.size,1,none⟩ = some (.int .i64 m))
       (first | with_reducible exact S1 | with_reducible exact S2 | with_reducible exact S3 | with_reducible exact S0 | with_reducible exact S5 | exact S0 | exact ⟨c6,c8,c9,y1⟩)
       (first
         | (go_at_call 149; refine HCL.out.mono ?_; intro e w8 hpost; obtain ⟨ra,rn,rc,n,sa,sn,sc,c,zs,q2,s2,rfl,h0,h1,hn,hr,hz,ha8,hb8,hn8,hgone,k6,k8,k9⟩:=HCK.out e w8 hpost; clear hpost; have hbA0:=(Below.refl w8.heap.size w8).alloc (Nat.le_refl _) (.cells #[.slice none 0 0,.int .i64 0,.slice none 0 0] 265); have hbA1:=(Below.refl w8.heap.size w8).alloc (Nat.le_refl _) (.cells #[.slice ra rn rc,.int .i64 n,.slice sa sn sc] 265); have z1:=((blk_bk hb8 HB3.out.c (fun ho => by have:=HA.out.ownlt ho; omega)).cell 1).trans (show _ = some (.int .i64 m) from rfl); have S1:=And.intro k6 (And.intro k8 (And.intro k9 z1)); have S2:=And.intro (Bk.kept hbA0 k6) (And.intro (Bk.kept hbA0 k8) (And.intro (Bk.kept hbA0 k9) (Bk.kept hbA0 z1))); have S3:=And.intro (Bk.kept hbA1 k6) (And.intro (Bk.kept hbA1 k8) (And.intro (Bk.kept hbA1 k9) (Bk.kept hbA1 z1))); have HF:=Lib.hid (ClsR.late HA.out HB3.out (sa:=sa) (sn:=sn) (sc:=sc) h0 h1 hn hr hz ha8 hb8 hn8 hgone); clear h0 h1 hn hr hz ha8 hb8 hn8 hgone)
         | (go_at_call 149; refine HCL4.out.mono ?_; intro e w8 hpost; obtain ⟨ra,rn,rc,n,sa,sn,sc,c,zs,q2,s2,rfl,h0,h1,hn,hr,hz,ha8,hb8,hn8,hgone,k6,k8,k9⟩:=HCK4.out e w8 hpost; clear hpost; have z1:=((blk_bk hb8 HB4.out.c (fun ho => by have:=HA.out.ownlt ho; omega)).cell 1).trans (show _ = some (.int .i64 m) from rfl); have S1:=And.intro k6 (And.intro k8 (And.intro k9 z1)); have S3:=And.intro (cell_set3 k6 hYb (.slice ra rn rc) (.int .i64 n) (.slice sa sn sc)) (And.intro (cell_set3 k8 hYb (.slice ra rn rc) (.int .i64 n) (.slice sa sn sc)) (And.intro (cell_set3 k9 hYb (.slice ra rn rc) (.int .i64 n) (.slice sa sn sc)) (cell_set3 z1 hYw (.slice ra rn rc) (.int .i64 n) (.slice sa sn sc)))); have HZ8:=blk_bk hb8 HY4.out HYq.out; have z0:=(HZ8.cell 0).trans (show _ = some (.slice none 0 0) from rfl); have f0:=HZ8.frozen 0; have z2:=(HZ8.cell 1).trans (show _ = some (.int .i64 0) from rfl); have f1:=HZ8.frozen 1; have z3:=(HZ8.cell 2).trans (show _ = some (.slice none 0 0) from rfl); have f2:=HZ8.frozen 2; have HF:=Lib.hid (ClsR.soon HA.out HB4.out HYl.out HY4.out (sa:=sa) (sn:=sn) (sc:=sc) h0 h1 hn hr hz ha8 hb8 hn8 hgone); clear h0 h1 hn hr hz ha8 hb8 hn8 hgone HZ8))
     all_goals (go_wp2_with fail; go_meet)
     all_goals exact HF
    case rest =>
     clear HO HB2 HBW
     obtain ⟨Y,ra,rn,rc,n,sa,sn,sc,c,zs,q2,s2,rfl,rfl,hc,hnz,hr,hm2,hy,hY,hcc,hg⟩:=hcut.out
     have HC:=Lib.hid hc
     have HNZ:=Lib.hid hnz
     have HRW:=Lib.hid hr
     have HM:=Lib.hid hm2
     have HY:=Lib.hid (And.intro hy hY)
     have HCC:=Lib.hid hcc
     have HG:=Lib.hid hg
     clear hcut hc hnz hr hm2 hy hY hcc hg
     rcases eqs c 0 with ⟨a1,a2,a3⟩ | ⟨a1,a2,a3⟩
     · subst a1
       clear a2 a3
       have c12:=HM.out.a.c12
       rw [HM.out.b.b,HM.out.n.N] at c12
       have z1:wc.cell? ⟨w.heap.size,1,none⟩ = some (.int .i64 m):=(HCC.out.cell 1).trans rfl
       have cf:=HM.out.a.flc (i:=m) (by rw [HM.out.n.N]; exact hm)
       have ff:=HM.out.a.flr.frozen m
       have hmi:(m:Int) < (s.N:Int):=by omega
       obtain ⟨t1,t2,t3⟩:=HM.out.a.mark (m:=m) (by rw [HM.out.n.N]; exact hm) (HG.out rfl) (fun i hi => by have h:=HM.out.a.ps.bo.ok.ent i hi; exact ⟨h.a0.1,h.b0.1⟩)
       have HM2:=Lib.hid (HM.out.step t1 t2 t3)
       have hYf:Y ≠ q2.fb:=fun e => HY.out.2.2 (e ▸ .inr (.inl rfl))
       have HY2:=Lib.hid ((heap_setCell_other wc _ _ (.bool true) hYf).trans HY.out.1:Blk (wc.setCell ⟨q2.fb,m,none⟩ (.bool true)) Y 265 #[.slice ra rn rc,.int .i64 n,.slice sa sn sc])
       have HRW2:=Lib.hid (own_same (w':=wc.setCell ⟨q2.fb,m,none⟩ (.bool true)) HRW.out (fun x hx => heap_setCell_other _ _ _ _ (fun e => Ty.ne (own_ty HRW.out hx) HM.out.a.fty (by decide) e)))
       have hXY:Y ≠ w.heap.size + 1:=by have:=HY.out.2.1; omega
       clear t1 t2 t3 hYf
       go_upto_region 11 with (fail)
       go_region
       have HM3:=Lib.hid (HM2.out.below (Below.refl _ _).drew)
       have HRW3:=Lib.hid (own_below HRW2.out (Below.refl _ _).drew)
       have HY3:=Lib.hid (show Blk (wc.setCell ⟨q2.fb,m,none⟩ (.bool true)).drew Y 265 #[.slice ra rn rc,.int .i64 n,.slice sa sn sc] from HY2.out)
       clear c12 z1 cf ff HM2 HRW2 HY2
       generalize (wc.setCell ⟨q2.fb,m,none⟩ (.bool true)).drew = w9 at *
       have x0:=(HM3.out.r.cell 0).trans (show _ = some (.int .i64 0) from rfl)
       have f0:=HM3.out.r.frozen 0
       have x1:=(HM3.out.r.cell 1).trans (show _ = some (.int .i64 0) from rfl)
       have f1:=HM3.out.r.frozen 1
       have x2:=(HM3.out.r.cell 2).trans (show _ = some (.slice none 0 0) from rfl)
       have f2:=HM3.out.r.frozen 2
       have y0:=(HY3.out.cell 0).trans (show _ = some (.slice ra rn rc) from rfl)
       have y1:=(HY3.out.cell 1).trans (show _ = some (.int .i64 n) from rfl)
       go_wp2
       exact bodyPost_ret (results_row1 rfl _ _ _ (w.heap.size + 1) _ _ rfl (blk_set3 HM3.out.r (.int .i64 0) (.int .i64 n) (.slice ra rn rc)).range Tryz.underlying49 rfl (by kernel_rfl)) rfl (HM3.out.done (by omega) (by omega) HNZ.out.1 HRW3.out HNZ.out.2 (fun _ => by show (if m = m then true else _) = true; simp) _ _ _)
     · have HNE:=Lib.hid a1
       have a4:(c != 0) = true:=by simpa using a1
       clear a1 a3
       have x0:=(HM.out.r.cell 0).trans (show _ = some (.int .i64 0) from rfl)
       have f0:=HM.out.r.frozen 0
       have x1:=(HM.out.r.cell 1).trans (show _ = some (.int .i64 0) from rfl)
       have f1:=HM.out.r.frozen 1
       have x2:=(HM.out.r.cell 2).trans (show _ = some (.slice none 0 0) from rfl)
       have f2:=HM.out.r.frozen 2
       go_wp2
       exact bodyPost_ret (results_row1 rfl _ _ _ (w.heap.size + 1) _ _ rfl (blk_set3 HM.out.r (.int .i64 c) (.int .i64 0) (.slice none 0 0)).range Tryz.underlying49 rfl (by kernel_rfl)) rfl (HM.out.done HC.out.1 HC.out.2 in0 Mid.row ids_ok0 (fun h => absurd h HNE.out) _ _ _)
end Go.Proofs.YtgcnnbjbdfgglaaGreat
