/- LAW TopBoth: of every configuration of a bank and every list of byte strings the given function TopBoth returns true and leaves its arguments as they were; no condition. A part of what it needs. -/
import Derived.Test.YtgcnnbjbdfgglaaGreatZap
import Derived.BigRegion
import Derived.Deep.LoopGhost
import Derived.Deep.CutRange
import Derived.Shelf.SlSortCmp.Xorshift
namespace Go.Proofs.YtgcnnbjbdfgglaaGreat
open Go.RowKit Go.Sort
structure SQ (g n b o:Nat) (f:Nat→Int) (w0 W:World):Prop where
  ty:Ty W g 3
  row:∀ i,i < n→∃ x:Nat,x < n∧W.cell? ⟨g,i,none⟩ = some (.int .i64 x)
  left:∀ i,i < n→W.cell? ⟨b,o + i,none⟩ = some (.int .i64 (f i))
  ne:b ≠ g
  kept:Kept (fun k => k = g) w0 W
theorem grow_below (W:World) (q:Nat) (os:Array Obj):Below W.heap.size W (grow (W.drewN q) os):=by
 refine ⟨rfl,rfl,rfl,by simp [grow,World.drewN],fun k hk => ?_⟩
 show ((W.drewN q).heap ++ os)[k]? = _
 exact Array.getElem?_append_left hk
section
variable {g n b o:Nat} {f:Nat→Int} {w0 W W':World}
theorem SQ.below (h:SQ g n b o f w0 W) (hb:Below W.heap.size W W'):SQ g n b o f w0 W' :=
 ⟨h.ty.below hb,fun i hi => by obtain ⟨x,hx,hc⟩:=h.row i hi; exact ⟨x,hx,Bk.kept hb hc⟩,fun i hi => Bk.kept hb (h.left i hi),h.ne,h.kept.trans (Kept.of_below hb)⟩
theorem SQ.grown (h:SQ g n b o f w0 W) (q:Nat) (os:Array Obj):SQ g n b o f w0 (grow (W.drewN q) os):=h.below (grow_below W q os)
theorem SQ.at (h:SQ g n b o f w0 W) (i:Nat) (hi:i < n):∃ x:Nat,x < n∧W.cell? ⟨g,i,none⟩ = some (.int .i64 x)∧∀ q os,(grow (W.drewN q) os).cell? ⟨g,i,none⟩ = some (.int .i64 x):=by
 obtain ⟨x,hx,hc⟩:=h.row i hi
 exact ⟨x,hx,hc,fun q os => Bk.kept (grow_below W q os) hc⟩
theorem SQ.frozen (h:SQ g n b o f w0 W) (i:Nat):W.frozen? ⟨g,i,none⟩ = false:=by
 obtain ⟨cs,hc⟩:=h.ty
 exact frozen_of_row _ _ _ _ _ hc
theorem SQ.set (h:SQ g n b o f w0 W) (i x:Nat) (hx:x < n):SQ g n b o f w0 (W.setCell ⟨g,i,none⟩ (.int .i64 x)):=by
 refine ⟨h.ty.set _ _ _,fun k hk => ?_,fun k hk => ?_,h.ne,h.kept.setCell (Or.inl rfl) _ _⟩
 · obtain ⟨y,hy,hc⟩:=h.row k hk
   by_cases e:k = i
   · subst e; exact ⟨x,hx,World.cell?_setCell_same _ _ _ hc⟩
   · exact ⟨y,hy,(World.cell?_setCell_other _ _ _ _ (by intro e'; simp only [Addr.mk.injEq] at e'; omega)).trans hc⟩
 · exact (World.cell?_setCell_other _ _ _ _ (by intro e'; simp only [Addr.mk.injEq] at e'; exact h.ne e'.1.symm)).trans (h.left k hk)
theorem SQ.drew (h:SQ g n b o f w0 W):SQ g n b o f w0 W.drew:=⟨h.ty,h.row,h.left,h.ne,h.kept.drew⟩
theorem SQ.c2 (h:SQ g n b o f w0 W) (i j x:Nat) (hx:x < n) (hj:j < n):∃ u,(W.setCell ⟨g,i,none⟩ (.int .i64 x)).cell? ⟨g,j,none⟩ = some u:=by
 obtain ⟨y,_,hc⟩:=(h.set i x hx).row j hj
 exact ⟨_,hc⟩
theorem SQ.swap (h:SQ g n b o f w0 W) (i j x y:Nat) (hx:x < n) (hy:y < n):SQ g n b o f w0 ((W.setCell ⟨g,i,none⟩ (.int .i64 y)).setCell ⟨g,j,none⟩ (.int .i64 x)).drew:=((h.set i y hy).set j x hx).drew
theorem SQ.cmp (h:SQ g n b o f w0 W) (c x y:Nat) (hx:x < n) (hy:y < n) (q:Nat) (os:Array Obj):Calls Tryz.prog 254 #[.agg #[.slice (some ⟨b,o,none⟩) n c],.int .i64 x,.int .i64 y] (grow (W.drewN q) os) fun e w' => e = .returned (.int .i64 (ordF f x y))∧∃ q' os',w' = grow ((grow (W.drewN q) os).drewN q') os' :=
 Bk.order (h.grown q os).left x y hx hy
theorem SQ.lt (h:SQ g n b o f w0 W):g < W.heap.size:=h.ty.lt
end
abbrev ordV (b o n c:Nat):Value:=.func (.func 254) #[.agg #[.slice (some ⟨b,o,none⟩) n c]] #[]
set_option maxRecDepth 1000000 in
set_option maxHeartbeats 8000000 in
theorem Bk.insertion {g n b o c cap:Nat} {f:Nat→Int} {w0 w:World} (S:SQ g n b o f w0 w) (lo hi:Nat) (hlo:lo≤hi) (hhi:hi≤n) (hn:(n:Int)≤64):Calls Tryz.prog 272 #[.slice (some ⟨g,0,none⟩) n cap,.int .i64 lo,.int .i64 hi,ordV b o n c] w fun e w' => e = .returned (.tuple #[])∧SQ g n b o f w0 w':=by
 have mixed:Tryz.prog.follows .mixedOrders = true:=by kernel_rfl
 have eg:=enters_of Tryz.func254 (by kernel_rfl) rfl
 have S0:=Lib.hid S
 clear S
 unfold ordV
 go_enter Tryz.func272,Tryz.ntmps272
 go_wp2
 go_loopg [8] (hi - lo) (fun g1 vi wr => ∃ i:Nat,vi = .int .i64 i∧lo < i∧i≤hi + 1∧hi + 1 - i≤g1 + 1∧Hid (SQ g n b o f w0 wr))
 case atStart => exact ⟨lo + 1,by go_num,by omega,by omega,by omega,S0⟩
 case round =>
  clear S0
  obtain ⟨i,rfl,hai,hib,hg1,S1⟩:=hrel
  by_cases hlt:i < hi
  · have hltz:(i:Int) < (hi:Int):=by omega
    go_wp2
    go_loopg [9] i (fun g2 vj wr2 => ∃ j:Nat,vj = .int .i64 j∧lo≤j∧j≤i∧j≤g2∧Hid (SQ g n b o f w0 wr2))
    case atStart => exact ⟨i,rfl,by omega,Nat.le_refl _,Nat.le_refl _,S1⟩
    case round =>
     clear S1
     obtain ⟨j,rfl,haj,hji,hg2,SJ⟩:=hrel
     by_cases hja:lo < j
     · obtain ⟨jp,hjp⟩:∃ q,q + 1 = j:=⟨j - 1,by omega⟩
       have hjaz:(lo:Int) < (j:Int):=by omega
       have zjp:(j:Int) = (jp:Int) + 1:=by omega
       subst hjp
       have hjaz':(lo:Int) < (jp:Int) + 1:=by omega
       have hjad:decide ((jp:Int) + 1 > (lo:Int)) = true:=decide_eq_true (by omega)
       obtain ⟨x,hx,cx,lx⟩:=SJ.out.at (jp + 1) (by omega)
       obtain ⟨y,hy,cy,ly⟩:=SJ.out.at (jp) (by omega)
       have hc:=SJ.out.cmp c x y hx hy
       generalize ordF f x y = r at hc
       obtain ⟨rb,hrb⟩:∃ t,decide (r < 0) = t:=⟨_,rfl⟩
       clear hx hy cx cy
       have q1:(jp:Int) + 1 < (n:Int):=by omega
       have q2:(jp:Int) < (n:Int):=by omega
       have q3:IntKind.i64.wrap ((jp:Int) + 1) = (jp:Int) + 1:=by rw [IntKind.wrap_i64]; omega
       have q4:IntKind.i64.wrap ((jp:Int)) = (jp:Int):=by rw [IntKind.wrap_i64]; omega
       have q5:((jp:Int) + 1).toNat = jp + 1:=by omega
       have q6:(0:Int)≤(jp:Int) + 1:=by omega
       have q7:((jp:Int) + 1 - 1) = (jp:Int):=by omega
       go_wp2_with fail
       go_quiet_grown (first | (go_at_call 254; refine Calls.grown_of (hc _ _)))
       have S2:=Lib.hid (SJ.out.grown nq osq)
       clear lx ly hc SJ
       generalize grow (World.drewN wr nq) osq = w2 at S2 ⊢
       clear nq osq hrb
       cases rb with
       | true =>
        go_wp2_with fail
        obtain ⟨x,hx,cx,_⟩:=S2.out.at (jp + 1) (by omega)
        obtain ⟨y,hy,cy,_⟩:=S2.out.at (jp) (by omega)
        have fx:=S2.out.frozen (jp + 1)
        have fy:=S2.out.frozen (jp)
        obtain ⟨u,cu⟩:=S2.out.c2 (jp + 1) (jp) y hy (by omega)
        have S3:=Lib.hid (S2.out.swap (jp + 1) (jp) x y hx hy)
        clear S2 hx hy
        go_wp2_with fail
        go_big_region
        clear cx cy cu fx fy
        generalize ((World.setCell w2 ⟨g,jp + 1,none⟩ (.int .i64 y)).setCell ⟨g,jp,none⟩ (.int .i64 x)).drew = w3 at S3 ⊢
        clear q1 q2 q3 q4 q5 q6 q7
        go_wp2
        go_roundg jp
        case measure => omega
        case rel => exact ⟨jp,by first | rfl | go_num,by omega,by omega,Nat.le_refl _,S3⟩
       | false =>
        clear q1 q2 q3 q4 q5 q6 q7
        go_wp2
        go_roundg (hi - (i + 1))
        case measure => omega
        case rel => exact ⟨i + 1,by go_num,by omega,by omega,by omega,S2⟩
     · have hjad:decide ((j:Int) > (lo:Int)) = false:=decide_eq_false (by omega)
       have hjaz:¬ (lo:Int) < (j:Int):=by omega
       go_wp2_with fail
       go_big_region
       have S2:=Lib.hid SJ.out.drew
       clear SJ
       generalize wr.drew = w2 at S2 ⊢
       go_wp2
       go_roundg (hi - (i + 1))
       case measure => omega
       case rel => exact ⟨i + 1,by go_num,by omega,by omega,by omega,S2⟩
  · go_wp2
    go_end0
    exact ⟨rfl,S1.out⟩
end Go.Proofs.YtgcnnbjbdfgglaaGreat
namespace Go.Proofs.YtgcnnbjbdfgglaaGreat
open Go.RowKit Go.Sort
set_option maxRecDepth 1000000 in
set_option maxHeartbeats 8000000 in
theorem Bk.reverse {g n b o c cap:Nat} {f:Nat→Int} {w0 w:World} (S:SQ g n b o f w0 w) (lo hi:Nat) (hlo:lo < hi) (hhi:hi≤n) (hn:(n:Int)≤64):Calls Tryz.prog 276 #[.slice (some ⟨g,0,none⟩) n cap,.int .i64 lo,.int .i64 hi,ordV b o n c] w fun e w' => e = .returned (.tuple #[])∧SQ g n b o f w0 w':=by
 have mixed:Tryz.prog.follows .mixedOrders = true:=by kernel_rfl
 have eg:=enters_of Tryz.func254 (by kernel_rfl) rfl
 have S0:=Lib.hid S
 clear S
 unfold ordV
 go_enter Tryz.func276,Tryz.ntmps276
 go_wp2
 go_loopg [8,9] (hi - lo) (fun g1 vi vj wr => ∃ i j:Nat,vi = .int .i64 i∧vj = .int .i64 j∧j < hi∧j - i≤g1∧Hid (SQ g n b o f w0 wr))
 case atStart => exact ⟨lo,hi - 1,rfl,by go_num,by omega,by omega,S0⟩
 case round =>
  clear S0
  obtain ⟨i,j,rfl,rfl,hj,hg1,S1⟩:=hrel
  by_cases hlt:i < j
  · have hltz:(i:Int) < (j:Int):=by omega
    obtain ⟨x,hx,cx,_⟩:=S1.out.at (i) (by omega)
    obtain ⟨y,hy,cy,_⟩:=S1.out.at (j) (by omega)
    have fx:=S1.out.frozen (i)
    have fy:=S1.out.frozen (j)
    obtain ⟨u,cu⟩:=S1.out.c2 (i) (j) y hy (by omega)
    have S2:=Lib.hid (S1.out.swap (i) (j) x y hx hy)
    clear S1 hx hy
    have q1:(i:Int) < (n:Int):=by omega
    have q2:(j:Int) < (n:Int):=by omega
    go_wp2_with fail
    go_big_region
    clear cx cy cu fx fy
    generalize ((World.setCell wr ⟨g,i,none⟩ (.int .i64 y)).setCell ⟨g,j,none⟩ (.int .i64 x)).drew = w2 at S2 ⊢
    clear q1 q2
    go_wp2
    go_roundg (j - 1 - (i + 1))
    case measure => omega
    case rel => exact ⟨i + 1,j - 1,by go_num,by go_num,by omega,Nat.le_refl _,S2⟩
  · have hltz:¬ (i:Int) < (j:Int):=by omega
    go_wp2
    go_end0
    exact ⟨rfl,S1.out⟩
set_option maxRecDepth 1000000 in
set_option maxHeartbeats 8000000 in
theorem Bk.partition {g n b o c cap:Nat} {f:Nat→Int} {w0 w:World} (S:SQ g n b o f w0 w) (lo hi pv:Nat) (hlo:lo≤pv) (hpv:pv < hi) (hhi:hi≤n) (hn:(n:Int)≤64):Calls Tryz.prog 279 #[.slice (some ⟨g,0,none⟩) n cap,.int .i64 lo,.int .i64 hi,.int .i64 pv,ordV b o n c] w fun e w' => ∃ (mid:Nat) (t:Bool),e = .returned (.tuple #[.int .i64 mid,.bool t])∧lo≤mid∧mid < hi∧SQ g n b o f w0 w':=by
 have mixed:Tryz.prog.follows .mixedOrders = true:=by kernel_rfl
 have eg:=enters_of Tryz.func254 (by kernel_rfl) rfl
 have S0:=Lib.hid S
 clear S
 unfold ordV
 go_enter Tryz.func279,Tryz.ntmps279
 obtain ⟨x,hx,cx,_⟩:=S0.out.at (lo) (by omega)
 obtain ⟨y,hy,cy,_⟩:=S0.out.at (pv) (by omega)
 have fx:=S0.out.frozen (lo)
 have fy:=S0.out.frozen (pv)
 obtain ⟨u,cu⟩:=S0.out.c2 (lo) (pv) y hy (by omega)
 have S1:=Lib.hid (S0.out.swap (lo) (pv) x y hx hy)
 clear S0 hx hy
 have q1:(lo:Int) < (n:Int):=by omega
 have q2:(pv:Int) < (n:Int):=by omega
 go_wp2_with fail
 go_big_region
 clear cx cy cu fx fy
 generalize ((World.setCell w ⟨g,lo,none⟩ (.int .i64 y)).setCell ⟨g,pv,none⟩ (.int .i64 x)).drew = w1 at S1 ⊢
 clear q1 q2
 obtain ⟨j1,hj⟩:∃ j:Nat,hi - 1 = j:=⟨_,rfl⟩
 have ezj:((hi:Int) - 1) = (j1:Int):=by omega
 iterate 26 go_step
 go_cut [12] from 32 (fun s wc => ∃ p:Nat,s = .int .i64 p∧(lo + 1≤p∧p≤hi)∧Hid (SQ g n b o f w0 wc))
 case first =>
  go_wp2
  go_loopg [12] n (fun g1 v wr => ∃ p:Nat,v = .int .i64 p∧(lo + 1≤p∧p≤hi)∧j1 + 1 - p≤g1∧Hid (SQ g n b o f w0 wr))
  case atStart => exact ⟨lo + 1,by first | rfl | go_num,by omega,by omega,S1⟩
  case round =>
   clear S1
   obtain ⟨p,rfl,hp,hg1,SP⟩:=hrel
   by_cases hle:p≤j1
   · have hgu:decide ((p:Int)≤(j1:Int)) = true:=decide_eq_true (by omega)
     have hgz:(p:Int)≤(j1:Int):=by omega
     obtain ⟨x,hx,cx,lx⟩:=SP.out.at (p) (by omega)
     obtain ⟨y,hy,cy,ly⟩:=SP.out.at (lo) (by omega)
     have hc:=SP.out.cmp c x y hx hy
     generalize ordF f x y = r at hc
     obtain ⟨rb,hrb⟩:∃ t,decide (r < 0) = t:=⟨_,rfl⟩
     clear hx hy cx cy
     have q1:(p:Int) < (n:Int):=by omega
     have q2:(lo:Int) < (n:Int):=by omega
     go_wp2_with fail
     go_quiet_grown (first | (go_at_call 254; refine Calls.grown_of (hc _ _)))
     have SR:=Lib.hid (SP.out.grown nq osq)
     clear lx ly hc SP
     generalize grow (World.drewN wr nq) osq = w2 at SR ⊢
     clear nq osq hrb
     clear q1 q2
     cases rb with
     | true =>
      go_wp2
      go_roundg (j1 + 1 - (p + 1))
      case measure => omega
      case rel => exact ⟨p + 1,by go_num,by omega,Nat.le_refl _,SR⟩
     | false =>
      go_wp2
      go_meet
      case rel => exact ⟨p,rfl,hp,SR⟩
   · have hgu:decide ((p:Int)≤(j1:Int)) = false:=decide_eq_false (by omega)
     have hgz:¬ (p:Int)≤(j1:Int):=by omega
     go_wp2_with fail
     go_big_region
     have SR:=Lib.hid SP.out.drew
     clear SP
     generalize wr.drew = w2 at SR ⊢
     go_wp2
     go_meet
     case rel => exact ⟨p,rfl,hp,SR⟩
 case rest =>
  obtain ⟨i1,rfl,hi1,SC⟩:=hcut
  iterate 2 go_step
  go_cut [13] from 50 (fun s wc => ∃ p:Nat,s = .int .i64 p∧(lo≤p∧p < hi)∧Hid (SQ g n b o f w0 wc))
  case first =>
   go_wp2
   go_loopg [13] n (fun g1 v wr => ∃ p:Nat,v = .int .i64 p∧(lo≤p∧p < hi)∧p + 1 - i1≤g1∧Hid (SQ g n b o f w0 wr))
   case atStart => exact ⟨j1,by first | rfl | go_num,by omega,by omega,SC⟩
   case round =>
    clear SC
    obtain ⟨p,rfl,hp,hg1,SP⟩:=hrel
    by_cases hle:i1≤p
    · have hgu:decide ((i1:Int)≤(p:Int)) = true:=decide_eq_true (by omega)
      have hgz:(i1:Int)≤(p:Int):=by omega
      obtain ⟨x,hx,cx,lx⟩:=SP.out.at (p) (by omega)
      obtain ⟨y,hy,cy,ly⟩:=SP.out.at (lo) (by omega)
      have hc:=SP.out.cmp c x y hx hy
      generalize ordF f x y = r at hc
      obtain ⟨rb,hrb⟩:∃ t,decide (r < 0) = t:=⟨_,rfl⟩
      clear hx hy cx cy
      have q1:(p:Int) < (n:Int):=by omega
      have q2:(lo:Int) < (n:Int):=by omega
      go_wp2_with fail
      go_quiet_grown (first | (go_at_call 254; refine Calls.grown_of (hc _ _)))
      have SR:=Lib.hid (SP.out.grown nq osq)
      clear lx ly hc SP
      generalize grow (World.drewN wr nq) osq = w2 at SR ⊢
      clear nq osq hrb
      clear q1 q2
      cases rb with
      | false =>
       go_wp2
       go_roundg ((p - 1) + 1 - i1)
       case measure => omega
       case rel => exact ⟨p - 1,by go_num,by omega,Nat.le_refl _,SR⟩
      | true =>
       go_wp2
       go_meet
       case rel => exact ⟨p,rfl,hp,SR⟩
    · have hgu:decide ((i1:Int)≤(p:Int)) = false:=decide_eq_false (by omega)
      have hgz:¬ (i1:Int)≤(p:Int):=by omega
      go_wp2_with fail
      go_big_region
      have SR:=Lib.hid SP.out.drew
      clear SP
      generalize wr.drew = w2 at SR ⊢
      go_wp2
      go_meet
      case rel => exact ⟨p,rfl,hp,SR⟩
  case rest =>
   obtain ⟨j2,rfl,hj2,SD⟩:=hcut
   clear hj ezj
   by_cases hgt:j2 < i1
   · have hgtz:(j2:Int) < (i1:Int):=by omega
     go_wp2_with fail
     obtain ⟨x,hx,cx,_⟩:=SD.out.at (j2) (by omega)
     obtain ⟨y,hy,cy,_⟩:=SD.out.at (lo) (by omega)
     have fx:=SD.out.frozen (j2)
     have fy:=SD.out.frozen (lo)
     obtain ⟨u,cu⟩:=SD.out.c2 (j2) (lo) y hy (by omega)
     have S3:=Lib.hid (SD.out.swap (j2) (lo) x y hx hy)
     clear SD hx hy
     have q1:(j2:Int) < (n:Int):=by omega
     have q2:(lo:Int) < (n:Int):=by omega
     go_wp2_with fail
     go_big_region
     clear cx cy cu fx fy
     generalize ((World.setCell wc ⟨g,j2,none⟩ (.int .i64 y)).setCell ⟨g,lo,none⟩ (.int .i64 x)).drew = w3 at S3 ⊢
     clear q1 q2
     go_wp2
     go_ret2
     exact ⟨j2,true,rfl,by omega,by omega,S3.out⟩
   · have hgtz:¬ (j2:Int) < (i1:Int):=by omega
     go_wp2_with fail
     obtain ⟨x,hx,cx,_⟩:=SD.out.at (i1) (by omega)
     obtain ⟨y,hy,cy,_⟩:=SD.out.at (j2) (by omega)
     have fx:=SD.out.frozen (i1)
     have fy:=SD.out.frozen (j2)
     obtain ⟨u,cu⟩:=SD.out.c2 (i1) (j2) y hy (by omega)
     have S3:=Lib.hid (SD.out.swap (i1) (j2) x y hx hy)
     clear SD hx hy
     have q1:(i1:Int) < (n:Int):=by omega
     have q2:(j2:Int) < (n:Int):=by omega
     go_wp2_with fail
     go_big_region
     clear cx cy cu fx fy
     generalize ((World.setCell wc ⟨g,i1,none⟩ (.int .i64 y)).setCell ⟨g,j2,none⟩ (.int .i64 x)).drew = w3 at S3 ⊢
     clear q1 q2
     go_wp2
     go_loopg [12,13] n (fun g1 vi vj wr => ∃ i j:Nat,vi = .int .i64 i∧vj = .int .i64 j∧lo + 1≤i∧i≤hi∧lo≤j∧j < hi∧j + 1 - i≤g1∧Hid (SQ g n b o f w0 wr))
     case atStart => exact ⟨i1 + 1,j2 - 1,by go_num,by go_num,by omega,by omega,by omega,by omega,by omega,S3⟩
     case round =>
      clear S3
      obtain ⟨i,j,rfl,rfl,hi3,hi4,hj3,hj4,hg1,SL⟩:=hrel
      clear hgt hgtz hi1 hj2
      iterate 2 go_step
      go_cut [12] from 105 to 162 (fun s wc => ∃ p:Nat,s = .int .i64 p∧(lo + 1≤p∧p≤hi∧i≤p)∧Hid (SQ g n b o f w0 wc))
      case first =>
       go_wp2
       go_loopg [12] n (fun g1 v wr => ∃ p:Nat,v = .int .i64 p∧(lo + 1≤p∧p≤hi∧i≤p)∧j + 1 - p≤g1∧Hid (SQ g n b o f w0 wr))
       case atStart => exact ⟨i,by first | rfl | go_num,by omega,by omega,SL⟩
       case round =>
        clear SL
        obtain ⟨p,rfl,hp,hg1,SP⟩:=hrel
        by_cases hle:p≤j
        · have hgu:decide ((p:Int)≤(j:Int)) = true:=decide_eq_true (by omega)
          have hgz:(p:Int)≤(j:Int):=by omega
          obtain ⟨x,hx,cx,lx⟩:=SP.out.at (p) (by omega)
          obtain ⟨y,hy,cy,ly⟩:=SP.out.at (lo) (by omega)
          have hc:=SP.out.cmp c x y hx hy
          generalize ordF f x y = r at hc
          obtain ⟨rb,hrb⟩:∃ t,decide (r < 0) = t:=⟨_,rfl⟩
          clear hx hy cx cy
          have q1:(p:Int) < (n:Int):=by omega
          have q2:(lo:Int) < (n:Int):=by omega
          go_wp2_with fail
          go_quiet_grown (first | (go_at_call 254; refine Calls.grown_of (hc _ _)))
          have SR:=Lib.hid (SP.out.grown nq osq)
          clear lx ly hc SP
          generalize grow (World.drewN wr nq) osq = w2 at SR ⊢
          clear nq osq hrb
          clear q1 q2
          cases rb with
          | true =>
           go_wp2
           go_roundg (j + 1 - (p + 1))
           case measure => omega
           case rel => exact ⟨p + 1,by go_num,by omega,Nat.le_refl _,SR⟩
          | false =>
           go_wp2
           go_meet
           case rel => exact ⟨p,rfl,hp,SR⟩
        · have hgu:decide ((p:Int)≤(j:Int)) = false:=decide_eq_false (by omega)
          have hgz:¬ (p:Int)≤(j:Int):=by omega
          go_wp2_with fail
          go_big_region
          have SR:=Lib.hid SP.out.drew
          clear SP
          generalize wr.drew = w2 at SR ⊢
          go_wp2
          go_meet
          case rel => exact ⟨p,rfl,hp,SR⟩
      case rest =>
       obtain ⟨i5,rfl,hi5,SC⟩:=hcut
       iterate 2 go_step
       go_cut [13] from 105 to 162 (fun s wc => ∃ p:Nat,s = .int .i64 p∧(lo≤p∧p < hi∧p≤j)∧Hid (SQ g n b o f w0 wc))
       case first =>
        go_wp2
        go_loopg [13] n (fun g1 v wr => ∃ p:Nat,v = .int .i64 p∧(lo≤p∧p < hi∧p≤j)∧p + 1 - i5≤g1∧Hid (SQ g n b o f w0 wr))
        case atStart => exact ⟨j,by first | rfl | go_num,by omega,by omega,SC⟩
        case round =>
         clear SC
         obtain ⟨p,rfl,hp,hg1,SP⟩:=hrel
         by_cases hle:i5≤p
         · have hgu:decide ((i5:Int)≤(p:Int)) = true:=decide_eq_true (by omega)
           have hgz:(i5:Int)≤(p:Int):=by omega
           obtain ⟨x,hx,cx,lx⟩:=SP.out.at (p) (by omega)
           obtain ⟨y,hy,cy,ly⟩:=SP.out.at (lo) (by omega)
           have hc:=SP.out.cmp c x y hx hy
           generalize ordF f x y = r at hc
           obtain ⟨rb,hrb⟩:∃ t,decide (r < 0) = t:=⟨_,rfl⟩
           clear hx hy cx cy
           have q1:(p:Int) < (n:Int):=by omega
           have q2:(lo:Int) < (n:Int):=by omega
           go_wp2_with fail
           go_quiet_grown (first | (go_at_call 254; refine Calls.grown_of (hc _ _)))
           have SR:=Lib.hid (SP.out.grown nq osq)
           clear lx ly hc SP
           generalize grow (World.drewN wr nq) osq = w2 at SR ⊢
           clear nq osq hrb
           clear q1 q2
           cases rb with
           | false =>
            go_wp2
            go_roundg ((p - 1) + 1 - i5)
            case measure => omega
            case rel => exact ⟨p - 1,by go_num,by omega,Nat.le_refl _,SR⟩
           | true =>
            go_wp2
            go_meet
            case rel => exact ⟨p,rfl,hp,SR⟩
         · have hgu:decide ((i5:Int)≤(p:Int)) = false:=decide_eq_false (by omega)
           have hgz:¬ (i5:Int)≤(p:Int):=by omega
           go_wp2_with fail
           go_big_region
           have SR:=Lib.hid SP.out.drew
           clear SP
           generalize wr.drew = w2 at SR ⊢
           go_wp2
           go_meet
           case rel => exact ⟨p,rfl,hp,SR⟩
       case rest =>
        obtain ⟨j5,rfl,hj5,SD⟩:=hcut
        by_cases hgt:j5 < i5
        · have hgtz:(j5:Int) < (i5:Int):=by omega
          go_wp2_with fail
          obtain ⟨x,hx,cx,_⟩:=SD.out.at (j5) (by omega)
          obtain ⟨y,hy,cy,_⟩:=SD.out.at (lo) (by omega)
          have fx:=SD.out.frozen (j5)
          have fy:=SD.out.frozen (lo)
          obtain ⟨u,cu⟩:=SD.out.c2 (j5) (lo) y hy (by omega)
          have S3:=Lib.hid (SD.out.swap (j5) (lo) x y hx hy)
          clear SD hx hy
          have q1:(j5:Int) < (n:Int):=by omega
          have q2:(lo:Int) < (n:Int):=by omega
          go_wp2_with fail
          go_big_region
          clear cx cy cu fx fy
          generalize ((World.setCell wc ⟨g,j5,none⟩ (.int .i64 y)).setCell ⟨g,lo,none⟩ (.int .i64 x)).drew = w3 at S3 ⊢
          clear q1 q2
          go_wp2
          go_ret2
          exact ⟨j5,false,rfl,by omega,by omega,S3.out⟩
        · have hgtz:¬ (j5:Int) < (i5:Int):=by omega
          go_wp2_with fail
          obtain ⟨x,hx,cx,_⟩:=SD.out.at (i5) (by omega)
          obtain ⟨y,hy,cy,_⟩:=SD.out.at (j5) (by omega)
          have fx:=SD.out.frozen (i5)
          have fy:=SD.out.frozen (j5)
          obtain ⟨u,cu⟩:=SD.out.c2 (i5) (j5) y hy (by omega)
          have S3:=Lib.hid (SD.out.swap (i5) (j5) x y hx hy)
          clear SD hx hy
          have q1:(i5:Int) < (n:Int):=by omega
          have q2:(j5:Int) < (n:Int):=by omega
          go_wp2_with fail
          go_big_region
          clear cx cy cu fx fy
          generalize ((World.setCell wc ⟨g,i5,none⟩ (.int .i64 y)).setCell ⟨g,j5,none⟩ (.int .i64 x)).drew = w3 at S3 ⊢
          clear q1 q2
          go_wp2
          go_roundg (j5 - 1 + 1 - (i5 + 1))
          case measure => omega
          case rel => exact ⟨i5 + 1,j5 - 1,by go_num,by go_num,by omega,by omega,by omega,by omega,Nat.le_refl _,S3⟩
end Go.Proofs.YtgcnnbjbdfgglaaGreat
namespace Go.Proofs.YtgcnnbjbdfgglaaGreat
open Go.RowKit Go.Sort
structure CQ (g n b o:Nat) (f:Nat→Int) (k m:Nat) (w0 W:World):Prop where
  sq:SQ g n b o f w0 W
  cnt:∃ s:Nat,s≤m∧Blk W k 3 #[.int .i64 s]
  new:w0.heap.size≤k
  ng:k ≠ g
  nb:k ≠ b
theorem CQ.below {g n b o k m:Nat} {f:Nat→Int} {w0 W W':World} (h:CQ g n b o f k m w0 W) (hb:Below W.heap.size W W'):CQ g n b o f k m w0 W' :=
 ⟨h.sq.below hb,by obtain ⟨s,hs,hc⟩:=h.cnt; exact ⟨s,hs,hc.below hb⟩,h.new,h.ng,h.nb⟩
theorem CQ.more {g n b o k m m':Nat} {f:Nat→Int} {w0 W:World} (h:CQ g n b o f k m w0 W) (hm:m≤m'):CQ g n b o f k m' w0 W :=
 ⟨h.sq,by obtain ⟨s,hs,hc⟩:=h.cnt; exact ⟨s,by omega,hc⟩,h.new,h.ng,h.nb⟩
theorem CQ.bump {g n b o k m s:Nat} {f:Nat→Int} {w0 W:World} (h:CQ g n b o f k m w0 W) (hs:s≤m) (hc:Blk W k 3 #[.int .i64 s]):CQ g n b o f k (m + 1) w0 (W.setCell ⟨k,0,none⟩ (.int .i64 (s + 1))):=by
 refine ⟨⟨h.sq.ty.set _ _ _,fun i hi => ?_,fun i hi => ?_,h.sq.ne,h.sq.kept.setCell (Or.inr h.new) _ _⟩,⟨s + 1,by omega,by have:=hc.set 0 (.int .i64 (s + 1)); simpa using this⟩,h.new,h.ng,h.nb⟩
 · obtain ⟨x,hx,hq⟩:=h.sq.row i hi
   exact ⟨x,hx,(World.cell?_setCell_other _ _ _ _ (by intro e'; simp only [Addr.mk.injEq] at e'; exact h.ng e'.1)).trans hq⟩
 · exact (World.cell?_setCell_other _ _ _ _ (by intro e'; simp only [Addr.mk.injEq] at e'; exact h.nb e'.1)).trans (h.sq.left i hi)
def O2Post (g n b o:Nat) (f:Nat→Int) (k m:Nat) (w0:World) (i j:Nat) (e:Ending) (w':World):Prop:=∃ x y:Nat,e = .returned (.tuple #[.int .i64 x,.int .i64 y])∧(x = i∧y = j∨x = j∧y = i)∧CQ g n b o f k (m + 1) w0 w'
def MedPost (g n b o:Nat) (f:Nat→Int) (k m:Nat) (w0:World) (x y z:Nat) (e:Ending) (w':World):Prop:=∃ r:Nat,e = .returned (.int .i64 r)∧(r = x∨r = y∨r = z)∧CQ g n b o f k (m + 3) w0 w'
set_option maxRecDepth 1000000 in
set_option maxHeartbeats 8000000 in
theorem Bk.order2 {g n b o c cap k m:Nat} {f:Nat→Int} {w0 w:World} (C:CQ g n b o f k m w0 w) (i j:Nat) (hi:i < n) (hj:j < n) (hm:(m:Int)≤64):Calls Tryz.prog 284 #[.slice (some ⟨g,0,none⟩) n cap,.int .i64 i,.int .i64 j,.pointer (some ⟨k,0,none⟩),ordV b o n c] w (O2Post g n b o f k m w0 i j):=by
 have mixed:Tryz.prog.follows .mixedOrders = true:=by kernel_rfl
 have eg:=enters_of Tryz.func254 (by kernel_rfl) rfl
 have S0:=Lib.hid C.sq
 have C0:=Lib.hid C
 clear C
 unfold ordV
 go_enter Tryz.func284,Tryz.ntmps284
 obtain ⟨x,hx,cx,lx⟩:=S0.out.at (j) (by omega)
 obtain ⟨y,hy,cy,ly⟩:=S0.out.at (i) (by omega)
 have hc:=S0.out.cmp c x y hx hy
 generalize ordF f x y = r at hc
 obtain ⟨rb,hrb⟩:∃ t,decide (r < 0) = t:=⟨_,rfl⟩
 clear hx hy cx cy
 have q1:(i:Int) < (n:Int):=by omega
 have q2:(j:Int) < (n:Int):=by omega
 go_wp2_with fail
 go_quiet_grown (first | (go_at_call 254; refine Calls.grown_of (hc _ _)))
 have S1:=Lib.hid (S0.out.grown nq osq)
 clear lx ly hc S0
 have C1:=Lib.hid (C0.out.below (grow_below w nq osq))
 clear C0
 generalize grow (World.drewN w nq) osq = w2 at S1 C1 ⊢
 clear nq osq hrb
 clear q1 q2
 cases rb with
 | true =>
  obtain ⟨s,hs,hc⟩:=C1.out.cnt
  have c0:=hc.cell 0
  have c1:=hc.frozen 0
  have C2:=Lib.hid (C1.out.bump hs hc)
  simp only [List.getElem?_toArray,List.getElem?_cons_zero] at c0
  clear hc C1 S1
  have hs':(s:Int)≤64:=by omega
  go_wp2
  go_ret2
  exact ⟨j,i,rfl,Or.inr ⟨rfl,rfl⟩,C2.out⟩
 | false =>
  go_wp2
  go_ret2
  exact ⟨i,j,rfl,Or.inl ⟨rfl,rfl⟩,C1.out.more (by omega)⟩
set_option maxRecDepth 1000000 in
set_option maxHeartbeats 8000000 in
theorem Bk.median {g n b o c cap k m:Nat} {f:Nat→Int} {w0 w:World} (C:CQ g n b o f k m w0 w) (x y z:Nat) (hx:x < n) (hy:y < n) (hz:z < n) (hm:(m:Int)≤60):Calls Tryz.prog 283 #[.slice (some ⟨g,0,none⟩) n cap,.int .i64 x,.int .i64 y,.int .i64 z,.pointer (some ⟨k,0,none⟩),ordV b o n c] w (MedPost g n b o f k m w0 x y z):=by
 have HO:=Lib.hid (fun (m:Nat) (W:World) (C:CQ g n b o f k m w0 W) (i j:Nat) (hi:i < n) (hj:j < n) (hm:(m:Int)≤64) => Bk.order2 (c:=c) (cap:=cap) C i j hi hj hm)
 have C0:=Lib.hid C
 clear C
 unfold ordV at *
 go_enter Tryz.func283,Tryz.ntmps283
 go_wp2_with fail
 refine (HO.out m w C0.out x y hx hy (by omega)).mono ?_
 rintro e w1 ⟨a1,b1,rfl,h1,C1⟩
 have C1:=Lib.hid C1
 go_wp2_with fail
 refine (HO.out _ w1 C1.out b1 z (by omega) hz (by omega)).mono ?_
 rintro e w2 ⟨a2,b2,rfl,h2,C2⟩
 have C2:=Lib.hid C2
 go_wp2_with fail
 refine (HO.out _ w2 C2.out a1 a2 (by omega) (by omega) (by omega)).mono ?_
 rintro e w3 ⟨a3,b3,rfl,h3,C3⟩
 have C3:=Lib.hid C3
 go_wp2
 go_ret
 exact ⟨b3,rfl,by omega,C3.out⟩
def PvPost (g n b o:Nat) (f:Nat→Int) (w0:World) (lo L:Nat) (e:Ending) (w':World):Prop:=∃ p h:Nat,e = .returned (.tuple #[.int .i64 p,.int .i64 h])∧lo≤p∧p < lo + L∧h≤2∧SQ g n b o f w0 w'
set_option maxRecDepth 1000000 in
set_option maxHeartbeats 8000000 in
theorem Bk.pivot {g n b o c cap:Nat} {f:Nat→Int} {w0 w:World} (S:SQ g n b o f w0 w) (hb0:b < w0.heap.size) (hg0:g < w0.heap.size) (lo L:Nat) (hL:8≤L) (hhi:lo + L≤n) (hn:(n:Int)≤15):Calls Tryz.prog 275 #[.slice (some ⟨g,0,none⟩) n cap,.int .i64 lo,.int .i64 ((lo + L:Nat):Int),ordV b o n c] w (PvPost g n b o f w0 lo L):=by
 have hk:=S.kept.size
 have HM:=Lib.hid (Bk.median (c:=c) (cap:=cap) (k:=w.heap.size) (m:=0) (w:=w.alloc (.cells #[.int .i64 0] 3)) ⟨S.below ((Below.refl _ _).alloc (Nat.le_refl _) _),⟨0,Nat.le_refl _,Blk.new _ _ _⟩,hk,by omega,by omega⟩ (lo + L / 4) (lo + L / 4 * 2) (lo + L / 4 * 3) (by omega) (by omega) (by omega) (by omega))
 have hLz:((lo:Int) + (L:Int) - (lo:Int)) = (L:Int):=by omega
 have h8z:(8:Int)≤(L:Int):=by omega
 have h50:(L:Int)≤15:=by omega
 have hlo:(lo:Int)≤15:=by omega
 clear S
 unfold ordV at *
 go_enter Tryz.func275,Tryz.ntmps275
 go_wp2_with fail
 refine HM.out.mono ?_
 rintro e w1 ⟨r,rfl,hr,C1⟩
 obtain ⟨s,hs,hc⟩:=C1.cnt
 have c0:=hc.cell 0
 simp only [List.getElem?_toArray,List.getElem?_cons_zero] at c0
 have C1:=Lib.hid C1
 clear hc
 by_cases h0:s = 0
 · subst h0
   go_wp2
   go_ret2
   exact ⟨r,1,rfl,by omega,by omega,by omega,C1.out.sq⟩
 · have h0z:¬ (s:Int) = 0:=by omega
   have h12:¬ (s:Int) = 12:=by omega
   go_wp2
   go_ret2
   exact ⟨r,0,rfl,by omega,by omega,by omega,C1.out.sq⟩
end Go.Proofs.YtgcnnbjbdfgglaaGreat
