/- LAW TopBoth: of every configuration of a bank and every list of byte strings the given function TopBoth returns true and leaves its arguments as they were; no condition. A part of what it needs. -/
import Derived.Test.YtgcnnbjbdfgglaaGreatZaq
namespace Go.Proofs.YtgcnnbjbdfgglaaGreat
open Go.RowKit Go.Sort
def PiPost (g n b o:Nat) (f:Nat→Int) (w0:World) (e:Ending) (w':World):Prop:=∃ t:Bool,e = .returned (.bool t)∧SQ g n b o f w0 w'
set_option maxRecDepth 1000000 in
set_option maxHeartbeats 8000000 in
theorem Bk.parteq {g n b o c cap:Nat} {f:Nat→Int} {w0 w:World} (S:SQ g n b o f w0 w) (lo hi pv:Nat) (hlo:lo≤pv) (hpv:pv < hi) (hhi:hi≤n) (hn:(n:Int)≤64):Calls Tryz.prog 278 #[.slice (some ⟨g,0,none⟩) n cap,.int .i64 lo,.int .i64 hi,.int .i64 pv,ordV b o n c] w fun e w' => ∃ (mid:Nat),e = .returned (.int .i64 mid)∧lo + 1≤mid∧mid≤hi∧SQ g n b o f w0 w':=by
 have mixed:Tryz.prog.follows .mixedOrders = true:=by kernel_rfl
 have eg:=enters_of Tryz.func254 (by kernel_rfl) rfl
 have S0:=Lib.hid S
 clear S
 unfold ordV
 go_enter Tryz.func278,Tryz.ntmps278
 obtain ⟨x,hx,cx,_⟩:=S0.out.at (lo) (by omega)
 obtain ⟨y,hy,cy,_⟩:=S0.out.at (pv) (by omega)
 have fx:=S0.out.frozen (lo)
 have fy:=S0.out.frozen (pv)
 obtain ⟨u,cu⟩:=S0.out.c2 (lo) (pv) y hy (by omega)
 have S1:=Lib.hid (S0.out.swap (lo) (pv) x y hx hy)
 clear S0 hx hy
 have q1:(lo:Int) < (n:Int):=by omega
 have q2:(pv:Int) < (n:Int):=by omega
 go_wp2_with fail
 go_big_region
 clear cx cy cu fx fy
 generalize ((World.setCell w ⟨g,lo,none⟩ (.int .i64 y)).setCell ⟨g,pv,none⟩ (.int .i64 x)).drew = w1 at S1 ⊢
 clear q1 q2
 go_wp2
 go_loopg [11,12] n (fun g1 vi vj wr => ∃ i j:Nat,vi = .int .i64 i∧vj = .int .i64 j∧lo + 1≤i∧i≤hi∧lo≤j∧j < hi∧j + 1 - i≤g1∧Hid (SQ g n b o f w0 wr))
 case atStart => exact ⟨lo + 1,hi - 1,by go_num,by go_num,by omega,by omega,by omega,by omega,by omega,S1⟩
 case round =>
  clear S1
  obtain ⟨i,j,rfl,rfl,hi3,hi4,hj3,hj4,hg1,SL⟩:=hrel
  iterate 2 go_step
  go_cut [11] from 31 to 88 (fun s wc => ∃ p:Nat,s = .int .i64 p∧(lo + 1≤p∧p≤hi∧i≤p)∧Hid (SQ g n b o f w0 wc))
  case first =>
   go_wp2
   go_loopg [11] n (fun g1 v wr => ∃ p:Nat,v = .int .i64 p∧(lo + 1≤p∧p≤hi∧i≤p)∧j + 1 - p≤g1∧Hid (SQ g n b o f w0 wr))
   case atStart => exact ⟨i,by first | rfl | go_num,by omega,by omega,SL⟩
   case round =>
    clear SL
    obtain ⟨p,rfl,hp,hg1,SP⟩:=hrel
    by_cases hle:p≤j
    · have hgu:decide ((p:Int)≤(j:Int)) = true:=decide_eq_true (by omega)
      have hgz:(p:Int)≤(j:Int):=by omega
      obtain ⟨x,hx,cx,lx⟩:=SP.out.at (lo) (by omega)
      obtain ⟨y,hy,cy,ly⟩:=SP.out.at (p) (by omega)
      have hc:=SP.out.cmp c x y hx hy
      generalize ordF f x y = r at hc
      obtain ⟨rb,hrb⟩:∃ t,decide (r < 0) = t:=⟨_,rfl⟩
      clear hx hy cx cy
      have q1:(lo:Int) < (n:Int):=by omega
      have q2:(p:Int) < (n:Int):=by omega
      go_wp2_with fail
      go_quiet_grown (first | (go_at_call 254; refine Calls.grown_of (hc _ _)))
      have SR:=Lib.hid (SP.out.grown nq osq)
      clear lx ly hc SP
      generalize grow (World.drewN wr nq) osq = w2 at SR ⊢
      clear nq osq hrb
      clear q1 q2
      cases rb with
      | false =>
       go_wp2
       go_roundg (j + 1 - (p + 1))
       case measure => omega
       case rel => exact ⟨p + 1,by go_num,by omega,Nat.le_refl _,SR⟩
      | true =>
       go_wp2
       go_meet
       case rel => exact ⟨p,rfl,hp,SR⟩
    · have hgu:decide ((p:Int)≤(j:Int)) = false:=decide_eq_false (by omega)
      have hgz:¬ (p:Int)≤(j:Int):=by omega
      go_wp2_with fail
      go_big_region
      have SR:=Lib.hid SP.out.drew
      clear SP
      generalize wr.drew = w2 at SR ⊢
      go_wp2
      go_meet
      case rel => exact ⟨p,rfl,hp,SR⟩
  case rest =>
   obtain ⟨i5,rfl,hi5,SC⟩:=hcut
   iterate 2 go_step
   go_cut [12] from 31 to 88 (fun s wc => ∃ p:Nat,s = .int .i64 p∧(lo≤p∧p < hi∧p≤j)∧Hid (SQ g n b o f w0 wc))
   case first =>
    go_wp2
    go_loopg [12] n (fun g1 v wr => ∃ p:Nat,v = .int .i64 p∧(lo≤p∧p < hi∧p≤j)∧p + 1 - i5≤g1∧Hid (SQ g n b o f w0 wr))
    case atStart => exact ⟨j,by first | rfl | go_num,by omega,by omega,SC⟩
    case round =>
     clear SC
     obtain ⟨p,rfl,hp,hg1,SP⟩:=hrel
     by_cases hle:i5≤p
     · have hgu:decide ((i5:Int)≤(p:Int)) = true:=decide_eq_true (by omega)
       have hgz:(i5:Int)≤(p:Int):=by omega
       obtain ⟨x,hx,cx,lx⟩:=SP.out.at (lo) (by omega)
       obtain ⟨y,hy,cy,ly⟩:=SP.out.at (p) (by omega)
       have hc:=SP.out.cmp c x y hx hy
       generalize ordF f x y = r at hc
       obtain ⟨rb,hrb⟩:∃ t,decide (r < 0) = t:=⟨_,rfl⟩
       clear hx hy cx cy
       have q1:(lo:Int) < (n:Int):=by omega
       have q2:(p:Int) < (n:Int):=by omega
       go_wp2_with fail
       go_quiet_grown (first | (go_at_call 254; refine Calls.grown_of (hc _ _)))
       have SR:=Lib.hid (SP.out.grown nq osq)
       clear lx ly hc SP
       generalize grow (World.drewN wr nq) osq = w2 at SR ⊢
       clear nq osq hrb
       clear q1 q2
       cases rb with
       | true =>
        go_wp2
        go_roundg ((p - 1) + 1 - i5)
        case measure => omega
        case rel => exact ⟨p - 1,by go_num,by omega,Nat.le_refl _,SR⟩
       | false =>
        go_wp2
        go_meet
        case rel => exact ⟨p,rfl,hp,SR⟩
     · have hgu:decide ((i5:Int)≤(p:Int)) = false:=decide_eq_false (by omega)
       have hgz:¬ (i5:Int)≤(p:Int):=by omega
       go_wp2_with fail
       go_big_region
       have SR:=Lib.hid SP.out.drew
       clear SP
       generalize wr.drew = w2 at SR ⊢
       go_wp2
       go_meet
       case rel => exact ⟨p,rfl,hp,SR⟩
   case rest =>
    obtain ⟨j5,rfl,hj5,SD⟩:=hcut
    by_cases hgt:j5 < i5
    · have hgtz:(j5:Int) < (i5:Int):=by omega
      go_wp2
      go_ret
      exact ⟨i5,rfl,by omega,by omega,SD.out⟩
    · have hgtz:¬ (j5:Int) < (i5:Int):=by omega
      go_wp2_with fail
      obtain ⟨x,hx,cx,_⟩:=SD.out.at (i5) (by omega)
      obtain ⟨y,hy,cy,_⟩:=SD.out.at (j5) (by omega)
      have fx:=SD.out.frozen (i5)
      have fy:=SD.out.frozen (j5)
      obtain ⟨u,cu⟩:=SD.out.c2 (i5) (j5) y hy (by omega)
      have S3:=Lib.hid (SD.out.swap (i5) (j5) x y hx hy)
      clear SD hx hy
      have q1:(i5:Int) < (n:Int):=by omega
      have q2:(j5:Int) < (n:Int):=by omega
      go_wp2_with fail
      go_big_region
      clear cx cy cu fx fy
      generalize ((World.setCell wc ⟨g,i5,none⟩ (.int .i64 y)).setCell ⟨g,j5,none⟩ (.int .i64 x)).drew = w3 at S3 ⊢
      clear q1 q2
      go_wp2
      go_roundg (j5 - 1 + 1 - (i5 + 1))
      case measure => omega
      case rel => exact ⟨i5 + 1,j5 - 1,by go_num,by go_num,by omega,by omega,by omega,by omega,Nat.le_refl _,S3⟩
set_option maxRecDepth 1000000 in
set_option maxHeartbeats 8000000 in
theorem Bk.partialI {g n b o c cap:Nat} {f:Nat→Int} {w0 w:World} (S:SQ g n b o f w0 w) (lo hi:Nat) (hlo:lo < hi) (hhi:hi≤n) (hn15:(n:Int)≤15):Calls Tryz.prog 277 #[.slice (some ⟨g,0,none⟩) n cap,.int .i64 lo,.int .i64 hi,ordV b o n c] w fun e w' => PiPost g n b o f w0 e w':=by
 have mixed:Tryz.prog.follows .mixedOrders = true:=by kernel_rfl
 have eg:=enters_of Tryz.func254 (by kernel_rfl) rfl
 have S0:=Lib.hid S
 clear S
 unfold ordV
 go_enter Tryz.func277,Tryz.ntmps277
 go_wp2
 go_loopg [9,10] 0 (fun g1 vi vj wr => vi = .int .i64 ((lo:Int) + 1)∧vj = .int .i64 0∧Hid (SQ g n b o f w0 wr))
 case atStart => exact ⟨rfl,rfl,S0⟩
 case round =>
  clear S0
  obtain ⟨rfl,rfl,SL⟩:=hrel
  iterate 19 go_step
  go_cut [9] from 15 to 140 (fun s wc => ∃ p:Nat,s = .int .i64 p∧(lo + 1≤p∧p≤hi)∧Hid (SQ g n b o f w0 wc))
  case first =>
   go_wp2
   go_loopg [9] n (fun g1 v wr => ∃ p:Nat,v = .int .i64 p∧(lo + 1≤p∧p≤hi)∧hi - p≤g1∧Hid (SQ g n b o f w0 wr))
   case atStart => exact ⟨lo + 1,by first | rfl | go_num,by omega,by omega,SL⟩
   case round =>
    clear SL
    obtain ⟨p,rfl,hp,hg1,SP⟩:=hrel
    by_cases hle:p < hi
    · have hgu:decide ((p:Int) < (hi:Int)) = true:=decide_eq_true (by omega)
      have hgz:(p:Int) < (hi:Int):=by omega
      obtain ⟨x,hx,cx,lx⟩:=SP.out.at (p) (by omega)
      obtain ⟨y,hy,cy,ly⟩:=SP.out.at (p - 1) (by omega)
      have hc:=SP.out.cmp c x y hx hy
      generalize ordF f x y = r at hc
      obtain ⟨rb,hrb⟩:∃ t,decide (r < 0) = t:=⟨_,rfl⟩
      clear hx hy cx cy
      have q1:(p:Int) < (n:Int):=by omega
      have q2:(p:Int) - 1 < (n:Int):=by omega
      have q3:IntKind.i64.wrap ((p:Int) - 1) = (p:Int) - 1:=by rw [IntKind.wrap_i64]; omega
      have q5:((p:Int) - 1).toNat = p - 1:=by omega
      have q6:(0:Int)≤(p:Int) - 1:=by omega
      have q4:IntKind.i64.wrap (p:Int) = (p:Int):=by rw [IntKind.wrap_i64]; omega
      have q7:(1:Int)≤(p:Int):=by omega
      go_wp2_with fail
      go_quiet_grown (first | (go_at_call 254; refine Calls.grown_of (hc _ _)))
      have SR:=Lib.hid (SP.out.grown nq osq)
      clear lx ly hc SP
      generalize grow (World.drewN wr nq) osq = w2 at SR ⊢
      clear nq osq hrb
      clear q1 q2 q3 q4 q5 q6 q7
      cases rb with
      | false =>
       go_wp2
       go_roundg (hi - (p + 1))
       case measure => omega
       case rel => exact ⟨p + 1,by go_num,by omega,Nat.le_refl _,SR⟩
      | true =>
       go_wp2
       go_meet
       case rel => exact ⟨p,rfl,hp,SR⟩
    · have hgu:decide ((p:Int) < (hi:Int)) = false:=decide_eq_false (by omega)
      have hgz:¬ (p:Int) < (hi:Int):=by omega
      go_wp2_with fail
      go_big_region
      have SR:=Lib.hid SP.out.drew
      clear SP
      generalize wr.drew = w2 at SR ⊢
      go_wp2
      go_meet
      case rel => exact ⟨p,rfl,hp,SR⟩
  case rest =>
   obtain ⟨i5,rfl,hi5,SC⟩:=hcut
   by_cases he:i5 = hi
   · have hez:(i5:Int) = (hi:Int):=by omega
     subst he
     go_wp2
     go_ret
     exact ⟨true,rfl,SC.out⟩
   · have hez:¬ (i5:Int) = (hi:Int):=by omega
     have hq:(hi:Int) - (lo:Int) < 50:=by omega
     go_wp2
     go_ret
     exact ⟨false,rfl,SC.out⟩
end Go.Proofs.YtgcnnbjbdfgglaaGreat
