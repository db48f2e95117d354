/- LAW TopBoth: of every configuration of a bank and every list of byte strings the given function TopBoth returns true and leaves its arguments as they were; no condition. A part of what it needs. -/
import Derived.Test.YtgcnnbjbdfgglaaGreatZar
import Derived.Shelf.SlSortCmp.BreakPatterns1
namespace Go.Proofs.YtgcnnbjbdfgglaaGreat
open Go.RowKit Go.Sort
theorem pow_bits (L:Nat) (h:L < 16) (h8:8≤L):1 <<< Sort.bitsLen L = if L = 8 then 16 else 16:=by
 rcases (by omega:L = 8∨L = 9∨L = 10∨L = 11∨L = 12∨L = 13∨L = 14∨L = 15) with rfl | rfl | rfl | rfl | rfl | rfl | rfl | rfl <;> rfl
theorem SQ.far {g n b o k:Nat} {f:Nat→Int} {w0 W:World} (h:SQ g n b o f w0 W) (hk:w0.heap.size≤k) (hg:k ≠ g) (hb:k ≠ b) (p:Nat) (v:Value):SQ g n b o f w0 (W.setCell ⟨k,p,none⟩ v):=by
 refine ⟨h.ty.set _ _ _,fun i hi => ?_,fun i hi => ?_,h.ne,h.kept.setCell (Or.inr hk) _ _⟩
 · obtain ⟨x,hx,hq⟩:=h.row i hi
   exact ⟨x,hx,(World.cell?_setCell_other _ _ _ _ (by intro e'; simp only [Addr.mk.injEq] at e'; exact hg e'.1)).trans hq⟩
 · exact (World.cell?_setCell_other _ _ _ _ (by intro e'; simp only [Addr.mk.injEq] at e'; exact hb e'.1)).trans (h.left i hi)
theorem SQ.drewN {g n b o:Nat} {f:Nat→Int} {w0 W:World} (h:SQ g n b o f w0 W) (q:Nat):SQ g n b o f w0 (W.drewN q):=⟨h.ty,h.row,h.left,h.ne,h.kept.drewN q⟩
set_option maxRecDepth 1000000 in
set_option maxHeartbeats 8000000 in
theorem Bk.breakp {g n b o c cap:Nat} {f:Nat→Int} {w0 w:World} (S:SQ g n b o f w0 w) (hb0:b < w0.heap.size) (hg0:g < w0.heap.size) (lo L:Nat) (hL:8≤L) (hhi:lo + L≤n) (hn:(n:Int)≤15):Calls Tryz.prog 274 #[.slice (some ⟨g,0,none⟩) n cap,.int .i64 lo,.int .i64 ((lo + L:Nat):Int),ordV b o n c] w fun e w' => e = .returned (.tuple #[])∧SQ g n b o f w0 w':=by
 have mixed:Tryz.prog.follows .mixedOrders = true:=by kernel_rfl
 have hM:1 <<< Sort.bitsLen L = 16:=by rw [pow_bits L (by omega) hL]; split <;> rfl
 have hNP:∀ w,Calls Tryz.prog 164 #[.int .i64 (L:Int)] w fun e w' => e = .returned (.int .u64 (16:Int))∧w' = w:=fun w => by
  have:=AnyF.nextPowerOfTwo { Tryz.laysSlF06_f41 with } L (by omega) w
  rw [hM] at this
  exact this
 have HNP:=Lib.hid hNP
 have HNX:=Lib.hid (fun (X:Nat) (hX:X < 18446744073709551616) (W:World) (hc:W.cell? ⟨w.heap.size,0,none⟩ = some (.int .u64 X)) (hf:W.frozen? ⟨w.heap.size,0,none⟩ = false) => AnyF.xorshift_Next { Tryz.laysSlF06_f41 with } w.heap.size 0 X hX W hc hf)
 have hLz:((lo:Int) + (L:Int) - (lo:Int)) = (L:Int):=by omega
 have h8z:(8:Int)≤(L:Int):=by omega
 have hL15:(L:Int)≤15:=by omega
 have hl15:(lo:Int)≤15:=by omega
 have hk:=S.kept.size
 have hng:w.heap.size ≠ g:=by omega
 have hnb:w.heap.size ≠ b:=by omega
 have S0:=Lib.hid S
 clear S hM hNP
 unfold ordV
 go_enter Tryz.func274,Tryz.ntmps274
 go_wp2_with fail
 refine (HNP.out _).mono ?_
 rintro e w1 ⟨rfl,rfl⟩
 go_wp2
 go_loopg [11] 3 (fun g1 vi wr => ∃ (t:Nat) (X:Nat),vi = .int .i64 ((lo:Int) + (L:Int) / 4 * 2 - 1 + (t:Int))∧t≤3∧3 - t≤g1∧(X:Int) < 18446744073709551616∧Hid (SQ g n b o f w0 wr)∧Hid (Blk wr w.heap.size 279 #[.int .u64 X]))
 case atStart => exact ⟨0,L,by simp,by omega,by omega,by omega,Lib.hid (S0.out.below ((Below.refl _ _).alloc (Nat.le_refl _) _)),Lib.hid (Blk.new _ _ _)⟩
 case round =>
  clear S0
  obtain ⟨t,X,rfl,ht,hg1,hX,S1,HB⟩:=hrel
  by_cases ht3:t < 3
  · have hle:(lo:Int) + (L:Int) / 4 * 2 - 1 + (t:Int)≤(lo:Int) + (L:Int) / 4 * 2 + 1:=by omega
    obtain ⟨R,hR⟩:∃ R:Nat,R = Sort.xorNextN X:=⟨_,rfl⟩
    have lR:R < 18446744073709551616:=by rw [hR]; exact Sort.xorNextN_lt X (by omega)
    obtain ⟨O,hO⟩:∃ O:Nat,O = R &&& 15:=⟨_,rfl⟩
    have lO:O≤15:=by rw [hO]; exact Nat.and_le_right
    have eAnd:bits .and .u64 (R:Int) (15:Int) = (O:Int):=by
     rw [show (15:Int) = ((15:Nat):Int) by rfl,bits_and_u64_nat _ _ lR (by omega),hO]
    have hc0:=HB.out.cell 0
    simp only [List.getElem?_toArray,List.getElem?_cons_zero] at hc0
    have hN:=HNX.out X (by omega) wr hc0 (HB.out.frozen 0)
    rw [← hR] at hN
    have HN:=Lib.hid hN
    have S2:=Lib.hid ((S1.out.far hk hng hnb 0 (.int .u64 (R:Int))).drewN 3)
    have HB2:=Lib.hid ((HB.out.set 0 (.int .u64 (R:Int))).drewN 3)
    have lRz:(R:Int) < 18446744073709551616:=by omega
    clear hN hc0 hO hR S1 HB
    generalize (World.setCell wr ⟨w.heap.size,0,none⟩ (.int .u64 (R:Int))).drewN 3 = w2 at HN S2 HB2
    have lOz:(O:Int)≤15:=by omega
    clear lO lR hX
    by_cases hLO:L≤O
    · have hLOz:(L:Int)≤(O:Int):=by omega
      go_wp2_with fail
      refine HN.out.mono ?_
      rintro e w3 ⟨rfl,rfl⟩
      obtain ⟨iA,hiA⟩:∃ q,q = lo + L / 4 * 2 - 1 + t:=⟨_,rfl⟩
      obtain ⟨iB,hiB⟩:∃ q,q = lo + (O - L):=⟨_,rfl⟩
      have ea:((lo:Int) + (L:Int) / 4 * 2 - 1 + (t:Int)).toNat = iA:=by omega
      have pa:(0:Int)≤(lo:Int) + (L:Int) / 4 * 2 - 1 + (t:Int):=by omega
      have ba:(lo:Int) + (L:Int) / 4 * 2 - 1 + (t:Int) < (n:Int):=by omega
      have ra:IntKind.i64.wrap ((lo:Int) + (L:Int) / 4 * 2 - 1 + (t:Int)) = (lo:Int) + (L:Int) / 4 * 2 - 1 + (t:Int):=by rw [IntKind.wrap_i64]; omega
      have ec:((lo:Int) + ((O:Int) - (L:Int))).toNat = iB:=by omega
      have pc:(0:Int)≤(lo:Int) + ((O:Int) - (L:Int)):=by omega
      have bc:(lo:Int) + ((O:Int) - (L:Int)) < (n:Int):=by omega
      have rc:IntKind.i64.wrap ((lo:Int) + ((O:Int) - (L:Int))) = (lo:Int) + ((O:Int) - (L:Int)):=by rw [IntKind.wrap_i64]; omega
      obtain ⟨x,hx,cx,_⟩:=S2.out.at iA (by omega)
      obtain ⟨y,hy,cy,_⟩:=S2.out.at iB (by omega)
      have fx:=S2.out.frozen iA
      have fy:=S2.out.frozen iB
      obtain ⟨u,cu⟩:=S2.out.c2 iA iB y hy (by omega)
      have S3:=Lib.hid (S2.out.swap iA iB x y hx hy)
      clear hx hy hiA hiB
      have HB3:=Lib.hid ((((HB2.out.far hng.symm iA (.int .i64 y)).far hng.symm iB (.int .i64 x))).drew)
      go_wp2_with fail
      go_big_region
      clear cx cy cu fx fy ea ec pa pc ba bc ra rc
      generalize ((World.setCell _ ⟨g,iA,none⟩ (.int .i64 y)).setCell ⟨g,iB,none⟩ (.int .i64 x)).drew = w4 at S3 HB3 ⊢
      go_wp2
      go_roundg (3 - (t + 1))
      case measure => omega
      case rel => exact ⟨t + 1,R,by first | go_num | (congr 1; omega),by omega,Nat.le_refl _,lRz,S3,HB3⟩
    · have hLOz:¬ (L:Int)≤(O:Int):=by omega
      go_wp2_with fail
      refine HN.out.mono ?_
      rintro e w3 ⟨rfl,rfl⟩
      obtain ⟨iA,hiA⟩:∃ q,q = lo + L / 4 * 2 - 1 + t:=⟨_,rfl⟩
      obtain ⟨iB,hiB⟩:∃ q,q = lo + O:=⟨_,rfl⟩
      have ea:((lo:Int) + (L:Int) / 4 * 2 - 1 + (t:Int)).toNat = iA:=by omega
      have pa:(0:Int)≤(lo:Int) + (L:Int) / 4 * 2 - 1 + (t:Int):=by omega
      have ba:(lo:Int) + (L:Int) / 4 * 2 - 1 + (t:Int) < (n:Int):=by omega
      have ra:IntKind.i64.wrap ((lo:Int) + (L:Int) / 4 * 2 - 1 + (t:Int)) = (lo:Int) + (L:Int) / 4 * 2 - 1 + (t:Int):=by rw [IntKind.wrap_i64]; omega
      have ec:((lo:Int) + (O:Int)).toNat = iB:=by omega
      have pc:(0:Int)≤(lo:Int) + (O:Int):=by omega
      have bc:(lo:Int) + (O:Int) < (n:Int):=by omega
      have rc:IntKind.i64.wrap ((lo:Int) + (O:Int)) = (lo:Int) + (O:Int):=by rw [IntKind.wrap_i64]; omega
      obtain ⟨x,hx,cx,_⟩:=S2.out.at iA (by omega)
      obtain ⟨y,hy,cy,_⟩:=S2.out.at iB (by omega)
      have fx:=S2.out.frozen iA
      have fy:=S2.out.frozen iB
      obtain ⟨u,cu⟩:=S2.out.c2 iA iB y hy (by omega)
      have S3:=Lib.hid (S2.out.swap iA iB x y hx hy)
      clear hx hy hiA hiB
      have HB3:=Lib.hid ((((HB2.out.far hng.symm iA (.int .i64 y)).far hng.symm iB (.int .i64 x))).drew)
      go_wp2_with fail
      go_big_region
      clear cx cy cu fx fy ea ec pa pc ba bc ra rc
      generalize ((World.setCell _ ⟨g,iA,none⟩ (.int .i64 y)).setCell ⟨g,iB,none⟩ (.int .i64 x)).drew = w4 at S3 HB3 ⊢
      go_wp2
      go_roundg (3 - (t + 1))
      case measure => omega
      case rel => exact ⟨t + 1,R,by first | go_num | (congr 1; omega),by omega,Nat.le_refl _,lRz,S3,HB3⟩
  · have hle:¬ (lo:Int) + (L:Int) / 4 * 2 - 1 + (t:Int)≤(lo:Int) + (L:Int) / 4 * 2 + 1:=by omega
    go_wp2
    go_end0
    exact ⟨rfl,S1.out⟩
end Go.Proofs.YtgcnnbjbdfgglaaGreat
namespace Go.Proofs.YtgcnnbjbdfgglaaGreat
open Go.RowKit Go.Sort
set_option maxRecDepth 1000000 in
set_option maxHeartbeats 16000000 in
theorem Bk.pdq {g n b o c cap:Nat} {f:Nat→Int} {w0:World} (hb0:b < w0.heap.size) (hg0:g < w0.heap.size) (hn:(n:Int)≤15):∀ (N lo hi lim:Nat) (w:World),hi - lo < N→lo≤hi→hi≤n→(13≤hi - lo→hi - lo≤lim + 11)→(lim:Int)≤64→SQ g n b o f w0 w →
    Calls Tryz.prog 267 #[.slice (some ⟨g,0,none⟩) n cap,.int .i64 lo,.int .i64 hi,.int .i64 lim,ordV b o n c] w fun e w' => e = .returned (.tuple #[])∧SQ g n b o f w0 w':=by
 have mixed:Tryz.prog.follows .mixedOrders = true:=by kernel_rfl
 have eg:=enters_of Tryz.func254 (by kernel_rfl) rfl
 intro N
 induction N with
 | zero => intro _ _ _ _ h; exact absurd h (Nat.not_lt_zero _)
 | succ N ih =>
 intro lo hi lim w hN hlo hhi hlim hl64 S
 have IH:=Lib.hid ih
 have S0:=Lib.hid S
 have HINS:=Lib.hid (fun (W:World) (S:SQ g n b o f w0 W) (lo hi:Nat) (h1:lo≤hi) (h2:hi≤n) => Bk.insertion (c:=c) (cap:=cap) S lo hi h1 h2 (by omega))
 have HBP:=Lib.hid (fun (W:World) (S:SQ g n b o f w0 W) (lo L:Nat) (h1:8≤L) (h2:lo + L≤n) => Bk.breakp (c:=c) (cap:=cap) S hb0 hg0 lo L h1 h2 hn)
 have HPV:=Lib.hid (fun (W:World) (S:SQ g n b o f w0 W) (lo L:Nat) (h1:8≤L) (h2:lo + L≤n) => Bk.pivot (c:=c) (cap:=cap) S hb0 hg0 lo L h1 h2 hn)
 have HRV:=Lib.hid (fun (W:World) (S:SQ g n b o f w0 W) (lo hi:Nat) (h1:lo < hi) (h2:hi≤n) => Bk.reverse (c:=c) (cap:=cap) S lo hi h1 h2 (by omega))
 have HPI:=Lib.hid (fun (W:World) (S:SQ g n b o f w0 W) (lo hi:Nat) (h1:lo < hi) (h2:hi≤n) => Bk.partialI (c:=c) (cap:=cap) S lo hi h1 h2 hn)
 have HPE:=Lib.hid (fun (W:World) (S:SQ g n b o f w0 W) (lo hi pv:Nat) (h1:lo≤pv) (h2:pv < hi) (h3:hi≤n) => Bk.parteq (c:=c) (cap:=cap) S lo hi pv h1 h2 h3 (by omega))
 have HPA:=Lib.hid (fun (W:World) (S:SQ g n b o f w0 W) (lo hi pv:Nat) (h1:lo≤pv) (h2:pv < hi) (h3:hi≤n) => Bk.partition (c:=c) (cap:=cap) S lo hi pv h1 h2 h3 (by omega))
 clear S ih
 unfold ordV at *
 go_enter Tryz.func267,Tryz.ntmps267
 go_wp2
 go_loopg [1,2,3,10,11] (hi - lo) (fun kx s1 s2 s3 s8 s9 wr => ∃ (a L l:Nat) (wb wp:Bool),s1 = .int .i64 a∧s2 = .int .i64 ((a + L:Nat):Int)∧s3 = .int .i64 l∧s8 = .bool wb∧s9 = .bool wp∧a + L≤n∧L≤kx∧kx≤hi - lo∧(13≤L→L≤l + 11)∧(l:Int)≤64∧Hid (SQ g n b o f w0 wr))
 case atStart => exact ⟨lo,hi - lo,lim,true,true,rfl,by congr 1; omega,rfl,rfl,rfl,by omega,Nat.le_refl _,Nat.le_refl _,hlim,hl64,S0⟩
 case round =>
  clear S0
  obtain ⟨a,L,l,wb,wp,rfl,rfl,rfl,rfl,rfl,haL,hkx,hkN,hl,hl6,S1⟩:=hrel
  clear hlim hl64
  have hLz:(a:Int) + (L:Int) - (a:Int) = (L:Int):=by omega
  by_cases h12:L≤12
  · have h12z:(L:Int)≤12:=by omega
    go_wp2_with fail
    refine (HINS.out wr S1.out a (a + L) (by omega) haL).mono ?_
    rintro e w1 ⟨rfl,S2⟩
    have S2:=Lib.hid S2
    go_wp2
    (try simp only [Exit.inBlock,Exit.then])
    refine bodyPost_ret (results_none rfl _ _ _) rfl ?_
    exact ⟨rfl,S2.out⟩
  · have h12z:¬ (L:Int)≤12:=by omega
    have hl0z:¬ (l:Int) = 0:=by omega
    have hL15:(L:Int)≤15:=by omega
    have ha15:(a:Int)≤15:=by omega
    go_upto_if 39 with fail
    go_cut [3] from 21 to 147 (fun s3 wc => ∃ l':Nat,s3 = .int .i64 l'∧l≤l' + 1∧(l':Int)≤64∧Hid (SQ g n b o f w0 wc))
    case first =>
     cases wb
     · go_wp2_with fail
       refine (HBP.out wr S1.out a L (by omega) haL).mono ?_
       rintro e w1 ⟨rfl,S2⟩
       have S2:=Lib.hid S2
       go_wp2
       go_meet
       case rel => exact ⟨l - 1,by go_num,by omega,by omega,S2⟩
     · go_wp2_with fail
       go_meet
       case rel => exact ⟨l,rfl,by omega,by omega,S1⟩
    case rest =>
     obtain ⟨l',rfl,hll,hl'6,S2⟩:=hcut
     clear S1
     go_wp2_with fail
     refine (HPV.out wc S2.out a L (by omega) haL).mono ?_
     rintro e w2 ⟨pv,h,rfl,hp1,hp2,hh,S3⟩
     have S3:=Lib.hid S3
     clear S2
     go_upto_if 56 with fail
     go_cut [13,14] from 21 to 147 (fun s1 s2 wc => ∃ pv h:Nat,s1 = .int .i64 pv∧s2 = .int .i64 h∧a≤pv∧pv < a + L∧h≤2∧Hid (SQ g n b o f w0 wc))
     case first =>
      by_cases h2:h = 2
      · have h2z:(h:Int) = 2:=by omega
        subst h2
        go_wp2_with fail
        refine (HRV.out w2 S3.out a (a + L) (by omega) haL).mono ?_
        rintro e w3 ⟨rfl,S4⟩
        have S4:=Lib.hid S4
        go_wp2
        go_meet
        case rel => exact ⟨a + L - 1 - (pv - a),1,by first | go_num | (congr 1; omega),rfl,by omega,by omega,by omega,S4⟩
      · have h2z:¬ (h:Int) = 2:=by omega
        go_wp2_with fail
        go_meet
        case rel => exact ⟨pv,h,rfl,rfl,hp1,hp2,hh,S3⟩
     case rest =>
      obtain ⟨pv',h',rfl,rfl,hp1',hp2',hh',S4⟩:=hcut
      clear S3 hp1 hp2 hh
      go_upto_region 15 with fail
      go_cut [75] from 21 to 147 (fun s2 wx => ∃ t:Nat,t≤1∧s2 = .bool (t == 1)∧wx = wc)
      case first =>
       by_cases h1:(h':Int) = 1
       · have h1d:decide ((h':Int) = 1) = true:=decide_eq_true h1
         have h1b:((h':Int) == 1) = true:=by simpa using h1
         cases wb <;> cases wp <;> (go_wp2_with fail; go_meet; case rel => first | exact ⟨0,by omega,rfl,rfl⟩ | exact ⟨1,by omega,rfl,rfl⟩)
       · have h1d:decide ((h':Int) = 1) = false:=decide_eq_false h1
         have h1b:((h':Int) == 1) = false:=by simpa using h1
         cases wb <;> cases wp <;> (go_wp2_with fail; go_meet; case rel => first | exact ⟨0,by omega,rfl,rfl⟩ | exact ⟨1,by omega,rfl,rfl⟩)
      case rest =>
       obtain ⟨t,ht,rfl,rfl⟩:=hcut
       generalize (t == 1) = tb at *
       clear ht t
       go_upto_if 75 with fail
       go_cut [] from 21 to 147 (fun wx => Hid (SQ g n b o f w0 wx))
       case first =>
        cases tb
        · go_wp2_with fail
          go_meet
          case rel => exact S4
        · go_wp2_with fail
          refine (HPI.out wc S4.out a (a + L) (by omega) haL).mono ?_
          rintro e w3 ⟨t2,rfl,S5⟩
          have S5:=Lib.hid S5
          cases t2
          · go_wp2
            go_meet
            case rel => exact S5
          · go_wp2
            (try simp only [Exit.inBlock,Exit.then])
            refine bodyPost_ret (results_none rfl _ _ _) rfl ?_
            exact ⟨rfl,S5.out⟩
       case rest =>
        have S5:=hcut
        clear hcut S4 tb
        go_upto_region 17 with fail
        go_cut [97] from 21 to 147 (fun s wx => ∃ t:Nat,t≤1∧s = .bool (t == 1)∧Hid (SQ g n b o f w0 wx))
        case first =>
         by_cases ha0:a = 0
         · have ha0d:decide ((a:Int) > 0) = false:=decide_eq_false (by omega)
           have ha0z:¬ (0:Int) < (a:Int):=by omega
           have ha0e:decide ((0:Int) < (a:Int)) = false:=decide_eq_false (by omega)
           have ha0n:¬ 0 < a:=by omega
           have ha0m:decide (0 < a) = false:=decide_eq_false (by omega)
           clear ha0
           go_wp2_with fail
           go_big_region
           have SR:=Lib.hid S5.out.drew
           clear S5
           generalize World.drew _ = w2 at SR ⊢
           go_wp2_with fail
           go_meet
           case rel => exact ⟨0,by omega,rfl,SR⟩
         · have ha0d:decide ((a:Int) > 0) = true:=decide_eq_true (by omega)
           have ha0z:(0:Int) < (a:Int):=by omega
           have ha0e:decide ((0:Int) < (a:Int)) = true:=decide_eq_true (by omega)
           have ha0n:0 < a:=by omega
           have ha0m:decide (0 < a) = true:=decide_eq_true (by omega)
           clear ha0
           obtain ⟨x,hx,cx,lx⟩:=S5.out.at (a - 1) (by omega)
           obtain ⟨y,hy,cy,ly⟩:=S5.out.at (pv') (by omega)
           have hc:=S5.out.cmp c x y hx hy
           generalize ordF f x y = r at hc
           obtain ⟨rb,hrb⟩:∃ t,decide (r < 0) = t:=⟨_,rfl⟩
           clear hx hy cx cy
           have q1:(pv':Int) < (n:Int):=by omega
           have q2:(a:Int) - 1 < (n:Int):=by omega
           have q3:IntKind.i64.wrap ((a:Int) - 1) = (a:Int) - 1:=by rw [IntKind.wrap_i64]; omega
           have q5:((a:Int) - 1).toNat = a - 1:=by omega
           have q6:(0:Int)≤(a:Int) - 1:=by omega
           have q4:IntKind.i64.wrap (a:Int) = (a:Int):=by rw [IntKind.wrap_i64]; omega
           have q7:(1:Int)≤(a:Int):=by omega
           go_wp2_with fail
           go_quiet_grown (first | (go_at_call 254; refine Calls.grown_of (hc _ _)))
           have SR:=Lib.hid (S5.out.grown nq osq)
           clear lx ly hc S5
           generalize grow (World.drewN _ nq) osq = w2 at SR ⊢
           clear nq osq hrb
           clear q1 q2 q3 q4 q5 q6 q7
           cases rb
           · go_wp2_with fail
             go_meet
             case rel => exact ⟨1,by omega,rfl,SR⟩
           · go_wp2_with fail
             go_meet
             case rel => exact ⟨0,by omega,rfl,SR⟩
        case rest =>
         obtain ⟨t,ht,rfl,S6⟩:=hcut
         generalize (t == 1) = tb at *
         clear ht t
         cases tb
         · go_wp2_with fail
           refine (HPA.out _ S6.out a (a + L) pv' hp1' hp2' haL).mono ?_
           rintro e w7 ⟨mid,ap,rfl,hm1,hm2,S7⟩
           have S7:=Lib.hid S7
           clear S6 S5
           by_cases h4:mid - a < a + L - mid
           · have h4z:(mid:Int) - (a:Int) < (a:Int) + (L:Int) - (mid:Int):=by omega
             go_wp2_with fail
             refine (IH.out a mid l' w7 (by omega) hm1 (by omega) (by omega) hl'6 S7.out).mono ?_
             rintro e w8 ⟨rfl,S8⟩
             have S8:=Lib.hid S8
             go_wp2
             go_roundg (a + L - (mid + 1))
             case measure => omega
             case rel => exact ⟨mid + 1,a + L - (mid + 1),l',_,_,by go_num,by congr 1; omega,rfl,rfl,rfl,by omega,Nat.le_refl _,by omega,by omega,hl'6,S8⟩
           · have h4z:¬ (mid:Int) - (a:Int) < (a:Int) + (L:Int) - (mid:Int):=by omega
             go_wp2_with fail
             refine (IH.out (mid + 1) (a + L) l' w7 (by omega) (by omega) haL (by omega) hl'6 S7.out).mono ?_
             rintro e w8 ⟨rfl,S8⟩
             have S8:=Lib.hid S8
             go_wp2
             go_roundg (mid - a)
             case measure => omega
             case rel => exact ⟨a,mid - a,l',_,_,rfl,by congr 1; omega,rfl,rfl,rfl,by omega,Nat.le_refl _,by omega,by omega,hl'6,S8⟩
         · go_wp2_with fail
           refine (HPE.out _ S6.out a (a + L) pv' hp1' hp2' haL).mono ?_
           rintro e w7 ⟨mid,rfl,hm1,hm2,S7⟩
           have S7:=Lib.hid S7
           go_wp2
           go_roundg (a + L - mid)
           case measure => omega
           case rel => exact ⟨mid,a + L - mid,l',_,_,rfl,by congr 1; omega,rfl,rfl,rfl,by omega,Nat.le_refl _,by omega,by omega,hl'6,S7⟩
theorem Bk.sortInts {g n b o c cap:Nat} {f:Nat→Int} {w:World} (S:SQ g n b o f w w) (hb0:b < w.heap.size) (hn:(n:Int)≤15):Calls Tryz.prog 253 #[.slice (some ⟨g,0,none⟩) n cap,ordV b o n c] w fun e w' => e = .returned (.tuple #[])∧SQ g n b o f w w':=by
 have HB:=Lib.hid (fun W => Tryz.bits_Len n W (by omega) (by omega))
 have hbl:Lib.bitLen n≤4∧(13≤n→4≤Lib.bitLen n):=by
  have:∀ m:Fin 16,Lib.bitLen m.1≤4∧(13≤m.1→4≤Lib.bitLen m.1):=by decide
  exact this ⟨n,by omega⟩
 rw [show ((n:Int)).toNat = n by omega] at HB
 generalize Lib.bitLen n = bl at *
 have HP:=Lib.hid (Bk.pdq (c:=c) (cap:=cap) hb0 S.lt hn (n + 1) 0 n bl w (by omega) (by omega) (Nat.le_refl _) (by omega) (by omega) S)
 clear S
 unfold ordV at *
 have hnz:(n:Int)≤15:=hn
 go_enter Tryz.func253,Tryz.ntmps253
 go_wp2_with fail
 refine (HB.out _).mono ?_
 rintro e w1 ⟨rfl,rfl⟩
 go_wp2_with fail
 refine HP.out.mono ?_
 rintro e w2 ⟨rfl,S2⟩
 have S2:=Lib.hid S2
 go_wp2
 go_end0
 exact ⟨rfl,S2.out⟩
end Go.Proofs.YtgcnnbjbdfgglaaGreat
namespace Go.Proofs.YtgcnnbjbdfgglaaGreat
open Go.RowKit
theorem SlI.slK {w:World} {v:Value} {n:Nat} {f:Nat→Int} (h:SlI w v n f):SlK w v 1 n (fun i _ => .int .i64 (f i)):=by
 obtain ⟨a,c,rfl,hc⟩:=h
 refine ⟨a,c,rfl,fun hn => ?_⟩
 obtain ⟨b,o,rfl,h2⟩:=hc hn
 refine ⟨b,o,rfl,fun i j hi hj => ?_⟩
 obtain rfl:j = 0:=by omega
 simp only [Nat.mul_one,Nat.add_zero]; exact h2 i hi
set_option maxRecDepth 100000 in
theorem Bk.below0 (x:Int) (w:World):Calls Tryz.prog 250 #[.int .i64 x] w fun e w' => e = .returned (.bool (decide (x < 0)))∧Below w.heap.size w w':=by
 go_enter Tryz.func250,Tryz.ntmps250
 go_wp2
 go_ret
 exact ⟨rfl,Below.refl _ _⟩
set_option maxRecDepth 100000 in
theorem Bk.above0 (x:Int) (w:World):Calls Tryz.prog 251 #[.int .i64 x] w fun e w' => e = .returned (.bool (decide (0 < x)))∧Below w.heap.size w w':=by
 go_enter Tryz.func251,Tryz.ntmps251
 go_wp2
 go_ret
 exact ⟨rfl,Below.refl _ _⟩
def FillPost (n:Nat) (f:Nat→Int) (w:World) (e:Ending) (w':World):Prop:=∃ v zs t,e = .returned (.tuple #[v,.int .i64 t,.int .i64 0])∧w'.ownsRow w.heap.size 2 1 v zs.length (ints zs)∧zs.length = n∧(∀ i,i < n→0≤zs.getD i 0∧zs.getD i 0≤f i)∧0≤t∧In64 t∧Below w.heap.size w w'
set_option maxRecDepth 100000 in
set_option maxHeartbeats 2000000 in
theorem Bk.fill {w:World} {v:Value} {n:Nat} {f:Nat→Int} (h:SlI w v n f) (hn:(n:Int)≤64) (hf:∀ i,i < n→0≤f i∧In64 (f i)) (tot:Int) (ht0:0≤tot) (ht:In64 tot):Calls Tryz.prog 242 #[.int .i64 tot,v] w (FillPost n f w):=by
 obtain ⟨i0,hi,hz0,hz1,hz2⟩:=info_parts Bk.info64
 have HA:=Bk.anyI64 h.slK (by omega) 250 #[] (fun i => decide (f i < 0)) (fun _ _ => by kernel_rfl) (fun i hi wx hbx => Bk.below0 (f i) wx)
 rw [anyTo_false.2 (fun i hi => decide_eq_false (by have:=(hf i hi).1; omega))] at HA
 have HA:=Lib.hid HA
 obtain ⟨a,c,rfl,hc⟩:=h
 have HC:=Lib.hid hc
 have HF:=Lib.hid hf
 have HT:=Lib.hid (And.intro ht0 ht)
 have hd:decide (tot < 0) = false:=decide_eq_false (by omega)
 have htz:¬ tot < 0:=by omega
 have hnz:¬ (64:Int) < (n:Int):=by omega
 clear hc hf ht ht0
 go_enter Tryz.func242,Tryz.ntmps242
 go_wp2_with fail
 refine HA.out.mono ?_
 rintro e w1 ⟨rfl,hb1⟩
 have HB1:=Lib.hid hb1
 clear hb1 hd htz
 go_wp2
 go_loopw [0,7,24] (fun t l i wr => ∃ (k:Nat) (T:Int) (zs:List Int),k≤n∧i = .int .i64 k∧t = .int .i64 T∧wr.ownsRow w.heap.size 2 1 l zs.length (ints zs)∧zs.length = k∧Hid (∀ i,i < k→0≤zs.getD i 0∧zs.getD i 0≤f i)∧0≤T∧In64 T∧Below w.heap.size w wr) (fun _ _ i _ => n - (intOf i).toNat)
 case atStart => exact ⟨0,tot,[],by omega,rfl,rfl,World.ownsRow_nil _ _ _ _,rfl,Lib.hid (by intro i hi; omega),HT.out.1,HT.out.2,HB1.out⟩
 case round =>
  obtain ⟨k,T,zs,hk,rfl,rfl,hown,hzl,HZ,hT0,hT,hb⟩:=hrel
  have HB:=Lib.hid hb
  by_cases hlt:k < n
  · have q2:(k:Int) < (n:Int):=by omega
    obtain ⟨b,o,rfl,h2⟩:=HC.out (by omega)
    have hx:=HF.out k hlt
    have h3:=Bk.kept HB.out (h2 k hlt)
    have hfk:=Lib.hid (show f k = f k from rfl)
    clear h2
    obtain ⟨x,hxx⟩:∃ x,f k = x:=⟨_,rfl⟩
    rw [hxx] at hx h3
    have HXX:=Lib.hid hxx
    clear hxx hfk
    unfold In64 at hx hT
    obtain ⟨m,hm⟩:∃ m:Int,min x T = m:=⟨_,rfl⟩
    have hm2:0≤m∧m≤x∧m≤T:=by omega
    have HM:=Lib.hid hm2
    have hTm:-9223372036854775808≤T - m∧T - m≤9223372036854775807:=by omega
    have hsz:=hb.size
    have hown2:=hown
    clear hb hx hT
    go_wp2_with (at_builtin; with_reducible refine wpList_append_own _ rfl (.tmp 31) (.tmp 33) 70 rfl w.heap.size 2 i0 (.int .i64 0) 1 8 Tryz.underlying70 hi hz0 hz1 hz2 rfl (by decide) _ _ _ rfl (hown2.alloc _) ⟨wr.heap.size,0,none⟩ 1 1 [.int .i64 m] rfl rfl ?c1 ?c2 ?c3 ?c4 ?c5 ?_)
    case c1 => intro x u hx; cases x with | zero => cases hx; rw [WideShapes.add_plain]; exact (cell_of_row _ _ 0 _ _ _ (heap_alloc_new wr (.cells #[.int .i64 m] 2))).trans rfl | succ x => simp at hx
    case c2 => intro u hu; simp at hu; subst hu; rfl
    case c3 => unfold maxLen; omega
    case c4 => omega
    case c5 => simp; omega
    intro v' w2 hown' hgrow _
    have hb3:=(HB.out.alloc hsz (.cells #[.int .i64 m] 2)).grown hgrow (by simp; omega) (fun k hk => own_ge hown2 hk)
    have hrow:w2.ownsRow w.heap.size 2 1 v' (zs ++ [m]).length (ints (zs ++ [m])):=by simpa [ints,hzl] using hown'
    have HR:=Lib.hid hrow
    have HB3:=Lib.hid hb3
    clear hgrow hown' hown2 hown hb3 hrow
    go_wp2
    go_roundw
    case rel => exact ⟨k + 1,T - m,zs ++ [m],by omega,by go_num,rfl,HR.out,by simp; omega,Lib.hid (by
     intro i hi
     by_cases e:i = k
     · subst e
       rw [show (zs ++ [m]).getD i 0 = m by simp [List.getD,hzl]]
       rw [HXX.out]; exact ⟨HM.out.1,HM.out.2.1⟩
     · rw [show (zs ++ [m]).getD i 0 = zs.getD i 0 by simp [List.getD,List.getElem?_append_left (show i < zs.length by omega)]]
       exact HZ.out i (by omega)),by have:=HM.out; omega,hTm,HB3.out⟩
    case measure => simp [intOf]; omega
  · obtain rfl:k = n:=by omega
    clear hb
    have HO:=Lib.hid hown
    clear hown
    have HT2:=Lib.hid (And.intro hT0 hT)
    clear hT0 hT
    go_wp2
    go_ret3
    exact ⟨_,zs,T,rfl,HO.out,hzl,HZ.out,HT2.out.1,HT2.out.2,HB.out⟩
set_option maxRecDepth 100000 in
set_option maxHeartbeats 2000000 in
theorem Bk.fillNo {w:World} {v:Value} {n:Nat} {f:Nat→Int} (h:SlI w v n f) (hn:(n:Int)≤64) (hf:¬ ∀ i,i < n→0≤f i) (tot:Int) (ht0:0≤tot):Calls Tryz.prog 242 #[.int .i64 tot,v] w fun e w' => e = .returned (.tuple #[.slice none 0 0,.int .i64 0,.int .i64 1])∧Below w.heap.size w w':=by
 have HA:=Bk.anyI64 h.slK (by omega) 250 #[] (fun i => decide (f i < 0)) (fun _ _ => by kernel_rfl) (fun i hi wx hbx => Bk.below0 (f i) wx)
 obtain ⟨i,hi⟩:=Classical.not_forall.1 hf
 obtain ⟨hi1,hi2⟩:=Classical.not_imp.1 hi
 rw [anyTo_true hi1 (decide_eq_true (by omega))] at HA
 have HA:=Lib.hid HA
 obtain ⟨a,c,rfl,hc⟩:=h
 have hd:decide (tot < 0) = false:=decide_eq_false (by omega)
 have htz:¬ tot < 0:=by omega
 have hnz:¬ (64:Int) < (n:Int):=by omega
 clear hc hf hi hi1 hi2
 go_enter Tryz.func242,Tryz.ntmps242
 go_wp2_with fail
 refine HA.out.mono ?_
 rintro e w1 ⟨rfl,hb1⟩
 have HB1:=Lib.hid hb1
 clear hb1
 go_wp2
 go_ret3
 exact ⟨rfl,HB1.out⟩
end Go.Proofs.YtgcnnbjbdfgglaaGreat
namespace Go.Proofs.YtgcnnbjbdfgglaaGreat
open Go.RowKit
structure Lh where
  n:Nat
  C:Nat
  x:Nat
  pa:Option Addr
  p:Nat
  pc:Nat
  lb:Nat→Nat
  lc:Nat→Nat
structure LeW (w:World) (h:Lh):Prop where
  n8:h.n≤8
  C1:1≤h.C
  C8:h.C≤8
  c0:w.cell? ⟨h.x,0,none⟩ = some (.slice h.pa h.n h.pc)
  c1:w.cell? ⟨h.x,1,none⟩ = some (.int .i64 h.C)
  pp:0 < h.n→h.pa = some ⟨h.p,0,none⟩
  px:h.n = 0→h.p = h.x
  row:∀ i,i < h.n→w.cell? ⟨h.p,i * 2,none⟩ = some (.slice (some ⟨h.lb i,0,none⟩) h.C (h.lc i))∧∃ b:Bool,w.cell? ⟨h.p,i * 2 + 1,none⟩ = some (.bool b)
  line:∀ i,i < h.n→∀ k,k < h.C→∃ v:Int,In64 v∧w.cell? ⟨h.lb i,k,none⟩ = some (.int .i64 v)
  tx:Ty w h.x 213
  tp:0 < h.n→Ty w h.p 215
  tl:∀ i,i < h.n→Ty w (h.lb i) 2
def Lh.own (h:Lh):Nat→Prop:=fun k => k = h.x∨k = h.p∨∃ i,i < h.n∧k = h.lb i
section
variable {w w':World} {h:Lh}
theorem LeW.ownlt (L:LeW w h):∀ k,h.own k→k < w.heap.size:=by
 rintro k (rfl | rfl | ⟨i,hi,rfl⟩)
 · exact L.tx.lt
 · rcases Nat.eq_zero_or_pos h.n with e | e
   · rw [L.px e]; exact L.tx.lt
   · exact (L.tp e).lt
 · exact (L.tl i hi).lt
theorem LeW.frame {F:Nat→Prop} (L:LeW w h) (k:Kept F w w') (hd:∀ q,h.own q→¬ F q):LeW w' h:=by
 have hx:=hd h.x (Or.inl rfl)
 have hp:=hd h.p (Or.inr (Or.inl rfl))
 have hl:∀ i,i < h.n→¬ F (h.lb i):=fun i hi => hd _ (Or.inr (Or.inr ⟨i,hi,rfl⟩))
 refine ⟨L.n8,L.C1,L.C8,k.cell L.c0 hx,k.cell L.c1 hx,L.pp,L.px,fun i hi => ?_,fun i hi q hq => ?_,L.tx.same (k.block _ L.tx.lt hx),fun hn => (L.tp hn).same (k.block _ (L.tp hn).lt hp),fun i hi => (L.tl i hi).same (k.block _ (L.tl i hi).lt (hl i hi))⟩
 · obtain ⟨a,b,hb⟩:=L.row i hi
   exact ⟨k.cell a hp,b,k.cell hb hp⟩
 · obtain ⟨v,h2,h3⟩:=L.line i hi q hq
   exact ⟨v,h2,k.cell h3 (hl i hi)⟩
theorem LeW.below (L:LeW w h) (hb:Below w.heap.size w w'):LeW w' h:=L.frame (F:=fun _ => False) ⟨hb.os,hb.tape,hb.output,hb.size,fun k hk _ => hb.block k hk⟩ (fun _ _ hf => hf)
theorem LeW.nex (L:LeW w h) (i:Nat) (hi:i < h.n):h.lb i ≠ h.x∧h.lb i ≠ h.p:=⟨(L.tl i hi).ne L.tx (by decide),(L.tl i hi).ne (L.tp (by omega)) (by decide)⟩
theorem LeW.npx (L:LeW w h) (hn:0 < h.n):h.p ≠ h.x:=(L.tp hn).ne L.tx (by decide)
theorem LeW.setline (L:LeW w h) (i k:Nat) (hi:i < h.n) (v:Int) (h6:In64 v):LeW (w.setCell ⟨h.lb i,k,none⟩ (.int .i64 v)) h:=by
 have h1:=L.nex i hi
 refine ⟨L.n8,L.C1,L.C8,(World.cell?_setCell_other _ _ _ _ (by intro e; simp only [Addr.mk.injEq] at e; exact h1.1 e.1)).trans L.c0,(World.cell?_setCell_other _ _ _ _ (by intro e; simp only [Addr.mk.injEq] at e; exact h1.1 e.1)).trans L.c1,L.pp,L.px,fun j hj => ?_,fun j hj q hq => ?_,L.tx.set _ _ _,fun hn => (L.tp hn).set _ _ _,fun j hj => (L.tl j hj).set _ _ _⟩
 · obtain ⟨a,b,hb⟩:=L.row j hj
   exact ⟨(World.cell?_setCell_other _ _ _ _ (by intro e; simp only [Addr.mk.injEq] at e; exact h1.2 e.1)).trans a,b,(World.cell?_setCell_other _ _ _ _ (by intro e; simp only [Addr.mk.injEq] at e; exact h1.2 e.1)).trans hb⟩
 · obtain ⟨u,g2,g3⟩:=L.line j hj q hq
   by_cases e:(⟨h.lb i,k,none⟩:Addr) = ⟨h.lb j,q,none⟩
   · rw [e]; exact ⟨v,h6,World.cell?_setCell_same _ _ _ g3⟩
   · exact ⟨u,g2,(World.cell?_setCell_other _ _ _ _ e).trans g3⟩
theorem LeW.setfail (L:LeW w h) (i:Nat) (hi:i < h.n) (b:Bool):LeW (w.setCell ⟨h.p,i * 2 + 1,none⟩ (.bool b)) h:=by
 have h1:=L.npx (by omega)
 refine ⟨L.n8,L.C1,L.C8,(World.cell?_setCell_other _ _ _ _ (by intro e; simp only [Addr.mk.injEq] at e; exact h1 e.1)).trans L.c0,(World.cell?_setCell_other _ _ _ _ (by intro e; simp only [Addr.mk.injEq] at e; exact h1 e.1)).trans L.c1,L.pp,L.px,fun j hj => ?_,fun j hj q hq => ?_,L.tx.set _ _ _,fun hn => (L.tp hn).set _ _ _,fun j hj => (L.tl j hj).set _ _ _⟩
 · obtain ⟨a,c,hc⟩:=L.row j hj
   refine ⟨(World.cell?_setCell_other _ _ _ _ (by intro e; simp only [Addr.mk.injEq] at e; omega)).trans a,?_⟩
   by_cases e:i = j
   · subst e; exact ⟨b,World.cell?_setCell_same _ _ _ hc⟩
   · exact ⟨c,(World.cell?_setCell_other _ _ _ _ (by intro e'; simp only [Addr.mk.injEq] at e'; omega)).trans hc⟩
 · obtain ⟨u,g2,g3⟩:=L.line j hj q hq
   exact ⟨u,g2,(World.cell?_setCell_other _ _ _ _ (by intro e; simp only [Addr.mk.injEq] at e; exact (L.nex j hj).2 e.1.symm)).trans g3⟩
theorem LeW.drew (L:LeW w h):LeW w.drew h:=⟨L.n8,L.C1,L.C8,L.c0,L.c1,L.pp,L.px,L.row,L.line,L.tx,L.tp,L.tl⟩
end
def inN (n:Nat) (a:Int):Bool:=decide (0≤a∧a < n)
set_option maxRecDepth 100000 in
set_option maxHeartbeats 1000000 in
theorem Bk.le_has {w:World} {h:Lh} (L:LeW w h) (a:Int):Calls Tryz.prog 240 #[.pointer (some ⟨h.x,0,none⟩),.int .i64 a] w fun e w' => e = .returned (.bool (inN h.C a))∧w' = w:=by
 have c1:=L.c1
 unfold inN
 clear L
 by_cases h0:0≤a
 · by_cases h1:a < h.C
   · rw [decide_eq_true (And.intro h0 h1)]
     go_enter Tryz.func240,Tryz.ntmps240
     go_wp2
     go_ret
     exact ⟨rfl,rfl⟩
   · rw [decide_eq_false (fun h => h1 h.2)]
     go_enter Tryz.func240,Tryz.ntmps240
     go_wp2
     go_ret
     exact ⟨rfl,rfl⟩
 · rw [decide_eq_false (fun h => h0 h.1)]
   go_enter Tryz.func240,Tryz.ntmps240
   go_wp2
   go_ret
   exact ⟨rfl,rfl⟩
set_option maxRecDepth 100000 in
set_option maxHeartbeats 1000000 in
theorem Bk.le_known {w:World} {h:Lh} (L:LeW w h) (a:Int):Calls Tryz.prog 193 #[.pointer (some ⟨h.x,0,none⟩),.int .i64 a] w fun e w' => e = .returned (.bool (inN h.n a))∧w' = w:=by
 have c1:=L.c0
 unfold inN
 clear L
 by_cases h0:0≤a
 · by_cases h1:a < h.n
   · rw [decide_eq_true (And.intro h0 h1)]
     go_enter Tryz.func193,Tryz.ntmps193
     go_wp2
     go_ret
     exact ⟨rfl,rfl⟩
   · rw [decide_eq_false (fun h => h1 h.2)]
     go_enter Tryz.func193,Tryz.ntmps193
     go_wp2
     go_ret
     exact ⟨rfl,rfl⟩
 · rw [decide_eq_false (fun h => h0 h.1)]
   go_enter Tryz.func193,Tryz.ntmps193
   go_wp2
   go_ret
   exact ⟨rfl,rfl⟩
def LfPost (w:World) (e:Ending) (w':World):Prop:=∃ v:Int,e = .returned (.int .i64 v)∧In64 v∧Below w.heap.size w w'
set_option maxRecDepth 100000 in
set_option maxHeartbeats 2000000 in
theorem Bk.left {w:World} {h:Lh} (L:LeW w h) (a:Int) (k:Nat) (hk:k < h.C):Calls Tryz.prog 241 #[.pointer (some ⟨h.x,0,none⟩),.int .i64 a,.int .i64 k] w (LfPost w):=by
 have HK:=Lib.hid (Bk.le_known L a)
 have HH:=Bk.le_has L (k:Int)
 rw [show inN h.C (k:Int) = true from decide_eq_true ⟨by omega,by omega⟩] at HH
 have HH:=Lib.hid HH
 by_cases ha:0≤a∧a < h.n
 · rw [show inN h.n a = true from decide_eq_true ha] at HK
   obtain ⟨i,rfl⟩:∃ i:Nat,a = i:=⟨a.toNat,by omega⟩
   have hi:i < h.n:=by omega
   obtain ⟨r0,b,r1⟩:=L.row i hi
   obtain ⟨v,v6,hv⟩:=L.line i hi k hk
   have hpa:=L.pp (by omega)
   have c0:=L.c0
   rw [hpa] at c0
   have HV:=Lib.hid v6
   have q1:(i:Int) < (h.n:Int):=by omega
   have q2:(k:Int) < (h.C:Int):=by omega
   clear L ha hpa v6
   go_enter Tryz.func241,Tryz.ntmps241
   go_wp2_with fail
   refine HK.out.mono ?_
   rintro e w1 ⟨rfl,rfl⟩
   go_wp2_with fail
   refine HH.out.mono ?_
   rintro e w1 ⟨rfl,rfl⟩
   cases b
   · go_wp2
     go_ret
     exact ⟨v,rfl,HV.out,Below.refl _ _⟩
   · go_wp2
     go_ret
     exact ⟨0,rfl,by unfold In64; omega,Below.refl _ _⟩
 · rw [show inN h.n a = false from decide_eq_false ha] at HK
   clear L ha
   go_enter Tryz.func241,Tryz.ntmps241
   go_wp2_with fail
   refine HK.out.mono ?_
   rintro e w1 ⟨rfl,rfl⟩
   go_wp2
   go_ret
   exact ⟨0,rfl,by unfold In64; omega,Below.refl _ _⟩
def LePost (h:Lh) (w:World) (e:Ending) (w':World):Prop:=∃ c:Int,e = .returned (.int .i64 c)∧0≤c∧c≤12∧LeW w' h∧Kept h.own w w'
set_option maxRecDepth 100000 in
set_option maxHeartbeats 2000000 in
theorem Bk.le_fail {w:World} {h:Lh} (L:LeW w h) (a:Int):Calls Tryz.prog 153 #[.pointer (some ⟨h.x,0,none⟩),.int .i64 a] w (LePost h w):=by
 have HK:=Lib.hid (Bk.le_known L a)
 have HL:=Lib.hid L
 by_cases ha:0≤a∧a < h.n
 · rw [show inN h.n a = true from decide_eq_true ha] at HK
   obtain ⟨i,rfl⟩:∃ i:Nat,a = i:=⟨a.toNat,by omega⟩
   have hi:i < h.n:=by omega
   obtain ⟨r0,b,r1⟩:=L.row i hi
   have hpa:=L.pp (by omega)
   have c0:=L.c0
   rw [hpa] at c0
   obtain ⟨cs,htp⟩:=L.tp (by omega)
   have fz:w.frozen? ⟨h.p,i * 2 + 1,none⟩ = false:=frozen_of_row _ _ _ _ _ htp
   have q1:(i:Int) < (h.n:Int):=by omega
   have HI:=Lib.hid hi
   clear L ha hpa htp hi
   go_enter Tryz.func153,Tryz.ntmps153
   go_wp2_with fail
   refine HK.out.mono ?_
   rintro e w1 ⟨rfl,rfl⟩
   cases b
   · go_wp2
     go_ret
     exact ⟨0,rfl,by omega,by omega,HL.out.setfail i HI.out true,(Kept.refl _ _).setCell (Or.inl (Or.inr (Or.inl rfl))) _ _⟩
   · go_wp2
     go_ret
     exact ⟨11,rfl,by omega,by omega,HL.out,Kept.refl _ _⟩
 · rw [show inN h.n a = false from decide_eq_false ha] at HK
   clear L ha
   go_enter Tryz.func153,Tryz.ntmps153
   go_wp2_with fail
   refine HK.out.mono ?_
   rintro e w1 ⟨rfl,rfl⟩
   go_wp2
   go_ret
   exact ⟨5,rfl,by omega,by omega,HL.out,Kept.refl _ _⟩
end Go.Proofs.YtgcnnbjbdfgglaaGreat
