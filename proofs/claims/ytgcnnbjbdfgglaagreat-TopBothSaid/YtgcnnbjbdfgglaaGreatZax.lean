/- LAW TopBoth: of every configuration of a bank and every list of byte strings the given function TopBoth returns true and leaves its arguments as they were; no condition. A part of what it needs. -/
import Derived.Test.YtgcnnbjbdfgglaaGreatZaw
namespace Go.Proofs.YtgcnnbjbdfgglaaGreat
open Go.RowKit
structure Lnn where
  p:Int
  c:Int
  g:Int
  a:Int
  k:Int
def Lnn.cell (x:Lnn):Nat→Value
  | 0 => .int .i64 x.p
  | 1 => .int .i64 x.c
  | 2 => .int .i64 x.g
  | 3 => .int .i64 x.a
  | _ => .int .i64 x.k
def lnC (ls:List Lnn):List Value:=flatK 5 ls.length fun i => (ls.getD i ⟨0,0,0,0,0⟩).cell
theorem lnC_snoc (ls:List Lnn) (x:Lnn):lnC (ls ++ [x]) = lnC ls ++ [.int .i64 x.p,.int .i64 x.c,.int .i64 x.g,.int .i64 x.a,.int .i64 x.k]:=by
 unfold lnC
 rw [show (ls ++ [x]).length = ls.length + 1 by simp,flatK_snoc (by omega)]
 congr 1
 · exact flatK_congr (fun i j hi _ => by simp [List.getD,List.getElem?_append_left hi])
 · simp [List.getD,Lnn.cell,List.range_succ]
def LnsAt (w:World) (v:Value) (ls:List Lnn):Prop:=SlK w v 5 ls.length fun i => (ls.getD i ⟨0,0,0,0,0⟩).cell
theorem lns_of_own {w:World} {B:Nat} {v:Value} {ls:List Lnn} (h:w.ownsRow B 330 5 v ls.length (lnC ls)):LnsAt w v ls:=slK_of_own h
theorem Bk.infoLoan:(Tryz.prog.info? 330).map (fun i => (i.zero,i.size,i.bytes)) = some (some (.agg #[.int .i64 0,.int .i64 0,.int .i64 0,.int .i64 0,.int .i64 0]),5,40):=by kernel_rfl
def Lnn.Ok (x:Lnn):Prop:=In64 x.a∧In64 x.k
def CsPost (n:Nat) (w:World) (e:Ending) (w':World):Prop:=∃ v b ls,e = .returned (.tuple #[v,.bool b])∧w'.ownsRow w.heap.size 330 5 v ls.length (lnC ls)∧ls.length≤n∧(∀ x ∈ ls,Lnn.Ok x)∧Below w.heap.size w w'
set_option maxRecDepth 100000 in
set_option maxHeartbeats 8000000 in
theorem Bk.costs {w:World} {h:Gh} {d:Gd} (a:GuS w h d NoneS) {pv:Value} {ps:List Prt} (hp:PartsAt w pv ps) (hp8:(ps.length:Int)≤100) (hp6:∀ p ∈ ps,In64 p.m) (cur give:Nat) (hc:cur < d.t.n) (hg:give < d.t.n):Calls Tryz.prog 243 #[.pointer (some ⟨h.g,0,none⟩),pv,.int .i64 cur,.int .i64 give] w (CsPost ps.length w):=by
 obtain ⟨i0,hi,hz0,hz1,hz2⟩:=info_parts Bk.infoLoan
 have HIS:=Lib.hid (And.intro hi (And.intro hz0 (And.intro hz1 hz2)))
 clear hi hz0 hz1 hz2
 have HGW:=Lib.hid (fun (W:World) (hb:Below w.heap.size w W) => Bk.gworths (a.below hb))
 have HWT:=Lib.hid (fun (W:World) (hb:Below w.heap.size w W) => Bk.wtable (a.below hb))
 have HGL:=Lib.hid (fun (W:World) (hb:Below w.heap.size w W) => Bk.gledger (a.below hb))
 have HNS:=Lib.hid (fun (W:World) (hb:Below w.heap.size w W) => Bk.nostro (a.below hb).led a.ok.lok (give:Int))
 have HTO:=Lib.hid a.ok.tok
 have HP6:=Lib.hid hp6
 obtain ⟨pa,pc,rfl,hpc⟩:=hp
 have HPC:=Lib.hid hpc
 have HCG:=Lib.hid (And.intro hc hg)
 clear a hp6 hpc hc hg
 go_enter Tryz.func243,Tryz.ntmps243
 go_wp2
 go_loopw [10,11,20] (fun v s i wr => ∃ (k:Nat) (lv:Value) (x:Int) (ls:List Lnn),k≤ps.length∧lv = v∧s = .int .i64 x∧i = .int .i64 k∧Hid (In64 x)∧wr.ownsRow w.heap.size 330 5 lv ls.length (lnC ls)∧ls.length = k∧Hid (∀ x ∈ ls,Lnn.Ok x)∧Hid (Below w.heap.size w wr)) (fun _ _ i _ => ps.length - (intOf i).toNat)
 case atStart => exact ⟨0,_,0,[],by omega,rfl,rfl,rfl,Lib.hid (by unfold In64; omega),World.ownsRow_nil _ _ _ _,rfl,Lib.hid (by simp),Lib.hid (Below.refl _ _)⟩
 case round =>
  obtain ⟨k,lv,x,ls,hk,rfl,rfl,rfl,HX,hown,hll,HL,HB⟩:=hrel
  have HO:=Lib.hid hown
  clear hown
  by_cases hlt:k < ps.length
  · have q2:(k:Int) < (ps.length:Int):=by omega
    obtain ⟨b,o,rfl,h2⟩:=HPC.out (by omega)
    have h0:=h2 k 0 hlt (by omega)
    have h1:=h2 k 1 hlt (by omega)
    have hm6:In64 (ps.getD k ⟨0,0⟩).m:=HP6.out _ (by rw [List.getD_eq_getElem?_getD,List.getElem?_eq_getElem hlt]; exact List.getElem_mem hlt)
    generalize ps.getD k ⟨0,0⟩ = p at *
    have c0:wr.cell? ⟨b,o + k * 2,none⟩ = some (.int .i64 p.a):=Bk.kept HB.out h0
    have c1:wr.cell? ⟨b,o + k * 2 + 1,none⟩ = some (.int .i64 p.m):=by have:=Bk.kept HB.out h1; rw [← Nat.add_assoc] at this; exact this
    have hA:=(Below.refl wr.heap.size wr).alloc (Nat.le_refl _) (.cells #[.int .i64 p.a,.int .i64 p.m] 361)
    have HBW:=Lib.hid (HB.out.alloc HB.out.size (.cells #[.int .i64 p.a,.int .i64 p.m] 361))
    have HOW:=Lib.hid (HO.out.alloc (.cells #[.int .i64 p.a,.int .i64 p.m] 361))
    have HBX:=Lib.hid (Blk.new wr 361 #[.int .i64 p.a,.int .i64 p.m])
    have HM6:=Lib.hid hm6
    clear h2 h0 h1 hA hm6
    go_upto_region 6 with (fail)
    generalize hW:wr.alloc (.cells #[.int .i64 p.a,.int .i64 p.m] 361) = W at *
    clear hW
    generalize wr.heap.size = bx at *
    have b0:W.cell? ⟨bx,0,none⟩ = some (.int .i64 p.a):=(HBX.out.cell 0).trans rfl
    have b1:W.cell? ⟨bx,1,none⟩ = some (.int .i64 p.m):=(HBX.out.cell 1).trans rfl
    clear c0 c1
    have HG1:=Lib.hid (HGW.out W.drew HBW.out.drew)
    have HG2:=Lib.hid (HWT.out W.drew HBW.out.drew)
    go_region_held3 (fun wx => wx.cell? ⟨bx,1,none⟩ = some (.int .i64 p.m)) (first | assumption | exact b1 | exact Bk.kept hb1 b1 | exact Bk.kept hb2 (Bk.kept hb1 b1))
      (first
        | (go_at_call 184; refine HG1.out.mono ?_; rintro e wa ⟨rfl,rfl⟩)
        | (go_at_call 185; refine HG2.out.mono ?_; rintro e wb ⟨tv,rfl,htv,hb1⟩)
        | (go_at_call 264; refine (Bk.change htv HTO.out cur give HCG.out.1 HCG.out.2 p.m HM6.out).mono ?_; rintro e wd ⟨rfl,hb2⟩))
    have hD:=(Below.refl W.heap.size W).drew
    have hall:=(hD.trans (hb1.mono hD.size)).trans (hb2.mono (hD.trans (hb1.mono hD.size)).size)
    have HB4:=Lib.hid (HBW.out.trans (hall.mono HBW.out.size))
    have HO4:=Lib.hid (own_below HOW.out hall)
    have HBX4:=Lib.hid (HBX.out.below hall)
    have h1:=tn_64' (md p.m (d.t.rate cur) (d.t.rate give) true)
    have h2:=te_12 (md p.m (d.t.rate cur) (d.t.rate give) true)
    generalize tn (md p.m (d.t.rate cur) (d.t.rate give) true) = n at *
    generalize te (md p.m (d.t.rate cur) (d.t.rate give) true) = c1 at *
    have HAD:=Lib.hid (fun W => Bk.add x n HX.out h1 W)
    have h3:=tn_64' (x + n)
    have h4:=te_12 (x + n)
    generalize tn (x + n) = y at *
    generalize te (x + n) = c2 at *
    have HN6:=Lib.hid (And.intro h1 h3)
    clear h1 h2 h3 h4 hD hall hb1 hb2 htv b0 b1 HG1 HG2 HBW HOW HBX HO HB
    go_wp2_with fail
    refine (HAD.out _).mono ?_
    rintro e w5 ⟨rfl,rfl⟩
    rcases eqs c1 0 with ⟨a1,a2,a3⟩ | ⟨a1,a2,a3⟩
    · subst a1
      clear a2 a3
      rcases eqs c2 0 with ⟨a1,a2,a3⟩ | ⟨a1,a2,a3⟩
      · subst a1
        clear a2 a3
        have HG3:=Lib.hid (HGL.out w5 HB4.out)
        have HG4:=Lib.hid (HNS.out w5 HB4.out)
        generalize d.L.nostro (give:Int) = z at *
        go_wp2_with fail
        refine HG3.out.mono ?_
        rintro e w6 ⟨rfl,rfl⟩
        go_wp2_with fail
        refine HG4.out.mono ?_
        rintro e w6 ⟨rfl,rfl⟩
        by_cases hyz:z < y
        · have e1:decide (z < y) = true:=decide_eq_true hyz
          go_wp2
          go_ret2
          exact ⟨_,false,[],rfl,World.ownsRow_nil _ _ _ _,by simp,by simp,HB4.out⟩
        · have e1:decide (z < y) = false:=decide_eq_false hyz
          have hsz:=HB4.out.size
          have hown:=HO4.out
          have b0:w6.cell? ⟨bx,0,none⟩ = some (.int .i64 p.a):=(HBX4.out.cell 0).trans rfl
          have b1:w6.cell? ⟨bx,1,none⟩ = some (.int .i64 p.m):=(HBX4.out.cell 1).trans rfl
          go_wp2_with (at_builtin; with_reducible refine wpList_append_own _ rfl (.tmp 56) (.tmp 65) 298 rfl w.heap.size 330 i0 _ 5 40 Tryz.underlying298 HIS.out.1 HIS.out.2.1 HIS.out.2.2.1 HIS.out.2.2.2 rfl (by decide) _ _ _ rfl (hown.alloc _) ⟨w6.heap.size,0,none⟩ 1 1 [.int .i64 p.a,.int .i64 cur,.int .i64 give,.int .i64 p.m,.int .i64 n] rfl rfl ?c1 ?c2 ?c3 ?c4 ?c5 ?_)
          case c1 => intro x' u hx; rw [WideShapes.add_plain]; exact (Blk.new w6 330 #[.int .i64 p.a,.int .i64 cur,.int .i64 give,.int .i64 p.m,.int .i64 n]).range x' u hx
          case c2 => intro u hu; simp at hu; rcases hu with rfl | rfl | rfl | rfl | rfl <;> rfl
          case c3 => unfold maxLen; omega
          case c4 => omega
          case c5 => simp; omega
          intro v' w7 hown' hgrow _
          have hb7:=(HB4.out.alloc hsz (.cells #[.int .i64 p.a,.int .i64 cur,.int .i64 give,.int .i64 p.m,.int .i64 n] 330)).grown hgrow (by simp; omega) (fun q hq => own_ge hown hq)
          have hrow:w7.ownsRow w.heap.size 330 5 v' (ls ++ [(⟨p.a,cur,give,p.m,n⟩:Lnn)]).length (lnC (ls ++ [(⟨p.a,cur,give,p.m,n⟩:Lnn)])):=by
           rw [lnC_snoc,show (ls ++ [(⟨p.a,cur,give,p.m,n⟩:Lnn)]).length = ls.length + 1 by simp,hll]
           exact hown'
          have HR:=Lib.hid hrow
          have HB7:=Lib.hid hb7
          clear hgrow hown' hown hb7 hrow b0 b1
          go_wp2
          go_roundw
          case rel => exact ⟨k + 1,_,y,_,by omega,rfl,rfl,by go_num,Lib.hid HN6.out.2,HR.out,by simp; omega,Lib.hid (by
           intro q hq
           simp only [List.mem_append,List.mem_singleton] at hq
           rcases hq with h | rfl
           · exact HL.out q h
           · exact ⟨HM6.out,HN6.out.1⟩),HB7⟩
          case measure => simp [intOf]; omega
      · have a4:(c2 != 0) = true:=by simpa using a1
        have a5:decide (c2 = 0) = false:=a2
        clear a1
        go_wp2
        go_ret2
        exact ⟨_,false,[],rfl,World.ownsRow_nil _ _ _ _,by simp,by simp,HB4.out⟩
    · have a4:(c1 != 0) = true:=by simpa using a1
      clear a1
      go_wp2
      go_ret2
      exact ⟨_,false,[],rfl,World.ownsRow_nil _ _ _ _,by simp,by simp,HB4.out⟩
  · go_wp2
    go_ret2
    exact ⟨_,true,ls,rfl,HO.out,by omega,HL.out,HB.out⟩
set_option maxRecDepth 100000 in
set_option maxHeartbeats 8000000 in
theorem Bk.loans {w:World} {h:Gh} {d:Gd} (a:GuS w h d NoneS) {pv:Value} {ps:List Prt} (hp:PartsAt w pv ps) (hp8:(ps.length:Int)≤100) (hp6:∀ p ∈ ps,In64 p.m) (cur:Nat) (hc:cur < d.t.n):Calls Tryz.prog 207 #[.pointer (some ⟨h.g,0,none⟩),pv,.int .i64 cur] w (CsPost ps.length w):=by
 have HG:=Lib.hid (Bk.gledger a)
 have HSZ:=Lib.hid (Bk.ledger_size a.led)
 have hcn:=a.ok.c
 have n8:(d.t.n:Int)≤8:=by have:=a.ok.tok.le; omega
 have HCO:=Lib.hid (fun (W:World) (hb:Below w.heap.size w W) (g:Nat) (hg:g < d.t.n) => Bk.costs (a.below hb) (hp.below hb) hp8 hp6 cur g hc hg)
 obtain ⟨pa,pc,rfl,-⟩:=hp
 clear a hp6 hc
 go_enter Tryz.func207,Tryz.ntmps207
 go_wp2_with fail
 refine HG.out.mono ?_
 rintro e w1 ⟨rfl,rfl⟩
 go_wp2_with fail
 refine HSZ.out.mono ?_
 rintro e w2 ⟨rfl,nq,rfl⟩
 have HB2:=Lib.hid (Bk.bdrew (Below.refl w1.heap.size w1) nq)
 generalize w1.drewN nq = w2 at *
 rw [hcn]
 clear HG HSZ
 go_wp2
 go_loopw [20] (fun i wr => ∃ k:Nat,k≤d.t.n∧i = .int .i64 k∧Hid (Below w1.heap.size w1 wr)) (fun i _ => d.t.n - (intOf i).toNat)
 case atStart => exact ⟨0,by omega,rfl,HB2⟩
 case round =>
  clear HB2
  obtain ⟨k,hk,rfl,HB⟩:=hrel
  by_cases hlt:k < d.t.n
  · have q1:(k:Int) < (d.t.n:Int):=by omega
    by_cases hkc:(k:Int) = cur
    · go_wp2
      go_roundw
      case rel => exact ⟨k + 1,by omega,by go_num,HB⟩
      case measure => simp [intOf]; omega
    · have HC:=Lib.hid (HCO.out wr HB.out k hlt)
      have hb0:((k:Int) == cur) = false:=by simpa using hkc
      clear hkc
      go_wp2_with fail
      refine HC.out.mono ?_
      rintro e w3 ⟨lv,b,ls,rfl,how,hll,hok,hb3⟩
      have HB3:=Lib.hid (HB.out.trans (hb3.mono HB.out.size))
      have HO:=Lib.hid (And.intro (own_base how HB.out.size) (And.intro hll hok))
      clear how hll hok hb3
      cases b with
      | true =>
       go_wp2
       go_ret2
       exact ⟨lv,true,ls,rfl,HO.out.1,HO.out.2.1,HO.out.2.2,HB3.out⟩
      | false =>
       go_wp2
       go_roundw
       case rel => exact ⟨k + 1,by omega,by go_num,HB3⟩
       case measure => simp [intOf]; omega
  · go_wp2
    go_ret2
    exact ⟨_,false,[],rfl,World.ownsRow_nil _ _ _ _,by simp,by simp,HB.out⟩
theorem SwapPost.ok {L L':Led} {m g v a b c:Int} (ho:L.Ok) (hno:c ≠ 0→L' = L) (hyes:c = 0→L.has m g = true∧L.has m v = true∧g ≠ v∧1≤a∧1≤b∧b≤L.nos v.toNat∧In64 (L.bal m.toNat g.toNat + a)∧In64 (L.nos g.toNat + a)∧In64 (L.bal m.toNat v.toNat - b) ∧
    L' = (((L.setB m.toNat g.toNat (L.bal m.toNat g.toNat + a)).setN g.toNat (L.nos g.toNat + a)).setB m.toNat v.toNat (L.bal m.toNat v.toNat - b)).setN v.toNat (L.nos v.toNat - b)):L'.Ok:=by
 by_cases hc:c = 0
 · obtain ⟨_,h2,_,_,hb1,hbn,i1,i2,i3,hL⟩:=hyes hc
   subst hL
   have hvn:=Led.has_iff.1 h2
   have h64:=ho.n64 v.toNat (by have:=ho.c8; omega)
   exact Led.ok_setN (Led.ok_setB (Led.ok_setN (Led.ok_setB ho _ _ i1) _ i2) _ _ i3) _ (by unfold In64 at h64 ⊢; omega)
 · rw [hno hc]; exact ho
def NuPost (w:World) (e:Ending) (w':World):Prop:=∃ c:Int,e = .returned (.int .i64 c)∧Below w.heap.size w w'
set_option maxRecDepth 100000 in
set_option maxHeartbeats 8000000 in
theorem Bk.pfits {w:World} {h:Gh} {d:Gd} (a:GuS w h d NoneS) {lv:Value} {ls:List Lnn} (hl:LnsAt w lv ls) (hl8:(ls.length:Int)≤100) (hok:∀ x ∈ ls,Lnn.Ok x) (hs:Int):Calls Tryz.prog 208 #[.pointer (some ⟨h.g,0,none⟩),.int .i64 hs,lv] w (NuPost w):=by
 have HG:=Lib.hid (Bk.gledger a)
 have HTX:=Lib.hid (Bk.ltext a.led a.ok.lok)
 obtain ⟨la,lc,rfl,hlc⟩:=hl
 have HLC:=Lib.hid hlc
 have HOK:=Lib.hid hok
 clear a hlc hok
 go_enter Tryz.func208,Tryz.ntmps208
 go_wp2_with fail
 refine HG.out.mono ?_
 rintro e w1 ⟨rfl,rfl⟩
 go_wp2_with fail
 refine HTX.out.mono ?_
 rintro e w2 ⟨s,rfl,hs2,hb2⟩
 have HRD:=Lib.hid (Bk.lread w2 s hs2)
 have HB2:=Lib.hid hb2
 clear hs2 hb2 HG HTX
 go_wp2_with fail
 refine HRD.out.mono ?_
 rintro e w3 ⟨ov,x,rfl,hx0,hx1,hb3,hokk⟩
 have HB3:=Lib.hid (HB2.out.trans (hb3.mono HB2.out.size))
 have HB2S:=Lib.hid HB2.out.size
 have HOKK:=Lib.hid hokk
 clear hb3 hokk HRD HB2
 rcases eqs x 0 with ⟨a1,a2,a3⟩ | ⟨a1,a2,a3⟩
 · subst a1
   clear a2 a3 hx0 hx1
   obtain ⟨l,r,cap,L,rfl,hl,hlo,hl1,hr1⟩:=HOKK.out rfl
   have HL0:=Lib.hid (And.intro hl hlo)
   have HLG:=Lib.hid (show w1.heap.size≤l by have:=HB2S.out; omega)
   have HRG:=Lib.hid (show w1.heap.size≤r by have:=HB2S.out; omega)
   clear hl hlo hl1 hr1 HOKK
   go_wp2
   go_loopw [8,20] (fun e i wr => ∃ (k:Nat) (c:Int) (L:Led),k≤ls.length∧e = .int .i64 c∧i = .int .i64 k∧Hid (LedAt wr l r cap L∧L.Ok)∧Hid (Below w1.heap.size w1 wr)) (fun _ i _ => ls.length - (intOf i).toNat)
   case atStart => exact ⟨0,0,L,by omega,rfl,rfl,HL0,HB3⟩
   case round =>
    clear HL0 HB3
    obtain ⟨k,c,L,hk,rfl,rfl,HL,HB⟩:=hrel
    by_cases hlt:k < ls.length
    · have q1:(k:Int) < (ls.length:Int):=by omega
      obtain ⟨b,o,rfl,h2⟩:=HLC.out (by omega)
      have h0:=h2 k 0 hlt (by omega)
      have h1:=h2 k 1 hlt (by omega)
      have h3:=h2 k 2 hlt (by omega)
      have h4:=h2 k 3 hlt (by omega)
      have h5:=h2 k 4 hlt (by omega)
      have hm6:=HOK.out (ls.getD k ⟨0,0,0,0,0⟩) (by rw [List.getD_eq_getElem?_getD,List.getElem?_eq_getElem hlt]; exact List.getElem_mem hlt)
      generalize ls.getD k ⟨0,0,0,0,0⟩ = p at *
      have c0:wr.cell? ⟨b,o + k * 5,none⟩ = some (.int .i64 p.p):=Bk.kept HB.out h0
      have c1:wr.cell? ⟨b,o + k * 5 + 1,none⟩ = some (.int .i64 p.c):=by have:=Bk.kept HB.out h1; rw [← Nat.add_assoc] at this; exact this
      have c2:wr.cell? ⟨b,o + k * 5 + 2,none⟩ = some (.int .i64 p.g):=by have:=Bk.kept HB.out h3; rw [← Nat.add_assoc] at this; exact this
      have c3:wr.cell? ⟨b,o + k * 5 + 3,none⟩ = some (.int .i64 p.a):=by have:=Bk.kept HB.out h4; rw [← Nat.add_assoc] at this; exact this
      have c4:wr.cell? ⟨b,o + k * 5 + 4,none⟩ = some (.int .i64 p.k):=by have:=Bk.kept HB.out h5; rw [← Nat.add_assoc] at this; exact this
      have hA:=(Below.refl wr.heap.size wr).alloc (Nat.le_refl _) (.cells #[.int .i64 p.p,.int .i64 p.c,.int .i64 p.g,.int .i64 p.a,.int .i64 p.k] 330)
      have HBW:=Lib.hid (HB.out.alloc HB.out.size (.cells #[.int .i64 p.p,.int .i64 p.c,.int .i64 p.g,.int .i64 p.a,.int .i64 p.k] 330))
      have HLW:=Lib.hid (HL.out.1.below hA)
      have HSW:=Lib.hid (Bk.swap HLW.out HL.out.2 hs p.c p.g p.a p.k hm6.1 hm6.2)
      clear h0 h1 h2 h3 h4 h5 hm6 hA
      rcases eqs c 0 with ⟨a1,a2,a3⟩ | ⟨a1,a2,a3⟩
      · subst a1
        clear a2 a3
        go_wp2_with fail
        refine HSW.out.mono ?_
        rintro e w5 ⟨c5,L5,rfl,hl5,hk5,hno,hyes⟩
        have HB5:=Lib.hid (HBW.out.trans (hk5.below HBW.out.size (fun q hq => by rcases hq with e | e; exact e ▸ HLG.out; exact e ▸ HRG.out)))
        have HL5:=Lib.hid (And.intro hl5 (SwapPost.ok HL.out.2 hno hyes))
        clear hl5 hk5 hno hyes c0 c1 c2 c3 c4
        go_wp2
        go_roundw
        case rel => exact ⟨k + 1,c5,L5,by omega,rfl,by go_num,HL5,HB5⟩
        case measure => simp [intOf]; omega
      · have HL5:=Lib.hid (And.intro HLW.out HL.out.2)
        clear a1
        go_wp2
        go_roundw
        case rel => exact ⟨k + 1,c,L,by omega,rfl,by go_num,HL5,HBW⟩
        case measure => simp [intOf]; omega
    · go_wp2
      go_ret
      exact ⟨c,rfl,HB.out⟩
 · clear a1 HOKK
   go_wp2
   go_loopw [8,20] (fun e i wr => ∃ k:Nat,k≤ls.length∧e = .int .i64 x∧i = .int .i64 k∧Hid (Below w1.heap.size w1 wr)) (fun _ i _ => ls.length - (intOf i).toNat)
   case atStart => exact ⟨0,by omega,rfl,rfl,HB3⟩
   case round =>
    clear HB3
    obtain ⟨k,hk,rfl,rfl,HB⟩:=hrel
    by_cases hlt:k < ls.length
    · have q1:(k:Int) < (ls.length:Int):=by omega
      obtain ⟨b,o,rfl,h2⟩:=HLC.out (by omega)
      have h0:=h2 k 0 hlt (by omega)
      have h1:=h2 k 1 hlt (by omega)
      have h3:=h2 k 2 hlt (by omega)
      have h4:=h2 k 3 hlt (by omega)
      have h5:=h2 k 4 hlt (by omega)
      generalize ls.getD k ⟨0,0,0,0,0⟩ = p at *
      have c0:wr.cell? ⟨b,o + k * 5,none⟩ = some (.int .i64 p.p):=Bk.kept HB.out h0
      have c1:wr.cell? ⟨b,o + k * 5 + 1,none⟩ = some (.int .i64 p.c):=by have:=Bk.kept HB.out h1; rw [← Nat.add_assoc] at this; exact this
      have c2:wr.cell? ⟨b,o + k * 5 + 2,none⟩ = some (.int .i64 p.g):=by have:=Bk.kept HB.out h3; rw [← Nat.add_assoc] at this; exact this
      have c3:wr.cell? ⟨b,o + k * 5 + 3,none⟩ = some (.int .i64 p.a):=by have:=Bk.kept HB.out h4; rw [← Nat.add_assoc] at this; exact this
      have c4:wr.cell? ⟨b,o + k * 5 + 4,none⟩ = some (.int .i64 p.k):=by have:=Bk.kept HB.out h5; rw [← Nat.add_assoc] at this; exact this
      have HBW:=Lib.hid (HB.out.alloc HB.out.size (.cells #[.int .i64 p.p,.int .i64 p.c,.int .i64 p.g,.int .i64 p.a,.int .i64 p.k] 330))
      clear h0 h1 h2 h3 h4 h5
      go_wp2
      go_roundw
      case rel => exact ⟨k + 1,by omega,rfl,by go_num,HBW⟩
      case measure => simp [intOf]; omega
    · go_wp2
      go_ret
      exact ⟨x,rfl,HB.out⟩
end Go.Proofs.YtgcnnbjbdfgglaaGreat
namespace Go.Proofs.YtgcnnbjbdfgglaaGreat
open Go.RowKit
structure GL (w:World) (h:Gh) (d:Gd) (e:Lh):Prop where
  gu:GuS w h d NoneS
  le:LeW w e
  C:e.C = d.t.n
  ap:∀ x,e.own x→¬ h.own d.L.n x
structure StL (w:World) (h:Gh) (w':World) (h':Gh) (n:Nat) (e:Lh):Prop where
  g:(h'.g,h'.l) = (h.g,h.l)
  kept:Kept (fun x => h.own n x∨e.own x) w w'
  own:∀ x,h'.own n x→h.own n x∨w.heap.size≤x
theorem StL.of_below {w w':World} (hb:Below w.heap.size w w') (h:Gh) (n:Nat) (e:Lh):StL w h w' h n e:=⟨rfl,Kept.of_below hb,fun _ h => .inl h⟩
theorem StL.trans {a b c:World} {h h1 h2:Gh} {n:Nat} {e:Lh} (x:StL a h b h1 n e) (y:StL b h1 c h2 n e):StL a h c h2 n e:=by
 refine ⟨y.g.trans x.g,⟨y.kept.os.trans x.kept.os,y.kept.tape.trans x.kept.tape,y.kept.output.trans x.kept.output,Nat.le_trans x.kept.size y.kept.size,fun k hk hn => (y.kept.block k (Nat.lt_of_lt_of_le hk x.kept.size) (fun ho => ?_)).trans (x.kept.block k hk hn)⟩,fun k ho => ?_⟩
 · rcases ho with h1 | h1
   · rcases x.own k h1 with h2 | h2
     · exact hn (.inl h2)
     · omega
   · exact hn (.inr h1)
 · rcases y.own k ho with h1 | h1
   · exact x.own k h1
   · have:=x.kept.size; exact .inr (by omega)
theorem GL.below {w w':World} {h:Gh} {d:Gd} {e:Lh} (p:GL w h d e) (hb:Below w.heap.size w w'):GL w' h d e:=⟨p.gu.below hb,p.le.below hb,p.C,p.ap⟩
theorem GL.gstep {w w':World} {h h':Gh} {d d':Gd} {e:Lh} (p:GL w h d e) (g:GuS w' h' d' NoneS) (s:Step w h w' h' d.L.n) (hn:d'.L.n = d.L.n∧d'.t.n = d.t.n):GL w' h' d' e∧StL w h w' h' d.L.n e :=
 ⟨⟨g,p.le.frame s.kept p.ap,p.C.trans hn.2.symm,fun x hx ho => by
  rw [hn.1] at ho
  rcases s.own x ho with h1 | h1
  · exact p.ap x hx h1
  · have:=p.le.ownlt x hx; omega⟩,s.g,s.kept.mono (fun _ _ h => .inl h),s.own⟩
theorem GL.lstep {w w':World} {h:Gh} {d:Gd} {e:Lh} (p:GL w h d e) (l:LeW w' e) (k:Kept e.own w w'):GL w' h d e∧StL w h w' h d.L.n e :=
 ⟨⟨p.gu.frame (fun x hx => k.block x (p.gu.ownlt hx) (fun hl => p.ap x hl hx)),l,p.C,p.ap⟩,rfl,k.mono (fun _ _ h => .inr h),fun _ h => .inl h⟩
theorem row_stL {w w':World} {h h':Gh} {n B e K m:Nat} {le:Lh} {v:Value} {xs:List Value} (s:StL w h w' h' n le) (hv:w.ownsRow B e K v m xs) (hn:∀ x,v.ownBlock = some x→¬ h.own n x) (hl:∀ x,v.ownBlock = some x→¬ le.own x):w'.ownsRow B e K v m xs∧∀ x,v.ownBlock = some x→¬ h'.own n x :=
 ⟨own_same hv (fun x hx => s.kept.block x (hv.lt x hx).2 (fun ho => by
  rcases ho with h1 | h1
  · exact hn x hx h1
  · exact hl x hx h1)),fun x hx ho => by
  rcases s.own x ho with h1 | h1
  · exact hn x hx h1
  · have:=(hv.lt x hx).2; omega⟩
def PayPost (h:Gh) (d:Gd) (le:Lh) (w:World) (e:Ending) (w':World):Prop:=∃ a n c r d' h',e = .returned (.tuple #[.slice a n c,.int .i64 r])∧GL w' h' d' le∧StL w h w' h' d.L.n le∧(d'.L.n = d.L.n∧d'.t.n = d.t.n)∧Good d'
theorem PayPost.of {h:Gh} {d:Gd} {le:Lh} {w w':World} (p:GL w' h d le) (s:StL w h w' h d.L.n le) (g:Good d) (a:Option Addr) (n c:Nat) (r:Int):PayPost h d le w (.returned (.tuple #[.slice a n c,.int .i64 r])) w':=⟨a,n,c,r,d,h,rfl,p,s,⟨rfl,rfl⟩,g⟩
set_option maxRecDepth 100000 in
theorem Bk.payNone (m n z:Nat) (hm:m < n) (w:World) (hz:w.cell? ⟨z,0,none⟩ = some (.int .i64 n)):Calls Tryz.prog 204 #[.int .i64 m,.pointer (some ⟨z,0,none⟩)] w fun e w' => e = .returned (.bool false)∧w' = w:=by
 have d1:decide ((m:Int) < 0) = false:=decide_eq_false (by omega)
 have d2:decide ((n:Int)≤(m:Int)) = false:=decide_eq_false (by omega)
 go_enter Tryz.func204,Tryz.ntmps204
 have e:decide (n≤m) = false:=decide_eq_false (by omega)
 go_wp2
 go_ret
 exact ⟨rfl,rfl⟩
set_option maxRecDepth 100000 in
set_option maxHeartbeats 16000000 in
theorem Bk.pay {w:World} {h:Gh} {d:Gd} {le:Lh} (p:GL w h d le) (hgood:Good d) (N m c:Nat) (hN:N < d.L.n) (hm:m < N) (hc:c < d.t.n) (x:Int) (hx1:1≤x) (hx:In64 x) :
    Calls Tryz.prog 177 #[.pointer (some ⟨h.g,0,none⟩),.pointer (some ⟨le.x,0,none⟩),.int .i64 N,.int .i64 m,.int .i64 c,.int .i64 x] w (PayPost h d le w):=by
 have eg:=enters_of Tryz.func204 (by kernel_rfl) rfl
 have HP:=Lib.hid p
 have HGD:=Lib.hid hgood
 have HGL:=Lib.hid (Bk.gledger p.gu)
 have HSZ:=Lib.hid (Bk.ledger_size p.gu.led)
 have hcn:=p.gu.ok.c
 have HIX:=Lib.hid (And.intro hN (And.intro hm (And.intro hc (And.intro hx1 hx))))
 have d3:decide ((c:Int) < 0) = false:=decide_eq_false (by omega)
 have d4:decide ((d.t.n:Int)≤(c:Int)) = false:=decide_eq_false (by omega)
 have d4':decide (d.t.n≤c) = false:=decide_eq_false (by omega)
 have d6':decide (N = m) = false:=decide_eq_false (by omega)
 have d5:decide (x < 1) = false:=decide_eq_false (by omega)
 have d6:decide ((N:Int) = (m:Int)) = false:=decide_eq_false (by omega)
 have d7:((N:Int) == (m:Int)) = false:=by simp; omega
 clear p hgood hN hm hc hx
 go_enter Tryz.func177,Tryz.ntmps177
 go_wp2_with fail
 refine HGL.out.mono ?_
 rintro e w1 ⟨rfl,rfl⟩
 go_wp2_with fail
 refine HSZ.out.mono ?_
 rintro e w2 ⟨rfl,nq,rfl⟩
 have HB2:=Lib.hid (Bk.bdrew (Below.refl w1.heap.size w1) nq)
 generalize w1.drewN nq = w2 at *
 rw [hcn]
 have hA:=(Below.refl w2.heap.size w2).alloc (Nat.le_refl _) (.cells #[.int .i64 d.L.n] 3)
 have hz:(w2.alloc (.cells #[.int .i64 d.L.n] 3)).cell? ⟨w2.heap.size,0,none⟩ = some (.int .i64 d.L.n):=(Blk.new w2 3 #[.int .i64 d.L.n]).cell 0
 have HB3:=Lib.hid (HB2.out.alloc HB2.out.size (.cells #[.int .i64 d.L.n] 3))
 have HN1:=Lib.hid (Bk.payNone m d.L.n w2.heap.size (by have:=HIX.out; omega) _ hz)
 have HN2:=Lib.hid (Bk.payNone N d.L.n w2.heap.size HIX.out.1 _ hz)
 clear hA hz HSZ HGL
 go_wp2_with fail
 refine HN1.out.mono ?_
 rintro e w3 ⟨rfl,rfl⟩
 go_wp2_with fail
 refine HN2.out.mono ?_
 rintro e w3 ⟨rfl,rfl⟩
 clear HN1 HN2
 generalize w2.alloc (.cells #[.int .i64 d.L.n] 3) = w3 at *
 have hp3:=HP.out.below HB3.out
 have HGT:=Lib.hid (Bk.get hp3.gu.led hp3.gu.ok.lok (m:Int) (c:Int))
 have HNS:=Lib.hid (fun (W:World) (hb:Below w3.heap.size w3 W) => Bk.nostro (hp3.below hb).gu.led hp3.gu.ok.lok (c:Int))
 have HMA:=Lib.hid (Bk.payMay hp3.gu m c (by have:=HIX.out; omega) x)
 have hnos:d.L.nostro (c:Int) = d.L.nos c:=by
  unfold Led.nostro
  rw [if_pos (Led.has_iff.2 (by have:=hp3.gu.ok.lok.n1; have:=HIX.out.2.2.1; omega))]
  simp
 have hn0:=HGD.out.no c (by have:=HIX.out.2.2.1; omega)
 have hn6:=hp3.gu.ok.lok.n64 c (by have:=hp3.gu.ok.tok.le; have:=HIX.out.2.2.1; omega)
 rw [hnos] at HNS
 have HN6:=Lib.hid (And.intro hn0 hn6)
 have S3:=Lib.hid (StL.of_below HB3.out h d.L.n le)
 have P3:=Lib.hid hp3
 generalize d.L.nos c = y at *
 generalize d.L.get (m:Int) (c:Int) = z at *
 clear hnos hn0 hn6 hp3 HB2
 by_cases hzx:z < x
 · have e1:decide (z < x) = true:=decide_eq_true hzx
   go_wp2_with fail
   refine HGT.out.mono ?_
   rintro e w4 ⟨rfl,rfl⟩
   go_wp2
   go_ret2
   exact PayPost.of P3.out S3.out HGD.out _ _ _ _
 · have e1:decide (z < x) = false:=decide_eq_false hzx
   go_wp2_with fail
   refine HGT.out.mono ?_
   rintro e w4 ⟨rfl,rfl⟩
   go_wp2_with fail
   refine HMA.out.mono ?_
   rintro e w5 ⟨b,rfl,hb5⟩
   have HB5:=Lib.hid hb5
   have P5:=Lib.hid (P3.out.below hb5)
   have S5:=Lib.hid (S3.out.trans (StL.of_below hb5 h d.L.n le))
   clear hb5 HMA HGT
   cases b with
   | false =>
    go_wp2
    go_ret2
    exact PayPost.of P5.out S5.out HGD.out _ _ _ _
   | true =>
    have HN5:=Lib.hid (HNS.out w5 HB5.out)
    go_wp2_with fail
    refine HN5.out.mono ?_
    rintro e w6 ⟨rfl,rfl⟩
    by_cases hyx:x≤y
    · have e2:decide (x≤y) = true:=decide_eq_true hyx
      have HOU:=Lib.hid (Bk.gout P5.out.gu m c (by have:=HIX.out; omega) HIX.out.2.2.1 x hx1 HIX.out.2.2.2.2)
      go_wp2_with fail
      refine HOU.out.mono ?_
      rintro e w7 ⟨r,d7,h7,rfl,hg7,hs7,hsz7,hgd7⟩
      obtain ⟨hp7,hS7⟩:=P5.out.gstep hg7 hs7 hsz7
      have HF:=Lib.hid (show PayPost h d le w1 (.returned (.tuple #[.slice none 0 0,.int .i64 r])) w7 from ⟨_,_,_,r,d7,h7,rfl,hp7,S5.out.trans hS7,hsz7,hgd7 HGD.out⟩)
      clear hg7 hs7 hsz7 hgd7 hp7 hS7
      go_wp2
      go_ret2
      exact HF.out
    · have e2:decide (x≤y) = false:=decide_eq_false hyx
      have HDR:=Lib.hid (Bk.draw P5.out.le c (by rw [P5.out.C]; exact HIX.out.2.2.1) (x - y) (by omega) (by have h1:=HN6.out; have h2:=HIX.out.2.2.2.2; unfold In64 at h2 ⊢; omega))
      have hwr:wrap64 (x - y) = x - y:=Bk.wrap_in (by have h1:=HN6.out; have h2:=HIX.out.2.2.2.2; unfold In64 at h2 ⊢; omega)
      have hy6:y≤9223372036854775807:=HN6.out.2.2
      have hy0:0≤y:=HN6.out.1
      have hx6:x≤9223372036854775807:=HIX.out.2.2.2.2.2
      go_wp2_with fail
      refine HN5.out.mono ?_
      rintro e w6 ⟨rfl,rfl⟩
      go_wp2_with fail
      refine HDR.out.mono ?_
      rintro e w7 ⟨pv,t,r,ps,rfl,ht6,hr0,hr1,hown,hpl,hp6,hle,hk⟩
      obtain ⟨hp7,hS7⟩:=P5.out.lstep hle hk
      have P7:=Lib.hid hp7
      have S7:=Lib.hid (S5.out.trans hS7)
      have HPR7:=Lib.hid hown
      have HPL:=Lib.hid (And.intro hpl hp6)
      have HPN:=Lib.hid (show ∀ q,pv.ownBlock = some q→¬ le.own q from fun q hq ho => by have:=own_ge hown hq; have:=P5.out.le.ownlt q ho; omega)
      have HPG:=Lib.hid (show ∀ q,pv.ownBlock = some q→¬ h.own d.L.n q from fun q hq ho => by have:=own_ge hown hq; have:=P5.out.gu.ownlt ho; omega)
      clear ht6 hr0 hr1 hown hpl hp6 hle hk hp7 hS7 HDR HN5 hwr
      rcases eqs r 0 with ⟨a1,a2,a3⟩ | ⟨a1,a2,a3⟩
      · subst a1
        clear a2 a3
        have HLO:=Lib.hid (Bk.loans P7.out.gu (parts_of_own HPR7.out) (by have:=HPL.out.1; omega) HPL.out.2 c HIX.out.2.2.1)
        go_wp2_with fail
        refine HLO.out.mono ?_
        rintro e w8 ⟨lv,b,ls,rfl,how8,hll,hok,hb8⟩
        have P8:=Lib.hid (P7.out.below hb8)
        have S8:=Lib.hid (S7.out.trans (StL.of_below hb8 h d.L.n le))
        have HPR8:=Lib.hid (own_below HPR7.out hb8)
        have HLW:=Lib.hid how8
        have HLK:=Lib.hid (And.intro hll hok)
        have HLN:=Lib.hid (show ∀ q,lv.ownBlock = some q→¬ h.own d.L.n q from fun q hq ho => by have:=own_ge how8 hq; have:=P7.out.gu.ownlt ho; omega)
        have HLE:=Lib.hid (show ∀ q,lv.ownBlock = some q→¬ le.own q from fun q hq ho => by have:=own_ge how8 hq; have:=P7.out.le.ownlt q ho; omega)
        obtain ⟨la,lc,hlv⟩:∃ la lc,lv = .slice la ls.length lc:=by
         rcases how8.2 with ⟨rfl,e⟩ | ⟨g,cap,cur,rfl,_⟩
         · exact ⟨_,_,by rw [e]⟩
         · exact ⟨_,_,rfl⟩
        subst hlv
        clear how8 hll hok hb8 HLO HPR7 P7 S7
        cases b with
        | false =>
         have HGI:=Lib.hid (Bk.give P8.out.le c (by rw [P8.out.C]; exact HIX.out.2.2.1) (parts_of_own HPR8.out) (by have:=HPL.out.1; omega) HPL.out.2 (fun q hq ho => HPN.out q hq ho))
         go_wp2_with fail
         refine HGI.out.mono ?_
         rintro e w9 ⟨rg,rfl,-,-,hle9,hk9⟩
         obtain ⟨hp9,hS9⟩:=P8.out.lstep hle9 hk9
         have HF:=Lib.hid (fun r => PayPost.of hp9 (S8.out.trans hS9) HGD.out none 0 0 r)
         clear hle9 hk9 hp9 hS9
         go_wp2
         go_ret2
         exact HF.out _
        | true =>
         by_cases ht:t = 0
         · subst ht
           have HFI:=Lib.hid (Bk.pfits P8.out.gu (lns_of_own HLW.out) (by have:=HLK.out.1; have:=HPL.out.1; omega) HLK.out.2 N)
           go_wp2_with fail
           refine HFI.out.mono ?_
           rintro e w9 ⟨r,rfl,hb9⟩
           have P9:=Lib.hid (P8.out.below hb9)
           have S9:=Lib.hid (S8.out.trans (StL.of_below hb9 h d.L.n le))
           have HPR9:=Lib.hid (own_below HPR8.out hb9)
           have HLW9:=Lib.hid (own_below HLW.out hb9)
           clear hb9 HFI HPR8 HLW P8 S8
           rcases eqs r 0 with ⟨a1,a2,a3⟩ | ⟨a1,a2,a3⟩
           · subst a1
             clear a2 a3
             have hll:=HLK.out.1
             have hpl:=HPL.out.1
             go_wp2
             go_loopw [127] (fun i wr => ∃ (k:Nat) (h':Gh) (d':Gd),k≤ls.length∧i = .int .i64 k∧Hid (GL wr h' d' le)∧Hid (StL w1 h wr h' d.L.n le)∧Hid ((d'.L.n = d.L.n∧d'.t.n = d.t.n)∧Good d')∧Hid (wr.ownsRow w7.heap.size 330 5 (.slice la ls.length lc) ls.length (lnC ls)∧∀ q,Value.ownBlock (.slice la ls.length lc) = some q→¬ h'.own d.L.n q)) (fun i _ => ls.length - (intOf i).toNat)
             case atStart => exact ⟨0,h,d,by omega,rfl,P9,S9,Lib.hid ⟨⟨rfl,rfl⟩,HGD.out⟩,Lib.hid ⟨HLW9.out,HLN.out⟩⟩
             case round =>
              clear P9 S9 HLW9
              obtain ⟨k,h',d',hk,rfl,HG,HS,HD,HW⟩:=hrel
              have hgg:=Gh.pg HS.out.g
              by_cases hlt:k < ls.length
              · have q1:(k:Int) < (ls.length:Int):=by omega
                have hsl:LnsAt wr (.slice la ls.length lc) ls:=lns_of_own HW.out.1
                obtain ⟨a',c',he,h2'⟩:=hsl
                obtain ⟨b,o,hab,h2⟩:=h2' (by omega)
                have hla:la = some ⟨b,o,none⟩:=by injection he with e1; rw [e1,hab]
                subst hla
                have h0:=h2 k 0 hlt (by omega)
                have h1:=h2 k 1 hlt (by omega)
                have h3:=h2 k 2 hlt (by omega)
                have h4:=h2 k 3 hlt (by omega)
                have h5:=h2 k 4 hlt (by omega)
                have hm6:=HLK.out.2 (ls.getD k ⟨0,0,0,0,0⟩) (by rw [List.getD_eq_getElem?_getD,List.getElem?_eq_getElem hlt]; exact List.getElem_mem hlt)
                dsimp only at h0 h1 h3 h4 h5
                generalize ls.getD k ⟨0,0,0,0,0⟩ = p at *
                have c0:wr.cell? ⟨b,o + k * 5,none⟩ = some (.int .i64 p.p):=h0
                have c1:wr.cell? ⟨b,o + k * 5 + 1,none⟩ = some (.int .i64 p.c):=by rw [← Nat.add_assoc] at h1; exact h1
                have c2:wr.cell? ⟨b,o + k * 5 + 2,none⟩ = some (.int .i64 p.g):=by rw [← Nat.add_assoc] at h3; exact h3
                have c3:wr.cell? ⟨b,o + k * 5 + 3,none⟩ = some (.int .i64 p.a):=by rw [← Nat.add_assoc] at h4; exact h4
                have c4:wr.cell? ⟨b,o + k * 5 + 4,none⟩ = some (.int .i64 p.k):=by rw [← Nat.add_assoc] at h5; exact h5
                have hA:=(Below.refl wr.heap.size wr).alloc (Nat.le_refl _) (.cells #[.int .i64 p.p,.int .i64 p.c,.int .i64 p.g,.int .i64 p.a,.int .i64 p.k] 330)
                have HG1:=Lib.hid (HG.out.below hA)
                have HS1:=Lib.hid (HS.out.trans (StL.of_below hA h' d.L.n le))
                have HW1:=Lib.hid (And.intro (own_below HW.out.1 hA) HW.out.2)
                have hsw:=Bk.gswap HG1.out.gu N p.c p.g p.a p.k hm6.1 hm6.2
                rw [hgg] at hsw
                have HSW:=Lib.hid hsw
                clear h0 h1 h2 h3 h4 h5 h2' he hab hA hm6 hsw HG HS HW hgg
                go_wp2_with fail
                refine HSW.out.mono ?_
                rintro e wb ⟨r,d8,h8,rfl,hg8,hs8,hsz8,hgd8⟩
                obtain ⟨hp8,hS8⟩:=HG1.out.gstep hg8 hs8 hsz8
                rw [HD.out.1.1] at hS8
                have hrw:=row_stL hS8 HW1.out.1 HW1.out.2 HLE.out
                have HG8:=Lib.hid hp8
                have HS8:=Lib.hid (HS1.out.trans hS8)
                have HD8:=Lib.hid (And.intro (show d8.L.n = d.L.n∧d8.t.n = d.t.n from ⟨hsz8.1.trans HD.out.1.1,hsz8.2.trans HD.out.1.2⟩) (hgd8 HD.out.2))
                have HW8:=Lib.hid hrw
                clear hg8 hs8 hsz8 hgd8 hp8 hS8 hrw c0 c1 c2 c3 c4 HSW
                go_wp2
                go_roundw
                case rel => exact ⟨k + 1,h8,d8,by omega,by go_num,HG8,HS8,HD8,HW8⟩
                case measure => simp [intOf]; omega
              · have hou:=Bk.gout HG.out.gu m c (by rw [HD.out.1.1]; have:=HIX.out; omega) (by rw [HD.out.1.2]; exact HIX.out.2.2.1) x hx1 HIX.out.2.2.2.2
                rw [hgg] at hou
                have HOU:=Lib.hid hou
                clear hou hgg
                go_wp2_with fail
                refine HOU.out.mono ?_
                rintro e wb ⟨r,d8,h8,rfl,hg8,hs8,hsz8,hgd8⟩
                obtain ⟨hp8,hS8⟩:=HG.out.gstep hg8 hs8 hsz8
                rw [HD.out.1.1] at hS8
                have HF:=Lib.hid (show PayPost h d le w1 (.returned (.tuple #[.slice la ls.length lc,.int .i64 r])) wb from ⟨_,_,_,r,d8,h8,rfl,hp8,HS.out.trans hS8,⟨hsz8.1.trans HD.out.1.1,hsz8.2.trans HD.out.1.2⟩,hgd8 HD.out.2⟩)
                clear hg8 hs8 hsz8 hgd8 hp8 hS8
                go_wp2
                go_ret2
                exact HF.out
           · have a4:(r != 0) = true:=by simpa using a1
             clear a1
             have HGI:=Lib.hid (Bk.give P9.out.le c (by rw [P9.out.C]; exact HIX.out.2.2.1) (parts_of_own HPR9.out) (by have:=HPL.out.1; omega) HPL.out.2 (fun q hq ho => HPN.out q hq ho))
             go_wp2_with fail
             refine HGI.out.mono ?_
             rintro e w9 ⟨rg,rfl,-,-,hle9,hk9⟩
             obtain ⟨hp9,hS9⟩:=P9.out.lstep hle9 hk9
             have HF:=Lib.hid (fun r => PayPost.of hp9 (S9.out.trans hS9) HGD.out none 0 0 r)
             clear hle9 hk9 hp9 hS9
             go_wp2
             go_ret2
             exact HF.out _
         · have e3:decide (t = 0) = false:=decide_eq_false ht
           have e4:(t == 0) = false:=by simpa using ht
           clear ht
           have HGI:=Lib.hid (Bk.give P8.out.le c (by rw [P8.out.C]; exact HIX.out.2.2.1) (parts_of_own HPR8.out) (by have:=HPL.out.1; omega) HPL.out.2 (fun q hq ho => HPN.out q hq ho))
           go_wp2_with fail
           refine HGI.out.mono ?_
           rintro e w9 ⟨rg,rfl,-,-,hle9,hk9⟩
           obtain ⟨hp9,hS9⟩:=P8.out.lstep hle9 hk9
           have HF:=Lib.hid (fun r => PayPost.of hp9 (S8.out.trans hS9) HGD.out none 0 0 r)
           clear hle9 hk9 hp9 hS9
           go_wp2
           go_ret2
           exact HF.out _
      · have a4:(r != 0) = true:=by simpa using a1
        clear a1
        go_wp2
        go_ret2
        exact PayPost.of P7.out S7.out HGD.out _ _ _ _
end Go.Proofs.YtgcnnbjbdfgglaaGreat
