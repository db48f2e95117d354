/- LAW TopBoth: of every configuration of a bank and every list of byte strings the given function TopBoth returns true and leaves its arguments as they were; no condition. A part of what it needs. -/
import Derived.Test.YtgcnnbjbdfgglaaGreatZav
import Derived.Deep.CutRange
import Derived.Deep.LoopGhost
import Derived.Deep.AppendLies
namespace Go.Proofs.YtgcnnbjbdfgglaaGreat
open Go.RowKit
set_option maxRecDepth 100000 in
theorem Bk.above1 (x:Int) (w:World):Calls Tryz.prog 217 #[.int .i64 x] w fun e w' => e = .returned (.bool (decide (0 < x)))∧Below w.heap.size w w':=by
 go_enter Tryz.func217,Tryz.ntmps217
 go_wp2
 go_ret
 exact ⟨rfl,Below.refl _ _⟩
def ShrPost (ms:Int→Prop) (w:World) (e:Ending) (w':World):Prop:=∃ sa sn sc v c ps,e = .returned (.tuple #[.slice sa sn sc,v,.int .i64 c])∧0≤c∧c≤12∧w'.ownsRow w.heap.size 69 3 v ps.length (pstC ps)∧ps.length≤16∧(∀ p ∈ ps,In64 p.a∧ms p.m)∧Below w.heap.size w w'
set_option maxRecDepth 100000 in
set_option maxHeartbeats 8000000 in
theorem Bk.share {w:World} {wv bv:Value} {bs:List Int} {N:Nat} {f:Nat→Int} (hw:SlI w wv N f) (hN:(N:Int)≤15) (hf:∀ i,i < N→0≤f i∧f i≤1000) (hb:IdsAt w bv bs) (hbl:bs.length = N) (n:Int) (hn0:0≤n) (hn6:In64 n) (hs:Int):Calls Tryz.prog 186 #[.int .i64 n,wv,.int .i64 hs,bv] w (ShrPost (fun m => m = hs∨m ∈ bs) w):=by
 obtain ⟨i0,hi,hz0,hz1,hz2⟩:=info_parts Bk.infoPosting
 have HIS:=Lib.hid (And.intro hi (And.intro hz0 (And.intro hz1 hz2)))
 clear hi hz0 hz1 hz2
 have HA:=Lib.hid (Bk.anyI64 hw.slK (by omega) 217 #[] (fun i => decide (0 < f i)) (fun _ _ => by kernel_rfl) (fun i hi wx hbx => Bk.above1 (f i) wx))
 have HW:=Lib.hid hw
 obtain ⟨wa,wc0,rfl,-⟩:=hw
 have HBS:=Lib.hid hb
 obtain ⟨ba,bc,rfl,hbc⟩:=hb
 rw [hbl] at hbc HBS ⊢
 have HBC:=Lib.hid hbc
 have HF:=Lib.hid hf
 have HN:=Lib.hid (And.intro hn0 hn6)
 clear hbc hf hn6
 by_cases h0:N = 0
 · subst h0
   go_enter Tryz.func186,Tryz.ntmps186
   go_wp2
   go_ret3
   exact ⟨_,_,_,_,0,[],rfl,by omega,by omega,World.ownsRow_nil _ _ _ _,by simp,by simp,Below.refl _ _⟩
 · have h0z:¬ (N:Int) = 0:=by omega
   have h0b:((N:Int) == 0) = false:=by simpa using h0
   obtain ⟨tb,htb⟩:∃ tb,anyTo (fun i => decide (0 < f i)) N = tb:=⟨_,rfl⟩
   rw [htb] at HA
   have HTB:=Lib.hid htb
   clear htb
   go_enter Tryz.func186,Tryz.ntmps186
   go_wp2_with fail
   refine HA.out.mono ?_
   rintro e w1 ⟨rfl,hb1⟩
   have HB1:=Lib.hid hb1
   clear hb1
   go_upto_if 21 with fail
   go_cut [1] from 16 (fun s wc => ∃ g:Nat→Int,Hid (SlI wc s N g)∧Hid ((∀ i,i < N→0≤g i∧g i≤1000)∧∃ i,i < N∧0 < g i)∧Hid (Below w.heap.size w wc))
   case first =>
    cases tb with
    | true =>
     go_wp2_with fail
     go_meet
     case rel => exact ⟨f,Lib.hid (SlC.below HW.out HB1.out),Lib.hid ⟨HF.out,by
      refine Classical.byContradiction fun hc => ?_
      have:=HTB.out
      rw [anyTo_false.2 (fun i hi => decide_eq_false (fun hp => hc ⟨i,hi,hp⟩))] at this
      cases this⟩,HB1⟩
    | false =>
     have hx:(w1.alloc (.cells #[.int .i64 1] 2)).cell? ⟨w1.heap.size,0,none⟩ = some (.int .i64 1):=by simp
     have HR:=Lib.hid (Bk.repeat1 (c:=1) hx N (by omega) (by omega))
     have HB2:=Lib.hid (HB1.out.alloc HB1.out.size (.cells #[.int .i64 1] 2))
     clear hx
     go_wp2_with fail
     refine HR.out.mono ?_
     rintro e w2 ⟨g,rfl,hg,⟨cur,hg1,hg2⟩,hb2⟩
     have HB3:=Lib.hid (HB2.out.trans (hb2.mono HB2.out.size))
     have HSL:Hid (SlI w2 (.slice (some ⟨g,0,none⟩) N N) N (fun _ => 1)):=Lib.hid ⟨_,_,rfl,fun _ => ⟨g,0,rfl,fun i hi => by
      rw [Nat.zero_add,cell_of_row _ _ _ _ _ _ hg1]
      simpa using hg2 i hi⟩⟩
     clear hg1 hg2 hb2
     go_wp2_with fail
     go_meet
     case rel => exact ⟨_,HSL,Lib.hid ⟨fun i hi => ⟨by omega,by omega⟩,0,by omega,by omega⟩,HB3⟩
   case rest =>
    obtain ⟨g,HSL,HG,HB⟩:=hcut
    have HSH:=Lib.hid (Bk.shares HSL.out hN HG.out.1 HG.out.2 n HN.out.1 HN.out.2)
    clear HSL HG HA HTB
    go_wp2_with fail
    refine HSH.out.mono ?_
    rintro e w3 ⟨gs,cs,rfl,hla,hgs,hb3⟩
    have HLA:=Lib.hid hla
    have HB3:=Lib.hid (HB.out.trans (hb3.mono HB.out.size))
    clear hla hb3
    by_cases hz:n = 0
    · have hzz:(n == 0) = true:=by simpa using hz
      go_wp2
      go_ret3
      exact ⟨_,_,_,_,0,[],rfl,by omega,by omega,World.ownsRow_nil _ _ _ _,by simp,by simp,HB3.out⟩
    · have hzz:(n == 0) = false:=by simpa using hz
      have hzd:decide (n = 0) = false:=decide_eq_false hz
      go_wp2
      go_loopw [13,42] (fun l i wr => ∃ (k:Nat) (lv:Value) (ps:List Pst),k≤N∧lv = l∧i = .int .i64 k∧wr.ownsRow w.heap.size 69 3 lv ps.length (pstC ps)∧ps.length = k∧Hid (∀ p ∈ ps,In64 p.a∧(p.m = hs∨p.m ∈ bs))∧Hid (LineAt wr N gs)∧Hid (Below w.heap.size w wr)) (fun _ i _ => N - (intOf i).toNat)
      case atStart => exact ⟨0,_,[],by omega,rfl,rfl,World.ownsRow_nil _ _ _ _,rfl,Lib.hid (by simp),HLA,HB3⟩
      case round =>
       clear HLA HB3
       obtain ⟨k,lv,ps,hk,rfl,rfl,hown,hpl,HP,HLA,HB3⟩:=hrel
       have HO:=Lib.hid hown
       have hsz:=HB3.out.size
       clear hown
       by_cases hlt:k < N
       · have q2:(k:Int) < (N:Int):=by omega
         obtain ⟨b,o,rfl,hc⟩:=HBC.out (by omega)
         have g1:=Bk.kept HB3.out (hc k hlt)
         have hmem:bs.getD k 0 ∈ bs:=by rw [List.getD_eq_getElem?_getD,List.getElem?_eq_getElem (by omega)]; exact List.getElem_mem (by omega)
         obtain ⟨x,x6,hx⟩:=HLA.out.am k hlt
         generalize bs.getD k 0 = m at *
         have hown2:=HO.out
         go_wp2_with (at_builtin; with_reducible refine wpList_append_own _ rfl (.tmp 47) (.tmp 55) 66 rfl w.heap.size 69 i0 _ 3 24 Tryz.underlying66 HIS.out.1 HIS.out.2.1 HIS.out.2.2.1 HIS.out.2.2.2 rfl (by decide) _ _ _ rfl (hown2.alloc _) ⟨wr.heap.size,0,none⟩ 1 1 [.int .i64 m,.int .i64 0,.int .i64 (wrap64 (-x))] rfl rfl ?c1 ?c2 ?c3 ?c4 ?c5 ?_)
         case c1 => intro x' u hx; rw [WideShapes.add_plain]; exact (Blk.new wr 69 #[.int .i64 m,.int .i64 0,.int .i64 (wrap64 (-x))]).range x' u hx
         case c2 => intro u hu; simp at hu; rcases hu with rfl | rfl | rfl <;> rfl
         case c3 => unfold maxLen; omega
         case c4 => omega
         case c5 => simp; omega
         intro v' w4 hown' hgrow _
         have hLA:=(HLA.out.below ((Below.refl _ _).alloc (Nat.le_refl _) (.cells #[.int .i64 m,.int .i64 0,.int .i64 (wrap64 (-x))] 69))).grown hgrow (fun e => Ty.ne (HLA.out.ty) (own_ty hown2 e.symm) (by decide) rfl)
         have hb4:=(HB3.out.alloc hsz (.cells #[.int .i64 m,.int .i64 0,.int .i64 (wrap64 (-x))] 69)).grown hgrow (by simp; omega) (fun q hq => own_ge hown2 hq)
         have hrow:w4.ownsRow w.heap.size 69 3 v' (ps ++ [(⟨m,0,wrap64 (-x)⟩:Pst)]).length (pstC (ps ++ [(⟨m,0,wrap64 (-x)⟩:Pst)])):=by
          rw [pstC_snoc,show (ps ++ [(⟨m,0,wrap64 (-x)⟩:Pst)]).length = ps.length + 1 by simp,hpl]
          exact hown'
         have HR:=Lib.hid hrow
         have HB4:=Lib.hid hb4
         have HL4:=Lib.hid hLA
         clear hgrow hown' hown2 hb4 hrow hLA
         go_wp2
         go_roundw
         case rel => exact ⟨k + 1,_,_,by omega,rfl,by go_num,HR.out,by simp; omega,Lib.hid (by
          intro p hp
          simp only [List.mem_append,List.mem_singleton] at hp
          rcases hp with h | rfl
          · exact HP.out p h
          · exact ⟨Bk.wrap_64 _,.inr hmem⟩),HL4,HB4⟩
         case measure => simp [intOf]; omega
       · have hown2:=HO.out
         go_wp2_with (at_builtin; with_reducible refine wpList_append_own _ rfl (.tmp 59) (.tmp 63) 66 rfl w.heap.size 69 i0 _ 3 24 Tryz.underlying66 HIS.out.1 HIS.out.2.1 HIS.out.2.2.1 HIS.out.2.2.2 rfl (by decide) _ _ _ rfl (hown2.alloc _) ⟨wr.heap.size,0,none⟩ 1 1 [.int .i64 hs,.int .i64 0,.int .i64 n] rfl rfl ?c1 ?c2 ?c3 ?c4 ?c5 ?_)
         case c1 => intro x' u hx; rw [WideShapes.add_plain]; exact (Blk.new wr 69 #[.int .i64 hs,.int .i64 0,.int .i64 n]).range x' u hx
         case c2 => intro u hu; simp at hu; rcases hu with rfl | rfl | rfl <;> rfl
         case c3 => unfold maxLen; omega
         case c4 => omega
         case c5 => simp; omega
         intro v' w4 hown' hgrow _
         have hb4:=(HB3.out.alloc hsz (.cells #[.int .i64 hs,.int .i64 0,.int .i64 n] 69)).grown hgrow (by simp; omega) (fun q hq => own_ge hown2 hq)
         have hrow:w4.ownsRow w.heap.size 69 3 v' (ps ++ [(⟨hs,0,n⟩:Pst)]).length (pstC (ps ++ [(⟨hs,0,n⟩:Pst)])):=by
          rw [pstC_snoc,show (ps ++ [(⟨hs,0,n⟩:Pst)]).length = ps.length + 1 by simp,hpl]
          exact hown'
         have HR:=Lib.hid hrow
         have HB4:=Lib.hid hb4
         clear hgrow hown' hown2 hb4 hrow
         go_wp2
         go_ret3
         exact ⟨_,_,_,_,0,_,rfl,by omega,by omega,HR.out,by simp; omega,by
          intro p hp
          simp only [List.mem_append,List.mem_singleton] at hp
          rcases hp with h | rfl
          · exact HP.out p h
          · exact ⟨HN.out.2,.inl rfl⟩,HB4.out⟩
end Go.Proofs.YtgcnnbjbdfgglaaGreat
namespace Go.Proofs.YtgcnnbjbdfgglaaGreat
open Go.RowKit
set_option maxRecDepth 100000 in
theorem Bk.gledger {w:World} {h:Gh} {d:Gd} {S:Nat→Prop} (a:GuS w h d S):Calls Tryz.prog 178 #[.pointer (some ⟨h.g,0,none⟩)] w fun e w' => e = .returned (.pointer (some ⟨h.l,0,none⟩))∧w' = w:=by
 have c0:w.cell? ⟨h.g,0,none⟩ = some (.pointer (some ⟨h.l,0,none⟩)):=(a.gu.cell 0).trans rfl
 clear a
 go_enter Tryz.func178,Tryz.ntmps178
 go_wp2
 go_ret
 exact ⟨rfl,rfl⟩
set_option maxRecDepth 100000 in
theorem Bk.gworths {w:World} {h:Gh} {d:Gd} {S:Nat→Prop} (a:GuS w h d S):Calls Tryz.prog 184 #[.pointer (some ⟨h.g,0,none⟩)] w fun e w' => e = .returned (.pointer (some ⟨h.wb,0,none⟩))∧w' = w:=by
 have c0:w.cell? ⟨h.g,1,none⟩ = some (.pointer (some ⟨h.wb,0,none⟩)):=(a.gu.cell 1).trans rfl
 clear a
 go_enter Tryz.func184,Tryz.ntmps184
 go_wp2
 go_ret
 exact ⟨rfl,rfl⟩
def TabPost (t:Rates) (code:Nat→ByteArray) (w:World) (e:Ending) (w':World):Prop:=∃ v,e = .returned v∧SlT w' v t code∧Below w.heap.size w w'
set_option maxRecDepth 100000 in
theorem Bk.wtable {w:World} {h:Gh} {d:Gd} {S:Nat→Prop} (a:GuS w h d S):Calls Tryz.prog 185 #[.pointer (some ⟨h.wb,0,none⟩)] w (TabPost d.t d.code w):=by
 have c0:=a.wor.c0
 have hto:=a.ok.tok
 have HC:=Lib.hid (Bk.cloneCur hto.pos (by have:=hto.le; omega) (a.tab.slK) (fun i j hi hj => by rcases (by omega:j = 0∨j = 1∨j = 2) with rfl | rfl | rfl <;> rfl))
 obtain ⟨tb,o,c,he,-⟩:=a.tab
 rw [he] at c0 HC
 clear a he
 go_enter Tryz.func185,Tryz.ntmps185
 go_wp2_with fail
 refine HC.out.mono ?_
 rintro e w1 ⟨g,cc,rfl,hrow,h1,h2,h3,hb⟩
 have HR:=Lib.hid (SlT.of_row (c:=cc) hrow)
 have HB:=Lib.hid hb
 clear hrow hb
 go_wp2
 go_ret
 exact ⟨_,rfl,HR.out,HB.out⟩
end Go.Proofs.YtgcnnbjbdfgglaaGreat
namespace Go.Proofs.YtgcnnbjbdfgglaaGreat
open Go.RowKit
def SbPost (w:World) (e:Ending) (w':World):Prop:=∃ b:Bool,e = .returned (.bool b)∧Below w.heap.size w w'
set_option maxRecDepth 100000 in
set_option maxHeartbeats 4000000 in
theorem Bk.payMay {w:World} {h:Gh} {d:Gd} (a:GuS w h d NoneS) (m c:Nat) (hm:m < d.L.n) (x:Int):Calls Tryz.prog 205 #[.agg #[.pointer (some ⟨h.g,0,none⟩),.int .i64 m,.int .i64 c],.int .i64 x] w (SbPost w):=by
 have HA:=Lib.hid ((Below.refl w.heap.size w).alloc (Nat.le_refl _) (.cells #[.pointer (some ⟨h.g,0,none⟩),.int .i64 m,.int .i64 c] 321))
 have HG:=Lib.hid (a.below HA.out)
 have HF:=Lib.hid (Bk.flagged HG.out.at m)
 have HM:=Lib.hid hm
 clear a hm
 obtain ⟨fb,hfb⟩:∃ fb,d.flagged m = fb:=⟨_,rfl⟩
 rw [hfb] at HF
 clear hfb
 cases fb with
 | true =>
  go_enter Tryz.func205,Tryz.ntmps205
  go_wp2_with fail
  refine HF.out.mono ?_
  rintro e w1 ⟨rfl,rfl⟩
  go_wp2
  go_ret
  exact ⟨false,rfl,HA.out⟩
 | false =>
  go_enter Tryz.func205,Tryz.ntmps205
  go_wp2_with fail
  refine HF.out.mono ?_
  rintro e w1 ⟨rfl,rfl⟩
  have b0:=(Blk.new w 321 #[.pointer (some ⟨h.g,0,none⟩),.int .i64 m,.int .i64 c]).cell 0
  have b1:=(Blk.new w 321 #[.pointer (some ⟨h.g,0,none⟩),.int .i64 m,.int .i64 c]).cell 1
  have b2:=(Blk.new w 321 #[.pointer (some ⟨h.g,0,none⟩),.int .i64 m,.int .i64 c]).cell 2
  generalize w.alloc (.cells #[.pointer (some ⟨h.g,0,none⟩),.int .i64 m,.int .i64 c] 321) = w1 at *
  have HB:=Lib.hid ((Below.refl w1.heap.size w1).alloc (Nat.le_refl _) (.cells #[.int .i64 m,.int .i64 c,.int .i64 (wrap64 (-x))] 69))
  have HFL:=Lib.hid (Bk.fails (HG.out.below HB.out).at m HM.out _ [⟨m,c,wrap64 (-x)⟩] (one_posting w1 m c (wrap64 (-x))) (by simp) (by simp; exact Bk.wrap_64 _))
  go_wp2_with fail
  refine HFL.out.mono ?_
  rintro e w2 ⟨v,rfl,hb2,-⟩
  have HB2:=Lib.hid (HA.out.trans ((HB.out.trans (hb2.mono HB.out.size)).mono HA.out.size))
  clear hb2
  go_wp2
  go_ret
  exact ⟨_,rfl,HB2.out⟩
def UpPost (M:Int) (w:World) (e:Ending) (w':World):Prop:=∃ x:Int,e = .returned (.int .i64 x)∧0≤x∧x≤M∧Below w.heap.size w w'
set_option maxRecDepth 100000 in
set_option maxHeartbeats 4000000 in
theorem Bk.greatest {w:World} {h:Gh} {d:Gd} (a:GuS w h d NoneS) (m c:Nat) (hm:m < d.L.n) (M:Int) (hM0:0≤M) (hM:In64 M):Calls Tryz.prog 238 #[.int .i64 M,.func (.func 205) #[.agg #[.pointer (some ⟨h.g,0,none⟩),.int .i64 m,.int .i64 c]] #[]] w (UpPost M w):=by
 have eg:=enters_of Tryz.func205 (by kernel_rfl) rfl
 have HP:=Lib.hid (fun (W:World) (hb:Below w.heap.size w W) (x:Int) => Bk.payMay (a.below hb) m c hm x)
 have hM1:M≤9223372036854775807:=hM.2
 clear a hM
 go_enter Tryz.func238,Tryz.ntmps238
 go_wp2
 go_loopg [0,5] M.toNat (fun g vm vl wr => ∃ lo mo:Int,vm = .int .i64 mo∧vl = .int .i64 lo∧0≤lo∧lo≤mo∧mo≤M∧mo - lo≤g∧Hid (Below w.heap.size w wr))
 case atStart => exact ⟨0,M,rfl,rfl,by omega,by omega,by omega,by omega,Lib.hid (Below.refl _ _)⟩
 case round =>
  obtain ⟨lo,mo,rfl,rfl,h1,h2,h3,h4,HB⟩:=hrel
  by_cases hlt:lo < mo
  · go_wp2_with fail
    refine (HP.out wr HB.out _).mono ?_
    rintro e w2 ⟨b,rfl,hb2⟩
    have HB2:=Lib.hid (HB.out.trans (hb2.mono HB.out.size))
    obtain ⟨X,hX⟩:∃ X,lo + (mo - lo) / 2 + (mo - lo) % 2 = X:=⟨_,rfl⟩
    have hX1:lo < X∧X≤mo:=by omega
    rw [hX]
    clear hb2 hX
    cases b with
    | true =>
     go_wp2
     go_roundg ((mo - X).toNat)
     case measure => omega
     case rel => exact ⟨X,mo,rfl,rfl,by omega,by omega,by omega,by omega,HB2⟩
    | false =>
     go_wp2
     go_roundg ((X - 1 - lo).toNat)
     case measure => omega
     case rel => exact ⟨lo,X - 1,rfl,rfl,by omega,by omega,by omega,by omega,HB2⟩
  · go_wp2
    go_ret
    exact ⟨lo,rfl,h1,by omega,HB.out⟩
set_option maxRecDepth 100000 in
set_option maxHeartbeats 4000000 in
theorem Bk.most {w:World} {h:Gh} {d:Gd} (a:GuS w h d NoneS) (m c:Nat) (hm:m < d.L.n) (hc:c < d.t.n):Calls Tryz.prog 202 #[.pointer (some ⟨h.g,0,none⟩),.int .i64 m,.int .i64 c] w (UpPost 9223372036854775807 w):=by
 have HG:=Lib.hid (Bk.gledger a)
 have HSZ:=Lib.hid (Bk.ledger_size a.led)
 have HA:=Lib.hid a
 have HM:=Lib.hid hm
 have hcn:=a.ok.c
 have q1:¬ (m:Int) < 0:=by omega
 have q2:¬ (d.L.n:Int)≤m:=by omega
 have q3:¬ (c:Int) < 0:=by omega
 have q4:¬ (d.L.c:Int)≤c:=by omega
 have d1:decide ((m:Int) < 0) = false:=decide_eq_false q1
 have d2:decide ((d.L.n:Int)≤m) = false:=decide_eq_false q2
 have d3:decide ((c:Int) < 0) = false:=decide_eq_false q3
 have d4:decide ((d.L.c:Int)≤c) = false:=decide_eq_false q4
 clear a hcn hm hc
 go_enter Tryz.func202,Tryz.ntmps202
 go_wp2_with fail
 refine HG.out.mono ?_
 rintro e w1 ⟨rfl,rfl⟩
 go_wp2_with fail
 refine HSZ.out.mono ?_
 rintro e w2 ⟨rfl,nq,rfl⟩
 have HB2:=Lib.hid (Bk.bdrew (Below.refl w1.heap.size w1) nq)
 generalize w1.drewN nq = w2 at *
 have a2:=HA.out.below HB2.out
 have HG2:=Lib.hid (Bk.gledger a2)
 have HGT:=Lib.hid (Bk.get a2.led a2.ok.lok (m:Int) (c:Int))
 have HNS:=Lib.hid (Bk.nostro a2.led a2.ok.lok (c:Int))
 have h6:=Led.get_64 a2.ok.lok (m:Int) (c:Int)
 have h7:In64 (d.L.nostro (c:Int)):=by
  unfold Led.nostro
  split
  · rename_i h
    obtain ⟨h1,h2,h3,h4⟩:=Led.has_iff.1 h
    exact a2.ok.lok.n64 _ (by have:=a2.ok.lok.c8; omega)
  · unfold In64; omega
 have HGR:=Lib.hid (fun (M:Int) (h0:0≤M) (hM:In64 M) => Bk.greatest a2 m c HM.out M h0 hM)
 generalize d.L.get (m:Int) (c:Int) = x at *
 generalize d.L.nostro (c:Int) = y at *
 have H6:=Lib.hid (And.intro h6 h7)
 clear a2 h6 h7
 go_wp2_with fail
 refine HG2.out.mono ?_
 rintro e w3 ⟨rfl,rfl⟩
 go_wp2_with fail
 refine HGT.out.mono ?_
 rintro e w3 ⟨rfl,rfl⟩
 go_wp2_with fail
 refine HNS.out.mono ?_
 rintro e w3 ⟨rfl,rfl⟩
 have fin:∀ z:Int,z≤9223372036854775807→∀ e w',UpPost z w3 e w'→UpPost 9223372036854775807 w1 e w':=fun z hz e w' ⟨u,he,h0,h1,hb⟩ => ⟨u,he,h0,by omega,HB2.out.trans (hb.mono HB2.out.size)⟩
 have FIN:=Lib.hid fin
 clear fin
 have hz:0≤max (min x y) 0∧max (min x y) 0≤9223372036854775807:=by have h1:=H6.out.1; have h2:=H6.out.2; unfold In64 at h1 h2; omega
 have HC:=Lib.hid (HGR.out (max (min x y) 0) hz.1 (by unfold In64; omega))
 have HZ:=Lib.hid hz
 clear hz HGR
 go_wp2_with fail
 refine HC.out.mono ?_
 rintro e w4 ⟨u,rfl,hu0,hu1,hb4⟩
 have HU:=Lib.hid (FIN.out _ HZ.out.2 _ _ ⟨u,rfl,hu0,hu1,hb4⟩)
 clear hb4
 go_wp2
 go_ret
 exact HU.out
end Go.Proofs.YtgcnnbjbdfgglaaGreat
namespace Go.Proofs.YtgcnnbjbdfgglaaGreat
open Go.RowKit
theorem row_step {w w':World} {h h':Gh} {n B e K m:Nat} {v:Value} {xs:List Value} (s:Step w h w' h' n) (hv:w.ownsRow B e K v m xs) (hn:∀ x,v.ownBlock = some x→¬ h.own n x):w'.ownsRow B e K v m xs∧∀ x,v.ownBlock = some x→¬ h'.own n x :=
 ⟨own_same hv (fun x hx => s.kept.block x (hv.lt x hx).2 (hn x hx)),fun x hx ho => by
  rcases s.own x ho with h1 | h1
  · exact hn x hx h1
  · have:=(hv.lt x hx).2; omega⟩
theorem GuS.grown {w w':World} {h:Gh} {d:Gd} {S:Nat→Prop} {row:Option Nat} (a:GuS w h d S) (hg:w.grownBy w' row) (hr:∀ q,row = some q→¬ h.own d.L.n q):GuS w' h d S :=
 a.frame (fun q hq => hg.block q (a.ownlt hq) (fun e => hr q e.symm hq))
theorem Step.grown {w a b:World} {h h':Gh} {n:Nat} {row:Option Nat} (s:Step w h a h' n) (hg:a.grownBy b row) (hr:∀ q,row = some q→w.heap.size≤q):Step w h b h' n :=
 ⟨s.g,⟨hg.os.trans s.kept.os,hg.tape.trans s.kept.tape,hg.output.trans s.kept.output,Nat.le_trans s.kept.size hg.size,fun q hq hn => (hg.block q (Nat.lt_of_lt_of_le hq s.kept.size) (fun e => by have:=hr q e.symm; omega)).trans (s.kept.block q hq hn)⟩,s.own⟩
theorem Bk.infoPaid:(Tryz.prog.info? 319).map (fun i => (i.zero,i.size,i.bytes)) = some (some (.agg #[.int .i64 0,.int .i64 0,.int .i64 0]),3,24):=by kernel_rfl
structure RoS (w0:World) (h0:Gh) (d0:Gd) (w:World) (h:Gh) (d:Gd) (v:Value) (j:Nat):Prop where
  gu:GuS w h d NoneS
  st:Step w0 h0 w h d0.L.n
  sz:d.L.n = d0.L.n∧d.t.n = d0.t.n
  good:Good d0→Good d
  row:∃ xs,w.ownsRow w0.heap.size 319 3 v j xs
  no:∀ x,v.ownBlock = some x→¬ h.own d0.L.n x
def RoPost (h:Gh) (d:Gd) (w:World) (e:Ending) (w':World):Prop:=∃ a j c d' h',e = .returned (.slice a j c)∧j≤200∧GuS w' h' d' NoneS∧Step w h w' h' d.L.n∧(d'.L.n = d.L.n∧d'.t.n = d.t.n)∧(Good d→Good d')
set_option maxRecDepth 100000 in
set_option maxHeartbeats 8000000 in
theorem Bk.round {w:World} {h:Gh} {d:Gd} (a:GuS w h d NoneS) (N:Nat) (hN:N≤d.L.n):Calls Tryz.prog 176 #[.pointer (some ⟨h.g,0,none⟩),.int .i64 N] w (RoPost h d w):=by
 obtain ⟨i0,hi,hz0,hz1,hz2⟩:=info_parts Bk.infoPaid
 have HIS:=Lib.hid (And.intro hi (And.intro hz0 (And.intro hz1 hz2)))
 clear hi hz0 hz1 hz2
 have HG:=Lib.hid (Bk.gledger a)
 have HSZ:=Lib.hid (Bk.ledger_size a.led)
 have HA:=Lib.hid a
 have hcn:=a.ok.c
 have n8:=a.ok.tok.le
 have n16:=a.ok.lok.n16
 have q1:¬ (d.L.n:Int) < N:=by omega
 have q2:¬ (N:Int) < 0:=by omega
 have q3:(N:Int)≤16:=by omega
 have q4:(d.t.n:Int)≤8:=by omega
 have hmx:max (min (N:Int) (d.L.n:Int)) 0 = N:=by omega
 have HQ:=Lib.hid (And.intro hN (And.intro n8 n16))
 clear a hN n8 n16
 go_enter Tryz.func176,Tryz.ntmps176
 go_wp2_with fail
 refine HG.out.mono ?_
 rintro e w1 ⟨rfl,rfl⟩
 go_wp2_with fail
 refine HSZ.out.mono ?_
 rintro e w2 ⟨rfl,nq,rfl⟩
 have HB2:=Lib.hid (Bk.bdrew (Below.refl w1.heap.size w1) nq)
 generalize w1.drewN nq = w2 at *
 rw [hcn]
 have HR0:=Lib.hid (RoS.mk (HA.out.below HB2.out) (Step.of_below HB2.out h d.L.n) ⟨rfl,rfl⟩ id ⟨_,World.ownsRow_nil _ _ _ _⟩ (by simp [Value.ownBlock]):RoS w1 h d w2 h d (.slice none 0 0) 0)
 clear HSZ HG
 go_wp2
 go_loopw [5,21] (fun v i wr => ∃ (k j:Nat) (lv:Value) (h':Gh) (d':Gd),k≤N∧lv = v∧i = .int .i64 k∧j≤k * 8∧Hid (RoS w1 h d wr h' d' lv j)) (fun _ i _ => N - (intOf i).toNat)
 case atStart => exact ⟨0,0,_,h,d,by omega,rfl,rfl,by omega,HR0⟩
 case round =>
  clear HR0
  obtain ⟨k,j,lv,h',d',hk,rfl,rfl,hj,HR⟩:=hrel
  by_cases hlt:k < N
  · have q5:(k:Int) < (N:Int):=by omega
    have HKK:=Lib.hid hlt
    go_wp2
    go_loopw [5,25] (fun v i wr => ∃ (c j:Nat) (lv:Value) (h':Gh) (d':Gd),c≤d.t.n∧lv = v∧i = .int .i64 c∧j≤k * 8 + c∧Hid (RoS w1 h d wr h' d' lv j)) (fun _ i _ => d.t.n - (intOf i).toNat)
    case atStart => exact ⟨0,j,_,h',d',by omega,rfl,rfl,by omega,HR⟩
    case round =>
     clear HR hj
     obtain ⟨c,j,lv,h',d',hc,rfl,rfl,hj,HR⟩:=hrel
     by_cases hlc:c < d.t.n
     · have q6:(c:Int) < (d.t.n:Int):=by omega
       have hgg:=Gh.pg HR.out.st.g
       have hmo:=Bk.most HR.out.gu k c (by rw [HR.out.sz.1]; have:=HQ.out.1; omega) (by rw [HR.out.sz.2]; exact hlc)
       rw [hgg] at hmo
       have HMO:=Lib.hid hmo
       have HGG:=Lib.hid hgg
       clear hmo hgg
       go_wp2_with fail
       refine HMO.out.mono ?_
       rintro e w3 ⟨x,rfl,hx0,hx1,hb3⟩
       have HR3:=Lib.hid (show RoS w1 h d w3 h' d' lv j from ⟨HR.out.gu.below hb3,HR.out.st.below hb3,HR.out.sz,HR.out.good,by obtain ⟨xs,hx⟩:=HR.out.row; exact ⟨xs,own_below hx hb3⟩,HR.out.no⟩)
       clear hb3 HMO HR
       by_cases hxp:0 < x
       · have e1:decide (0 < x) = true:=decide_eq_true hxp
         have hou:=Bk.gout HR3.out.gu k c (by rw [HR3.out.sz.1]; have:=HQ.out.1; omega) (by rw [HR3.out.sz.2]; exact hlc) x (by omega) (by unfold In64; omega)
         rw [HGG.out] at hou
         have HOU:=Lib.hid hou
         have HX6:=Lib.hid (show x≤9223372036854775807 from hx1)
         clear hou hxp hx0 hx1
         go_wp2_with fail
         refine HOU.out.mono ?_
         rintro e w4 ⟨r,d4,h4,rfl,hg4,hs4,hsz4,hgd4⟩
         have HR4:=Lib.hid (show RoS w1 h d w4 h4 d4 lv j by
          rw [HR3.out.sz.1] at hs4
          obtain ⟨xs,hx⟩:=HR3.out.row
          have hr:=row_step hs4 hx HR3.out.no
          exact ⟨hg4,HR3.out.st.trans hs4,⟨hsz4.1.trans HR3.out.sz.1,hsz4.2.trans HR3.out.sz.2⟩,fun g => hgd4 (HR3.out.good g),⟨xs,hr.1⟩,hr.2⟩)
         clear hg4 hs4 hsz4 hgd4 HOU HR3
         rcases eqs r 0 with ⟨a1,a2,a3⟩ | ⟨a1,a2,a3⟩
         · subst a1
           clear a2 a3
           obtain ⟨xs,hown⟩:=HR4.out.row
           have hsz:=HR4.out.st.kept.size
           go_wp2_with (at_builtin; with_reducible refine wpList_append_lies _ rfl (.tmp 42) (.tmp 47) 296 rfl w1.heap.size 319 i0 _ 3 24 Tryz.underlying296 HIS.out.1 HIS.out.2.1 HIS.out.2.2.1 HIS.out.2.2.2 rfl (by decide) _ _ _ rfl (hown.alloc _) ⟨w4.heap.size,0,none⟩ 1 1 [.int .i64 k,.int .i64 c,.int .i64 x] rfl rfl ?c1 ?c2 (by decide) ?c3 ?c4 ?c5 _ rfl ?_)
           case c1 => intro x' u hx; rw [WideShapes.add_plain]; exact (Blk.new w4 319 #[.int .i64 k,.int .i64 c,.int .i64 x]).range x' u hx
           case c2 => intro u hu; simp at hu; rcases hu with rfl | rfl | rfl <;> rfl
           case c3 => unfold maxLen; omega
           case c4 => omega
           case c5 => simp; omega
           intro gg cg w5 hown' hgrow hat hlt5
           have hA:=(Below.refl w4.heap.size w4).alloc (Nat.le_refl _) (.cells #[.int .i64 k,.int .i64 c,.int .i64 x] 319)
           have HR5:=Lib.hid (show RoS w1 h d w5 h4 d4 (.slice (some ⟨gg,0,none⟩) (j + 1) cg) (j + 1) by
            have hn:=HR4.out.sz.1
            refine ⟨(HR4.out.gu.below hA).grown hgrow (fun q hq => by rw [hn]; exact HR4.out.no q hq),(HR4.out.st.below hA).grown hgrow (fun q hq => own_ge hown hq),HR4.out.sz,HR4.out.good,⟨_,hown'⟩,fun q hq ho => ?_⟩
            have e:gg = q:=by simpa [Value.ownBlock] using hq
            subst e
            have h5:=HR4.out.gu.ownlt (k:=gg) (by rw [hn]; exact ho)
            rcases hat with h1 | h1
            · exact HR4.out.no _ h1 ho
            · omega)
           clear hgrow hown' hown hA HR4 hat hlt5
           go_wp2
           go_roundw
           case rel => exact ⟨c + 1,j + 1,_,h4,d4,by omega,rfl,by go_num,by omega,HR5⟩
           case measure => simp [intOf]; omega
         · have a4:(r == 0) = false:=a3
           clear a1
           go_wp2
           go_roundw
           case rel => exact ⟨c + 1,j,lv,h4,d4,by omega,rfl,by go_num,by omega,HR4⟩
           case measure => simp [intOf]; omega
       · have e1:decide (0 < x) = false:=decide_eq_false hxp
         clear hxp
         go_wp2
         go_roundw
         case rel => exact ⟨c + 1,j,lv,h',d',by omega,rfl,by go_num,by omega,HR3⟩
         case measure => simp [intOf]; omega
     · go_wp2
       go_roundw
       case rel => exact ⟨k + 1,j,lv,h',d',by omega,rfl,by go_num,by have:=HQ.out.2.1; omega,HR⟩
       case measure => simp [intOf]; omega
  · obtain ⟨xs,hown⟩:=HR.out.row
    obtain ⟨ga,gc,rfl⟩:∃ ga gc,lv = .slice ga j gc:=by
     rcases hown.2 with ⟨rfl,e⟩ | ⟨g,cap,cur,rfl,_⟩
     · exact ⟨_,_,by rw [e]⟩
     · exact ⟨_,_,rfl⟩
    clear hown
    go_wp2
    go_ret
    exact ⟨ga,j,gc,d',h',rfl,by omega,HR.out.gu,HR.out.st,HR.out.sz,HR.out.good⟩
end Go.Proofs.YtgcnnbjbdfgglaaGreat
namespace Go.Proofs.YtgcnnbjbdfgglaaGreat
open Go.RowKit
def phaseI (cut close now:Int):Int:=if now < cut then 0 else if now < close then 1 else 2
set_option maxRecDepth 100000 in
set_option maxHeartbeats 1000000 in
theorem Bk.phaseD (cut close:Int) (dv:Value) (now:Int) (w:World):Calls Tryz.prog 103 #[.agg #[.int .i64 cut,.int .i64 close,dv],.int .i64 now] w fun e w' => e = .returned (.int .i64 (phaseI cut close now))∧Below w.heap.size w w':=by
 have HB:=Lib.hid ((Below.refl w.heap.size w).alloc (Nat.le_refl _) (.cells #[.int .i64 cut,.int .i64 close,dv] 27))
 unfold phaseI
 by_cases ha:now < cut
 · rw [if_pos ha]
   go_enter Tryz.func103,Tryz.ntmps103
   go_wp2
   go_ret
   exact ⟨rfl,HB.out⟩
 · rw [if_neg ha]
   by_cases hb:now < close
   · rw [if_pos hb]
     go_enter Tryz.func103,Tryz.ntmps103
     go_wp2
     go_ret
     exact ⟨rfl,HB.out⟩
   · rw [if_neg hb]
     go_enter Tryz.func103,Tryz.ntmps103
     go_wp2
     go_ret
     exact ⟨rfl,HB.out⟩
def mayD (ph kind:Int):Bool:=(decide (kind = 4∨kind = 9) && decide (ph = 2)) || (decide (kind = 2∨kind = 3∨kind = 4∨kind = 5∨kind = 6∨kind = 7∨kind = 8∨kind = 9) && decide (ph = 1)) || (decide (1≤kind∧kind≤9) && decide (ph = 0))
set_option maxRecDepth 100000 in
set_option maxHeartbeats 4000000 in
theorem Bk.mayDay (ph kind:Int) (hp:ph = 0∨ph = 1∨ph = 2) (hk:1≤kind∧kind≤9) (w:World):Calls Tryz.prog 56 #[.int .i64 ph,.int .i64 kind] w fun e w' => e = .returned (.bool (mayD ph kind))∧w' = w:=by
 have hk':kind = 1∨kind = 2∨kind = 3∨kind = 4∨kind = 5∨kind = 6∨kind = 7∨kind = 8∨kind = 9:=by omega
 clear hk
 rcases hp with rfl | rfl | rfl <;> rcases hk' with rfl | rfl | rfl | rfl | rfl | rfl | rfl | rfl | rfl
 all_goals
   go_enter Tryz.func56,Tryz.ntmps56
   go_wp2
   go_ret
   exact ⟨rfl,rfl⟩
end Go.Proofs.YtgcnnbjbdfgglaaGreat
