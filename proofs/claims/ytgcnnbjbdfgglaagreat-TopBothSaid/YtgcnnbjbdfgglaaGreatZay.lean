/- LAW TopBoth: of every configuration of a bank and every list of byte strings the given function TopBoth returns true and leaves its arguments as they were; no condition. A part of what it needs. -/
import Derived.Test.YtgcnnbjbdfgglaaGreatZap
import Derived.RangeFuncNested
import Derived.RangeFuncBound
import Derived.RangeFuncCalls
import Derived.RangeFuncLeaves
import Derived.Shelf.Abstract
import Derived.Shelf.RegionOpen
import Derived.OwnWalkIn
import Derived.TacticsInMore
import Derived.LoopNIn
import Derived.LoopIn
import Derived.RangeFuncBox
namespace Go.Proofs.YtgcnnbjbdfgglaaGreat
open Go.RowKit Go.Shelf
attribute [local go_sem] Oper.semAt_some
structure Caller (C:List Int→(Nat→Prop)→World→Prop):Prop where
  lt:∀ pre R W,C pre R W→∀ x,R x→x < W.heap.size
  keep:∀ pre R W W',C pre R W→(∀ x,R x→W'.heap[x]? = W.heap[x]?)→W.heap.size≤W'.heap.size→C pre R W'
structure Passed (C:List Int→(Nat→Prop)→World→Prop) (w:World) (h:Gh) (d:Gd) (k:Bh) (B:Bo) (R0:Nat→Prop) (w':World) (pre:List Int) (R:Nat→Prop) (h':Gh) (d':Gd) (k':Bh) (B':Bo):Prop where
  own:C pre R w'
  ps:PS w' h' d' k' B'
  apart:∀ x,own2 h' k' d.L.n x→¬ R x
  g:(h'.g,h'.l) = (h.g,h.l)
  b:k'.b = k.b
  kept:Kept (fun x => own2 h k d.L.n x∨R0 x) w w'
  onew:∀ x,own2 h' k' d.L.n x→own2 h k d.L.n x∨w.heap.size≤x
  rnew:∀ x,R x→R0 x∨w.heap.size≤x
  sz:d'.L.n = d.L.n∧d'.t.n = d.t.n
  good:Good d→Good d'
  step:BoStep B B' (fun _ => False)
  bn:B'.n = B.n
theorem Passed.safe {C:List Int→(Nat→Prop)→World→Prop} {w:World} {h:Gh} {d:Gd} {k:Bh} {B:Bo} {R0:Nat→Prop} {w':World} {pre:List Int} {R:Nat→Prop} {h':Gh} {d':Gd} {k':Bh} {B':Bo} (P:Passed C w h d k B R0 w' pre R h' d' k' B') {x:Nat} (hx:x < w.heap.size) (h1:¬ own2 h k d.L.n x) (h2:¬ R0 x):¬ own2 h' k' d.L.n x∧¬ R x :=
 ⟨fun ho => by rcases P.onew x ho with e | e; exact h1 e; omega,fun hr => by rcases P.rnew x hr with e | e; exact h2 e; omega⟩
theorem Passed.start {C:List Int→(Nat→Prop)→World→Prop} {w:World} {h:Gh} {d:Gd} {k:Bh} {B:Bo} {R0:Nat→Prop} (p:PS w h d k B) (h0:C [] R0 w) (hap:∀ x,own2 h k d.L.n x→¬ R0 x):Passed C w h d k B R0 w [] R0 h d k B :=
 ⟨h0,p,hap,rfl,rfl,Kept.refl _ _,fun _ hx => .inl hx,fun _ hx => .inl hx,⟨rfl,rfl⟩,id,BoStep.refl B _,rfl⟩
theorem Passed.tried {C:List Int→(Nat→Prop)→World→Prop} (hC:Caller C) {w:World} {h:Gh} {d:Gd} {k:Bh} {B:Bo} {R0:Nat→Prop} {w':World} {pre:List Int} {R:Nat→Prop} {h':Gh} {d':Gd} {k':Bh} {B':Bo} (P:Passed C w h d k B R0 w' pre R h' d' k' B') {w2:World} {h2:Gh} {d2:Gd} {k2:Bh} {B2:Bo}
    (p2:PS w2 h2 d2 k2 B2) (s2:Step2 w' h' k' w2 h2 k2 d'.L.n) (hsz:d2.L.n = d'.L.n∧d2.t.n = d'.t.n) (hg:Good d'→Good d2) (hs:BoStep B' B2 (fun _ => False)) (hn:B2.n = B'.n):Passed C w h d k B R0 w2 pre R h2 d2 k2 B2:=by
 rw [P.sz.1] at s2
 refine ⟨hC.keep pre R w' w2 P.own (fun x hx => s2.kept.block x (hC.lt _ _ _ P.own x hx) (fun ho => P.apart x ho hx)) s2.kept.size,p2,fun x hx hr => ?_,s2.g.trans P.g,s2.b.trans P.b,?_,fun x hx => ?_,P.rnew,⟨hsz.1.trans P.sz.1,hsz.2.trans P.sz.2⟩,fun e => hg (P.good e),P.step.trans hs,hn.trans P.bn⟩
 · rcases s2.own x hx with e | e
   · exact P.apart x e hr
   · have:=hC.lt _ _ _ P.own x hr; omega
 · refine ⟨s2.kept.os.trans P.kept.os,s2.kept.tape.trans P.kept.tape,s2.kept.output.trans P.kept.output,Nat.le_trans P.kept.size s2.kept.size,fun x hx hno => ?_⟩
   refine (s2.kept.block x (Nat.lt_of_lt_of_le hx P.kept.size) (fun ho => ?_)).trans (P.kept.block x hx hno)
   exact (P.safe hx (fun e => hno (.inl e)) (fun e => hno (.inr e))).1 ho
 · rcases s2.own x hx with e | e
   · exact P.onew x e
   · exact .inr (Nat.le_trans P.kept.size e)
theorem Passed.bodied {C:List Int→(Nat→Prop)→World→Prop} {w:World} {h:Gh} {d:Gd} {k:Bh} {B:Bo} {R0:Nat→Prop} {w':World} {pre:List Int} {R:Nat→Prop} {h':Gh} {d':Gd} {k':Bh} {B':Bo} (P:Passed C w h d k B R0 w' pre R h' d' k' B') {w2:World} {pre2:List Int} {R2:Nat→Prop}
    (h2:C pre2 R2 w2) (hk:Kept R w' w2) (hn:∀ y,R2 y→R y∨w'.heap.size≤y):Passed C w h d k B R0 w2 pre2 R2 h' d' k' B':=by
 have hlt:∀ x,own2 h' k' d.L.n x→x < w'.heap.size:=fun x hx => P.ps.ownlt (by rw [P.sz.1]; exact hx)
 refine ⟨h2,P.ps.frame fun x hx => ?_,fun x hx hr => ?_,P.g,P.b,?_,P.onew,fun x hx => ?_,P.sz,P.good,P.step,P.bn⟩
 · rw [P.sz.1] at hx
   exact hk.block x (hlt x hx) (P.apart x hx)
 · rcases hn x hr with e | e
   · exact P.apart x hx e
   · have:=hlt x hx; omega
 · refine ⟨hk.os.trans P.kept.os,hk.tape.trans P.kept.tape,hk.output.trans P.kept.output,Nat.le_trans P.kept.size hk.size,fun x hx hno => ?_⟩
   refine (hk.block x (Nat.lt_of_lt_of_le hx P.kept.size) (fun hr => ?_)).trans (P.kept.block x hx hno)
   exact (P.safe hx (fun e => hno (.inl e)) (fun e => hno (.inr e))).2 hr
 · rcases hn x hx with e | e
   · exact P.rnew x e
   · exact .inr (Nat.le_trans P.kept.size e)
theorem Passed.ahead {C:List Int→(Nat→Prop)→World→Prop} {w w1:World} {h:Gh} {d:Gd} {k:Bh} {B:Bo} {R0:Nat→Prop} {w':World} {pre:List Int} {R:Nat→Prop} {h':Gh} {d':Gd} {k':Bh} {B':Bo} (P:Passed C w1 h d k B R0 w' pre R h' d' k' B') (hb:Below w.heap.size w w1):Passed C w h d k B R0 w' pre R h' d' k' B' :=
 ⟨P.own,P.ps,P.apart,P.g,P.b,(Kept.of_below hb).trans P.kept,fun x hx => by
  rcases P.onew x hx with e | e
  · exact .inl e
  · exact .inr (Nat.le_trans hb.size e),fun x hx => by
  rcases P.rnew x hx with e | e
  · exact .inl e
  · exact .inr (Nat.le_trans hb.size e),P.sz,P.good,P.step,P.bn⟩
def Counted (B:Bo) (pre:List Int) (B':Bo):Prop:=cnt B' + pre.length = cnt B∧∀ z ∈ pre,1≤z∧z≤2147483647
def BodyAt (C:List Int→(Nat→Prop)→World→Prop) (n l:Nat):Prop:=∀ pre x R W,C pre R W→pre.length < 200→YieldAt Fence.wide (n - 1) Tryz.prog l #[.int .i64 x] W fun e W' => e = .returned (.bool true)∧∃ R',C (pre ++ [x]) R' W'∧Kept R W W'∧∀ y,R' y→R y∨W.heap.size≤y
set_option maxRecDepth 100000 in
set_option maxHeartbeats 2000000 in
theorem Bk.passC {C:List Int→(Nat→Prop)→World→Prop} (hC:Caller C) {w:World} {h:Gh} {d:Gd} {k:Bh} {B:Bo} (p:PS w h d k B) {R0:Nat→Prop} (h0:C [] R0 w) (hap:∀ x,own2 h k d.L.n x→¬ R0 x) (n l bb bg:Nat) (hn:1≤n) (hY:BodyAt C n l)
    (hbb:w.cell? ⟨bb,0,none⟩ = some (.pointer (some ⟨k.b,0,none⟩))) (hbg:w.cell? ⟨bg,0,none⟩ = some (.pointer (some ⟨h.g,0,none⟩))) (nb:¬ own2 h k d.L.n bb∧¬ R0 bb) (ng:¬ own2 h k d.L.n bg∧¬ R0 bg) :
    CallsIn Fence.wide n Tryz.prog 200 #[.func (.yield l) #[] #[],.pointer (some ⟨bb,0,none⟩),.pointer (some ⟨bg,0,none⟩)] w fun e w' => (∃ v,e = .returned v)∧∃ pre R h' d' k' B',Passed C w h d k B R0 w' pre R h' d' k' B'∧Counted B pre B':=by
 have HP:=Lib.hid p
 have HALL:=Lib.hid (Bk.all p.bo 2)
 have HC:=Lib.hid hC
 have H0:=Lib.hid (And.intro h0 hap)
 have HN:=Lib.hid (And.intro nb ng)
 have HY:=Lib.hid hY
 have hbl:=block_lt_of_cell hbb
 have hgl:=block_lt_of_cell hbg
 have HBL:=Lib.hid (show bb < w.heap.size∧bg < w.heap.size from ⟨hbl,hgl⟩)
 have HBC:=Lib.hid (And.intro hbb hbg)
 clear p hC h0 hap nb ng hY hbl hgl hbg
 refine callsIn_of_wp Tryz.func200 rfl trivial ?_ rfl
 simp only [Tryz.ntmps200,List.size_toArray,List.length_cons,List.length_nil,Nat.reduceAdd,Nat.reduceSub,Array.replicate_succ,Array.replicate_zero,List.push_toArray,List.append_toArray,List.nil_append,List.cons_append]
 gi_wp2_with (refine ⟨trivial,?_⟩; gi_at_call 16; refine (callsIn_wide.2 HALL.out).mono ?_)
 rintro e w1 ⟨v,zs,rfl,hids,hzl,hzs,hb1,hown⟩
 obtain ⟨va,vc,rfl⟩:∃ va vc,v = .slice va zs.length vc:=by obtain ⟨x,y,e,_⟩:=hids; exact ⟨x,y,e⟩
 have HB1:=Lib.hid hb1
 have HZS:=Lib.hid (show ∀ z ∈ zs,1≤z∧z≤2147483647 from fun z hz => by
  obtain ⟨i,h1,h2,_⟩:=hzs z hz
  have:=HP.out.bo.ok.ent i h1
  rw [← h2]
  exact ⟨this.i1,this.i2⟩)
 have HST:=Lib.hid (Passed.start (HP.out.below hb1) (HC.out.keep _ _ _ _ H0.out.1 (fun x hx => hb1.block x (HC.out.lt _ _ _ H0.out.1 x hx)) hb1.size) H0.out.2)
 have HB0:=Lib.hid (And.intro (Bk.kept hb1 HBC.out.1) (Bk.kept hb1 HBC.out.2))
 have HOW:=Lib.hid hown
 have HOL:=Lib.hid (show ∀ q,Value.ownBlock (.slice va zs.length vc) = some q→q < w1.heap.size∧¬ own2 h k d.L.n q∧¬ R0 q from fun q hq => by
  obtain ⟨h1,h2⟩:=hown.lt q hq
  exact ⟨h2,fun e => by have:=HP.out.ownlt e; omega,fun e => by have:=HC.out.lt _ _ _ H0.out.1 q e; omega⟩)
 have hzl200:(zs.length:Int)≤200:=by have:=HP.out.bo.ok.n200; omega
 have HCN:=Lib.hid (show cnt B≤200 from Nat.le_trans (cnt_le B) HP.out.bo.ok.n200)
 clear hids hzs hb1 hown hbb hzl
 gi_wp2
 gi_loopw [9] (fun i wr => ∃ (j:Nat) (pre:List Int) (R:Nat→Prop) (h':Gh) (d':Gd) (k':Bh) (B':Bo),j≤zs.length∧i = .int .i64 j∧Passed C w1 h d k B R0 wr pre R h' d' k' B'∧Counted B pre B'∧(wr.cell? ⟨bb,0,none⟩ = some (.pointer (some ⟨k.b,0,none⟩))∧wr.cell? ⟨bg,0,none⟩ = some (.pointer (some ⟨h.g,0,none⟩)))∧wr.ownsRow w.heap.size 3 1 (.slice va zs.length vc) zs.length (ints zs)) (fun i _ => zs.length - (intOf i).toNat)
 case atStart => exact ⟨0,[],R0,h,d,k,B,by omega,rfl,HST.out,⟨by simp,by simp⟩,HB0.out,HOW.out⟩
 case round =>
  obtain ⟨j,pre,R,h',d',k',B',hj,rfl,hps,hct,⟨hcb,hcg⟩,hown⟩:=hrel
  by_cases hlt:j < zs.length
  · have q1:(j:Int) < (zs.length:Int):=by omega
    obtain ⟨g,cap,he,_,_⟩:=hown.form (by omega)
    have hva:va = some ⟨g,0,none⟩:=by injection he
    subst hva
    have cz:wr.cell? ⟨g,j,none⟩ = some (.int .i64 (zs.getD j 0)):=by
     rw [hown.cellAt j (by omega)]
     simp [ints,List.getD,List.getElem?_eq_getElem hlt]
    have hz:=HZS.out (zs.getD j 0) (by simp [List.getD,List.getElem?_eq_getElem hlt])
    have HZ:=Lib.hid hz
    have HTRY:=Lib.hid (Bk.tryOne hps.ps (zs.getD j 0) (by unfold In64; omega))
    rw [Gh.pg hps.g,hps.b] at HTRY
    have HPS:=Lib.hid hps
    have HCT:=Lib.hid hct
    have HCC:=Lib.hid (And.intro hcb hcg)
    have HOR:=Lib.hid hown
    clear hps hct hown he hz
    generalize zs.getD j 0 = z at *
    gi_wp2_with (refine ⟨trivial,?_⟩; gi_at_call 201; refine (callsIn_wide.2 HTRY.out).mono ?_)
    rintro e w2 ⟨c,d2,h2,B2,k2,rfl,hp2,hs2,hsz2,hgd2,hst2,hc0,hc1,hn2⟩
    have HPT:=Lib.hid (HPS.out.tried HC.out hp2 hs2 hsz2 hgd2 hst2 hn2)
    have hsf:∀ q,q < w1.heap.size→¬ own2 h k d.L.n q→¬ R0 q→¬ own2 h' k' d'.L.n q:=fun q h1 h2 h3 => by rw [HPS.out.sz.1]; exact (HPS.out.safe h1 h2 h3).1
    have hw1:=HB1.out.size
    have HCC2:=Lib.hid (And.intro (hs2.kept.cell HCC.out.1 (hsf bb (by have:=HBL.out.1; omega) HN.out.1.1 HN.out.1.2)) (hs2.kept.cell HCC.out.2 (hsf bg (by have:=HBL.out.2; omega) HN.out.2.1 HN.out.2.2)))
    have HOR2:=Lib.hid (own_same HOR.out (fun q hq => hs2.kept.block q (HOR.out.lt q hq).2 (hsf q (HOL.out q hq).1 (HOL.out q hq).2.1 (HOL.out q hq).2.2)))
    clear hp2 hs2 hsz2 hgd2 hst2 hn2 hsf hw1 hcb hcg cz HTRY
    by_cases hc:c = 0
    · subst hc
      have HC0:=Lib.hid (hc0 rfl)
      have hlen:pre.length < 200:=by have h1:=HC0.out; have h2:=HCT.out.1; have h3:=HCN.out; omega
      obtain ⟨fn,tmps,assign,body,hy,hR⟩:=HY.out pre z R w2 HPT.out.own hlen
      have HR:=Lib.hid hR
      clear hc0 hc1 hlen hR
      gi_wp2
      refine HR.out.mono ?_
      rintro e w3 ⟨rfl,R3,hC3,hk3,hn3⟩
      have HPB:=Lib.hid (HPT.out.bodied hC3 hk3 hn3)
      have hsf:∀ q,q < w1.heap.size→¬ own2 h k d.L.n q→¬ R0 q→¬ R q:=fun q h1 h2 h3 => (HPT.out.safe h1 h2 h3).2
      have hw1:=HB1.out.size
      have HCC3:=Lib.hid (And.intro (hk3.cell HCC2.out.1 (hsf bb (by have:=HBL.out.1; omega) HN.out.1.1 HN.out.1.2)) (hk3.cell HCC2.out.2 (hsf bg (by have:=HBL.out.2; omega) HN.out.2.1 HN.out.2.2)))
      have HOR3:=Lib.hid (own_same HOR2.out (fun q hq => hk3.block q (HOR2.out.lt q hq).2 (hsf q (HOL.out q hq).1 (HOL.out q hq).2.1 (HOL.out q hq).2.2)))
      clear hC3 hk3 hn3 hsf hw1 hy
      gi_wp2
      go_roundw
      case rel => exact ⟨j + 1,pre ++ [z],R3,h2,d2,k2,B2,by omega,by go_num,HPB.out,⟨by have h1:=HC0.out; have h2:=HCT.out.1; simp; omega,fun y hy => by
       rcases List.mem_append.1 hy with h | h
       · exact HCT.out.2 y h
       · simp at h; subst h; exact HZ.out⟩,HCC3.out,HOR3.out⟩
      case measure => simp [intOf]; omega
    · have hcb:(c == 0) = false:=by simp [hc]
      have HC1:=Lib.hid (hc1 hc)
      clear hc hc0 hc1
      gi_wp2
      refine ⟨fun _ hf => (by cases hf),?_⟩
      gi_wp2
      go_roundw
      case rel => exact ⟨j + 1,pre,R,h2,d2,k2,B2,by omega,by go_num,HPT.out,⟨by rw [HC1.out]; exact HCT.out.1,HCT.out.2⟩,HCC2.out,HOR2.out⟩
      case measure => simp [intOf]; omega
  · obtain rfl:j = zs.length:=by omega
    have HPS:=Lib.hid (hps.ahead HB1.out)
    have HCT:=Lib.hid hct
    clear hps hct hown hcb hcg
    gi_wp2
    go_end0
    exact ⟨⟨_,rfl⟩,pre,R,h',d',k',B',HPS.out,HCT.out⟩
end Go.Proofs.YtgcnnbjbdfgglaaGreat
namespace Go.Proofs.YtgcnnbjbdfgglaaGreat
open Go.RowKit Go.Shelf
attribute [local go_sem] Oper.semAt_some
theorem exists_least {p:Nat→Prop} (h:∃ m,p m):∃ m,p m∧∀ k,p k→m≤k:=by
 obtain ⟨m,hm⟩:=h
 induction m using Nat.strongRecOn with
 | _ m ih =>
  rcases Classical.em (∃ k,k < m∧p k) with ⟨k,hk,hp⟩ | hn
  · exact ih k hk hp
  · exact ⟨m,hm,fun k hk => Nat.le_of_not_lt fun hlt => hn ⟨k,hlt,hk⟩⟩
open Classical in
noncomputable def leastOf (p:Nat→Prop):Nat:=if h:∃ m,p m then Classical.choose (exists_least h) else 0
theorem leastOf_spec {p:Nat→Prop} (h:∃ m,p m):p (leastOf p)∧∀ k,p k→leastOf p≤k:=by
 unfold leastOf
 rw [dif_pos h]
 exact Classical.choose_spec (exists_least h)
theorem wpIn_loopM {F:Fence} {n:Nat} {P:Program} {Q:Exit→Act→World→Prop} {a:Act} {w:World} {c:Code} (I:Nat→Act→World→Prop) (m0:Nat) (h0:I m0 a w)
    (round:∀ m a w,I m a w→c.wpIn F n P (Exit.then (fun a' w' => ∃ m',m' < m∧I m' a' w') Q) a w):(Code.loop c).wpIn F n P Q a w:=by
 refine wpIn_loop (fun a w => ∃ m,I m a w) (fun a w => leastOf fun m => I m a w) ⟨m0,h0⟩ ?_
 intro a w hI
 refine wpIn_mono (round _ a w (leastOf_spec hI).1) ?_
 intro e a' w' he
 cases e with
 | normal =>
  obtain ⟨m',hm,hI'⟩:=he
  have h1:∃ m,I m a' w':=⟨m',hI'⟩
  exact ⟨h1,Nat.lt_of_le_of_lt ((leastOf_spec h1).2 m' hI') hm⟩
 | ret => exact he
 | exit id => exact he
 | goto t => exact he
 | panic ch => exact he
 | outgrown => exact he
def markOf (D:Nat):Deferred:={ target:=.collected D,args:=#[] }
theorem leaves_marks {F:Fence} {n:Nat} {P:Program} {fn:Func} {tmps:Array Value} {R:Ending→World→Prop}:∀ (Ds:List Nat) (w:World),Ds.Nodup→(∀ D ∈ Ds,w.heap[D]? = some (.deferred (some []))) →
    (∀ w':World,(∀ x,x ∉ Ds→w'.heap[x]? = w.heap[x]?)→w'.heap.size = w.heap.size→w'.os = w.os→w'.tape = w.tape→w'.output = w.output→LeavesInM F n P fn tmps R [] .returning w')→LeavesInM F n P fn tmps R (Ds.map markOf) .returning w:=by
 intro Ds
 induction Ds with
 | nil => intro w _ _ h; exact h w (fun _ _ => rfl) rfl rfl rfl rfl
 | cons D Ds ih =>
  intro w hnd hD h
  obtain ⟨hn1,hn2⟩:=List.nodup_cons.1 hnd
  refine ⟨by simp,.inl ⟨D,w.putObj D (.deferred none),rfl,run_takeDeferred (hD D (List.mem_cons_self ..)),ih _ hn2 (fun E hE => ?_) (fun w' h1 h2 h3 h4 h5 => h w' (fun x hx => ?_) (by rw [h2]; exact World.putObj_size) h3 h4 h5)⟩⟩
  · rw [World.putObj_heap_other (fun e => hn1 (by rw [← e]; exact hE))]
    exact hD E (List.mem_cons_of_mem _ hE)
  · rw [h1 x (fun e => hx (List.mem_cons_of_mem _ e)),World.putObj_heap_other (fun e => hx (by rw [e]; exact List.mem_cons_self ..))]
def bodyK (I:List Int→(Nat→Prop)→World→Prop) (pre:List Int) (x:Int) (R:Nat→Prop) (W:World):Exit→Act→World→Prop
  | .normal,_,W' => ∃ R',I (pre ++ [x]) R' W'∧Kept R W W'∧∀ y,R' y→R y∨W.heap.size≤y
  | _,_,_ => False
theorem Kept.putObj {F:Nat→Prop} {a b:World} (h:Kept F a b) {l:Nat} (hl:F l∨a.heap.size≤l) (o:Obj):Kept F a (b.putObj l o) :=
 ⟨h.os,h.tape,h.output,by rw [World.putObj_size]; exact h.size,fun k hk hn => (World.putObj_heap_other (fun e => by subst e; rcases hl with h | h; exact hn h; omega)).trans (h.block k hk hn)⟩
theorem Bk.rangeLaw {g:Operand} {ps:Array Tmp} {assign body:Code} {Q:Exit→Act→World→Prop} {a:Act} {w:World} {n:Nat} (h3:3≤n) {bb bg:Nat}
    (hg:a.eval g = .func (.func 200) #[] #[.pointer (some ⟨bb,0,none⟩),.pointer (some ⟨bg,0,none⟩)]) (hps:ps.size = 1)
    {I:List Int→(Nat→Prop)→World→Prop} (hI:Caller I) {h:Gh} {d:Gd} {k:Bh} {B:Bo} (p:PS w h d k B) {R0:Nat→Prop} (h0:I [] R0 w) (hap:∀ x,own2 h k d.L.n x→¬ R0 x)
    (hbb:w.cell? ⟨bb,0,none⟩ = some (.pointer (some ⟨k.b,0,none⟩))) (hbg:w.cell? ⟨bg,0,none⟩ = some (.pointer (some ⟨h.g,0,none⟩))) (nb:¬ own2 h k d.L.n bb∧¬ R0 bb) (ng:¬ own2 h k d.L.n bg∧¬ R0 bg)
    (a₁:Int→Act)
    (hassign:∀ (l:Nat) (x:Int) (W:World) (K:Act→World→Prop),K (a₁ x) W→assign.wpIn (Fence.wide.inRound l) (n - 1 - 1) Tryz.prog (Exit.then K (fun _ _ _ => False)) { tmps:=(ps.zip #[.int .i64 x]).foldl (fun t (p,v) => t.setIfInBounds p v) a.tmps,defers:=[] } W)
    (hbody:∀ (l:Nat) (pre:List Int) (x:Int) (R:Nat→Prop) (W:World),I pre R W→pre.length < 200→body.wpIn (Fence.wide.inRound l) (n - 1 - 1) Tryz.prog (bodyK I pre x R W) (a₁ x) W)
    (hdone:∀ (D:Nat) (pre:List Int) (R:Nat→Prop) (h':Gh) (d':Gd) (k':Bh) (B':Bo) (W:World),Passed I w h d k B R0 W pre R h' d' k' B'→Counted B pre B'→W.heap[D]? = some (.deferred (some []))→w.heap.size≤D→(¬ own2 h' k' d.L.n D∧¬ R D)→Q .normal { a with defers:=markOf D :: a.defers } W) :
    (Code.rangeFunc g ps assign body).wpIn Fence.wide n Tryz.prog Q a w:=by
 refine wpIn_rangeFunc ?_
 intro fn hfn
 rw [show Fence.wide.round = none from rfl]
 obtain ⟨rec,hrec⟩:∃ rec:LoopState→Option Code→Loop,rec = fun st pe => { state:=st,pending:=pe,fn,tmps:=a.tmps,params:=ps,assign,body,defers:=w.heap.size }:=⟨_,rfl⟩
 obtain ⟨W1,hW1⟩:∃ W1,(w.alloc (.deferred (some []))).alloc (.loop (rec .ready none)) = W1:=⟨_,rfl⟩
 have hL1:W1.heap[w.heap.size + 1]? = some (.loop (rec .ready none)):=by
  rw [← hW1]; have:=World.alloc_heap_new (w.alloc (.deferred (some []))) (.loop (rec .ready none)); rwa [World.size_alloc] at this
 have hK1:W1.heap[w.heap.size]? = some (.deferred (some [])):=by
  rw [← hW1]; exact (Below.heap_alloc _ _ _ (by simp)).trans (World.alloc_heap_new w _)
 have hb1:Below w.heap.size w W1:=by
  rw [← hW1]; exact ((Below.refl _ w).alloc (Nat.le_refl _) _).alloc (by simp) _
 have hR0:∀ x,R0 x→x < w.heap.size:=hI.lt _ _ _ h0
 obtain ⟨C,hCdef⟩:∃ C:List Int→(Nat→Prop)→World→Prop,C = fun pre R W => ∃ R1,I pre R1 W∧W.heap[w.heap.size + 1]? = some (.loop (rec .ready none))∧W.heap[w.heap.size]? = some (.deferred (some []))∧(∀ x,R x ↔ (R1 x∨x = w.heap.size + 1∨x = w.heap.size))∧(∀ x,R1 x→x ≠ w.heap.size + 1∧x ≠ w.heap.size):=⟨_,rfl⟩
 have hC:Caller C:=by
  subst hCdef
  refine ⟨fun pre R W ⟨R1,h1,h2,h3,h4,_⟩ x hx => ?_,fun pre R W W' ⟨R1,h1,h2,h3,h4,h5⟩ hk hs => ⟨R1,hI.keep _ _ _ _ h1 (fun x hx => hk x ((h4 x).2 (.inl hx))) hs,(hk _ ((h4 _).2 (.inr (.inl rfl)))).trans h2,(hk _ ((h4 _).2 (.inr (.inr rfl)))).trans h3,h4,h5⟩⟩
  rcases (h4 x).1 hx with e | e | e
  · exact hI.lt _ _ _ h1 x e
  · subst e; exact (Array.getElem?_eq_some_iff.1 h2).1
  · subst e; exact (Array.getElem?_eq_some_iff.1 h3).1
 have hC0:C [] (fun x => R0 x∨x = w.heap.size + 1∨x = w.heap.size) W1:=by
  subst hCdef
  exact ⟨R0,hI.keep _ _ _ _ h0 (fun x hx => hb1.block x (hR0 x hx)) hb1.size,hL1,hK1,fun x => Iff.rfl,fun x hx => by have:=hR0 x hx; omega⟩
 have hBd:BodyAt C (n - 1) (w.heap.size + 1):=by
  intro pre x R W hc hlen
  subst hCdef
  obtain ⟨R1,hi,hl,hk,hR,hR1⟩:=hc
  have hlt:w.heap.size + 1 < W.heap.size:=(Array.getElem?_eq_some_iff.1 hl).1
  have hy:=run_yield (P:=Tryz.prog) (args:=#[.int .i64 x]) hl (by rw [hrec]; exact hps.symm)
  rw [hrec] at hy
  refine ⟨fn,_,assign,body,hy,roundIn_of_wpIn hfn (hassign _ x W _ ⟨_,run_beginRound hl (by rw [hrec]),?_⟩)⟩
  have hi2:I pre R1 (W.putObj (w.heap.size + 1) (.loop { rec .ready none with state:=.busy })):=hI.keep _ _ _ _ hi (fun y hy' => World.putObj_heap_other (hR1 y hy').1) (by rw [World.putObj_size]; exact Nat.le_refl _)
  have hl2:(W.putObj (w.heap.size + 1) (.loop { rec .ready none with state:=.busy })).heap[w.heap.size + 1]? = some (.loop { rec .ready none with state:=.busy }):=World.putObj_heap_same hlt
  have hk2:(W.putObj (w.heap.size + 1) (.loop { rec .ready none with state:=.busy })).heap[w.heap.size]? = some (.deferred (some [])):=(World.putObj_heap_other (by omega)).trans hk
  refine wpIn_mono (hbody _ pre x R1 _ hi2 hlen) ?_
  rintro e a3 W3 hp
  cases e with
  | normal =>
   obtain ⟨R3,hi3,hkp,hn3⟩:=hp
   have hl3:W3.heap[w.heap.size + 1]? = some (.loop { rec .ready none with state:=.busy }):=(hkp.block _ (by rw [World.putObj_size]; exact hlt) (fun e => (hR1 _ e).1 rfl)).trans hl2
   have hk3:W3.heap[w.heap.size]? = some (.deferred (some [])):=(hkp.block _ (by rw [World.putObj_size]; omega) (fun e => (hR1 _ e).2 rfl)).trans hk2
   have hR3:∀ y,R3 y→y ≠ w.heap.size + 1∧y ≠ w.heap.size:=fun y hy' => by
    rcases hn3 y hy' with e | e
    · exact hR1 y e
    · rw [World.putObj_size] at e; omega
   have hend:=run_endRound (P:=Tryz.prog) none hl3
   rw [hrec] at hend
   refine ⟨_,_,hend,rfl,fun y => R3 y∨y = w.heap.size + 1∨y = w.heap.size,⟨R3,hI.keep _ _ _ _ hi3 (fun y hy' => World.putObj_heap_other (hR3 y hy').1) (by rw [World.putObj_size]; exact Nat.le_refl _),?_,(World.putObj_heap_other (by omega)).trans hk3,fun _ => Iff.rfl,hR3⟩,?_,?_⟩
   · rw [hrec]
     exact World.putObj_heap_same (Array.getElem?_eq_some_iff.1 hl3).1
   · have hk0:Kept R W (W.putObj (w.heap.size + 1) (.loop { rec .ready none with state:=.busy })):=(Kept.refl R W).putObj (.inl ((hR _).2 (.inr (.inl rfl)))) _
     refine Kept.putObj (hk0.trans (hkp.mono fun y _ hy' => (hR y).2 (.inl hy'))) (.inl ((hR _).2 (.inr (.inl rfl)))) _
   · intro y hy'
     rcases hy' with e | e
     · rcases hn3 y e with e2 | e2
       · exact .inl ((hR y).2 (.inl e2))
       · right; rw [World.putObj_size] at e2; exact e2
     · exact .inl ((hR y).2 (.inr e))
  | ret => exact hp.elim
  | exit id => exact hp.elim
  | goto t => exact hp.elim
  | panic ch => exact hp.elim
  | outgrown => exact hp.elim
 have hpc:=Bk.passC hC (p.below hb1) hC0 (fun x hx hr => by
  rcases hr with e | e | e
  · exact hap x hx e
  · have:=p.ownlt hx; omega
  · have:=p.ownlt hx; omega) (n - 1) (w.heap.size + 1) bb bg (by omega) hBd (Bk.kept hb1 hbb) (Bk.kept hb1 hbg)
  ⟨nb.1,fun hr => by have:=block_lt_of_cell hbb; rcases hr with e | e | e; exact nb.2 e; all_goals (have e2:(⟨bb,0,none⟩:Addr).block = bb:=rfl; omega)⟩
  ⟨ng.1,fun hr => by have:=block_lt_of_cell hbg; rcases hr with e | e | e; exact ng.2 e; all_goals (have e2:(⟨bg,0,none⟩:Addr).block = bg:=rfl; omega)⟩
 refine ⟨w.heap.size + 1,[markOf w.heap.size],W1,{ target:=.fn (.func 200) #[.pointer (some ⟨bb,0,none⟩),.pointer (some ⟨bg,0,none⟩)],args:=#[.func (.yield (w.heap.size + 1)) #[] #[]] },W1,200,
   #[.func (.yield (w.heap.size + 1)) #[] #[]] ++ #[.pointer (some ⟨bb,0,none⟩),.pointer (some ⟨bg,0,none⟩)],W1,?_,?_,?_,?_,fun _ => by omega,?_⟩
 · rw [← hW1,hrec]; exact run_enterLoop_outer _ _ _ _ _
 · simp only [resolve,hg]
   simp [go_sem]
 · intro f' _; trivial
 · have eg:∀ args w,(callFunc 200 args).run Tryz.prog w = .ok (.enter 200 args) w:=enters_of Tryz.func200 (by kernel_rfl) rfl
   simp [invoke,go_sem,eg]
 · refine hpc.mono ?_
   rintro e W2 ⟨⟨v,rfl⟩,pre,R,h',d',k',B',hP,hct⟩
   have hown:=hP.own
   rw [hCdef] at hown
   obtain ⟨R1,hi,hl,hk,hR,hR1⟩:=hown
   refine ⟨none,_,by have:=run_endLoop (P:=Tryz.prog) hl (by rw [hrec]; simp); rw [hrec] at this; exact this,?_⟩
   have hnl:¬ own2 h' k' d.L.n (w.heap.size + 1):=fun ho => hP.apart _ ho ((hR _).2 (.inr (.inl rfl)))
   have hnd:¬ own2 h' k' d.L.n w.heap.size:=fun ho => hP.apart _ ho ((hR _).2 (.inr (.inr rfl)))
   have hkw:Kept (fun x => own2 h k d.L.n x∨R0 x) w W2:=by
    have h1:=(Kept.of_below (F:=fun x => own2 h k d.L.n x∨R0 x) hb1)
    exact ⟨hP.kept.os.trans h1.os,hP.kept.tape.trans h1.tape,hP.kept.output.trans h1.output,Nat.le_trans h1.size hP.kept.size,fun x hx hno => (hP.kept.block x (Nat.lt_of_lt_of_le hx h1.size) (fun e => by
     rcases e with e | e | e | e
     · exact hno (.inl e)
     · exact hno (.inr e)
     · omega
     · omega)).trans (h1.block x hx hno)⟩
   refine hdone w.heap.size pre R1 h' d' k' B' _ ⟨hI.keep _ _ _ _ hi (fun x hx => World.putObj_heap_other (hR1 x hx).1) (by rw [World.putObj_size]; exact Nat.le_refl _),hP.ps.frame (fun x hx => World.putObj_heap_other (fun e => hnl (by rw [← e]; rw [hP.sz.1] at hx; exact hx))),fun x hx hr => hP.apart x hx ((hR x).2 (.inl hr)),hP.g,hP.b,hkw.putObj (.inr (Nat.le_succ _)) _,fun x hx => ?_,fun x hx => ?_,hP.sz,hP.good,hP.step,hP.bn⟩ hct ((World.putObj_heap_other (by omega)).trans hk) (Nat.le_refl _) ⟨hnd,fun hr => (hR1 _ hr).2 rfl⟩
   · rcases hP.onew x hx with e | e
     · exact .inl e
     · exact .inr (Nat.le_trans hb1.size e)
   · rcases hP.rnew x ((hR x).2 (.inl hx)) with e | e
     · rcases e with e | e | e
       · exact .inl e
       · exact .inr (by omega)
       · exact .inr (by omega)
     · exact .inr (Nat.le_trans hb1.size e)
end Go.Proofs.YtgcnnbjbdfgglaaGreat
