/- LAW TopBoth: of every configuration of a bank and every list of byte strings the given function TopBoth returns true and leaves its arguments as they were; no condition. A part of what it needs. -/
import Derived.Test.YtgcnnbjbdfgglaaGreatZaw
import Derived.Test.YtgcnnbjbdfgglaaGreatZay
import Derived.Maps.OwnIn
namespace Go.Proofs.YtgcnnbjbdfgglaaGreat
open Go.RowKit Go.Shelf
attribute [local go_sem] Oper.semAt_some
theorem stepR_scope {P:Program} {b:Frame} {a:Act} {k:List Item} {cs:List Frame} {w:World} {c:Code}:step P (lone (b.atR a (.code (.scope c) :: k)) cs w) = .next (lone (b.atR a (.code c :: .inScope c :: k)) cs w) :=
 step_lone_go (by simp [stepG,stepG.exec,Frame.atR])
theorem stepR_inScope {P:Program} {b:Frame} {a:Act} {k:List Item} {cs:List Frame} {w:World} {c:Code}:step P (lone (b.atR a (.inScope c :: k)) cs w) = .next (lone (b.atR a k) cs w) :=
 step_lone_go (by simp [stepG,stepG.exec,Frame.atR])
theorem wpIn_scope_straight {F:Fence} {n:Nat} {P:Program} {Q:Exit→Act→World→Prop} {a:Act} {w:World} {c:Code} (h:c.wpIn F n P (Exit.noGoto Q) a w):(Code.scope c).wpIn F n P Q a w:=by
 intro b k cs hro hb hr
 have h0:(lone (b.atR a (.code (.scope c) :: k)) cs w).fenced P F:=fenced_calm hb hr rfl
 obtain ⟨e,a₁,w₁,hq,harr⟩:=h b (.inScope c :: k) cs hro hb hr
 cases e with
 | normal => exact ⟨.normal,a₁,w₁,hq,.head h0 stepR_scope (StepsIn.trans harr (.one (fenced_calm hb hr rfl) stepR_inScope))⟩
 | exit id' =>
  have hx:exitTo id' (.inScope c :: k) = exitTo id' k:=by simp [exitTo]
  exact ⟨.exit id',a₁,w₁,hq,fun k' hk => .head h0 stepR_scope (harr.1 k' (by rw [hx]; exact hk)),
    fun hr' hk => let ⟨k₁,h1,h2⟩:=harr.2 hr' (by rw [hx]; exact hk); ⟨k₁,h1,.head h0 stepR_scope h2⟩⟩
 | goto l => exact hq.elim
 | ret => exact ⟨_,a₁,w₁,hq,.of_steps (.one h0 stepR_scope) harr⟩
 | panic ch => exact ⟨_,a₁,w₁,hq,.of_steps (.one h0 stepR_scope) harr⟩
 | outgrown => exact ⟨_,a₁,w₁,hq,.of_steps (.one h0 stepR_scope) harr⟩
set_option maxHeartbeats 1000000 in
theorem Bk.passF (a b:Option Addr) (w:World):Calls Tryz.prog 175 #[.pointer a,.pointer b] w fun e w' => e = .returned (.func (.func 200) #[] #[.pointer (some ⟨w.heap.size + 1,0,none⟩),.pointer (some ⟨w.heap.size,0,none⟩)])∧w' = (w.alloc (.cells #[.pointer a] 73)).alloc (.cells #[.pointer b] 57):=by
 go_enter Tryz.func175,Tryz.ntmps175
 go_wp2
 go_ret
 exact ⟨rfl,rfl⟩
def CyC (H b6 b8:Nat) (zs0:List Int) (Ds:List Nat) (pre:List Int) (R:Nat→Prop) (W:World):Prop:=∃ v,Blk W b6 25 #[v]∧W.ownsRow H 3 1 v (zs0 ++ pre).length (ints (zs0 ++ pre))∧Blk W b8 4 #[.bool (!pre.isEmpty)]∧(∀ E ∈ Ds,W.heap[E]? = some (.deferred (some [])))∧∀ x,R x ↔ (x = b6∨x = b8∨x ∈ Ds∨v.ownBlock = some x)
theorem CyC.caller (H b6 b8:Nat) (zs0:List Int) (Ds:List Nat):Caller (CyC H b6 b8 zs0 Ds):=by
 refine ⟨fun pre R W ⟨v,h1,h2,h3,h4,h5⟩ x hx => ?_,fun pre R W W' ⟨v,h1,h2,h3,h4,h5⟩ hk hs => ⟨v,(hk _ ((h5 _).2 (.inl rfl))).trans h1,own_same h2 (fun q hq => hk q ((h5 _).2 (.inr (.inr (.inr hq))))),(hk _ ((h5 _).2 (.inr (.inl rfl)))).trans h3,fun E hE => (hk E ((h5 _).2 (.inr (.inr (.inl hE))))).trans (h4 E hE),h5⟩⟩
 rcases (h5 x).1 hx with e | e | e | e
 · subst e; exact h1.lt
 · subst e; exact h3.lt
 · exact (Array.getElem?_eq_some_iff.1 (h4 x e)).1
 · exact (h2.lt x e).2
structure CyS (w0:World) (h:Gh) (d:Gd) (k:Bh) (B:Bo) (b6:Nat) (Ds:List Nat) (zs:List Int) (v:Value) (w:World) (h':Gh) (d':Gd) (k':Bh) (B':Bo):Prop where
  ps:PS w h' d' k' B'
  g:(h'.g,h'.l) = (h.g,h.l)
  b:k'.b = k.b
  kept:Kept (own2 h k d.L.n) w0 w
  onew:∀ x,own2 h' k' d.L.n x→own2 h k d.L.n x∨w0.heap.size≤x
  sz:d'.L.n = d.L.n∧d'.t.n = d.t.n
  good:Good d→Good d'
  step:BoStep B B' (fun _ => False)
  bn:B'.n = B.n
  box:Blk w b6 25 #[v]
  row:w.ownsRow w0.heap.size 3 1 v zs.length (ints zs)
  cntd:Counted B zs B'
  marks:∀ D ∈ Ds,w.heap[D]? = some (.deferred (some []))∧w0.heap.size≤D
  nd:Ds.Nodup
  apart:∀ x,own2 h' k' d.L.n x→x ≠ b6∧v.ownBlock ≠ some x∧x ∉ Ds
  b6ge:w0.heap.size≤b6
theorem CyS.below {w0:World} {h:Gh} {d:Gd} {k:Bh} {B:Bo} {b6:Nat} {Ds:List Nat} {zs:List Int} {v:Value} {w:World} {h':Gh} {d':Gd} {k':Bh} {B':Bo} (s:CyS w0 h d k B b6 Ds zs v w h' d' k' B') {w1:World} (hb:Below w.heap.size w w1):CyS w0 h d k B b6 Ds zs v w1 h' d' k' B' :=
 ⟨s.ps.below hb,s.g,s.b,s.kept.trans (Kept.of_below hb),s.onew,s.sz,s.good,s.step,s.bn,s.box.below hb,own_below s.row hb,s.cntd,fun D hD => ⟨(hb.block D (Array.getElem?_eq_some_iff.1 (s.marks D hD).1).1).trans (s.marks D hD).1,(s.marks D hD).2⟩,s.nd,s.apart,s.b6ge⟩
theorem CyS.next {w0:World} {h:Gh} {d:Gd} {k:Bh} {B:Bo} {b6 b8:Nat} {Ds:List Nat} {zs:List Int} {v:Value} {w1:World} {h1:Gh} {d1:Gd} {k1:Bh} {B1:Bo} (s:CyS w0 h d k B b6 Ds zs v w1 h1 d1 k1 B1) {R0 R:Nat→Prop} (hR0:∀ x,R0 x→w0.heap.size≤x) {W:World} {pre:List Int} {h':Gh} {d':Gd} {k':Bh} {B':Bo}
    (P:Passed (CyC w0.heap.size b6 b8 zs Ds) w1 h1 d1 k1 B1 R0 W pre R h' d' k' B') (hc:Counted B1 pre B') {D:Nat} (hD:W.heap[D]? = some (.deferred (some []))) (hD1:w1.heap.size≤D) (hDn:¬ own2 h' k' d1.L.n D∧¬ R D) :
    ∃ v',CyS w0 h d k B b6 (D :: Ds) (zs ++ pre) v' W h' d' k' B'∧Blk W b8 4 #[.bool (!pre.isEmpty)]:=by
 obtain ⟨v',c1,c2,c3,c4,c5⟩:=P.own
 have hn:=s.sz.1
 rw [hn] at hDn
 have hon:∀ x,own2 h' k' d.L.n x→own2 h1 k1 d.L.n x∨w1.heap.size≤x:=fun x hx => by have:=P.onew x; rw [hn] at this; exact this hx
 have hap:∀ x,own2 h' k' d.L.n x→¬ R x:=fun x hx => by have:=P.apart x; rw [hn] at this; exact this hx
 have hkp:Kept (fun x => own2 h1 k1 d.L.n x∨R0 x) w1 W:=by have:=P.kept; rw [hn] at this; exact this
 refine ⟨v',⟨P.ps,P.g.trans s.g,P.b.trans s.b,?_,fun x hx => ?_,⟨P.sz.1.trans s.sz.1,P.sz.2.trans s.sz.2⟩,fun e => P.good (s.good e),s.step.trans P.step,P.bn.trans s.bn,c1,c2,?_,fun E hE => ?_,?_,fun x hx => ?_,s.b6ge⟩,c3⟩
 · refine ⟨hkp.os.trans s.kept.os,hkp.tape.trans s.kept.tape,hkp.output.trans s.kept.output,Nat.le_trans s.kept.size hkp.size,fun x hx hno => (hkp.block x (Nat.lt_of_lt_of_le hx s.kept.size) (fun e => ?_)).trans (s.kept.block x hx hno)⟩
   rcases e with e | e
   · rcases s.onew x e with e2 | e2
     · exact hno e2
     · omega
   · have:=hR0 x e; omega
 · rcases hon x hx with e | e
   · exact s.onew x e
   · exact .inr (Nat.le_trans s.kept.size e)
 · refine ⟨by have a1:=s.cntd.1; have a2:=hc.1; simp; omega,fun z hz => ?_⟩
   rcases List.mem_append.1 hz with e | e
   · exact s.cntd.2 z e
   · exact hc.2 z e
 · rcases List.mem_cons.1 hE with e | e
   · subst e; exact ⟨hD,Nat.le_trans s.kept.size hD1⟩
   · exact ⟨c4 E e,(s.marks E e).2⟩
 · exact List.nodup_cons.2 ⟨fun e => by have:=(Array.getElem?_eq_some_iff.1 (s.marks D e).1).1; omega,s.nd⟩
 · have hr:=hap x hx
   refine ⟨fun e => hr ((c5 x).2 (.inl e)),fun e => hr ((c5 x).2 (.inr (.inr (.inr e)))),fun e => ?_⟩
   rcases List.mem_cons.1 e with e2 | e2
   · exact hDn.1 (by rw [← e2]; exact hx)
   · exact hr ((c5 x).2 (.inr (.inr (.inl e2))))
theorem blk_ne_def {w:World} {g E:Nat} {T:TypeId} {cs:Array Value} {x:Option (List Deferred)} (h:Blk w g T cs) (hE:w.heap[E]? = some (.deferred x)):E ≠ g:=fun e => by
 subst e
 rw [show w.heap[E]? = _ from h] at hE
 cases hE
def CyInv (w0:World) (h:Gh) (d:Gd) (k:Bh) (B:Bo) (b6:Nat) (m:Nat) (a:Act) (w:World):Prop:=∃ (p:Int) (u8 u9 u10 u11 u12 u13 u14 u15 u16 u17 u18 u19 u20 u21 u22 u23:Value) (Ds:List Nat) (zs:List Int) (v:Value) (h':Gh) (d':Gd) (k':Bh) (B':Bo),
  a = { tmps:=#[.pointer (some ⟨h.g,0,none⟩),.pointer (some ⟨k.b,0,none⟩),undef,undef,.slice none 0 0,.int .i64 0,.pointer (some ⟨b6,0,none⟩),.int .i64 p,u8,u9,u10,u11,u12,u13,u14,u15,u16,u17,u18,u19,u20,u21,u22,u23],defers:=Ds.map markOf } ∧
  CyS w0 h d k B b6 Ds zs v w h' d' k' B'∧m = cnt B'
def CyPost (h:Gh) (d:Gd) (k:Bh) (B:Bo) (w:World) (e:Ending) (w':World):Prop:=∃ v zs x d' h' B' k',e = .returned (.tuple #[v,.int .i64 x])∧w'.ownsRow w.heap.size 3 1 v zs.length (ints zs)∧IdsOk zs∧(∀ x,own2 h' k' d.L.n x→v.ownBlock ≠ some x)∧PS w' h' d' k' B'∧Step2 w h k w' h' k' d.L.n∧(d'.L.n = d.L.n∧d'.t.n = d.t.n)∧(Good d→Good d')∧BoStep B B' (fun _ => False)
set_option maxRecDepth 100000 in
set_option maxHeartbeats 4000000 in
theorem Bk.cycle {w:World} {h:Gh} {d:Gd} {k:Bh} {B:Bo} (p:PS w h d k B):Calls Tryz.prog 147 #[.pointer (some ⟨h.g,0,none⟩),.pointer (some ⟨k.b,0,none⟩)] w (CyPost h d k B w):=by
 have hA:=(Below.refl w.heap.size w).alloc (Nat.le_refl _) (.cells #[.slice none 0 0] 25)
 have HST:=Lib.hid (show CyS w h d k B w.heap.size [] [] (.slice none 0 0) (w.alloc (.cells #[.slice none 0 0] 25)) h d k B from
   ⟨p.below hA,rfl,rfl,Kept.of_below hA,fun _ hx => .inl hx,⟨rfl,rfl⟩,id,BoStep.refl B _,rfl,Blk.new _ _ _,World.ownsRow_nil _ _ _ _,⟨by simp,by simp⟩,by simp,by simp,fun x hx => ⟨by have:=p.ownlt hx; omega,by simp [Value.ownBlock],by simp⟩,Nat.le_refl _⟩)
 have HN:=Lib.hid p.bo.ok.n200
 clear p hA
 refine (callsIn_wide (n:=9)).1 ?_
 refine callsIn_of_wp_marks Tryz.func147 rfl trivial ?_ rfl
 simp only [Tryz.ntmps147,List.size_toArray,List.length_cons,List.length_nil,Nat.reduceAdd,Nat.reduceSub,Array.replicate_succ,Array.replicate_zero,List.push_toArray,List.append_toArray,List.nil_append,List.cons_append]
 gi_wp2
 refine wpIn_scope_straight ?_
 gi_wp2
 refine wpIn_label ?_
 gi_wp2
 refine wpIn_loopM (CyInv w h d k B w.heap.size) (cnt B) ⟨0,_,_,_,_,_,_,_,_,_,_,_,_,_,_,_,_,[],[],_,h,d,k,B,rfl,HST.out,rfl⟩ ?_
 rintro m a wr ⟨p,u8,u9,u10,u11,u12,u13,u14,u15,u16,u17,u18,u19,u20,u21,u22,u23,Ds,zs,v,h',d',k',B',rfl,hs,rfl⟩
 have HS:=Lib.hid hs
 have HPF:=Lib.hid (fun wx => Bk.passF (some ⟨h.g,0,none⟩) (some ⟨k.b,0,none⟩) wx)
 clear hs
 gi_wp2_with (refine ⟨trivial,?_⟩; gi_at_call 175; refine (callsIn_wide.2 (HPF.out _)).mono ?_; rintro e w1 ⟨rfl,rfl⟩)
 have hA:Below wr.heap.size wr (((wr.alloc (.cells #[.bool false] 4)).alloc (.cells #[.pointer (some ⟨h.g,0,none⟩)] 73)).alloc (.cells #[.pointer (some ⟨k.b,0,none⟩)] 57)):=(((Below.refl _ _).alloc (Nat.le_refl _) _).alloc (by simp) _).alloc (by simp; omega) _
 have hb8:Blk (((wr.alloc (.cells #[.bool false] 4)).alloc (.cells #[.pointer (some ⟨h.g,0,none⟩)] 73)).alloc (.cells #[.pointer (some ⟨k.b,0,none⟩)] 57)) wr.heap.size 4 #[.bool false]:=((Blk.new wr 4 #[.bool false]).alloc _).alloc _
 have hbg:=(Blk.new (wr.alloc (.cells #[.bool false] 4)) 73 #[.pointer (some ⟨h.g,0,none⟩)]).alloc (.cells #[.pointer (some ⟨k.b,0,none⟩)] 57)
 have hbb:=Blk.new ((wr.alloc (.cells #[.bool false] 4)).alloc (.cells #[.pointer (some ⟨h.g,0,none⟩)] 73)) 57 #[.pointer (some ⟨k.b,0,none⟩)]
 simp only [World.size_alloc] at hbg hbb
 have hsz1:(((wr.alloc (.cells #[.bool false] 4)).alloc (.cells #[.pointer (some ⟨h.g,0,none⟩)] 73)).alloc (.cells #[.pointer (some ⟨k.b,0,none⟩)] 57)).heap.size = wr.heap.size + 3:=by simp
 have HB8:=Lib.hid hb8
 have HBG:=Lib.hid hbg
 have HBB:=Lib.hid hbb
 have HA:=Lib.hid hA
 have HSZ1:=Lib.hid hsz1
 clear hA hb8 hbg hbb hsz1
 generalize (((wr.alloc (.cells #[.bool false] 4)).alloc (.cells #[.pointer (some ⟨h.g,0,none⟩)] 73)).alloc (.cells #[.pointer (some ⟨k.b,0,none⟩)] 57)) = w1 at *
 have HS1:=Lib.hid (HS.out.below HA.out)
 have HR0:=Lib.hid (show ∀ x,(x = w.heap.size∨x = wr.heap.size∨x ∈ Ds∨v.ownBlock = some x)→w.heap.size≤x∧x < wr.heap.size + 1 from fun x hx => by
  have hk:=HS.out.kept.size
  rcases hx with e | e | e | e
  · subst e; have:=HS.out.box.lt; omega
  · omega
  · have h1:=HS.out.marks x e; have h2:=(Array.getElem?_eq_some_iff.1 h1.1).1; have h3:=h1.2; omega
  · have:=HS.out.row.lt x e; omega)
 have HLT:=Lib.hid (show ∀ x,own2 h' k' d'.L.n x→x < wr.heap.size from fun x hx => HS.out.ps.ownlt hx)
 refine Bk.rangeLaw (n:=9) (by omega) (bb:=wr.heap.size + 1 + 1) (bg:=wr.heap.size + 1) rfl rfl (CyC.caller w.heap.size w.heap.size wr.heap.size zs Ds) HS1.out.ps (R0:=fun x => x = w.heap.size∨x = wr.heap.size∨x ∈ Ds∨v.ownBlock = some x)
   ⟨v,HS1.out.box,by rw [List.append_nil]; exact HS1.out.row,HB8.out,fun E hE => (HS1.out.marks E hE).1,fun _ => Iff.rfl⟩
   (fun x hx hr => by
    rw [HS.out.sz.1] at hx
    have h1:=HS.out.apart x hx
    rcases hr with e | e | e | e
    · exact h1.1 e
    · have:=HLT.out x (by rw [HS.out.sz.1]; exact hx); omega
    · exact h1.2.2 e
    · exact h1.2.1 e)
   (by rw [HS.out.b]; exact (HBB.out.cell 0).trans rfl) (by rw [Gh.pg HS.out.g]; exact (HBG.out.cell 0).trans rfl)
   ⟨fun ho => by have:=HLT.out _ ho; omega,fun hr => by have:=HR0.out _ hr; omega⟩
   ⟨fun ho => by have:=HLT.out _ ho; omega,fun hr => by have:=HR0.out _ hr; omega⟩
   (fun x => { tmps:=#[.pointer (some ⟨h.g,0,none⟩),.pointer (some ⟨k.b,0,none⟩),undef,undef,.slice none 0 0,.int .i64 0,.pointer (some ⟨w.heap.size,0,none⟩),.int .i64 (wrap64 (p + 1)),.pointer (some ⟨wr.heap.size,0,none⟩),.int .i64 x,.int .i64 p,.int .i64 (wrap64 (p + 1)),.pointer (some ⟨h.g,0,none⟩),.pointer (some ⟨k.b,0,none⟩),.func (.func 200) #[] #[.pointer (some ⟨wr.heap.size + 1 + 1,0,none⟩),.pointer (some ⟨wr.heap.size + 1,0,none⟩)],.int .i64 x,u16,u17,u18,u19,u20,u21,u22,u23],defers:=[] }) ?assign ?body ?done
 case assign =>
  intro l x W K hK
  gi_wp2
  exact hK
 case body =>
  rintro l pre x R W ⟨v',c1,c2,c3,c4,c5⟩ hlen
  obtain ⟨i0,hi,hz0,hz1,hz2⟩:=info_parts Bk.infoInt
  have HH:=Lib.hid (And.intro c1 (And.intro c2 (And.intro c3 (And.intro c4 c5))))
  have hl6:=(c1.cell 0).trans rfl
  have hlz:(zs ++ pre).length≤400:=by
   have h1:=HS.out.cntd.1
   have h2:=cnt_le B
   have h3:=HN.out
   simp
   omega
  have hws:w.heap.size≤W.heap.size:=Nat.le_of_lt c1.lt
  have HX:=Lib.hid (show zs ++ (pre ++ [x]) = (zs ++ pre) ++ [x] by simp)
  have HI:=Lib.hid (show ints ((zs ++ pre) ++ [x]) = ints (zs ++ pre) ++ [Value.int .i64 x] by simp [ints])
  have HE8:=Lib.hid (show (pre ++ [x]).isEmpty = false by simp)
  generalize zs ++ pre = ys at *
  clear c1 c3 c4 c5
  gi_wp2_with (gi_at_builtin; refine wpListIn_append_own_at _ rfl (.tmp 16) (.tmp 18) 25 rfl w.heap.size 3 i0 (.int .i64 0) 1 8 Tryz.underlying25 hi hz0 hz1 hz2 rfl (by decide) _ _ _ rfl (c2.alloc _) ⟨W.heap.size,0,none⟩ 1 1 [.int .i64 x] rfl rfl ?c1 ?c2 ?c3 ?c4 ?c5 ?_)
  case c1 => exact cell_one_new _ _ _
  case c2 => intro u hu; simp at hu; subst hu; rfl
  case c3 => unfold maxLen; omega
  case c4 => omega
  case c5 => simp; omega
  intro v2 w2 hown2 hgrow _ hat
  obtain ⟨g2,cap2,rfl⟩:=ownsRow_succ hown2
  obtain ⟨c1,c2',c3,c4,c5⟩:=HH.out
  have hrow2:∀ q,v'.ownBlock = some q→Ty (W.alloc (.cells #[.int .i64 x] 3)) q 3:=fun q hq => own_ty (c2'.alloc _) hq
  have ha1:=(Below.refl W.heap.size W).alloc (Nat.le_refl _) (.cells #[.int .i64 x] 3)
  have e6:Blk w2 w.heap.size 25 #[v']:=(c1.alloc _).grown hgrow (fun e => (hrow2 _ e.symm).ne ⟨_,c1.alloc _⟩ (by decide) rfl)
  have e8:Blk w2 wr.heap.size 4 _:=(c3.alloc _).grown hgrow (fun e => (hrow2 _ e.symm).ne ⟨_,c3.alloc _⟩ (by decide) rfl)
  have eD:∀ E ∈ Ds,w2.heap[E]? = some (.deferred (some [])):=fun E hE => by
   have h1:(W.alloc (.cells #[.int .i64 x] 3)).heap[E]? = some (.deferred (some [])):=(ha1.block E (Array.getElem?_eq_some_iff.1 (c4 E hE)).1).trans (c4 E hE)
   rw [hgrow.block E (Array.getElem?_eq_some_iff.1 h1).1 (fun e => by
    obtain ⟨cs,h2⟩:=hrow2 _ e.symm
    rw [h1] at h2
    cases h2)]
   exact h1
  have n68:w.heap.size ≠ wr.heap.size:=Ty.ne ⟨_,e6⟩ ⟨_,e8⟩ (by decide)
  have tg:Ty w2 g2 3:=own_ty hown2 rfl
  have n62:g2 ≠ w.heap.size:=tg.ne ⟨_,e6⟩ (by decide)
  have n82:g2 ≠ wr.heap.size:=tg.ne ⟨_,e8⟩ (by decide)
  have hl6:=(e6.cell 0).trans rfl
  have hf6:=e6.frozen 0
  have hf8:=e8.frozen 0
  have hl8:(w2.setCell ⟨w.heap.size,0,none⟩ (.slice (some ⟨g2,0,none⟩) (ys.length + 1) cap2)).cell? ⟨wr.heap.size,0,none⟩ = _:=((e8.far n68 0 (.slice (some ⟨g2,0,none⟩) (ys.length + 1) cap2)).cell 0).trans rfl
  have HFIN:=Lib.hid (show ∃ R',CyC w.heap.size w.heap.size wr.heap.size zs Ds (pre ++ [x]) R' ((w2.setCell ⟨w.heap.size,0,none⟩ (.slice (some ⟨g2,0,none⟩) (ys.length + 1) cap2)).setCell ⟨wr.heap.size,0,none⟩ (.bool true))∧Kept R W ((w2.setCell ⟨w.heap.size,0,none⟩ (.slice (some ⟨g2,0,none⟩) (ys.length + 1) cap2)).setCell ⟨wr.heap.size,0,none⟩ (.bool true))∧∀ y,R' y→R y∨W.heap.size≤y from by
   refine ⟨fun y => y = w.heap.size∨y = wr.heap.size∨y ∈ Ds∨Value.ownBlock (.slice (some ⟨g2,0,none⟩) (ys.length + 1) cap2) = some y,⟨.slice (some ⟨g2,0,none⟩) (ys.length + 1) cap2,(e6.set 0 _).far n68.symm _ _,?_,by rw [HE8.out]; exact (e8.far n68 0 _).set 0 _,fun E hE => ?_,fun _ => Iff.rfl⟩,?_,fun y hy => ?_⟩
   · rw [HX.out,HI.out,List.length_append,List.length_singleton]
     exact own_far (own_far hown2 (fun q hq => by cases hq; exact n62) _ _) (fun q hq => by cases hq; exact n82) _ _
   · rw [Below.heap_setCell _ _ _ _ (blk_ne_def e8 (eD E hE)),Below.heap_setCell _ _ _ _ (blk_ne_def e6 (eD E hE))]
     exact eD E hE
   · have k1:Kept R W w2:=⟨hgrow.os,hgrow.tape,hgrow.output,Nat.le_trans ha1.size hgrow.size,fun q hq hn => (hgrow.block q (by simp; omega) (fun e => hn ((c5 q).2 (.inr (.inr (.inr e.symm)))))).trans (ha1.block q hq)⟩
     exact (k1.setCell (.inl ((c5 _).2 (.inl rfl))) _ _).setCell (.inl ((c5 _).2 (.inr (.inl rfl)))) _ _
   · rcases hy with e | e | e | e
     · exact .inl ((c5 y).2 (.inl e))
     · exact .inl ((c5 y).2 (.inr (.inl e)))
     · exact .inl ((c5 y).2 (.inr (.inr (.inl e))))
     · rcases hat with h | h
       · exact .inl ((c5 y).2 (.inr (.inr (.inr (by rw [← h]; exact e)))))
       · right
         rw [e] at h
         simp at h
         omega)
  clear hown2 hgrow hat c1 c2' c3 c4 c5 hrow2 ha1 e6 e8 eD n68 tg n62 n82 hws c2
  gi_wp2
  exact HFIN.out
 case done =>
  intro D pre R h9 d9 k9 B9 W P hc hD hDn hDo
  obtain ⟨v9,hs9,hb9⟩:=HS1.out.next (fun x hx => (HR0.out x hx).1) P hc hD hDn hDo
  have HS9:=Lib.hid hs9
  have HC9:=Lib.hid hc
  clear P hc hD hDn hDo hs9
  cases pre with
  | nil =>
   have hl8:W.cell? ⟨wr.heap.size,0,none⟩ = some (.bool false):=hb9.cell 0
   have hl6:W.cell? ⟨w.heap.size,0,none⟩ = some v9:=HS9.out.box.cell 0
   clear hb9
   dsimp only
   gi_wp2
   rw [Exit.noGoto_ret]
   rw [List.append_nil] at HS9
   refine leaves_marks (D :: Ds) W HS9.out.nd (fun E hE => (HS9.out.marks E hE).1) (fun w' h1 h2 h3 h4 h5 => ?_)
   have hs9:=HS9.out
   have hown:w'.ownsRow w.heap.size 3 1 v9 zs.length (ints zs):=own_same hs9.row (fun q hq => h1 q (fun e => by
    obtain ⟨cs,hc⟩:=own_ty hs9.row hq
    rw [(hs9.marks q e).1] at hc
    cases hc))
   refine ⟨_,results_tmp2 rfl _ _ _,v9,zs,wrap64 (p + 1),d9,h9,B9,k9,rfl,hown,⟨?_,hs9.cntd.2⟩,fun x hx => (hs9.apart x hx).2.1,hs9.ps.frame (fun x hx => h1 x (hs9.apart x (by rw [← hs9.sz.1]; exact hx)).2.2),⟨hs9.g,hs9.b,⟨h3.trans hs9.kept.os,h4.trans hs9.kept.tape,h5.trans hs9.kept.output,by rw [h2]; exact hs9.kept.size,fun x hx hno => (h1 x (fun e => by have:=(hs9.marks x e).2; omega)).trans (hs9.kept.block x hx hno)⟩,hs9.onew⟩,hs9.sz,hs9.good,hs9.step⟩
   have a1:=hs9.cntd.1
   have a2:=cnt_le B
   have a3:=HN.out
   omega
  | cons z pre =>
   have hl8:W.cell? ⟨wr.heap.size,0,none⟩ = some (.bool true):=hb9.cell 0
   have hl6:W.cell? ⟨w.heap.size,0,none⟩ = some v9:=HS9.out.box.cell 0
   clear hb9
   dsimp only
   gi_wp2
   exact ⟨cnt B9,by have:=HC9.out.1; simp at this; omega,wrap64 (p + 1),_,_,_,_,_,_,_,_,_,_,_,_,_,_,_,_,D :: Ds,zs ++ z :: pre,v9,h9,d9,k9,B9,rfl,HS9.out,rfl⟩
end Go.Proofs.YtgcnnbjbdfgglaaGreat
namespace Go.Proofs.YtgcnnbjbdfgglaaGreat
open Go.RowKit
theorem wpList_append_run {P:Program} {ops:Array Oper} {rest:List Oper} {o:Oper} {a:Act} {w w':World} {Q:Exit→Act→World→Prop} (hgd:o.guard = none) (s x:Operand) (t:TypeId)
    (ho:o.op = .call { callee:=.builtin .append,args:=#[s,x],argTypes:=#[t,t] }) (v y r:Value) (hs:a.eval s = v) (hx:a.eval x = y) (hr:(Builtin.append_ #[t,t] o.type #[v,y]).run P w = .ok r w')
    (h:wpList P ops Q rest (a.put o.dst r) w'):wpList P ops Q (o :: rest) a w:=by
 refine wpList_plain hgd fun _ hK => ?_
 unfold Oper.wp execOp
 simp only [ho,resolve,invoke,builtin,Sem.run_bind,Sem.run_pure,Result.andThen_ok,List.map_toArray,List.map_cons,List.map_nil,hs,hx,hr]
 exact hK _ _ h
theorem Bk.appendInts (ty:TypeId) {B B':Nat} {w:World} {dv sv:Value} {zs ys:List Int} (hE:w.ownsRow B 3 1 dv zs.length (ints zs)) (hA:w.ownsRow B' 3 1 sv ys.length (ints ys)) (hB:B≤w.heap.size) (hl:zs.length + ys.length≤100000) :
    ∃ v' w',(Builtin.append_ #[25,25] ty #[dv,sv]).run Tryz.prog w = .ok v' w'∧w'.ownsRow B 3 1 v' (zs ++ ys).length (ints (zs ++ ys))∧w.grownBy w' dv.ownBlock:=by
 obtain ⟨i0,hi,hz0,hz1,hz2⟩:=info_parts Bk.infoInt
 rcases hA.2 with ⟨rfl,h0⟩ | ⟨g,cap,cur,rfl,_,hh,_⟩
 · have hA0:ys = []:=List.length_eq_zero_iff.1 h0
   subst hA0
   refine ⟨dv,w,?_,by rw [List.append_nil]; exact hE,⟨rfl,rfl,rfl,Nat.le_refl _,fun _ _ _ => rfl⟩⟩
   rcases hE.2 with ⟨rfl,h1⟩ | ⟨g,cap,cur,rfl,_,hg,hnc,hcm,hcs,htk⟩
   · simp [Builtin.append_,run_underlying Tryz.underlying25,sizeOf,typeInfo,hi,Builtin.lenOf,Builtin.firstCells]
   · have hm:zs.length≤cap:=hnc
     simp [Builtin.append_,run_underlying Tryz.underlying25,sizeOf,typeInfo,hi,Builtin.lenOf,Builtin.firstCells,loadCells,hm]
     rfl
 · obtain ⟨v',w',hr,h2,h3,_⟩:=run_append_own (P:=Tryz.prog) w B 25 ty 3 i0 (.int .i64 0) 1 8 Tryz.underlying25 hi hz0 hz1 hz2 rfl (by decide)
     dv zs.length (ints zs) hE ⟨g,0,none⟩ ys.length cap (ints ys) (by simp [ints]) (fun j u hu => by
      have hj:j < ys.length:=by have:=(List.getElem?_eq_some_iff.1 hu).1; simpa [ints] using this
      rw [WideShapes.add_plain,Nat.zero_add,World.ownsRow.cellAt hA j (by omega)]
      exact hu) (fun u hu => by
      simp only [ints,List.mem_map] at hu
      obtain ⟨x,_,rfl⟩:=hu
      rfl) (by unfold maxLen; omega) (by omega) hB
   refine ⟨v',w',hr,?_,h3⟩
   rw [List.length_append,show ints (zs ++ ys) = ints zs ++ ints ys by simp [ints]]
   exact h2
theorem blk_step2 {w w':World} {h h':Gh} {k k':Bh} {n x:Nat} {T:TypeId} {cs:Array Value} (s:Step2 w h k w' h' k' n) (hx:Blk w x T cs) (hn:¬ own2 h k n x):Blk w' x T cs∧¬ own2 h' k' n x :=
 ⟨(s.kept.block x hx.lt hn).trans hx,fun ho => by
  rcases s.own x ho with h1 | h1
  · exact hn h1
  · have:=hx.lt; omega⟩
theorem row_step2 {w w':World} {h h':Gh} {k k':Bh} {n B e K m:Nat} {v:Value} {xs:List Value} (s:Step2 w h k w' h' k' n) (hv:w.ownsRow B e K v m xs) (hn:∀ x,v.ownBlock = some x→¬ own2 h k n x):w'.ownsRow B e K v m xs∧∀ x,v.ownBlock = some x→¬ own2 h' k' n x :=
 ⟨own_same hv (fun x hx => s.kept.block x (hv.lt x hx).2 (hn x hx)),fun x hx ho => by
  rcases s.own x ho with h1 | h1
  · exact hn x hx h1
  · have:=(hv.lt x hx).2; omega⟩
theorem own_wk {B B' e K n:Nat} {v:Value} {xs:List Value} {w:World} (h:w.ownsRow B e K v n xs) (hB:B'≤B):w.ownsRow B' e K v n xs :=
 ⟨h.1,h.2.imp id (fun ⟨g,cap,cur,a,b,c⟩ => ⟨g,cap,cur,a,Nat.le_trans hB b,c⟩)⟩
def CloPost (h:Gh) (d:Gd) (k:Bh) (B:Bo) (fa:Int) (w:World) (e:Ending) (w':World):Prop:=∃ (ra:Option Addr) (rn rc:Nat) (n:Int) (sa:Option Addr) (sn sc:Nat) (c:Int) (zs:List Int) (d':Gd) (h':Gh) (B':Bo) (k':Bh),
  e = .returned (.tuple #[.agg #[.slice ra rn rc,.int .i64 n,.slice sa sn sc],.int .i64 c])∧0≤c∧c≤12∧In64 n∧w'.ownsRow w.heap.size 3 1 (.slice ra rn rc) zs.length (ints zs)∧IdsOk zs∧PS w' h' d' k' B'∧Step2 w h k w' h' k' d.L.n∧(d'.L.n = d.L.n∧d'.t.n = d.t.n)∧(Good d→Good d')∧BoStep B B' (fun _ => False) ∧
  (c = 0→∀ i,i < B'.n→((B'.e i).a = fa∨(B'.e i).b = fa)→3≤(B'.e i).st)
abbrev zero3:Array Value:=#[.slice none 0 0,.int .i64 0,.slice none 0 0]
theorem blk_set3 {w:World} {g:Nat} {T:TypeId} {a b c:Value} (h:Blk w g T #[a,b,c]) (v0 v1 v2:Value):Blk (((w.setCell ⟨g,0,none⟩ v0).setCell ⟨g,1,none⟩ v1).setCell ⟨g,2,none⟩ v2) g T #[v0,v1,v2]:=((h.set 0 v0).set 1 v1).set 2 v2
theorem below_set3 {B:Nat} {w0 w:World} (h:Below B w0 w) {g:Nat} (hg:B≤g) (v0 v1 v2:Value):Below B w0 (((w.setCell ⟨g,0,none⟩ v0).setCell ⟨g,1,none⟩ v1).setCell ⟨g,2,none⟩ v2):=((h.setCell hg v0).setCell hg v1).setCell hg v2
theorem CloPost.no {h:Gh} {d:Gd} {k:Bh} {B:Bo} {fa:Int} {w w':World} (p:PS w h d k B) (hb:Below w.heap.size w w') {c:Int} (h0:0≤c) (h1:c≤12) (hc:c ≠ 0):CloPost h d k B fa w (.returned (.tuple #[.agg #[.slice none 0 0,.int .i64 0,.slice none 0 0],.int .i64 c])) w' :=
 ⟨none,0,0,0,none,0,0,c,[],d,h,B,k,rfl,h0,h1,by unfold In64; omega,World.ownsRow_nil _ _ _ _,⟨by simp,by simp⟩,p.below hb,Step2.of_below hb h k d.L.n,⟨rfl,rfl⟩,id,BoStep.refl B _,fun h => absurd h hc⟩
theorem book_int {w:World} {h:Bh} {B:Bo} (a:BoAt w h B) {x:Nat} (hx:Ty w x 3):¬ h.own x:=by
 rintro (rfl | rfl | h1)
 · exact Ty.ne hx ⟨_,a.blk⟩ (by decide) rfl
 · exact a.map.ne hx rfl
 · exact Ty.ne hx (own_ty a.own h1) (by decide) rfl
theorem Step2.set3 {w w':World} {h h':Gh} {k k':Bh} {n X:Nat} (s:Step2 w h k w' h' k' n) (hX:w.heap.size≤X) (v0 v1 v2:Value):Step2 w h k (((w'.setCell ⟨X,0,none⟩ v0).setCell ⟨X,1,none⟩ v1).setCell ⟨X,2,none⟩ v2) h' k' n :=
 ⟨s.g,s.b,((s.kept.setCell (.inr hX) 0 v0).setCell (.inr hX) 1 v1).setCell (.inr hX) 2 v2,s.own⟩
theorem heap_set3 (w:World) {X q:Nat} (h:q ≠ X) (v0 v1 v2:Value):(((w.setCell ⟨X,0,none⟩ v0).setCell ⟨X,1,none⟩ v1).setCell ⟨X,2,none⟩ v2).heap[q]? = w.heap[q]?:=by
 rw [heap_setCell_other _ _ _ _ h,heap_setCell_other _ _ _ _ h,heap_setCell_other _ _ _ _ h]
theorem PS.set3 {w:World} {h:Gh} {d:Gd} {k:Bh} {B:Bo} (p:PS w h d k B) {X:Nat} (hX:¬ own2 h k d.L.n X) (v0 v1 v2:Value):PS (((w.setCell ⟨X,0,none⟩ v0).setCell ⟨X,1,none⟩ v1).setCell ⟨X,2,none⟩ v2) h d k B :=
 p.frame (fun x hx => heap_set3 w (fun e => by subst e; exact hX hx) v0 v1 v2)
end Go.Proofs.YtgcnnbjbdfgglaaGreat
