/- LAW TopBoth: of every configuration of a bank and every list of byte strings the given function TopBoth returns true and leaves its arguments as they were; no condition. A part of what it needs. -/
import Derived.Test.YtgcnnbjbdfgglaaGreatZad
import Derived.Deep.AppendLies
namespace Go.Proofs.YtgcnnbjbdfgglaaGreat
open Go.RowKit
def Blk (w:World) (g:Nat) (T:TypeId) (cs:Array Value):Prop:=w.heap[g]? = some (.cells cs T (0,0))
section
variable {w w':World} {g:Nat} {T:TypeId} {cs:Array Value} (h:Blk w g T cs)
include h
theorem Blk.lt:g < w.heap.size:=(Array.getElem?_eq_some_iff.1 h).1
theorem Blk.cell (i:Nat):w.cell? ⟨g,i,none⟩ = cs[i]?:=cell_of_row w g i cs T (0,0) h
theorem Blk.frozen (i:Nat):w.frozen? ⟨g,i,none⟩ = false:=frozen_of_row _ _ _ _ _ h
theorem Blk.drew:Blk w.drew g T cs:=h
theorem Blk.drewN (n:Nat):Blk (w.drewN n) g T cs:=h
theorem Blk.below (hb:Below w.heap.size w w'):Blk w' g T cs:=by
  have hl:=h.lt
  unfold Blk at h ⊢
  rw [hb.block g hl]; exact h
theorem Blk.alloc (o:Obj):Blk (w.alloc o) g T cs:=h.below ((Below.refl _ _).alloc (Nat.le_refl _) o)
theorem Blk.set (i:Nat) (u:Value):Blk (w.setCell ⟨g,i,none⟩ u) g T (cs.set! i u):=heap_setCell_same w g i _ _ u h
theorem Blk.far {b:Nat} (hb:b ≠ g) (o:Nat) (u:Value):Blk (w.setCell ⟨b,o,none⟩ u) g T cs:=by
  unfold Blk at h ⊢
  rw [Below.heap_setCell _ _ _ _ hb.symm]; exact h
theorem Blk.grown {row:Option Nat} (hb:w.grownBy w' row) (hg:some g ≠ row):Blk w' g T cs:=by
  have hl:=h.lt
  unfold Blk at h ⊢
  rw [hb.block g hl hg]; exact h
theorem Blk.range:w.rangeAt g 0 cs.toList:=by
  intro j v hv
  rw [cell_of_row _ _ _ _ _ _ h,Nat.zero_add]
  simpa using hv
end
theorem Blk.new (w:World) (T:TypeId) (cs:Array Value):Blk (w.alloc (.cells cs T)) w.heap.size T cs:=heap_alloc_new w _
theorem flatK_two (k:Nat) (f:Nat→Nat→Value):flatK 2 (k + 1) f = flatK 2 k f ++ [f k 0,f k 1]:=by
  unfold flatK
  rw [show (k + 1) * 2 = k * 2 + 1 + 1 by omega,List.range_succ,List.range_succ,List.map_append,List.map_append,List.append_assoc]
  congr 1
  show [f (k * 2 / 2) (k * 2 % 2),f ((k * 2 + 1) / 2) ((k * 2 + 1) % 2)] = _
  rw [show k * 2 / 2 = k by omega,show k * 2 % 2 = 0 by omega,show (k * 2 + 1) / 2 = k by omega,show (k * 2 + 1) % 2 = 1 by omega]
theorem flatK_none (K:Nat) (f:Nat→Nat→Value):flatK K 0 f = []:=by simp [flatK]
theorem Bk.infoTold:(Tryz.prog.info? 241).map (fun i => (i.zero,i.size,i.bytes)) = some (some (.agg #[.int .i64 0,.int .i64 0]),2,16):=by kernel_rfl
theorem Two.grown {w w':World} {g:Nat} {x y:Value} (h:Two w g x y) {row:Option Nat} (hb:w.grownBy w' row) (hg:some g ≠ row):Two w' g x y:=by
  have hl:=h.lt
  obtain ⟨T,h⟩:=h
  exact ⟨T,by rw [hb.block g hl hg]; exact h⟩
theorem own_far {B n e size:Nat} {v:Value} {xs:List Value} {w:World} (h:w.ownsRow B e size v n xs) {b:Nat} (hb:∀ k,v.ownBlock = some k→k ≠ b) (o:Nat) (u:Value):(w.setCell ⟨b,o,none⟩ u).ownsRow B e size v n xs:=by
  refine ⟨h.1,?_⟩
  rcases h.2 with hn | ⟨k,cap,cur,rfl,hB,hk,rest⟩
  · exact .inl hn
  · exact .inr ⟨k,cap,cur,rfl,hB,by rw [Below.heap_setCell _ _ _ _ (hb k rfl)]; exact hk,rest⟩
def TRow (B:Nat) (w:World) (v:Value) (k:Nat) (o:Nat→Option Int):Prop:=w.ownsRow B 241 2 v k (flatK 2 k (tcell o))
theorem told_64 {x y:Int} (h:told x = some y):In64 y:=(told_some h).1 ▸ (told_some h).2
theorem shortO_64 {rate x y:Int} (h:shortO rate x = some y):In64 y:=by
  unfold shortO at h
  split at h
  · cases hp:told (plainI rate x) with
    | none => rw [hp] at h; cases h
    | some p => rw [hp] at h; exact told_64 (show told (0 - p) = some y from h)
  · cases h; unfold In64; omega
def AccPost (t:Rates) (f:Nat→Int) (bv:Value) (w:World) (e:Ending) (w':World):Prop:=∃ gw cw gs cs,e = .returned (.agg #[bv,.slice (some ⟨gw,0,none⟩) t.n cw,.slice (some ⟨gs,0,none⟩) t.n cs,.int .i64 (on (t.net f)),.int .i64 (oe (t.net f)),.int .i64 (on (t.short f)),.int .i64 (oe (t.short f))]) ∧
  RowK w' gw 2 t.n (tcell fun i => worthO (t.rate i) (t.cut i) (f i))∧RowK w' gs 2 t.n (tcell fun i => shortO (t.rate i) (f i))∧gw ≠ gs∧w.heap.size≤gw∧w.heap.size≤gs∧t.n≤cw∧t.n≤cs∧Ty w' gw 241∧Ty w' gs 241∧Below w.heap.size w w'
abbrev zero7:Array Value:=#[.slice none 0 0,.slice none 0 0,.slice none 0 0,.int .i64 0,.int .i64 0,.int .i64 0,.int .i64 0]
structure AcE (H A gw gs n:Nat) (bv wv sv:Value) (ow os:Nat→Option Int) (w wx:World):Prop where
  rw_:RowK wx gw 2 n (tcell ow)
  rs:RowK wx gs 2 n (tcell os)
  tw:Ty wx gw 241
  ts:Ty wx gs 241
  blk:∃ x3 x4 x5 x6,Blk wx A 243 #[bv,wv,sv,x3,x4,x5,x6]
  h0:Blk wx H 243 zero7
  hb:Below H w wx
def AcC (H A gw gs n:Nat) (bv wv sv:Value) (ow os:Nat→Option Int) (w wx w':World):Prop:=(w'.cell? ⟨A,1,none⟩ = some wv∧w'.cell? ⟨A,2,none⟩ = some sv∧AcE H A gw gs n bv wv sv ow os w w')∧Below wx.heap.size wx w'∧∃ x3 x4 x5 x6,(w'.cell? ⟨A,3,none⟩ = some x3∧w'.cell? ⟨A,4,none⟩ = some x4∧w'.cell? ⟨A,5,none⟩ = some x5∧w'.cell? ⟨A,6,none⟩ = some x6)∧(w'.frozen? ⟨A,3,none⟩ = false∧w'.frozen? ⟨A,4,none⟩ = false∧w'.frozen? ⟨A,5,none⟩ = false∧w'.frozen? ⟨A,6,none⟩ = false)
theorem AcE.call {H A gw gs n:Nat} {bv wv sv:Value} {ow os:Nat→Option Int} {w wx w':World} (h:AcE H A gw gs n bv wv sv ow os w wx) (hb:Below wx.heap.size wx w') (hH:H≤wx.heap.size):AcC H A gw gs n bv wv sv ow os w wx w':=by
  obtain ⟨x3,x4,x5,x6,hk⟩:=h.blk
  have hk':=hk.below hb
  refine ⟨⟨(hk'.cell 1).trans rfl,(hk'.cell 2).trans rfl,h.rw_.below hb,h.rs.below hb,h.tw.below hb,h.ts.below hb,⟨x3,x4,x5,x6,hk'⟩,h.h0.below hb,h.hb.trans (hb.mono hH)⟩,hb,x3,x4,x5,x6,⟨(hk'.cell 3).trans rfl,(hk'.cell 4).trans rfl,(hk'.cell 5).trans rfl,(hk'.cell 6).trans rfl⟩,hk'.frozen 3,hk'.frozen 4,hk'.frozen 5,hk'.frozen 6⟩
theorem AcE.store {H A gw gs n:Nat} {bv wv sv:Value} {ow os:Nat→Option Int} {w wx:World} (h:wx.cell? ⟨A,1,none⟩ = some wv∧wx.cell? ⟨A,2,none⟩ = some sv∧AcE H A gw gs n bv wv sv ow os w wx) (hw:gw ≠ A) (hs:gs ≠ A) (hA:H < A) (j:Nat) (hj:j = 3∨j = 4∨j = 5∨j = 6) (v:Value) :
    (wx.setCell ⟨A,j,none⟩ v).cell? ⟨A,1,none⟩ = some wv∧(wx.setCell ⟨A,j,none⟩ v).cell? ⟨A,2,none⟩ = some sv∧AcE H A gw gs n bv wv sv ow os w (wx.setCell ⟨A,j,none⟩ v):=by
  obtain ⟨x3,x4,x5,x6,hk⟩:=h.2.2.blk
  have hk':=hk.set j v
  have hne:∀ o,(⟨A,o,none⟩:Addr) = ⟨A,j,none⟩→o = j:=fun o e => by injection e
  refine ⟨(World.cell?_setCell_other _ _ _ _ (fun e => by have:=hne _ e.symm; omega)).trans h.1,(World.cell?_setCell_other _ _ _ _ (fun e => by have:=hne _ e.symm; omega)).trans h.2.1,h.2.2.rw_.far hw.symm _ _,h.2.2.rs.far hs.symm _ _,h.2.2.tw.set _ _ _,h.2.2.ts.set _ _ _,?_,h.2.2.h0.far (by omega) _ _,h.2.2.hb.setCell (by show H≤A; omega) _⟩
  rcases hj with rfl | rfl | rfl | rfl
  · exact ⟨v,x4,x5,x6,hk'⟩
  · exact ⟨x3,v,x5,x6,hk'⟩
  · exact ⟨x3,x4,v,x6,hk'⟩
  · exact ⟨x3,x4,x5,v,hk'⟩
set_option maxRecDepth 100000 in
set_option maxHeartbeats 4000000 in
theorem Bk.account {w:World} {b l:Nat} {tv av:Value} {t:Rates} {code:Nat→ByteArray} (h:WorAt w b tv l av) (ht:SlT w tv t code) (ho:t.Ok) (bv:Value) (f:Nat→Int) (hbv:SlI w bv t.n f) (hf:∀ i,i < t.n→In64 (f i)) :
    Calls Tryz.prog 136 #[.pointer (some ⟨b,0,none⟩),bv] w (AccPost t f bv w):=by
  obtain ⟨i0,hi,hz0,hz1,hz2⟩:=info_parts Bk.infoTold
  have HONE:=Lib.hid (fun (w1:World) (hb:Below w.heap.size w w1) (k:Nat) (hk:k < t.n) => Bk.one (h.below hb) (ht.below hb) ho k hk (f k) (hf k hk))
  have HO:=Lib.hid ho
  have n1:=ho.pos
  have n8:=ho.le
  obtain ⟨ba,bc,rfl,hc⟩:=hbv
  obtain ⟨bb,bo,rfl,hc2⟩:=hc (by omega)
  have HC:=Lib.hid hc2
  clear hc hc2 h ht ho hf
  have hn8:(t.n:Int)≤8:=by omega
  have HB0:=Lib.hid (((Below.refl w.heap.size w).alloc (Nat.le_refl _) (.cells zero7 243)).alloc (by simp) (.cells #[.slice (some ⟨bb,bo,none⟩) t.n bc,.slice none 0 0,.slice none 0 0,.int .i64 0,.int .i64 0,.int .i64 0,.int .i64 0] 243))
  have hA1:=(Blk.new w 243 zero7).alloc (.cells #[.slice (some ⟨bb,bo,none⟩) t.n bc,.slice none 0 0,.slice none 0 0,.int .i64 0,.int .i64 0,.int .i64 0,.int .i64 0] 243)
  have hA2:=Blk.new (w.alloc (.cells zero7 243)) 243 #[.slice (some ⟨bb,bo,none⟩) t.n bc,.slice none 0 0,.slice none 0 0,.int .i64 0,.int .i64 0,.int .i64 0,.int .i64 0]
  rw [World.size_alloc] at hA2
  have HA1:=Lib.hid hA1
  have HA2:=Lib.hid hA2
  clear hA1 hA2
  go_enter Tryz.func136,Tryz.ntmps136
  go_wp2
  go_loopw [14] (fun i wr => ∃ (k:Nat) (wv sv:Value),k≤t.n∧i = .int .i64 k∧Blk wr w.heap.size 243 zero7∧Blk wr (w.heap.size + 1) 243 #[.slice (some ⟨bb,bo,none⟩) t.n bc,wv,sv,.int .i64 0,.int .i64 0,.int .i64 0,.int .i64 0] ∧
    TRow (w.heap.size + 2) wr wv k (fun i => worthO (t.rate i) (t.cut i) (f i))∧TRow (w.heap.size + 2) wr sv k (fun i => shortO (t.rate i) (f i))∧(∀ g,wv.ownBlock = some g→sv.ownBlock ≠ some g)∧Below w.heap.size w wr) (fun i _ => t.n - (intOf i).toNat)
  case atStart => exact ⟨0,_,_,by omega,rfl,HA1.out,HA2.out,World.ownsRow_nil _ _ _ _,World.ownsRow_nil _ _ _ _,(fun g h => by cases h),HB0.out⟩
  case round =>
    obtain ⟨k,wv,sv,hk,rfl,h1,h2,hw,hs,hne,hb⟩:=hrel
    have HB:=Lib.hid hb
    have H1:=Lib.hid h1
    have HNE:=Lib.hid hne
    clear hb h1 hne
    generalize hH:w.heap.size = H at *
    have HE:=Lib.hid hH
    clear hH
    obtain ⟨wa,wc,rfl⟩:∃ a c,wv = .slice a k c:=by
      rcases hw.2 with ⟨rfl,rfl⟩ | ⟨g,cap,cur,rfl,_⟩
      · exact ⟨none,0,rfl⟩
      · exact ⟨_,_,rfl⟩
    obtain ⟨sa,sc,rfl⟩:∃ a c,sv = .slice a k c:=by
      rcases hs.2 with ⟨rfl,rfl⟩ | ⟨g,cap,cur,rfl,_⟩
      · exact ⟨none,0,rfl⟩
      · exact ⟨_,_,rfl⟩
    by_cases hlt:k < t.n
    · have q1:(k:Int) < (t.n:Int):=by omega
      have hcb:=Bk.kept (HE.out ▸ HB.out:Below w.heap.size w wr) (HC.out k hlt)
      have hone:=Lib.hid (HONE.out wr HB.out k hlt)
      have HW:=Lib.hid hw
      have HS:=Lib.hid hs
      have H2:=Lib.hid h2
      clear hw hs h2
      have ew:∀ j,tcell (fun i => worthO (t.rate i) (t.cut i) (f i)) k j = if j = 0 then .int .i64 (on (worthO (t.rate k) (t.cut k) (f k))) else .int .i64 (oe (worthO (t.rate k) (t.cut k) (f k))):=fun j => rfl
      have es:∀ j,tcell (fun i => shortO (t.rate i) (f i)) k j = if j = 0 then .int .i64 (on (shortO (t.rate k) (f k))) else .int .i64 (oe (shortO (t.rate k) (f k))):=fun j => rfl
      have FW:=Lib.hid (flatK_two k (tcell fun i => worthO (t.rate i) (t.cut i) (f i)))
      have FS:=Lib.hid (flatK_two k (tcell fun i => shortO (t.rate i) (f i)))
      rw [ew,ew] at FW
      rw [es,es] at FS
      simp only [if_true,show ¬ (1:Nat) = 0 by omega,if_false] at FW FS
      clear ew es
      unfold oc at hone
      generalize on (worthO (t.rate k) (t.cut k) (f k)) = N at *
      generalize oe (worthO (t.rate k) (t.cut k) (f k)) = E at *
      generalize on (shortO (t.rate k) (f k)) = S at *
      generalize oe (shortO (t.rate k) (f k)) = F at *
      generalize f k = x at *
      go_wp2_with fail
      refine hone.out.mono ?_
      rintro e w2 ⟨rfl,hb2⟩
      have HB2:=Lib.hid (HB.out.trans (hb2.mono (HE.out ▸ HB.out.size)))
      have h2':=H2.out.below hb2
      have HW2:=Lib.hid (own_below HW.out hb2)
      have HS2:=Lib.hid (own_below HS.out hb2)
      have H12:=Lib.hid (H1.out.below hb2)
      have lA:=h2'.lt
      have lB:=H12.out.lt
      have BB:=Lib.hid (((Below.refl w2.heap.size w2).alloc (Nat.le_refl _) (.cells #[.int .i64 N,.int .i64 E] 241)).alloc (by simp) (.cells #[.int .i64 S,.int .i64 F] 241))
      have X1:=Lib.hid ((Two.new w2 (.int .i64 N) (.int .i64 E) 241).alloc (.cells #[.int .i64 S,.int .i64 F] 241))
      have x2:=Two.new (w2.alloc (.cells #[.int .i64 N,.int .i64 E] 241)) (.int .i64 S) (.int .i64 F) 241
      rw [World.size_alloc] at x2
      have X2:=Lib.hid x2
      have H22:=Lib.hid (h2'.below BB.out)
      have HW3:=Lib.hid (own_below HW2.out BB.out)
      have HS3:=Lib.hid (own_below HS2.out BB.out)
      have H13:=Lib.hid (H12.out.below BB.out)
      have HB3:=Lib.hid (HB2.out.trans (BB.out.mono (HE.out ▸ HB2.out.size)))
      have OW:=Lib.hid (fun k hk => HW2.out.lt k hk)
      have OS:=Lib.hid (fun k hk => HS2.out.lt k hk)
      have LZ:=Lib.hid (And.intro lA lB)
      clear hb2 h2' hcb lA lB x2 BB
      go_upto_region 6 with (fail)
      generalize (w2.alloc (.cells #[.int .i64 N,.int .i64 E] 241)).alloc (.cells #[.int .i64 S,.int .i64 F] 241) = W0 at *
      obtain ⟨z',hz'⟩:∃ z',w2.heap.size + 1 = z':=⟨_,rfl⟩
      rw [hz'] at X2 ⊢
      have HZ':=Lib.hid hz'
      clear hz'
      generalize w2.heap.size = z at *
      have c1:W0.cell? ⟨H + 1,1,none⟩ = some (.slice wa k wc):=(H22.out.cell 1).trans rfl
      have z1:=H22.out.frozen 1
      have y1:=X1.out.c0
      have y2:=X1.out.c1
      have l1:=H22.out.lt
      have l2:=H13.out.lt
      have l3:=X1.out.lt
      go_wp2_with (at_builtin; with_reducible refine wpList_append_lies _ rfl (.tmp 27) (.tmp 29) 239 rfl (H + 2) 241 i0 _ 2 16 Tryz.underlying239 hi hz0 hz1 hz2 rfl (by decide) _ _ _ rfl (HW3.out.alloc _) ⟨W0.heap.size,0,none⟩ 1 1 [.int .i64 N,.int .i64 E] rfl rfl ?c1 ?c2 (by decide) ?c3 ?c4 ?c5 _ rfl ?_)
      case c1 => intro x u hx; rw [WideShapes.add_plain]; exact (Two.new W0 (.int .i64 N) (.int .i64 E) 241).range x u hx
      case c2 => intro u hu; simp at hu; rcases hu with rfl | rfl <;> rfl
      case c3 => unfold maxLen; omega
      case c4 => omega
      case c5 => simp; omega
      intro g1 cap1 w3 hown1 hgrow1 hg1 hgl1
      have hrow:∀ q,(q = H∨q = H + 1∨q = z∨q = z')→some q ≠ (Value.slice wa k wc).ownBlock:=fun q hq e => by have:=OW.out q e.symm; have:=LZ.out; have:=HZ'.out; omega
      have ha0:=(Below.refl W0.heap.size W0).alloc (Nat.le_refl _) (.cells #[.int .i64 N,.int .i64 E] 241)
      have H23:=Lib.hid ((H22.out.alloc _).grown hgrow1 (hrow _ (by simp)))
      have H14:=Lib.hid ((H13.out.alloc _).grown hgrow1 (hrow _ (by simp)))
      have HX2:=Lib.hid ((X2.out.alloc _).grown hgrow1 (hrow _ (by simp)))
      have HS4:=Lib.hid ((HS3.out.alloc (.cells #[.int .i64 N,.int .i64 E] 241)).kept hgrow1 (by
        cases hv:(Value.slice sa k sc).ownBlock with
        | none => exact .inl rfl
        | some q => exact .inr fun e => HNE.out q e.symm hv))
      have HB4:=Lib.hid ((HB3.out.alloc (HE.out ▸ HB3.out.size) (.cells #[.int .i64 N,.int .i64 E] 241)).grown hgrow1 (by simp; have:=HE.out ▸ HB3.out.size; omega) (fun q hq => by have:=OW.out q hq; omega))
      rw [← FW.out] at hown1
      have HW4:=Lib.hid hown1
      have G1:=Lib.hid (And.intro hg1 (And.intro hgl1 l3))
      have GS:=Lib.hid hgrow1.size
      clear hown1 hgrow1 hg1 hgl1 hrow ha0 c1 z1 y1 y2 l1 l2 l3
      have c1:w3.cell? ⟨H + 1,1,none⟩ = some (.slice wa k wc):=(H23.out.cell 1).trans rfl
      have z1:=H23.out.frozen 1
      have H25:Blk (w3.setCell ⟨H + 1,1,none⟩ (.slice (some ⟨g1,0,none⟩) (k + 1) cap1)) (H + 1) 243 #[.slice (some ⟨bb,bo,none⟩) t.n bc,.slice (some ⟨g1,0,none⟩) (k + 1) cap1,.slice sa k sc,.int .i64 0,.int .i64 0,.int .i64 0,.int .i64 0]:=H23.out.set 1 _
      have H25:=Lib.hid H25
      have H15:=Lib.hid (H14.out.far (b:=H + 1) (by omega) 1 (.slice (some ⟨g1,0,none⟩) (k + 1) cap1))
      have HX3:=Lib.hid (HX2.out.far (b:=H + 1) (by have:=LZ.out; have:=HZ'.out; omega) 1 (.slice (some ⟨g1,0,none⟩) (k + 1) cap1))
      have HW5:=Lib.hid (own_far HW4.out (b:=H + 1) (fun q hq => by have:=(HW4.out.lt q hq).1; omega) 1 (.slice (some ⟨g1,0,none⟩) (k + 1) cap1))
      have HS5:=Lib.hid (own_far HS4.out (b:=H + 1) (fun q hq => by have:=(HS4.out.lt q hq).1; omega) 1 (.slice (some ⟨g1,0,none⟩) (k + 1) cap1))
      have HB5:=Lib.hid (HB4.out.setCell (p:=⟨H + 1,1,none⟩) (Nat.le_succ H) (.slice (some ⟨g1,0,none⟩) (k + 1) cap1))
      have SZ:=Lib.hid (show (w3.setCell ⟨H + 1,1,none⟩ (.slice (some ⟨g1,0,none⟩) (k + 1) cap1)).heap.size = w3.heap.size by simp [World.setCell])
      go_upto_region 7 with (fail)
      generalize w3.setCell ⟨H + 1,1,none⟩ (.slice (some ⟨g1,0,none⟩) (k + 1) cap1) = W1 at *
      clear c1 z1
      have c1:W1.cell? ⟨H + 1,2,none⟩ = some (.slice sa k sc):=(H25.out.cell 2).trans rfl
      have z1:=H25.out.frozen 2
      have y1:=HX3.out.c0
      have y2:=HX3.out.c1
      have l1:=H25.out.lt
      have l2:=H15.out.lt
      have l3:=HX3.out.lt
      go_wp2_with (at_builtin; with_reducible refine wpList_append_lies _ rfl (.tmp 33) (.tmp 35) 239 rfl (H + 2) 241 i0 _ 2 16 Tryz.underlying239 hi hz0 hz1 hz2 rfl (by decide) _ _ _ rfl (HS5.out.alloc _) ⟨W1.heap.size,0,none⟩ 1 1 [.int .i64 S,.int .i64 F] rfl rfl ?d1 ?d2 (by decide) ?d3 ?d4 ?d5 _ rfl ?_)
      case d1 => intro x u hx; rw [WideShapes.add_plain]; exact (Two.new W1 (.int .i64 S) (.int .i64 F) 241).range x u hx
      case d2 => intro u hu; simp at hu; rcases hu with rfl | rfl <;> rfl
      case d3 => unfold maxLen; omega
      case d4 => omega
      case d5 => simp; omega
      intro g2 cap2 w4 hown2 hgrow2 hg2 hgl2
      have hrow:∀ q,(q = H∨q = H + 1)→some q ≠ (Value.slice sa k sc).ownBlock:=fun q hq e => by have:=OS.out q e.symm; have:=LZ.out; omega
      have H26:=Lib.hid ((H25.out.alloc _).grown hgrow2 (hrow _ (by simp)))
      have H16:=Lib.hid ((H15.out.alloc _).grown hgrow2 (hrow _ (by simp)))
      have hg1s:∀ q,(Value.slice sa k sc).ownBlock = some q→q ≠ g1:=fun q hq e => by
        subst e
        have h1:=OS.out q hq
        rcases G1.out.1 with h | h
        · exact HNE.out q h hq
        · have:=G1.out.2.2; omega
      have HW6:=Lib.hid ((HW5.out.alloc (.cells #[.int .i64 S,.int .i64 F] 241)).kept hgrow2 (.inr fun e => hg1s g1 e.symm rfl))
      have hne2:g1 ≠ g2:=fun e => by
        subst e
        rcases hg2 with h | h
        · exact hg1s g1 h rfl
        · have h1:=G1.out.2.1
          have h2:=SZ.out
          rw [h,h2] at h1
          omega
      have HB6:=Lib.hid ((HB5.out.alloc (HE.out ▸ HB5.out.size) (.cells #[.int .i64 S,.int .i64 F] 241)).grown hgrow2 (by simp; have:=HE.out ▸ HB5.out.size; omega) (fun q hq => by have:=OS.out q hq; omega))
      rw [← FS.out] at hown2
      have HS6:=Lib.hid hown2
      have HN2:=Lib.hid hne2
      clear hown2 hgrow2 hg2 hgl2 hrow hg1s hne2 c1 z1 y1 y2 l1 l2 l3
      have c1:w4.cell? ⟨H + 1,2,none⟩ = some (.slice sa k sc):=(H26.out.cell 2).trans rfl
      have z1:=H26.out.frozen 2
      have H27:Blk (w4.setCell ⟨H + 1,2,none⟩ (.slice (some ⟨g2,0,none⟩) (k + 1) cap2)) (H + 1) 243 #[.slice (some ⟨bb,bo,none⟩) t.n bc,.slice (some ⟨g1,0,none⟩) (k + 1) cap1,.slice (some ⟨g2,0,none⟩) (k + 1) cap2,.int .i64 0,.int .i64 0,.int .i64 0,.int .i64 0]:=H26.out.set 2 _
      have H27:=Lib.hid H27
      have H17:=Lib.hid (H16.out.far (b:=H + 1) (by omega) 2 (.slice (some ⟨g2,0,none⟩) (k + 1) cap2))
      have HW7:=Lib.hid (own_far HW6.out (b:=H + 1) (fun q hq => by have:=(HW6.out.lt q hq).1; omega) 2 (.slice (some ⟨g2,0,none⟩) (k + 1) cap2))
      have HS7:=Lib.hid (own_far HS6.out (b:=H + 1) (fun q hq => by have:=(HS6.out.lt q hq).1; omega) 2 (.slice (some ⟨g2,0,none⟩) (k + 1) cap2))
      have HB7:=Lib.hid (HB6.out.setCell (p:=⟨H + 1,2,none⟩) (Nat.le_succ H) (.slice (some ⟨g2,0,none⟩) (k + 1) cap2))
      go_wp2
      go_roundw
      case rel => exact ⟨k + 1,_,_,by omega,by go_num,H17.out,H27.out,HW7.out,HS7.out,fun q hq h => by simp [Value.ownBlock] at hq h; have:=HN2.out; omega,HB7.out⟩
      case measure => simp [intOf]; omega
    · obtain rfl:k = t.n:=by omega
      have hcn:t.net f = chain 0 (olist t.n fun i => worthO (t.rate i) (t.cut i) (f i)):=rfl
      have hcs:t.short f = chain 0 (olist t.n fun i => shortO (t.rate i) (f i)):=rfl
      obtain ⟨gw,rfl⟩:∃ g,wa = some ⟨g,0,none⟩:=by
        rcases hw.2 with ⟨_,h⟩ | ⟨g,cap,cur,h,_⟩
        · omega
        · simp only [Value.slice.injEq] at h; exact ⟨g,h.1⟩
      obtain ⟨gs,rfl⟩:∃ g,sa = some ⟨g,0,none⟩:=by
        rcases hs.2 with ⟨_,h⟩ | ⟨g,cap,cur,h,_⟩
        · omega
        · simp only [Value.slice.injEq] at h; exact ⟨g,h.1⟩
      obtain ⟨rw1,bw1,cw1⟩:=RowK.of_own hw
      obtain ⟨rs1,bs1,cs1⟩:=RowK.of_own hs
      have tw1:=Ty.of_own hw
      have ts1:=Ty.of_own hs
      have hsz:=HB.out.size
      rw [HE.out] at hsz
      have hE0:AcE H (H + 1) gw gs t.n (.slice (some ⟨bb,bo,none⟩) t.n bc) (.slice (some ⟨gw,0,none⟩) t.n wc) (.slice (some ⟨gs,0,none⟩) t.n sc) (fun i => worthO (t.rate i) (t.cut i) (f i)) (fun i => shortO (t.rate i) (f i)) w wr:=⟨rw1,rs1,tw1,ts1,⟨_,_,_,_,h2⟩,H1.out,HB.out⟩
      have HEX:=Lib.hid hE0
      have a1:wr.cell? ⟨H + 1,1,none⟩ = some (.slice (some ⟨gw,0,none⟩) t.n wc):=(h2.cell 1).trans rfl
      have a2:wr.cell? ⟨H + 1,2,none⟩ = some (.slice (some ⟨gs,0,none⟩) t.n sc):=(h2.cell 2).trans rfl
      have SS:=Lib.hid (show wr.drew.cell? ⟨H + 1,1,none⟩ = some (.slice (some ⟨gw,0,none⟩) t.n wc)∧wr.drew.cell? ⟨H + 1,2,none⟩ = some (.slice (some ⟨gs,0,none⟩) t.n sc)∧AcE H (H + 1) gw gs t.n (.slice (some ⟨bb,bo,none⟩) t.n bc) (.slice (some ⟨gw,0,none⟩) t.n wc) (.slice (some ⟨gs,0,none⟩) t.n sc) (fun i => worthO (t.rate i) (t.cut i) (f i)) (fun i => shortO (t.rate i) (f i)) w wr.drew from ⟨a1,a2,hE0.rw_,hE0.rs,hE0.tw,hE0.ts,hE0.blk,hE0.h0,hE0.hb.drew⟩)
      have CW:=Lib.hid (fun (wx:World) (h:wx.cell? ⟨H + 1,1,none⟩ = some (.slice (some ⟨gw,0,none⟩) t.n wc)∧wx.cell? ⟨H + 1,2,none⟩ = some (.slice (some ⟨gs,0,none⟩) t.n sc)∧AcE H (H + 1) gw gs t.n (.slice (some ⟨bb,bo,none⟩) t.n bc) (.slice (some ⟨gw,0,none⟩) t.n wc) (.slice (some ⟨gs,0,none⟩) t.n sc) (fun i => worthO (t.rate i) (t.cut i) (f i)) (fun i => shortO (t.rate i) (f i)) w wx) => (Bk.chainW (SlK.of_row (c:=wc) h.2.2.rw_) hn8 (fun i x _ h => told_64 h)).mono fun e w' h' => (⟨h'.1,h.2.2.call h'.2 (by have:=h.2.2.h0.lt; omega)⟩:e = .returned (.agg (oc (chain 0 (olist t.n fun i => worthO (t.rate i) (t.cut i) (f i)))))∧AcC H (H + 1) gw gs t.n (.slice (some ⟨bb,bo,none⟩) t.n bc) (.slice (some ⟨gw,0,none⟩) t.n wc) (.slice (some ⟨gs,0,none⟩) t.n sc) (fun i => worthO (t.rate i) (t.cut i) (f i)) (fun i => shortO (t.rate i) (f i)) w wx w'))
      have CS:=Lib.hid (fun (wx:World) (h:wx.cell? ⟨H + 1,1,none⟩ = some (.slice (some ⟨gw,0,none⟩) t.n wc)∧wx.cell? ⟨H + 1,2,none⟩ = some (.slice (some ⟨gs,0,none⟩) t.n sc)∧AcE H (H + 1) gw gs t.n (.slice (some ⟨bb,bo,none⟩) t.n bc) (.slice (some ⟨gw,0,none⟩) t.n wc) (.slice (some ⟨gs,0,none⟩) t.n sc) (fun i => worthO (t.rate i) (t.cut i) (f i)) (fun i => shortO (t.rate i) (f i)) w wx) => (Bk.chainW (SlK.of_row (c:=sc) h.2.2.rs) hn8 (fun i x _ h => shortO_64 h)).mono fun e w' h' => (⟨h'.1,h.2.2.call h'.2 (by have:=h.2.2.h0.lt; omega)⟩:e = .returned (.agg (oc (chain 0 (olist t.n fun i => shortO (t.rate i) (f i)))))∧AcC H (H + 1) gw gs t.n (.slice (some ⟨bb,bo,none⟩) t.n bc) (.slice (some ⟨gw,0,none⟩) t.n wc) (.slice (some ⟨gs,0,none⟩) t.n sc) (fun i => worthO (t.rate i) (t.cut i) (f i)) (fun i => shortO (t.rate i) (f i)) w wx w'))
      rw [← hcn] at CW
      rw [← hcs] at CS
      have NE:=Lib.hid (And.intro (show gw ≠ H + 1 by omega) (show gs ≠ H + 1 by omega))
      clear hw hs h2 hE0 hcn hcs rw1 rs1
      generalize how:(fun i => worthO (t.rate i) (t.cut i) (f i)) = ow at *
      have Eow:=Lib.hid how
      clear how
      generalize hos:(fun i => shortO (t.rate i) (f i)) = os at *
      have Eos:=Lib.hid hos
      clear hos
      unfold oc at CW CS
      generalize hN:on (t.net f) = N at *
      have EN:=Lib.hid hN
      clear hN
      generalize hE:oe (t.net f) = E at *
      have EE:=Lib.hid hE
      clear hE
      generalize hS:on (t.short f) = S at *
      have ES:=Lib.hid hS
      clear hS
      generalize hF:oe (t.short f) = F at *
      have EF:=Lib.hid hF
      clear hF
      go_upto_region 9 with (fail)
      have K2:=Lib.hid (fun (wx:World) (u v:Value) (h:wx.cell? ⟨H + 1,1,none⟩ = some (.slice (some ⟨gw,0,none⟩) t.n wc)∧wx.cell? ⟨H + 1,2,none⟩ = some (.slice (some ⟨gs,0,none⟩) t.n sc)∧AcE H (H + 1) gw gs t.n (.slice (some ⟨bb,bo,none⟩) t.n bc) (.slice (some ⟨gw,0,none⟩) t.n wc) (.slice (some ⟨gs,0,none⟩) t.n sc) ow os w wx) => AcE.store (AcE.store h NE.out.1 NE.out.2 (Nat.lt_succ_self H) 3 (by simp) u) NE.out.1 NE.out.2 (Nat.lt_succ_self H) 4 (by simp) v)
      have K3:=Lib.hid (fun (wx:World) (u v:Value) (h:wx.cell? ⟨H + 1,1,none⟩ = some (.slice (some ⟨gw,0,none⟩) t.n wc)∧wx.cell? ⟨H + 1,2,none⟩ = some (.slice (some ⟨gs,0,none⟩) t.n sc)∧AcE H (H + 1) gw gs t.n (.slice (some ⟨bb,bo,none⟩) t.n bc) (.slice (some ⟨gw,0,none⟩) t.n wc) (.slice (some ⟨gs,0,none⟩) t.n sc) ow os w wx) => AcE.store (AcE.store h NE.out.1 NE.out.2 (Nat.lt_succ_self H) 5 (by simp) u) NE.out.1 NE.out.2 (Nat.lt_succ_self H) 6 (by simp) v)
      clear a1 a2
      go_region_held3 (fun wx => wx.cell? ⟨H + 1,1,none⟩ = some (.slice (some ⟨gw,0,none⟩) t.n wc)∧wx.cell? ⟨H + 1,2,none⟩ = some (.slice (some ⟨gs,0,none⟩) t.n sc)∧AcE H (H + 1) gw gs t.n (.slice (some ⟨bb,bo,none⟩) t.n bc) (.slice (some ⟨gw,0,none⟩) t.n wc) (.slice (some ⟨gs,0,none⟩) t.n sc) ow os w wx) (first | (with_reducible assumption) | (with_reducible exact SS.out) | (with_reducible exact K2.out _ _ _ (by assumption)) | (with_reducible exact K3.out _ _ _ (by assumption)))
        (first | (go_at_call_of 170 (Value.slice (some ⟨gw,0,none⟩) t.n wc); ((with_reducible refine (CW.out _ (by assumption)).mono ?_); rintro e w7 ⟨rfl,hs7,hb7,x3,x4,x5,x6,⟨q3,q4,q5,q6⟩,f3,f4,f5,f6⟩; have HB7:=Lib.hid hb7; clear hb7)) | (go_at_call_of 170 (Value.slice (some ⟨gs,0,none⟩) t.n sc); ((with_reducible refine (CS.out _ (by assumption)).mono ?_); rintro e w8 ⟨rfl,hs8,hb8,x3,x4,x5,x6,⟨q3,q4,q5,q6⟩,f3,f4,f5,f6⟩; have HB8:=Lib.hid hb8; clear hb8)))
      clear q3 q4 q5 q6 f3 f4 f5 f6
      obtain ⟨y3,y4,y5,y6,hbk⟩:=hs8.2.2.blk
      have hfin:Blk ((((w8.setCell ⟨H + 1,3,none⟩ (.int .i64 N)).setCell ⟨H + 1,4,none⟩ (.int .i64 E)).setCell ⟨H + 1,5,none⟩ (.int .i64 S)).setCell ⟨H + 1,6,none⟩ (.int .i64 F)) (H + 1) 243 #[.slice (some ⟨bb,bo,none⟩) t.n bc,.slice (some ⟨gw,0,none⟩) t.n wc,.slice (some ⟨gs,0,none⟩) t.n sc,.int .i64 N,.int .i64 E,.int .i64 S,.int .i64 F]:=(((hbk.set 3 _).set 4 _).set 5 _).set 6 _
      have HX:=Lib.hid (show AcE H (H + 1) gw gs t.n (.slice (some ⟨bb,bo,none⟩) t.n bc) (.slice (some ⟨gw,0,none⟩) t.n wc) (.slice (some ⟨gs,0,none⟩) t.n sc) ow os w ((((w8.setCell ⟨H + 1,3,none⟩ (.int .i64 N)).setCell ⟨H + 1,4,none⟩ (.int .i64 E)).setCell ⟨H + 1,5,none⟩ (.int .i64 S)).setCell ⟨H + 1,6,none⟩ (.int .i64 F)) from ((by assumption:_∧_∧AcE H (H + 1) gw gs t.n (.slice (some ⟨bb,bo,none⟩) t.n bc) (.slice (some ⟨gw,0,none⟩) t.n wc) (.slice (some ⟨gs,0,none⟩) t.n sc) ow os w ((((w8.setCell ⟨H + 1,3,none⟩ (.int .i64 N)).setCell ⟨H + 1,4,none⟩ (.int .i64 E)).setCell ⟨H + 1,5,none⟩ (.int .i64 S)).setCell ⟨H + 1,6,none⟩ (.int .i64 F)))).2.2)
      have HF:=Lib.hid hfin
      rename_i hlast
      clear hbk hs7 hs8 hfin hlast
      generalize (((w8.setCell ⟨H + 1,3,none⟩ (.int .i64 N)).setCell ⟨H + 1,4,none⟩ (.int .i64 E)).setCell ⟨H + 1,5,none⟩ (.int .i64 S)).setCell ⟨H + 1,6,none⟩ (.int .i64 F) = W2 at *
      have HR:=Lib.hid HF.out.range
      have m0:=(HX.out.h0.cell 0).trans rfl
      have v0:=HX.out.h0.frozen 0
      have p0:=(HF.out.cell 0).trans rfl
      have m1:=(HX.out.h0.cell 1).trans rfl
      have v1:=HX.out.h0.frozen 1
      have p1:=(HF.out.cell 1).trans rfl
      have m2:=(HX.out.h0.cell 2).trans rfl
      have v2:=HX.out.h0.frozen 2
      have p2:=(HF.out.cell 2).trans rfl
      have m3:=(HX.out.h0.cell 3).trans rfl
      have v3:=HX.out.h0.frozen 3
      have p3:=(HF.out.cell 3).trans rfl
      have m4:=(HX.out.h0.cell 4).trans rfl
      have v4:=HX.out.h0.frozen 4
      have p4:=(HF.out.cell 4).trans rfl
      have m5:=(HX.out.h0.cell 5).trans rfl
      have v5:=HX.out.h0.frozen 5
      have p5:=(HF.out.cell 5).trans rfl
      have m6:=(HX.out.h0.cell 6).trans rfl
      have v6:=HX.out.h0.frozen 6
      have p6:=(HF.out.cell 6).trans rfl
      have HH0:=Lib.hid HX.out.h0
      have hAn:H + 1 ≠ H:=by omega
      go_wp2
      have hR:Blk (((((((W2.setCell ⟨H,0,none⟩ (.slice (some ⟨bb,bo,none⟩) t.n bc)).setCell ⟨H,1,none⟩ (.slice (some ⟨gw,0,none⟩) t.n wc)).setCell ⟨H,2,none⟩ (.slice (some ⟨gs,0,none⟩) t.n sc)).setCell ⟨H,3,none⟩ (.int .i64 N)).setCell ⟨H,4,none⟩ (.int .i64 E)).setCell ⟨H,5,none⟩ (.int .i64 S)).setCell ⟨H,6,none⟩ (.int .i64 F)) H 243 #[.slice (some ⟨bb,bo,none⟩) t.n bc,.slice (some ⟨gw,0,none⟩) t.n wc,.slice (some ⟨gs,0,none⟩) t.n sc,.int .i64 N,.int .i64 E,.int .i64 S,.int .i64 F]:=((((((HH0.out.set 0 _).set 1 _).set 2 _).set 3 _).set 4 _).set 5 _).set 6 _
      have gwH:H ≠ gw:=by omega
      have gsH:H ≠ gs:=by omega
      have hW:=((((((HX.out.rw_.far gwH 0 (.slice (some ⟨bb,bo,none⟩) t.n bc)).far gwH 1 (.slice (some ⟨gw,0,none⟩) t.n wc)).far gwH 2 (.slice (some ⟨gs,0,none⟩) t.n sc)).far gwH 3 (.int .i64 N)).far gwH 4 (.int .i64 E)).far gwH 5 (.int .i64 S)).far gwH 6 (.int .i64 F)
      have hS:=((((((HX.out.rs.far gsH 0 (.slice (some ⟨bb,bo,none⟩) t.n bc)).far gsH 1 (.slice (some ⟨gw,0,none⟩) t.n wc)).far gsH 2 (.slice (some ⟨gs,0,none⟩) t.n sc)).far gsH 3 (.int .i64 N)).far gsH 4 (.int .i64 E)).far gsH 5 (.int .i64 S)).far gsH 6 (.int .i64 F)
      have hB:=((((((HX.out.hb.setCell (p:=⟨H,0,none⟩) (Nat.le_refl _) (.slice (some ⟨bb,bo,none⟩) t.n bc)).setCell (p:=⟨H,1,none⟩) (Nat.le_refl _) (.slice (some ⟨gw,0,none⟩) t.n wc)).setCell (p:=⟨H,2,none⟩) (Nat.le_refl _) (.slice (some ⟨gs,0,none⟩) t.n sc)).setCell (p:=⟨H,3,none⟩) (Nat.le_refl _) (.int .i64 N)).setCell (p:=⟨H,4,none⟩) (Nat.le_refl _) (.int .i64 E)).setCell (p:=⟨H,5,none⟩) (Nat.le_refl _) (.int .i64 S)).setCell (p:=⟨H,6,none⟩) (Nat.le_refl _) (.int .i64 F)
      refine bodyPost_ret (results_row1 rfl _ _ _ H [.slice (some ⟨bb,bo,none⟩) t.n bc,.slice (some ⟨gw,0,none⟩) t.n wc,.slice (some ⟨gs,0,none⟩) t.n sc,.int .i64 N,.int .i64 E,.int .i64 S,.int .i64 F] _ rfl hR.range Tryz.underlying243 rfl (by kernel_rfl)) rfl ?_
      refine ⟨gw,wc,gs,sc,by rw [EN.out,EE.out,ES.out,EF.out],by rw [Eow.out]; exact hW,by rw [Eos.out]; exact hS,(fun e => HNE.out gw rfl (by rw [e]; rfl)),by rw [HE.out]; omega,by rw [HE.out]; omega,cw1,cs1,((((((HX.out.tw.set _ _ _).set _ _ _).set _ _ _).set _ _ _).set _ _ _).set _ _ _).set _ _ _,((((((HX.out.ts.set _ _ _).set _ _ _).set _ _ _).set _ _ _).set _ _ _).set _ _ _).set _ _ _,by rw [HE.out]; exact hB⟩
end Go.Proofs.YtgcnnbjbdfgglaaGreat
namespace Go.Proofs.YtgcnnbjbdfgglaaGreat
open Go.RowKit
structure AccOK (w:World) (t:Rates) (f:Nat→Int) (A:Nat→Value) (bm gw gs:Nat):Prop where
  ex:∃ cb cw cs,A 0 = .slice (some ⟨bm,0,none⟩) t.n cb∧A 1 = .slice (some ⟨gw,0,none⟩) t.n cw∧A 2 = .slice (some ⟨gs,0,none⟩) t.n cs∧t.n≤cw∧t.n≤cs
  a3:A 3 = .int .i64 (on (t.net f))
  a4:A 4 = .int .i64 (oe (t.net f))
  a5:A 5 = .int .i64 (on (t.short f))
  a6:A 6 = .int .i64 (oe (t.short f))
  rb:RowK w bm 1 t.n (fun i _ => .int .i64 (f i))
  rw_:RowK w gw 2 t.n (tcell fun i => worthO (t.rate i) (t.cut i) (f i))
  rs:RowK w gs 2 t.n (tcell fun i => shortO (t.rate i) (f i))
  ne:gw ≠ gs
  tb:Ty w bm 2
  tw:Ty w gw 241
  ts:Ty w gs 241
theorem AccOK.same {w w1:World} {t:Rates} {f:Nat→Int} {A:Nat→Value} {bm gw gs:Nat} (h:AccOK w t f A bm gw gs) (h1:w1.heap[bm]? = w.heap[bm]?) (h2:w1.heap[gw]? = w.heap[gw]?) (h3:w1.heap[gs]? = w.heap[gs]?):AccOK w1 t f A bm gw gs :=
  ⟨h.ex,h.a3,h.a4,h.a5,h.a6,h.rb.same h1,h.rw_.same h2,h.rs.same h3,h.ne,h.tb.same h1,h.tw.same h2,h.ts.same h3⟩
theorem AccOK.below {w w1:World} {t:Rates} {f:Nat→Int} {A:Nat→Value} {bm gw gs:Nat} (h:AccOK w t f A bm gw gs) (hb:Below w.heap.size w w1):AccOK w1 t f A bm gw gs:=h.same (hb.block _ h.tb.lt) (hb.block _ h.tw.lt) (hb.block _ h.ts.lt)
set_option maxRecDepth 100000 in
set_option maxHeartbeats 400000 in
theorem Bk.wor_has {w:World} {b l ab N ca:Nat} {tv:Value} (h:WorAt w b tv l (.slice (some ⟨ab,0,none⟩) N ca)) (m:Int):Calls Tryz.prog 133 #[.pointer (some ⟨b,0,none⟩),.int .i64 m] w fun e w' => e = .returned (.bool (hasN N m))∧w' = w:=by
  have h2:=h.c2
  clear h
  by_cases h1:0≤m
  · by_cases h3:m < N
    · have HH:hasN N m = true:=decide_eq_true (And.intro h1 h3)
      rw [HH]
      go_enter Tryz.func133,Tryz.ntmps133
      go_wp2
      go_ret
      exact ⟨rfl,rfl⟩
    · have HH:hasN N m = false:=decide_eq_false (fun (h:0≤m∧m < N) => h3 h.2)
      rw [HH]
      go_enter Tryz.func133,Tryz.ntmps133
      go_wp2
      go_ret
      exact ⟨rfl,rfl⟩
  · have HH:hasN N m = false:=decide_eq_false (fun (h:0≤m∧m < N) => h1 h.1)
    rw [HH]
    go_enter Tryz.func133,Tryz.ntmps133
    go_wp2
    go_ret
    exact ⟨rfl,rfl⟩
theorem heap_far7 (w:World) {a b:Nat} (h:b ≠ a) (o0 o1 o2 o3 o4 o5 o6:Nat) (v0 v1 v2 v3 v4 v5 v6:Value):(((((((w.setCell ⟨a,o0,none⟩ v0).setCell ⟨a,o1,none⟩ v1).setCell ⟨a,o2,none⟩ v2).setCell ⟨a,o3,none⟩ v3).setCell ⟨a,o4,none⟩ v4).setCell ⟨a,o5,none⟩ v5).setCell ⟨a,o6,none⟩ v6).heap[b]? = w.heap[b]?:=by
  have k:∀ (w:World) (o:Nat) (v:Value),(w.setCell ⟨a,o,none⟩ v).heap[b]? = w.heap[b]?:=fun w o v => Below.heap_setCell w ⟨a,o,none⟩ v b h
  exact (k _ _ _).trans ((k _ _ _).trans ((k _ _ _).trans ((k _ _ _).trans ((k _ _ _).trans ((k _ _ _).trans (k _ _ _))))))
theorem Bk.cell_heap {w w':World} {b o:Nat} {v:Value} (h:w'.heap[b]? = w.heap[b]?) (hc:w.cell? ⟨b,o,none⟩ = some v):w'.cell? ⟨b,o,none⟩ = some v:=by
  rw [World.cell?_of_block (w:=w) (a:=⟨b,o,none⟩) h]; exact hc
theorem cell_far7 (w:World) {a b:Nat} (h:b ≠ a) (o0 o1 o2 o3 o4 o5 o6:Nat) (v0 v1 v2 v3 v4 v5 v6:Value) {o:Nat} {v:Value} (hc:w.cell? ⟨b,o,none⟩ = some v):(((((((w.setCell ⟨a,o0,none⟩ v0).setCell ⟨a,o1,none⟩ v1).setCell ⟨a,o2,none⟩ v2).setCell ⟨a,o3,none⟩ v3).setCell ⟨a,o4,none⟩ v4).setCell ⟨a,o5,none⟩ v5).setCell ⟨a,o6,none⟩ v6).cell? ⟨b,o,none⟩ = some v :=
  Bk.cell_heap (heap_far7 w h o0 o1 o2 o3 o4 o5 o6 v0 v1 v2 v3 v4 v5 v6) hc
theorem RowK.set7 {w:World} {a N m:Nat} {A:Nat→Nat→Value} (h:RowK w a 7 N A) (hm:m < N) (v0 v1 v2 v3 v4 v5 v6:Value):RowK (((((((w.setCell ⟨a,m * 7,none⟩ v0).setCell ⟨a,m * 7 + 1,none⟩ v1).setCell ⟨a,m * 7 + 2,none⟩ v2).setCell ⟨a,m * 7 + 3,none⟩ v3).setCell ⟨a,m * 7 + 4,none⟩ v4).setCell ⟨a,m * 7 + 5,none⟩ v5).setCell ⟨a,m * 7 + 6,none⟩ v6) a 7 N (fun i j => if i = m then (if j = 0 then v0 else if j = 1 then v1 else if j = 2 then v2 else if j = 3 then v3 else if j = 4 then v4 else if j = 5 then v5 else v6) else A i j):=by
  have h0:=h.set hm (show 0 < 7 by omega) v0
  rw [Nat.add_zero] at h0
  have h6:=(((((h0.set hm (show 1 < 7 by omega) v1).set hm (show 2 < 7 by omega) v2).set hm (show 3 < 7 by omega) v3).set hm (show 4 < 7 by omega) v4).set hm (show 5 < 7 by omega) v5).set hm (show 6 < 7 by omega) v6
  refine h6.ext fun i j _ hj => ?_
  by_cases hi:i = m
  · have:j = 0∨j = 1∨j = 2∨j = 3∨j = 4∨j = 5∨j = 6:=by omega
    subst hi
    rcases this with rfl | rfl | rfl | rfl | rfl | rfl | rfl <;> simp
  · simp [hi]
theorem Kept.set7 {w a:World} {g:Nat} {F:Nat→Prop} (h:Kept F a w) (hg:F g∨a.heap.size≤g) (o0 o1 o2 o3 o4 o5 o6:Nat) (v0 v1 v2 v3 v4 v5 v6:Value):Kept F a (((((((w.setCell ⟨g,o0,none⟩ v0).setCell ⟨g,o1,none⟩ v1).setCell ⟨g,o2,none⟩ v2).setCell ⟨g,o3,none⟩ v3).setCell ⟨g,o4,none⟩ v4).setCell ⟨g,o5,none⟩ v5).setCell ⟨g,o6,none⟩ v6) :=
  ((((((h.setCell hg _ _).setCell hg _ _).setCell hg _ _).setCell hg _ _).setCell hg _ _).setCell hg _ _).setCell hg _ _
theorem WorAt.ty {w:World} {b l:Nat} {tv av:Value} (h:WorAt w b tv l av):Ty w b 236:=⟨_,h⟩
def MovedPost (t:Rates) (f:Nat→Int) (ab N m:Nat) (A:Nat→Nat→Value) (w:World) (e:Ending) (w':World):Prop:=∃ A' bm gw gs,e = .returned (.tuple #[])∧AccOK w' t f A' bm gw gs∧w.heap.size≤bm∧w.heap.size≤gw∧w.heap.size≤gs∧RowK w' ab 7 N (fun i j => if i = m then A' j else A i j)∧Ty w' ab 243∧Kept (fun k => k = ab) w w'
set_option maxRecDepth 100000 in
set_option maxHeartbeats 4000000 in
theorem Bk.moved {w:World} {b l r cap ab N ca:Nat} {tv:Value} {L:Led} {t:Rates} {code:Nat→ByteArray} {A:Nat→Nat→Value} (h:WorAt w b tv l (.slice (some ⟨ab,0,none⟩) N ca)) (ht:SlT w tv t code) (ho:t.Ok) (hl:LedAt w l r cap L) (hlo:L.Ok) (hc:L.c = t.n) (hA:RowK w ab 7 N A) (hty:Ty w ab 243) (m:Nat) (hm:m < N) (hN:N = L.n) :
    Calls Tryz.prog 139 #[.pointer (some ⟨b,0,none⟩),.int .i64 m] w (MovedPost t (L.bal m) ab N m A w):=by
  obtain ⟨i0,hi,hz0,hz1,hz2⟩:=info_parts Bk.info64
  have hh:=Lib.hid (Bk.wor_has h m)
  rw [hasN_yes hm] at hh
  obtain ⟨tb,tof,tc,rfl,htt⟩:=id ht
  have h0:=h.c0
  have h1:=h.c1
  have h2:=h.c2
  have n1:=ho.pos
  have n8:=ho.le
  have n16:=hlo.n16
  have hn8:(t.n:Int)≤8:=by omega
  have HW:=Lib.hid h
  have HT:=Lib.hid ht
  have HO:=Lib.hid ho
  have HL:=Lib.hid hl
  have HLO:=Lib.hid hlo
  have HAA:=Lib.hid hA
  have HTY:=Lib.hid hty
  have HGET:=Lib.hid (show ∀ k:Nat,k < t.n→L.get m k = L.bal m k by
    intro k hk
    unfold Led.get
    rw [if_pos (Led.has_iff.2 (by omega))]
    simp)
  have HB64:=Lib.hid (show ∀ k:Nat,k < t.n→In64 (L.bal m k) from fun k hk => hlo.b64 m k (by omega) (by omega))
  have hbl:=h.lt
  have HNE:=Lib.hid (h.ty.ne hty (by decide))
  have q1:(m:Int) < (N:Int):=by omega
  have q2:(N:Int)≤16:=by omega
  have HMN:=Lib.hid (And.intro hm hN)
  clear h ht ho hl hlo hA hty htt n16 hm hN
  go_enter Tryz.func139,Tryz.ntmps139
  go_wp2_with fail
  refine hh.out.mono ?_
  rintro e w0 ⟨rfl,rfl⟩
  go_wp2
  go_loopw [4,15] (fun v i wr => ∃ (k:Nat) (zs:List Int),k≤t.n∧i = .int .i64 k∧wr.ownsRow w0.heap.size 2 1 v k (ints zs)∧zs.length = k∧(∀ j,j < k→zs.getD j 0 = L.bal m j)∧Below w0.heap.size w0 wr) (fun _ i _ => t.n - (intOf i).toNat)
  case atStart => exact ⟨0,[],by omega,rfl,World.ownsRow_nil _ _ _ _,rfl,fun j h => by omega,Below.refl _ _⟩
  case round =>
    obtain ⟨k,zs,hk,rfl,hown,hzl,hz,hb⟩:=hrel
    have HB:=Lib.hid hb
    have HZ:=Lib.hid (And.intro hzl hz)
    clear hb hz hzl
    have g0:=Bk.kept HB.out h0
    have g1:=Bk.kept HB.out h1
    have g2:=Bk.kept HB.out h2
    by_cases hlt:k < t.n
    · have q3:(k:Int) < (t.n:Int):=by omega
      have hget:=Lib.hid (Bk.get (HL.out.below HB.out) HLO.out m k)
      have hgk:=HGET.out k hlt
      have hB:=HB.out.size
      have HOW:=Lib.hid hown
      rw [hgk] at hget
      clear hgk hown
      have HX:=Lib.hid (show ints (zs ++ [L.bal m k]) = ints zs ++ [Value.int .i64 (L.bal m k)] by simp [ints])
      have HV:=Lib.hid (show (zs ++ [L.bal m k]).length = k + 1∧∀ j,j < k + 1→(zs ++ [L.bal m k]).getD j 0 = L.bal m j by
        obtain ⟨e1,e2⟩:=HZ.out
        refine ⟨by simp [e1],fun j hj => ?_⟩
        by_cases hjk:j < k
        · rw [← e2 j hjk]
          simp [List.getD,List.getElem?_append_left (show j < zs.length by omega)]
        · obtain rfl:j = zs.length:=by omega
          simp [List.getD,e1])
      generalize L.bal m k = x at *
      go_wp2_with (first
        | (go_at_call 28; refine hget.out.mono ?_; rintro e w1 ⟨rfl,rfl⟩)
        | (at_builtin; with_reducible refine wpList_append_lies _ rfl (.tmp 18) (.tmp 26) 70 rfl w0.heap.size 2 i0 (.int .i64 0) 1 8 Tryz.underlying70 hi hz0 hz1 hz2 rfl (by decide) _ _ _ rfl (HOW.out.alloc _) ⟨w1.heap.size,0,none⟩ 1 1 [.int .i64 x] rfl rfl ?c1 ?c2 (by decide) ?c3 ?c4 ?c5 _ rfl ?_))
      case c1 => exact cell_one_new _ _ _
      case c2 => intro u hu; simp at hu; subst hu; rfl
      case c3 => unfold maxLen; omega
      case c4 => omega
      case c5 => simp; omega
      intro g cg w2 hown2 hgrow2 hg2 hgl2
      have hb3:=(HB.out.alloc hB (.cells #[.int .i64 x] 2)).grown hgrow2 (by simp; omega) (fun q hq => own_ge HOW.out hq)
      rw [← HX.out] at hown2
      clear hgrow2 hg2 hgl2
      go_wp2
      go_roundw
      case rel => exact ⟨k + 1,zs ++ [x],by omega,by go_num,hown2,HV.out.1,HV.out.2,hb3⟩
      case measure => simp [intOf]; omega
    · obtain rfl:k = t.n:=by omega
      rcases hown.2 with ⟨_,h⟩ | ⟨bm,cb,cur,hveq,_⟩
      · omega
      subst hveq
      have hfl:ints zs = flatK 1 t.n (fun i _ => .int .i64 (L.bal m i)):=by
        obtain ⟨e1,e2⟩:=HZ.out
        apply List.ext_getElem?
        intro j
        by_cases hj:j < t.n
        · have h5:=flatK_at (K:=1) (n:=t.n) (fun i _ => Value.int .i64 (L.bal m i)) hj (show 0 < 1 by omega)
          rw [Nat.mul_one,Nat.add_zero] at h5
          rw [h5,← e2 j hj]
          simp [ints,List.getD,List.getElem?_eq_getElem (show j < zs.length by omega)]
        · rw [List.getElem?_eq_none (by rw [ints_len]; omega),List.getElem?_eq_none (by rw [flatK_len]; omega)]
      rw [hfl] at hown
      obtain ⟨hrb,hbg,_⟩:=RowK.of_own hown
      have htb:=Ty.of_own hown
      have hsl:SlI wr (.slice (some ⟨bm,0,none⟩) t.n cb) t.n (fun j => L.bal m j):=⟨_,_,rfl,fun _ => ⟨bm,0,rfl,fun j hj => by
        have:=hrb.cell hj (show 0 < 1 by omega)
        rw [Nat.mul_one,Nat.add_zero] at this
        rw [Nat.zero_add]; exact this⟩⟩
      have HACC:=Lib.hid (fun (wx:World) (hb:Below wr.heap.size wr wx) => Bk.account ((HW.out.below HB.out).below hb) ((HT.out.below HB.out).below hb) HO.out (.slice (some ⟨bm,0,none⟩) t.n cb) (fun j => L.bal m j) (SlC.below hsl hb) HB64.out)
      have HA3:=Lib.hid ((HAA.out.below HB.out).below ((Below.refl wr.heap.size wr).drew))
      have HTY3:=Lib.hid ((HTY.out.below HB.out).below ((Below.refl wr.heap.size wr).drew))
      have HRB:=Lib.hid (And.intro (hrb.below ((Below.refl wr.heap.size wr).drew)) (And.intro (htb.below ((Below.refl wr.heap.size wr).drew)) hbg))
      have HBD:=Lib.hid (HB.out.drew)
      have HSZ:=Lib.hid HB.out.size
      clear hown hfl hrb hbg htb hsl
      have gd:wr.drew.cell? ⟨b,2,none⟩ = some (.slice (some ⟨ab,0,none⟩) N ca):=g2
      go_upto_region 7 with (fail)
      clear g0 g1 h0 h1 h2
      go_region_held3 (fun wx => wx.cell? ⟨b,2,none⟩ = some (.slice (some ⟨ab,0,none⟩) N ca)) (first | (with_reducible assumption) | (with_reducible exact gd) | (with_reducible exact g8) | (with_reducible exact cell_far7 _ HNE.out _ _ _ _ _ _ _ _ _ _ _ _ _ _ g8))
        (first | (go_at_call 136; ((with_reducible refine (HACC.out _ (Below.refl _ _).drew).mono ?_); rintro e w8 ⟨gw,cw,gs,cs,rfl,hw8,hs8,hn8',hgw,hgs,hcw,hcs,htw,hts,hb8⟩; have g8:=Bk.kept hb8 gd; have hA8:=HA3.out.below hb8; have p0:=hA8.cell HMN.out.1 (show 0 < 7 by omega); rw [Nat.add_zero] at p0; have v0:=hA8.frozen (m * 7); have p1:=hA8.cell HMN.out.1 (show 1 < 7 by omega); have v1:=hA8.frozen (m * 7 + 1); have p2:=hA8.cell HMN.out.1 (show 2 < 7 by omega); have v2:=hA8.frozen (m * 7 + 2); have p3:=hA8.cell HMN.out.1 (show 3 < 7 by omega); have v3:=hA8.frozen (m * 7 + 3); have p4:=hA8.cell HMN.out.1 (show 4 < 7 by omega); have v4:=hA8.frozen (m * 7 + 4); have p5:=hA8.cell HMN.out.1 (show 5 < 7 by omega); have v5:=hA8.frozen (m * 7 + 5); have p6:=hA8.cell HMN.out.1 (show 6 < 7 by omega); have v6:=hA8.frozen (m * 7 + 6); replace hw8:=Lib.hid hw8; replace hs8:=Lib.hid hs8; replace hn8':=Lib.hid hn8'; replace hb8:=Lib.hid hb8; replace hA8:=Lib.hid hA8)))
      have bm8:=(hb8.out.block bm HRB.out.1.lt)
      have HRB8:=Lib.hid (And.intro (HRB.out.1.same bm8) (HRB.out.2.1.same bm8))
      clear p0 v0 p1 v1 p2 v2 p3 v3 p4 v4 p5 v5 p6 v6 g8 gd g2 bm8
      go_wp2
      go_end0
      have abm:∀ g T,Ty w8 g T→T ≠ 243→g ≠ ab:=fun g T hg hT => hg.ne (HTY3.out.below hb8.out) hT
      have e1:=abm _ _ HRB8.out.2 (by decide)
      have e2:=abm _ _ htw (by decide)
      have e3:=abm _ _ hts (by decide)
      refine ⟨_,bm,gw,gs,rfl,⟨⟨cb,cw,cs,rfl,rfl,rfl,hcw,hcs⟩,rfl,rfl,rfl,rfl,HRB8.out.1.same (heap_far7 _ e1 _ _ _ _ _ _ _ _ _ _ _ _ _ _),hw8.out.same (heap_far7 _ e2 _ _ _ _ _ _ _ _ _ _ _ _ _ _),hs8.out.same (heap_far7 _ e3 _ _ _ _ _ _ _ _ _ _ _ _ _ _),hn8'.out,HRB8.out.2.same (heap_far7 _ e1 _ _ _ _ _ _ _ _ _ _ _ _ _ _),htw.same (heap_far7 _ e2 _ _ _ _ _ _ _ _ _ _ _ _ _ _),hts.same (heap_far7 _ e3 _ _ _ _ _ _ _ _ _ _ _ _ _ _)⟩,HRB.out.2.2,Nat.le_trans HBD.out.size hgw,Nat.le_trans HBD.out.size hgs,RowK.set7 hA8.out HMN.out.1 _ _ _ _ _ _ _,(((((((HTY3.out.below hb8.out).set _ _ _).set _ _ _).set _ _ _).set _ _ _).set _ _ _).set _ _ _).set _ _ _,Kept.set7 (F:=fun k => k = ab) (Kept.of_below (HBD.out.trans (hb8.out.mono HBD.out.size))) (Or.inl rfl) _ _ _ _ _ _ _ _ _ _ _ _ _ _⟩
end Go.Proofs.YtgcnnbjbdfgglaaGreat
