/- LAW TopBoth: of every configuration of a bank and every list of byte strings the given function TopBoth returns true and leaves its arguments as they were; no condition. A part of what it needs. -/
import Derived.Test.YtgcnnbjbdfgglaaGreatZae
import Derived.Maps.OwnOps
import Derived.Maps.OwnSet
import Derived.Maps.Views
import Derived.Deep.QuietTactic
import Derived.BigQuiet
namespace Go.Proofs.YtgcnnbjbdfgglaaGreat
open Go.RowKit Go.ChangeShapes Go.WideShapes
open Go.Maps (Keyed int_keyed keyOf_int_mk)
noncomputable def heldElem (v:Value):Option (DataW Value × List MemPlace):=some (.held v,[])
theorem keyInt:Keyed Tryz.prog 3:=int_keyed Tryz.underlying3
def IMap (w:World) (mb n:Nat) (z:Value) (F:Int→Option Value):Prop :=
  ∃ D,w.ownsMap Tryz.prog 3 heldElem mb n D∧∀ k:Int,In64 k→D.atKey (.int .i64 k) (.held z) = .held ((F k).getD z)∧Maps.has D (.int .i64 k) = (F k).isSome
theorem IMap.lt {w:World} {mb n:Nat} {z:Value} {F:Int→Option Value} (h:IMap w mb n z F):mb < w.heap.size:=by
  obtain ⟨D,h1,_⟩:=h
  exact h1.lt
theorem IMap.same {w w':World} {mb n:Nat} {z:Value} {F:Int→Option Value} (h:IMap w mb n z F) (he:w'.heap[mb]? = w.heap[mb]?):IMap w' mb n z F:=by
  obtain ⟨D,⟨es,clock,hb,h1⟩,h2⟩:=h
  exact ⟨D,⟨es,clock,he.trans hb,h1⟩,h2⟩
theorem IMap.below {w w':World} {mb n:Nat} {z:Value} {F:Int→Option Value} (h:IMap w mb n z F) (hb:Below w.heap.size w w'):IMap w' mb n z F:=h.same (hb.block _ h.lt)
theorem IMap.made (w:World) (z:Value):IMap (w.alloc (.map #[] 0)) w.heap.size 0 z (fun _ => none) :=
  ⟨.map [],World.ownsMap_made _ _ _ _,fun _ _ => ⟨rfl,rfl⟩⟩
theorem IMap.ne {w:World} {mb n:Nat} {z:Value} {F:Int→Option Value} (h:IMap w mb n z F) {g:Nat} {T:TypeId} (ht:Ty w g T):g ≠ mb:=by
  rintro rfl
  obtain ⟨D,⟨es,clock,hb,_⟩,_⟩:=h
  obtain ⟨cs,hc⟩:=ht
  rw [hb] at hc
  cases hc
theorem wf_key {k:Int} (h:In64 k):(Lit.int .i64 k).wf = true:=by
  unfold In64 at h
  have h1:IntKind.i64.min≤k:=h.1
  have h3:k≤9223372036854775807:=h.2
  simp [Lit.wf,h1]
  omega
theorem IMap.look {w:World} {mb n:Nat} {z:Value} {F:Int→Option Value} (h:IMap w mb n z F) {t e:TypeId} (ht:Tryz.prog.underlying t = some (.map 3 e)) (hz:(zeroValue e).run Tryz.prog w = .ok z w) (k:Int) (hk:In64 k):(Instr.lookup t (.map (some mb)) (.int .i64 k) true).run Tryz.prog w = .ok (.tuple #[(F k).getD z,.bool (F k).isSome]) w:=by
  obtain ⟨D,h1,h2⟩:=h
  obtain ⟨v,ps,hrun,hv⟩:=h1.look_ok keyInt ht hz (zd:=.held z) (zp:=[]) rfl (keyOf_int_mk Tryz.underlying3 (wf_key hk))
  rw [(h2 k hk).1] at hv
  rw [(h2 k hk).2] at hrun
  simp only [heldElem,Option.some.injEq,Prod.mk.injEq,DataW.held.injEq] at hv
  rw [hrun,hv.1]
theorem IMap.look1 {w:World} {mb n:Nat} {z:Value} {F:Int→Option Value} (h:IMap w mb n z F) {t e:TypeId} (ht:Tryz.prog.underlying t = some (.map 3 e)) (hz:(zeroValue e).run Tryz.prog w = .ok z w) (k:Int) (hk:In64 k):(Instr.lookup t (.map (some mb)) (.int .i64 k) false).run Tryz.prog w = .ok ((F k).getD z) w:=by
  obtain ⟨D,h1,h2⟩:=h
  obtain ⟨v,ps,hrun,hv⟩:=h1.lookup keyInt ht hz (zd:=.held z) (zp:=[]) rfl (keyOf_int_mk Tryz.underlying3 (wf_key hk))
  rw [(h2 k hk).1] at hv
  simp only [heldElem,Option.some.injEq,Prod.mk.injEq,DataW.held.injEq] at hv
  rw [hrun,hv.1]
theorem IMap.put {w:World} {mb n:Nat} {z:Value} {F:Int→Option Value} (h:IMap w mb n z F) {t e:TypeId} (ht:Tryz.prog.underlying t = some (.map 3 e)) (hn:n < maxLen) (k:Int) (hk:In64 k) (v:Value) :
    ∃ w',(Instr.mapUpdate t (.map (some mb)) (.int .i64 k) v).run Tryz.prog w = .ok () w'∧IMap w' mb (n + 1) z (fun i => if i = k then some v else F i)∧w.grownBy w' (some mb):=by
  obtain ⟨D,h1,h2⟩:=h
  obtain ⟨w',hrun,h3,h4⟩:=h1.update keyInt ht hn (keyOf_int_mk Tryz.underlying3 (wf_key hk)) (show heldElem v = some (.held v,[]) from rfl)
  refine ⟨w',hrun,⟨_,h3,fun i hi64 => ?_⟩,h4⟩
  have hm:Maps.IsMap D:=by
    obtain ⟨es,clock,_,_,_,rfl⟩:=h1
    exact ⟨_,rfl⟩
  by_cases hi:i = k
  · subst hi
    dsimp only
    rw [if_pos rfl]
    exact ⟨Maps.atKey_put_same hm (by trivial) _ _,Maps.has_put_same hm (by trivial) _⟩
  · dsimp only
    have hne:(Lit.int .i64 i:Lit) ≠ .int .i64 k:=by intro e; simp only [Lit.int.injEq] at e; omega
    rw [if_neg hi,Maps.atKey_put_other hne,Maps.has_put_other hne]
    exact h2 i hi64
end Go.Proofs.YtgcnnbjbdfgglaaGreat
namespace Go.Proofs.YtgcnnbjbdfgglaaGreat
open Go.RowKit
structure Ent where
  id:Int
  a:Int
  b:Int
  sc:Int
  bc:Int
  sell:Int
  buy:Int
  st:Int
  asked:Int
  ord:Int
def Ent.num (x:Ent) (j:Nat):Int:=if j = 0 then x.id else if j = 1 then x.a else if j = 2 then x.b else if j = 3 then x.sc else if j = 4 then x.bc else if j = 5 then x.sell else if j = 6 then x.buy else if j = 7 then x.st else if j = 8 then x.asked else x.ord
def Ent.cell (x:Ent) (j:Nat):Value:=.int .i64 (x.num j)
def Ent.deal (x:Ent):Array Value:=#[.int .i64 x.id,.int .i64 x.a,.int .i64 x.b,.int .i64 x.sc,.int .i64 x.bc,.int .i64 x.sell,.int .i64 x.buy]
structure Ent.Ok (x:Ent) (mem cur:Nat):Prop where
  i1:1≤x.id
  i2:x.id≤2147483647
  a0:0≤x.a∧x.a < mem
  b0:0≤x.b∧x.b < mem
  s0:0≤x.sc∧x.sc < cur
  c0:0≤x.bc∧x.bc < cur
  ab:x.a ≠ x.b
  sb:x.sc ≠ x.bc
  se:1≤x.sell∧x.sell≤9223372036854775807
  bu:1≤x.buy∧x.buy≤9223372036854775807
  st:x.st = 1∨x.st = 2∨x.st = 3∨x.st = 4
structure Bo where
  n:Nat
  e:Nat→Ent
  ix:Int→Option Nat
  mem:Nat
  cur:Nat
  mat:Int
structure Bo.Ok (B:Bo):Prop where
  n200:B.n≤200
  mem:B.mem≤16
  cur:B.cur≤8
  ent:∀ i,i < B.n→(B.e i).Ok B.mem B.cur
  ix1:∀ i,i < B.n→B.ix (B.e i).id = some i
  ix2:∀ k i,B.ix k = some i→i < B.n∧(B.e i).id = k
def Bo.F (B:Bo) (k:Int):Option Value:=(B.ix k).map fun i => .int .i64 i
structure Bh where
  b:Nat
  mb:Nat
  lv:Value
structure BoAt (w:World) (h:Bh) (B:Bo):Prop where
  blk:Blk w h.b 131 #[.int .i64 B.mem,.int .i64 B.cur,h.lv,.map (some h.mb),.int .i64 B.mat]
  own:w.ownsRow 0 127 10 h.lv B.n (flatK 10 B.n fun i => (B.e i).cell)
  map:IMap w h.mb B.n (.int .i64 0) B.F
  ok:B.Ok
def Bh.own (h:Bh) (k:Nat):Prop:=k = h.b∨k = h.mb∨h.lv.ownBlock = some k
theorem own_same {w w':World} {B e K n:Nat} {v:Value} {xs:List Value} (h:w.ownsRow B e K v n xs) (hs:∀ k,v.ownBlock = some k→w'.heap[k]? = w.heap[k]?):w'.ownsRow B e K v n xs:=by
  refine ⟨h.1,?_⟩
  rcases h.2 with hn | ⟨k,cap,cur,rfl,hB,hk,rest⟩
  · exact .inl hn
  · exact .inr ⟨k,cap,cur,rfl,hB,(hs k rfl).trans hk,rest⟩
theorem own_ty {w:World} {B e K n:Nat} {v:Value} {xs:List Value} (h:w.ownsRow B e K v n xs) {k:Nat} (hk:v.ownBlock = some k):Ty w k e:=by
  rcases h.2 with ⟨rfl,_⟩ | ⟨k',cap,cur,rfl,hB,hb,rest⟩
  · cases hk
  · cases hk
    exact ⟨_,hb⟩
theorem BoAt.frame {w w':World} {h:Bh} {B:Bo} (a:BoAt w h B) (hs:∀ k,h.own k→w'.heap[k]? = w.heap[k]?):BoAt w' h B :=
  ⟨(hs _ (.inl rfl)).trans a.blk,own_same a.own fun _ hk => hs _ (.inr (.inr hk)),a.map.same (hs _ (.inr (.inl rfl))),a.ok⟩
theorem BoAt.ownlt {w:World} {h:Bh} {B:Bo} (a:BoAt w h B) {k:Nat} (hk:h.own k):k < w.heap.size:=by
  rcases hk with rfl | rfl | hk
  · exact a.blk.lt
  · exact a.map.lt
  · exact (own_ty a.own hk).lt
theorem BoAt.below {w w':World} {h:Bh} {B:Bo} (a:BoAt w h B) (hb:Below w.heap.size w w'):BoAt w' h B:=a.frame fun k hk => hb.block k (a.ownlt hk)
def Bh.ptr (h:Bh) (B:Bo) (id:Int):Value:=match B.ix id with
  | none => .pointer none
  | some i => .pointer (some ⟨h.lv.ownBlock.getD 0,i * 10,none⟩)
theorem BoAt.slice {w:World} {h:Bh} {B:Bo} (a:BoAt w h B) {i:Nat} (hi:i < B.n):∃ g cap,h.lv = .slice (some ⟨g,0,none⟩) B.n cap∧RowK w g 10 B.n (fun i => (B.e i).cell)∧Ty w g 127∧h.lv.ownBlock = some g:=by
  have ho:=a.own
  rcases ho.2 with ⟨_,h0⟩ | ⟨g,cap,cur,he,_⟩
  · omega
  · rw [he] at ho ⊢
    exact ⟨g,cap,rfl,(RowK.of_own ho).1,Ty.of_own ho,rfl⟩
theorem zeroInt (w:World):(zeroValue 3).run Tryz.prog w = .ok (.int .i64 0) w:=by kernel_rfl
set_option maxRecDepth 100000 in
set_option maxHeartbeats 1000000 in
theorem Bk.find {w:World} {h:Bh} {B:Bo} (a:BoAt w h B) (id:Int) (hi:In64 id):Calls Tryz.prog 40 #[.pointer (some ⟨h.b,0,none⟩),.int .i64 id] w fun e w' => e = .returned (h.ptr B id)∧w' = w:=by
  have c2:=(a.blk.cell 2).trans rfl
  have c3:=(a.blk.cell 3).trans rfl
  have hl:=a.map.look Tryz.underlying129 (zeroInt w) id hi
  unfold Bo.F at hl
  unfold Bh.ptr
  cases hx:B.ix id with
  | none =>
    rw [hx] at hl
    change _ = Result.ok (Value.tuple #[.int .i64 0,.bool false]) w at hl
    clear a hx
    go_enter Tryz.func40,Tryz.ntmps40
    go_wp2
    go_ret
    exact ⟨rfl,rfl⟩
  | some i =>
    rw [hx] at hl
    change _ = Result.ok (Value.tuple #[.int .i64 i,.bool true]) w at hl
    obtain ⟨i1,i2⟩:=a.ok.ix2 _ _ hx
    obtain ⟨g,cap,he,hr,hty,hob⟩:=a.slice i1
    rw [hob]
    rw [he] at c2
    have hn:=a.ok.n200
    have q1:(i:Int) < (B.n:Int):=by omega
    have q2:(B.n:Int)≤200:=by omega
    clear a hx he hr hty hob i1 i2 hn
    go_enter Tryz.func40,Tryz.ntmps40
    go_wp2
    go_ret
    simp
def Bo.state (B:Bo) (id:Int):Int:=match B.ix id with
  | none => 0
  | some i => (B.e i).st
set_option maxRecDepth 100000 in
set_option maxHeartbeats 1000000 in
theorem Bk.state {w:World} {h:Bh} {B:Bo} (a:BoAt w h B) (id:Int) (hi:In64 id):Calls Tryz.prog 15 #[.pointer (some ⟨h.b,0,none⟩),.int .i64 id] w fun e w' => e = .returned (.int .i64 (B.state id))∧w' = w:=by
  have hf:=Bk.find a id hi
  unfold Bh.ptr at hf
  unfold Bo.state
  cases hx:B.ix id with
  | none =>
    rw [hx] at hf
    have HF:=Lib.hid hf
    clear a hx hf
    go_enter Tryz.func15,Tryz.ntmps15
    go_wp2_with fail
    refine HF.out.mono ?_
    rintro e w1 ⟨rfl,rfl⟩
    go_wp2
    go_ret
    exact ⟨rfl,rfl⟩
  | some i =>
    obtain ⟨i1,i2⟩:=a.ok.ix2 _ _ hx
    obtain ⟨g,cap,he,hr,hty,hob⟩:=a.slice i1
    rw [hx,hob] at hf
    change Calls _ _ _ _ fun e w' => e = .returned (.pointer (some ⟨g,i * 10,none⟩))∧w' = w at hf
    have HF:=Lib.hid hf
    have c7:w.cell? ⟨g,i * 10 + 7,none⟩ = some (.int .i64 (B.e i).st):=hr.cell i1 (show 7 < 10 by omega)
    clear a hx hf he hr hty hob i1 i2
    go_enter Tryz.func15,Tryz.ntmps15
    go_wp2_with fail
    refine HF.out.mono ?_
    rintro e w1 ⟨rfl,rfl⟩
    go_wp2
    go_ret
    exact ⟨rfl,rfl⟩
def Ent.none:Ent:=⟨0,0,0,0,0,0,0,0,0,0⟩
def Bo.get (B:Bo) (id:Int):Ent:=match B.ix id with
  | none => Ent.none
  | some i => B.e i
theorem results_row1t {fn:Func} {p q:Tmp} {ty:TypeId} (h:fn.results = #[.cell p ty,.tmp q]) (tmps:Array Value) (P:Program) (w:World) (g:Nat) (cs:List Value) (d:TypeDesc) (v:Value)
    (hp:tmps.getD p undef = .pointer (some ⟨g,0,none⟩)) (hq:tmps.getD q undef = v) (hc:w.rangeAt g 0 cs) (hu:P.underlying ty = some d) (hd:d.isRow = true) (hi:(P.info? ty).map (·.size) = some cs.length) :
    (results fn tmps).run P w = .ok (.tuple #[.agg cs.toArray,v]) w:=by
  simp only [results,h]
  have hp':tmps[p]?.getD undef = .pointer (some ⟨g,0,none⟩):=by simpa using hp
  have hq':tmps[q]?.getD undef = v:=by simpa using hq
  simp [Result.andThen,hp',hq',asAddr,run_loadVar_mid w g 0 ty cs d hc hu hd hi]
theorem range7 {w:World} {g:Nat} {T:TypeId} {a b c d e f i:Value} (h:Blk w g T #[a,b,c,d,e,f,i]) (v0 v1 v2 v3 v4 v5 v6:Value):Blk (((((((w.setCell ⟨g,0,none⟩ v0).setCell ⟨g,1,none⟩ v1).setCell ⟨g,2,none⟩ v2).setCell ⟨g,3,none⟩ v3).setCell ⟨g,4,none⟩ v4).setCell ⟨g,5,none⟩ v5).setCell ⟨g,6,none⟩ v6) g T #[v0,v1,v2,v3,v4,v5,v6]:=by
  have h0:Blk (w.setCell ⟨g,0,none⟩ v0) g T #[v0,b,c,d,e,f,i]:=h.set 0 v0
  have h1:Blk ((w.setCell ⟨g,0,none⟩ v0).setCell ⟨g,1,none⟩ v1) g T #[v0,v1,c,d,e,f,i]:=h0.set 1 v1
  have h2:Blk (((w.setCell ⟨g,0,none⟩ v0).setCell ⟨g,1,none⟩ v1).setCell ⟨g,2,none⟩ v2) g T #[v0,v1,v2,d,e,f,i]:=h1.set 2 v2
  have h3:Blk ((((w.setCell ⟨g,0,none⟩ v0).setCell ⟨g,1,none⟩ v1).setCell ⟨g,2,none⟩ v2).setCell ⟨g,3,none⟩ v3) g T #[v0,v1,v2,v3,e,f,i]:=h2.set 3 v3
  have h4:Blk (((((w.setCell ⟨g,0,none⟩ v0).setCell ⟨g,1,none⟩ v1).setCell ⟨g,2,none⟩ v2).setCell ⟨g,3,none⟩ v3).setCell ⟨g,4,none⟩ v4) g T #[v0,v1,v2,v3,v4,f,i]:=h3.set 4 v4
  have h5:Blk ((((((w.setCell ⟨g,0,none⟩ v0).setCell ⟨g,1,none⟩ v1).setCell ⟨g,2,none⟩ v2).setCell ⟨g,3,none⟩ v3).setCell ⟨g,4,none⟩ v4).setCell ⟨g,5,none⟩ v5) g T #[v0,v1,v2,v3,v4,v5,i]:=h4.set 5 v5
  have h6:Blk (((((((w.setCell ⟨g,0,none⟩ v0).setCell ⟨g,1,none⟩ v1).setCell ⟨g,2,none⟩ v2).setCell ⟨g,3,none⟩ v3).setCell ⟨g,4,none⟩ v4).setCell ⟨g,5,none⟩ v5).setCell ⟨g,6,none⟩ v6) g T #[v0,v1,v2,v3,v4,v5,v6]:=h5.set 6 v6
  exact h6
theorem below7 {B:Nat} {w0 w:World} (h:Below B w0 w) {g:Nat} (hg:B≤g) (v0 v1 v2 v3 v4 v5 v6:Value):Below B w0 (((((((w.setCell ⟨g,0,none⟩ v0).setCell ⟨g,1,none⟩ v1).setCell ⟨g,2,none⟩ v2).setCell ⟨g,3,none⟩ v3).setCell ⟨g,4,none⟩ v4).setCell ⟨g,5,none⟩ v5).setCell ⟨g,6,none⟩ v6) :=
  ((((((h.setCell (p:=⟨g,0,none⟩) hg v0).setCell (p:=⟨g,1,none⟩) hg v1).setCell (p:=⟨g,2,none⟩) hg v2).setCell (p:=⟨g,3,none⟩) hg v3).setCell (p:=⟨g,4,none⟩) hg v4).setCell (p:=⟨g,5,none⟩) hg v5).setCell (p:=⟨g,6,none⟩) hg v6
set_option maxRecDepth 100000 in
set_option maxHeartbeats 1000000 in
theorem Bk.dealOf {w:World} {h:Bh} {B:Bo} (a:BoAt w h B) (id:Int) (hi:In64 id):Calls Tryz.prog 17 #[.pointer (some ⟨h.b,0,none⟩),.int .i64 id] w fun e w' => e = .returned (.tuple #[.agg (B.get id).deal,.bool (B.ix id).isSome])∧Below w.heap.size w w':=by
  have HB:=Lib.hid ((Below.refl w.heap.size w).alloc (Nat.le_refl _) (.cells (#[.int .i64 0,.int .i64 0,.int .i64 0,.int .i64 0,.int .i64 0,.int .i64 0,.int .i64 0]:Array Value) 63))
  have HA:=Lib.hid (a.below HB.out)
  have HZ:=Blk.new w 63 (#[.int .i64 0,.int .i64 0,.int .i64 0,.int .i64 0,.int .i64 0,.int .i64 0,.int .i64 0]:Array Value)
  have hf:=Bk.find HA.out id hi
  unfold Bh.ptr at hf
  unfold Bo.get
  have z0:(w.alloc (.cells (#[.int .i64 0,.int .i64 0,.int .i64 0,.int .i64 0,.int .i64 0,.int .i64 0,.int .i64 0]:Array Value) 63)).cell? ⟨w.heap.size,0,none⟩ = some (.int .i64 0):=HZ.cell 0
  have z1:(w.alloc (.cells (#[.int .i64 0,.int .i64 0,.int .i64 0,.int .i64 0,.int .i64 0,.int .i64 0,.int .i64 0]:Array Value) 63)).cell? ⟨w.heap.size,1,none⟩ = some (.int .i64 0):=HZ.cell 1
  have z2:(w.alloc (.cells (#[.int .i64 0,.int .i64 0,.int .i64 0,.int .i64 0,.int .i64 0,.int .i64 0,.int .i64 0]:Array Value) 63)).cell? ⟨w.heap.size,2,none⟩ = some (.int .i64 0):=HZ.cell 2
  have z3:(w.alloc (.cells (#[.int .i64 0,.int .i64 0,.int .i64 0,.int .i64 0,.int .i64 0,.int .i64 0,.int .i64 0]:Array Value) 63)).cell? ⟨w.heap.size,3,none⟩ = some (.int .i64 0):=HZ.cell 3
  have z4:(w.alloc (.cells (#[.int .i64 0,.int .i64 0,.int .i64 0,.int .i64 0,.int .i64 0,.int .i64 0,.int .i64 0]:Array Value) 63)).cell? ⟨w.heap.size,4,none⟩ = some (.int .i64 0):=HZ.cell 4
  have z5:(w.alloc (.cells (#[.int .i64 0,.int .i64 0,.int .i64 0,.int .i64 0,.int .i64 0,.int .i64 0,.int .i64 0]:Array Value) 63)).cell? ⟨w.heap.size,5,none⟩ = some (.int .i64 0):=HZ.cell 5
  have z6:(w.alloc (.cells (#[.int .i64 0,.int .i64 0,.int .i64 0,.int .i64 0,.int .i64 0,.int .i64 0,.int .i64 0]:Array Value) 63)).cell? ⟨w.heap.size,6,none⟩ = some (.int .i64 0):=HZ.cell 6
  have v0:=HZ.frozen 0
  have v1:=HZ.frozen 1
  have v2:=HZ.frozen 2
  have v3:=HZ.frozen 3
  have v4:=HZ.frozen 4
  have v5:=HZ.frozen 5
  have v6:=HZ.frozen 6
  have HZZ:=Lib.hid HZ
  clear HZ
  cases hx:B.ix id with
  | none =>
    rw [hx] at hf
    have HF:=Lib.hid hf
    clear a hx hf HA
    show Calls _ _ _ _ fun e w' => e = .returned (.tuple #[.agg (#[.int .i64 0,.int .i64 0,.int .i64 0,.int .i64 0,.int .i64 0,.int .i64 0,.int .i64 0]:Array Value),.bool false])∧Below w.heap.size w w'
    generalize hH:w.heap.size = H at *
    go_enter Tryz.func17,Tryz.ntmps17
    go_wp2_with fail
    refine HF.out.mono ?_
    rintro e w1 ⟨rfl,rfl⟩
    generalize w.alloc (.cells (#[.int .i64 0,.int .i64 0,.int .i64 0,.int .i64 0,.int .i64 0,.int .i64 0,.int .i64 0]:Array Value) 63) = w1 at *
    go_wp2
    have hR:=(range7 HZZ.out (.int .i64 0) (.int .i64 0) (.int .i64 0) (.int .i64 0) (.int .i64 0) (.int .i64 0) (.int .i64 0)).range
    have hB:=below7 HB.out (Nat.le_refl _) (.int .i64 0) (.int .i64 0) (.int .i64 0) (.int .i64 0) (.int .i64 0) (.int .i64 0) (.int .i64 0)
    refine bodyPost_ret (results_row1t rfl _ _ _ H _ _ _ rfl rfl hR Tryz.underlying63 rfl (by kernel_rfl)) rfl ⟨rfl,hB⟩
  | some i =>
    obtain ⟨i1,i2⟩:=HA.out.ok.ix2 _ _ hx
    obtain ⟨g,cap,he,hr,hty,hob⟩:=HA.out.slice i1
    rw [hx,hob] at hf
    change Calls _ _ _ _ fun e w' => e = .returned (.pointer (some ⟨g,i * 10,none⟩))∧w' = _ at hf
    have HF:=Lib.hid hf
    obtain ⟨g',cap',he',hr',hty',hob'⟩:=a.slice i1
    have HG:=Lib.hid (show g ≠ w.heap.size by rw [hob] at hob'; cases hob'; have:=hty'.lt; omega)
    have hg:=HG.out
    have c0:(w.alloc (.cells (#[.int .i64 0,.int .i64 0,.int .i64 0,.int .i64 0,.int .i64 0,.int .i64 0,.int .i64 0]:Array Value) 63)).cell? ⟨g,i * 10,none⟩ = some (.int .i64 (B.e i).id):=by have:=hr.cell i1 (show 0 < 10 by omega); rw [Nat.add_zero] at this; exact this
    have c1:(w.alloc (.cells (#[.int .i64 0,.int .i64 0,.int .i64 0,.int .i64 0,.int .i64 0,.int .i64 0,.int .i64 0]:Array Value) 63)).cell? ⟨g,i * 10 + 1,none⟩ = some (.int .i64 (B.e i).a):=hr.cell i1 (show 1 < 10 by omega)
    have c2:(w.alloc (.cells (#[.int .i64 0,.int .i64 0,.int .i64 0,.int .i64 0,.int .i64 0,.int .i64 0,.int .i64 0]:Array Value) 63)).cell? ⟨g,i * 10 + 2,none⟩ = some (.int .i64 (B.e i).b):=hr.cell i1 (show 2 < 10 by omega)
    have c3:(w.alloc (.cells (#[.int .i64 0,.int .i64 0,.int .i64 0,.int .i64 0,.int .i64 0,.int .i64 0,.int .i64 0]:Array Value) 63)).cell? ⟨g,i * 10 + 3,none⟩ = some (.int .i64 (B.e i).sc):=hr.cell i1 (show 3 < 10 by omega)
    have c4:(w.alloc (.cells (#[.int .i64 0,.int .i64 0,.int .i64 0,.int .i64 0,.int .i64 0,.int .i64 0,.int .i64 0]:Array Value) 63)).cell? ⟨g,i * 10 + 4,none⟩ = some (.int .i64 (B.e i).bc):=hr.cell i1 (show 4 < 10 by omega)
    have c5:(w.alloc (.cells (#[.int .i64 0,.int .i64 0,.int .i64 0,.int .i64 0,.int .i64 0,.int .i64 0,.int .i64 0]:Array Value) 63)).cell? ⟨g,i * 10 + 5,none⟩ = some (.int .i64 (B.e i).sell):=hr.cell i1 (show 5 < 10 by omega)
    have c6:(w.alloc (.cells (#[.int .i64 0,.int .i64 0,.int .i64 0,.int .i64 0,.int .i64 0,.int .i64 0,.int .i64 0]:Array Value) 63)).cell? ⟨g,i * 10 + 6,none⟩ = some (.int .i64 (B.e i).buy):=hr.cell i1 (show 6 < 10 by omega)
    clear a hx hf he hr hty hob i1 i2 HA he' hr' hty' hob'
    show Calls _ _ _ _ fun e w' => e = .returned (.tuple #[.agg (B.e i).deal,.bool true])∧Below w.heap.size w w'
    unfold Ent.deal
    generalize B.e i = x at *
    generalize hH:w.heap.size = H at *
    go_enter Tryz.func17,Tryz.ntmps17
    go_wp2_with fail
    refine HF.out.mono ?_
    rintro e w2 ⟨rfl,rfl⟩
    generalize w.alloc (.cells (#[.int .i64 0,.int .i64 0,.int .i64 0,.int .i64 0,.int .i64 0,.int .i64 0,.int .i64 0]:Array Value) 63) = w1 at *
    go_wp2
    have hR:=(range7 HZZ.out (.int .i64 x.id) (.int .i64 x.a) (.int .i64 x.b) (.int .i64 x.sc) (.int .i64 x.bc) (.int .i64 x.sell) (.int .i64 x.buy)).range
    have hB:=below7 HB.out (Nat.le_refl _) (.int .i64 x.id) (.int .i64 x.a) (.int .i64 x.b) (.int .i64 x.sc) (.int .i64 x.bc) (.int .i64 x.sell) (.int .i64 x.buy)
    refine bodyPost_ret (results_row1t rfl _ _ _ H _ _ _ rfl rfl hR Tryz.underlying63 rfl (by kernel_rfl)) rfl ⟨rfl,hB⟩
end Go.Proofs.YtgcnnbjbdfgglaaGreat
namespace Go.Proofs.YtgcnnbjbdfgglaaGreat
open Go.RowKit
def twoB (a b m:Int):Bool:=decide (0≤a∧0≤b∧a < m∧b < m∧a ≠ b)
set_option maxRecDepth 100000 in
set_option maxHeartbeats 1000000 in
theorem Bk.two (a b m:Int) (w:World):Calls Tryz.prog 194 #[.int .i64 a,.int .i64 b,.int .i64 m] w fun e w' => e = .returned (.bool (twoB a b m))∧w' = w:=by
  by_cases h0:0≤a
  · by_cases h1:0≤b
    · by_cases h2:a < m
      · by_cases h3:b < m
        · by_cases h4:a ≠ b
          · have h5:(a != b) = true:=by simp [h4]
            have HH:twoB a b m = true:=decide_eq_true ⟨h0,h1,h2,h3,h4⟩
            rw [HH]
            clear HH
            go_enter Tryz.func194,Tryz.ntmps194
            go_wp2
            go_ret
            exact ⟨rfl,rfl⟩
          · have he:a = b:=Decidable.not_not.1 h4
            subst he
            have HH:twoB a a m = false:=decide_eq_false fun h => h.2.2.2.2 rfl
            rw [HH]
            clear HH h4
            go_enter Tryz.func194,Tryz.ntmps194
            go_wp2
            go_ret
            exact ⟨rfl,rfl⟩
        · have HH:twoB a b m = false:=decide_eq_false fun h => h3 (h.2.2.2.1)
          rw [HH]
          clear HH
          go_enter Tryz.func194,Tryz.ntmps194
          go_wp2
          go_ret
          exact ⟨rfl,rfl⟩
      · have HH:twoB a b m = false:=decide_eq_false fun h => h2 (h.2.2.1)
        rw [HH]
        clear HH
        go_enter Tryz.func194,Tryz.ntmps194
        go_wp2
        go_ret
        exact ⟨rfl,rfl⟩
    · have HH:twoB a b m = false:=decide_eq_false fun h => h1 (h.2.1)
      rw [HH]
      clear HH
      go_enter Tryz.func194,Tryz.ntmps194
      go_wp2
      go_ret
      exact ⟨rfl,rfl⟩
  · have HH:twoB a b m = false:=decide_eq_false fun h => h0 (h.1)
    rw [HH]
    clear HH
    go_enter Tryz.func194,Tryz.ntmps194
    go_wp2
    go_ret
    exact ⟨rfl,rfl⟩
def mayB (B:Bo) (x:Ent):Bool:=decide (1≤x.id) && decide (x.id≤2147483647) && twoB x.a x.b B.mem && twoB x.sc x.bc B.cur && decide (1≤x.sell) && decide (1≤x.buy)
set_option maxRecDepth 100000 in
set_option maxHeartbeats 4000000 in
theorem Bk.may {w:World} {h:Bh} {B:Bo} (a:BoAt w h B) (x:Ent):Calls Tryz.prog 159 #[.pointer (some ⟨h.b,0,none⟩),.agg x.deal] w fun e w' => e = .returned (.bool (mayB B x))∧Below w.heap.size w w':=by
  have HB:=Lib.hid ((Below.refl w.heap.size w).alloc (Nat.le_refl _) (.cells x.deal 63))
  have HBD:=Lib.hid (HB.out.drew)
  have hk:=a.blk.alloc (.cells x.deal 63)
  have m0:(w.alloc (.cells x.deal 63)).cell? ⟨h.b,0,none⟩ = some (.int .i64 B.mem):=hk.cell 0
  have m1:(w.alloc (.cells x.deal 63)).cell? ⟨h.b,1,none⟩ = some (.int .i64 B.cur):=hk.cell 1
  have hn:=Blk.new w 63 x.deal
  have HT1:=Lib.hid (fun w => Bk.two x.a x.b B.mem w)
  have HT2:=Lib.hid (fun w => Bk.two x.sc x.bc B.cur w)
  have hlb:=a.blk.lt
  clear a hk
  unfold Ent.deal at *
  have c0:(w.alloc (.cells #[.int .i64 x.id,.int .i64 x.a,.int .i64 x.b,.int .i64 x.sc,.int .i64 x.bc,.int .i64 x.sell,.int .i64 x.buy] 63)).cell? ⟨w.heap.size,0,none⟩ = some (.int .i64 x.id):=hn.cell 0
  have c1:(w.alloc (.cells #[.int .i64 x.id,.int .i64 x.a,.int .i64 x.b,.int .i64 x.sc,.int .i64 x.bc,.int .i64 x.sell,.int .i64 x.buy] 63)).cell? ⟨w.heap.size,1,none⟩ = some (.int .i64 x.a):=hn.cell 1
  have c2:(w.alloc (.cells #[.int .i64 x.id,.int .i64 x.a,.int .i64 x.b,.int .i64 x.sc,.int .i64 x.bc,.int .i64 x.sell,.int .i64 x.buy] 63)).cell? ⟨w.heap.size,2,none⟩ = some (.int .i64 x.b):=hn.cell 2
  have c3:(w.alloc (.cells #[.int .i64 x.id,.int .i64 x.a,.int .i64 x.b,.int .i64 x.sc,.int .i64 x.bc,.int .i64 x.sell,.int .i64 x.buy] 63)).cell? ⟨w.heap.size,3,none⟩ = some (.int .i64 x.sc):=hn.cell 3
  have c4:(w.alloc (.cells #[.int .i64 x.id,.int .i64 x.a,.int .i64 x.b,.int .i64 x.sc,.int .i64 x.bc,.int .i64 x.sell,.int .i64 x.buy] 63)).cell? ⟨w.heap.size,4,none⟩ = some (.int .i64 x.bc):=hn.cell 4
  have c5:(w.alloc (.cells #[.int .i64 x.id,.int .i64 x.a,.int .i64 x.b,.int .i64 x.sc,.int .i64 x.bc,.int .i64 x.sell,.int .i64 x.buy] 63)).cell? ⟨w.heap.size,5,none⟩ = some (.int .i64 x.sell):=hn.cell 5
  have c6:(w.alloc (.cells #[.int .i64 x.id,.int .i64 x.a,.int .i64 x.b,.int .i64 x.sc,.int .i64 x.bc,.int .i64 x.sell,.int .i64 x.buy] 63)).cell? ⟨w.heap.size,6,none⟩ = some (.int .i64 x.buy):=hn.cell 6
  clear hn
  obtain ⟨r,hr⟩:∃ r,mayB B x = r:=⟨_,rfl⟩
  rw [hr]
  unfold mayB at hr
  go_enter Tryz.func159,Tryz.ntmps159
  go_upto_region 1 with (fail)
  generalize w.alloc (.cells #[.int .i64 x.id,.int .i64 x.a,.int .i64 x.b,.int .i64 x.sc,.int .i64 x.bc,.int .i64 x.sell,.int .i64 x.buy] 63) = w1 at *
  generalize hH:w.heap.size = H at *
  have HE:=Lib.hid hH
  clear hH
  by_cases h0:1≤x.id
  · by_cases h1:x.id≤2147483647
    · by_cases h2:twoB x.a x.b B.mem = true
      · by_cases h3:twoB x.sc x.bc B.cur = true
        · by_cases h4:1≤x.sell
          · by_cases h5:1≤x.buy
            · rw [h2] at HT1
              rw [h3] at HT2
              have e:(decide (1≤x.id) && decide (x.id≤2147483647) && twoB x.a x.b B.mem && twoB x.sc x.bc B.cur && decide (1≤x.sell) && decide (1≤x.buy)) = true:=by simp [h0,h1,h2,h3,h4,h5]
              rw [e] at hr
              subst hr
              clear e
              go_quiet (first | (go_at_call_of 194 (Value.int .i64 x.a); exact Calls.quiet_of_same (HT1.out _)) | (go_at_call_of 194 (Value.int .i64 x.sc); exact Calls.quiet_of_same (HT2.out _)))
              go_wp2
              go_ret
              exact ⟨rfl,by rw [HE.out]; exact Bk.bdrew HB.out _⟩
            · have e:(decide (1≤x.id) && decide (x.id≤2147483647) && twoB x.a x.b B.mem && twoB x.sc x.bc B.cur && decide (1≤x.sell) && decide (1≤x.buy)) = false:=by simp [h0,h1,h2,h3,h4,h5]
              have d5:decide (1≤x.buy) = false:=decide_eq_false h5
              rw [h2] at HT1
              rw [h3] at HT2
              rw [e] at hr
              subst hr
              clear e
              go_quiet (first | (go_at_call_of 194 (Value.int .i64 x.a); exact Calls.quiet_of_same (HT1.out _)) | (go_at_call_of 194 (Value.int .i64 x.sc); exact Calls.quiet_of_same (HT2.out _)))
              go_wp2
              go_ret
              exact ⟨rfl,by rw [HE.out]; exact Bk.bdrew HB.out _⟩
          · have e:(decide (1≤x.id) && decide (x.id≤2147483647) && twoB x.a x.b B.mem && twoB x.sc x.bc B.cur && decide (1≤x.sell) && decide (1≤x.buy)) = false:=by simp [h0,h1,h2,h3,h4]
            have d4:decide (1≤x.sell) = false:=decide_eq_false h4
            rw [h2] at HT1
            rw [h3] at HT2
            rw [e] at hr
            subst hr
            clear e
            go_quiet (first | (go_at_call_of 194 (Value.int .i64 x.a); exact Calls.quiet_of_same (HT1.out _)) | (go_at_call_of 194 (Value.int .i64 x.sc); exact Calls.quiet_of_same (HT2.out _)))
            go_wp2
            go_ret
            exact ⟨rfl,by rw [HE.out]; exact Bk.bdrew HB.out _⟩
        · rw [Bool.not_eq_true] at h3
          have e:(decide (1≤x.id) && decide (x.id≤2147483647) && twoB x.a x.b B.mem && twoB x.sc x.bc B.cur && decide (1≤x.sell) && decide (1≤x.buy)) = false:=by simp [h0,h1,h2,h3]
          rw [h2] at HT1
          rw [h3] at HT2
          rw [e] at hr
          subst hr
          clear e
          go_quiet (first | (go_at_call_of 194 (Value.int .i64 x.a); exact Calls.quiet_of_same (HT1.out _)) | (go_at_call_of 194 (Value.int .i64 x.sc); exact Calls.quiet_of_same (HT2.out _)))
          go_wp2
          go_ret
          exact ⟨rfl,by rw [HE.out]; exact Bk.bdrew HB.out _⟩
      · rw [Bool.not_eq_true] at h2
        have e:(decide (1≤x.id) && decide (x.id≤2147483647) && twoB x.a x.b B.mem && twoB x.sc x.bc B.cur && decide (1≤x.sell) && decide (1≤x.buy)) = false:=by simp [h0,h1,h2]
        rw [h2] at HT1
        rw [e] at hr
        subst hr
        clear e
        go_quiet (first | (go_at_call_of 194 (Value.int .i64 x.a); exact Calls.quiet_of_same (HT1.out _)) | (go_at_call_of 194 (Value.int .i64 x.sc); exact Calls.quiet_of_same (HT2.out _)))
        go_wp2
        go_ret
        exact ⟨rfl,by rw [HE.out]; exact Bk.bdrew HB.out _⟩
    · have e:(decide (1≤x.id) && decide (x.id≤2147483647) && twoB x.a x.b B.mem && twoB x.sc x.bc B.cur && decide (1≤x.sell) && decide (1≤x.buy)) = false:=by simp [h0,h1]
      have d1:decide (x.id≤2147483647) = false:=decide_eq_false h1
      rw [e] at hr
      subst hr
      clear e
      go_quiet (first | (go_at_call_of 194 (Value.int .i64 x.a); exact Calls.quiet_of_same (HT1.out _)) | (go_at_call_of 194 (Value.int .i64 x.sc); exact Calls.quiet_of_same (HT2.out _)))
      go_wp2
      go_ret
      exact ⟨rfl,by rw [HE.out]; exact Bk.bdrew HB.out _⟩
  · have e:(decide (1≤x.id) && decide (x.id≤2147483647) && twoB x.a x.b B.mem && twoB x.sc x.bc B.cur && decide (1≤x.sell) && decide (1≤x.buy)) = false:=by simp [h0]
    have d0:decide (1≤x.id) = false:=decide_eq_false h0
    rw [e] at hr
    subst hr
    clear e
    go_quiet (first | (go_at_call_of 194 (Value.int .i64 x.a); exact Calls.quiet_of_same (HT1.out _)) | (go_at_call_of 194 (Value.int .i64 x.sc); exact Calls.quiet_of_same (HT2.out _)))
    go_wp2
    go_ret
    exact ⟨rfl,by rw [HE.out]; exact Bk.bdrew HB.out _⟩
set_option maxRecDepth 100000 in
set_option maxHeartbeats 1000000 in
theorem Bk.mirror (x:Ent) (w:World):Calls Tryz.prog 173 #[.agg x.deal] w fun e w' => (∃ y:Ent,e = .returned (.agg y.deal))∧Below w.heap.size w w':=by
  have HB:=Lib.hid (((Below.refl w.heap.size w).alloc (Nat.le_refl _) (.cells x.deal 63)).alloc (Nat.le_of_lt (by simp)) (.cells #[.int .i64 0,.int .i64 0,.int .i64 0,.int .i64 0,.int .i64 0,.int .i64 0,.int .i64 0] 63))
  have hn:=(Blk.new w 63 x.deal).alloc (.cells #[.int .i64 0,.int .i64 0,.int .i64 0,.int .i64 0,.int .i64 0,.int .i64 0,.int .i64 0] 63)
  have hz:=Blk.new (w.alloc (.cells x.deal 63)) 63 #[.int .i64 0,.int .i64 0,.int .i64 0,.int .i64 0,.int .i64 0,.int .i64 0,.int .i64 0]
  rw [World.size_alloc] at hz
  unfold Ent.deal at hn hz HB
  have c0:((w.alloc (.cells #[.int .i64 x.id,.int .i64 x.a,.int .i64 x.b,.int .i64 x.sc,.int .i64 x.bc,.int .i64 x.sell,.int .i64 x.buy] 63)).alloc (.cells #[.int .i64 0,.int .i64 0,.int .i64 0,.int .i64 0,.int .i64 0,.int .i64 0,.int .i64 0] 63)).cell? ⟨w.heap.size,0,none⟩ = some (.int .i64 x.id):=hn.cell 0
  have z0:((w.alloc (.cells #[.int .i64 x.id,.int .i64 x.a,.int .i64 x.b,.int .i64 x.sc,.int .i64 x.bc,.int .i64 x.sell,.int .i64 x.buy] 63)).alloc (.cells #[.int .i64 0,.int .i64 0,.int .i64 0,.int .i64 0,.int .i64 0,.int .i64 0,.int .i64 0] 63)).cell? ⟨w.heap.size + 1,0,none⟩ = some (.int .i64 0):=hz.cell 0
  have v0:=hz.frozen 0
  have c1:((w.alloc (.cells #[.int .i64 x.id,.int .i64 x.a,.int .i64 x.b,.int .i64 x.sc,.int .i64 x.bc,.int .i64 x.sell,.int .i64 x.buy] 63)).alloc (.cells #[.int .i64 0,.int .i64 0,.int .i64 0,.int .i64 0,.int .i64 0,.int .i64 0,.int .i64 0] 63)).cell? ⟨w.heap.size,1,none⟩ = some (.int .i64 x.a):=hn.cell 1
  have z1:((w.alloc (.cells #[.int .i64 x.id,.int .i64 x.a,.int .i64 x.b,.int .i64 x.sc,.int .i64 x.bc,.int .i64 x.sell,.int .i64 x.buy] 63)).alloc (.cells #[.int .i64 0,.int .i64 0,.int .i64 0,.int .i64 0,.int .i64 0,.int .i64 0,.int .i64 0] 63)).cell? ⟨w.heap.size + 1,1,none⟩ = some (.int .i64 0):=hz.cell 1
  have v1:=hz.frozen 1
  have c2:((w.alloc (.cells #[.int .i64 x.id,.int .i64 x.a,.int .i64 x.b,.int .i64 x.sc,.int .i64 x.bc,.int .i64 x.sell,.int .i64 x.buy] 63)).alloc (.cells #[.int .i64 0,.int .i64 0,.int .i64 0,.int .i64 0,.int .i64 0,.int .i64 0,.int .i64 0] 63)).cell? ⟨w.heap.size,2,none⟩ = some (.int .i64 x.b):=hn.cell 2
  have z2:((w.alloc (.cells #[.int .i64 x.id,.int .i64 x.a,.int .i64 x.b,.int .i64 x.sc,.int .i64 x.bc,.int .i64 x.sell,.int .i64 x.buy] 63)).alloc (.cells #[.int .i64 0,.int .i64 0,.int .i64 0,.int .i64 0,.int .i64 0,.int .i64 0,.int .i64 0] 63)).cell? ⟨w.heap.size + 1,2,none⟩ = some (.int .i64 0):=hz.cell 2
  have v2:=hz.frozen 2
  have c3:((w.alloc (.cells #[.int .i64 x.id,.int .i64 x.a,.int .i64 x.b,.int .i64 x.sc,.int .i64 x.bc,.int .i64 x.sell,.int .i64 x.buy] 63)).alloc (.cells #[.int .i64 0,.int .i64 0,.int .i64 0,.int .i64 0,.int .i64 0,.int .i64 0,.int .i64 0] 63)).cell? ⟨w.heap.size,3,none⟩ = some (.int .i64 x.sc):=hn.cell 3
  have z3:((w.alloc (.cells #[.int .i64 x.id,.int .i64 x.a,.int .i64 x.b,.int .i64 x.sc,.int .i64 x.bc,.int .i64 x.sell,.int .i64 x.buy] 63)).alloc (.cells #[.int .i64 0,.int .i64 0,.int .i64 0,.int .i64 0,.int .i64 0,.int .i64 0,.int .i64 0] 63)).cell? ⟨w.heap.size + 1,3,none⟩ = some (.int .i64 0):=hz.cell 3
  have v3:=hz.frozen 3
  have c4:((w.alloc (.cells #[.int .i64 x.id,.int .i64 x.a,.int .i64 x.b,.int .i64 x.sc,.int .i64 x.bc,.int .i64 x.sell,.int .i64 x.buy] 63)).alloc (.cells #[.int .i64 0,.int .i64 0,.int .i64 0,.int .i64 0,.int .i64 0,.int .i64 0,.int .i64 0] 63)).cell? ⟨w.heap.size,4,none⟩ = some (.int .i64 x.bc):=hn.cell 4
  have z4:((w.alloc (.cells #[.int .i64 x.id,.int .i64 x.a,.int .i64 x.b,.int .i64 x.sc,.int .i64 x.bc,.int .i64 x.sell,.int .i64 x.buy] 63)).alloc (.cells #[.int .i64 0,.int .i64 0,.int .i64 0,.int .i64 0,.int .i64 0,.int .i64 0,.int .i64 0] 63)).cell? ⟨w.heap.size + 1,4,none⟩ = some (.int .i64 0):=hz.cell 4
  have v4:=hz.frozen 4
  have c5:((w.alloc (.cells #[.int .i64 x.id,.int .i64 x.a,.int .i64 x.b,.int .i64 x.sc,.int .i64 x.bc,.int .i64 x.sell,.int .i64 x.buy] 63)).alloc (.cells #[.int .i64 0,.int .i64 0,.int .i64 0,.int .i64 0,.int .i64 0,.int .i64 0,.int .i64 0] 63)).cell? ⟨w.heap.size,5,none⟩ = some (.int .i64 x.sell):=hn.cell 5
  have z5:((w.alloc (.cells #[.int .i64 x.id,.int .i64 x.a,.int .i64 x.b,.int .i64 x.sc,.int .i64 x.bc,.int .i64 x.sell,.int .i64 x.buy] 63)).alloc (.cells #[.int .i64 0,.int .i64 0,.int .i64 0,.int .i64 0,.int .i64 0,.int .i64 0,.int .i64 0] 63)).cell? ⟨w.heap.size + 1,5,none⟩ = some (.int .i64 0):=hz.cell 5
  have v5:=hz.frozen 5
  have c6:((w.alloc (.cells #[.int .i64 x.id,.int .i64 x.a,.int .i64 x.b,.int .i64 x.sc,.int .i64 x.bc,.int .i64 x.sell,.int .i64 x.buy] 63)).alloc (.cells #[.int .i64 0,.int .i64 0,.int .i64 0,.int .i64 0,.int .i64 0,.int .i64 0,.int .i64 0] 63)).cell? ⟨w.heap.size,6,none⟩ = some (.int .i64 x.buy):=hn.cell 6
  have z6:((w.alloc (.cells #[.int .i64 x.id,.int .i64 x.a,.int .i64 x.b,.int .i64 x.sc,.int .i64 x.bc,.int .i64 x.sell,.int .i64 x.buy] 63)).alloc (.cells #[.int .i64 0,.int .i64 0,.int .i64 0,.int .i64 0,.int .i64 0,.int .i64 0,.int .i64 0] 63)).cell? ⟨w.heap.size + 1,6,none⟩ = some (.int .i64 0):=hz.cell 6
  have v6:=hz.frozen 6
  have l1:=hn.lt
  have l2:=hz.lt
  have HZ:=Lib.hid hz
  clear hn hz
  unfold Ent.deal
  go_enter Tryz.func173,Tryz.ntmps173
  go_upto_region 1 with (fail)
  generalize ((w.alloc (.cells #[.int .i64 x.id,.int .i64 x.a,.int .i64 x.b,.int .i64 x.sc,.int .i64 x.bc,.int .i64 x.sell,.int .i64 x.buy] 63)).alloc (.cells #[.int .i64 0,.int .i64 0,.int .i64 0,.int .i64 0,.int .i64 0,.int .i64 0,.int .i64 0] 63)) = w1 at *
  generalize hH:w.heap.size = H at *
  have HE:=Lib.hid hH
  clear hH
  go_wp2
  have hR:=(range7 HZ.out (.int .i64 x.id) (.int .i64 x.b) (.int .i64 x.a) (.int .i64 x.bc) (.int .i64 x.sc) (.int .i64 x.buy) (.int .i64 x.sell)).range
  have hB:=below7 HB.out (Nat.le_succ H) (.int .i64 x.id) (.int .i64 x.b) (.int .i64 x.a) (.int .i64 x.bc) (.int .i64 x.sc) (.int .i64 x.buy) (.int .i64 x.sell)
  refine bodyPost_ret (results_row1 rfl _ _ _ (H + 1) _ _ rfl hR Tryz.underlying63 rfl (by kernel_rfl)) rfl ⟨⟨⟨x.id,x.b,x.a,x.bc,x.sc,x.buy,x.sell,0,0,0⟩,rfl⟩,by rw [HE.out]; exact hB⟩
end Go.Proofs.YtgcnnbjbdfgglaaGreat
