/- LAW TopBoth: of every configuration of a bank and every list of byte strings the given function TopBoth returns true and leaves its arguments as they were; no condition. A part of what it needs. -/
import Derived.Test.YtgcnnbjbdfgglaaGreatZbk
import Derived.Test.YtgcnnbjbdfgglaaGreatRows
import Derived.WalkKit
import Derived.WalkSpells
import Derived.WalkLawsBesides
import Derived.Lib.Hide
import Derived.BigQuiet
import Derived.BigRegion
import Derived.Deep.MidRow
import Derived.LoopN
import Derived.Deep.LoopGhost
import Derived.Deep.DeepCutAuto
import Derived.Deep.CutBlock
import Derived.Deep.RegionWith
import Derived.Deep.RegionHeld3
import Derived.Laws.Concat
import Derived.Lib.Strings
import Derived.StillTailTactics
import Derived.Deep.QuietTactic
namespace Go.Proofs.YtgcnnbjbdfgglaaGreat.J
open Go.RowKit
section
structure Dk where
  b:Nat→List UInt8
  s:Nat→Nat
  room:Int
  fuse:Int
  down:Bool
def upd {α:Type} (f:Nat→α) (i:Nat) (v:α):Nat→α:=fun j=>if j=i then v else f j
def Dk.cell (d:Dk) (i:Nat):Value:=.string ⟨(d.b i).toArray⟩
def Dk.cells (d:Dk):Array Value:=#[d.cell 0,.int .i64 (d.s 0),d.cell 1,.int .i64 (d.s 1),d.cell 2,.int .i64 (d.s 2),d.cell 3,.int .i64 (d.s 3),.int .i64 d.room,.int .i64 d.fuse,.bool d.down]
def DiskAt (w:World) (g:Nat) (d:Dk):Prop:=w.heap[g]?=some (.cells d.cells 95 (0,0))
theorem four {i:Nat} (h:i < 4):i=0∨i=1∨i=2∨i=3:=by omega
section
variable {w:World} {g:Nat} {d:Dk} (h:DiskAt w g d)
include h
theorem DiskAt.lt:g < w.heap.size:=(Array.getElem?_eq_some_iff.1 h).1
theorem DiskAt.cellb {i:Nat} (hi:i < 4):w.cell? ⟨g,i * 2,none⟩=some (.string ⟨(d.b i).toArray⟩):=by
 rw [cell_of_row _ _ _ _ _ _ h]
 rcases four hi with rfl | rfl | rfl | rfl <;> rfl
theorem DiskAt.cells {i:Nat} (hi:i < 4):w.cell? ⟨g,i * 2 + 1,none⟩=some (.int .i64 (d.s i)):=by
 rw [cell_of_row _ _ _ _ _ _ h]
 rcases four hi with rfl | rfl | rfl | rfl <;> rfl
theorem DiskAt.cellr:w.cell? ⟨g,8,none⟩=some (.int .i64 d.room):=by rw [cell_of_row _ _ _ _ _ _ h]; rfl
theorem DiskAt.cellf:w.cell? ⟨g,9,none⟩=some (.int .i64 d.fuse):=by rw [cell_of_row _ _ _ _ _ _ h]; rfl
theorem DiskAt.celld:w.cell? ⟨g,10,none⟩=some (.bool d.down):=by rw [cell_of_row _ _ _ _ _ _ h]; rfl
theorem DiskAt.frozen (j:Nat):w.frozen? ⟨g,j,none⟩=false:=frozen_of_row _ _ _ _ _ h
theorem DiskAt.below {w1:World} (hb:Below w.heap.size w w1):DiskAt w1 g d:=by
 unfold DiskAt at h ⊢
 rw [hb.block g (Array.getElem?_eq_some_iff.1 h).1]; exact h
theorem DiskAt.setb {i:Nat} (hi:i < 4) (x:List UInt8):DiskAt (w.setCell ⟨g,i * 2,none⟩ (.string ⟨x.toArray⟩)) g { d with b:=upd d.b i x }:=by
 have:=heap_setCell_same w g (i * 2) _ _ (.string ⟨x.toArray⟩) h
 unfold DiskAt
 rw [this]
 rcases four hi with rfl | rfl | rfl | rfl <;> rfl
theorem DiskAt.sets {i:Nat} (hi:i < 4) (n:Nat):DiskAt (w.setCell ⟨g,i * 2 + 1,none⟩ (.int .i64 n)) g { d with s:=upd d.s i n }:=by
 have:=heap_setCell_same w g (i * 2 + 1) _ _ (.int .i64 n) h
 unfold DiskAt
 rw [this]
 rcases four hi with rfl | rfl | rfl | rfl <;> rfl
theorem DiskAt.setf (n:Int):DiskAt (w.setCell ⟨g,9,none⟩ (.int .i64 n)) g { d with fuse:=n }:=heap_setCell_same w g 9 _ _ (.int .i64 n) h
theorem DiskAt.setd (x:Bool):DiskAt (w.setCell ⟨g,10,none⟩ (.bool x)) g { d with down:=x }:=heap_setCell_same w g 10 _ _ (.bool x) h
end
abbrev Only (g:Nat) (w w':World):Prop:=w.grownBy w' (some g)
theorem Only.refl (g:Nat) (w:World):Only g w w:=⟨rfl,rfl,rfl,Nat.le_refl _,fun _ _ _=>rfl⟩
theorem Only.of_below {g:Nat} {w w':World} (h:Below w.heap.size w w'):Only g w w':=⟨h.os,h.tape,h.output,h.size,fun k hk _=>h.block k hk⟩
theorem Only.trans {g:Nat} {a b c:World} (h:Only g a b) (k:Only g b c):Only g a c :=
 ⟨k.os.trans h.os,k.tape.trans h.tape,k.output.trans h.output,Nat.le_trans h.size k.size,fun i hi hne=>(k.block i (Nat.lt_of_lt_of_le hi h.size) hne).trans (h.block i hi hne)⟩
theorem Only.setCell {g:Nat} {a b:World} (h:Only g a b) (o:Nat) (v:Value):Only g a (b.setCell ⟨g,o,none⟩ v) :=
 h.trans ⟨rfl,rfl,rfl,by simp [World.setCell],fun k _ hne=>Below.heap_setCell _ _ _ _ (fun e=>hne (by rw [e]))⟩
theorem Only.drew {g:Nat} {a b:World} (h:Only g a b):Only g a b.drew:=⟨h.os,h.tape,h.output,h.size,h.block⟩
theorem Only.drewN {g:Nat} {a b:World} (h:Only g a b) (n:Nat):Only g a (b.drewN n):=⟨h.os,h.tape,h.output,h.size,h.block⟩
theorem Only.alloc {g:Nat} {a b:World} (h:Only g a b) (o:Obj):Only g a (b.alloc o):=h.trans (Only.of_below ((Below.refl _ _).alloc (Nat.le_refl _) o))
theorem Only.heap {g:Nat} {a b:World} (h:Only g a b) {k:Nat} {o:Obj} (hk:a.heap[k]?=some o) (hne:k ≠ g):b.heap[k]?=some o:=by
 rw [h.block k (Array.getElem?_eq_some_iff.1 hk).1 (by simpa using hne)]; exact hk
theorem Only.cell {g:Nat} {a b:World} (h:Only g a b) {p:Addr} {v:Value} (hp:a.cell? p=some v) (hne:p.block ≠ g):b.cell? p=some v:=by
 rw [World.cell?_of_block (w:=a) (h.block p.block (block_lt_of_cell hp) (by simpa using hne))]; exact hp
def hasB (i:Int):Bool:=decide (0≤i∧i < 4)
theorem hasB_yes {i:Nat} (h:i < 4):hasB i=true:=by simp [hasB]; omega
set_option maxRecDepth 100000 in
set_option maxHeartbeats 400000 in
theorem has_any (i:Int) (w:World):Calls Tryz.prog 110 #[.int .i64 i] w fun e w'=>e=.returned (.bool (hasB i))∧w=w':=by
 by_cases h:0≤i
 · by_cases h4:i < 4
   · go_enter Tryz.func110,Tryz.ntmps110
     go_wp2
     go_ret
     exact ⟨by simp [hasB,h,h4],rfl⟩
   · go_enter Tryz.func110,Tryz.ntmps110
     go_wp2
     go_ret
     exact ⟨by simp [hasB,h4],rfl⟩
 · go_enter Tryz.func110,Tryz.ntmps110
   go_wp2
   go_ret
   refine ⟨?_,rfl⟩
   have:hasB i=false:=by unfold hasB; exact decide_eq_false (fun h'=>by omega)
   rw [this]; simp
theorem has_yes (i:Int) (h:hasB i=true) (w:World):Calls Tryz.prog 110 #[.int .i64 i] w fun e w'=>e=.returned (.bool true)∧w=w':=by
 have:=has_any i w; rwa [h] at this
theorem has_no (i:Int) (h:hasB i=false) (w:World):Calls Tryz.prog 110 #[.int .i64 i] w fun e w'=>e=.returned (.bool false)∧w=w':=by
 have:=has_any i w; rwa [h] at this
set_option maxRecDepth 100000 in
set_option maxHeartbeats 400000 in
theorem read_disk (g:Nat) (d:Dk) (i:Nat) (hi:i < 4) (w:World) (h:DiskAt w g d) :
    Calls Tryz.prog 62 #[.pointer (some ⟨g,0,none⟩),.int .i64 i] w fun e w'=>e=.returned (.tuple #[.string ⟨(d.b i).toArray⟩,.int .i64 0])∧w=w':=by
 have hb:=h.cellb hi
 go_enter Tryz.func62,Tryz.ntmps62
 go_wp2_with (go_at_call 110; refine (has_yes _ (hasB_yes hi) _).mono ?_; rintro e w1 ⟨rfl,rfl⟩)
 go_ret2
 exact ⟨rfl,rfl⟩
def Dk.new (room:Int):Dk:=⟨fun _=>[],fun _=>0,room,-1,false⟩
set_option maxRecDepth 100000 in
set_option maxHeartbeats 400000 in
theorem new_disk (room:Int) (h0:0≤room) (h1:room≤16777216) (w:World) :
    Calls Tryz.prog 8 #[.int .i64 room] w fun e w'=>e=.returned (.tuple #[.pointer (some ⟨w.heap.size,0,none⟩),.int .i64 0])∧DiskAt w' w.heap.size (Dk.new room)∧Below w.heap.size w w'∧w.heap.size < w'.heap.size:=by
 go_enter Tryz.func8,Tryz.ntmps8
 go_wp2
 go_ret2
 exact ⟨rfl,heap_alloc_new _ _,(Below.refl _ _).alloc (Nat.le_refl _) _,by simp⟩
def Dk.left (d:Dk):Int:=d.room - (d.b 0).length - (d.b 1).length - (d.b 2).length - (d.b 3).length
structure Dk.Ok (d:Dk):Prop where
  room0:0≤d.room
  room1:d.room≤16777216
  fuse:-1≤d.fuse
  fuse1:d.fuse≤9223372036854775807
  left:0≤d.left
  sure:∀ i,d.s i≤(d.b i).length
theorem idx_file0 (x0 x1 x2 x3 x4 x5 x6 x7:Value) (w:World):(Instr.index 93 (.agg #[x0,x1,x2,x3,x4,x5,x6,x7]) (.int .i64 0)).run Tryz.prog w=.ok (.agg #[x0,x1]) w:=by kernel_rfl
theorem idx_file1 (x0 x1 x2 x3 x4 x5 x6 x7:Value) (w:World):(Instr.index 93 (.agg #[x0,x1,x2,x3,x4,x5,x6,x7]) (.int .i64 1)).run Tryz.prog w=.ok (.agg #[x2,x3]) w:=by kernel_rfl
theorem idx_file2 (x0 x1 x2 x3 x4 x5 x6 x7:Value) (w:World):(Instr.index 93 (.agg #[x0,x1,x2,x3,x4,x5,x6,x7]) (.int .i64 2)).run Tryz.prog w=.ok (.agg #[x4,x5]) w:=by kernel_rfl
theorem idx_file3 (x0 x1 x2 x3 x4 x5 x6 x7:Value) (w:World):(Instr.index 93 (.agg #[x0,x1,x2,x3,x4,x5,x6,x7]) (.int .i64 3)).run Tryz.prog w=.ok (.agg #[x6,x7]) w:=by kernel_rfl
set_option maxRecDepth 100000 in
set_option maxHeartbeats 1000000 in
theorem left_disk (g:Nat) (d:Dk) (w:World) (h:DiskAt w g d) (ho:d.Ok) :
    Calls Tryz.prog 120 #[.pointer (some ⟨g,0,none⟩)] w fun e w'=>e=.returned (.int .i64 d.left)∧Below w.heap.size w w':=by
 have hr:=h.cellr
 have hrange:w.rangeAt g 0 [.string ⟨(d.b 0).toArray⟩,.int .i64 (d.s 0),.string ⟨(d.b 1).toArray⟩,.int .i64 (d.s 1),.string ⟨(d.b 2).toArray⟩,.int .i64 (d.s 2),.string ⟨(d.b 3).toArray⟩,.int .i64 (d.s 3)]:=by
  intro j v hv
  rw [cell_of_row _ _ _ _ _ _ h,Nat.zero_add]
  have hj:=(List.getElem?_eq_some_iff.1 hv).1
  simp at hj
  have:j=0∨j=1∨j=2∨j=3∨j=4∨j=5∨j=6∨j=7:=by omega
  rcases this with rfl | rfl | rfl | rfl | rfl | rfl | rfl | rfl <;> exact hv
 have HRG:=Lib.hid hrange
 have h0:=ho.room0
 have h1:=ho.room1
 have h2:=ho.left
 unfold Dk.left at h2
 clear hrange h
 go_enter Tryz.func120,Tryz.ntmps120
 go_wp2_with (with_reducible refine wpList_load_mid rfl 93 (.tmp 12) rfl g 0 rfl _ _ HRG.out Tryz.underlying93 rfl (by kernel_rfl) ?_)
 have i0:=idx_file0
 have i1:=idx_file1
 have i2:=idx_file2
 have i3:=idx_file3
 refine wp_loop_rounds 5 ?_
 rw [rounds_succ]
 go_wp2
 rw [rounds_succ]
 go_wp2
 rw [rounds_succ]
 go_wp2
 rw [rounds_succ]
 go_wp2
 rw [rounds_succ]
 go_wp2
 go_ret
 exact ⟨rfl,((((Below.refl _ _).alloc (Nat.le_refl _) _).alloc (by simp) _).alloc (by simp; omega) _).alloc (by simp; omega) _⟩
end
section
set_option maxRecDepth 100000 in
set_option maxHeartbeats 1000000 in
theorem done_off (g:Nat) (d:Dk) (v:Value) (w:World) (h:DiskAt w g d) (hp:d.fuse=0∨d.down=true) :
    Calls Tryz.prog 118 #[.pointer (some ⟨g,0,none⟩),v] w fun e w'=>e=.returned (.int .i64 9)∧DiskAt w' g { d with down:=true }∧Only g w w':=by
 have hf:=h.cellf
 have hz:=h.frozen 10
 by_cases h0:d.fuse=0
 · have hd:=h.celld
   have hs:=Lib.hid (h.setd true)
   rw [h0] at hf
   clear h h0 hp
   go_enter Tryz.func118,Tryz.ntmps118
   go_wp2
   go_ret
   exact ⟨rfl,hs.out,(Only.refl _ _).setCell _ _⟩
 · have hdn:d.down=true:=hp.resolve_left h0
   have hd:=h.celld
   rw [hdn] at hd
   have e0:(d.fuse == 0)=false:=by simp [h0]
   have hs:DiskAt w g { d with down:=true }:=by rw [← hdn]; exact h
   have HS:=Lib.hid hs
   clear h h0 hp hs hdn
   go_enter Tryz.func118,Tryz.ntmps118
   go_wp2
   go_ret
   exact ⟨rfl,HS.out,Only.refl _ _⟩
def Dk.burnt (d:Dk):Dk:=if d.fuse=-1 then d else { d with fuse:=d.fuse - 1 }
set_option maxRecDepth 100000 in
set_option maxHeartbeats 1000000 in
theorem done_on (g:Nat) (d:Dk) (K:FuncId) (caps:Array Value) (hK:∀ args w,(callFunc K args).run Tryz.prog w=.ok (.enter K args) w) (Q:Int→World→Prop) (w:World) (h:DiskAt w g d) (h0:d.fuse ≠ 0) (hdn:d.down=false)
    (hlo:-1≤d.fuse) (hhi:d.fuse≤9223372036854775807) (hc:∀ w1,DiskAt w1 g d.burnt→Only g w w1→Calls Tryz.prog K caps w1 fun e w'=>∃ n,e=.returned (.int .i64 n)∧Q n w') :
    Calls Tryz.prog 118 #[.pointer (some ⟨g,0,none⟩),.func (.func K) #[] caps] w fun e w'=>∃ n,e=.returned (.int .i64 n)∧Q n w':=by
 have hf:=h.cellf
 have hz:=h.frozen 9
 have hd:=h.celld
 rw [hdn] at hd
 have e0:(d.fuse == 0)=false:=by simp [h0]
 by_cases h1:d.fuse=-1
 · have hb:d.burnt=d:=by simp [Dk.burnt,h1]
   rw [hb] at hc
   have HC:=Lib.hid (hc w h (Only.refl _ _))
   rw [h1] at hf
   clear h h0 hc hb hdn
   go_enter Tryz.func118,Tryz.ntmps118
   go_wp2_with fail
   refine HC.out.mono ?_
   rintro e w' ⟨n,rfl,hq⟩
   go_wp2
   go_ret
   exact ⟨n,rfl,hq⟩
 · have hb:d.burnt={ d with fuse:=d.fuse - 1 }:=by simp [Dk.burnt,h1]
   rw [hb] at hc
   have HC:=Lib.hid (hc _ (h.setf (d.fuse - 1)) ((Only.refl _ _).setCell _ _))
   have e1:(d.fuse != -1)=true:=by simp [h1]
   have h2:0≤d.fuse - 1:=by omega
   have h3:d.fuse - 1≤9223372036854775807:=by omega
   clear h hc hb hdn
   generalize d.fuse=fu at *
   go_enter Tryz.func118,Tryz.ntmps118
   go_wp2_with fail
   refine HC.out.mono ?_
   rintro e w' ⟨n,rfl,hq⟩
   go_wp2
   go_ret
   exact ⟨n,rfl,hq⟩
end
section
theorem burnt_ok {d:Dk} (h:d.Ok) (h0:d.fuse ≠ 0):d.burnt.Ok:=by
 unfold Dk.burnt
 split
 · exact h
 · have:=h.fuse; have:=h.fuse1; have:=h0
   exact ⟨h.room0,h.room1,by show -1≤d.fuse - 1; omega,by show d.fuse - 1≤_; omega,h.left,h.sure⟩
theorem Dk.Ok.len {d:Dk} (h:d.Ok) {i:Nat} (hi:i < 4):((d.b i).length:Int)≤16777216:=by
 have h1:=h.room1
 have h2:=h.left
 unfold Dk.left at h2
 rcases four hi with rfl | rfl | rfl | rfl <;> omega
theorem cat_run (x y:List UInt8) (h:((x.length:Nat):Int) + (y.length:Nat)≤9223372036854775807) (w:World):(Go.Op.stringOp .add ⟨x.toArray⟩ ⟨y.toArray⟩).run Tryz.prog w=Result.ok (.string ⟨(x ++ y).toArray⟩) w:=by
 exact (run_string_add_sum w _ _ (by show x.length + y.length≤_; omega)).trans (by rw [ByteArray.mk_append_mk])
theorem DiskAt.there {w:World} {g:Nat} {d:Dk} (h:DiskAt w g d) {i:Nat} (hi:i < 4):w.there g (i * 2) 2:=by
 intro j hj
 have:j=0∨j=1:=by omega
 rcases this with rfl | rfl
 · exact ⟨by rw [Nat.add_zero,h.cellb hi]; rfl,h.frozen _⟩
 · exact ⟨by rw [h.cells hi]; rfl,h.frozen _⟩
theorem DiskAt.setrow {w:World} {g:Nat} {d:Dk} (h:DiskAt w g d) {i:Nat} (hi:i < 4) (x:List UInt8) (n:Nat) :
    DiskAt (w.setCells g (i * 2) [.string ⟨x.toArray⟩,.int .i64 n]) g { d with b:=upd d.b i x,s:=upd d.s i n }:=(h.setb hi x).sets hi n
theorem Only.setCells {g:Nat} {a b:World} (h:Only g a b) (o:Nat) (v u:Value):Only g a (b.setCells g o [v,u]):=(h.setCell o v).setCell (o + 1) u
structure Out where
  code:Int
  dk:Dk
def Dk.app (d:Dk) (i:Nat) (b:List UInt8):Out:=if d.left < b.length then ⟨4,d⟩ else ⟨0,{ d with b:=upd d.b i (d.b i ++ b) }⟩
def Dk.syn (d:Dk) (i:Nat):Out:=⟨0,{ d with s:=upd d.s i (d.b i).length }⟩
def Dk.cut (d:Dk) (i n:Nat):Out:=⟨0,{ d with b:=upd d.b i ((d.b i).take n),s:=upd d.s i (min (d.s i) n) }⟩
theorem kept {w w':World} {p:Addr} {v:Value} (h:Below w.heap.size w w') (hp:w.cell? p=some v):w'.cell? p=some v:=(h.cell (block_lt_of_cell hp)).trans hp
def Box (w:World) (k:Nat) (v:Value):Prop:=w.cell? ⟨k,0,none⟩=some v
set_option maxRecDepth 100000 in
set_option maxHeartbeats 1000000 in
theorem append_in (g:Nat) (d:Dk) (ho:d.Ok) (i:Nat) (hi:i < 4) (b:List UInt8) (hbl:b.length≤140737488355328) (kb kd ka:Nat) (w:World) (h:DiskAt w g d)
    (B:Box w kb (.string ⟨b.toArray⟩)) (D:Box w kd (.pointer (some ⟨g,0,none⟩))) (A:Box w ka (.int .i64 i)) :
    Calls Tryz.prog 119 #[.pointer (some ⟨kb,0,none⟩),.pointer (some ⟨kd,0,none⟩),.pointer (some ⟨ka,0,none⟩)] w fun e w'=>e=.returned (.int .i64 (d.app i b).code)∧DiskAt w' g (d.app i b).dk∧Only g w w':=by
 have HL:=Lib.hid (fun (w1:World) (h1:Box w1 kb (.string ⟨b.toArray⟩)∧Box w1 kd (.pointer (some ⟨g,0,none⟩))∧Below w.heap.size w w1)=>(left_disk g d w1 (h.below h1.2.2) ho).mono fun e w2 (h2:_∧Below _ _ _)=>(⟨h2.1,kept h2.2 h1.1,kept h2.2 h1.2.1,h1.2.2.trans (h2.2.mono h1.2.2.size)⟩:_∧Box w2 kb _∧Box w2 kd _∧Below w.heap.size w w2))
 unfold Box at B D A HL
 have hl0:=ho.left
 have hcat:=cat_run (d.b i) b (by have:=ho.len hi; omega)
 have HD:=Lib.hid h
 have hr1:d.left≤16777216:=by have:=ho.room1; unfold Dk.left; omega
 clear h ho
 generalize hLL:d.left=L at *
 have HE:=Lib.hid hLL
 clear hLL
 by_cases hlt:L < (b.length:Int)
 · go_enter Tryz.func119,Tryz.ntmps119
   go_upto_region 1 with (fail)
   go_region_held3 (fun wx=>wx.cell? ⟨kb,0,none⟩=some (.string ⟨b.toArray⟩)∧wx.cell? ⟨kd,0,none⟩=some (.pointer (some ⟨g,0,none⟩))∧Below w.heap.size w wx) (first | assumption | exact ⟨B,D,(Below.refl _ _).drew⟩)
     (first | (go_at_call 120; refine (HL.out _ (by assumption)).mono ?_; rintro e w1 ⟨rfl,hb1⟩))
   have hbel:=hb1.2.2
   have hq:d.app i b=⟨4,d⟩:=if_pos (by rw [HE.out]; exact hlt)
   have HQ:=Lib.hid hq
   clear hq
   go_wp2
   go_ret
   rw [HQ.out]
   exact ⟨rfl,HD.out.below hbel,Only.of_below hbel⟩
 · have hq:d.app i b=⟨0,{ d with b:=upd d.b i (d.b i ++ b) }⟩:=if_neg (by rw [HE.out]; exact hlt)
   have HQ:=Lib.hid hq
   clear hq
   go_enter Tryz.func119,Tryz.ntmps119
   go_upto_region 1 with (fail)
   go_region_held3 (fun wx=>wx.cell? ⟨kb,0,none⟩=some (.string ⟨b.toArray⟩)∧wx.cell? ⟨kd,0,none⟩=some (.pointer (some ⟨g,0,none⟩))∧Below w.heap.size w wx) (first | assumption | exact ⟨B,D,(Below.refl _ _).drew⟩)
     (first | (go_at_call 120; refine (HL.out _ (by assumption)).mono ?_; rintro e w1 ⟨rfl,hb1⟩))
   have hbel:=hb1.2.2
   have B1:=hb1.1
   have D1:=hb1.2.1
   have A1:=kept hbel A
   have h1:=HD.out.below hbel
   have hc:=h1.cellb hi
   have hf:=h1.frozen (i * 2)
   have HN:=Lib.hid (h1.setb hi (d.b i ++ b))
   have HBEL:=Lib.hid hbel
   clear hb1 hbel h1 B D A
   go_upto_region 3 with (fail)
   go_region
   go_wp2
   go_ret
   rw [HQ.out]
   exact ⟨rfl,HN.out,((Only.of_below HBEL.out).setCell _ _).drew⟩
set_option maxRecDepth 100000 in
set_option maxHeartbeats 1000000 in
theorem sync_in (g:Nat) (d:Dk) (ho:d.Ok) (i:Nat) (hi:i < 4) (kd ka:Nat) (w:World) (h:DiskAt w g d)
    (D:Box w kd (.pointer (some ⟨g,0,none⟩))) (A:Box w ka (.int .i64 i)) :
    Calls Tryz.prog 121 #[.pointer (some ⟨kd,0,none⟩),.pointer (some ⟨ka,0,none⟩)] w fun e w'=>e=.returned (.int .i64 (d.syn i).code)∧DiskAt w' g (d.syn i).dk∧Only g w w':=by
 unfold Box at D A
 have hlen:=ho.len hi
 have hc:=h.cellb hi
 have hs:=h.cells hi
 have hf:=h.frozen (i * 2 + 1)
 have HN:=Lib.hid (h.sets hi (d.b i).length)
 clear h ho
 go_enter Tryz.func121,Tryz.ntmps121
 go_upto_region 1 with (fail)
 go_region
 go_wp2
 go_ret
 exact ⟨rfl,HN.out,((Only.refl _ _).setCell _ _).drew⟩
end
section
set_option maxRecDepth 100000 in
set_option maxHeartbeats 2000000 in
theorem cut_in (g:Nat) (d:Dk) (ho:d.Ok) (i:Nat) (hi:i < 4) (n:Nat) (hn:(n:Int)≤(d.b i).length) (kd ka kn:Nat) (w:World) (h:DiskAt w g d)
    (D:Box w kd (.pointer (some ⟨g,0,none⟩))) (A:Box w ka (.int .i64 i)) (N:Box w kn (.int .i64 n)) :
    Calls Tryz.prog 155 #[.pointer (some ⟨kd,0,none⟩),.pointer (some ⟨ka,0,none⟩),.pointer (some ⟨kn,0,none⟩)] w fun e w'=>e=.returned (.int .i64 (d.cut i n).code)∧DiskAt w' g (d.cut i n).dk∧Only g w w':=by
 unfold Box at D A N
 have hlen:=ho.len hi
 have hc:=h.cellb hi
 have hs:=h.cells hi
 have hi4:(i:Int) < 4:=by omega
 have hf0:=h.frozen (i * 2)
 have hf1:=h.frozen (i * 2 + 1)
 have HD:=Lib.hid h
 clear ho h
 go_enter Tryz.func155,Tryz.ntmps155
 go_upto_region 1 with (fail)
 go_still_tail 24,(by kernel_rfl)
 have e1:(⟨(d.b i).toArray⟩:ByteArray).extract 0 n=⟨((d.b i).take n).toArray⟩:=by rw [ByteArray.extract_mk]; simp
 have e2:(if n < d.s i then (n:Int) else (d.s i:Int))=((min (d.s i) n:Nat):Int):=by split <;> omega
 change wpList _ _ _ _ _ w.drew
 have hd:DiskAt w.drew g d:=HD.out
 have HS:=Lib.hid (hd.setrow hi ((d.b i).take n) (min (d.s i) n))
 refine wpList_store_mid rfl 92 (.tmp 27) (.tmp 24) rfl g (i * 2) #[.string ⟨((d.b i).take n).toArray⟩,.int .i64 (min (d.s i) n:Nat)] rfl ?_ (hd.there hi) (by kernel_rfl) (by simp [Value.oneCell']) ?_
 · show Value.agg #[_,_]=_
   rw [e1,e2]
 clear hd e1 e2 hc hs hf0 hf1 A D N
 go_wp2
 all_goals
   go_ret
   exact ⟨rfl,HS.out,((Only.refl _ _).drew.setCells _ _ _)⟩
end
section
def Dk.step (d:Dk) (f:Dk→Out):Out:=if d.fuse=0∨d.down=true then ⟨9,{ d with down:=true }⟩ else f d.burnt
def Dk.append (d:Dk) (i:Int) (b:List UInt8):Out:=if hasB i=true then d.step (·.app i.toNat b) else ⟨1,d⟩
def Dk.sync (d:Dk) (i:Int):Out:=if hasB i=true then d.step (·.syn i.toNat) else ⟨1,d⟩
def Dk.cutto (d:Dk) (i n:Int):Out:=if hasB i=true∧0≤n∧n≤(d.b i.toNat).length then d.step (·.cut i.toNat n.toNat) else ⟨1,d⟩
theorem hasB_nat {i:Int} (h:hasB i=true):∃ k:Nat,k < 4∧i=(k:Int):=by
 simp [hasB] at h
 exact ⟨i.toNat,by omega,by omega⟩
theorem burnt_b (d:Dk):d.burnt.b=d.b:=by unfold Dk.burnt; split <;> rfl
end
section
theorem done_any (g:Nat) (d:Dk) (ho:d.Ok) (f:Dk→Out) (K:FuncId) (caps:Array Value) (hK:∀ args w,(callFunc K args).run Tryz.prog w=.ok (.enter K args) w) (w:World) (h:DiskAt w g d)
    (hc:∀ w1,DiskAt w1 g d.burnt→Only g w w1→d.burnt.Ok→Calls Tryz.prog K caps w1 fun e w'=>e=.returned (.int .i64 (f d.burnt).code)∧DiskAt w' g (f d.burnt).dk∧Only g w1 w') :
    Calls Tryz.prog 118 #[.pointer (some ⟨g,0,none⟩),.func (.func K) #[] caps] w fun e w'=>e=.returned (.int .i64 (d.step f).code)∧DiskAt w' g (d.step f).dk∧Only g w w':=by
 by_cases hp:d.fuse=0∨d.down=true
 · have e:d.step f=⟨9,{ d with down:=true }⟩:=if_pos hp
   rw [e]
   exact done_off g d _ w h hp
 · have e:d.step f=f d.burnt:=if_neg hp
   rw [e]
   have h0:d.fuse ≠ 0:=fun h=>hp (.inl h)
   have h1:d.down=false:=by cases hd:d.down with
     | false=>rfl
     | true=>exact absurd (.inr hd) hp
   refine (done_on g d K caps hK (fun n w'=>n=(f d.burnt).code∧DiskAt w' g (f d.burnt).dk∧Only g w w') w h h0 h1 ho.fuse ho.fuse1 ?_).mono ?_
   · intro w1 hd1 ho1
     refine (hc w1 hd1 ho1 (burnt_ok ho h0)).mono ?_
     rintro e w' ⟨rfl,hd2,ho2⟩
     exact ⟨_,rfl,rfl,hd2,ho1.trans ho2⟩
   · rintro e w' ⟨n,rfl,rfl,hd2,ho2⟩
     exact ⟨rfl,hd2,ho2⟩
theorem kept_only {w w':World} {g k:Nat} {v:Value} (h:Only g w w') (hb:Box w k v) (hne:k ≠ g):Box w' k v:=h.cell hb hne
theorem box_new (w:World) (v:Value) (t:TypeId):Box (w.alloc (.cells #[v] t (0,0))) w.heap.size v:=by
 unfold Box; rw [cell_of_row _ _ _ _ _ _ (heap_alloc_new _ _)]; rfl
theorem alloc_below (w:World) (o:Obj):Below w.heap.size w (w.alloc o):=(Below.refl _ _).alloc (Nat.le_refl _) o
abbrev W2 (w:World) (a b:Value) (ta tb:TypeId):World:=(w.alloc (.cells #[a] ta (0,0))).alloc (.cells #[b] tb (0,0))
abbrev W3 (w:World) (a b c:Value) (ta tb tc:TypeId):World:=(W2 w a b ta tb).alloc (.cells #[c] tc (0,0))
theorem boxes2 (w:World) (a b:Value) (ta tb:TypeId):Box (W2 w a b ta tb) w.heap.size a∧Box (W2 w a b ta tb) (w.heap.size + 1) b∧Below w.heap.size w (W2 w a b ta tb):=by
 have h1:=box_new w a ta
 have h2:=box_new (w.alloc (.cells #[a] ta (0,0))) b tb
 rw [show (w.alloc (.cells #[a] ta (0,0))).heap.size=w.heap.size + 1 by simp] at h2
 exact ⟨kept (alloc_below _ _) h1,h2,(alloc_below _ _).trans ((alloc_below _ _).mono (by simp))⟩
theorem boxes3 (w:World) (a b c:Value) (ta tb tc:TypeId):Box (W3 w a b c ta tb tc) w.heap.size a∧Box (W3 w a b c ta tb tc) (w.heap.size + 1) b∧Box (W3 w a b c ta tb tc) (w.heap.size + 1 + 1) c∧Below w.heap.size w (W3 w a b c ta tb tc):=by
 obtain ⟨h1,h2,h3⟩:=boxes2 w a b ta tb
 have h4:=box_new (W2 w a b ta tb) c tc
 rw [show (W2 w a b ta tb).heap.size=w.heap.size + 1 + 1 by simp] at h4
 exact ⟨kept (alloc_below _ _) h1,kept (alloc_below _ _) h2,h4,h3.trans ((alloc_below _ _).mono (by simp; omega))⟩
set_option maxRecDepth 100000 in
set_option maxHeartbeats 1000000 in
theorem append_disk (g:Nat) (d:Dk) (ho:d.Ok) (i:Int) (b:List UInt8) (hbl:b.length≤140737488355328) (w:World) (h:DiskAt w g d) :
    Calls Tryz.prog 80 #[.pointer (some ⟨g,0,none⟩),.int .i64 i,.string ⟨b.toArray⟩] w fun e w'=>e=.returned (.int .i64 (d.append i b).code)∧DiskAt w' g (d.append i b).dk∧Only g w w':=by
 have hb:=boxes3 w (.pointer (some ⟨g,0,none⟩)) (.int .i64 i) (.string ⟨b.toArray⟩) 38 3 9
 have hw:=h.lt
 by_cases hi:hasB i=true
 · have e:d.append i b=d.step (·.app i.toNat b):=if_pos hi
   rw [e]
   obtain ⟨k,hk,rfl⟩:=hasB_nat hi
   have hc:=done_any g d ho (·.app k b) 119 #[.pointer (some ⟨w.heap.size + 1 + 1,0,none⟩),.pointer (some ⟨w.heap.size,0,none⟩),.pointer (some ⟨w.heap.size + 1,0,none⟩)] (fun _ _=>by kernel_rfl) _ (h.below hb.2.2.2)
     (fun w1 h1 o1 k1=>append_in g d.burnt k1 k hk b hbl _ _ _ w1 h1 (kept_only o1 hb.2.2.1 (by omega)) (kept_only o1 hb.1 (by omega)) (kept_only o1 hb.2.1 (by omega)))
   have HC:=Lib.hid hc
   have HI:=Lib.hid hi
   have HB:=Lib.hid hb.2.2.2
   clear hi e h hb hc hw ho
   go_enter Tryz.func80,Tryz.ntmps80
   go_wp2_with (first
     | (go_at_call 110; refine (has_yes _ HI.out _).mono ?_; rintro e w1 ⟨rfl,rfl⟩)
     | (go_at_call 118; refine HC.out.mono ?_; rintro e w1 ⟨rfl,hd1,ho1⟩))
   go_ret
   exact ⟨rfl,hd1,(Only.of_below HB.out).trans ho1⟩
 · have e:d.append i b=⟨1,d⟩:=if_neg hi
   rw [e]
   have HI:=Lib.hid (Bool.eq_false_iff.2 hi)
   have HD:=Lib.hid (h.below hb.2.2.2)
   have HB:=Lib.hid hb.2.2.2
   clear hi e h hb hw ho
   go_enter Tryz.func80,Tryz.ntmps80
   go_wp2_with (go_at_call 110; refine (has_no _ HI.out _).mono ?_; rintro e w1 ⟨rfl,rfl⟩)
   go_ret
   exact ⟨rfl,HD.out,Only.of_below HB.out⟩
set_option maxRecDepth 100000 in
set_option maxHeartbeats 1000000 in
theorem sync_disk (g:Nat) (d:Dk) (ho:d.Ok) (i:Int) (w:World) (h:DiskAt w g d) :
    Calls Tryz.prog 82 #[.pointer (some ⟨g,0,none⟩),.int .i64 i] w fun e w'=>e=.returned (.int .i64 (d.sync i).code)∧DiskAt w' g (d.sync i).dk∧Only g w w':=by
 have hb:=boxes2 w (.pointer (some ⟨g,0,none⟩)) (.int .i64 i) 38 3
 have hw:=h.lt
 by_cases hi:hasB i=true
 · have e:d.sync i=d.step (·.syn i.toNat):=if_pos hi
   rw [e]
   obtain ⟨k,hk,rfl⟩:=hasB_nat hi
   have hc:=done_any g d ho (·.syn k) 121 #[.pointer (some ⟨w.heap.size,0,none⟩),.pointer (some ⟨w.heap.size + 1,0,none⟩)] (fun _ _=>by kernel_rfl) _ (h.below hb.2.2)
     (fun w1 h1 o1 k1=>sync_in g d.burnt k1 k hk _ _ w1 h1 (kept_only o1 hb.1 (by omega)) (kept_only o1 hb.2.1 (by omega)))
   have HC:=Lib.hid hc
   have HI:=Lib.hid hi
   have HB:=Lib.hid hb.2.2
   clear hi e h hb hc hw ho
   go_enter Tryz.func82,Tryz.ntmps82
   go_wp2_with (first
     | (go_at_call 110; refine (has_yes _ HI.out _).mono ?_; rintro e w1 ⟨rfl,rfl⟩)
     | (go_at_call 118; refine HC.out.mono ?_; rintro e w1 ⟨rfl,hd1,ho1⟩))
   go_ret
   exact ⟨rfl,hd1,(Only.of_below HB.out).trans ho1⟩
 · have e:d.sync i=⟨1,d⟩:=if_neg hi
   rw [e]
   have HI:=Lib.hid (Bool.eq_false_iff.2 hi)
   have HD:=Lib.hid (h.below hb.2.2)
   have HB:=Lib.hid hb.2.2
   clear hi e h hb hw ho
   go_enter Tryz.func82,Tryz.ntmps82
   go_wp2_with (go_at_call 110; refine (has_no _ HI.out _).mono ?_; rintro e w1 ⟨rfl,rfl⟩)
   go_ret
   exact ⟨rfl,HD.out,Only.of_below HB.out⟩
theorem has_q (i:Int) (b:Bool) (h:hasB i=b) (w:World):Calls Tryz.prog 110 #[.int .i64 i] w fun e w'=>e=.returned (.bool b)∧w'=w :=
 (has_any i w).mono fun e w' h2=>⟨by rw [h2.1,h],h2.2.symm⟩
theorem DiskAt.drewN {w:World} {g:Nat} {d:Dk} (h:DiskAt w g d) (n:Nat):DiskAt (w.drewN n) g d:=h
set_option maxRecDepth 100000 in
set_option maxHeartbeats 1000000 in
theorem cut_disk (g:Nat) (d:Dk) (ho:d.Ok) (i n:Int) (w:World) (h:DiskAt w g d) :
    Calls Tryz.prog 113 #[.pointer (some ⟨g,0,none⟩),.int .i64 i,.int .i64 n] w fun e w'=>e=.returned (.int .i64 (d.cutto i n).code)∧DiskAt w' g (d.cutto i n).dk∧Only g w w':=by
 have hb:=boxes3 w (.pointer (some ⟨g,0,none⟩)) (.int .i64 i) (.int .i64 n) 38 3 3
 have hw:=h.lt
 have HB:=Lib.hid hb.2.2.2
 have HD:=Lib.hid (h.below hb.2.2.2)
 by_cases hi:hasB i=true
 · obtain ⟨k,hk,rfl⟩:=hasB_nat hi
   have HI:=Lib.hid hi
   have hlen:=ho.len hk
   have hk4:(k:Int) < 4:=by omega
   have hcell:=(h.below hb.2.2.2).cellb hk
   by_cases h0:0≤n
   · obtain ⟨m,rfl⟩:=Int.eq_ofNat_of_zero_le h0
     have hd0:decide ((m:Int) < 0)=false:=decide_eq_false (by omega)
     by_cases hm:(m:Int)≤(d.b k).length
     · have e:d.cutto k m=d.step (·.cut k m):=if_pos ⟨hi,h0,hm⟩
       rw [e]
       have HC:=Lib.hid (fun (nq:Nat)=>done_any g d ho (·.cut k m) 155 #[.pointer (some ⟨w.heap.size,0,none⟩),.pointer (some ⟨w.heap.size + 1,0,none⟩),.pointer (some ⟨w.heap.size + 1 + 1,0,none⟩)] (fun _ _=>by kernel_rfl) ((W3 w (.pointer (some ⟨g,0,none⟩)) (.int .i64 k) (.int .i64 m) 38 3 3).drewN nq) ((h.below hb.2.2.2).drewN nq)
         (fun w1 h1 o1 k1=>cut_in g d.burnt k1 k hk m (by rw [burnt_b]; exact hm) _ _ _ w1 h1 (kept_only o1 hb.1 (by omega)) (kept_only o1 hb.2.1 (by omega)) (kept_only o1 hb.2.2.1 (by omega))))
       clear hi e h hb hw ho
       go_enter Tryz.func113,Tryz.ntmps113
       go_upto_region 1 with (fail)
       go_quiet (first | (go_at_call 110; exact Calls.quiet_of_same (has_q _ _ HI.out _)))
       go_wp2_with (go_at_call 118; refine (HC.out _).mono ?_; rintro e w1 ⟨rfl,hd1,ho1⟩)
       go_ret
       exact ⟨rfl,hd1,((Only.of_below HB.out).drewN _).trans ho1⟩
     · have e:d.cutto k m=⟨1,d⟩:=if_neg (fun h=>hm h.2.2)
       rw [e]
       clear hi e h hb hw ho
       go_enter Tryz.func113,Tryz.ntmps113
       go_upto_region 1 with (fail)
       go_quiet (first | (go_at_call 110; exact Calls.quiet_of_same (has_q _ _ HI.out _)))
       go_wp2
       go_ret
       exact ⟨rfl,HD.out,(Only.of_below HB.out).drewN _⟩
   · have e:d.cutto k n=⟨1,d⟩:=if_neg (fun h=>h0 h.2.1)
     rw [e]
     have hd0:decide (n < 0)=true:=decide_eq_true (by omega)
     clear hi e h hb hw ho
     go_enter Tryz.func113,Tryz.ntmps113
     go_upto_region 1 with (fail)
     go_quiet (first | (go_at_call 110; exact Calls.quiet_of_same (has_q _ _ HI.out _)))
     go_wp2
     go_ret
     exact ⟨rfl,HD.out,(Only.of_below HB.out).drewN _⟩
 · have e:d.cutto i n=⟨1,d⟩:=if_neg (fun h=>hi h.1)
   rw [e]
   have HI:=Lib.hid (Bool.eq_false_iff.2 hi)
   clear hi e h hb hw ho
   go_enter Tryz.func113,Tryz.ntmps113
   go_upto_region 1 with (fail)
   go_quiet (first | (go_at_call 110; exact Calls.quiet_of_same (has_q _ _ HI.out _)))
   go_wp2
   go_ret
   exact ⟨rfl,HD.out,(Only.of_below HB.out).drewN _⟩
end
section
theorem drewN_below {B:Nat} {w w':World} (h:Below B w w') (n:Nat):Below B w (w'.drewN n):=⟨h.os,h.tape,h.output,h.size,h.block⟩
theorem kept_at {w w':World} {p:Addr} {v:Value} (h:Below w.heap.size w w') (hp:w.cell? p=some v):w'.cell? p=some v:=kept h hp
end
section
theorem left_upd (d:Dk) (i:Nat) (hi:i < 4) (x:List UInt8) (s:Nat→Nat) (f:Int) (dn:Bool):(Dk.mk (upd d.b i x) s d.room f dn).left=d.left + (d.b i).length - x.length:=by
 rcases four hi with rfl | rfl | rfl | rfl <;> simp [Dk.left,upd] <;> omega
theorem app_ok {d:Dk} (h:d.Ok) {i:Nat} (hi:i < 4) (b:List UInt8):(d.app i b).dk.Ok:=by
 unfold Dk.app
 split
 · exact h
 · rename_i hl
   refine ⟨h.room0,h.room1,h.fuse,h.fuse1,?_,?_⟩
   · show 0≤(Dk.mk _ _ _ _ _).left
     rw [left_upd d i hi]; simp; omega
   · intro j
     by_cases hj:j=i
     · subst hj; have:=h.sure j; simp [upd]; omega
     · simpa [upd,hj] using h.sure j
theorem syn_ok {d:Dk} (h:d.Ok) (i:Nat):(d.syn i).dk.Ok:=by
 refine ⟨h.room0,h.room1,h.fuse,h.fuse1,h.left,?_⟩
 intro j
 by_cases hj:j=i
 · subst hj; simp [Dk.syn,upd]
 · simpa [Dk.syn,upd,hj] using h.sure j
theorem cut_ok {d:Dk} (h:d.Ok) {i:Nat} (hi:i < 4) (n:Nat):(d.cut i n).dk.Ok:=by
 refine ⟨h.room0,h.room1,h.fuse,h.fuse1,?_,?_⟩
 · show 0≤(Dk.mk _ _ _ _ _).left
   have:=h.left
   rw [left_upd d i hi]; simp; omega
 · intro j
   by_cases hj:j=i
   · subst hj; have:=h.sure j; simp [Dk.cut,upd]; omega
   · simpa [Dk.cut,upd,hj] using h.sure j
theorem step_ok {d:Dk} (h:d.Ok) (f:Dk→Out) (hf:∀ c:Dk,c.Ok→(f c).dk.Ok):(d.step f).dk.Ok:=by
 unfold Dk.step
 split
 · exact ⟨h.room0,h.room1,h.fuse,h.fuse1,h.left,h.sure⟩
 · rename_i hp
   exact hf _ (burnt_ok h (fun h=>hp (.inl h)))
theorem toNat_lt4 {i:Int} (h:hasB i=true):i.toNat < 4:=by simp [hasB] at h; omega
theorem append_ok {d:Dk} (h:d.Ok) (i:Int) (b:List UInt8):(d.append i b).dk.Ok:=by
 unfold Dk.append
 split
 · rename_i hi; exact step_ok h _ (fun c hc=>app_ok hc (toNat_lt4 hi) b)
 · exact h
theorem sync_ok {d:Dk} (h:d.Ok) (i:Int):(d.sync i).dk.Ok:=by
 unfold Dk.sync
 split
 · exact step_ok h _ (fun c hc=>syn_ok hc _)
 · exact h
theorem cutto_ok {d:Dk} (h:d.Ok) (i n:Int):(d.cutto i n).dk.Ok:=by
 unfold Dk.cutto
 split
 · rename_i hi; exact step_ok h _ (fun c hc=>cut_ok hc (toNat_lt4 hi.1) _)
 · exact h
end
section
structure Two (g1 g2:Nat) (w w':World):Prop where
  os:w'.os=w.os
  tape:w'.tape=w.tape
  output:w'.output=w.output
  size:w.heap.size≤w'.heap.size
  block:∀ k,k < w.heap.size→k ≠ g1→k ≠ g2→w'.heap[k]?=w.heap[k]?
theorem Two.of_below {g1 g2:Nat} {w w':World} (h:Below w.heap.size w w'):Two g1 g2 w w':=⟨h.os,h.tape,h.output,h.size,fun k hk _ _=>h.block k hk⟩
theorem Two.of1 {g1 g2:Nat} {w w':World} (h:Only g1 w w'):Two g1 g2 w w':=⟨h.os,h.tape,h.output,h.size,fun k hk hn _=>h.block k hk (by simpa using hn)⟩
theorem Two.of2 {g1 g2:Nat} {w w':World} (h:Only g2 w w'):Two g1 g2 w w':=⟨h.os,h.tape,h.output,h.size,fun k hk _ hn=>h.block k hk (by simpa using hn)⟩
theorem Two.trans {g1 g2:Nat} {a b c:World} (h:Two g1 g2 a b) (k:Two g1 g2 b c):Two g1 g2 a c :=
 ⟨k.os.trans h.os,k.tape.trans h.tape,k.output.trans h.output,Nat.le_trans h.size k.size,fun i hi h1 h2=>(k.block i (Nat.lt_of_lt_of_le hi h.size) h1 h2).trans (h.block i hi h1 h2)⟩
theorem Only.undrew {g:Nat} {a b:World} (h:Only g a.drew b):Only g a b:=⟨h.os,h.tape,h.output,h.size,h.block⟩
end
section
theorem Two.cell {g1 g2:Nat} {a b:World} (h:Two g1 g2 a b) {p:Addr} {v:Value} (hp:a.cell? p=some v) (h1:p.block ≠ g1) (h2:p.block ≠ g2):b.cell? p=some v:=by
 rw [World.cell?_of_block (w:=a) (h.block p.block (block_lt_of_cell hp) h1 h2)]; exact hp
namespace DiskDoesW
end DiskDoesW
end
end Go.Proofs.YtgcnnbjbdfgglaaGreat.J
