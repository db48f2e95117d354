/- LAW TopBoth: of every configuration of a bank and every list of byte strings the given function TopBoth returns true and leaves its arguments as they were; no condition. A part of what it needs. -/
import Derived.Test.YtgcnnbjbdfgglaaGreatZbl
import Derived.Laws.Shifts
import Derived.Deep.LoopGhost
import Derived.Deep.DeepCutAuto
import Derived.Deep.RegionHeld3
import Derived.Laws.Concat
import Derived.OwnWalk
import Derived.StillTailTactics
import Derived.Deep.AppendLies
import Derived.Deep.RegionLaw
namespace Go.Proofs.YtgcnnbjbdfgglaaGreat.J
open Go.RowKit
section
def eight (n:Nat):List UInt8:=[UInt8.ofNat (n / 72057594037927936),UInt8.ofNat (n / 281474976710656),UInt8.ofNat (n / 1099511627776),UInt8.ofNat (n / 4294967296),UInt8.ofNat (n / 16777216),UInt8.ofNat (n / 65536),UInt8.ofNat (n / 256),UInt8.ofNat n]
def zero8:List UInt8:=[0,0,0,0,0,0,0,0]
def byteCells (l:List UInt8):Array Value:=(l.map fun b=>Value.int .u8 b.toNat).toArray
theorem catj (x y:List UInt8) (h:((x.length:Nat):Int) + (y.length:Nat)≤9223372036854775807) (w:World):(Go.Op.stringOp .add ⟨x.toArray⟩ ⟨y.toArray⟩).run Tryz.prog w=Result.ok (.string ⟨(x ++ y).toArray⟩) w:=by
 exact (run_string_add_sum w _ _ (by show x.length + y.length≤_; omega)).trans (by rw [ByteArray.mk_append_mk])
theorem infoU8j:(Tryz.prog.info? 5).map (fun i=>(i.zero,i.size,i.bytes))=some (some (.int .u8 0),1,1):=by kernel_rfl
theorem make8 (W:World):(Instr.makeSlice 162 (.int .i64 8) (.int .i64 8)).run Tryz.prog W=.ok (.slice (some ⟨W.heap.size,0,none⟩) 8 8) (W.alloc (.cells (byteCells zero8) 5)):=by
 obtain ⟨i0,hi,hz0,hz1,hz2⟩:=info_parts infoU8j
 have h:=run_makeSlice (P:=Tryz.prog) (w:=W) 162 5 i0 (.int .u8 0) Tryz.underlying162 hi hz0 .i64 .i64 8 8 (by omega) (by omega) (by rw [hz1]; decide) (by rw [hz2]; decide) (by decide)
 have hm:madeCells (Value.int .u8 0).cells (Int.toNat 8 * 1)=byteCells zero8:=by kernel_rfl
 rw [h,hz1,hm]
 rfl
theorem set_byte {w:World} {g j:Nat} {L:List UInt8} (b:UInt8) (h:w.heap[g]?=some (.cells (byteCells L) 5 (0,0))):(w.setCell ⟨g,j,none⟩ (.int .u8 b.toNat)).heap[g]?=some (.cells (byteCells (L.set j b)) 5 (0,0)):=by
 rw [heap_setCell_same _ _ _ _ _ _ h]
 unfold byteCells
 rw [List.map_set]
 simp [Array.setIfInBounds,List.set_toArray]
 intro hh
 rw [List.set_eq_of_length_le (by simpa using hh)]
set_option maxRecDepth 100000 in
set_option maxHeartbeats 2000000 in
theorem numbered_any (n:Nat) (hn:(n:Int)≤9223372036854775807) (text:List UInt8) (ht:(text.length:Int)≤140737488355328) (w:World) :
    Calls Tryz.prog 77 #[.int .i64 n,.string ⟨text.toArray⟩] w fun e w'=>e=.returned (.string ⟨(eight n ++ text).toArray⟩)∧Below w.heap.size w w':=by
 go_enter Tryz.func77,Tryz.ntmps77
 go_wp2_with fail
 rw [make8]
 have hbel:=(Below.refl w.heap.size w).alloc (Nat.le_refl _) (.cells (byteCells zero8) 5)
 have hnew:=heap_alloc_new w (.cells (byteCells zero8) 5)
 have HB:=Lib.hid hbel
 have HN:=Lib.hid hnew
 clear hbel hnew
 generalize w.alloc (.cells (byteCells zero8) 5)=w1 at *
 go_wp2_with fail
 go_loopw [10] (fun i wr=>∃ j:Nat,j≤8∧i=.int .i64 j∧wr.heap[w.heap.size]?=some (.cells (byteCells ((eight n).take j ++ zero8.drop j)) 5 (0,0))∧Below w.heap.size w wr) (fun i _=>8 - (intOf i).toNat)
 case atStart=>exact ⟨0,by omega,rfl,HN.out,HB.out⟩
 case round =>
  obtain ⟨j,hj,rfl,hg,hbel⟩:=hrel
  clear HN HB
  have HB:=Lib.hid hbel
  have HG:=Lib.hid hg
  clear hbel
  by_cases hlt:j < 8
  · have hf:=frozen_of_row _ _ j _ _ hg
    have hc:=cell_of_row _ _ j _ _ _ hg
    clear hg
    have hj8:j=0∨j=1∨j=2∨j=3∨j=4∨j=5∨j=6∨j=7:=by omega
    clear hj hlt
    rcases hj8 with rfl | rfl | rfl | rfl | rfl | rfl | rfl | rfl
    · replace hc:wr.cell? ⟨w.heap.size,0,none⟩=some (.int .u8 0):=hc
      have he:Value.int .u8 ((n:Int) / 72057594037927936)=.int .u8 ((UInt8.ofNat (n / 72057594037927936)).toNat:Nat):=by congr 1; simp; omega
      have HE:=Lib.hid he
      have HS:=Lib.hid (set_byte (j:=0) (UInt8.ofNat (n / 72057594037927936)) HG.out)
      clear he
      go_wp2
      go_roundw
      case rel=>exact ⟨1,by decide,rfl,by rw [HE.out]; exact HS.out,HB.out.setCell (Nat.le_refl _) _⟩
      case measure=>simp [intOf]
    · replace hc:wr.cell? ⟨w.heap.size,1,none⟩=some (.int .u8 0):=hc
      have he:Value.int .u8 ((n:Int) / 281474976710656 % 256)=.int .u8 ((UInt8.ofNat (n / 281474976710656)).toNat:Nat):=by congr 1
      have HE:=Lib.hid he
      have HS:=Lib.hid (set_byte (j:=1) (UInt8.ofNat (n / 281474976710656)) HG.out)
      clear he
      go_wp2
      go_roundw
      case rel=>exact ⟨2,by decide,rfl,by rw [HE.out]; exact HS.out,HB.out.setCell (Nat.le_refl _) _⟩
      case measure=>simp [intOf]
    · replace hc:wr.cell? ⟨w.heap.size,2,none⟩=some (.int .u8 0):=hc
      have he:Value.int .u8 ((n:Int) / 1099511627776 % 256)=.int .u8 ((UInt8.ofNat (n / 1099511627776)).toNat:Nat):=by congr 1
      have HE:=Lib.hid he
      have HS:=Lib.hid (set_byte (j:=2) (UInt8.ofNat (n / 1099511627776)) HG.out)
      clear he
      go_wp2
      go_roundw
      case rel=>exact ⟨3,by decide,rfl,by rw [HE.out]; exact HS.out,HB.out.setCell (Nat.le_refl _) _⟩
      case measure=>simp [intOf]
    · replace hc:wr.cell? ⟨w.heap.size,3,none⟩=some (.int .u8 0):=hc
      have he:Value.int .u8 ((n:Int) / 4294967296 % 256)=.int .u8 ((UInt8.ofNat (n / 4294967296)).toNat:Nat):=by congr 1
      have HE:=Lib.hid he
      have HS:=Lib.hid (set_byte (j:=3) (UInt8.ofNat (n / 4294967296)) HG.out)
      clear he
      go_wp2
      go_roundw
      case rel=>exact ⟨4,by decide,rfl,by rw [HE.out]; exact HS.out,HB.out.setCell (Nat.le_refl _) _⟩
      case measure=>simp [intOf]
    · replace hc:wr.cell? ⟨w.heap.size,4,none⟩=some (.int .u8 0):=hc
      have he:Value.int .u8 ((n:Int) / 16777216 % 256)=.int .u8 ((UInt8.ofNat (n / 16777216)).toNat:Nat):=by congr 1
      have HE:=Lib.hid he
      have HS:=Lib.hid (set_byte (j:=4) (UInt8.ofNat (n / 16777216)) HG.out)
      clear he
      go_wp2
      go_roundw
      case rel=>exact ⟨5,by decide,rfl,by rw [HE.out]; exact HS.out,HB.out.setCell (Nat.le_refl _) _⟩
      case measure=>simp [intOf]
    · replace hc:wr.cell? ⟨w.heap.size,5,none⟩=some (.int .u8 0):=hc
      have he:Value.int .u8 ((n:Int) / 65536 % 256)=.int .u8 ((UInt8.ofNat (n / 65536)).toNat:Nat):=by congr 1
      have HE:=Lib.hid he
      have HS:=Lib.hid (set_byte (j:=5) (UInt8.ofNat (n / 65536)) HG.out)
      clear he
      go_wp2
      go_roundw
      case rel=>exact ⟨6,by decide,rfl,by rw [HE.out]; exact HS.out,HB.out.setCell (Nat.le_refl _) _⟩
      case measure=>simp [intOf]
    · replace hc:wr.cell? ⟨w.heap.size,6,none⟩=some (.int .u8 0):=hc
      have he:Value.int .u8 ((n:Int) / 256 % 256)=.int .u8 ((UInt8.ofNat (n / 256)).toNat:Nat):=by congr 1
      have HE:=Lib.hid he
      have HS:=Lib.hid (set_byte (j:=6) (UInt8.ofNat (n / 256)) HG.out)
      clear he
      go_wp2
      go_roundw
      case rel=>exact ⟨7,by decide,rfl,by rw [HE.out]; exact HS.out,HB.out.setCell (Nat.le_refl _) _⟩
      case measure=>simp [intOf]
    · replace hc:wr.cell? ⟨w.heap.size,7,none⟩=some (.int .u8 0):=hc
      have he:Value.int .u8 ((n:Int) % 256)=.int .u8 ((UInt8.ofNat (n)).toNat:Nat):=by congr 1
      have HE:=Lib.hid he
      have HS:=Lib.hid (set_byte (j:=7) (UInt8.ofNat (n)) HG.out)
      clear he
      go_wp2
      go_roundw
      case rel=>exact ⟨8,by decide,rfl,by rw [HE.out]; exact HS.out,HB.out.setCell (Nat.le_refl _) _⟩
      case measure=>simp [intOf]
  · obtain rfl:j=8:=by omega
    have hcv:=run_convert_bytes_back (P:=Tryz.prog) wr 162 9 5 ⟨w.heap.size,0,none⟩ 8 (eight n) Tryz.underlying162 Tryz.underlying5 Tryz.underlying9 (by
     intro j hj
     rw [WideShapes.add_plain,Nat.zero_add,cell_of_row _ _ _ _ _ _ hg]
     have hj8:j < 8:=hj
     have:j=0∨j=1∨j=2∨j=3∨j=4∨j=5∨j=6∨j=7:=by omega
     rcases this with rfl | rfl | rfl | rfl | rfl | rfl | rfl | rfl <;> rfl)
    have hcat:=catj (eight n) text (by show ((8:Nat):Int) + _≤_; omega)
    have hcv2:(convert 162 9 (.slice (some ⟨w.heap.size,0,none⟩) 8 8)).run Tryz.prog wr=.ok (.string ⟨(eight n).toArray⟩) wr:=hcv
    clear hcv hg
    generalize hR:(eight n ++ text).toArray=R at *
    have HRR:=Lib.hid hR
    clear hR
    generalize (eight n).toArray=E at *
    go_wp2
    go_ret
    exact ⟨by rw [HRR.out]; rfl,HB.out⟩
end
section
structure Jn where
  base:Nat
  text:List UInt8
  recs:List (List UInt8)
  broken:Bool
def JAt (w:World) (jg g:Nat) (v:Value) (j:Jn):Prop:=w.heap[jg]?=some (.cells #[.pointer (some ⟨g,0,none⟩),.string ⟨j.text.toArray⟩,.int .i64 j.base,v,.bool j.broken] 166 (0,0))
section
variable {w w':World} {jg g:Nat} {v:Value} {j:Jn} (h:JAt w jg g v j)
include h
theorem JAt.c0:w.cell? ⟨jg,0,none⟩=some (.pointer (some ⟨g,0,none⟩)):=(cell_of_row _ _ 0 _ _ _ h).trans rfl
theorem JAt.c2:w.cell? ⟨jg,2,none⟩=some (.int .i64 j.base):=(cell_of_row _ _ 2 _ _ _ h).trans rfl
theorem JAt.c3:w.cell? ⟨jg,3,none⟩=some v:=(cell_of_row _ _ 3 _ _ _ h).trans rfl
theorem JAt.c4:w.cell? ⟨jg,4,none⟩=some (.bool j.broken):=(cell_of_row _ _ 4 _ _ _ h).trans rfl
theorem JAt.frozen (i:Nat):w.frozen? ⟨jg,i,none⟩=false:=frozen_of_row _ _ _ _ _ h
theorem JAt.lt:jg < w.heap.size:=(Array.getElem?_eq_some_iff.1 h).1
theorem JAt.below (hb:Below w.heap.size w w'):JAt w' jg g v j:=by
 unfold JAt at h ⊢; rw [hb.block _ (Array.getElem?_eq_some_iff.1 h).1]; exact h
end
def mayJ (j:Jn) (b:List UInt8):Int:=if 65528 < b.length then 4 else if j.broken then 9 else 0
set_option maxRecDepth 100000 in
set_option maxHeartbeats 1000000 in
theorem mayj_any (jg g:Nat) (v:Value) (j:Jn) (b:List UInt8) (hb:(b.length:Int)≤140737488355328) (w:World) (h:JAt w jg g v j) :
    Calls Tryz.prog 75 #[.pointer (some ⟨jg,0,none⟩),.string ⟨b.toArray⟩] w fun e w'=>e=.returned (.int .i64 (mayJ j b))∧w'=w:=by
 have c4:=h.c4
 have HM:=Lib.hid (show mayJ j b=if 65528 < b.length then 4 else if j.broken then 9 else 0 from rfl)
 generalize mayJ j b=m at *
 by_cases h1:65528 < b.length
 · have h1i:(65528:Int) < b.length:=by omega
   have HR:=Lib.hid (show m=4 by rw [HM.out,if_pos h1])
   clear h1 HM h
   go_enter Tryz.func75,Tryz.ntmps75
   go_wp2
   go_ret
   exact ⟨by rw [HR.out]; rfl,rfl⟩
 · have h1i:¬ (65528:Int) < b.length:=by omega
   cases hbr:j.broken
   · have HR:=Lib.hid (show m=0 by rw [HM.out,if_neg h1,hbr]; rfl)
     rw [hbr] at c4
     clear h1 HM h hbr
     go_enter Tryz.func75,Tryz.ntmps75
     go_wp2
     go_ret
     exact ⟨by rw [HR.out]; rfl,rfl⟩
   · have HR:=Lib.hid (show m=9 by rw [HM.out,if_neg h1,hbr]; rfl)
     rw [hbr] at c4
     clear h1 HM h hbr
     go_enter Tryz.func75,Tryz.ntmps75
     go_wp2
     go_ret
     exact ⟨by rw [HR.out]; rfl,rfl⟩
set_option maxRecDepth 100000 in
set_option maxHeartbeats 1000000 in
theorem last_any (jg g:Nat) (a:Option Addr) (cap:Nat) (j:Jn) (hj:(j.base:Int) + j.recs.length≤9223372036854775807) (w:World) (h:JAt w jg g (.slice a j.recs.length cap) j) :
    Calls Tryz.prog 78 #[.pointer (some ⟨jg,0,none⟩)] w fun e w'=>e=.returned (.int .i64 ((j.base + j.recs.length:Nat):Int))∧∃ n,w'=w.drewN n:=by
 have c2:=h.c2
 have c3:=h.c3
 clear h
 go_enter Tryz.func78,Tryz.ntmps78
 go_wp2_with fail
 go_quiet (fail)
 go_wp2
 go_ret
 exact ⟨by simp,nq,rfl⟩
end
section
structure Clo where
  K:FuncId
  caps:Array Value
  F:Dk→Out
def Clo.val (c:Clo):Value:=.func (.func c.K) #[] c.caps
def runSteps:List Clo→Dk→Out
  | [],d=>⟨0,d⟩
  | c :: L,d=>if (c.F d).code=0 then runSteps L (c.F d).dk else c.F d
theorem runSteps_cons (c:Clo) (L:List Clo) (d:Dk):runSteps (c :: L) d=if (c.F d).code=0 then runSteps L (c.F d).dk else c.F d:=rfl
theorem runSteps_app (L M:List Clo):∀ d,(runSteps L d).code=0→runSteps (L ++ M) d=runSteps M (runSteps L d).dk:=by
 induction L with
 | nil=>intro d _; rfl
 | cons c L ih =>
  intro d h
  rw [runSteps_cons] at h
  rw [List.cons_append,runSteps_cons,runSteps_cons]
  by_cases h0:(c.F d).code=0
  · rw [if_pos h0] at h ⊢
    rw [if_pos h0]
    exact ih _ h
  · rw [if_neg h0] at h
    exact absurd h h0
def Does (g:Nat) (w0:World) (c:Clo):Prop:=(∀ args w,(callFunc c.K args).run Tryz.prog w=.ok (.enter c.K args) w)∧∀ w1 d1,Only g w0 w1→DiskAt w1 g d1→d1.Ok →
  Calls Tryz.prog c.K c.caps w1 fun e w'=>e=.returned (.int .i64 (c.F d1).code)∧DiskAt w' g (c.F d1).dk∧(c.F d1).dk.Ok∧Only g w1 w'
def brk (b:Bool) (code:Int):Bool:=b || (decide (code ≠ 0) && decide (code ≠ 4))
theorem JAt.set4 {w:World} {jg g:Nat} {v:Value} {j:Jn} (h:JAt w jg g v j) (b:Bool):JAt (w.setCell ⟨jg,4,none⟩ (.bool b)) jg g v { j with broken:=b }:=by
 unfold JAt at h ⊢
 rw [heap_setCell_same _ _ _ _ _ _ h]; rfl
theorem JAt.only {w w':World} {jg g:Nat} {v:Value} {j:Jn} (h:JAt w jg g v j) (ho:Only g w w') (hne:jg ≠ g):JAt w' jg g v j:=ho.heap h hne
set_option maxRecDepth 100000 in
set_option maxHeartbeats 2000000 in
theorem steps_any (jg g cb:Nat) (v:Value) (j:Jn) (d:Dk) (ho:d.Ok) (L:List Clo) (hne:jg ≠ g) (hcg:cb ≠ g) (w:World) (hj:JAt w jg g v j) (hd:DiskAt w g d)
    (hc:w.heap[cb]?=some (.cells (L.map Clo.val).toArray 174 (0,0))) (hl:L.length≤100) (hdo:∀ c ∈ L,Does g w c) :
    Calls Tryz.prog 66 #[.pointer (some ⟨jg,0,none⟩),.slice (some ⟨cb,0,none⟩) L.length L.length] w fun e w'=>e=.returned (.int .i64 (runSteps L d).code)∧DiskAt w' g (runSteps L d).dk∧(runSteps L d).dk.Ok ∧
      JAt w' jg g v { j with broken:=brk j.broken (runSteps L d).code }∧Two g jg w w':=by
 have hli:(L.length:Int)≤100:=by omega
 have HD:=Lib.hid hd
 have HJ:=Lib.hid hj
 have HC:=Lib.hid hc
 have HO:=Lib.hid ho
 have HDO:=Lib.hid hdo
 clear hd hj hc ho hdo hl
 go_enter Tryz.func66,Tryz.ntmps66
 go_wp2_with fail
 go_loopw [10] (fun i wr=>∃ k:Nat,k≤L.length∧i=.int .i64 k∧(runSteps (L.take k) d).code=0∧DiskAt wr g (runSteps (L.take k) d).dk∧(runSteps (L.take k) d).dk.Ok∧Only g w wr) (fun i _=>L.length - (intOf i).toNat)
 case atStart=>exact ⟨0,by omega,rfl,rfl,HD.out,HO.out,Only.refl _ _⟩
 case round =>
  obtain ⟨k,hk,rfl,h0,hd,hok,hon⟩:=hrel
  have H0:=Lib.hid h0
  have HDr:=Lib.hid hd
  have HOr:=Lib.hid hok
  have HON:=Lib.hid hon
  clear h0 hd hok
  by_cases hlt:k < L.length
  · have hki:(k:Int) < L.length:=by omega
    have hb:=hon.heap HC.out hcg
    have hcell:wr.cell? ⟨cb,k,none⟩=some (L[k].val):=by
     rw [cell_of_row _ _ _ _ _ _ hb]
     simp [hlt]
    have hdo:=HDO.out L[k] (List.getElem_mem hlt)
    have HCALL:=Lib.hid (hdo.2 wr _ hon HDr.out HOr.out)
    have hK:=hdo.1
    have HNX:=Lib.hid (show (L[k].F (runSteps (L.take k) d).dk).code=0→runSteps (L.take (k + 1)) d=⟨0,(L[k].F (runSteps (L.take k) d).dk).dk⟩ by
     intro hz
     rw [List.take_succ_eq_append_getElem hlt,runSteps_app _ _ _ H0.out,runSteps_cons,if_pos hz]; rfl)
    have HST:=Lib.hid (show (L[k].F (runSteps (L.take k) d).dk).code ≠ 0→runSteps L d=L[k].F (runSteps (L.take k) d).dk by
     intro hne0
     conv=>lhs; rw [← List.take_append_drop k L]
     rw [runSteps_app _ _ _ H0.out,List.drop_eq_getElem_cons hlt]
     rw [runSteps_cons,if_neg hne0])
    unfold Clo.val at hcell
    clear hon hb hdo
    generalize L[k]=c at *
    generalize (runSteps (L.take k) d).dk=dk at *
    obtain ⟨K,caps,F⟩:=c
    dsimp only at hcell hK HCALL HNX HST
    obtain ⟨o,hFo⟩:∃ o,F dk=o:=⟨_,rfl⟩
    rw [hFo] at HNX HST HCALL
    clear hFo
    obtain ⟨code,dk2⟩:=o
    dsimp only at HNX HST HCALL
    go_upto_region 4 with (fail)
    go_wp2_with fail
    refine HCALL.out.mono ?_
    rintro e w2 ⟨rfl,hd2,ho2,hon2⟩
    have HD2:=Lib.hid hd2
    have HO2:=Lib.hid ho2
    have HN2:=Lib.hid (HON.out.trans hon2)
    clear hd2 ho2 hon2 hK hcell HDr HOr HCALL
    by_cases hz:code=0
    · subst hz
      have HQ:=Lib.hid (show runSteps (L.take (k + 1)) d=⟨0,dk2⟩ from HNX.out rfl)
      go_wp2
      go_roundw
      case rel=>exact ⟨k + 1,by omega,by go_num,by rw [HQ.out],by rw [HQ.out]; exact HD2.out,by rw [HQ.out]; exact HO2.out,HN2.out⟩
      case measure=>simp [intOf]; omega
    · have HR:=Lib.hid (HST.out hz)
      have hj2:=HJ.out.only HN2.out hne
      have hc4:=hj2.c4
      have hf4:=hj2.frozen 4
      have hz1:(code != 0)=true:=by simpa using hz
      have HJ2:=Lib.hid hj2
      have HZ:=Lib.hid hz
      clear hj2 hz
      generalize hbb:j.broken=bb at *
      have HBB:=Lib.hid hbb
      clear hbb
      by_cases h4:code=4
      · have h41:(code != 4)=false:=by simpa using h4
        have HE:=Lib.hid (show brk bb code=bb by unfold brk; simp [h4])
        clear h4
        cases bb
        all_goals
          go_wp2
          go_ret
          refine ⟨by rw [HR.out]; rfl,by rw [HR.out]; show DiskAt _ g dk2; unfold DiskAt; rw [heap_setCell_other _ _ _ _ (by show g ≠ jg; omega)]; exact HD2.out,by rw [HR.out]; exact HO2.out,?_,(Two.of1 HN2.out).trans ((Two.of2 ((Only.refl jg _).setCell _ _)))⟩
          rw [HR.out,HBB.out]
          show JAt _ jg g v { j with broken:=brk _ code }
          rw [HE.out]
          exact HJ2.out.set4 _
      · have h41:(code != 4)=true:=by simpa using h4
        have HE:=Lib.hid (show brk bb code=true by unfold brk; simp [h4,HZ.out])
        clear h4
        cases bb
        all_goals
          go_wp2
          go_ret
          refine ⟨by rw [HR.out]; rfl,by rw [HR.out]; show DiskAt _ g dk2; unfold DiskAt; rw [heap_setCell_other _ _ _ _ (by show g ≠ jg; omega)]; exact HD2.out,by rw [HR.out]; exact HO2.out,?_,(Two.of1 HN2.out).trans ((Two.of2 ((Only.refl jg _).setCell _ _)))⟩
          rw [HR.out,HBB.out]
          show JAt _ jg g v { j with broken:=brk _ code }
          rw [HE.out]
          exact HJ2.out.set4 _
  · obtain rfl:k=L.length:=by omega
    rw [List.take_length] at H0 HDr HOr
    go_wp2
    go_ret
    refine ⟨by rw [H0.out]; rfl,HDr.out,HOr.out,?_,Two.of1 HON.out⟩
    have e:brk j.broken (runSteps L d).code=j.broken:=by rw [H0.out]; unfold brk; simp
    rw [e]
    exact HJ.out.only HON.out hne
end
section
def cutx (i n:Nat) (d:Dk):Out:=if (d.b i).length=n then ⟨0,d⟩ else d.cutto i n
theorem cutx_ok {d:Dk} (h:d.Ok) (i n:Nat):(cutx i n d).dk.Ok:=by
 unfold cutx
 split
 · exact h
 · exact cutto_ok h _ _
theorem Box.only {w w':World} {k g:Nat} {v:Value} (h:Box w k v) (ho:Only g w w') (hne:k ≠ g):Box w' k v:=ho.cell h hne
set_option maxRecDepth 100000 in
set_option maxHeartbeats 1000000 in
theorem jcut_any (jg g:Nat) (v:Value) (j:Jn) (d:Dk) (ho:d.Ok) (i n:Nat) (hi:i < 4) (w:World) (hj:JAt w jg g v j) (hd:DiskAt w g d) :
    Calls Tryz.prog 68 #[.pointer (some ⟨jg,0,none⟩),.int .i64 i,.int .i64 n] w fun e w'=>e=.returned (.int .i64 (cutx i n d).code)∧DiskAt w' g (cutx i n d).dk∧Only g w w':=by
 have c0:=hj.c0
 have HR:=Lib.hid (read_disk g d i hi w hd)
 have HC:=Lib.hid (cut_disk g d ho i n w hd)
 by_cases he:(d.b i).length=n
 · have hX:cutx i n d=⟨0,d⟩:=if_pos he
   have he1:(((d.b i).length:Int) == (n:Int))=true:=by simp [he]
   have HX:=Lib.hid hX
   have HD:=Lib.hid hd
   clear hX he hj hd HC ho
   generalize d.b i=bb at *
   go_enter Tryz.func68,Tryz.ntmps68
   go_wp2_with (go_at_call 62; refine (HR.out).mono ?_; rintro e w1 ⟨rfl,rfl⟩)
   go_ret
   exact ⟨by rw [HX.out]; rfl,by rw [HX.out]; exact HD.out,Only.refl _ _⟩
 · have hX:cutx i n d=d.cutto i n:=if_neg he
   have he1:(((d.b i).length:Int) == (n:Int))=false:=by simp; omega
   have HX:=Lib.hid hX
   clear hX he hj hd ho
   generalize d.b i=bb at *
   go_enter Tryz.func68,Tryz.ntmps68
   go_wp2_with (first | (go_at_call 62; refine (HR.out).mono ?_; rintro e w1 ⟨rfl,rfl⟩) | (go_at_call 113; refine (HC.out).mono ?_; rintro e w2 ⟨rfl,hd2,ho2⟩))
   go_ret
   exact ⟨by rw [HX.out]; rfl,by rw [HX.out]; exact hd2,ho2⟩
set_option maxRecDepth 100000 in
set_option maxHeartbeats 1000000 in
theorem does_append0 (jg g kj kf:Nat) (v:Value) (j:Jn) (f:List UInt8) (hf:f.length≤140737488355328) (w0:World) (hb:Box w0 kj (.pointer (some ⟨jg,0,none⟩))) (hk:kj ≠ g) (hbf:Box w0 kf (.string ⟨f.toArray⟩)) (hkf:kf ≠ g) (hj:JAt w0 jg g v j) (hne:jg ≠ g) :
    Does g w0 ⟨79,#[.pointer (some ⟨kj,0,none⟩),.pointer (some ⟨kf,0,none⟩)],fun d=>d.append 0 f⟩:=by
 refine ⟨fun _ _=>rfl,fun w1 d1 hon hd ho=>?_⟩
 have c1:=hb.only hon hk
 have c2:=hbf.only hon hkf
 have hj1:=hj.only hon hne
 have c0:=hj1.c0
 have HC:=Lib.hid (append_disk g d1 ho 0 f hf w1.drew hd)
 have HOK:=Lib.hid (append_ok ho 0 f)
 unfold Box at c1 c2
 clear hb hj hj1 hon hd ho hbf hf
 dsimp only
 go_enter Tryz.func79,Tryz.ntmps79
 go_upto_region 1 with (fail)
 go_still_tail 5,(by kernel_rfl)
 change wpList _ _ _ _ _ w1.drew
 go_wp2_with (go_at_call 80; refine (HC.out).mono ?_; rintro e w2 ⟨rfl,hd2,ho2⟩)
 go_ret
 exact ⟨rfl,hd2,HOK.out,Only.undrew ho2⟩
set_option maxRecDepth 100000 in
set_option maxHeartbeats 1000000 in
theorem does_sync0 (jg g kj:Nat) (v:Value) (j:Jn) (w0:World) (hb:Box w0 kj (.pointer (some ⟨jg,0,none⟩))) (hk:kj ≠ g) (hj:JAt w0 jg g v j) (hne:jg ≠ g) :
    Does g w0 ⟨81,#[.pointer (some ⟨kj,0,none⟩)],fun d=>d.sync 0⟩:=by
 refine ⟨fun _ _=>rfl,fun w1 d1 hon hd ho=>?_⟩
 have c1:=hb.only hon hk
 have hj1:=hj.only hon hne
 have c0:=hj1.c0
 have HC:=Lib.hid (sync_disk g d1 ho 0 w1 hd)
 have HOK:=Lib.hid (sync_ok ho 0)
 unfold Box at c1
 clear hb hj hj1 hon hd ho
 dsimp only
 go_enter Tryz.func81,Tryz.ntmps81
 go_wp2_with (go_at_call 82; refine (HC.out).mono ?_; rintro e w2 ⟨rfl,hd2,ho2⟩)
 go_ret
 exact ⟨rfl,hd2,HOK.out,ho2⟩
set_option maxRecDepth 100000 in
set_option maxHeartbeats 1000000 in
theorem does_clear2 (jg g kj:Nat) (v:Value) (j:Jn) (w0:World) (hb:Box w0 kj (.pointer (some ⟨jg,0,none⟩))) (hk:kj ≠ g) (hj:JAt w0 jg g v j) (hne:jg ≠ g) :
    Does g w0 ⟨69,#[.pointer (some ⟨kj,0,none⟩)],fun d=>cutx 2 0 d⟩:=by
 refine ⟨fun _ _=>rfl,fun w1 d1 hon hd ho=>?_⟩
 have c1:=hb.only hon hk
 have hj1:=hj.only hon hne
 have c0:=hj1.c0
 have HC:=Lib.hid (jcut_any jg g v j d1 ho 2 0 (by omega) w1 hj1 hd)
 have HOK:=Lib.hid (cutx_ok ho 2 0)
 unfold Box at c1
 clear hb hj hj1 hon hd ho
 dsimp only
 go_enter Tryz.func69,Tryz.ntmps69
 go_wp2_with (go_at_call 68; refine (HC.out).mono ?_; rintro e w2 ⟨rfl,hd2,ho2⟩)
 go_ret
 exact ⟨rfl,hd2,HOK.out,ho2⟩
set_option maxRecDepth 100000 in
set_option maxHeartbeats 1000000 in
theorem does_trim (jg g kj ke:Nat) (v:Value) (j:Jn) (n:Nat) (w0:World) (hb:Box w0 kj (.pointer (some ⟨jg,0,none⟩))) (hk:kj ≠ g) (hbe:Box w0 ke (.int .i64 n)) (hke:ke ≠ g) (hj:JAt w0 jg g v j) (hne:jg ≠ g) :
    Does g w0 ⟨67,#[.pointer (some ⟨kj,0,none⟩),.pointer (some ⟨ke,0,none⟩)],fun d=>cutx 0 n d⟩:=by
 refine ⟨fun _ _=>rfl,fun w1 d1 hon hd ho=>?_⟩
 have c1:=hb.only hon hk
 have c2:=hbe.only hon hke
 have hj1:=hj.only hon hne
 have HC:=Lib.hid (jcut_any jg g v j d1 ho 0 n (by omega) w1 hj1 hd)
 have HOK:=Lib.hid (cutx_ok ho 0 n)
 unfold Box at c1 c2
 clear hb hj hj1 hon hd ho hbe
 dsimp only
 go_enter Tryz.func67,Tryz.ntmps67
 go_wp2_with (go_at_call 68; refine (HC.out).mono ?_; rintro e w2 ⟨rfl,hd2,ho2⟩)
 go_ret
 exact ⟨rfl,hd2,HOK.out,ho2⟩
end
section
structure Jour (w:World) (jg g B:Nat) (v:Value) (j:Jn) (d:Dk):Prop where
  hj:JAt w jg g v j
  hd:DiskAt w g d
  ok:d.Ok
  ow:w.ownsRow B 9 1 v j.recs.length (strs j.recs)
structure Kp (g jg:Nat) (r:Option Nat) (w w':World):Prop where
  os:w'.os=w.os
  tape:w'.tape=w.tape
  output:w'.output=w.output
  size:w.heap.size≤w'.heap.size
  block:∀ k,k < w.heap.size→k ≠ g→k ≠ jg→some k ≠ r→w'.heap[k]?=w.heap[k]?
theorem Kp.of_two {g jg:Nat} {r:Option Nat} {w w':World} (h:Two g jg w w'):Kp g jg r w w':=⟨h.os,h.tape,h.output,h.size,fun k hk h1 h2 _=>h.block k hk h1 h2⟩
theorem Kp.trans {g jg:Nat} {r r2:Option Nat} {a b c:World} (h:Kp g jg r a b) (k:Kp g jg r2 b c) (hr:r2=r∨∀ x,r2=some x→a.heap.size≤x):Kp g jg r a c:=by
 refine ⟨k.os.trans h.os,k.tape.trans h.tape,k.output.trans h.output,Nat.le_trans h.size k.size,fun x hx h1 h2 h3=>?_⟩
 have e:some x ≠ r2:=by
  rcases hr with rfl | hr
  · exact h3
  · intro he; have:=hr x he.symm; omega
 rw [k.block x (Nat.lt_of_lt_of_le hx h.size) h1 h2 e]
 exact h.block x hx h1 h2 h3
theorem own_two {w w':World} {g jg B n:Nat} {v:Value} {xs:List Value} (h:w.ownsRow B 9 1 v n xs) (ht:Two g jg w w') (hg:g < B) (hj:jg < B):w'.ownsRow B 9 1 v n xs:=by
 refine ⟨h.1,?_⟩
 rcases h.2 with hn | ⟨k,cap,cur,rfl,hb,hk,rest⟩
 · exact .inl hn
 · exact .inr ⟨k,cap,cur,rfl,hb,by rw [ht.block k (Array.getElem?_eq_some_iff.1 hk).1 (by omega) (by omega)]; exact hk,rest⟩
theorem own_form {w:World} {B n:Nat} {v:Value} {xs:List Value} (h:w.ownsRow B 9 1 v n xs):∃ a cap,v=.slice a n cap:=by
 rcases h.2 with ⟨rfl,rfl⟩ | ⟨k,cap,cur,rfl,_⟩
 · exact ⟨_,_,rfl⟩
 · exact ⟨_,_,rfl⟩
theorem JAt.grown {w w':World} {jg g:Nat} {v:Value} {j:Jn} {row:Option Nat} (h:JAt w jg g v j) (hg:w.grownBy w' row) (hne:some jg ≠ row):JAt w' jg g v j:=by
 have h2:=h.lt
 unfold JAt at h ⊢
 rw [hg.block jg h2 hne]; exact h
theorem JAt.set3 {w:World} {jg g:Nat} {v:Value} {j:Jn} (h:JAt w jg g v j) (u:Value) (rs:List (List UInt8)):JAt (w.setCell ⟨jg,3,none⟩ u) jg g u { j with recs:=rs }:=by
 unfold JAt at h ⊢
 rw [heap_setCell_same _ _ _ _ _ _ h]; rfl
theorem DiskAt.grown {w w':World} {g:Nat} {d:Dk} {row:Option Nat} (h:DiskAt w g d) (hg:w.grownBy w' row) (hne:some g ≠ row):DiskAt w' g d:=by
 unfold DiskAt at h ⊢
 rw [hg.block g (Array.getElem?_eq_some_iff.1 h).1 hne]; exact h
theorem DiskAt.setj {w:World} {g jg:Nat} {d:Dk} (h:DiskAt w g d) (hne:g ≠ jg) (i:Nat) (u:Value):DiskAt (w.setCell ⟨jg,i,none⟩ u) g d:=by
 unfold DiskAt at h ⊢
 rw [heap_setCell_other _ _ _ _ hne]; exact h
theorem own_setj {w:World} {B n:Nat} {E:TypeId} {v:Value} {xs:List Value} {g:Nat} (h:w.ownsRow B E 1 v n xs) (hlt:g < B) (i:Nat) (x:Value):(w.setCell ⟨g,i,none⟩ x).ownsRow B E 1 v n xs:=by
 refine ⟨h.1,?_⟩
 rcases h.2 with hn | ⟨g',cap,cur,rfl,hb2,hgg,rest⟩
 · exact .inl hn
 · exact .inr ⟨g',cap,cur,rfl,hb2,by rw [heap_setCell_other _ _ _ _ (by show g' ≠ g; omega)]; exact hgg,rest⟩
theorem Kp.grown {g jg:Nat} {r:Option Nat} {w w':World} (h:w.grownBy w' r):Kp g jg r w w':=⟨h.os,h.tape,h.output,h.size,fun k hk _ _ h3=>h.block k hk h3⟩
theorem Kp.setj {g jg:Nat} {r:Option Nat} {a w:World} (h:Kp g jg r a w) (i:Nat) (u:Value):Kp g jg r a (w.setCell ⟨jg,i,none⟩ u):=by
 refine ⟨h.os,h.tape,h.output,?_,fun k hk h1 h2 h3=>?_⟩
 · exact Nat.le_trans h.size (Nat.le_of_eq (by simp))
 · rw [heap_setCell_other _ _ _ _ h2]; exact h.block k hk h1 h2 h3
def recF (j:Jn) (b:List UInt8):List UInt8:=frameOf (eight (j.base + j.recs.length + 1) ++ b)
def stA (f:List UInt8) (d:Dk):Out:=if (d.append 0 f).code=0 then (if ((d.append 0 f).dk.sync 0).code=0 then ⟨0,((d.append 0 f).dk.sync 0).dk⟩ else (d.append 0 f).dk.sync 0) else d.append 0 f
def appJ (j:Jn) (d:Dk) (b:List UInt8):Int × Jn × Dk :=
 if mayJ j b ≠ 0 then (mayJ j b,j,d)
 else if (stA (recF j b) d).code=0 then (0,{ j with recs:=j.recs ++ [b] },(stA (recF j b) d).dk) else ((stA (recF j b) d).code,{ j with broken:=brk j.broken (stA (recF j b) d).code },(stA (recF j b) d).dk)
theorem appJ_no {j:Jn} {d:Dk} {b:List UInt8} (h:mayJ j b ≠ 0):appJ j d b=(mayJ j b,j,d):=if_pos h
theorem appJ_ok {j:Jn} {d:Dk} {b:List UInt8} (h:mayJ j b=0) (h2:(stA (recF j b) d).code=0):appJ j d b=(0,{ j with recs:=j.recs ++ [b] },(stA (recF j b) d).dk):=by
 unfold appJ; rw [if_neg (by simp [h]),if_pos h2]
theorem appJ_bad {j:Jn} {d:Dk} {b:List UInt8} (h:mayJ j b=0) (h2:(stA (recF j b) d).code ≠ 0):appJ j d b=((stA (recF j b) d).code,{ j with broken:=brk j.broken (stA (recF j b) d).code },(stA (recF j b) d).dk):=by
 unfold appJ; rw [if_neg (by simp [h]),if_neg h2]
theorem mayJ_zero {j:Jn} {b:List UInt8} (h:mayJ j b=0):b.length≤65528∧j.broken=false:=by
 unfold mayJ at h
 split at h
 · cases h
 · split at h
   · cases h
   · rename_i h1 h2
     exact ⟨by omega,by simpa using h2⟩
theorem Two.below' {g jg:Nat} {a w w':World} (h:Two g jg a w) (hb:Below w.heap.size w w'):Two g jg a w':=h.trans (Two.of_below hb)
set_option maxRecDepth 100000 in
set_option maxHeartbeats 4000000 in
theorem append_j (jg g B:Nat) (v:Value) (j:Jn) (d:Dk) (b:List UInt8) (hb:(b.length:Int)≤140737488355328) (hne:jg ≠ g) (hjB:jg < B) (hgB:g < B) (w:World) (hBw:B≤w.heap.size) (h:Jour w jg g B v j d) (hfit:(j.base:Int) + j.recs.length≤9223372036854775806) (hrl:(j.recs.length:Int)≤4000) :
    Calls Tryz.prog 37 #[.pointer (some ⟨jg,0,none⟩),.string ⟨b.toArray⟩] w fun e w'=>e=.returned (.int .i64 (appJ j d b).1)∧∃ v',Jour w' jg g B v' (appJ j d b).2.1 (appJ j d b).2.2∧Kp g jg v.ownBlock w w'∧(v'.ownBlock=v.ownBlock∨∃ k,v'.ownBlock=some k∧w.heap.size≤k):=by
 have hbox:=heap_alloc_new w (.cells #[.pointer (some ⟨jg,0,none⟩)] 96 (0,0))
 have hba:=(Below.refl w.heap.size w).alloc (Nat.le_refl _) (.cells #[.pointer (some ⟨jg,0,none⟩)] 96 (0,0))
 have HH:=Lib.hid h
 have HBX:=Lib.hid (show Box (w.alloc (.cells #[.pointer (some ⟨jg,0,none⟩)] 96 (0,0))) w.heap.size (.pointer (some ⟨jg,0,none⟩)) from (cell_of_row _ _ 0 _ _ _ hbox).trans rfl)
 have HJ1:=Lib.hid (h.hj.below hba)
 have HD1:=Lib.hid (h.hd.below hba)
 have HT1:=Lib.hid (show Two g jg w (w.alloc (.cells #[.pointer (some ⟨jg,0,none⟩)] 96 (0,0))) from Two.of_below hba)
 clear hbox hba h
 have hBw':B≤w.heap.size:=hBw
 go_enter Tryz.func37,Tryz.ntmps37
 go_wp2_with fail
 generalize w.alloc (.cells #[.pointer (some ⟨jg,0,none⟩)] 96 (0,0))=w1 at *
 refine (mayj_any jg g v j b hb _ HJ1.out).mono ?_
 rintro e w2 ⟨rfl,rfl⟩
 by_cases hm:mayJ j b=0
 · have hmz:=mayJ_zero hm
   have HM:=Lib.hid hm
   have HMZ:=Lib.hid hmz
   have hc:=HBX.out
   unfold Box at hc
   have hb2:(b.length:Int)≤65528:=by have:=hmz.1; omega
   obtain ⟨va,vc,rfl⟩:=own_form HH.out.ow
   rw [hm]
   clear hm hmz
   go_wp2_with (go_at_call 78; refine (last_any jg g va vc j (by omega) _ HJ1.out).mono ?_; rintro e w3 ⟨rfl,n3,rfl⟩)
   have hw3:=drewN_below (Below.refl w2.heap.size w2) n3
   have HJ3:=Lib.hid (HJ1.out.below hw3)
   have HD3:=Lib.hid (HD1.out.below hw3)
   have HT3:=Lib.hid (HT1.out.below' hw3)
   have HB3:=Lib.hid (show Box (w2.drewN n3) w.heap.size _ from kept_at hw3 HBX.out)
   have HNB:=Lib.hid (show ∀ wx,Calls Tryz.prog 77 #[.int .i64 ((j.base:Int) + j.recs.length + 1),.string ⟨b.toArray⟩] wx fun e w'=>e=.returned (.string ⟨(eight (j.base + j.recs.length + 1) ++ b).toArray⟩)∧Below wx.heap.size wx w' from fun wx=>by
    have h:=numbered_any (j.base + j.recs.length + 1) (by omega) b hb wx
    rw [show ((j.base + j.recs.length + 1:Nat):Int)=(j.base:Int) + j.recs.length + 1 by omega] at h
    exact h)
   have HPT:=Lib.hid (show ∀ wx,Calls Tryz.prog 76 #[.string ⟨(eight (j.base + j.recs.length + 1) ++ b).toArray⟩] wx fun e w'=>e=.returned (.tuple #[.string ⟨(recF j b).toArray⟩,.int .i64 0])∧Below wx.heap.size wx w' from fun wx=>by
    have h:=put_ok ⟨(eight (j.base + j.recs.length + 1) ++ b).toArray⟩ (by show (eight _ ++ b).length≤65536; rw [List.length_append]; show 8 + b.length≤65536; omega) wx
    exact h)
   have hFl:(recF j b).length≤70000:=by
    unfold recF frameOf
    simp only [List.length_append]
    show 4 + 4 + (8 + b.length)≤70000
    omega
   have HFL:=Lib.hid hFl
   clear hFl hw3 HJ1 HD1 HT1 HBX hc
   generalize hF:recF j b=F at *
   have HF:=Lib.hid hF
   clear hF
   generalize w2.drewN n3=w3 at *
   refine (HNB.out _).mono ?_
   rintro e w4 ⟨rfl,hb4⟩
   go_wp2_with fail
   refine (HPT.out _).mono ?_
   rintro e w5 ⟨rfl,hb5⟩
   have HB5:=Lib.hid (show Box w5 w.heap.size _ from kept_at hb5 (kept_at hb4 HB3.out))
   have HJ5:=Lib.hid ((HJ3.out.below hb4).below hb5)
   have HD5:=Lib.hid ((HD3.out.below hb4).below hb5)
   have HT5:=Lib.hid ((HT3.out.below' hb4).below' hb5)
   clear hb4 hb5 HB3 HJ3 HD3 HT3 HNB HPT
   have c5:=HB5.out
   unfold Box at c5
   go_upto_region 5 with (fail)
   have hba:=(Below.refl w5.heap.size w5).alloc (Nat.le_refl _) (.cells #[.string ⟨F.toArray⟩] 9 (0,0))
   have HBF6:=Lib.hid (show Box (w5.alloc (.cells #[.string ⟨F.toArray⟩] 9 (0,0))) w5.heap.size (.string ⟨F.toArray⟩) from (cell_of_row _ _ 0 _ _ _ (heap_alloc_new _ _)).trans rfl)
   have HB6:=Lib.hid (show Box (w5.alloc (.cells #[.string ⟨F.toArray⟩] 9 (0,0))) w.heap.size _ from kept_at hba HB5.out)
   have HJ6:=Lib.hid (HJ5.out.below hba)
   have HD6:=Lib.hid (HD5.out.below hba)
   have HT6:=Lib.hid (HT5.out.below' hba)
   have hkf:w.heap.size < w5.heap.size:=by have:=HB5.out; unfold Box at this; exact block_lt_of_cell this
   have hs6:(w5.alloc (.cells #[.string ⟨F.toArray⟩] 9 (0,0))).heap.size=w5.heap.size + 1:=by simp
   have HS6:=Lib.hid hs6
   clear hba HB5 HJ5 HD5 HT5 c5 hs6
   generalize w5.alloc (.cells #[.string ⟨F.toArray⟩] 9 (0,0))=w6 at *
   generalize w5.heap.size=kf at *
   have c6:=HB6.out
   unfold Box at c6
   go_wp2_with fail
   have hba:=(Below.refl w6.heap.size w6).alloc (Nat.le_refl _) (.cells #[.func (.func 79) #[] #[.pointer (some ⟨w.heap.size,0,none⟩),.pointer (some ⟨kf,0,none⟩)],.func (.func 81) #[] #[.pointer (some ⟨w.heap.size,0,none⟩)]] 174 (0,0))
   have HB7:=Lib.hid (show Box (w6.alloc (.cells #[.func (.func 79) #[] #[.pointer (some ⟨w.heap.size,0,none⟩),.pointer (some ⟨kf,0,none⟩)],.func (.func 81) #[] #[.pointer (some ⟨w.heap.size,0,none⟩)]] 174 (0,0))) w.heap.size _ from kept_at hba HB6.out)
   have HBF7:=Lib.hid (show Box (w6.alloc (.cells #[.func (.func 79) #[] #[.pointer (some ⟨w.heap.size,0,none⟩),.pointer (some ⟨kf,0,none⟩)],.func (.func 81) #[] #[.pointer (some ⟨w.heap.size,0,none⟩)]] 174 (0,0))) kf _ from kept_at hba HBF6.out)
   have HJ7:=Lib.hid (HJ6.out.below hba)
   have HD7:=Lib.hid (HD6.out.below hba)
   have HT7:=Lib.hid (HT6.out.below' hba)
   have hc7:=heap_alloc_new w6 (.cells #[.func (.func 79) #[] #[.pointer (some ⟨w.heap.size,0,none⟩),.pointer (some ⟨kf,0,none⟩)],.func (.func 81) #[] #[.pointer (some ⟨w.heap.size,0,none⟩)]] 174 (0,0))
   have HSZ:=Lib.hid hkf
   clear hba HB6 HBF6 HJ6 HD6 HT6 c6
   generalize w6.alloc (.cells #[.func (.func 79) #[] #[.pointer (some ⟨w.heap.size,0,none⟩),.pointer (some ⟨kf,0,none⟩)],.func (.func 81) #[] #[.pointer (some ⟨w.heap.size,0,none⟩)]] 174 (0,0))=w7 at *
   have hcb:w6.heap.size ≠ g:=by have:=HS6.out; omega
   have hstep:=steps_any jg g w6.heap.size (.slice va j.recs.length vc) j d HH.out.ok [⟨79,#[.pointer (some ⟨w.heap.size,0,none⟩),.pointer (some ⟨kf,0,none⟩)],fun d=>d.append 0 F⟩,⟨81,#[.pointer (some ⟨w.heap.size,0,none⟩)],fun d=>d.sync 0⟩] hne hcb w7 HJ7.out HD7.out hc7 (by simp) (by
    intro c hc
    simp only [List.mem_cons,List.not_mem_nil,or_false] at hc
    rcases hc with rfl | rfl
    · exact does_append0 jg g w.heap.size kf _ j F (by have:=HFL.out; omega) w7 HB7.out (by omega) HBF7.out (by omega) HJ7.out hne
    · exact does_sync0 jg g w.heap.size _ j w7 HB7.out (by omega) HJ7.out hne)
   rw [show runSteps [⟨79,#[.pointer (some ⟨w.heap.size,0,none⟩),.pointer (some ⟨kf,0,none⟩)],fun d=>d.append 0 F⟩,⟨81,#[.pointer (some ⟨w.heap.size,0,none⟩)],fun d=>d.sync 0⟩] d=stA F d from rfl] at hstep
   have HST:=Lib.hid hstep
   clear hstep hc7 hcb
   generalize w6.heap.size=cb at *
   have HAB:=Lib.hid (fun h2=>appJ_bad (d:=d) HM.out (by rw [HF.out]; exact h2))
   have HAO:=Lib.hid (fun h2=>appJ_ok (d:=d) HM.out (by rw [HF.out]; exact h2))
   rw [HF.out] at HAB HAO
   generalize stA F d=o at *
   obtain ⟨code,dk⟩:=o
   dsimp only at HST HAB HAO
   refine (HST.out).mono ?_
   rintro e w8 ⟨rfl,hd8,hok8,hj8,ht8⟩
   have HT8:=Lib.hid (HT7.out.trans ht8)
   have HD8:=Lib.hid hd8
   have HO8:=Lib.hid hok8
   have HJ8:=Lib.hid hj8
   have HB8:=Lib.hid (show Box w8 w.heap.size _ by
    have h:=HB7.out
    unfold Box at h ⊢
    unfold World.cell? at h ⊢
    rw [ht8.block w.heap.size (by have:=block_lt_of_cell (show w7.cell? ⟨w.heap.size,0,none⟩=some _ from HB7.out); exact this) (by omega) (by omega)]
    exact h)
   clear hd8 hok8 hj8 ht8 HB7 HBF7 HJ7 HD7 HT7 HST
   by_cases hz:code=0
   · subst hz
     have HA:=Lib.hid (HAO.out rfl)
     clear HAB HAO
     have HBX8:=Lib.hid (show w8.cell? ⟨w.heap.size,0,none⟩=some (.pointer (some ⟨jg,0,none⟩)) from HB8.out)
     have j3:=HJ8.out.c3
     have jf:=HJ8.out.frozen 3
     have ho8:=own_two HH.out.ow HT8.out hgB hjB
     have hba:=((Below.refl w8.heap.size w8).alloc (Nat.le_refl _) (.cells #[.string ⟨b.toArray⟩] 9 (0,0))).drew
     have HJa:=Lib.hid (show JAt (w8.alloc (.cells #[.string ⟨b.toArray⟩] 9 (0,0))).drew jg g _ _ from HJ8.out.below hba)
     have HOa:=Lib.hid (show (w8.alloc (.cells #[.string ⟨b.toArray⟩] 9 (0,0))).drew.ownsRow B 9 1 (.slice va j.recs.length vc) j.recs.length (strs j.recs) from ho8.alloc _)
     clear HM HMZ HFL HF HB8
     have hbx:=HBX8.out
     go_upto_region 7 with (fail)
     obtain ⟨i0,hi,hz0,hz1,hz2⟩:=info_parts infoStr
     have HIS:=Lib.hid (And.intro hi (And.intro hz0 (And.intro hz1 hz2)))
     have hgl:=HJa.out.lt
     have hdl:=(Array.getElem?_eq_some_iff.1 (HD8.out.below hba)).1
     have HDL:=Lib.hid hdl
     have HGL:=Lib.hid hgl
     have HBA:=Lib.hid hba
     have HWS:=Lib.hid HT8.out.size
     have j3a:(w8.alloc (.cells #[.string ⟨b.toArray⟩] 9 (0,0))).cell? ⟨jg,3,none⟩=some (.slice va j.recs.length vc):=HJa.out.c3
     have hbxa:(w8.alloc (.cells #[.string ⟨b.toArray⟩] 9 (0,0))).cell? ⟨w.heap.size,0,none⟩=some (.pointer (some ⟨jg,0,none⟩)):=kept_at ((Below.refl w8.heap.size w8).alloc (Nat.le_refl _) (.cells #[.string ⟨b.toArray⟩] 9 (0,0))) HBX8.out
     clear hi hz0 hz1 hz2 hgl hdl hba ho8
     go_region_law (first
       | (refine step_append_lies _ rfl (.tmp 35) (.tmp 37) 30 rfl B 9 i0 (.string ByteArray.empty) 1 16 Tryz.underlying30 HIS.out.1 HIS.out.2.1 HIS.out.2.2.1 HIS.out.2.2.2 rfl (by decide) (.slice va j.recs.length vc) j.recs.length (strs j.recs) ?_ HOa.out ⟨w8.heap.size,0,none⟩ 1 1 [.string ⟨b.toArray⟩] ?_ rfl ?_ ?_ (by decide) ?_ ?_ (by have:=HWS.out; have:=HBA.out.size; omega) (w8.heap.size + 1) ?_ ?_
          · simp [Act.eval]
          · simp [Act.eval]
          · exact cell_one_new _ _ _
          · intro u hu; simp at hu; subst hu; rfl
          · unfold maxLen; omega
          · omega
          · simp
          intro g' cap' w1 hown' hgrow hgg hlt'
          have hjn:some jg ≠ (Value.slice va j.recs.length vc).ownBlock:=fun e=>by have:=HOa.out.lt jg e.symm; omega
          have hgn:some g ≠ (Value.slice va j.recs.length vc).ownBlock:=fun e=>by have:=HOa.out.lt g e.symm; omega
          have hj1:=HJa.out.grown hgrow hjn
          have hd1:=DiskAt.grown (HD8.out.below HBA.out) hgrow hgn
          have hbn:some w.heap.size ≠ (Value.slice va j.recs.length vc).ownBlock:=fun e=>by have:=(HH.out.ow.lt w.heap.size e.symm).2; omega
          have yb:=hgrow.cell (a:=⟨w.heap.size,0,none⟩) (show (w8.alloc (.cells #[.string ⟨b.toArray⟩] 9 (0,0))).drew.cell? ⟨w.heap.size,0,none⟩=_ from hbxa) hbn
          have y3:=hj1.c3
          have yf:=hj1.frozen 3
          have HJ1:=Lib.hid hj1
          have HD1:=Lib.hid hd1
          have HK1:=Lib.hid (((Kp.of_two (r:=(Value.slice va j.recs.length vc).ownBlock) (HT8.out.below' HBA.out)).trans (Kp.grown hgrow) (.inl rfl)))
          replace hown':=Lib.hid hown'
          replace hgg:=Lib.hid hgg
          clear hj1 hd1 hgrow hjn hgn hbn hlt'))
     all_goals
       have HW1:=Lib.hid hown'.out
       have HJ9:=Lib.hid (HJ1.out.set3 (.slice (some ⟨g',0,none⟩) (j.recs.length + 1) cap') (j.recs ++ [b]))
       have HD9:=Lib.hid (HD1.out.setj (jg:=jg) (fun e=>hne e.symm) 3 (.slice (some ⟨g',0,none⟩) (j.recs.length + 1) cap'))
       have HO9:=Lib.hid (own_setj hown'.out hjB 3 (.slice (some ⟨g',0,none⟩) (j.recs.length + 1) cap'))
       have HK9:=Lib.hid (HK1.out.setj 3 (.slice (some ⟨g',0,none⟩) (j.recs.length + 1) cap'))
       clear HJ1 HD1 HK1 hown' HW1 yb y3 yf
       go_wp2
       go_ret
       rw [HA.out]
       refine ⟨rfl,.slice (some ⟨g',0,none⟩) (j.recs.length + 1) cap',⟨?_,HD9.out,HO8.out,?_⟩,HK9.out,?_⟩
       · have h:=HJ9.out
         dsimp only at h ⊢
         rw [show brk j.broken 0=j.broken by simp [brk]] at h
         exact h
       · have h:=HO9.out
         dsimp only
         rw [List.length_append,show strs (j.recs ++ [b])=strs j.recs ++ [Value.string ⟨b.toArray⟩] by simp [strs]]
         exact h
       · rcases hgg.out with h | h
         · exact .inl h.symm
         · exact .inr ⟨g',rfl,by have:=HWS.out; omega⟩
   · have hz1:(code == 0)=false:=by simpa using hz
     have HA:=Lib.hid (HAB.out hz)
     clear hz HAB HAO
     go_wp2
     go_ret
     rw [HA.out]
     exact ⟨rfl,_,⟨HJ8.out,HD8.out,HO8.out,own_two HH.out.ow HT8.out hgB hjB⟩,Kp.of_two HT8.out,Or.inl rfl⟩
 · have hm2:(mayJ j b != 0)=true:=by simpa using hm
   have HA:=Lib.hid (appJ_no (d:=d) hm)
   clear hm
   generalize mayJ j b=m at *
   go_wp2
   go_ret
   rw [HA.out]
   exact ⟨rfl,v,⟨HJ1.out,HD1.out,HH.out.ok,own_two HH.out.ow HT1.out hgB hjB⟩,Kp.of_two HT1.out,Or.inl rfl⟩
end
end Go.Proofs.YtgcnnbjbdfgglaaGreat.J
