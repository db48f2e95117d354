/- LAW TopBoth: of every configuration of a bank and every list of byte strings the given function TopBoth returns true and leaves its arguments as they were; no condition. A part of what it needs. -/
import Derived.Test.YtgcnnbjbdfgglaaGreatZae
import Derived.Shelf.Strings.Builder1
import Derived.Laws.Externs
import Derived.Laws.ShiftsVar
import Derived.Laws.ShiftsVarLaws
import Derived.Laws.Shifts
import Derived.Deep.AppendLies
import Derived.Deep.RegionHeldLaw
import Derived.Deep.RegionLaw
import Derived.Deep.LoopGhost
import Derived.Deep.DeepCutAuto
import Derived.Deep.CutBlock
import Derived.Outline
import Derived.Lib.Strings
import Derived.Lib.IndexBytes
import Derived.Lib.ConvBytes
namespace Go.Proofs
open Go.Shelf
def Tryz.lays169_ren:Go.Shelf.Ren:=⟨fun | 169 => 214 | n => n,fun | 70 => 333 | 9 => 9 | 0 => 0 | 72 => 335 | 37 => 162 | 127 => 367 | 3 => 3 | 5 => 5 | n => n,fun | n => n⟩
theorem Tryz.lays169:Go.Proofs.Lays.n169 Tryz.prog Tryz.lays169_ren:={
  mixed:=by kernel_rfl
  f169:=Tryz.func214.trans (congrArg some (by kernel_rfl))
  t0:=Tryz.underlying0
  a0:=Tryz.isAgg0
  z0:=Tryz.sizeOf0
  v0:=Tryz.zeroValue0
  t3:=Tryz.underlying3
  a3:=Tryz.isAgg3
  z3:=Tryz.sizeOf3
  v3:=Tryz.zeroValue3
  t9:=Tryz.underlying9
  a9:=Tryz.isAgg9
  z9:=Tryz.sizeOf9
  v9:=Tryz.zeroValue9
  t37:=Tryz.underlying162
  a37:=Tryz.isAgg162
  z37:=Tryz.sizeOf162
  v37:=Tryz.zeroValue162
  t70:=Tryz.underlying333
  a70:=Tryz.isAgg333
  z70:=Tryz.sizeOf333
  v70:=Tryz.zeroValue333
  t72:=Tryz.underlying335
  a72:=Tryz.isAgg335
  z72:=Tryz.sizeOf335
  v72:=Tryz.zeroValue335
  t127:=Tryz.underlying367
  a127:=Tryz.isAgg367
  z127:=Tryz.sizeOf367
  v127:=Tryz.zeroValue367 }
theorem Tryz.Builder_Extra_169:Builder.Extra Tryz.prog Tryz.lays169_ren:={
  sizeBuilder:=by kernel_rfl
  liesBuilder:=by kernel_rfl
  t5:=Tryz.underlying5
  a5:=Tryz.isAgg5
  z5:=Tryz.sizeOf5
  v5:=Tryz.zeroValue5
  infoByte:=by kernel_rfl
  cellsByte:=by kernel_rfl
  sizeByte:=by kernel_rfl
  neB5:=by decide }
open Go.RowKit in
theorem Tryz.Builder_String_any (B b:Nat) (l:List UInt8) (w:World) (h:Lib.IsBuilder 335 5 B b (Lib.byteCells l) w) (hBw:B≤w.heap.size) :
    Calls Tryz.prog 214 #[.pointer (some ⟨b,0,none⟩)] w fun e w' => e = .returned (.string ⟨l.toArray⟩)∧Below B w w':=Any.Builder_String_any Tryz.lays169 Tryz.Builder_Extra_169 B b l w h hBw
end Go.Proofs
namespace Go.Proofs.YtgcnnbjbdfgglaaGreat
open Go.RowKit
def BldAt (B b:Nat) (n:Nat) (w:World):Prop:=∃ l:List UInt8,l.length = n∧Lib.IsBuilder 335 5 B b (Lib.byteCells l) w
theorem byteCells_snoc (l:List UInt8) {c:Int} (h0:0≤c) (h1:c < 256):Lib.byteCells l ++ [.int .u8 c] = Lib.byteCells (l ++ [UInt8.ofNat c.toNat]):=by
  unfold Lib.byteCells
  rw [List.map_append]
  congr 1
  simp
  omega
theorem Bk.sizeBld:(Tryz.prog.info? 335).map (·.size) = some 2:=by kernel_rfl
theorem Bk.liesBld:liesAt Tryz.prog Tryz.prog.depth 335 (2 / Tryz.prog.cellsOf 335) 0 335 1 = true:=by kernel_rfl
theorem Bk.infoU8:(Tryz.prog.info? 5).map (fun i => (i.zero,i.size,i.bytes)) = some (some (.int .u8 0),1,1):=by kernel_rfl
def KeptB (b:Nat) (w w':World):Prop:=∀ (k:Nat) (cs:Array Value) (T:TypeId),w.heap[k]? = some (.cells cs T (0,0))→T ≠ 5→k ≠ b→w'.heap[k]? = some (.cells cs T (0,0))
theorem KeptB.refl (b:Nat) (w:World):KeptB b w w:=fun _ _ _ h _ _ => h
theorem KeptB.trans {b:Nat} {x y z:World} (h:KeptB b x y) (h2:KeptB b y z):KeptB b x z:=fun k cs T e n1 n2 => h2 k cs T (h k cs T e n1 n2) n1 n2
theorem KeptB.set {b:Nat} {x y:World} (h:KeptB b x y) (o:Nat) (v:Value):KeptB b x (y.setCell ⟨b,o,none⟩ v):=fun k cs T e n1 n2 => (Below.heap_setCell _ _ _ _ n2).trans (h k cs T e n1 n2)
theorem KeptB.below {b:Nat} {x y z:World} (h:KeptB b x y) (hb:Below y.heap.size y z):KeptB b x z:=fun k cs T e n1 n2 => by
  have:=h k cs T e n1 n2
  rw [hb.block k (Array.getElem?_eq_some_iff.1 this).1]; exact this
theorem KeptB.grown {b:Nat} {x y z:World} {B n:Nat} {v:Value} {xs:List Value} (h:KeptB b x y) (hg:y.grownBy z v.ownBlock) (ho:y.ownsRow B 5 1 v n xs):KeptB b x z:=fun k cs t e n1 n2 => by
  have h2:=h k cs t e n1 n2
  rw [hg.block k (Array.getElem?_eq_some_iff.1 h2).1]
  · exact h2
  · intro hk
    rcases ho.2 with ⟨rfl,_⟩ | ⟨g,cap,cur,rfl,_,hc,_⟩
    · simp [Value.ownBlock] at hk
    · simp [Value.ownBlock] at hk
      subst hk
      rw [hc] at h2
      simp at h2
      exact n1 h2.2.symm
set_option maxHeartbeats 1000000 in
set_option maxRecDepth 100000 in
theorem Bk.copyUsed (b:Nat) (w:World) (h0:w.cell? ⟨b,0,none⟩ = some (.pointer (some ⟨b,0,none⟩))) :
    Calls Tryz.prog 247 #[.pointer (some ⟨b,0,none⟩)] w fun e w' => e = .returned (.tuple #[])∧w' = w:=by
  obtain ⟨j,hj,_⟩:=Option.map_eq_some_iff.1 Bk.sizeBld
  go_enter Tryz.func247,Tryz.ntmps247
  go_wp2
  rw [Lib.run_neq_ptr_same w _ Tryz.underlying333 hj]
  go_wp2
  go_end0
  exact ⟨rfl,rfl⟩
set_option maxHeartbeats 1000000 in
set_option maxRecDepth 100000 in
theorem Bk.copyFresh (b:Nat) (w:World) (h0:w.cell? ⟨b,0,none⟩ = some (.pointer none)) (hsh:w.shape? b = some (335,2)) (hfz:w.frozen? ⟨b,0,none⟩ = false) :
    Calls Tryz.prog 247 #[.pointer (some ⟨b,0,none⟩)] w fun e w' => e = .returned (.tuple #[])∧w' = w.setCell ⟨b,0,none⟩ (.pointer (some ⟨b,0,none⟩)):=by
  obtain ⟨j,hj,hjs⟩:=Option.map_eq_some_iff.1 Bk.sizeBld
  go_enter Tryz.func247,Tryz.ntmps247
  go_wp2
  rw [Lib.run_to_unsafe w ⟨b,0,none⟩ Tryz.underlying333 Tryz.underlying384 hj (by rw [hjs]; decide) hsh (Nat.zero_lt_succ 1)]
  simp only [Result.andThen]
  rw [Oper.upon_value]
  go_wp2
  rw [run_callFunc_extern Tryz.func266 (by kernel_rfl) (by kernel_rfl) (by kernel_rfl) (e:=Extern.AbiNoEscape.same) (by kernel_rfl)]
  rw [Lib.run_noEscape]
  simp only [Result.andThen]
  rw [Oper.upon_value]
  go_wp2
  rw [Lib.run_from_unsafe w ⟨b,0,none⟩ Tryz.underlying384 Tryz.underlying333 hj hsh Bk.liesBld]
  simp only [Result.andThen]
  rw [Oper.upon_value]
  go_wp2
  go_end0
  exact ⟨rfl,rfl⟩
theorem Bk.copyCheck (B b:Nat) (bs:List Value) (w:World) (h:Lib.IsBuilder 335 5 B b bs w) :
    Calls Tryz.prog 247 #[.pointer (some ⟨b,0,none⟩)] w fun e w' => e = .returned (.tuple #[])∧(Lib.BuilderAt 335 5 B b (.pointer (some ⟨b,0,none⟩)) bs w'∧Below B w w'∧KeptB b w w'):=by
  rcases h with h | h
  · refine (Bk.copyFresh b w h.cell0 h.shape h.frozen0).mono ?_
    rintro e w' ⟨rfl,rfl⟩
    exact ⟨rfl,h.used _,(Below.refl B w).setCell (p:=⟨b,0,none⟩) h.1 _,(KeptB.refl b w).set _ _⟩
  · refine (Bk.copyUsed b w h.cell0).mono ?_
    rintro e w' ⟨rfl,rfl⟩
    exact ⟨rfl,h,Below.refl B _,KeptB.refl b _⟩
set_option maxHeartbeats 2000000 in
set_option maxRecDepth 100000 in
theorem Bk.writeByte (B b:Nat) (bs:List Value) (c:Int) (w:World) (h:Lib.IsBuilder 335 5 B b bs w) (hlen:bs.length + 1≤140737488355328) (hBw:B≤w.heap.size) :
    Calls Tryz.prog 212 #[.pointer (some ⟨b,0,none⟩),.int .u8 c] w fun e w' => e = .returned .nilIface∧(Lib.BuilderAt 335 5 B b (.pointer (some ⟨b,0,none⟩)) (bs ++ [.int .u8 c]) w'∧Below B w w'∧KeptB b w w'):=by
  obtain ⟨i0,hi,hz0,hz1,hz2⟩:=info_parts Bk.infoU8
  go_enter Tryz.func212,Tryz.ntmps212
  go_wp2_with (go_at_call 247; refine (Bk.copyCheck B b bs _ h).mono ?_)
  rintro e w1 ⟨rfl,h1,hb1,hkb⟩
  obtain ⟨hB,v,hbk,hown,hne⟩:=h1
  have HK1:=Lib.hid hkb
  clear hkb
  have c0:w1.cell? ⟨b,0,none⟩ = some (.pointer (some ⟨b,0,none⟩)):=by rw [Lib.cell_of_heap hbk]; rfl
  have c1:w1.cell? ⟨b,1,none⟩ = some v:=by rw [Lib.cell_of_heap hbk]; rfl
  go_wp2_with (at_builtin; refine wpList_append_own _ rfl _ _ 162 rfl B 5 i0 (.int .u8 0) 1 1 Tryz.underlying162 hi hz0 hz1 hz2 rfl (by decide) _ _ _ rfl (hown.alloc _) ⟨w1.heap.size,0,none⟩ 1 1 [.int .u8 c] rfl rfl ?c1 ?c2 ?c3 ?c4 ?c5 ?_)
  case c1 =>
    intro j u hj
    match j,hj with
    | 0,hj => simp at hj; subst hj; simp [Addr.add]
  case c2 => intro u hu; simp at hu; subst hu; rfl
  case c3 => unfold maxLen; omega
  case c4 => omega
  case c5 => have:=hb1.size; simp; omega
  intro v' w2 hown' hgrow _
  have hlt:b < w1.heap.size:=by
    rcases Nat.lt_or_ge b w1.heap.size with h' | h'
    · exact h'
    · simp [Array.getElem?_eq_none h'] at hbk
  have hb2:w2.heap[b]? = some (.cells #[.pointer (some ⟨b,0,none⟩),v] 335 (0,0)):=by
    rw [hgrow.block b (by simp; omega) (fun e => hne e.symm),Lib.alloc_old w1 _ b hlt]
    exact hbk
  have d0:w2.cell? ⟨b,0,none⟩ = some (.pointer (some ⟨b,0,none⟩)):=by rw [Lib.cell_of_heap hb2]; rfl
  have d1:w2.cell? ⟨b,1,none⟩ = some v:=by rw [Lib.cell_of_heap hb2]; rfl
  have f1:w2.frozen? ⟨b,1,none⟩ = false:=Lib.frozen_of_heap hb2 1
  obtain ⟨g,cap,rfl⟩:∃ g cap,v' = .slice (some ⟨g,0,none⟩) (bs.length + 1) cap:=by
    rcases hown'.2 with ⟨_,h0⟩ | ⟨g,cap,cur,hv,_⟩
    · omega
    · exact ⟨g,cap,hv⟩
  go_wp2
  go_ret
  refine ⟨rfl,?_,?_,?_⟩
  · exact Lib.BuilderAt.put (T:=335) (e:=5) hB hb2 (bs':=bs ++ [.int .u8 c]) (by simpa using hown') (by decide)
  · exact ((hb1.alloc (by have:=hb1.size; omega) _).grown hgrow (by have:=hb1.size; simp; omega) (fun k hk => (hown.lt k hk).1)).setCell (p:=⟨b,1,none⟩) hB _
  · exact ((HK1.out.below ((Below.refl _ _).alloc (Nat.le_refl _) (.cells #[.int .u8 c] 5))).grown hgrow (hown.alloc _)).set _ _
theorem Bk.wbyte {B b n:Nat} {c:Int} (h0:0≤c) (h1:c < 256) {w:World} (h:BldAt B b n w) (hn:(n:Int)≤100000) (hB:B≤w.heap.size):Calls Tryz.prog 212 #[.pointer (some ⟨b,0,none⟩),.int .u8 c] w fun e w' => e = .returned .nilIface∧BldAt B b (n + 1) w'∧Below B w w'∧KeptB b w w':=by
  obtain ⟨l,hl,hb⟩:=h
  refine (Bk.writeByte B b (Lib.byteCells l) c w hb (by simp [Lib.byteCells]; omega) hB).mono ?_
  rintro e w' ⟨he,hb',hbel,hk⟩
  rw [byteCells_snoc l h0 h1] at hb'
  exact ⟨he,⟨_,by simp [hl],.inr hb'⟩,hbel,hk⟩
set_option maxRecDepth 100000 in
set_option maxHeartbeats 1000000 in
theorem Bk.llay {B b n:Nat} (x:Int) {w:World} (h:BldAt B b n w) (hn:(n:Int)≤90000) (hB:B≤w.heap.size):Calls Tryz.prog 213 #[.pointer (some ⟨b,0,none⟩),.int .i64 x] w fun e w' => e = .returned (.tuple #[])∧BldAt B b (n + 8) w'∧Below B w w'∧KeptB b w w':=by
  go_enter Tryz.func213,Tryz.ntmps213
  go_wp2
  go_loopw [4] (fun i wr => ∃ j:Nat,j≤8∧i = .int .i64 ((j:Int) - 1)∧BldAt B b (n + (8 - j)) wr∧Below B w wr∧KeptB b w wr) (fun i _ => (intOf i + 1).toNat)
  case atStart => exact ⟨8,by omega,rfl,h,Below.refl _ _,KeptB.refl _ _⟩
  case round =>
    obtain ⟨j,hj,rfl,hb,hbel,hkb⟩:=hrel
    cases j with
    | zero =>
      rw [show (((0:Nat):Int) - 1) = -1 from by omega]
      go_wp2
      go_end0
      exact ⟨rfl,hb,hbel,hkb⟩
    | succ m =>
      rw [show (((m + 1:Nat):Int) - 1) = (m:Int) from by omega]
      have hm:(m:Int)≤7:=by omega
      have HC:=Lib.hid (Bk.wbyte (c:=x / 2 ^ (8 * m) % 256) (by omega) (by omega) hb (by omega) (Nat.le_trans hB hbel.size))
      have HB:=Lib.hid hbel
      have HK:=Lib.hid hkb
      clear hb hbel h hkb
      go_wp2_with fail
      refine HC.out.mono ?_
      rintro e w1 ⟨rfl,hb1,hb2,hk2⟩
      have HB1:=Lib.hid hb1
      have HB2:=Lib.hid (HB.out.trans hb2)
      have HK2:=Lib.hid (HK.out.trans hk2)
      clear hb1 hb2 hk2
      go_wp2
      go_roundw
      case rel => exact ⟨m,by omega,by go_num,by have:=HB1.out; rw [show n + (8 - (m + 1)) + 1 = n + (8 - m) from by omega] at this; exact this,HB2.out,HK2.out⟩
      case measure => simp [intOf]
def TextPost (w:World) (e:Ending) (w':World):Prop:=∃ s:List UInt8,e = .returned (.string ⟨s.toArray⟩)∧(s.length:Int)≤2000∧Below w.heap.size w w'
def NumsAt (w:World) (g:Nat) (T:TypeId) (n:Nat):Prop:=∃ cs,w.heap[g]? = some (.cells cs T (0,0))∧∀ j,j < n→∃ x,cs[j]? = some (.int .i64 x)
theorem NumsAt.keptB {w w':World} {g b n:Nat} {T:TypeId} (h:NumsAt w g T n) (hk:KeptB b w w') (hT:T ≠ 5) (hg:g ≠ b):NumsAt w' g T n:=by
  obtain ⟨cs,h1,h2⟩:=h
  exact ⟨cs,hk _ _ _ h1 hT hg,h2⟩
theorem NumsAt.below {w w':World} {g n:Nat} {T:TypeId} (h:NumsAt w g T n) (hb:Below w.heap.size w w'):NumsAt w' g T n:=by
  obtain ⟨cs,h1,h2⟩:=h
  exact ⟨cs,by rw [hb.block _ (Array.getElem?_eq_some_iff.1 h1).1]; exact h1,h2⟩
theorem NumsAt.cell {w:World} {g n:Nat} {T:TypeId} (h:NumsAt w g T n) {j:Nat} (hj:j < n):∃ x,w.cell? ⟨g,j,none⟩ = some (.int .i64 x):=by
  obtain ⟨cs,h1,h2⟩:=h
  obtain ⟨x,hx⟩:=h2 j hj
  exact ⟨x,by rw [cell_of_row _ _ _ _ _ _ h1]; exact hx⟩
theorem NumsAt.of_own {w:World} {B e g n cap:Nat} {xs:List Value} (h:w.ownsRow B e 8 (.slice (some ⟨g,0,none⟩) n cap) n xs) (hx:∀ u ∈ xs,∃ x,u = .int .i64 x):NumsAt w g e (n * 8):=by
  have hc:=h
  rcases hc.2 with ⟨h',_⟩ | ⟨g',cap',cur,h',_,hg,_⟩
  · simp at h'
  · simp only [Value.slice.injEq,Option.some.injEq,Addr.mk.injEq,and_true,true_and] at h'
    obtain ⟨rfl,rfl⟩:=h'
    refine ⟨cur,hg,fun j hj => ?_⟩
    have h1:=h.cellAt j hj
    have hl:j < xs.length:=by rw [h.1]; exact hj
    rw [List.getElem?_eq_getElem hl,cell_of_row _ _ _ _ _ _ hg] at h1
    obtain ⟨x,e⟩:=hx _ (List.getElem_mem hl)
    exact ⟨x,by rw [h1,e]⟩
theorem BldAt.below {B b n:Nat} {w w':World} (h:BldAt B b n w) (hb:Below w.heap.size w w'):BldAt B b n w':=by
  obtain ⟨l,hl,h⟩:=h
  refine ⟨l,hl,?_⟩
  rcases h with ⟨h1,v,h2,h3,h4⟩ | ⟨h1,v,h2,h3,h4⟩
  · exact .inl ⟨h1,v,by rw [hb.block _ (Array.getElem?_eq_some_iff.1 h2).1]; exact h2,own_below h3 hb,h4⟩
  · exact .inr ⟨h1,v,by rw [hb.block _ (Array.getElem?_eq_some_iff.1 h2).1]; exact h2,own_below h3 hb,h4⟩
theorem BldAt.lt {B b n:Nat} {w:World} (h:BldAt B b n w):b < w.heap.size:=by
  obtain ⟨l,hl,h⟩:=h
  rcases h with h | h
  · exact h.lt
  · exact h.lt
set_option maxRecDepth 100000 in
set_option maxHeartbeats 4000000 in
theorem Bk.ltext {w:World} {l r cap:Nat} {L:Led} (h:LedAt w l r cap L) (ho:L.Ok):Calls Tryz.prog 181 #[.pointer (some ⟨l,0,none⟩)] w (TextPost w):=by
  have c0:=h.c0
  have n0:=h.cn (show 0 < 8 by omega)
  have n1:=h.cn (show 1 < 8 by omega)
  have n2:=h.cn (show 2 < 8 by omega)
  have n3:=h.cn (show 3 < 8 by omega)
  have n4:=h.cn (show 4 < 8 by omega)
  have n5:=h.cn (show 5 < 8 by omega)
  have n6:=h.cn (show 6 < 8 by omega)
  have n7:=h.cn (show 7 < 8 by omega)
  have cc:=h.cc
  have llt:=h.llt
  have q1:(L.n:Int)≤16:=by have:=ho.n16; omega
  have q2:(L.c:Int)≤8:=by have:=ho.c8; omega
  have HH:=Lib.hid h
  have HO:=Lib.hid ho
  clear h ho
  have HB0:=Lib.hid ((Below.refl w.heap.size w).alloc (Nat.le_refl _) (.cells #[.pointer none,.slice none 0 0] 335))
  have HF:=Lib.hid (show BldAt w.heap.size w.heap.size 0 (w.alloc (.cells #[.pointer none,.slice none 0 0] 335)) from ⟨[],rfl,Lib.fresh_isBuilder _ _ w⟩)
  have HW:=Lib.hid (fun (n:Nat) (hn:(n:Int)≤100000) (c:Int) (h0:0≤c) (h1:c < 256) (wx:World) (hb:BldAt w.heap.size w.heap.size n wx) (hs:w.heap.size≤wx.heap.size) => Bk.wbyte h0 h1 hb hn hs)
  go_enter Tryz.func181,Tryz.ntmps181
  go_wp2_with fail
  refine (HW.out 0 (by omega) _ ?_ ?_ _ HF.out (by simp)).mono ?_
  · omega
  · omega
  rintro e w1 ⟨rfl,hb1,hl1,_⟩
  have HB1:=Lib.hid (HB0.out.trans (hl1.mono (by simp)))
  have HF1:=Lib.hid hb1
  have k0:=hl1.cell (p:=⟨l,0,none⟩) llt
  clear hb1 hl1 k0
  have d0:=(HB1.out.cell (p:=⟨l,0,none⟩) llt).trans c0
  have d9:=(HB1.out.cell (p:=⟨l,9,none⟩) llt).trans cc
  go_wp2_with fail
  refine (HW.out 1 (by omega) _ ?_ ?_ _ HF1.out HB1.out.size).mono ?_
  · omega
  · omega
  rintro e w2 ⟨rfl,hb2,hl2,_⟩
  have HB2:=Lib.hid (HB1.out.trans (hl2.mono (by have:=HB1.out.size; omega)))
  have HF2:=Lib.hid hb2
  clear hb2 hl2 d0 d9
  have HL2:=Lib.hid (HH.out.below HB2.out)
  replace c0:=HL2.out.c0
  replace n0:=HL2.out.cn (show 0 < 8 by omega)
  replace n1:=HL2.out.cn (show 1 < 8 by omega)
  replace n2:=HL2.out.cn (show 2 < 8 by omega)
  replace n3:=HL2.out.cn (show 3 < 8 by omega)
  replace n4:=HL2.out.cn (show 4 < 8 by omega)
  replace n5:=HL2.out.cn (show 5 < 8 by omega)
  replace n6:=HL2.out.cn (show 6 < 8 by omega)
  replace n7:=HL2.out.cn (show 7 < 8 by omega)
  replace cc:=HL2.out.cc
  simp only [Nat.reduceAdd] at n0 n1 n2 n3 n4 n5 n6 n7
  go_upto_region 4 with (fail)
  obtain ⟨i0,hi,hz0,hz1,hz2⟩:=info_parts Bk.infoRow
  have HIS:=Lib.hid (And.intro hi (And.intro hz0 (And.intro hz1 hz2)))
  have hnew:=Blk.new w2 144 #[.int .i64 (L.nos 0),.int .i64 (L.nos 1),.int .i64 (L.nos 2),.int .i64 (L.nos 3),.int .i64 (L.nos 4),.int .i64 (L.nos 5),.int .i64 (L.nos 6),.int .i64 (L.nos 7)]
  have HA:=Lib.hid ((Below.refl w2.heap.size w2).alloc (Nat.le_refl _) (.cells #[.int .i64 (L.nos 0),.int .i64 (L.nos 1),.int .i64 (L.nos 2),.int .i64 (L.nos 3),.int .i64 (L.nos 4),.int .i64 (L.nos 5),.int .i64 (L.nos 6),.int .i64 (L.nos 7)] 144))
  have HOWN:=Lib.hid (World.ownsRow_lit (base:=w.heap.size) (e:=144) (size:=8) w2 #[.int .i64 (L.nos 0),.int .i64 (L.nos 1),.int .i64 (L.nos 2),.int .i64 (L.nos 3),.int .i64 (L.nos 4),.int .i64 (L.nos 5),.int .i64 (L.nos 6),.int .i64 (L.nos 7)] 1 HB2.out.size (by unfold maxLen; omega) rfl)
  have HNEWS:=Lib.hid ((HL2.out.below HA.out).hr.flat)
  have HN0:=Lib.hid (HO.out.n1)
  have HSZ:=Lib.hid HB2.out.size
  have q3:L.n≤16:=by omega
  have HQ:=Lib.hid q3
  have hl2:l < w2.heap.size:=Nat.lt_of_lt_of_le llt HB2.out.size
  clear hi hz0 hz1 hz2 hnew q3
  go_region_held_law (fun w' => w'.cell? ⟨l,0,none⟩ = some (.slice (some ⟨r,0,none⟩) L.n cap)∧w'.cell? ⟨l,1,none⟩ = some (.int .i64 (L.nos 0))∧w'.cell? ⟨l,2,none⟩ = some (.int .i64 (L.nos 1))∧w'.cell? ⟨l,3,none⟩ = some (.int .i64 (L.nos 2))∧w'.cell? ⟨l,4,none⟩ = some (.int .i64 (L.nos 3))∧w'.cell? ⟨l,5,none⟩ = some (.int .i64 (L.nos 4))∧w'.cell? ⟨l,6,none⟩ = some (.int .i64 (L.nos 5))∧w'.cell? ⟨l,7,none⟩ = some (.int .i64 (L.nos 6))∧w'.cell? ⟨l,8,none⟩ = some (.int .i64 (L.nos 7))) (first | go_keep | (go_split_ands; refine ⟨?_,?_,?_,?_,?_,?_,?_,?_,?_⟩ <;> (rw [hgrow.cell_far _ (by simp; omega) (by simp [Value.ownBlock]; omega)]; assumption))) ((refine step_append_lies _ (by rfl) (.tmp 25) (.tmp 29) 142 (by rfl) w.heap.size 144 i0 (.agg #[.int .i64 0,.int .i64 0,.int .i64 0,.int .i64 0,.int .i64 0,.int .i64 0,.int .i64 0,.int .i64 0]) 8 64 Tryz.underlying142 HIS.out.1 HIS.out.2.1 HIS.out.2.2.1 HIS.out.2.2.2 rfl (by decide) (.slice (some ⟨w2.heap.size,0,none⟩) 1 1) 1 _ (by rfl) HOWN.out ⟨r,0,none⟩ L.n cap (flat L.n L.bal) (by rfl) (flat_len _ _) HNEWS.out (flat_one _ _) HN0.out (by have:=HQ.out; unfold maxLen; omega) (by have:=HQ.out; omega) (by have:=HSZ.out; simp; omega) (w2.heap.size + 1) (by simp) ?_; intro g cap1 w3 hown hgrow hat hlt))
  have HBL:=Lib.hid (((Below.refl w2.heap.size w2).alloc (Nat.le_refl _) _).drew.grown hgrow (by simp) (fun k hk => by simp [Value.ownBlock] at hk; omega))
  have HF3:=Lib.hid (HF2.out.below HBL.out)
  have HB3:=Lib.hid (HB2.out.trans (HBL.out.mono HB2.out.size))
  have HL3:=Lib.hid (HL2.out.below HBL.out)
  have HNA:=Lib.hid (NumsAt.of_own hown (fun u hu => by
    rcases List.mem_append.1 hu with h | h
    · simp at h; rcases h with h | h | h | h | h | h | h | h <;> exact ⟨_,h⟩
    · unfold flat at h; obtain ⟨i,_,e⟩:=List.mem_map.1 h; exact ⟨_,e.symm⟩))
  have HG:=Lib.hid (show g ≠ w.heap.size∧g < w3.heap.size from ⟨by
    have:=HF2.out.lt
    rcases hat with h | h
    · simp [Value.ownBlock] at h; omega
    · omega,hlt⟩)
  have q4:((1 + L.n:Nat):Int)≤17:=by have:=HQ.out; omega
  clear hgrow hat hlt hown
  clear c0 n0 n1 n2 n3 n4 n5 n6 n7 cc hl2
  go_wp2
  go_loopw [32] (fun i wr => ∃ k:Nat,k≤1 + L.n∧i = .int .i64 k∧BldAt w.heap.size w.heap.size (2 + 8 * L.c * k) wr∧Below w.heap.size w wr∧NumsAt wr g 144 ((1 + L.n) * 8)) (fun i _ => 1 + L.n - (intOf i).toNat)
  case atStart => exact ⟨0,by omega,by simp,HF3.out,HB3.out,HNA.out⟩
  case round =>
    obtain ⟨k,hk,rfl,hf,hb,hna⟩:=hrel
    have HFk:=Lib.hid hf
    have HBk:=Lib.hid hb
    have HNk:=Lib.hid hna
    by_cases hlt:k < 1 + L.n
    · have q5:(k:Int) < 1 + (L.n:Int):=by omega
      have q5d:decide ((k:Int) < 1 + (L.n:Int)) = true:=by simp; omega
      have cc:=(hb.cell (p:=⟨l,9,none⟩) llt).trans HH.out.cc
      obtain ⟨x0,e0⟩:=hna.cell (j:=k * 8 + 0) (by omega)
      obtain ⟨x1,e1⟩:=hna.cell (j:=k * 8 + 1) (by omega)
      obtain ⟨x2,e2⟩:=hna.cell (j:=k * 8 + 2) (by omega)
      obtain ⟨x3,e3⟩:=hna.cell (j:=k * 8 + 3) (by omega)
      obtain ⟨x4,e4⟩:=hna.cell (j:=k * 8 + 4) (by omega)
      obtain ⟨x5,e5⟩:=hna.cell (j:=k * 8 + 5) (by omega)
      obtain ⟨x6,e6⟩:=hna.cell (j:=k * 8 + 6) (by omega)
      obtain ⟨x7,e7⟩:=hna.cell (j:=k * 8 + 7) (by omega)
      have HA:=Lib.hid ((Below.refl wr.heap.size wr).alloc (Nat.le_refl _) (.cells #[.int .i64 x0,.int .i64 x1,.int .i64 x2,.int .i64 x3,.int .i64 x4,.int .i64 x5,.int .i64 x6,.int .i64 x7] 144))
      have HN5:=Lib.hid (show NumsAt (wr.alloc (.cells #[.int .i64 x0,.int .i64 x1,.int .i64 x2,.int .i64 x3,.int .i64 x4,.int .i64 x5,.int .i64 x6,.int .i64 x7] 144)) wr.heap.size 144 8 from ⟨_,heap_alloc_new _ _,fun j hj => by rcases eight hj with rfl | rfl | rfl | rfl | rfl | rfl | rfl | rfl <;> exact ⟨_,rfl⟩⟩)
      have cc2:=(HA.out.cell (p:=⟨l,9,none⟩) (Nat.lt_of_lt_of_le llt hb.size)).trans cc
      rw [Nat.add_zero] at e0
      clear hf hb hna
      have HSR:=Lib.hid HBk.out.size
      go_wp2
      generalize hw5:wr.alloc (.cells #[.int .i64 x0,.int .i64 x1,.int .i64 x2,.int .i64 x3,.int .i64 x4,.int .i64 x5,.int .i64 x6,.int .i64 x7] 144) = w5 at *
      have HF5:=Lib.hid (HFk.out.below HA.out)
      have HB5:=Lib.hid (HBk.out.trans (HA.out.mono HSR.out))
      have HNg5:=Lib.hid (HNk.out.below HA.out)
      have HLT:=Lib.hid HFk.out.lt
      have HCC:=Lib.hid cc2
      clear hw5 e0 e1 e2 e3 e4 e5 e6 e7 cc cc2
      go_loopw [42] (fun i wx => ∃ j:Nat,j≤L.c∧i = .int .i64 j∧BldAt w.heap.size w.heap.size (2 + 8 * L.c * k + 8 * j) wx∧Below w.heap.size w wx∧NumsAt wx g 144 ((1 + L.n) * 8)∧NumsAt wx wr.heap.size 144 8) (fun i _ => L.c - (intOf i).toNat)
      case atStart => exact ⟨0,by omega,rfl,HF5.out,HB5.out,HNg5.out,HN5.out⟩
      case round =>
        obtain ⟨j,hj,rfl,hf,hb,hng,hn5⟩:=hrel
        by_cases hj2:j < L.c
        · have q6:(j:Int) < (L.c:Int):=by omega
          obtain ⟨x,ex⟩:=hn5.cell (j:=j) (by omega)
          have hmul:8 * L.c * k≤8 * 8 * 17:=Nat.mul_le_mul (Nat.mul_le_mul_left 8 (by omega)) (by omega)
          have HC:=Lib.hid (Bk.llay x hf (by omega) hb.size)
          have HBx:=Lib.hid hb
          have HNx:=Lib.hid (And.intro hng hn5)
          clear hf hb hng hn5 hmul
          go_wp2_with fail
          refine HC.out.mono ?_
          rintro e w6 ⟨rfl,hf6,hb6,hk6⟩
          have HF6:=Lib.hid hf6
          have HB6:=Lib.hid (HBx.out.trans hb6)
          have HN6:=Lib.hid (And.intro (HNx.out.1.keptB hk6 (by decide) HG.out.1) (HNx.out.2.keptB hk6 (by decide) (by have:=HLT.out; omega)))
          clear hf6 hb6 hk6
          go_wp2
          go_roundw
          case rel => exact ⟨j + 1,by omega,by go_num,HF6.out,HB6.out,HN6.out.1,HN6.out.2⟩
          case measure => simp [intOf]; omega
        · obtain rfl:j = L.c:=by omega
          go_wp2
          go_roundw
          case rel => exact ⟨k + 1,by omega,by go_num,by rw [show 2 + 8 * L.c * (k + 1) = 2 + 8 * L.c * k + 8 * L.c by rw [Nat.mul_succ]; omega]; exact hf,hb,hng⟩
          case measure => simp [intOf]; omega
    · obtain rfl:k = 1 + L.n:=by omega
      have hmul:8 * L.c * (1 + L.n)≤8 * 8 * 17:=Nat.mul_le_mul (Nat.mul_le_mul_left 8 (by omega)) (by omega)
      obtain ⟨s,hs,hbl⟩:=hf
      have HS:=Lib.hid (Tryz.Builder_String_any w.heap.size w.heap.size s wr hbl hb.size)
      have HL:=Lib.hid (show (s.length:Int)≤2000 by omega)
      clear hs hbl hb hna hmul
      go_wp2_with fail
      refine HS.out.mono ?_
      rintro e w7 ⟨rfl,hb7⟩
      have HB7:=Lib.hid (HBk.out.trans hb7)
      clear hb7
      go_wp2
      go_ret
      exact ⟨s,rfl,HL.out,HB7.out⟩
end Go.Proofs.YtgcnnbjbdfgglaaGreat
namespace Go.Proofs.YtgcnnbjbdfgglaaGreat
open Go.RowKit
theorem bits64 (a b:Int):In64 (bits .or .i64 a b):=by
  show In64 (IntKind.i64.wrap _)
  unfold In64
  rw [IntKind.wrap_i64]
  omega
theorem Bk.below_bytes {B:Nat} {w0 w:World} (hb:Below B w0 w) (hB:B≤w.heap.size) (s:ByteArray):Below B w0 (Lib.bytesWorld w 5 s) :=
  hb.trans ⟨rfl,rfl,rfl,by rw [Lib.bytesWorld_size]; omega,fun k hk => Lib.bytesWorld_at_old _ _ _ _ (by omega)⟩
structure TkP (P:World→Prop) (l bL bR g o C:Nat):Prop where
  cL:∀ w,P w→w.cell? ⟨bL,0,none⟩ = some (.pointer (some ⟨l,0,none⟩))
  cC:∀ w,P w→w.cell? ⟨l,9,none⟩ = some (.int .i64 C)
  cg:∀ w k,P w→k < 8→∃ v,w.cell? ⟨g,o + k,none⟩ = some v
  fg:∀ w j,P w→w.frozen? ⟨g,j,none⟩ = false
  bel:∀ w w',P w→Below w.heap.size w w'→P w'
  set:∀ w k x,k < 8→In64 x→P w→P (w.setCell ⟨g,o + k,none⟩ (.int .i64 x))
  box:∀ w v,P w→P (w.setCell ⟨bR,0,none⟩ v)
  ne:g ≠ bR
def StrBox (w:World) (b:Nat) (s:List UInt8):Prop:=Blk w b 9 #[.string ⟨s.toArray⟩]
def TkPost (P:World→Prop) (bR n:Nat) (e:Ending) (w':World):Prop:=∃ s,e = .returned (.tuple #[])∧P w'∧StrBox w' bR s∧s.length = n
set_option maxRecDepth 100000 in
set_option maxHeartbeats 2000000 in
theorem Bk.ltake {P:World→Prop} {l bL bR g o C:Nat} (T:TkP P l bL bR g o C) (hC:(C:Int)≤8) {w:World} (hp:P w) (s:List UInt8) (hs:StrBox w bR s) (m:Nat) (hl:s.length = m + C * 8) (hm:(m:Int)≤4000) :
    Calls Tryz.prog 156 #[.pointer (some ⟨g,o,none⟩),.pointer (some ⟨bL,0,none⟩),.pointer (some ⟨bR,0,none⟩)] w fun e w' => TkPost P bR m e w':=by
  have c1:=T.cL w hp
  have c2:=T.cC w hp
  have HT:=Lib.hid T
  have HP:=Lib.hid hp
  have HS:=Lib.hid hs
  have HL:=Lib.hid hl
  clear T hp hs hl
  go_enter Tryz.func156,Tryz.ntmps156
  go_wp2
  clear c1 c2
  go_loopw [12] (fun i wr => ∃ (k:Nat) (r:List UInt8),k≤C∧i = .int .i64 k∧P wr∧StrBox wr bR r∧r.length = m + (C - k) * 8) (fun i _ => C - (intOf i).toNat)
  case atStart => exact ⟨0,s,by omega,rfl,HP.out,HS.out,HL.out⟩
  case round =>
    obtain ⟨k,r,hk,rfl,hp,hr,hrl⟩:=hrel
    by_cases hlt:k < C
    · have q1:(k:Int) < (C:Int):=by omega
      have hr8:8≤r.length:=by omega
      have hr8i:(8:Int)≤(r.length:Int):=by omega
      have hrb:(r.length:Int)≤5000:=by have:(C - k) * 8≤8 * 8:=Nat.mul_le_mul_right 8 (by omega); omega
      have hsz:(⟨r.toArray⟩:ByteArray).size = r.length:=by rw [ByteArray.size]; simp
      have hext:(⟨r.toArray⟩:ByteArray).extract 0 8 = ⟨(r.take 8).toArray⟩:=by rw [ByteArray.extract_mk]; simp
      have hext2:(⟨r.toArray⟩:ByteArray).extract 8 r.length = ⟨(r.drop 8).toArray⟩:=by rw [ByteArray.extract_mk]; simp; exact List.take_of_length_le (by simp)
      have hcv:=Lib.run_convert_string_bytes (P:=Tryz.prog) wr 9 162 5 ⟨(r.take 8).toArray⟩ Tryz.underlying9 Tryz.underlying162 Tryz.underlying5
      have hsz8:(⟨(r.take 8).toArray⟩:ByteArray).size = 8:=by rw [ByteArray.size]; simp; omega
      rw [hsz8] at hcv
      have HC:=Lib.hid (fun j hj => Lib.bytesWorld_cell wr 5 ⟨(r.take 8).toArray⟩ j hj)
      have HSZ:=Lib.hid hsz8
      have HB:=Lib.hid (Bk.below_bytes (Below.refl wr.heap.size wr) (Nat.le_refl _) ⟨(r.take 8).toArray⟩)
      have c0:=(show Blk wr bR _ _ from hr).cell 0
      have HP1:=Lib.hid (HT.out.bel _ _ hp HB.out)
      have HR1:=Lib.hid (show StrBox _ bR r from (show Blk wr bR _ _ from hr).below HB.out)
      have HRL:=Lib.hid hrl
      generalize Lib.bytesWorld wr 5 ⟨(r.take 8).toArray⟩ = w1 at *
      have d0:=(show Blk w1 bR _ _ from HR1.out).cell 0
      clear hp hr hsz hsz8 hrl
      have HP1':=Lib.hid (And.intro HP1.out HR1.out)
      go_wp2
      generalize wr.heap.size = H5 at *
      go_loopw [5,19] (fun n i wx => ∃ (j:Nat) (x:Int),j≤8∧i = .int .i64 j∧n = .int .i64 x∧In64 x∧wx = w1) (fun _ i _ => 8 - (intOf i).toNat)
      case atStart => exact ⟨0,0,by omega,rfl,rfl,by unfold In64; omega,rfl⟩
      case round =>
        obtain ⟨j,x,hj,rfl,rfl,hx,rfl⟩:=hrel
        by_cases hj2:j < 8
        · obtain ⟨q,hq,hq2⟩:∃ q:Nat,wr.cell? ⟨H5,j,none⟩ = some (.int .u8 q)∧(q:Int)≤255:=by
            have h:=HC.out j (by rw [HSZ.out]; exact hj2)
            exact ⟨_,h,by have:=UInt8.toNat_lt ((r.take 8).getD j 0); show ((((r.take 8).getD j 0).toNat:Nat):Int)≤255; omega⟩
          have q2:(j:Int) < 8:=by omega
          unfold In64 at hx
          go_wp2
          go_roundw
          case rel => exact ⟨j + 1,_,by omega,by go_num,rfl,bits64 _ _,by first | rfl | trivial⟩
          case measure => simp [intOf]; omega
        · obtain rfl:j = 8:=by omega
          obtain ⟨v0,hv0⟩:=HT.out.cg wr k HP1.out (by omega)
          have hf0:=HT.out.fg wr (o + k) HP1.out
          have hf1:=(show Blk wr bR _ _ from HR1.out).frozen 0
          have HP2:=Lib.hid (HT.out.set wr k x (by omega) hx HP1.out)
          have HR2:=Lib.hid (show StrBox (wr.setCell ⟨g,o + k,none⟩ (.int .i64 x)) bR r from (show Blk wr bR _ _ from HR1.out).far HT.out.ne _ _)
          have HNE:=Lib.hid HT.out.ne
          have hne:=HT.out.ne
          have e0:=(show Blk (wr.setCell ⟨g,o + k,none⟩ (.int .i64 x)) bR _ _ from HR2.out).cell 0
          have HP3:=Lib.hid (HT.out.box _ (.string ⟨(r.drop 8).toArray⟩) HP2.out)
          have HR3:=Lib.hid (show StrBox ((wr.setCell ⟨g,o + k,none⟩ (.int .i64 x)).setCell ⟨bR,0,none⟩ (.string ⟨(r.drop 8).toArray⟩)) bR (r.drop 8) from (show Blk (wr.setCell ⟨g,o + k,none⟩ (.int .i64 x)) bR _ _ from HR2.out).set 0 _)
          go_wp2
          go_roundw
          case rel => exact ⟨k + 1,r.drop 8,by omega,by go_num,HP3.out,HR3.out,by have:=HRL.out; simp; omega⟩
          case measure => simp [intOf]; omega
    · obtain rfl:k = C:=by omega
      go_wp2
      go_end0
      exact ⟨r,rfl,hp,hr,by rw [hrl]; simp⟩
end Go.Proofs.YtgcnnbjbdfgglaaGreat
