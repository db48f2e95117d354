/- LAW TopBoth: of every configuration of a bank and every list of byte strings the given function TopBoth returns true and leaves its arguments as they were; no condition. A part of what it needs. -/
import Derived.Test.YtgcnnbjbdfgglaaGreatZah
import Derived.Test.YtgcnnbjbdfgglaaGreatZaj
import Derived.Test.YtgcnnbjbdfgglaaGreatZan
import Derived.Shelf.Strings.Builder1
import Derived.Shelf.Small.Bits
import Derived.Shelf.Small.Wraps
import Derived.Shelf.Strings.BuilderF
import Derived.Shelf.Strings.BuilderK
import Derived.Shelf.Strconv.Itoa0
import Derived.Shelf.Sort.Plain
import Derived.Shelf.Bits.Mul64
import Derived.Shelf.Slices.Turned
import Derived.Ground.Names2Prog
import Derived.Shelf.Slices.Clone
import Derived.Shelf.Slices.SearchI
import Derived.Shelf.Slices.In.SortNone
import Derived.Ground.SlgnProg
import Derived.Shelf.SlicesG.Turned
import Derived.Shelf.SlicesG.Equal
import Derived.Shelf.SlicesG.Clone
import Derived.Shelf.SlicesG.SearchI
import Derived.Shelf.SlicesE.Clone
import Derived.Ground.SlsfProg
import Derived.Shelf.SlSortCmp.Insertion
import Derived.Shelf.SlSortCmp.SiftDown1
import Derived.Shelf.SlSortCmp.HeapSort1
import Derived.Shelf.SlSortCmp.Insertion1
import Derived.Shelf.SlSortCmp.Median1
import Derived.Shelf.SlSortCmp.Pivot1
import Derived.Shelf.SlSortCmp.ReverseRange1
import Derived.Shelf.SlSortCmp.PartialInsertion1
import Derived.Shelf.SlSortCmp.PartitionEqual1
import Derived.Shelf.SlSortCmp.Partition1
import Derived.Shelf.SlSortCmp.Pdq1
import Derived.Shelf.SlSortCmp.Whole1
import Derived.Shelf.SlSortCmp.WholeK
import Derived.Shelf.SlSortCmp.NoneTotal
namespace Go.Proofs
open Go.Shelf
def Tryz.lays125_ren:Go.Shelf.Ren:=⟨fun | 125 => 84 | 128 => 130 | 129 => 131 | n => n,fun | 46 => 136 | 3 => 3 | 51 => 217 | 53 => 135 | 4 => 4 | 5 => 5 | 9 => 9 | n => n,fun | n => n⟩
theorem Tryz.lays125:Go.Proofs.Lays.n125 Tryz.prog Tryz.lays125_ren:={
  mixed:=by kernel_rfl
  f125:=Tryz.func84.trans (congrArg some (by kernel_rfl))
  f128:=Tryz.func130.trans (congrArg some (by kernel_rfl))
  f129:=Tryz.func131.trans (congrArg some (by kernel_rfl))
  t3:=Tryz.underlying3
  a3:=Tryz.isAgg3
  z3:=Tryz.sizeOf3
  v3:=Tryz.zeroValue3
  t4:=Tryz.underlying4
  a4:=Tryz.isAgg4
  z4:=Tryz.sizeOf4
  v4:=Tryz.zeroValue4
  t5:=Tryz.underlying5
  a5:=Tryz.isAgg5
  z5:=Tryz.sizeOf5
  v5:=Tryz.zeroValue5
  t9:=Tryz.underlying9
  a9:=Tryz.isAgg9
  z9:=Tryz.sizeOf9
  v9:=Tryz.zeroValue9
  t46:=Tryz.underlying136
  a46:=Tryz.isAgg136
  z46:=Tryz.sizeOf136
  v46:=Tryz.zeroValue136
  t51:=Tryz.underlying217
  a51:=Tryz.isAgg217
  z51:=Tryz.sizeOf217
  v51:=Tryz.zeroValue217
  t53:=Tryz.underlying135
  a53:=Tryz.isAgg135
  z53:=Tryz.sizeOf135
  v53:=Tryz.zeroValue135 }
theorem Tryz.bits_Len (x:Int) (w:World) (h0:0≤x) (h1:x≤18446744073709551615) :
    Calls Tryz.prog 84 #[.int .u64 x] w fun e w' => e = .returned (.int .i64 (Lib.bitLen x.toNat))∧w' = w:=Any.bits_Len Tryz.lays125 x w h0 h1
def Tryz.lays122_ren:Go.Shelf.Ren:=⟨fun | 122 => 43 | 215 => 85 | n => n,fun | 3 => 3 | 4 => 4 | n => n,fun | n => n⟩
theorem Tryz.lays122:Go.Proofs.Lays.n122 Tryz.prog Tryz.lays122_ren:={
  mixed:=by kernel_rfl
  f122:=Tryz.func43.trans (congrArg some (by kernel_rfl))
  f215:=Tryz.func85.trans (congrArg some (by kernel_rfl))
  t3:=Tryz.underlying3
  a3:=Tryz.isAgg3
  z3:=Tryz.sizeOf3
  v3:=Tryz.zeroValue3
  t4:=Tryz.underlying4
  a4:=Tryz.isAgg4
  z4:=Tryz.sizeOf4
  v4:=Tryz.zeroValue4 }
open Go.RowKit in
theorem Tryz.cmp_Compare_int (x y:Int) (w:World) :
    Calls Tryz.prog 43 #[.int .i64 x,.int .i64 y] w fun e w' => e = .returned (.int .i64 (Lib.compareInt x y))∧w' = w:=Any.cmp_Compare_int Tryz.lays122 x y w
def Tryz.lays107_ren:Go.Shelf.Ren:=⟨fun | 107 => 179 | 108 => 211 | n => n,fun | 28 => 25 | 3 => 3 | 4 => 4 | 0 => 0 | n => n,fun | n => n⟩
theorem Tryz.lays107:Go.Proofs.Lays.n107 Tryz.prog Tryz.lays107_ren:={
  mixed:=by kernel_rfl
  f107:=Tryz.func179.trans (congrArg some (by kernel_rfl))
  f108:=Tryz.func211.trans (congrArg some (by kernel_rfl))
  t0:=Tryz.underlying0
  a0:=Tryz.isAgg0
  z0:=Tryz.sizeOf0
  v0:=Tryz.zeroValue0
  t3:=Tryz.underlying3
  a3:=Tryz.isAgg3
  z3:=Tryz.sizeOf3
  v3:=Tryz.zeroValue3
  t4:=Tryz.underlying4
  a4:=Tryz.isAgg4
  z4:=Tryz.sizeOf4
  v4:=Tryz.zeroValue4
  t28:=Tryz.underlying25
  a28:=Tryz.isAgg25
  z28:=Tryz.sizeOf25
  v28:=Tryz.zeroValue25 }
open Go.Lib in
theorem Tryz.slices_Contains_int (b off n c:Nat) (zs:List Int) (x:Int) (w:World) (hz:n≤zs.length) (hbig:n≤9223372036854775807) (hc:∀ j,j < zs.length→w.cell? ⟨b,off + j,none⟩ = some (.int .i64 (zs.getD j 0))) :
    Calls Tryz.prog 179 #[.slice (some ⟨b,off,none⟩) n c,.int .i64 x] w fun e w' => e = .returned (.bool ((zs.take n).contains x))∧w' = w:=Any.slices_Contains_int Tryz.lays107 b off n c zs x w hz hbig hc
open Go.Lib in
theorem Tryz.slices_Contains_int_empty (a:Option Addr) (c:Nat) (x:Int) (w:World) :
    Calls Tryz.prog 179 #[.slice a 0 c,.int .i64 x] w fun e w' => e = .returned (.bool false)∧w' = w:=Any.slices_Contains_int_empty Tryz.lays107 a c x w
def Tryz.laysSlF6_f253_ren:Go.Shelf.Ren:=⟨fun | 6 => 253 | 15 => 84 | 14 => 267 | 28 => 130 | 29 => 131 | 20 => 272 | 21 => 273 | 22 => 274 | 23 => 275 | 24 => 276 | 25 => 277 | 26 => 278 | 27 => 279 | 46 => 281 | 47 => 164 | 48 => 165 | 49 => 282 | 50 => 283 | 57 => 284 | n => n,fun | 22 => 25 | 24 => 3 | 25 => 133 | 3 => 3 | 39 => 136 | 0 => 0 | 53 => 217 | 55 => 135 | 4 => 4 | 46 => 227 | 45 => 226 | 50 => 189 | 5 => 5 | 9 => 9 | 66 => 279 | 70 => 115 | 76 => 314 | 77 => 199 | n => n,fun | n => n⟩
def Tryz.laysSlF06_f41_ren:Go.Shelf.Ren:=⟨fun | 6 => 41 | 15 => 84 | 14 => 83 | 28 => 130 | 29 => 131 | 20 => 122 | 21 => 123 | 22 => 124 | 23 => 125 | 24 => 126 | 25 => 127 | 26 => 128 | 27 => 129 | 46 => 163 | 47 => 164 | 48 => 165 | 49 => 166 | 50 => 167 | 57 => 196 | n => n,fun | 22 => 128 | 24 => 127 | 25 => 134 | 3 => 3 | 39 => 136 | 0 => 0 | 53 => 217 | 55 => 135 | 4 => 4 | 46 => 227 | 45 => 226 | 50 => 189 | 5 => 5 | 9 => 9 | 66 => 279 | 70 => 115 | 76 => 314 | 77 => 199 | n => n,fun | n => n⟩
theorem Tryz.laysSlF06_f41:Go.Proofs.SlLaysF0.n6 Tryz.prog Tryz.laysSlF06_f41_ren:={
  mixed:=by kernel_rfl
  f6:=⟨Tryz.f41.name,by decide,Tryz.func41.trans (congrArg some (by kernel_rfl))⟩
  f14:=⟨Tryz.f83.name,by decide,Tryz.func83.trans (congrArg some (by kernel_rfl))⟩
  f15:=Tryz.func84.trans (congrArg some (by kernel_rfl))
  f20:=⟨Tryz.f122.name,by decide,Tryz.func122.trans (congrArg some (by kernel_rfl))⟩
  f21:=⟨Tryz.f123.name,by decide,Tryz.func123.trans (congrArg some (by kernel_rfl))⟩
  f22:=⟨Tryz.f124.name,by decide,Tryz.func124.trans (congrArg some (by kernel_rfl))⟩
  f23:=⟨Tryz.f125.name,by decide,Tryz.func125.trans (congrArg some (by kernel_rfl))⟩
  f24:=⟨Tryz.f126.name,by decide,Tryz.func126.trans (congrArg some (by kernel_rfl))⟩
  f25:=⟨Tryz.f127.name,by decide,Tryz.func127.trans (congrArg some (by kernel_rfl))⟩
  f26:=⟨Tryz.f128.name,by decide,Tryz.func128.trans (congrArg some (by kernel_rfl))⟩
  f27:=⟨Tryz.f129.name,by decide,Tryz.func129.trans (congrArg some (by kernel_rfl))⟩
  f28:=Tryz.func130.trans (congrArg some (by kernel_rfl))
  f29:=Tryz.func131.trans (congrArg some (by kernel_rfl))
  f46:=⟨Tryz.f163.name,by decide,Tryz.func163.trans (congrArg some (by kernel_rfl))⟩
  f47:=Tryz.func164.trans (congrArg some (by kernel_rfl))
  f48:=Tryz.func165.trans (congrArg some (by kernel_rfl))
  f49:=⟨Tryz.f166.name,by decide,Tryz.func166.trans (congrArg some (by kernel_rfl))⟩
  f50:=⟨Tryz.f167.name,by decide,Tryz.func167.trans (congrArg some (by kernel_rfl))⟩
  f57:=⟨Tryz.f196.name,by decide,Tryz.func196.trans (congrArg some (by kernel_rfl))⟩
  t0:=Tryz.underlying0
  a0:=Tryz.isAgg0
  z0:=Tryz.sizeOf0
  v0:=Tryz.zeroValue0
  t3:=Tryz.underlying3
  a3:=Tryz.isAgg3
  z3:=Tryz.sizeOf3
  v3:=Tryz.zeroValue3
  t4:=Tryz.underlying4
  a4:=Tryz.isAgg4
  z4:=Tryz.sizeOf4
  v4:=Tryz.zeroValue4
  t5:=Tryz.underlying5
  a5:=Tryz.isAgg5
  z5:=Tryz.sizeOf5
  v5:=Tryz.zeroValue5
  t9:=Tryz.underlying9
  a9:=Tryz.isAgg9
  z9:=Tryz.sizeOf9
  v9:=Tryz.zeroValue9
  t22:=Tryz.underlying128
  a22:=Tryz.isAgg128
  z22:=Tryz.sizeOf128
  v22:=Tryz.zeroValue128
  t25:=Tryz.underlying134
  a25:=Tryz.isAgg134
  z25:=Tryz.sizeOf134
  v25:=Tryz.zeroValue134
  t39:=Tryz.underlying136
  a39:=Tryz.isAgg136
  z39:=Tryz.sizeOf136
  v39:=Tryz.zeroValue136
  t45:=Tryz.underlying226
  a45:=Tryz.isAgg226
  z45:=Tryz.sizeOf226
  v45:=Tryz.zeroValue226
  t46:=Tryz.underlying227
  a46:=Tryz.isAgg227
  z46:=Tryz.sizeOf227
  v46:=Tryz.zeroValue227
  t50:=Tryz.underlying189
  a50:=Tryz.isAgg189
  z50:=Tryz.sizeOf189
  v50:=Tryz.zeroValue189
  t53:=Tryz.underlying217
  a53:=Tryz.isAgg217
  z53:=Tryz.sizeOf217
  v53:=Tryz.zeroValue217
  t55:=Tryz.underlying135
  a55:=Tryz.isAgg135
  z55:=Tryz.sizeOf135
  v55:=Tryz.zeroValue135
  t66:=Tryz.underlying279
  a66:=Tryz.isAgg279
  z66:=Tryz.sizeOf279
  v66:=Tryz.zeroValue279
  t70:=Tryz.underlying115
  a70:=Tryz.isAgg115
  z70:=Tryz.sizeOf115
  v70:=Tryz.zeroValue115
  t76:=Tryz.underlying314
  a76:=Tryz.isAgg314
  z76:=Tryz.sizeOf314
  v76:=Tryz.zeroValue314
  t77:=Tryz.underlying199
  a77:=Tryz.isAgg199
  z77:=Tryz.sizeOf199
  v77:=Tryz.zeroValue199 }
end Go.Proofs
namespace Go.Proofs.YtgcnnbjbdfgglaaGreat
open Go.RowKit Go.Shelf Go.Sort
instance:Inhabited Ent:=⟨Ent.none⟩
def Ent.enc (x:Ent):List Value:=[.int .i64 x.id,.int .i64 x.a,.int .i64 x.b,.int .i64 x.sc,.int .i64 x.bc,.int .i64 x.sell,.int .i64 x.buy,.int .i64 x.st,.int .i64 x.asked,.int .i64 x.ord]
theorem Ent.enc_at (x:Ent) {c:Nat} (hc:c < 10):x.enc[c]! = x.cell c:=by
  have:c = 0∨c = 1∨c = 2∨c = 3∨c = 4∨c = 5∨c = 6∨c = 7∨c = 8∨c = 9:=by omega
  rcases this with rfl | rfl | rfl | rfl | rfl | rfl | rfl | rfl | rfl | rfl <;> rfl
def ordC (x y:Ent):Int:=Lib.compareInt x.ord y.ord
theorem ltOrd (x y:Ent):ltOf ordC x y = decide (x.ord < y.ord):=by
  unfold ltOf ordC Lib.compareInt
  by_cases h1:x.ord < y.ord
  · simp [h1]
  · by_cases h2:y.ord < x.ord <;> simp [h1,h2]
theorem swoOrd:SWO (ltOf ordC) where
  irrefl x:=by rw [ltOrd]; simp
  trans x y z h1 h2:=by rw [ltOrd] at *; simp at *; omega
  ntrans x y z h1 h2:=by rw [ltOrd] at *; simp at *; omega
set_option maxRecDepth 100000 in
set_option maxHeartbeats 1000000 in
theorem Bk.allC (x y:Ent) (W:World):Calls Tryz.prog 42 #[.agg x.enc.toArray,.agg y.enc.toArray] W fun e w' => e = .returned (.int .i64 (ordC x y))∧∃ q os',w' = grow (W.drewN q) os':=by
  have hcon:=fun W' => Tryz.cmp_Compare_int x.ord y.ord W'
  unfold ordC Ent.enc
  generalize Lib.compareInt x.ord y.ord = r at hcon ⊢
  have HC:=Lib.hid hcon
  clear hcon
  go_enter Tryz.func42,Tryz.ntmps42
  go_wp2_with fail
  refine (HC.out _).mono ?_
  rintro e w' ⟨rfl,rfl⟩
  go_wp2
  go_ret
  exact ⟨rfl,0,_,by rw [alloc_eq_grow,alloc_eq_grow,grow_grow]; rfl⟩
theorem sort_below {B:Nat} {w:World} {g n:Nat} {d:Array Ent} {os:Array Obj} (hB:B≤g) (hg:g < w.heap.size):Below B w (sortWorldK Ent.enc 10 w g 0 n d os):=by
  refine ⟨rfl,rfl,rfl,?_,fun k hk => ?_⟩
  · exact size_sortWorldK_c ..
  · show ((w.heap.modify g _) ++ os)[k]? = _
    rw [Array.getElem?_append_left (by simp; omega),Array.getElem?_modify,if_neg (by omega)]
def EntsAt (w:World) (v:Value) (es:List Ent):Prop:=SlK w v 10 es.length (fun i j => (es.getD i Ent.none).cell j)
def entsC (es:List Ent):List Value:=flatK 10 es.length fun i => (es.getD i Ent.none).cell
theorem entsC_snoc (es:List Ent) (x:Ent):entsC (es ++ [x]) = entsC es ++ x.enc:=by
  unfold entsC
  rw [List.length_append,List.length_singleton,flatK_snoc (by omega)]
  congr 1
  · exact flatK_congr fun i j hi _ => by simp [List.getD,List.getElem?_append_left hi]
  · simp [List.getD]
    rfl
theorem ents_of_own {w:World} {B:Nat} {v:Value} {es:List Ent} (h:w.ownsRow B 127 10 v es.length (entsC es)):EntsAt w v es:=by
  rcases Nat.eq_zero_or_pos es.length with h0 | h0
  · rcases h.2 with ⟨rfl,_⟩ | ⟨g,cap,cur,rfl,_⟩
    · exact ⟨none,0,by rw [h0],fun hn => by omega⟩
    · exact ⟨_,_,rfl,fun hn => by omega⟩
  · obtain ⟨g,cap,rfl,_⟩:=h.form h0
    exact SlK.of_row (RowK.of_own h).1
theorem permIn_mem {d d':Array Ent} (h:PermIn 0 d.size d d'):∀ x ∈ d'.toList,x ∈ d.toList:=fun x hx => by
  have h1:=h.2.2
  have e1:(d.extract 0 d.size).toList = d.toList:=by simp
  have e2:(d'.extract 0 d.size).toList = d'.toList:=by rw [← h.1]; simp
  rw [e1,e2] at h1
  exact h1.mem_iff.1 hx
def SortPost (v:Value) (es:List Ent) (B:Nat) (w:World) (e:Ending) (w':World):Prop:=∃ es',e = .returned (.tuple #[])∧EntsAt w' v es'∧es'.length = es.length∧(∀ x ∈ es',x ∈ es)∧Below B w w'
theorem Bk.sortE {w:World} {B:Nat} {v:Value} {es:List Ent} (h:w.ownsRow B 127 10 v es.length (entsC es)) (hB:B≤w.heap.size) (hn:es.length≤200):Calls Tryz.prog 41 #[v,.func (.func 42) #[] #[]] w (SortPost v es B w):=by
  rcases Nat.eq_zero_or_pos es.length with h0 | h0
  · have hE:=ents_of_own h
    obtain ⟨a,c,rfl,_⟩:=id hE
    have hc:=AnyF.slices_SortFunc_none Tryz.laysSlF06_f41 a c (.func (.func 42) #[] #[]) w
    rw [h0]
    refine hc.mono ?_
    rintro e w' ⟨rfl,rfl⟩
    have:=hE
    rw [h0] at this
    exact ⟨es,rfl,this,rfl,fun _ hx => hx,Below.refl _ _⟩
  · obtain ⟨g,cap,rfl,hg1,hg2⟩:=h.form h0
    have hR:=(RowK.of_own (show w.ownsRow B 127 10 (.slice (some ⟨g,0,none⟩) es.length cap) es.length (flatK 10 es.length fun i => (es.getD i Ent.none).cell) from h)).1
    have hH:HoldsK Ent.enc 10 w g 0 es.toArray:=by
      intro j hj
      have hj':j < es.length * 10:=by rw [Sort.size_flatK] at hj; simpa using hj
      have h1:j / 10 < es.length:=by omega
      have h2:j % 10 < 10:=by omega
      have h3:=hR.cell h1 h2
      have h4:=hR.frozen j
      have e:j / 10 * 10 + j % 10 = j:=by omega
      rw [e] at h3
      refine ⟨?_,by rw [Nat.zero_add]; exact h4⟩
      rw [Nat.zero_add,h3,Sort.get_flatK _ _ _ _ (by simpa using hj')]
      show some ((es.getD (j / 10) Ent.none).cell (j % 10)) = some _
      congr 1
      have e5:j - j / 10 * 10 = j % 10:=by omega
      show _ = (Ent.enc _)[j % 10]!
      rw [Ent.enc_at _ h2]
      congr 1
      simp [List.getD,h1]
    have hc:=AnyQ.slices_SortFunc Tryz.laysSlF06_f41 10 Tryz.isAgg127 Tryz.sizeOf127 Ent.enc (fun _ => rfl) (fun x v hv => by simp [Ent.enc] at hv; rcases hv with rfl | rfl | rfl | rfl | rfl | rfl | rfl | rfl | rfl | rfl <;> rfl) ordC swoOrd 42 #[] g 0 cap es.toArray w (enters_of Tryz.func42 (by kernel_rfl) rfl) (fun _ _ _ _ x y => Bk.allC x y _) hH hg2 (by simp; omega)
    refine hc.mono ?_
    rintro e w' ⟨rfl,d',n,os,hp,_,rfl⟩
    have hs:d'.size = es.length:=by have:=hp.1; simpa using this
    refine ⟨d'.toList,rfl,?_,by simpa using hs,fun x hx => by have:=permIn_mem hp x hx; simpa using this,sort_below hg1 hg2⟩
    have hh:=holdsK_sortWorldK Ent.enc 10 w g 0 n es.toArray d' os hg2 hH (by simpa using hs)
    refine ⟨_,cap,by simp [hs],fun _ => ⟨g,0,rfl,fun i j hi hj => ?_⟩⟩
    have hi':i < d'.size:=by simpa using hi
    have h1:=(hh.cell hi' hj).1
    rw [Ent.enc_at _ hj] at h1
    rw [← Nat.add_assoc,h1]
    congr 2
    simp [List.getD,hi']
end Go.Proofs.YtgcnnbjbdfgglaaGreat
namespace Go.Proofs.YtgcnnbjbdfgglaaGreat
open Go.RowKit Go.Shelf Go.Sort
theorem own_base {w:World} {B B' e K n:Nat} {v:Value} {xs:List Value} (h:w.ownsRow B e K v n xs) (hb:B'≤B):w.ownsRow B' e K v n xs:=by
  refine ⟨h.1,?_⟩
  rcases h.2 with hn | ⟨g,cap,cur,rfl,hg,rest⟩
  · exact .inl hn
  · exact .inr ⟨g,cap,cur,rfl,Nat.le_trans hb hg,rest⟩
def AllPost (B:Bo) (st:Int) (w:World) (e:Ending) (w':World):Prop:=∃ v zs,e = .returned v∧IdsAt w' v zs∧zs.length≤B.n∧(∀ z ∈ zs,∃ i,i < B.n∧(B.e i).id = z∧(B.e i).st = st)∧Below w.heap.size w w'∧w'.ownsRow w.heap.size 3 1 v zs.length (ints zs)
set_option maxRecDepth 100000 in
set_option maxHeartbeats 8000000 in
theorem Bk.all {w:World} {h:Bh} {B:Bo} (a:BoAt w h B) (st:Int):Calls Tryz.prog 16 #[.pointer (some ⟨h.b,0,none⟩),.int .i64 st] w (AllPost B st w):=by
  obtain ⟨i0,hi,hz0,hz1,hz2⟩:=info_parts Bk.infoEnt
  obtain ⟨j0,ji,jz0,jz1,jz2⟩:=info_parts Bk.infoInt
  have HIS:=Lib.hid (And.intro hi (And.intro hz0 (And.intro hz1 hz2)))
  have HJS:=Lib.hid (And.intro ji (And.intro jz0 (And.intro jz1 jz2)))
  have n200:=a.ok.n200
  have HA:=Lib.hid a
  have c2:=(a.blk.cell 2).trans rfl
  have hsl:∃ g c,h.lv = .slice g B.n c:=by
    rcases a.own.2 with ⟨he,h0⟩ | ⟨g,cap,cur,he,_⟩
    · exact ⟨none,0,by rw [he,h0]⟩
    · exact ⟨_,_,he⟩
  obtain ⟨sg,sc,hlv⟩:=hsl
  rw [hlv] at c2
  have HLV:=Lib.hid hlv
  have q200:(B.n:Int)≤200:=by omega
  clear a hlv hi hz0 hz1 hz2 ji jz0 jz1 jz2
  go_enter Tryz.func16,Tryz.ntmps16
  go_wp2
  go_loopw [5,16] (fun v i wr => ∃ (k:Nat) (es:List Ent) (u:Value),k≤B.n∧i = .int .i64 k∧u = v∧wr.ownsRow w.heap.size 127 10 v es.length (entsC es)∧es.length≤k∧(∀ x ∈ es,∃ i,i < B.n∧B.e i = x∧x.st = st)∧Below w.heap.size w wr) (fun _ i _ => B.n - (intOf i).toNat)
  case atStart => exact ⟨0,[],_,by omega,rfl,rfl,World.ownsRow_nil _ _ _ _,by simp,by simp,Below.refl _ _⟩
  case round =>
    obtain ⟨k,es,v,hk,rfl,rfl,hown,hel,hes,hb⟩:=hrel
    have HB:=Lib.hid hb
    have HE:=Lib.hid (And.intro hel hes)
    by_cases hlt:k < B.n
    · have q1:(k:Int) < (B.n:Int):=by omega
      have hk':k < B.n:=hlt
      have hB:=HA.out.below hb
      obtain ⟨g,cap,he,hr',hty,hob⟩:=hB.slice hlt
      have hsc:sg = some ⟨g,0,none⟩∧sc = cap:=by
        have h1:=HLV.out
        rw [he] at h1
        simp only [Value.slice.injEq] at h1
        exact ⟨h1.1.symm,h1.2.2.symm⟩
      obtain ⟨rfl,rfl⟩:=hsc
      have k0:wr.cell? ⟨g,k * 10,none⟩ = some (.int .i64 (B.e k).id):=by have:=hr'.cell hk' (show 0 < 10 by omega); rw [Nat.add_zero] at this; exact this
      have k1:wr.cell? ⟨g,k * 10 + 1,none⟩ = some (.int .i64 (B.e k).a):=hr'.cell hk' (show 1 < 10 by omega)
      have k2:wr.cell? ⟨g,k * 10 + 2,none⟩ = some (.int .i64 (B.e k).b):=hr'.cell hk' (show 2 < 10 by omega)
      have k3:wr.cell? ⟨g,k * 10 + 3,none⟩ = some (.int .i64 (B.e k).sc):=hr'.cell hk' (show 3 < 10 by omega)
      have k4:wr.cell? ⟨g,k * 10 + 4,none⟩ = some (.int .i64 (B.e k).bc):=hr'.cell hk' (show 4 < 10 by omega)
      have k5:wr.cell? ⟨g,k * 10 + 5,none⟩ = some (.int .i64 (B.e k).sell):=hr'.cell hk' (show 5 < 10 by omega)
      have k6:wr.cell? ⟨g,k * 10 + 6,none⟩ = some (.int .i64 (B.e k).buy):=hr'.cell hk' (show 6 < 10 by omega)
      have k7:wr.cell? ⟨g,k * 10 + 7,none⟩ = some (.int .i64 (B.e k).st):=hr'.cell hk' (show 7 < 10 by omega)
      have k8:wr.cell? ⟨g,k * 10 + 8,none⟩ = some (.int .i64 (B.e k).asked):=hr'.cell hk' (show 8 < 10 by omega)
      have k9:wr.cell? ⟨g,k * 10 + 9,none⟩ = some (.int .i64 (B.e k).ord):=hr'.cell hk' (show 9 < 10 by omega)
      have HOW:=Lib.hid hown
      have HX:=Lib.hid (show ∃ i,i < B.n∧B.e i = B.e k from ⟨k,hlt,rfl⟩)
      have hbs:=hb.size
      clear he hr' hty hob hB hes hb hown
      generalize hx:B.e k = x at *
      clear hx
      have hA1:=(Below.refl wr.heap.size wr).alloc (Nat.le_refl _) (.cells #[.int .i64 x.id,.int .i64 x.a,.int .i64 x.b,.int .i64 x.sc,.int .i64 x.bc,.int .i64 x.sell,.int .i64 x.buy,.int .i64 x.st,.int .i64 x.asked,.int .i64 x.ord] 127)
      have HO1:=Lib.hid (HOW.out.alloc (.cells #[.int .i64 x.id,.int .i64 x.a,.int .i64 x.b,.int .i64 x.sc,.int .i64 x.bc,.int .i64 x.sell,.int .i64 x.buy,.int .i64 x.st,.int .i64 x.asked,.int .i64 x.ord] 127))
      have HB1:=Lib.hid (HB.out.trans (hA1.mono HB.out.size))
      have HNW:=Lib.hid (Blk.new (wr.alloc (.cells #[.int .i64 x.id,.int .i64 x.a,.int .i64 x.b,.int .i64 x.sc,.int .i64 x.bc,.int .i64 x.sell,.int .i64 x.buy,.int .i64 x.st,.int .i64 x.asked,.int .i64 x.ord] 127)) 127 #[.int .i64 x.id,.int .i64 x.a,.int .i64 x.b,.int .i64 x.sc,.int .i64 x.bc,.int .i64 x.sell,.int .i64 x.buy,.int .i64 x.st,.int .i64 x.asked,.int .i64 x.ord])
      have hss:(wr.alloc (.cells #[.int .i64 x.id,.int .i64 x.a,.int .i64 x.b,.int .i64 x.sc,.int .i64 x.bc,.int .i64 x.sell,.int .i64 x.buy,.int .i64 x.st,.int .i64 x.asked,.int .i64 x.ord] 127)).heap.size = wr.heap.size + 1:=by simp
      have HSS:=Lib.hid hss
      rw [hss] at HNW
      clear hA1 hss
      by_cases hst:x.st = st
      · have hsb:(x.st == st) = true:=by simp [hst]
        have HST:=Lib.hid hst
        clear hst
        have hown2:=HO1.out
        go_wp2_with (at_builtin; with_reducible refine wpList_append_lies _ rfl (.tmp 24) (.tmp 26) 128 rfl w.heap.size 127 i0 (.agg #[.int .i64 0,.int .i64 0,.int .i64 0,.int .i64 0,.int .i64 0,.int .i64 0,.int .i64 0,.int .i64 0,.int .i64 0,.int .i64 0]) 10 80 Tryz.underlying128 HIS.out.1 HIS.out.2.1 HIS.out.2.2.1 HIS.out.2.2.2 rfl (by decide) _ _ _ rfl (hown2.alloc _) ⟨wr.heap.size + 1,0,none⟩ 1 1 [.int .i64 x.id,.int .i64 x.a,.int .i64 x.b,.int .i64 x.sc,.int .i64 x.bc,.int .i64 x.sell,.int .i64 x.buy,.int .i64 x.st,.int .i64 x.asked,.int .i64 x.ord] rfl rfl ?k1 ?k2 (by decide) ?k3 ?k4 ?k5 _ rfl ?_)
        case k1 => intro jj u hu; rw [WideShapes.add_plain]; exact HNW.out.range jj u hu
        case k2 => intro u hu; simp at hu; rcases hu with rfl | rfl | rfl | rfl | rfl | rfl | rfl | rfl | rfl | rfl <;> rfl
        case k3 => unfold maxLen; omega
        case k4 => omega
        case k5 => simp; omega
        intro g1 cap1 w2 hown3 hgrow hat hlt2
        have hb3:=(HB1.out.alloc (by simp; omega) (.cells #[.int .i64 x.id,.int .i64 x.a,.int .i64 x.b,.int .i64 x.sc,.int .i64 x.bc,.int .i64 x.sell,.int .i64 x.buy,.int .i64 x.st,.int .i64 x.asked,.int .i64 x.ord] 127)).grown hgrow (by simp; omega) (fun k hk => own_ge hown2 hk)
        have hrow:w2.ownsRow w.heap.size 127 10 (.slice (some ⟨g1,0,none⟩) (es.length + 1) cap1) (es ++ [x]).length (entsC (es ++ [x])):=by
          rw [entsC_snoc,List.length_append,List.length_singleton]
          exact hown3
        have HR:=Lib.hid hrow
        have HB3:=Lib.hid hb3
        clear hgrow hown3 hown2 hb3 hrow hat hlt2 k0 k1 k2 k3 k4 k5 k6 k7 k8 k9
        go_wp2
        go_roundw
        case rel => exact ⟨k + 1,es ++ [x],_,by omega,by go_num,rfl,by have:=HR.out; rw [List.length_append,List.length_singleton] at this ⊢; exact this,by simp; omega,(fun y hy => by
          rcases List.mem_append.1 hy with h | h
          · exact HE.out.2 y h
          · simp at h; subst h; obtain ⟨i,h1,h2⟩:=HX.out; exact ⟨i,h1,h2,HST.out⟩),HB3.out⟩
        case measure => simp [intOf]; omega
      · have hsb:(x.st == st) = false:=by simp [hst]
        clear hst
        go_wp2
        go_roundw
        case rel => exact ⟨k + 1,es,_,by omega,by go_num,rfl,HO1.out,by omega,HE.out.2,HB1.out⟩
        case measure => simp [intOf]; omega
    · obtain rfl:k = B.n:=by omega
      have HOW:=Lib.hid hown
      clear hown hes hb
      have hvf:∃ va vc,v = .slice va es.length vc:=by
        obtain ⟨x,y,e,_⟩:=ents_of_own HOW.out
        exact ⟨x,y,e⟩
      obtain ⟨va,vc,rfl⟩:=hvf
      by_cases hst:st = 2
      · subst hst
        have HS:=Lib.hid (Bk.sortE HOW.out HB.out.size (by have:=HE.out.1; omega))
        go_wp2_with fail
        refine HS.out.mono ?_
        rintro e w9 ⟨es9,rfl,hen,hln,hme,hb9⟩
        have HEN:=Lib.hid hen
        have HLN:=Lib.hid hln
        have HME:=Lib.hid hme
        have HB9:=Lib.hid (HB.out.trans hb9)
        clear hen hln hme hb9 HS
        go_wp2
        go_loopw [8,35] (fun l i wr => ∃ (k:Nat) (zs:List Int),k≤es.length∧i = .int .i64 k∧wr.ownsRow w9.heap.size 3 1 l zs.length (ints zs)∧zs.length≤k∧(∀ z ∈ zs,∃ i,i < B.n∧(B.e i).id = z∧(B.e i).st = 2)∧Below w9.heap.size w9 wr) (fun _ i _ => es.length - (intOf i).toNat)
        case atStart => exact ⟨0,[],by omega,rfl,World.ownsRow_nil _ _ _ _,by simp,by simp,Below.refl _ _⟩
        case round =>
          obtain ⟨k,zs,hk,rfl,hown,hzl,hzs,hb⟩:=hrel
          have HZ:=Lib.hid (And.intro hzl hzs)
          have HBk:=Lib.hid hb
          by_cases hlt:k < es.length
          · have q3:(k:Int) < (es.length:Int):=by omega
            have hel:=HE.out.1
            obtain ⟨a9,c9,he9,hc⟩:=HEN.out
            have hlt9:k < es9.length:=by rw [HLN.out]; exact hlt
            obtain ⟨b,o,ha9,hc⟩:=hc (by omega)
            have hva:va = some ⟨b,o,none⟩:=by rw [← ha9]; injection he9
            subst hva
            have hcell:∀ j,j < 10→wr.cell? ⟨b,o + (k * 10 + j),none⟩ = some ((es9.getD k Ent.none).cell j):=fun j hj => (hb.cell (block_lt_of_cell (hc k j hlt9 hj))).trans (hc k j hlt9 hj)
            have HX:=Lib.hid (HE.out.2 (es9.getD k Ent.none) (HME.out _ (by simp [List.getD,List.getElem?_eq_getElem hlt9])))
            generalize es9.getD k Ent.none = x at *
            have k0:wr.cell? ⟨b,o + k * 10,none⟩ = some (.int .i64 x.id):=by have:=hcell 0 (by omega); rw [← Nat.add_assoc] at this; exact this
            have k1:wr.cell? ⟨b,o + k * 10 + 1,none⟩ = some (.int .i64 x.a):=by have:=hcell 1 (by omega); rw [← Nat.add_assoc] at this; exact this
            have k2:wr.cell? ⟨b,o + k * 10 + 2,none⟩ = some (.int .i64 x.b):=by have:=hcell 2 (by omega); rw [← Nat.add_assoc] at this; exact this
            have k3:wr.cell? ⟨b,o + k * 10 + 3,none⟩ = some (.int .i64 x.sc):=by have:=hcell 3 (by omega); rw [← Nat.add_assoc] at this; exact this
            have k4:wr.cell? ⟨b,o + k * 10 + 4,none⟩ = some (.int .i64 x.bc):=by have:=hcell 4 (by omega); rw [← Nat.add_assoc] at this; exact this
            have k5:wr.cell? ⟨b,o + k * 10 + 5,none⟩ = some (.int .i64 x.sell):=by have:=hcell 5 (by omega); rw [← Nat.add_assoc] at this; exact this
            have k6:wr.cell? ⟨b,o + k * 10 + 6,none⟩ = some (.int .i64 x.buy):=by have:=hcell 6 (by omega); rw [← Nat.add_assoc] at this; exact this
            have k7:wr.cell? ⟨b,o + k * 10 + 7,none⟩ = some (.int .i64 x.st):=by have:=hcell 7 (by omega); rw [← Nat.add_assoc] at this; exact this
            have k8:wr.cell? ⟨b,o + k * 10 + 8,none⟩ = some (.int .i64 x.asked):=by have:=hcell 8 (by omega); rw [← Nat.add_assoc] at this; exact this
            have k9:wr.cell? ⟨b,o + k * 10 + 9,none⟩ = some (.int .i64 x.ord):=by have:=hcell 9 (by omega); rw [← Nat.add_assoc] at this; exact this
            have HOW2:=Lib.hid (hown.alloc (.cells #[.int .i64 x.id,.int .i64 x.a,.int .i64 x.b,.int .i64 x.sc,.int .i64 x.bc,.int .i64 x.sell,.int .i64 x.buy,.int .i64 x.st,.int .i64 x.asked,.int .i64 x.ord] 127))
            have HB2:=Lib.hid (hb.alloc hb.size (.cells #[.int .i64 x.id,.int .i64 x.a,.int .i64 x.b,.int .i64 x.sc,.int .i64 x.bc,.int .i64 x.sell,.int .i64 x.buy,.int .i64 x.st,.int .i64 x.asked,.int .i64 x.ord] 127))
            have hsz:=hb.size
            have hsz2:=HB9.out.size
            have hown2:=HOW2.out
            clear hcell hown hzs hb he9 ha9 hc
            go_wp2_with (at_builtin; with_reducible refine wpList_append_own _ rfl (.tmp 39) (.tmp 43) 25 rfl w9.heap.size 3 j0 (.int .i64 0) 1 8 Tryz.underlying25 HJS.out.1 HJS.out.2.1 HJS.out.2.2.1 HJS.out.2.2.2 rfl (by decide) _ _ _ rfl (hown2.alloc _) ⟨wr.heap.size + 1,0,none⟩ 1 1 [.int .i64 x.id] rfl rfl ?m1 ?m2 ?m3 ?m4 ?m5 ?_)
            all_goals try (first | rfl | (unfold maxLen; omega) | omega)
            intro v' w1 hown' hgrow _
            have hb3:=(HB2.out.alloc (by simp; omega) (.cells #[.int .i64 x.id] 3))
            have hrow:w1.ownsRow w9.heap.size 3 1 v' (zs ++ [x.id]).length (ints (zs ++ [x.id])):=by simpa [ints] using hown'
            have HB3:=Lib.hid (hb3.grown hgrow (by simp; omega) (fun k hk => own_ge hown2 hk))
            have HR:=Lib.hid hrow
            have hzl2:=HZ.out.1
            clear hgrow hown' hown2 hb3 hrow k0 k1 k2 k3 k4 k5 k6 k7 k8 k9
            go_wp2
            go_roundw
            case rel => exact ⟨k + 1,zs ++ [x.id],by omega,by go_num,HR.out,by simp; omega,(fun z hz => by
              rcases List.mem_append.1 hz with h | h
              · exact HZ.out.2 z h
              · simp at h; subst h; obtain ⟨i,h1,h2,h3⟩:=HX.out; exact ⟨i,h1,by rw [h2],by rw [h2]; exact h3⟩),HB3.out⟩
            case measure => simp [intOf]; omega
          · obtain rfl:k = es.length:=by omega
            have HO:=Lib.hid hown
            clear hown hzs hb
            go_wp2
            go_ret
            have hbw:=HB9.out.trans (HBk.out.mono HB9.out.size)
            have hbs:=HB9.out.size
            exact ⟨_,zs,rfl,ids_of_own HO.out,by have:=HZ.out.1; have:=HE.out.1; omega,HZ.out.2,hbw,own_base HO.out hbs⟩
      · have hsb:(st == 2) = false:=by simp [hst]
        clear hst
        have HEN:=Lib.hid (ents_of_own HOW.out)
        have HLN:=Lib.hid (rfl:es.length = es.length)
        have HME:=Lib.hid (fun (x:Ent) (hx:x ∈ es) => hx)
        have HB9:=Lib.hid HB.out
        generalize wr = w9 at *
        go_wp2
        go_loopw [8,35] (fun l i wr => ∃ (k:Nat) (zs:List Int),k≤es.length∧i = .int .i64 k∧wr.ownsRow w9.heap.size 3 1 l zs.length (ints zs)∧zs.length≤k∧(∀ z ∈ zs,∃ i,i < B.n∧(B.e i).id = z∧(B.e i).st = st)∧Below w9.heap.size w9 wr) (fun _ i _ => es.length - (intOf i).toNat)
        case atStart => exact ⟨0,[],by omega,rfl,World.ownsRow_nil _ _ _ _,by simp,by simp,Below.refl _ _⟩
        case round =>
          obtain ⟨k,zs,hk,rfl,hown,hzl,hzs,hb⟩:=hrel
          have HZ:=Lib.hid (And.intro hzl hzs)
          have HBk:=Lib.hid hb
          by_cases hlt:k < es.length
          · have q3:(k:Int) < (es.length:Int):=by omega
            have hel:=HE.out.1
            obtain ⟨a9,c9,he9,hc⟩:=HEN.out
            have hlt9:k < es.length:=hlt
            obtain ⟨b,o,ha9,hc⟩:=hc (by omega)
            have hva:va = some ⟨b,o,none⟩:=by rw [← ha9]; injection he9
            subst hva
            have hcell:∀ j,j < 10→wr.cell? ⟨b,o + (k * 10 + j),none⟩ = some ((es.getD k Ent.none).cell j):=fun j hj => (hb.cell (block_lt_of_cell (hc k j hlt9 hj))).trans (hc k j hlt9 hj)
            have HX:=Lib.hid (HE.out.2 (es.getD k Ent.none) (HME.out _ (by simp [List.getD,List.getElem?_eq_getElem hlt9])))
            generalize es.getD k Ent.none = x at *
            have k0:wr.cell? ⟨b,o + k * 10,none⟩ = some (.int .i64 x.id):=by have:=hcell 0 (by omega); rw [← Nat.add_assoc] at this; exact this
            have k1:wr.cell? ⟨b,o + k * 10 + 1,none⟩ = some (.int .i64 x.a):=by have:=hcell 1 (by omega); rw [← Nat.add_assoc] at this; exact this
            have k2:wr.cell? ⟨b,o + k * 10 + 2,none⟩ = some (.int .i64 x.b):=by have:=hcell 2 (by omega); rw [← Nat.add_assoc] at this; exact this
            have k3:wr.cell? ⟨b,o + k * 10 + 3,none⟩ = some (.int .i64 x.sc):=by have:=hcell 3 (by omega); rw [← Nat.add_assoc] at this; exact this
            have k4:wr.cell? ⟨b,o + k * 10 + 4,none⟩ = some (.int .i64 x.bc):=by have:=hcell 4 (by omega); rw [← Nat.add_assoc] at this; exact this
            have k5:wr.cell? ⟨b,o + k * 10 + 5,none⟩ = some (.int .i64 x.sell):=by have:=hcell 5 (by omega); rw [← Nat.add_assoc] at this; exact this
            have k6:wr.cell? ⟨b,o + k * 10 + 6,none⟩ = some (.int .i64 x.buy):=by have:=hcell 6 (by omega); rw [← Nat.add_assoc] at this; exact this
            have k7:wr.cell? ⟨b,o + k * 10 + 7,none⟩ = some (.int .i64 x.st):=by have:=hcell 7 (by omega); rw [← Nat.add_assoc] at this; exact this
            have k8:wr.cell? ⟨b,o + k * 10 + 8,none⟩ = some (.int .i64 x.asked):=by have:=hcell 8 (by omega); rw [← Nat.add_assoc] at this; exact this
            have k9:wr.cell? ⟨b,o + k * 10 + 9,none⟩ = some (.int .i64 x.ord):=by have:=hcell 9 (by omega); rw [← Nat.add_assoc] at this; exact this
            have HOW2:=Lib.hid (hown.alloc (.cells #[.int .i64 x.id,.int .i64 x.a,.int .i64 x.b,.int .i64 x.sc,.int .i64 x.bc,.int .i64 x.sell,.int .i64 x.buy,.int .i64 x.st,.int .i64 x.asked,.int .i64 x.ord] 127))
            have HB2:=Lib.hid (hb.alloc hb.size (.cells #[.int .i64 x.id,.int .i64 x.a,.int .i64 x.b,.int .i64 x.sc,.int .i64 x.bc,.int .i64 x.sell,.int .i64 x.buy,.int .i64 x.st,.int .i64 x.asked,.int .i64 x.ord] 127))
            have hsz:=hb.size
            have hsz2:=HB9.out.size
            have hown2:=HOW2.out
            clear hcell hown hzs hb he9 ha9 hc
            go_wp2_with (at_builtin; with_reducible refine wpList_append_own _ rfl (.tmp 39) (.tmp 43) 25 rfl w9.heap.size 3 j0 (.int .i64 0) 1 8 Tryz.underlying25 HJS.out.1 HJS.out.2.1 HJS.out.2.2.1 HJS.out.2.2.2 rfl (by decide) _ _ _ rfl (hown2.alloc _) ⟨wr.heap.size + 1,0,none⟩ 1 1 [.int .i64 x.id] rfl rfl ?n1 ?n2 ?n3 ?n4 ?n5 ?_)
            all_goals try (first | rfl | (unfold maxLen; omega) | omega)
            intro v' w1 hown' hgrow _
            have hb3:=(HB2.out.alloc (by simp; omega) (.cells #[.int .i64 x.id] 3))
            have hrow:w1.ownsRow w9.heap.size 3 1 v' (zs ++ [x.id]).length (ints (zs ++ [x.id])):=by simpa [ints] using hown'
            have HB3:=Lib.hid (hb3.grown hgrow (by simp; omega) (fun k hk => own_ge hown2 hk))
            have HR:=Lib.hid hrow
            have hzl2:=HZ.out.1
            clear hgrow hown' hown2 hb3 hrow k0 k1 k2 k3 k4 k5 k6 k7 k8 k9
            go_wp2
            go_roundw
            case rel => exact ⟨k + 1,zs ++ [x.id],by omega,by go_num,HR.out,by simp; omega,(fun z hz => by
              rcases List.mem_append.1 hz with h | h
              · exact HZ.out.2 z h
              · simp at h; subst h; obtain ⟨i,h1,h2,h3⟩:=HX.out; exact ⟨i,h1,by rw [h2],by rw [h2]; exact h3⟩),HB3.out⟩
            case measure => simp [intOf]; omega
          · obtain rfl:k = es.length:=by omega
            have HO:=Lib.hid hown
            clear hown hzs hb
            go_wp2
            go_ret
            have hbw:=HB9.out.trans (HBk.out.mono HB9.out.size)
            have hbs:=HB9.out.size
            exact ⟨_,zs,rfl,ids_of_own HO.out,by have:=HZ.out.1; have:=HE.out.1; omega,HZ.out.2,hbw,own_base HO.out hbs⟩
end Go.Proofs.YtgcnnbjbdfgglaaGreat
namespace Go.Proofs.YtgcnnbjbdfgglaaGreat
open Go.RowKit
theorem Bk.contains {w:World} {v:Value} {zs:List Int} (h:IdsAt w v zs) (hn:(zs.length:Int)≤100000) (x:Int):Calls Tryz.prog 179 #[v,.int .i64 x] w fun e w' => e = .returned (.bool (zs.contains x))∧w' = w:=by
  obtain ⟨a,c,rfl,hc⟩:=h
  by_cases h0:0 < zs.length
  · obtain ⟨b,o,rfl,h2⟩:=hc h0
    have:=Tryz.slices_Contains_int b o zs.length c zs x w (Nat.le_refl _) (by omega) h2
    rw [List.take_length] at this
    exact this
  · obtain rfl:zs = []:=List.eq_nil_of_length_eq_zero (by omega)
    exact Tryz.slices_Contains_int_empty a c x w
def MvdPost (ps:List Pst) (w:World) (e:Ending) (w':World):Prop:=∃ v zs,e = .returned v∧w'.ownsRow w.heap.size 3 1 v zs.length (ints zs)∧zs.length≤ps.length∧(∀ p ∈ ps,p.m ∈ zs)∧(∀ z ∈ zs,∃ p ∈ ps,z = p.m)∧Below w.heap.size w w'
set_option maxRecDepth 100000 in
set_option maxHeartbeats 2000000 in
theorem Bk.mvd {w:World} {v:Value} {ps:List Pst} (hp:SlP w v ps) (hn:(ps.length:Int)≤4000):Calls Tryz.prog 261 #[v] w (MvdPost ps w):=by
  obtain ⟨i0,hi,hz0,hz1,hz2⟩:=info_parts Bk.infoInt
  obtain ⟨a,c,rfl,hc⟩:=hp
  have HC:=Lib.hid hc
  clear hc
  go_enter Tryz.func261,Tryz.ntmps261
  go_wp2
  go_loopw [3,8] (fun l i wr => ∃ (k:Nat) (zs:List Int),k≤ps.length∧i = .int .i64 k∧wr.ownsRow w.heap.size 3 1 l zs.length (ints zs)∧zs.length≤k∧(∀ p ∈ ps.take k,p.m ∈ zs)∧(∀ z ∈ zs,∃ p ∈ ps,z = p.m)∧Below w.heap.size w wr) (fun _ i _ => ps.length - (intOf i).toNat)
  case atStart => exact ⟨0,[],by omega,rfl,World.ownsRow_nil _ _ _ _,by simp,by simp,by simp,Below.refl _ _⟩
  case round =>
    obtain ⟨k,zs,hk,rfl,hown,hzl,hin,hz,hb⟩:=hrel
    have HZ:=Lib.hid (And.intro hzl (And.intro hin hz))
    have HB:=Lib.hid hb
    by_cases hlt:k < ps.length
    · have q2:(k:Int) < (ps.length:Int):=by omega
      obtain ⟨b,o,rfl,hc⟩:=HC.out (by omega)
      obtain ⟨h3,h4,h5⟩:=hc k ps[k] (by simp [hlt])
      have HTK:=Lib.hid (show ps.take (k + 1) = ps.take k ++ [ps[k]] from List.take_succ_eq_append_getElem hlt)
      have HPM:=Lib.hid (show ps[k] ∈ ps from List.getElem_mem hlt)
      generalize ps[k] = p at *
      have g3:=(hb.cell (block_lt_of_cell h3)).trans h3
      have g4:=(hb.cell (block_lt_of_cell h4)).trans h4
      have g5:=(hb.cell (block_lt_of_cell h5)).trans h5
      have HOWN:=Lib.hid (hown.alloc (.cells #[.int .i64 p.m,.int .i64 p.c,.int .i64 p.a] 69))
      have HB2:=Lib.hid (hb.alloc hb.size (.cells #[.int .i64 p.m,.int .i64 p.c,.int .i64 p.a] 69))
      have HK:=Lib.hid (Bk.contains (ids_of_own HOWN.out) (by omega) p.m)
      have hsz:=hb.size
      clear hc h3 h4 h5 hown hz hin hb hzl
      cases hcn:zs.contains p.m with
      | true =>
        have HCN:=Lib.hid hcn
        rw [hcn] at HK
        clear hcn
        go_wp2_with fail
        refine HK.out.mono ?_
        rintro e w1 ⟨rfl,rfl⟩
        go_wp2
        go_roundw
        case rel => exact ⟨k + 1,zs,by omega,by go_num,HOWN.out,by have:=HZ.out.1; omega,(by
          rw [HTK.out]
          intro q hq
          rcases List.mem_append.1 hq with h | h
          · exact HZ.out.2.1 q h
          · simp at h; subst h; simpa using HCN.out),HZ.out.2.2,HB2.out⟩
        case measure => simp [intOf]; omega
      | false =>
        have HCN:=Lib.hid hcn
        rw [hcn] at HK
        clear hcn
        have hzl:=HZ.out.1
        have hown2:=HOWN.out
        have hx:∀ (w0:World),((w0.alloc (.cells #[.int .i64 p.m,.int .i64 p.c,.int .i64 p.a] 69)).alloc (.cells #[.int .i64 p.m] 3)).heap.size = w0.heap.size + 2:=fun w0 => by simp
        have HX:=Lib.hid hx
        clear hx
        go_wp2_with fail
        refine HK.out.mono ?_
        rintro e w1 ⟨rfl,rfl⟩
        go_wp2_with (at_builtin; with_reducible refine wpList_append_own _ rfl (.tmp 17) (.tmp 20) 25 rfl w.heap.size 3 i0 (.int .i64 0) 1 8 Tryz.underlying25 hi hz0 hz1 hz2 rfl (by decide) _ _ _ rfl (hown2.alloc _) ⟨wr.heap.size + 1,0,none⟩ 1 1 [.int .i64 p.m] rfl rfl ?c1 ?c2 ?c3 ?c4 ?c5 ?_)
        case c1 => intro x u hx; cases x with | zero => cases hx; rw [WideShapes.add_plain]; exact (cell_of_row _ _ 0 _ _ _ (one_new wr (.cells #[.int .i64 p.m,.int .i64 p.c,.int .i64 p.a] 69) _)).trans rfl | succ x => simp at hx
        case c2 => intro u hu; simp at hu; subst hu; rfl
        case c3 => unfold maxLen; omega
        case c4 => omega
        case c5 => simp; omega
        intro v' w1 hown' hgrow _
        have hb3:=(HB2.out.alloc (by simp; omega) (.cells #[.int .i64 p.m] 3)).grown hgrow (by simp; omega) (fun k hk => own_ge hown2 hk)
        have hrow:w1.ownsRow w.heap.size 3 1 v' (zs ++ [p.m]).length (ints (zs ++ [p.m])):=by simpa [ints] using hown'
        have HR:=Lib.hid hrow
        have HB3:=Lib.hid hb3
        clear hgrow hown' hown2 hb3 hrow
        go_wp2
        go_roundw
        case rel => exact ⟨k + 1,zs ++ [p.m],by omega,by go_num,HR.out,by simp; omega,(by
          rw [HTK.out]
          intro q hq
          rcases List.mem_append.1 hq with h | h
          · exact List.mem_append_left _ (HZ.out.2.1 q h)
          · simp at h; subst h; simp),(by
          intro z hz'
          rcases List.mem_append.1 hz' with h | h
          · exact HZ.out.2.2 z h
          · simp at h; exact ⟨p,HPM.out,h⟩),HB3.out⟩
        case measure => simp [intOf]; omega
    · obtain rfl:k = ps.length:=by omega
      clear hz hin hb hzl
      have HO:=Lib.hid hown
      clear hown
      go_wp2
      go_ret
      exact ⟨_,zs,rfl,HO.out,HZ.out.1,by have:=HZ.out.2.1; rw [List.take_length] at this; exact this,HZ.out.2.2,HB.out⟩
end Go.Proofs.YtgcnnbjbdfgglaaGreat
