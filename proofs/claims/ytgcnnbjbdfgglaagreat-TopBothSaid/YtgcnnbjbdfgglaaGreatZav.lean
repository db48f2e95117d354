/- LAW TopBoth: of every configuration of a bank and every list of byte strings the given function TopBoth returns true and leaves its arguments as they were; no condition. A part of what it needs. -/
import Derived.Test.YtgcnnbjbdfgglaaGreatZau
import Derived.Deep.CutRange
import Derived.Laws.CopyOwn
import Derived.Deep.RegionLaw
namespace Go.Proofs.YtgcnnbjbdfgglaaGreat
open Go.RowKit
def CtPost (w:World) (e:Ending) (w':World):Prop:=∃ v:Int,e = .returned (.int .i64 v)∧0≤v∧v≤1000∧Below w.heap.size w w'
def EaPost (n:Nat) (w:World) (e:Ending) (w':World):Prop:=∃ v xs,e = .returned v∧w'.ownsRow w.heap.size 2 1 v xs.length (ints xs)∧xs.length = n∧(∀ x ∈ xs,0≤x∧x≤1000)∧Below w.heap.size w w'
set_option maxRecDepth 100000 in
set_option maxHeartbeats 2000000 in
theorem Bk.each {w:World} {v:Value} {zs:List Int} (h:IdsAt w v zs) (hn:(zs.length:Int)≤100) (g:FuncId) (lb:Array Value) (eg:∀ args w,(callFunc g args).run Tryz.prog w = .ok (.enter g args) w)
    (hp:∀ i,i < zs.length→∀ wx,Below w.heap.size w wx→Calls Tryz.prog g (#[.int .i64 (zs.getD i 0)] ++ lb) wx (CtPost wx)):Calls Tryz.prog 219 #[v,.func (.func g) #[] lb] w (EaPost zs.length w):=by
 obtain ⟨i0,hi,hz0,hz1,hz2⟩:=info_parts Bk.info64
 obtain ⟨a,c,rfl,hc⟩:=h
 have HC:=Lib.hid hc
 have HP:=Lib.hid hp
 clear hc hp
 go_enter Tryz.func219,Tryz.ntmps219
 go_wp2
 go_loopw [5,10] (fun l i wr => ∃ (k:Nat) (lv:Value) (xs:List Int),k≤zs.length∧lv = l∧i = .int .i64 k∧wr.ownsRow w.heap.size 2 1 lv xs.length (ints xs)∧xs.length = k∧Hid (∀ x ∈ xs,0≤x∧x≤1000)∧Below w.heap.size w wr) (fun _ i _ => zs.length - (intOf i).toNat)
 case atStart => exact ⟨0,_,[],by omega,rfl,rfl,World.ownsRow_nil _ _ _ _,rfl,Lib.hid (by simp),Below.refl _ _⟩
 case round =>
  obtain ⟨k,lv,xs,hk,rfl,rfl,hown,hxl,HX,hb⟩:=hrel
  have HB:=Lib.hid hb
  by_cases hlt:k < zs.length
  · have q2:(k:Int) < (zs.length:Int):=by omega
    obtain ⟨b,o,rfl,h2⟩:=HC.out (by omega)
    have h3:=Bk.kept HB.out (h2 k hlt)
    have hcall:=HP.out k hlt wr HB.out
    have HO:=Lib.hid hown
    have hsz:=hb.size
    generalize zs.getD k 0 = z at *
    have HCA:=Lib.hid hcall
    clear h2 hcall hown hb
    go_wp2_with fail
    refine HCA.out.mono ?_
    rintro e w2 ⟨x,rfl,x0,x1,hb2⟩
    have hown2:=own_below HO.out hb2
    have HB2:=Lib.hid (HB.out.trans (hb2.mono hsz))
    have hsz2:=HB2.out.size
    clear hb2
    go_wp2_with (at_builtin; with_reducible refine wpList_append_own _ rfl (.tmp 14) (.tmp 18) 70 rfl w.heap.size 2 i0 (.int .i64 0) 1 8 Tryz.underlying70 hi hz0 hz1 hz2 rfl (by decide) _ _ _ rfl (hown2.alloc _) ⟨w2.heap.size,0,none⟩ 1 1 [.int .i64 x] rfl rfl ?c1 ?c2 ?c3 ?c4 ?c5 ?_)
    case c1 => intro x' u hx; cases x' with | zero => cases hx; rw [WideShapes.add_plain]; exact (cell_of_row _ _ 0 _ _ _ (heap_alloc_new w2 (.cells #[.int .i64 x] 2))).trans rfl | succ x => simp at hx
    case c2 => intro u hu; simp at hu; subst hu; rfl
    case c3 => unfold maxLen; omega
    case c4 => omega
    case c5 => simp; omega
    intro v' w3 hown' hgrow _
    have hb3:=(HB2.out.alloc hsz2 (.cells #[.int .i64 x] 2)).grown hgrow (by simp; omega) (fun k hk => own_ge hown2 hk)
    have hrow:w3.ownsRow w.heap.size 2 1 v' (xs ++ [x]).length (ints (xs ++ [x])):=by simpa [ints,hxl] using hown'
    have HR:=Lib.hid hrow
    have HB3:=Lib.hid hb3
    clear hgrow hown' hown2 hb3 hrow
    go_wp2
    go_roundw
    case rel => exact ⟨k + 1,_,xs ++ [x],by omega,rfl,by go_num,HR.out,by simp; omega,Lib.hid (by
     intro y hy
     rcases List.mem_append.1 hy with h | h
     · exact HX.out y h
     · simp at h; subst h; exact ⟨x0,x1⟩),HB3.out⟩
    case measure => simp [intOf]; omega
  · obtain rfl:k = zs.length:=by omega
    clear hb
    have HO:=Lib.hid hown
    clear hown
    go_wp2
    go_ret
    exact ⟨_,xs,rfl,HO.out,hxl,HX.out,HB.out⟩
def sevF (q:Nat→Nat→Int):Nat→Nat→Value:=fun i j => .int .i64 (q i j)
theorem eqs (a b:Int):(a = b∧decide (a = b) = true∧(a == b) = true)∨(¬ a = b∧decide (a = b) = false∧(a == b) = false):=by
 by_cases h:a = b
 · exact .inl ⟨h,decide_eq_true h,by simpa using h⟩
 · exact .inr ⟨h,decide_eq_false h,by simpa using h⟩
set_option maxRecDepth 100000 in
set_option maxHeartbeats 4000000 in
theorem Bk.weigh1 {w:World} {lv:Value} {n bx bf:Nat} {q:Nat→Nat→Int} (h0:w.cell? ⟨bx,0,none⟩ = some lv) (h:SlK w lv 7 n (sevF q)) (hn:(n:Int)≤800) (fa:Int) (h1:w.cell? ⟨bf,0,none⟩ = some (.int .i64 fa)) (m:Int):Calls Tryz.prog 220 #[.int .i64 m,.pointer (some ⟨bx,0,none⟩),.pointer (some ⟨bf,0,none⟩)] w (CtPost w):=by
 obtain ⟨a,c,rfl,hc⟩:=h
 have HC:=Lib.hid hc
 have H1:=Lib.hid h1
 clear hc h1
 go_enter Tryz.func220,Tryz.ntmps220
 go_wp2
 clear h0
 go_loopw [5,10] (fun s i wr => ∃ (k:Nat) (t:Nat),k≤n∧s = .int .i64 t∧t≤k∧i = .int .i64 k∧Hid (Below w.heap.size w wr)) (fun _ i _ => n - (intOf i).toNat)
 case atStart => exact ⟨0,0,by omega,rfl,by omega,rfl,Lib.hid (Below.refl _ _)⟩
 case round =>
  obtain ⟨k,t,hk,rfl,ht,rfl,HB⟩:=hrel
  by_cases hlt:k < n
  · have q2:(k:Int) < (n:Int):=by omega
    obtain ⟨b,o,rfl,h2⟩:=HC.out (by omega)
    have g0:World.cell? _ ⟨b,o + k * 7,none⟩ = some (.int .i64 (q k 0)):=Bk.kept HB.out (h2 k 0 hlt (by omega))
    have g1:World.cell? _ ⟨b,o + k * 7 + 1,none⟩ = some (.int .i64 (q k 1)):=Bk.kept HB.out (h2 k 1 hlt (by omega))
    have g2:World.cell? _ ⟨b,o + k * 7 + 2,none⟩ = some (.int .i64 (q k 2)):=Bk.kept HB.out (h2 k 2 hlt (by omega))
    have g3:World.cell? _ ⟨b,o + k * 7 + 3,none⟩ = some (.int .i64 (q k 3)):=Bk.kept HB.out (h2 k 3 hlt (by omega))
    have g4:World.cell? _ ⟨b,o + k * 7 + 4,none⟩ = some (.int .i64 (q k 4)):=Bk.kept HB.out (h2 k 4 hlt (by omega))
    have g5:World.cell? _ ⟨b,o + k * 7 + 5,none⟩ = some (.int .i64 (q k 5)):=Bk.kept HB.out (h2 k 5 hlt (by omega))
    have g6:World.cell? _ ⟨b,o + k * 7 + 6,none⟩ = some (.int .i64 (q k 6)):=Bk.kept HB.out (h2 k 6 hlt (by omega))
    have gf:=Bk.kept HB.out H1.out
    have hfl:=block_lt_of_cell gf
    have HB2:=Lib.hid (HB.out.alloc HB.out.size (.cells #[.int .i64 (q k 0),.int .i64 (q k 1),.int .i64 (q k 2),.int .i64 (q k 3),.int .i64 (q k 4),.int .i64 (q k 5),.int .i64 (q k 6)] 63))
    clear h2
    generalize q k 0 = x0 at *
    generalize q k 1 = x1 at *
    generalize q k 2 = x2 at *
    generalize q k 3 = x3 at *
    generalize q k 4 = x4 at *
    generalize q k 5 = x5 at *
    generalize q k 6 = x6 at *
    have ht8:(t:Int)≤800:=by omega
    rcases eqs x1 fa with ⟨a1,a2,a3⟩ | ⟨a1,a2,a3⟩ <;> rcases eqs x2 m with ⟨b1,b2,b3⟩ | ⟨b1,b2,b3⟩ <;> rcases eqs x1 m with ⟨c1,c2,c3⟩ | ⟨c1,c2,c3⟩ <;> rcases eqs x2 fa with ⟨d1,d2,d3⟩ | ⟨d1,d2,d3⟩ <;>
      (clear a1 b1 c1 d1
       go_wp2
       go_roundw
       case rel => first | exact ⟨k + 1,t,by omega,rfl,by omega,by go_num,HB2⟩ | exact ⟨k + 1,t + 1,by omega,by go_num,by omega,by go_num,HB2⟩
       case measure => simp [intOf]; omega)
  · have ht8:(t:Int)≤800:=by omega
    go_wp2
    go_ret
    exact ⟨t,rfl,by omega,by omega,HB.out⟩
end Go.Proofs.YtgcnnbjbdfgglaaGreat
namespace Go.Proofs.YtgcnnbjbdfgglaaGreat
open Go.RowKit
theorem Bk.infoDeal:(Tryz.prog.info? 63).map (fun i => (i.zero,i.size,i.bytes)) = some (some (.agg #[.int .i64 0,.int .i64 0,.int .i64 0,.int .i64 0,.int .i64 0,.int .i64 0,.int .i64 0]),7,56):=by kernel_rfl
theorem slK_of_own {w:World} {B e K n:Nat} {v:Value} {f:Nat→Nat→Value} (h:w.ownsRow B e K v n (flatK K n f)):SlK w v K n f:=by
 rcases Nat.eq_zero_or_pos n with e0 | e0
 · subst e0
   rcases h.2 with ⟨rfl,_⟩ | ⟨g,cap,cur,rfl,_⟩
   · exact ⟨none,0,rfl,fun hn => absurd hn (by omega)⟩
   · exact ⟨_,_,rfl,fun hn => absurd hn (by omega)⟩
 · obtain ⟨g,cap,rfl,hg1,hg2⟩:=h.form e0
   exact SlK.of_row (RowK.of_own h).1
structure WtI (X:Nat) (fa:Int) (w wr:World) (n:Nat):Prop where
  box:∃ lv q,Blk wr X 344 #[lv]∧wr.ownsRow (X + 2) 63 7 lv n (flatK 7 n (sevF q))
  lit:Blk wr (X + 1) 3 #[.int .i64 1,.int .i64 2,.int .i64 3,.int .i64 4]
  fb:Blk wr w.heap.size 3 #[.int .i64 fa]
  below:Below w.heap.size w wr
  hX:w.heap.size < X
theorem WtI.less {X n:Nat} {fa:Int} {w wr w':World} (h:WtI X fa w wr n) (hb:Below wr.heap.size wr w'):WtI X fa w w' n:=by
 obtain ⟨lv,q,h1,h2⟩:=h.box
 exact ⟨⟨lv,q,h1.below hb,own_below h2 hb⟩,h.lit.below hb,h.fb.below hb,h.below.trans (hb.mono h.below.size),h.hX⟩
set_option maxRecDepth 100000 in
set_option maxHeartbeats 4000000 in
theorem Bk.weights {w:World} {h:Bh} {B:Bo} (a:BoAt w h B) (fa:Int) {v:Value} {zs:List Int} (hz:IdsAt w v zs) (hn:(zs.length:Int)≤100):Calls Tryz.prog 187 #[.pointer (some ⟨h.b,0,none⟩),.int .i64 fa,v] w (EaPost zs.length w):=by
 obtain ⟨i0,hi,hz0,hz1,hz2⟩:=info_parts Bk.infoDeal
 have n200:=a.ok.n200
 have HALL:=Lib.hid (fun (W:World) (hb:Below w.heap.size w W) (st:Int) => Bk.all (a.below hb) st)
 have HD:=Lib.hid (fun (W:World) (hb:Below w.heap.size w W) (id:Int) (h6:In64 id) => Bk.dealOf (a.below hb) id h6)
 have HID:=Lib.hid (fun i (hi:i < B.n) => show In64 (B.e i).id by have h:=a.ok.ent i hi; unfold In64; have:=h.i1; have:=h.i2; omega)
 clear a
 go_enter Tryz.func187,Tryz.ntmps187
 have hb0:=((((Below.refl w.heap.size w).alloc (Nat.le_refl _) (.cells #[.int .i64 fa] 3))).alloc (by simp) (.cells #[.slice none 0 0] 344)).alloc (by simp; omega) (.cells #[.int .i64 1,.int .i64 2,.int .i64 3,.int .i64 4] 3)
 have hW0:WtI (w.heap.size + 1) fa w (((w.alloc (.cells #[.int .i64 fa] 3)).alloc (.cells #[.slice none 0 0] 344)).alloc (.cells #[.int .i64 1,.int .i64 2,.int .i64 3,.int .i64 4] 3)) 0:=by
  have e1:=((Blk.new w 3 #[.int .i64 fa]).alloc (.cells #[.slice none 0 0] 344)).alloc (.cells #[.int .i64 1,.int .i64 2,.int .i64 3,.int .i64 4] 3)
  have e2:=(Blk.new (w.alloc (.cells #[.int .i64 fa] 3)) 344 #[.slice none 0 0]).alloc (.cells #[.int .i64 1,.int .i64 2,.int .i64 3,.int .i64 4] 3)
  have e3:=Blk.new ((w.alloc (.cells #[.int .i64 fa] 3)).alloc (.cells #[.slice none 0 0] 344)) 3 #[.int .i64 1,.int .i64 2,.int .i64 3,.int .i64 4]
  simp only [World.size_alloc] at e2 e3
  exact ⟨⟨_,fun _ _ => 0,e2,by rw [flatK_none]; exact World.ownsRow_nil _ _ _ _⟩,e3,e1,hb0,by omega⟩
 have HW0:=Lib.hid hW0
 clear hb0 hW0
 go_wp2
 go_loopw [16] (fun i wr => ∃ (s cnt:Nat),s≤4∧i = .int .i64 s∧(cnt:Int)≤s * 200∧Hid (WtI (w.heap.size + 1) fa w wr cnt)) (fun i _ => 4 - (intOf i).toNat)
 case atStart => exact ⟨0,0,by omega,rfl,by omega,HW0⟩
 case round =>
  clear HW0
  obtain ⟨s,cnt,hs,rfl,hcnt,HW⟩:=hrel
  by_cases hlt:s < 4
  · have q2:(s:Int) < 4:=by omega
    have l4:World.cell? _ ⟨w.heap.size + 1 + 1,s,none⟩ = some (.int .i64 ((s:Int) + 1)):=(HW.out.lit.cell s).trans (by rcases (by omega:s = 0∨s = 1∨s = 2∨s = 3) with rfl | rfl | rfl | rfl <;> rfl)
    go_wp2_with fail
    refine (HALL.out _ HW.out.below ((s:Int) + 1)).mono ?_
    rintro e w1 ⟨lv1,ids,rfl,hids,hil,him,hb1,hio⟩
    have HW1:=Lib.hid (HW.out.less hb1)
    have HB1w:=Lib.hid (HW.out.below.trans (hb1.mono HW.out.below.size))
    have HI1:=Lib.hid hids
    have HM1:=Lib.hid (fun z (hz:z ∈ ids) => show In64 z by obtain ⟨i,hi,he,_⟩:=him z hz; rw [← he]; exact HID.out i hi)
    obtain ⟨ia,ic,rfl,hic⟩:=hids
    have HIO:=Lib.hid (own_base hio (Nat.zero_le _))
    clear hb1 him hic l4 HW hio
    go_wp2
    go_loopw [24] (fun i wx => ∃ (j cnt:Nat),j≤ids.length∧i = .int .i64 j∧(cnt:Int)≤s * 200 + j∧Hid (WtI (w.heap.size + 1) fa w wx cnt)∧Hid (wx.ownsRow 0 3 1 (.slice ia ids.length ic) ids.length (ints ids))) (fun i _ => ids.length - (intOf i).toNat)
    case atStart => exact ⟨0,cnt,by omega,rfl,by omega,HW1,HIO⟩
    case round =>
     clear HW1 HIO
     obtain ⟨j,cnt,hj,rfl,hcnt,HW,HIO⟩:=hrel
     by_cases hlt2:j < ids.length
     · have q3:(j:Int) < (ids.length:Int):=by omega
       obtain ⟨gi,ci,hie,hg1,hg2⟩:=HIO.out.form (by omega)
       obtain ⟨rfl,rfl⟩:ia = some ⟨gi,0,none⟩∧ic = ci:=by cases hie; exact ⟨rfl,rfl⟩
       have g0:=HIO.out.cellAt j (by omega)
       have hidj:=HM1.out (ids.getD j 0) (by rw [List.getD_eq_getElem?_getD,List.getElem?_eq_getElem hlt2]; exact List.getElem_mem hlt2)
       have g1:wr.cell? ⟨gi,j,none⟩ = some (.int .i64 (ids.getD j 0)):=by rw [g0]; simp [ints,List.getD,hlt2]
       generalize ids.getD j 0 = id at *
       have HDD:=HD.out _ HW.out.below id hidj
       unfold Ent.deal at HDD
       have HDD:=Lib.hid HDD
       generalize B.get id = x at HDD
       generalize (B.ix id).isSome = tb at HDD
       clear g0 hie
       go_wp2_with fail
       refine HDD.out.mono ?_
       rintro e w3 ⟨rfl,hb3⟩
       have HW3:=Lib.hid (HW.out.less hb3)
       have HIO3:=Lib.hid (own_below HIO.out hb3)
       clear hb3 HDD g1 HW HIO
       obtain ⟨lv,q,hX1,hO1⟩:=HW3.out.box
       have hX2:=(hX1.alloc (.cells #[.int .i64 x.id,.int .i64 x.a,.int .i64 x.b,.int .i64 x.sc,.int .i64 x.bc,.int .i64 x.sell,.int .i64 x.buy] 63))
       have x0:(w3.alloc (.cells #[.int .i64 x.id,.int .i64 x.a,.int .i64 x.b,.int .i64 x.sc,.int .i64 x.bc,.int .i64 x.sell,.int .i64 x.buy] 63)).cell? ⟨w.heap.size + 1,0,none⟩ = some lv:=(hX2.cell 0).trans rfl
       have hsz3:=HW3.out.below.size
       have hX3:=hX1.lt
       have HWA:=Lib.hid ((HW3.out.less ((Below.refl _ _).alloc (Nat.le_refl _) (.cells #[.int .i64 x.id,.int .i64 x.a,.int .i64 x.b,.int .i64 x.sc,.int .i64 x.bc,.int .i64 x.sell,.int .i64 x.buy] 63))).less ((Below.refl _ _).alloc (Nat.le_refl _) (.cells #[.int .i64 x.id,.int .i64 x.a,.int .i64 x.b,.int .i64 x.sc,.int .i64 x.bc,.int .i64 x.sell,.int .i64 x.buy] 63)))
       have HIA:=Lib.hid ((HIO3.out.alloc (.cells #[.int .i64 x.id,.int .i64 x.a,.int .i64 x.b,.int .i64 x.sc,.int .i64 x.bc,.int .i64 x.sell,.int .i64 x.buy] 63)).alloc (.cells #[.int .i64 x.id,.int .i64 x.a,.int .i64 x.b,.int .i64 x.sc,.int .i64 x.bc,.int .i64 x.sell,.int .i64 x.buy] 63))
       have HX1:=Lib.hid hX1
       have hn200:(cnt:Int)≤1000:=by omega
       have hNW:=Blk.new (w3.alloc (.cells #[.int .i64 x.id,.int .i64 x.a,.int .i64 x.b,.int .i64 x.sc,.int .i64 x.bc,.int .i64 x.sell,.int .i64 x.buy] 63)) 63 #[.int .i64 x.id,.int .i64 x.a,.int .i64 x.b,.int .i64 x.sc,.int .i64 x.bc,.int .i64 x.sell,.int .i64 x.buy]
       simp only [World.size_alloc] at hNW
       have HNW:=Lib.hid hNW
       have HO1:=Lib.hid hO1
       clear hNW hX2 hX1 HIO3
       go_wp2_with (at_builtin; with_reducible refine wpList_append_lies _ rfl (.tmp 34) (.tmp 36) 344 rfl (w.heap.size + 1 + 2) 63 i0 _ 7 56 Tryz.underlying344 hi hz0 hz1 hz2 rfl (by decide) _ _ _ rfl ((HO1.out.alloc _).alloc _) ⟨w3.heap.size + 1,0,none⟩ 1 1 [.int .i64 x.id,.int .i64 x.a,.int .i64 x.b,.int .i64 x.sc,.int .i64 x.bc,.int .i64 x.sell,.int .i64 x.buy] rfl rfl ?c1 ?c2 (by decide) ?c3 ?c4 ?c5 _ rfl ?_)
       case c1 => intro x' u hx; rw [WideShapes.add_plain]; exact HNW.out.range x' u hx
       case c2 => intro u hu; simp at hu; rcases hu with rfl | rfl | rfl | rfl | rfl | rfl | rfl <;> rfl
       case c3 => unfold maxLen; omega
       case c4 => omega
       case c5 => simp; omega
       intro gg cg w5 hown5 hgrow5 hat5 hlt5
       obtain ⟨lvA,qA,hXA,hOA⟩:=HWA.out.box
       have hOb:=(HO1.out.alloc (.cells #[.int .i64 x.id,.int .i64 x.a,.int .i64 x.b,.int .i64 x.sc,.int .i64 x.bc,.int .i64 x.sell,.int .i64 x.buy] 63)).alloc (.cells #[.int .i64 x.id,.int .i64 x.a,.int .i64 x.b,.int .i64 x.sc,.int .i64 x.bc,.int .i64 x.sell,.int .i64 x.buy] 63)
       have hXb:=((HX1.out.alloc (.cells #[.int .i64 x.id,.int .i64 x.a,.int .i64 x.b,.int .i64 x.sc,.int .i64 x.bc,.int .i64 x.sell,.int .i64 x.buy] 63)).alloc (.cells #[.int .i64 x.id,.int .i64 x.a,.int .i64 x.b,.int .i64 x.sc,.int .i64 x.bc,.int .i64 x.sell,.int .i64 x.buy] 63))
       have hge:∀ q,lv.ownBlock = some q→w.heap.size + 1 + 2≤q:=fun q hq => own_ge hOb hq
       have k1:=hXb.grown hgrow5 (fun e => by have:=hge _ e.symm; omega)
       have k2:=HWA.out.lit.grown hgrow5 (fun e => by have:=hge _ e.symm; omega)
       have k3:=HWA.out.fb.grown hgrow5 (fun e => by have:=hge _ e.symm; omega)
       have k4:=HWA.out.below.grown hgrow5 HWA.out.below.size (fun q hq => by have:=hge q hq; omega)
       have k5:=own_kept HIA.out (own_apartT HIA.out hOb (by decide)) hgrow5
       have y0:w5.cell? ⟨w.heap.size + 1,0,none⟩ = some lv:=(k1.cell 0).trans rfl
       have yf:=k1.frozen 0
       have HW6:Hid (WtI (w.heap.size + 1) fa w (w5.setCell ⟨w.heap.size + 1,0,none⟩ (.slice (some ⟨gg,0,none⟩) (cnt + 1) cg)) (cnt + 1)):=by
        refine Lib.hid ⟨⟨_,fun i j => if i = cnt then (match j with | 0 => x.id | 1 => x.a | 2 => x.b | 3 => x.sc | 4 => x.bc | 5 => x.sell | _ => x.buy) else q i j,k1.set 0 _,?_⟩,k2.far (by omega) _ _,k3.far (by omega) _ _,k4.setCell (p:=⟨w.heap.size + 1,0,none⟩) (by show w.heap.size≤w.heap.size + 1; omega) _,by omega⟩
        have h1:=own_far hown5 (b:=w.heap.size + 1) (fun q hq => by have:=own_ge hown5 hq; omega) 0 (.slice (some ⟨gg,0,none⟩) (cnt + 1) cg)
        rw [flatK_snoc (by omega),flatK_congr (g:=sevF q) (fun i j hi _ => by simp [sevF,show i ≠ cnt by omega])]
        have e1:(List.range 7).map (sevF (fun i j => if i = cnt then (match j with | 0 => x.id | 1 => x.a | 2 => x.b | 3 => x.sc | 4 => x.bc | 5 => x.sell | _ => x.buy) else q i j) cnt) = [.int .i64 x.id,.int .i64 x.a,.int .i64 x.b,.int .i64 x.sc,.int .i64 x.bc,.int .i64 x.sell,.int .i64 x.buy]:=by simp [sevF,List.range_succ]
        rw [e1]
        exact h1
       have HI6:=Lib.hid (own_far k5 (b:=w.heap.size + 1) (fun q hq e => Ty.ne (own_ty k5 hq) ⟨_,k1⟩ (by decide) e) 0 (.slice (some ⟨gg,0,none⟩) (cnt + 1) cg))
       clear k1 k2 k3 k4 k5 hXA hOA hOb hXb hown5 hgrow5 hat5 hlt5 x0 hge
       go_wp2
       go_roundw
       case rel => exact ⟨j + 1,cnt + 1,by omega,by go_num,by omega,HW6,HI6⟩
       case measure => simp [intOf]; omega
     · go_wp2
       go_roundw
       case rel => exact ⟨s + 1,cnt,by omega,by go_num,by have:=n200; omega,HW⟩
       case measure => simp [intOf]; omega
  · obtain rfl:s = 4:=by omega
    obtain ⟨lv,q,hX1,hO1⟩:=HW.out.box
    have HE:=Lib.hid (Bk.each (hz.below HW.out.below) hn 220 #[.pointer (some ⟨w.heap.size + 1,0,none⟩),.pointer (some ⟨w.heap.size,0,none⟩)] (fun _ _ => by kernel_rfl)
      (fun i hi wx hbx => Bk.weigh1 (((hX1.below hbx).cell 0).trans rfl) (slK_of_own (own_below hO1 hbx)) (by omega) fa (((HW.out.fb.below hbx).cell 0).trans rfl) (zs.getD i 0)))
    have HB:=Lib.hid HW.out.below
    obtain ⟨za,zc,rfl,hzc⟩:=hz
    clear hX1 hO1 HW hzc
    go_wp2_with fail
    refine HE.out.mono ?_
    rintro e w5 ⟨v5,xs,rfl,hown,hxl,hxs,hb5⟩
    have HO:=Lib.hid (own_base hown HB.out.size)
    have HB5:=Lib.hid (HB.out.trans (hb5.mono HB.out.size))
    clear hown hb5
    go_wp2
    go_ret
    exact ⟨_,xs,rfl,HO.out,hxl,hxs,HB5.out⟩
end Go.Proofs.YtgcnnbjbdfgglaaGreat
namespace Go.Proofs.YtgcnnbjbdfgglaaGreat
open Go.RowKit
theorem Bk.infoPosting:(Tryz.prog.info? 69).map (fun i => (i.zero,i.size,i.bytes)) = some (some (.agg #[.int .i64 0,.int .i64 0,.int .i64 0]),3,24):=by kernel_rfl
def Pst.cell (p:Pst):Nat→Value
  | 0 => .int .i64 p.m
  | 1 => .int .i64 p.c
  | _ => .int .i64 p.a
def pstC (ps:List Pst):List Value:=flatK 3 ps.length fun i => (ps.getD i ⟨0,0,0⟩).cell
theorem pstC_snoc (ps:List Pst) (p:Pst):pstC (ps ++ [p]) = pstC ps ++ [.int .i64 p.m,.int .i64 p.c,.int .i64 p.a]:=by
 unfold pstC
 rw [show (ps ++ [p]).length = ps.length + 1 by simp,flatK_snoc (by omega)]
 congr 1
 · exact flatK_congr (fun i j hi _ => by simp [List.getD,List.getElem?_append_left hi])
 · simp [List.getD,Pst.cell,List.range_succ]
theorem slp_of_own {w:World} {B e:Nat} {v:Value} {ps:List Pst} (h:w.ownsRow B e 3 v ps.length (pstC ps)):SlP w v ps:=by
 obtain ⟨a,c,rfl,hc⟩:=slK_of_own (K:=3) h
 refine ⟨a,c,rfl,fun hn => ?_⟩
 obtain ⟨b,o,rfl,h2⟩:=hc hn
 refine ⟨b,o,rfl,fun i p hp => ?_⟩
 have hi:i < ps.length:=(List.getElem?_eq_some_iff.1 hp).1
 have e:ps.getD i ⟨0,0,0⟩ = p:=by rw [List.getD_eq_getElem?_getD,hp]; rfl
 have h0:=h2 i 0 hi (by omega)
 have h1:=h2 i 1 hi (by omega)
 have h3:=h2 i 2 hi (by omega)
 dsimp only at h0 h1 h3
 rw [e] at h0 h1 h3
 exact ⟨h0,h1,h3⟩
def BatPost (n:Nat) (ms:Int→Prop) (w:World) (e:Ending) (w':World):Prop:=∃ v c ps,e = .returned (.tuple #[v,.int .i64 c])∧0≤c∧c≤12∧w'.ownsRow w.heap.size 69 3 v ps.length (pstC ps)∧ps.length≤n∧(∀ p ∈ ps,In64 p.a∧ms p.m)∧Below w.heap.size w w'
theorem Led.get_64 {L:Led} (ho:L.Ok) (m c:Int):In64 (L.get m c):=by
 unfold Led.get
 split
 · rename_i h
   obtain ⟨h1,h2,h3,h4⟩:=Led.has_iff.1 h
   exact ho.b64 _ _ (by omega) (by have:=ho.c8; omega)
 · unfold In64; omega
set_option maxRecDepth 100000 in
set_option maxHeartbeats 4000000 in
theorem Bk.takeover {w:World} {l r cap:Nat} {L:Led} (h:LedAt w l r cap L) (ho:L.Ok) (ho_ fa:Int):Calls Tryz.prog 180 #[.pointer (some ⟨l,0,none⟩),.int .i64 ho_,.int .i64 fa] w (BatPost 16 (fun m => m = fa∨m = ho_) w):=by
 obtain ⟨i0,hi,hz0,hz1,hz2⟩:=info_parts Bk.infoPosting
 have HSZ:=Lib.hid (Bk.ledger_size h)
 have HG:=Lib.hid (fun (W:World) (hb:Below w.heap.size w W) (k:Int) => Bk.get (h.below hb) ho fa k)
 have H6:=Lib.hid (fun k => Led.get_64 ho fa k)
 have hc8:=ho.c8
 clear h ho
 go_enter Tryz.func180,Tryz.ntmps180
 go_wp2_with fail
 refine HSZ.out.mono ?_
 rintro e w1 ⟨rfl,nq,rfl⟩
 have HB0:=Lib.hid (Bk.bdrew (Below.refl w.heap.size w) nq)
 generalize w.drewN nq = w1 at *
 go_wp2
 go_loopw [10,21] (fun l i wr => ∃ (k:Nat) (lv:Value) (ps:List Pst),k≤L.c∧lv = l∧i = .int .i64 k∧wr.ownsRow w.heap.size 69 3 lv ps.length (pstC ps)∧ps.length≤2 * k∧Hid (∀ p ∈ ps,In64 p.a∧(p.m = fa∨p.m = ho_))∧Hid (Below w.heap.size w wr)) (fun _ i _ => L.c - (intOf i).toNat)
 case atStart => exact ⟨0,_,[],by omega,rfl,rfl,World.ownsRow_nil _ _ _ _,by simp,Lib.hid (by simp),HB0⟩
 case round =>
  obtain ⟨k,lv,ps,hk,rfl,rfl,hown,hpl,HP,HB⟩:=hrel
  have HO:=Lib.hid hown
  clear hown
  by_cases hlt:k < L.c
  · have q2:(k:Int) < (L.c:Int):=by omega
    have hg:=HG.out _ HB.out (k:Int)
    have h6:=H6.out (k:Int)
    generalize L.get fa k = x at *
    have HGG:=Lib.hid hg
    clear hg
    by_cases hx0:x = 0
    · subst hx0
      go_wp2_with fail
      refine HGG.out.mono ?_
      rintro e w2 ⟨rfl,rfl⟩
      go_wp2
      go_roundw
      case rel => exact ⟨k + 1,_,ps,by omega,rfl,by go_num,HO.out,by omega,HP,HB⟩
      case measure => simp [intOf]; omega
    · have HS:=Lib.hid (fun W => Bk.sub 0 x (by unfold In64; omega) h6 W)
      have H66:=Lib.hid h6
      by_cases hin:In64 (0 - x)
      · rw [tn_in hin,te_in hin] at HS
        have HIN:=Lib.hid hin
        generalize (0 - x) = y at *
        clear hin h6
        go_wp2_with fail
        refine HGG.out.mono ?_
        rintro e w2 ⟨rfl,rfl⟩
        go_wp2_with fail
        refine (HS.out _).mono ?_
        rintro e w2 ⟨rfl,rfl⟩
        have hsz:=HB.out.size
        have hown2:=HO.out
        go_wp2_with (at_builtin; with_reducible refine wpList_append_own _ rfl (.tmp 38) (.tmp 47) 66 rfl w.heap.size 69 i0 _ 3 24 Tryz.underlying66 hi hz0 hz1 hz2 rfl (by decide) _ _ _ rfl (hown2.alloc _) ⟨w2.heap.size,0,none⟩ 2 2 [.int .i64 fa,.int .i64 k,.int .i64 y,.int .i64 ho_,.int .i64 k,.int .i64 x] rfl rfl ?c1 ?c2 ?c3 ?c4 ?c5 ?_)
        case c1 => intro x' u hx; rw [WideShapes.add_plain]; exact (Blk.new w2 69 #[.int .i64 fa,.int .i64 k,.int .i64 y,.int .i64 ho_,.int .i64 k,.int .i64 x]).range x' u hx
        case c2 => intro u hu; simp at hu; rcases hu with rfl | rfl | rfl | rfl | rfl | rfl <;> rfl
        case c3 => unfold maxLen; omega
        case c4 => omega
        case c5 => simp; omega
        intro v' w3 hown' hgrow _
        have hb3:=(HB.out.alloc hsz (.cells #[.int .i64 fa,.int .i64 k,.int .i64 y,.int .i64 ho_,.int .i64 k,.int .i64 x] 69)).grown hgrow (by simp; omega) (fun q hq => own_ge hown2 hq)
        have hrow:w3.ownsRow w.heap.size 69 3 v' ((ps ++ [(⟨fa,k,y⟩:Pst)]) ++ [(⟨ho_,k,x⟩:Pst)]).length (pstC ((ps ++ [(⟨fa,k,y⟩:Pst)]) ++ [(⟨ho_,k,x⟩:Pst)])):=by
         have e1:pstC ((ps ++ [(⟨fa,k,y⟩:Pst)]) ++ [(⟨ho_,k,x⟩:Pst)]) = pstC ps ++ [.int .i64 fa,.int .i64 k,.int .i64 y,.int .i64 ho_,.int .i64 k,.int .i64 x]:=by rw [pstC_snoc,pstC_snoc,List.append_assoc]; rfl
         have e2:((ps ++ [(⟨fa,k,y⟩:Pst)]) ++ [(⟨ho_,k,x⟩:Pst)]).length = ps.length + 2:=by simp
         rw [e1,e2]
         exact hown'
        have HR:=Lib.hid hrow
        have HB3:=Lib.hid hb3
        clear hgrow hown' hown2 hb3 hrow
        go_wp2
        go_roundw
        case rel => exact ⟨k + 1,_,_,by omega,rfl,by go_num,HR.out,by simp; omega,Lib.hid (by
         intro p hp
         simp only [List.mem_append,List.mem_singleton] at hp
         rcases hp with (h | rfl) | rfl
         · exact HP.out p h
         · exact ⟨HIN.out,.inl rfl⟩
         · exact ⟨H66.out,.inr rfl⟩),HB3⟩
        case measure => simp [intOf]; omega
      · rw [tn_out hin,te_out hin] at HS
        clear hin h6
        go_wp2_with fail
        refine HGG.out.mono ?_
        rintro e w2 ⟨rfl,rfl⟩
        go_wp2_with fail
        refine (HS.out _).mono ?_
        rintro e w2 ⟨rfl,rfl⟩
        go_wp2
        go_ret2
        exact ⟨_,3,[],rfl,by omega,by omega,World.ownsRow_nil _ _ _ _,by simp,by simp,HB.out⟩
  · go_wp2
    go_ret2
    exact ⟨_,0,ps,rfl,by omega,by omega,HO.out,by omega,HP.out,HB.out⟩
def LsPost (w:World) (e:Ending) (w':World):Prop:=∃ n c:Int,e = .returned (.tuple #[.int .i64 n,.int .i64 c])∧0≤n∧In64 n∧0≤c∧c≤12∧Below w.heap.size w w'
theorem tn_64' (x:Int):In64 (tn x):=by unfold tn; split; assumption; unfold In64; omega
theorem te_12 (x:Int):0≤te x∧te x≤12:=by unfold te; split <;> omega
set_option maxRecDepth 100000 in
set_option maxHeartbeats 4000000 in
theorem Bk.loss {w:World} {v:Value} {t:Rates} {code:Nat→ByteArray} (ht:SlT w v t code) (hto:t.Ok) {l r cap:Nat} {L:Led} (h:LedAt w l r cap L) (ho:L.Ok) (hs:Int):Calls Tryz.prog 183 #[v,.pointer (some ⟨l,0,none⟩),.int .i64 hs] w (LsPost w):=by
 have HG:=Lib.hid (fun (W:World) (hb:Below w.heap.size w W) (k:Int) => Bk.get (h.below hb) ho hs k)
 have H6:=Lib.hid (fun k => Led.get_64 ho hs k)
 have HPL:=Lib.hid (fun (W:World) (hb:Below w.heap.size w W) (k:Nat) (hk:k < t.n) (x:Int) (hx:In64 x) => Bk.plain (ht.below hb) hto k hk x hx)
 have h8:=hto.le
 obtain ⟨tb,to_,tc,rfl,-⟩:=ht
 clear h ho hto
 go_enter Tryz.func183,Tryz.ntmps183
 go_wp2
 go_loopw [8,14] (fun s i wr => ∃ (k:Nat) (x:Int),k≤t.n∧s = .int .i64 x∧Hid (In64 x)∧i = .int .i64 k∧Hid (Below w.heap.size w wr)) (fun _ i _ => t.n - (intOf i).toNat)
 case atStart => exact ⟨0,0,by omega,rfl,Lib.hid (by unfold In64; omega),rfl,Lib.hid (Below.refl _ _)⟩
 case round =>
  obtain ⟨k,x,hk,rfl,HX,rfl,HB⟩:=hrel
  by_cases hlt:k < t.n
  · have q2:(k:Int) < (t.n:Int):=by omega
    have HGG:=Lib.hid (HG.out _ HB.out (k:Int))
    have HP:=Lib.hid (HPL.out _ HB.out k hlt _ (H6.out (k:Int)))
    generalize L.get hs k = g at *
    have h1:=tn_64' (plainI (t.rate k) g)
    have h2:=te_12 (plainI (t.rate k) g)
    generalize tn (plainI (t.rate k) g) = p at *
    generalize te (plainI (t.rate k) g) = c at *
    have HA:=Lib.hid (fun W => Bk.add x p HX.out h1 W)
    have h3:=tn_64' (x + p)
    have h4:=te_12 (x + p)
    generalize tn (x + p) = y at *
    generalize te (x + p) = d at *
    have H3:=Lib.hid h3
    clear h1 h3
    go_wp2_with fail
    refine HGG.out.mono ?_
    rintro e w2 ⟨rfl,rfl⟩
    go_wp2_with fail
    refine HP.out.mono ?_
    rintro e w3 ⟨rfl,hb3⟩
    have HB3:=Lib.hid (HB.out.trans (hb3.mono HB.out.size))
    clear hb3
    rcases eqs c 0 with ⟨a1,a2,a3⟩ | ⟨a1,a2,a3⟩
    · subst a1
      clear a2 a3
      go_wp2_with fail
      refine (HA.out _).mono ?_
      rintro e w4 ⟨rfl,rfl⟩
      rcases eqs d 0 with ⟨b1,b2,b3⟩ | ⟨b1,b2,b3⟩
      · subst b1
        clear b2 b3
        go_wp2
        go_roundw
        case rel => exact ⟨k + 1,y,by omega,rfl,H3,by go_num,HB3⟩
        case measure => simp [intOf]; omega
      · have b4:(d != 0) = true:=by simpa using b1
        go_wp2
        go_ret2
        exact ⟨0,d,rfl,by omega,by unfold In64; omega,h4.1,h4.2,HB3.out⟩
    · have a4:(c != 0) = true:=by simpa using a1
      go_wp2
      go_ret2
      exact ⟨0,c,rfl,by omega,by unfold In64; omega,h2.1,h2.2,HB3.out⟩
  · by_cases hx:0≤x
    · go_wp2
      go_ret2
      exact ⟨0,0,rfl,by omega,by unfold In64; omega,by omega,by omega,HB.out⟩
    · have HS:=Lib.hid (fun W => Bk.size_of x HX.out W)
      have h1:=tn_64' ((x.natAbs:Nat):Int)
      have h2:=te_12 ((x.natAbs:Nat):Int)
      have h3:0≤tn ((x.natAbs:Nat):Int):=by unfold tn; split <;> omega
      generalize tn ((x.natAbs:Nat):Int) = p at *
      generalize te ((x.natAbs:Nat):Int) = c at *
      go_wp2_with fail
      refine (HS.out _).mono ?_
      rintro e w4 ⟨rfl,rfl⟩
      go_wp2
      go_ret2
      exact ⟨p,c,rfl,h3,h1,h2.1,h2.2,HB.out⟩
end Go.Proofs.YtgcnnbjbdfgglaaGreat
namespace Go.Proofs.YtgcnnbjbdfgglaaGreat
open Go.RowKit
set_option maxRecDepth 100000 in
set_option maxHeartbeats 4000000 in
theorem Bk.mul64_1 (n:Nat) (h1:1≤n) (h2:n≤15) (w:World):Calls Tryz.prog 172 #[.int .u64 1,.int .u64 n] w fun e w' => e = .returned (.tuple #[.int .u64 0,.int .u64 n])∧w' = w:=by
 have hc:n = 1∨n = 2∨n = 3∨n = 4∨n = 5∨n = 6∨n = 7∨n = 8∨n = 9∨n = 10∨n = 11∨n = 12∨n = 13∨n = 14∨n = 15:=by omega
 have ha:∀ m:Fin 16,bits .and .u64 (m.1:Int) 4294967295 = (m.1:Int):=by decide +kernel
 rcases hc with rfl | rfl | rfl | rfl | rfl | rfl | rfl | rfl | rfl | rfl | rfl | rfl | rfl | rfl | rfl
 all_goals
   clear h1 h2
   go_enter Tryz.func172,Tryz.ntmps172
   go_wp2
   go_ret2
   exact ⟨rfl,rfl⟩
set_option maxRecDepth 100000 in
set_option maxHeartbeats 1000000 in
theorem Bk.mul_1 (n:Nat) (h1:1≤n) (h2:n≤15) (w:World):Calls Tryz.prog 142 #[.int .u64 1,.int .u64 n] w fun e w' => e = .returned (.tuple #[.int .u64 0,.int .u64 n])∧w' = w:=by
 have HM:=Lib.hid (fun W => Bk.mul64_1 n h1 h2 W)
 go_enter Tryz.func142,Tryz.ntmps142
 go_wp2_with fail
 refine (HM.out _).mono ?_
 rintro e w1 ⟨rfl,rfl⟩
 go_wp2
 go_ret2
 exact ⟨rfl,rfl⟩
theorem Bk.makeN64 (n:Nat) (hn:n≤100) (w:World):(Instr.makeSlice 70 (.int .i64 n) (.int .i64 n)).run Tryz.prog w = .ok (.slice (some ⟨w.heap.size,0,none⟩) n n) (w.alloc (.cells (madeCells #[.int .i64 0] n) 2)):=by
 obtain ⟨i0,hi,hz0,hz1,hz2⟩:=info_parts Bk.info64
 have:=run_make (P:=Tryz.prog) w 70 2 i0 (.int .i64 0) Tryz.underlying70 hi hz0 .i64 .i64 n n (by omega) (Int.le_refl _) (by rw [hz2]; omega) (by omega)
 rw [hz1] at this
 simp only [Int.toNat_natCast,Nat.mul_one] at this
 exact this
def RpPost (n:Nat) (z:Int) (w:World) (e:Ending) (w':World):Prop:=∃ g,e = .returned (.slice (some ⟨g,0,none⟩) n n)∧w.heap.size≤g∧(∃ cur:List Value,w'.heap[g]? = some (.cells cur.toArray 2 (0,0))∧∀ i,i < n→cur[i]? = some (.int .i64 z))∧Below w.heap.size w w'
set_option maxRecDepth 100000 in
set_option maxHeartbeats 4000000 in
theorem Bk.repeat1 {w:World} {b o c:Nat} {z:Int} (hx:w.cell? ⟨b,o,none⟩ = some (.int .i64 z)) (n:Nat) (hn1:1≤n) (hn:n≤15):Calls Tryz.prog 98 #[.slice (some ⟨b,o,none⟩) 1 c,.int .i64 n] w (RpPost n z w):=by
 have HM:=Lib.hid (fun W => Bk.mul_1 n hn1 hn W)
 have hmk:=Bk.makeN64 n (by omega) w
 have hsz:(Tryz.prog.info? 2).map (·.size) = some 1:=by kernel_rfl
 have hnz:¬ (n:Int) < 0:=by omega
 have hnb:¬ (9223372036854775807:Int) < (n:Int):=by omega
 have hnc:(n:Int)≤15:=by omega
 obtain ⟨cur0,hc0,hl0⟩:∃ cur0:List Value,madeCells #[.int .i64 0] n = cur0.toArray∧cur0.length = n:=⟨(madeCells #[.int .i64 0] n).toList,by simp,by simp [madeCells]⟩
 rw [hc0] at hmk
 have hg0:(w.alloc (.cells cur0.toArray 2)).heap[w.heap.size]? = some (.cells cur0.toArray 2 (0,0)):=heap_alloc_new _ _
 have hb0:=(Below.refl w.heap.size w).alloc (Nat.le_refl _) (.cells cur0.toArray 2)
 have hx0:=Bk.kept hb0 hx
 have HX0:=Lib.hid hx0
 have HG0:=Lib.hid hg0
 have HB0:=Lib.hid hb0
 clear hg0 hb0 hc0 hx0 hx
 go_enter Tryz.func98,Tryz.ntmps98
 go_wp2_with fail
 refine (HM.out _).mono ?_
 rintro e w1 ⟨rfl,rfl⟩
 go_wp2_with (refine wpList_copy_splice rfl (.tmp 31) (.tmp 32) 70 70 rfl 2 Tryz.underlying70 hsz (some ⟨w1.heap.size,0,none⟩) (some ⟨b,o,none⟩) n n 1 c rfl rfl w1.heap.size 0 cur0 2 HG0.out [.int .i64 z] ?c1 ?c2 ?c3 ?c4 w1.heap.size w1 HB0.out (Nat.le_refl _) ?_)
 case c1 => simp [Nat.min_def]; omega
 case c2 =>
  have hq:∀ (j:Nat) (v:Value),([.int .i64 z]:List Value)[j]? = some v→(w1.alloc (.cells cur0.toArray 2)).cell? ⟨b,o + j,none⟩ = some v:=fun j v hv => by
   cases j with
   | zero => cases hv; exact HX0.out
   | succ j => simp at hv
  first | exact hq | exact fun _ => ⟨rfl,_,rfl,hq⟩
 case c3 => simp; omega
 case c4 => intro v hv; simp at hv; subst hv; rfl
 intro w2 hg2 hb2
 have HB2:=Lib.hid hb2
 clear hb2 HB0 HG0 HX0 hmk
 go_wp2
 go_loopw [8] (fun i wr => ∃ (k:Nat) (cur:List Value),1≤k∧k≤n∧i = .int .i64 k∧Hid (wr.heap[w1.heap.size]? = some (.cells cur.toArray 2 (0,0)))∧cur.length = n∧Hid (∀ i,i < k→cur[i]? = some (.int .i64 z))∧Hid (Below w1.heap.size w1 wr)) (fun i _ => n - (intOf i).toNat)
 case atStart => exact ⟨1,_,by omega,hn1,rfl,hg2,by rw [length_splice _ _ _ (by simp; omega)]; exact hl0,Lib.hid (fun i hi => by
  have hi0:i = 0:=by omega
  subst hi0
  simp [splice]),HB2⟩
 case round =>
  clear hg2 HB2
  obtain ⟨k,cur,hk1,hk2,rfl,HG,hcl,HC,HB⟩:=hrel
  by_cases hlt:k < n
  · have q2:(k:Int) < (n:Int):=by omega
    have hkz:(k:Int)≤(n:Int):=by omega
    obtain ⟨m,hm⟩:∃ m:Nat,m = Nat.min k (n - k):=⟨_,rfl⟩
    have hm0:m = min k (n - k):=hm
    have hm1:1≤m∧m≤k∧k + m≤n:=by omega
    have hnk:¬ n = k:=by omega
    have hnk2:¬ k = n:=by omega
    have HM2:=Lib.hid hm
    have hsp:∀ i,i < k + m→(splice cur k (List.replicate m (.int .i64 z)))[i]? = some (.int .i64 z):=by
     intro i hi
     unfold splice
     by_cases e:i < k
     · rw [List.getElem?_append_left (by simp; omega),List.getElem?_take_of_lt e]; exact HC.out i e
     · rw [List.getElem?_append_right (by simp; omega),List.getElem?_append_left (by simp; omega)]
       rw [List.getElem?_replicate]
       simp
       omega
    have hsl:(splice cur k (List.replicate m (.int .i64 z))).length = n:=by rw [length_splice _ _ _ (by simp; omega)]; exact hcl
    have HSP:=Lib.hid (And.intro hsp hsl)
    have hsrc:∀ (j:Nat) (v:Value),(List.replicate m (Value.int .i64 z))[j]? = some v→wr.drew.cell? ⟨w1.heap.size,0 + j,none⟩ = some v:=fun j v hv => by
     have hj:j < m:=by have:=(List.getElem?_eq_some_iff.1 hv).1; simpa using this
     rw [List.getElem?_replicate,if_pos hj] at hv
     cases hv
     have:=cell_of_row wr w1.heap.size j _ _ _ HG.out
     rw [Nat.zero_add]
     exact this.trans (by simpa using HC.out j (by omega))
    have HSR:=Lib.hid hsrc
    clear hsp hsl hm hm0 hsrc
    have hwr:IntKind.i64.wrap ((k:Int) + (m:Int)) = (k:Int) + (m:Int):=by rw [IntKind.wrap_i64]; omega
    have HWR:=Lib.hid hwr
    clear hwr
    go_wp2_with fail
    go_region_law (first
      | (refine step_copy_splice rfl (.tmp 41) (.tmp 44) 70 70 rfl 2 Tryz.underlying70 hsz (some ⟨w1.heap.size,k,none⟩) (some ⟨w1.heap.size,0,none⟩) (n - k) (n - k) k n ?d1 ?d2 w1.heap.size k cur 2 HG.out (List.replicate m (.int .i64 z)) ?d3 ?d4 ?d5 ?d6 w1.heap.size w1 HB.out.drew (Nat.le_refl _) ?_
         · simp [Act.eval,go_sem]
         · simp [Act.eval,go_sem]
         · simp; exact HM2.out
         · exact fun _ => ⟨rfl,_,rfl,fun j v hv => by rw [WideShapes.add_plain]; exact HSR.out j v hv⟩
         · simp; omega
         · intro v hv; rw [List.eq_of_mem_replicate hv]; rfl
         intro w5 hg5 hb5
         replace hb5:=Lib.hid hb5))
    all_goals
      have hwr:=HWR.out
      (try go_simp)
      (try go_wp2)
      clear hwr
      go_roundw
      case rel => exact ⟨k + m,_,by omega,by omega,by go_num,hg5,HSP.out.2,Lib.hid HSP.out.1,hb5⟩
      case measure => simp [intOf]; omega
  · obtain rfl:k = n:=by omega
    go_wp2
    go_ret
    exact ⟨_,rfl,Nat.le_refl _,⟨cur,HG.out,HC.out⟩,HB.out⟩
end Go.Proofs.YtgcnnbjbdfgglaaGreat
