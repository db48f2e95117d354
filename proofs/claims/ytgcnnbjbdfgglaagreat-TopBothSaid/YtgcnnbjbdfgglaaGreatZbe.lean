/- LAW TopBoth: of every configuration of a bank and every list of byte strings the given function TopBoth returns true and leaves its arguments as they were; no condition. A part of what it needs. -/
import Derived.Test.YtgcnnbjbdfgglaaGreatZbd
import Derived.Deep.CutBlock
import Derived.Deep.RegionHeld3
import Derived.BigQuiet
namespace Go.Proofs.YtgcnnbjbdfgglaaGreat
open Go.RowKit
def membersOf (k n1 n3:Int):List Int:=if k = 1 then [n1,n3] else if k = 2∨k = 3∨k = 7∨k = 9 then [n1] else []
def WhoPost (k n1 n3:Int) (s:Bnk) (w:World) (e:Ending) (w':World):Prop:=∃ c:Int,e = .returned (.int .i64 c)∧(c = 0∨c = 5∨c = 11)∧Below w.heap.size w w'∧(c = 0→∀ m ∈ membersOf k n1 n3,m < s.N∧(k ≠ 9→s.fl m.toNat = false))∧((∀ m ∈ membersOf k n1 n3,m < s.N∧s.fl m.toNat = false)→c = 0)
theorem ids_lit1 (w:World) (a:Int):IdsAt (w.alloc (.cells #[.int .i64 a] 3)) (.slice (some ⟨w.heap.size,0,none⟩) 1 1) [a] :=
 ⟨_,_,rfl,fun _ => ⟨_,0,rfl,fun i hi => by
  obtain rfl:i = 0:=by simpa using hi
  exact (Blk.new w 3 #[.int .i64 a]).cell 0⟩⟩
theorem ids_lit2 (w:World) (a b:Int):IdsAt (w.alloc (.cells #[.int .i64 a,.int .i64 b] 3)) (.slice (some ⟨w.heap.size,0,none⟩) 2 2) [a,b] :=
 ⟨_,_,rfl,fun _ => ⟨_,0,rfl,fun i hi => by
  have:i = 0∨i = 1:=by simp at hi; omega
  rcases this with rfl | rfl
  · exact (Blk.new w 3 #[.int .i64 a,.int .i64 b]).cell 0
  · exact (Blk.new w 3 #[.int .i64 a,.int .i64 b]).cell 1⟩⟩
theorem ids_nil (w:World):IdsAt w (.slice none 0 0) []:=⟨_,_,rfl,fun h => absurd h (by simp)⟩
set_option maxRecDepth 100000 in
set_option maxHeartbeats 16000000 in
theorem Bk.who {w:World} {q:Qh} {s:Bnk} (a:BkAt w q s) (k n1 n2 n3 n4 n5 n6 n7:Int) (hk:1≤k∧k≤9) (h1:0≤n1) (h3:0≤n3) :
    Calls Tryz.prog 58 #[.pointer (some ⟨q.b,0,none⟩),.agg #[.int .i64 k,.int .i64 n1,.int .i64 n2,.int .i64 n3,.int .i64 n4,.int .i64 n5,.int .i64 n6,.int .i64 n7]] w (WhoPost k n1 n3 s w):=by
 have hk':k = 1∨k = 2∨k = 3∨k = 4∨k = 5∨k = 6∨k = 7∨k = 8∨k = 9:=by omega
 have HK:=Lib.hid hk'
 have HA:=Lib.hid a
 have HB0:=Lib.hid ((Below.refl w.heap.size w).alloc (Nat.le_refl _) (.cells #[.int .i64 k,.int .i64 n1,.int .i64 n2,.int .i64 n3,.int .i64 n4,.int .i64 n5,.int .i64 n6,.int .i64 n7] 54))
 have HX0:=Lib.hid (Blk.new w 54 #[.int .i64 k,.int .i64 n1,.int .i64 n2,.int .i64 n3,.int .i64 n4,.int .i64 n5,.int .i64 n6,.int .i64 n7])
 have HM:=Lib.hid (show ∀ m ∈ membersOf k n1 n3,0≤m from fun m hm => by
  unfold membersOf at hm
  split at hm
  · simp at hm; rcases hm with rfl | rfl <;> assumption
  · split at hm
    · simp at hm; subst hm; assumption
    · simp at hm)
 have HML:=Lib.hid (show (membersOf k n1 n3).length≤2 by unfold membersOf; split; simp; split <;> simp)
 clear a hk hk' h1 h3
 go_enter Tryz.func58,Tryz.ntmps58
 go_upto_block 0 with (fail)
 generalize w.alloc (.cells #[.int .i64 k,.int .i64 n1,.int .i64 n2,.int .i64 n3,.int .i64 n4,.int .i64 n5,.int .i64 n6,.int .i64 n7] 54) = w1 at *
 have x0:w1.cell? ⟨w.heap.size,0,none⟩ = some (.int .i64 k):=(HX0.out.cell 0).trans rfl
 have x1:w1.cell? ⟨w.heap.size,1,none⟩ = some (.int .i64 n1):=(HX0.out.cell 1).trans rfl
 have x3:w1.cell? ⟨w.heap.size,3,none⟩ = some (.int .i64 n3):=(HX0.out.cell 3).trans rfl
 go_cut [5] from 10 to 26 (fun lv wc => Hid (IdsAt wc lv (membersOf k n1 n3))∧Hid (Below w.heap.size w wc)∧Hid (wc.cell? ⟨w.heap.size,0,none⟩ = some (.int .i64 k)))
 case first =>
  have hk':=HK.out
  have HA1:=Lib.hid (HB0.out.alloc HB0.out.size (.cells #[.int .i64 n1] 3))
  have HA2:=Lib.hid (HB0.out.alloc HB0.out.size (.cells #[.int .i64 n1,.int .i64 n3] 3))
  have HL1:=Lib.hid (ids_lit1 w1 n1)
  have HL2:=Lib.hid (ids_lit2 w1 n1 n3)
  have HC1:=Lib.hid (fun k (x:w1.cell? ⟨w.heap.size,0,none⟩ = some (.int .i64 k)) => Bk.kept ((Below.refl w1.heap.size w1).alloc (Nat.le_refl _) (.cells #[.int .i64 n1] 3)) x)
  have HC2:=Lib.hid (fun k (x:w1.cell? ⟨w.heap.size,0,none⟩ = some (.int .i64 k)) => Bk.kept ((Below.refl w1.heap.size w1).alloc (Nat.le_refl _) (.cells #[.int .i64 n1,.int .i64 n3] 3)) x)
  rcases hk' with rfl | rfl | rfl | rfl | rfl | rfl | rfl | rfl | rfl
  all_goals (go_wp2_with fail; go_meet)
  all_goals first
    | exact ⟨Lib.hid HL1.out,HA1,Lib.hid (HC1.out _ x0)⟩
    | exact ⟨Lib.hid HL2.out,HA2,Lib.hid (HC2.out _ x0)⟩
    | exact ⟨Lib.hid (ids_nil _),HB0,Lib.hid x0⟩
 case rest =>
  obtain ⟨HL,HB,HX⟩:=hcut
  generalize hms:membersOf k n1 n3 = ms at *
  have HMS:=Lib.hid hms
  clear x0 x1 x3 HB0 HX0 hms
  obtain ⟨la,lc,rfl,hlc⟩:=HL.out
  have HLC:=Lib.hid hlc
  clear hlc
  have hml:=HML.out
  go_wp2
  go_loopw [7,29] (fun _ i wr => ∃ j:Nat,j≤ms.length∧i = .int .i64 j∧Hid (∀ z,z < j→ms.getD z 0 < s.N)∧wr = wc) (fun _ i _ => ms.length - (intOf i).toNat)
  case atStart => exact ⟨0,by omega,rfl,Lib.hid (fun z hz => by omega),rfl⟩
  case round =>
   obtain ⟨j,hj,rfl,HZ,rfl⟩:=hrel
   by_cases hlt:j < ms.length
   · have q1:(j:Int) < (ms.length:Int):=by omega
     obtain ⟨b,o,rfl,h2⟩:=HLC.out (by omega)
     have c1:=h2 j hlt
     clear h2
     have hmem:ms.getD j 0 ∈ membersOf k n1 n3:=by rw [HMS.out,List.getD_eq_getElem?_getD,List.getElem?_eq_getElem hlt]; exact List.getElem_mem hlt
     have HME:=Lib.hid hmem
     clear hmem
     have c6:=(HA.out.below HB.out).c6
     have HZ2:=Lib.hid (show ∀ m:Int,ms.getD j 0 = m→m < s.N→∀ z,z < j + 1→ms.getD z 0 < s.N from fun m hm hmN z hz => by
      by_cases e:z = j
      · subst e; rw [hm]; exact hmN
      · exact HZ.out z (by omega))
     generalize ms.getD j 0 = m at *
     by_cases hge:(s.N:Int)≤m
     · have d1:decide ((s.N:Int)≤m) = true:=decide_eq_true hge
       go_wp2
       go_ret
       exact ⟨5,rfl,by omega,HB.out,fun h => by omega,fun hall => by have:=(hall _ HME.out).1; omega⟩
     · have HZ3:=Lib.hid (HZ2.out m rfl (by omega))
       have d1:decide ((s.N:Int)≤m) = false:=decide_eq_false hge
       go_wp2
       go_roundw
       case rel => exact ⟨j + 1,by omega,by go_num,HZ3,trivial⟩
       case measure => simp [intOf]; omega
   · obtain rfl:j = ms.length:=by omega
     have HALL:=Lib.hid (show ∀ m ∈ ms,m < s.N from fun m hm => by
      obtain ⟨i,hi,e⟩:=List.getElem_of_mem hm
      have:=HZ.out i hi
      rw [List.getD_eq_getElem?_getD,List.getElem?_eq_getElem hi,e] at this
      exact this)
     have hx0:=HX.out
     by_cases h9:k = 9
     · have h9b:(k == 9) = true:=by simp [h9]
       go_wp2
       go_ret
       exact ⟨0,rfl,by omega,HB.out,fun _ m hm => ⟨HALL.out m (by rw [HMS.out] at hm; exact hm),fun h => absurd h9 h⟩,fun _ => rfl⟩
     · have h9b:(k == 9) = false:=by simp [h9]
       have H9:=Lib.hid h9
       clear h9
       go_wp2
       go_loopw [9,45] (fun _ i wx => ∃ j:Nat,j≤ms.length∧i = .int .i64 j∧Hid (∀ z,z < j→s.fl (ms.getD z 0).toNat = false)∧wx = wr) (fun _ i _ => ms.length - (intOf i).toNat)
       case atStart => exact ⟨0,by omega,rfl,Lib.hid (fun z hz => by omega),rfl⟩
       case round =>
        obtain ⟨j,hj,rfl,HZZ,rfl⟩:=hrel
        by_cases hlt:j < ms.length
        · have q1:(j:Int) < (ms.length:Int):=by omega
          obtain ⟨b,o,rfl,h2⟩:=HLC.out (by omega)
          have c1:=h2 j hlt
          have HMF:=Lib.hid (show (∀ m ∈ membersOf k n1 n3,m < s.N∧s.fl m.toNat = false)→s.fl (ms.getD j 0).toNat = false from fun hall => (hall _ (by rw [HMS.out,List.getD_eq_getElem?_getD,List.getElem?_eq_getElem hlt]; exact List.getElem_mem hlt)).2)
          have hmem:ms.getD j 0 ∈ ms:=by rw [List.getD_eq_getElem?_getD,List.getElem?_eq_getElem hlt]; exact List.getElem_mem hlt
          have hm0:=HM.out _ hmem
          have hmN:=HALL.out _ hmem
          have c12:=(HA.out.below HB.out).c12
          have HZ2:=Lib.hid (show ∀ m:Int,ms.getD j 0 = m→s.fl m.toNat = false→∀ z,z < j + 1→s.fl (ms.getD z 0).toNat = false from fun m hm hf z hz => by
           by_cases e:z = j
           · subst e; rw [hm]; exact hf
           · exact HZZ.out z (by omega))
          generalize ms.getD j 0 = m at *
          obtain ⟨mn,rfl⟩:∃ mn:Nat,m = mn:=⟨m.toNat,by omega⟩
          have cf:=(HA.out.below HB.out).flc (i:=mn) (by omega)
          cases hfl:s.fl mn with
          | true =>
           rw [hfl] at cf
           have HFT:=Lib.hid hfl
           clear hfl h2 hmem
           go_wp2
           go_ret
           exact ⟨11,rfl,by omega,HB.out,fun h => by omega,fun hall => by have h1:=HMF.out hall; rw [Int.toNat_natCast,HFT.out] at h1; cases h1⟩
          | false =>
           rw [hfl] at cf
           have HZ3:=Lib.hid (HZ2.out mn rfl (by rw [Int.toNat_natCast]; exact hfl))
           clear hfl h2 hmem
           go_wp2
           go_roundw
           case rel => exact ⟨j + 1,by omega,by go_num,HZ3,trivial⟩
           case measure => simp [intOf]; omega
        · obtain rfl:j = ms.length:=by omega
          go_wp2
          go_ret
          exact ⟨0,rfl,by omega,HB.out,fun _ m hm => ⟨HALL.out m (by rw [HMS.out] at hm; exact hm),fun _ => by
           rw [HMS.out] at hm
           obtain ⟨i,hi,e⟩:=List.getElem_of_mem hm
           have:=HZZ.out i hi
           rw [List.getD_eq_getElem?_getD,List.getElem?_eq_getElem hi,e] at this
           exact this⟩,fun _ => rfl⟩
end Go.Proofs.YtgcnnbjbdfgglaaGreat
namespace Go.Proofs.YtgcnnbjbdfgglaaGreat
open Go.RowKit
abbrev cmdC (k n1 n2 n3 n4 n5 n6 n7:Int):Array Value:=#[.int .i64 k,.int .i64 n1,.int .i64 n2,.int .i64 n3,.int .i64 n4,.int .i64 n5,.int .i64 n6,.int .i64 n7]
abbrev rep0:Array Value:=#[.int .i64 0,.int .i64 0,.slice none 0 0]
structure Beg (w:World) (q:Qh) (s:Bnk) (k n1 n2 n3 n4 n5 n6 n7:Int) (w1:World):Prop where
  a:BkAt w1 q s
  b:Below w.heap.size w w1
  sz:w.heap.size + 1 < w1.heap.size
  c:Blk w1 w.heap.size 54 (cmdC k n1 n2 n3 n4 n5 n6 n7)
  r:Blk w1 (w.heap.size + 1) 49 rep0
theorem Beg.new {w:World} {q:Qh} {s:Bnk} (a:BkAt w q s) (k n1 n2 n3 n4 n5 n6 n7:Int):Beg w q s k n1 n2 n3 n4 n5 n6 n7 ((w.alloc (.cells (cmdC k n1 n2 n3 n4 n5 n6 n7) 54)).alloc (.cells rep0 49)) :=
 have hb:=((Below.refl w.heap.size w).alloc (Nat.le_refl _) (.cells (cmdC k n1 n2 n3 n4 n5 n6 n7) 54)).alloc (by simp) (.cells rep0 49)
 ⟨a.below hb,hb,by simp,(Blk.new w 54 (cmdC k n1 n2 n3 n4 n5 n6 n7)).alloc _,by
  have h:=Blk.new (w.alloc (.cells (cmdC k n1 n2 n3 n4 n5 n6 n7) 54)) 49 rep0
  rwa [World.size_alloc] at h⟩
theorem Beg.below {w:World} {q:Qh} {s:Bnk} {k n1 n2 n3 n4 n5 n6 n7:Int} {w1 w2:World} (h:Beg w q s k n1 n2 n3 n4 n5 n6 n7 w1) (hb:Below w1.heap.size w1 w2):Beg w q s k n1 n2 n3 n4 n5 n6 n7 w2 :=
 ⟨h.a.below hb,h.b.trans (hb.mono h.b.size),by have:=h.sz; have:=hb.size; omega,h.c.below hb,h.r.below hb⟩
structure Mid (w:World) (q:Qh) (s:Bnk) (w':World) (q':Qh) (s':Bnk):Prop where
  a:BkAt w' q' s'
  b:BkSt w q w' q' s.d.L.n
  n:BnkSt s s'
  sz:w.heap.size + 1 < w'.heap.size
  own:¬ q'.own s.d.L.n (w.heap.size + 1)
  r:Blk w' (w.heap.size + 1) 49 rep0
theorem Beg.mid {w:World} {q:Qh} {s:Bnk} (a:BkAt w q s) {k n1 n2 n3 n4 n5 n6 n7:Int} {w1 w':World} {q':Qh} {s':Bnk} (h:Beg w q s k n1 n2 n3 n4 n5 n6 n7 w1) (a':BkAt w' q' s') (b:BkSt w1 q w' q' s.d.L.n) (n:BnkSt s s'):Mid w q s w' q' s' :=
 ⟨a',(BkSt.of_below h.b q _).trans b,n,Nat.lt_of_lt_of_le h.sz b.kept.size,b.none a (by omega) h.sz,blk_bk b h.r (fun ho => by have:=a.ownlt ho; omega)⟩
theorem Mid.below {w:World} {q:Qh} {s:Bnk} {w' w2:World} {q':Qh} {s':Bnk} (m:Mid w q s w' q' s') (hb:Below w'.heap.size w' w2):Mid w q s w2 q' s' :=
 ⟨m.a.below hb,m.b.trans (BkSt.of_below hb q' _),m.n,Nat.lt_of_lt_of_le m.sz hb.size,m.own,m.r.below hb⟩
theorem Mid.step {w:World} {q:Qh} {s:Bnk} {w' w2:World} {q' q2:Qh} {s' s2:Bnk} (m:Mid w q s w' q' s') (a2:BkAt w2 q2 s2) (b0:BkSt w' q' w2 q2 s'.d.L.n) (n:BnkSt s' s2):Mid w q s w2 q2 s2 :=
 have b:BkSt w' q' w2 q2 s.d.L.n:=m.n.L ▸ b0
 have b2:=m.b.trans b
 ⟨a2,b2,m.n.trans n,Nat.lt_of_lt_of_le m.sz b.kept.size,fun ho => by
  rcases b.own _ ho with h | h
  · exact m.own h
  · have:=m.sz; omega,blk_bk b m.r m.own⟩
theorem Mid.done {w:World} {q:Qh} {s:Bnk} {w':World} {q':Qh} {s':Bnk} {Q:Int→Int→List Int→Bnk→Prop} (m:Mid w q s w' q' s') {E V:Int} (h0:0≤E) (h1:E≤12) (hv:In64 V) {iv:Value} {zs:List Int} (hr:w'.ownsRow (w.heap.size + 2) 3 1 iv zs.length (ints zs)) (hz:IdsOk zs) (hq:Q E V zs s') (v0 v1 v2:Value) :
    DoPost q s Q w (.returned (.agg #[.int .i64 E,.int .i64 V,iv])) (((w'.setCell ⟨w.heap.size + 1,0,none⟩ v0).setCell ⟨w.heap.size + 1,1,none⟩ v1).setCell ⟨w.heap.size + 1,2,none⟩ v2) :=
 DoPost.of m.a m.b m.n (by omega) m.own h0 h1 hv (own_wk hr (by omega)) (fun k hk e => by have:=own_ge hr hk; omega) hz hq v0 v1 v2
theorem Mid.row {w w':World}:w'.ownsRow (w.heap.size + 2) 3 1 (.slice none 0 0) ([]:List Int).length (ints []):=World.ownsRow_nil _ _ _ _
theorem ids_ok0:IdsOk []:=⟨by simp,by simp⟩
theorem cell_set3 {w:World} {p:Addr} {v:Value} (h:w.cell? p = some v) {X:Nat} (hne:p.block ≠ X) (v0 v1 v2:Value):(((w.setCell ⟨X,0,none⟩ v0).setCell ⟨X,1,none⟩ v1).setCell ⟨X,2,none⟩ v2).cell? p = some v:=by
 rw [World.cell?_of_block (heap_set3 w hne v0 v1 v2)]
 exact h
theorem in0:In64 0:=by unfold In64; omega
theorem in1:In64 1:=by unfold In64; omega
theorem DoPost.below {q:Qh} {s:Bnk} {Q:Int→Int→List Int→Bnk→Prop} {w w' w2:World} {e:Ending} (p:DoPost q s Q w e w') (hb:Below w'.heap.size w' w2):DoPost q s Q w e w2:=by
 obtain ⟨E,V,iv,zs,q',s',rfl,h0,h1,hv,hr,hz,ha,hs,hn,hq⟩:=p
 exact ⟨E,V,iv,zs,q',s',rfl,h0,h1,hv,own_below hr hb,hz,ha.below hb,hs.trans (BkSt.of_below hb q' _),hn,hq⟩
set_option maxRecDepth 100000 in
set_option maxHeartbeats 4000000 in
theorem Bk.bsubmit {w:World} {q:Qh} {s:Bnk} (a:BkAt w q s) (k n1 n2 n3 n4 n5 n6 n7:Int) (h2:In64 n2) (h6:n6≤9223372036854775807) (h7:n7≤9223372036854775807) (hf:s.fl n1.toNat = false∧s.fl n3.toNat = false) :
    Calls Tryz.prog 104 #[.pointer (some ⟨q.b,0,none⟩),.agg (cmdC k n1 n2 n3 n4 n5 n6 n7)] w (DoPost q s (fun _ _ _ _ => True) w):=by
 have HA:=Lib.hid a
 have HB:=Lib.hid (Beg.new a k n1 n2 n3 n4 n5 n6 n7)
 have HF:=Lib.hid (And.intro h2 (And.intro h6 (And.intro h7 hf)))
 clear a h2 h6 h7 hf
 go_enter Tryz.func104,Tryz.ntmps104
 go_upto_region 1 with (fail)
 generalize ((w.alloc (.cells #[.int .i64 k,.int .i64 n1,.int .i64 n2,.int .i64 n3,.int .i64 n4,.int .i64 n5,.int .i64 n6,.int .i64 n7] 54)).alloc (.cells #[.int .i64 0,.int .i64 0,.slice none 0 0] 49)) = w1 at *
 have c9:=HB.out.a.c9
 have x1:w1.cell? ⟨w.heap.size,1,none⟩ = some (.int .i64 n1):=(HB.out.c.cell 1).trans rfl
 have x2:w1.cell? ⟨w.heap.size,2,none⟩ = some (.int .i64 n2):=(HB.out.c.cell 2).trans rfl
 have x3:w1.cell? ⟨w.heap.size,3,none⟩ = some (.int .i64 n3):=(HB.out.c.cell 3).trans rfl
 have x4:w1.cell? ⟨w.heap.size,4,none⟩ = some (.int .i64 n4):=(HB.out.c.cell 4).trans rfl
 have x5:w1.cell? ⟨w.heap.size,5,none⟩ = some (.int .i64 n5):=(HB.out.c.cell 5).trans rfl
 have x6:w1.cell? ⟨w.heap.size,6,none⟩ = some (.int .i64 n6):=(HB.out.c.cell 6).trans rfl
 have x7:w1.cell? ⟨w.heap.size,7,none⟩ = some (.int .i64 n7):=(HB.out.c.cell 7).trans rfl
 have HB1:=Lib.hid (HB.out.below (Below.refl w1.heap.size w1).drew)
 have HS:=Lib.hid (Bk.submit HB1.out.a.ps.bo ⟨n2,n1,n3,n4,n5,n6,n7,1,0,0⟩ HF.out.1 HF.out.2.1 HF.out.2.2.1 rfl rfl rfl)
 have HK:=Lib.hid (show ∀ (e:Ending) (w3:World),SubPost q.k s.B ⟨n2,n1,n3,n4,n5,n6,n7,1,0,0⟩ w1.drew e w3→∃ (m:Bool) (c:Int) (q':Qh) (s':Bnk),e = .returned (.tuple #[.bool m,.int .i64 c])∧(0≤c∧c≤12)∧Mid w q s w3 q' s'∧w3.cell? ⟨q.b,9,none⟩ = some (.pointer (some ⟨q.k.b,0,none⟩))∧Blk w3 w.heap.size 54 (cmdC k n1 n2 n3 n4 n5 n6 n7) from by
  rintro e w3 ⟨m,c,B',k',rfl,hc,hb3,hs3,hst3⟩
  obtain ⟨hp3,hS3⟩:=HB1.out.a.ps.bstep hb3 hs3 hst3.mem
  obtain ⟨ha3,hb3',hn3⟩:=HB1.out.a.step2 hp3 hS3 ⟨rfl,rfl⟩ HB1.out.a.good hst3 (HB1.out.a.gone.step hst3 (fun y hy => by rw [hy.1,hy.2]; exact HF.out.2.2.2))
  refine ⟨m,c,_,_,rfl,hc,HB1.out.mid HA.out ha3 hb3' hn3,?_,blk_bk hb3' HB1.out.c (fun ho => by have:=HA.out.ownlt ho; omega)⟩
  have h9:=ha3.c9
  rw [show ({ q with h:=q.h,k:=k' }:Qh).k.b = q.k.b from hs3.b] at h9
  exact h9)
 go_region_held3 (fun wx => wx.cell? ⟨q.b,9,none⟩ = some (.pointer (some ⟨q.k.b,0,none⟩))∧wx.cell? ⟨w.heap.size,1,none⟩ = some (.int .i64 n1)∧wx.cell? ⟨w.heap.size,2,none⟩ = some (.int .i64 n2)∧wx.cell? ⟨w.heap.size,3,none⟩ = some (.int .i64 n3)∧wx.cell? ⟨w.heap.size,4,none⟩ = some (.int .i64 n4)∧wx.cell? ⟨w.heap.size,5,none⟩ = some (.int .i64 n5)∧wx.cell? ⟨w.heap.size,6,none⟩ = some (.int .i64 n6)∧wx.cell? ⟨w.heap.size,7,none⟩ = some (.int .i64 n7))
   (first | exact ⟨c9,x1,x2,x3,x4,x5,x6,x7⟩ | exact ⟨h9,(hcc.cell 1).trans rfl,(hcc.cell 2).trans rfl,(hcc.cell 3).trans rfl,(hcc.cell 4).trans rfl,(hcc.cell 5).trans rfl,(hcc.cell 6).trans rfl,(hcc.cell 7).trans rfl⟩)
   (first
     | (go_at_call 145; refine HS.out.mono ?_; intro e w3 hpost; obtain ⟨m,c,q',s',rfl,hc,hm,h9,hcc⟩:=HK.out e w3 hpost; clear hpost))
 have HM:=Lib.hid hm
 have HC:=Lib.hid hc
 clear hm hc h9 hcc c9 x1 x2 x3 x4 x5 x6 x7 HS HK HB HB1
 have x0:=(HM.out.r.cell 0).trans (show _ = some (.int .i64 0) from rfl)
 have f0:=HM.out.r.frozen 0
 have x1:=(HM.out.r.cell 1).trans (show _ = some (.int .i64 0) from rfl)
 have f1:=HM.out.r.frozen 1
 have x2:=(HM.out.r.cell 2).trans (show _ = some (.slice none 0 0) from rfl)
 have f2:=HM.out.r.frozen 2
 have hlt:=HM.out.sz
 cases m with
 | true =>
  go_wp2
  exact bodyPost_ret (results_row1 rfl _ _ _ (w.heap.size + 1) _ _ rfl ((blk_set3 HM.out.r (.int .i64 c) (.int .i64 1) (.slice none 0 0)).alloc _).range Tryz.underlying49 rfl (by kernel_rfl)) rfl ((HM.out.done HC.out.1 HC.out.2 in1 Mid.row ids_ok0 trivial _ _ _).below ((Below.refl _ _).alloc (Nat.le_refl _) _))
 | false =>
  go_wp2
  exact bodyPost_ret (results_row1 rfl _ _ _ (w.heap.size + 1) _ _ rfl ((blk_set3 HM.out.r (.int .i64 c) (.int .i64 0) (.slice none 0 0)).alloc _).range Tryz.underlying49 rfl (by kernel_rfl)) rfl ((HM.out.done HC.out.1 HC.out.2 in0 Mid.row ids_ok0 trivial _ _ _).below ((Below.refl _ _).alloc (Nat.le_refl _) _))
set_option maxRecDepth 100000 in
set_option maxHeartbeats 4000000 in
theorem Bk.brescind {w:World} {q:Qh} {s:Bnk} (a:BkAt w q s) (k n1 n2 n3 n4 n5 n6 n7:Int) (h2:In64 n2) :
    Calls Tryz.prog 105 #[.pointer (some ⟨q.b,0,none⟩),.agg (cmdC k n1 n2 n3 n4 n5 n6 n7)] w (DoPost q s (fun _ _ _ _ => True) w):=by
 have HA:=Lib.hid a
 have HB:=Lib.hid (Beg.new a k n1 n2 n3 n4 n5 n6 n7)
 have HF:=Lib.hid h2
 clear a h2
 go_enter Tryz.func105,Tryz.ntmps105
 go_upto_region 1 with (fail)
 generalize ((w.alloc (.cells #[.int .i64 k,.int .i64 n1,.int .i64 n2,.int .i64 n3,.int .i64 n4,.int .i64 n5,.int .i64 n6,.int .i64 n7] 54)).alloc (.cells #[.int .i64 0,.int .i64 0,.slice none 0 0] 49)) = w1 at *
 have c9:=HB.out.a.c9
 have x1:w1.cell? ⟨w.heap.size,1,none⟩ = some (.int .i64 n1):=(HB.out.c.cell 1).trans rfl
 have x2:w1.cell? ⟨w.heap.size,2,none⟩ = some (.int .i64 n2):=(HB.out.c.cell 2).trans rfl
 have HB1:=Lib.hid (HB.out.below (Below.refl w1.heap.size w1).drew)
 have HS:=Lib.hid (Bk.rescind HB1.out.a.ps.bo n1 n2 HF.out)
 have HK:=Lib.hid (show ∀ (e:Ending) (w3:World),BPost q.k s.B (fun e _ => ∃ s c,e = .returned (.tuple #[.int .i64 s,.int .i64 c])∧0≤s∧s≤4∧0≤c∧c≤12) w1.drew e w3→∃ (m c:Int) (q':Qh) (s':Bnk),e = .returned (.tuple #[.int .i64 m,.int .i64 c])∧(0≤c∧c≤12∧In64 m)∧Mid w q s w3 q' s'∧w3.cell? ⟨q.b,9,none⟩ = some (.pointer (some ⟨q.k.b,0,none⟩))∧Blk w3 w.heap.size 54 (cmdC k n1 n2 n3 n4 n5 n6 n7) from by
  rintro e w3 ⟨B',k',hb3,hs3,hst3,m,c,rfl,hm0,hm4,hc0,hc1⟩
  obtain ⟨hp3,hS3⟩:=HB1.out.a.ps.bstep hb3 hs3 hst3.mem
  obtain ⟨ha3,hb3',hn3⟩:=HB1.out.a.step2 hp3 hS3 ⟨rfl,rfl⟩ HB1.out.a.good hst3 (HB1.out.a.gone.step hst3 (fun y hy => hy.elim))
  refine ⟨m,c,_,_,rfl,⟨hc0,hc1,by unfold In64; omega⟩,HB1.out.mid HA.out ha3 hb3' hn3,?_,blk_bk hb3' HB1.out.c (fun ho => by have:=HA.out.ownlt ho; omega)⟩
  have h9:=ha3.c9
  rw [show ({ q with h:=q.h,k:=k' }:Qh).k.b = q.k.b from hs3.b] at h9
  exact h9)
 go_region_held3 (fun wx => wx.cell? ⟨q.b,9,none⟩ = some (.pointer (some ⟨q.k.b,0,none⟩))∧wx.cell? ⟨w.heap.size,1,none⟩ = some (.int .i64 n1)∧wx.cell? ⟨w.heap.size,2,none⟩ = some (.int .i64 n2))
   (first | exact ⟨c9,x1,x2⟩ | exact ⟨h9,(hcc.cell 1).trans rfl,(hcc.cell 2).trans rfl⟩)
   (first
     | (go_at_call 146; refine HS.out.mono ?_; intro e w3 hpost; obtain ⟨m,c,q',s',rfl,hc,hm,h9,hcc⟩:=HK.out e w3 hpost; clear hpost))
 have HM:=Lib.hid hm
 have HC:=Lib.hid hc
 clear hm hc h9 hcc c9 x1 x2 HS HK HB HB1
 have x0:=(HM.out.r.cell 0).trans (show _ = some (.int .i64 0) from rfl)
 have f0:=HM.out.r.frozen 0
 have x1:=(HM.out.r.cell 1).trans (show _ = some (.int .i64 0) from rfl)
 have f1:=HM.out.r.frozen 1
 have x2:=(HM.out.r.cell 2).trans (show _ = some (.slice none 0 0) from rfl)
 have f2:=HM.out.r.frozen 2
 go_wp2
 exact bodyPost_ret (results_row1 rfl _ _ _ (w.heap.size + 1) _ _ rfl (blk_set3 HM.out.r (.int .i64 c) (.int .i64 m) (.slice none 0 0)).range Tryz.underlying49 rfl (by kernel_rfl)) rfl (HM.out.done HC.out.1 HC.out.2.1 HC.out.2.2 Mid.row ids_ok0 trivial _ _ _)
set_option maxRecDepth 100000 in
set_option maxHeartbeats 4000000 in
theorem Bk.bask {w:World} {q:Qh} {s:Bnk} (a:BkAt w q s) (k n1 n2 n3 n4 n5 n6 n7:Int) :
    Calls Tryz.prog 108 #[.pointer (some ⟨q.b,0,none⟩),.agg (cmdC k n1 n2 n3 n4 n5 n6 n7)] w (DoPost q s (fun _ _ _ _ => True) w):=by
 have HA:=Lib.hid a
 have HB:=Lib.hid (Beg.new a k n1 n2 n3 n4 n5 n6 n7)
 clear a
 go_enter Tryz.func108,Tryz.ntmps108
 go_upto_region 1 with (fail)
 generalize ((w.alloc (.cells #[.int .i64 k,.int .i64 n1,.int .i64 n2,.int .i64 n3,.int .i64 n4,.int .i64 n5,.int .i64 n6,.int .i64 n7] 54)).alloc (.cells #[.int .i64 0,.int .i64 0,.slice none 0 0] 49)) = w1 at *
 have c0:=HB.out.a.c0
 have x4:w1.cell? ⟨w.heap.size,4,none⟩ = some (.int .i64 n4):=(HB.out.c.cell 4).trans rfl
 go_quiet (fail)
 have HB1:=Lib.hid (HB.out.below (Bk.bdrew (Below.refl w1.heap.size w1) nq))
 generalize w1.drewN nq = w2 at *
 clear HB c0 x4
 have x0:=(HB1.out.r.cell 0).trans (show _ = some (.int .i64 0) from rfl)
 have f0:=HB1.out.r.frozen 0
 have x1:=(HB1.out.r.cell 1).trans (show _ = some (.int .i64 0) from rfl)
 have f1:=HB1.out.r.frozen 1
 have x2:=(HB1.out.r.cell 2).trans (show _ = some (.slice none 0 0) from rfl)
 have f2:=HB1.out.r.frozen 2
 by_cases hx:(s.d.t.n:Int)≤n4
 · have d1:decide ((s.d.t.n:Int)≤n4) = true:=decide_eq_true hx
   have HM:=Lib.hid (HB1.out.mid HA.out HB1.out.a (BkSt.refl w2 q s.d.L.n) (BnkSt.refl s))
   go_wp2
   exact bodyPost_ret (results_row1 rfl _ _ _ (w.heap.size + 1) _ _ rfl (blk_set3 HM.out.r (.int .i64 1) (.int .i64 0) (.slice none 0 0)).range Tryz.underlying49 rfl (by kernel_rfl)) rfl (HM.out.done (by omega) (by omega) in0 Mid.row ids_ok0 trivial _ _ _)
 · have d1:decide ((s.d.t.n:Int)≤n4) = false:=decide_eq_false hx
   go_upto_region 3 with (fail)
   have HB2:=Lib.hid (HB1.out.below (Below.refl w2.heap.size w2).drew)
   have HG:=Lib.hid (Bk.get HB2.out.a.ps.gu.led HB2.out.a.ps.gu.ok.lok n1 n4)
   have HM:=Lib.hid (HB1.out.mid HA.out HB1.out.a (BkSt.refl w2 q s.d.L.n) (BnkSt.refl s))
   have hn1:q.b ≠ w.heap.size + 1:=fun e => by have:=HA.out.ownlt (.inl rfl:q.own s.d.L.n q.b); omega
   have hn2:w.heap.size ≠ w.heap.size + 1:=by omega
   have HI:=Lib.hid (show In64 (s.d.L.get n1 n4) from Led.get_64 HB2.out.a.ps.gu.ok.lok n1 n4)
   generalize s.d.L.get n1 n4 = v at *
   have c7:=HB1.out.a.c7
   have y1:w2.cell? ⟨w.heap.size,1,none⟩ = some (.int .i64 n1):=(HB1.out.c.cell 1).trans rfl
   have y4:w2.cell? ⟨w.heap.size,4,none⟩ = some (.int .i64 n4):=(HB1.out.c.cell 4).trans rfl
   go_region_held3 (fun wx => wx.cell? ⟨q.b,7,none⟩ = some (.pointer (some ⟨q.h.l,0,none⟩))∧wx.cell? ⟨w.heap.size,1,none⟩ = some (.int .i64 n1)∧wx.cell? ⟨w.heap.size,4,none⟩ = some (.int .i64 n4))
     (first | exact ⟨c7,y1,y4⟩ | exact ⟨cell_set3 c7 hn1 _ _ _,cell_set3 y1 hn2 _ _ _,cell_set3 y4 hn2 _ _ _⟩)
     (first
       | (go_at_call 28; refine HG.out.mono ?_; rintro e w3 ⟨rfl,rfl⟩))
   go_wp2
   exact bodyPost_ret (results_row1 rfl _ _ _ (w.heap.size + 1) _ _ rfl ((blk_set3 HM.out.r (.int .i64 0) (.int .i64 v) (.slice none 0 0)).drewN 1).range Tryz.underlying49 rfl (by kernel_rfl)) rfl ((HM.out.done (by omega) (by omega) HI.out Mid.row ids_ok0 trivial _ _ _).below (Below.refl _ _).drew)
end Go.Proofs.YtgcnnbjbdfgglaaGreat
namespace Go.Proofs.YtgcnnbjbdfgglaaGreat
open Go.RowKit
theorem BkAt.gstep {w w':World} {q:Qh} {s:Bnk} (a:BkAt w q s) {h':Gh} {d':Gd} (g:GuS w' h' d' NoneS) (st:Step w q.h w' h' s.d.L.n) (hn:d'.L.n = s.d.L.n∧d'.t.n = s.d.t.n) (hg:Good s.d→Good d') :
    BkAt w' { q with h:=h' } { s with d:=d' }∧BkSt w q w' { q with h:=h' } s.d.L.n∧BnkSt s { s with d:=d' }:=by
 obtain ⟨p,s2⟩:=a.ps.gstep g st hn.1
 exact a.step2 p s2 hn (hg a.good) (BoStep.refl s.B (fun _ => True)) a.gone
theorem BkAt.gl {w:World} {q:Qh} {s:Bnk} (a:BkAt w q s):GL w q.h s.d q.e:=⟨a.ps.gu,a.le,a.C,fun x hx ho => a.ap x (.inr (.inr hx)) (.inl ho)⟩
theorem BkAt.lstep {w w':World} {q:Qh} {s:Bnk} (a:BkAt w q s) {h':Gh} {d':Gd} (g:GL w' h' d' q.e) (st:StL w q.h w' h' s.d.L.n q.e) (hn:d'.L.n = s.d.L.n∧d'.t.n = s.d.t.n) (hg:Good d') :
    BkAt w' { q with h:=h' } { s with d:=d' }∧BkSt w q w' { q with h:=h' } s.d.L.n∧BnkSt s { s with d:=d' }:=by
 have hl:=Gh.pl st.g
 have hgg:=Gh.pg st.g
 have hnF:∀ x,(x = q.b∨x = q.fb)→¬ (q.h.own s.d.L.n x∨q.e.own x):=fun x hx ho => by
  rcases ho with ho | ho
  · rcases hx with rfl | rfl
    · exact a.ap _ (.inl rfl) (.inl ho)
    · exact a.ap _ (.inr (.inl rfl)) (.inl ho)
  · rcases hx with rfl | rfl
    · exact a.eb ho
    · exact a.ef ho
 have he:∀ x,(x = q.b∨x = q.fb∨q.e.own x)→x < w.heap.size:=fun x hx => by
  rcases hx with rfl | rfl | h
  · exact a.blk.lt
  · exact a.fty.lt
  · exact a.le.ownlt _ h
 refine ⟨⟨?_,⟨g.gu,a.ps.bo.frame (fun x hx => st.kept.block x (a.ps.bo.ownlt hx) (fun ho => ?_)),by rw [hn.1]; exact a.ps.mem⟩,g.le,g.C,a.flr.same (st.kept.block _ a.fty.lt (hnF _ (.inr rfl))),a.fty.same (st.kept.block _ a.fty.lt (hnF _ (.inr rfl))),?_,a.eb,a.ef,a.n1,a.n15,hn.1.trans a.nL,a.mem,hg,a.gone⟩,⟨rfl,st.kept.mono (fun _ _ h => ?_),?_⟩,⟨rfl,hn.1,hn.2,fun _ h => h,BoStep.refl _ _⟩⟩
 · have h1:=(st.kept.block _ a.blk.lt (hnF _ (.inl rfl))).trans a.blk
   unfold Blk
   rw [h1]
   unfold Qh.cells
   simp only [hl,hgg,hn.2]
 · rcases ho with ho | ho
   · exact own_apart a.ps.gu a.ps.bo ho hx
   · exact a.ap x (.inr (.inr ho)) (.inr hx)
 · intro x hx ho
   rw [show ({ s with d:=d' }:Bnk).d.L.n = s.d.L.n from hn.1] at ho
   rcases ho with ho | ho
   · rcases st.own x ho with h1 | h1
     · exact a.ap x hx (.inl h1)
     · have:=he x hx; omega
   · exact a.ap x hx (.inr ho)
 · rcases h with h | h
   · exact .inr (.inr (.inr (.inl h)))
   · exact .inr (.inr (.inl h))
 · intro x hx
   rcases hx with h1 | h1 | h1 | h1 | h1
   · exact .inl (.inl h1)
   · exact .inl (.inr (.inl h1))
   · exact .inl (.inr (.inr (.inl h1)))
   · rcases st.own x h1 with h2 | h2
     · exact .inl (.inr (.inr (.inr (.inl h2))))
     · exact .inr h2
   · exact .inl (.inr (.inr (.inr (.inr h1))))
theorem BkAt.estep {w w':World} {q:Qh} {s:Bnk} (a:BkAt w q s) (l:LeW w' q.e) (k:Kept q.e.own w w'):BkAt w' q s∧BkSt w q w' q s.d.L.n∧BnkSt s s:=by
 obtain ⟨g,st⟩:=a.gl.lstep l k
 exact a.lstep g st ⟨rfl,rfl⟩ a.good
def PalPost (q:Qh) (s:Bnk) (w:World) (e:Ending) (w':World):Prop:=∃ (v:Int) (q':Qh) (s':Bnk),e = .returned (.int .i64 v)∧In64 v∧BkAt w' q' s'∧BkSt w q w' q' s.d.L.n∧BnkSt s s'
set_option maxRecDepth 100000 in
set_option maxHeartbeats 8000000 in
theorem Bk.payAll {w:World} {q:Qh} {s:Bnk} (a:BkAt w q s):Calls Tryz.prog 148 #[.pointer (some ⟨q.b,0,none⟩)] w (PalPost q s w):=by
 have c6:=a.c6
 have c8:=a.c8
 have HA:=Lib.hid a
 have HAD:=Lib.hid (a.below (Below.refl w.heap.size w).drew)
 clear a
 have HRO:=Lib.hid (Bk.round HAD.out.ps.gu s.N (by have:=HAD.out.nL; omega))
 have HK:=Lib.hid (show ∀ (e:Ending) (w3:World),RoPost q.h s.d w.drew e w3→∃ (ra:Option Addr) (j rc:Nat) (q':Qh) (s':Bnk),e = .returned (.slice ra j rc)∧j≤200∧BkAt w3 q' s'∧BkSt w q w3 q' s.d.L.n∧BnkSt s s'∧w3.cell? ⟨q.b,6,none⟩ = some (.int .i64 s.N)∧w3.cell? ⟨q.b,8,none⟩ = some (.pointer (some ⟨q.h.g,0,none⟩)) from by
  rintro e w3 ⟨ra,j,rc,d',h',rfl,hj,hg,hs,hsz,hgd⟩
  obtain ⟨h1,h2,h3⟩:=HAD.out.gstep hg hs hsz hgd
  refine ⟨ra,j,rc,_,_,rfl,hj,h1,(BkSt.of_below (Below.refl w.heap.size w).drew q _).trans h2,h3,h1.c6,?_⟩
  have h8:=h1.c8
  rw [show ({ q with h:=h' }:Qh).h.g = q.h.g from Gh.pg hs.g] at h8
  exact h8)
 go_enter Tryz.func148,Tryz.ntmps148
 go_upto_region 1 with (fail)
 go_region_held3 (fun wx => wx.cell? ⟨q.b,6,none⟩ = some (.int .i64 s.N)∧wx.cell? ⟨q.b,8,none⟩ = some (.pointer (some ⟨q.h.g,0,none⟩)))
   (first | exact ⟨c6,c8⟩ | exact ⟨k6,k8⟩)
   (first
     | (go_at_call 176; refine HRO.out.mono ?_; intro e w3 hpost; obtain ⟨ra,j,rc,q',s',rfl,hj,ha3,hb3,hn3,k6,k8⟩:=HK.out e w3 hpost; clear hpost))
 have HA3:=Lib.hid ha3
 have HB3:=Lib.hid hb3
 have HN3:=Lib.hid hn3
 have hj6:In64 (j:Int):=by unfold In64; omega
 have HV3:=Lib.hid hj6
 clear ha3 hb3 hn3 hj hj6 c6 c8 k8 HRO HK HAD
 go_wp2
 go_loopw [3,4,5,6,7,8,23] (fun s3 _ _ _ _ _ i wr => ∃ (v:Int) (m:Nat) (q':Qh) (s':Bnk),s3 = .int .i64 v∧Hid (In64 v)∧m≤s.N∧i = .int .i64 m∧Hid (BkAt wr q' s')∧Hid (BkSt w q wr q' s.d.L.n)∧Hid (BnkSt s s')) (fun _ _ _ _ _ _ i _ => s.N - (intOf i).toNat)
 case atStart => exact ⟨j,0,q',s',rfl,HV3,by omega,rfl,HA3,HB3,HN3⟩
 case round =>
  clear HA3 HB3 HN3 HV3 k6
  obtain ⟨v,m,q1,s1,rfl,HV,hm,rfl,HA1,HB1,HN1⟩:=hrel
  by_cases hlt:m < s.N
  · have c0:=HA1.out.c0
    rw [HB1.out.b,HN1.out.t] at c0
    have p1:(m:Int) < (s.N:Int):=by omega
    have hC:=HA.out.ps.gu.ok.tok.le
    have hN15:=HA.out.n15
    go_wp2
    go_loopw [3,5,6,7,8,32] (fun s3 _ _ _ _ i wx => ∃ (v:Int) (k:Nat) (q':Qh) (s':Bnk),s3 = .int .i64 v∧Hid (In64 v)∧k≤s.d.t.n∧i = .int .i64 k∧Hid (BkAt wx q' s')∧Hid (BkSt w q wx q' s.d.L.n)∧Hid (BnkSt s s')) (fun _ _ _ _ _ i _ => s.d.t.n - (intOf i).toNat)
    case atStart => exact ⟨v,0,q1,s1,rfl,HV,by omega,rfl,HA1,HB1,HN1⟩
    case round =>
     clear HA1 HB1 HN1 HV c0
     obtain ⟨v,k,q2,s2,rfl,HV,hk,rfl,HA2,HB2,HN2⟩:=hrel
     by_cases hkt:k < s.d.t.n
     · have p2:(k:Int) < (s.d.t.n:Int):=by omega
       have c7:=HA2.out.c7
       rw [HB2.out.b] at c7
       have HG:=Lib.hid (Bk.get HA2.out.ps.gu.led HA2.out.ps.gu.ok.lok (m:Int) (k:Int))
       have HI:=Lib.hid (Led.get_64 HA2.out.ps.gu.ok.lok (m:Int) (k:Int))
       generalize s2.d.L.get (m:Int) (k:Int) = x at *
       go_wp2_with fail
       refine HG.out.mono ?_
       rintro e wy ⟨rfl,rfl⟩
       clear c7 HG
       by_cases hx:0 < x
       · have d1:decide (0 < x) = true:=decide_eq_true hx
         have c12:=HA2.out.c12
         rw [HB2.out.b,HN2.out.N] at c12
         have cf:=HA2.out.flc (i:=m) (by rw [HN2.out.N]; exact hlt)
         cases hfl:s2.fl m with
         | true =>
          rw [hfl] at cf
          clear hfl
          go_wp2
          go_roundw
          case rel => exact ⟨v,k + 1,q2,s2,rfl,HV,by omega,by go_num,HA2,HB2,HN2⟩
          case measure => simp [intOf]; omega
         | false =>
          rw [hfl] at cf
          clear hfl
          go_upto_region 10 with (fail)
          have c6:=HA2.out.c6
          rw [HB2.out.b,HN2.out.N] at c6
          have c8:=HA2.out.c8
          rw [HB2.out.b] at c8
          have c10:=HA2.out.c10
          rw [HB2.out.b] at c10
          have HA3:=Lib.hid (HA2.out.below (Below.refl wy.heap.size wy).drew)
          have HPY:=Lib.hid (Bk.pay HA3.out.gl HA3.out.good s.N m k (by have:=HA3.out.nL; have:=HN2.out.N; omega) hlt (by have:=HN2.out.t; omega) x (by omega) HI.out)
          have HK:=Lib.hid (show ∀ (e:Ending) (w3:World),PayPost q2.h s2.d q2.e wy.drew e w3→∃ (ra:Option Addr) (j rc:Nat) (r:Int) (q':Qh) (s':Bnk),e = .returned (.tuple #[.slice ra j rc,.int .i64 r])∧BkAt w3 q' s'∧BkSt w q w3 q' s.d.L.n∧BnkSt s s'∧w3.cell? ⟨q.b,6,none⟩ = some (.int .i64 s.N)∧w3.cell? ⟨q.b,8,none⟩ = some (.pointer (some ⟨q2.h.g,0,none⟩))∧w3.cell? ⟨q.b,10,none⟩ = some (.pointer (some ⟨q2.e.x,0,none⟩)) from by
           rintro e w3 ⟨ra,j,rc,r,d',h',rfl,hgl,hst,hsz,hgd⟩
           obtain ⟨h1,h2,h3⟩:=HA3.out.lstep hgl hst hsz hgd
           rw [HN2.out.L] at h2
           refine ⟨ra,j,rc,r,_,_,rfl,h1,(HB2.out.trans (BkSt.of_below (Below.refl wy.heap.size wy).drew q2 _)).trans h2,HN2.out.trans h3,?_,?_,?_⟩
           · have h6:=h1.c6
             rw [show ({ q2 with h:=h' }:Qh).b = q.b from HB2.out.b,show ({ s2 with d:=d' }:Bnk).N = s.N from HN2.out.N] at h6
             exact h6
           · have h8:=h1.c8
             rw [show ({ q2 with h:=h' }:Qh).b = q.b from HB2.out.b,show ({ q2 with h:=h' }:Qh).h.g = q2.h.g from Gh.pg hst.g] at h8
             exact h8
           · have h8:=h1.c10
             rw [show ({ q2 with h:=h' }:Qh).b = q.b from HB2.out.b] at h8
             exact h8)
          go_region_held3 (fun wx => wx.cell? ⟨q.b,6,none⟩ = some (.int .i64 s.N)∧wx.cell? ⟨q.b,8,none⟩ = some (.pointer (some ⟨q2.h.g,0,none⟩))∧wx.cell? ⟨q.b,10,none⟩ = some (.pointer (some ⟨q2.e.x,0,none⟩)))
            (first | exact ⟨c6,c8,c10⟩ | exact ⟨k6,k8,k10⟩)
            (first
              | (go_at_call 177; refine HPY.out.mono ?_; intro e w3 hpost; obtain ⟨ra,j,rc,r,q3,s3,rfl,ha3,hb3,hn3,k6,k8,k10⟩:=HK.out e w3 hpost; clear hpost))
          have HA4:=Lib.hid ha3
          have HB4:=Lib.hid hb3
          have HN4:=Lib.hid hn3
          clear ha3 hb3 hn3 k6 k8 k10 c6 c8 c10 c12 cf HPY HK HA3
          rcases eqs r 0 with ⟨a1,a2,a3⟩ | ⟨a1,a2,a3⟩
          · subst a1
            clear a2 a3
            go_wp2
            go_roundw
            case rel => exact ⟨_,k + 1,q3,s3,rfl,Lib.hid (Bk.wrap_64 _),by omega,by go_num,HA4,HB4,HN4⟩
            case measure => simp [intOf]; omega
          · clear a1
            go_wp2
            go_roundw
            case rel => exact ⟨v,k + 1,q3,s3,rfl,HV,by omega,by go_num,HA4,HB4,HN4⟩
            case measure => simp [intOf]; omega
       · have d1:decide (0 < x) = false:=decide_eq_false hx
         go_wp2
         go_roundw
         case rel => exact ⟨v,k + 1,q2,s2,rfl,HV,by omega,by go_num,HA2,HB2,HN2⟩
         case measure => simp [intOf]; omega
     · obtain rfl:k = s.d.t.n:=by omega
       go_wp2
       go_roundw
       case rel => exact ⟨v,m + 1,q2,s2,rfl,HV,by omega,by go_num,HA2,HB2,HN2⟩
       case measure => simp [intOf]; omega
  · go_wp2
    go_ret
    exact ⟨v,q1,s1,rfl,HV.out,HA1.out,HB1.out,HN1.out⟩
end Go.Proofs.YtgcnnbjbdfgglaaGreat
