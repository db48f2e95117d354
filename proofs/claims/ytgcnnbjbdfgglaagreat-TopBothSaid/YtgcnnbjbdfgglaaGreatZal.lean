/- LAW TopBoth: of every configuration of a bank and every list of byte strings the given function TopBoth returns true and leaves its arguments as they were; no condition. A part of what it needs. -/
import Derived.Test.YtgcnnbjbdfgglaaGreatZak
import Derived.Laws.MakeOwn
namespace Go.Proofs.YtgcnnbjbdfgglaaGreat
open Go.RowKit
def eqTo (f g:Nat→Int) (n:Nat):Bool:=decide (∀ i,i < n→f i = g i)
set_option maxRecDepth 100000 in
set_option maxHeartbeats 1000000 in
theorem Bk.equal {w:World} {u v:Value} {n:Nat} {f g:Nat→Int} (hu:SlI w u n f) (hv:SlI w v n g) (hn:(n:Int)≤4000) :
    Calls Tryz.prog 135 #[u,v] w fun e w' => e = .returned (.bool (eqTo f g n))∧Below w.heap.size w w':=by
  obtain ⟨a,c,rfl,hc⟩:=hu
  obtain ⟨a',c',rfl,hc'⟩:=hv
  have HC:=Lib.hid hc
  have HC':=Lib.hid hc'
  clear hc hc'
  go_enter Tryz.func135,Tryz.ntmps135
  go_wp2
  go_loopw [13] (fun i wr => ∃ k:Nat,k≤n∧i = .int .i64 k∧(∀ j,j < k→f j = g j)∧Below w.heap.size w wr) (fun i _ => n - (intOf i).toNat)
  case atStart => exact ⟨0,by omega,rfl,fun j h => by omega,Below.refl _ _⟩
  case round =>
    obtain ⟨k,hk,rfl,hall,hb⟩:=hrel
    have HAL:=Lib.hid hall
    have HB:=Lib.hid hb
    clear hall hb
    by_cases hlt:k < n
    · have q1:(k:Int) < (n:Int):=by omega
      obtain ⟨b,o,rfl,hc⟩:=HC.out (by omega)
      obtain ⟨b',o',rfl,hc'⟩:=HC'.out (by omega)
      have c1:=Bk.kept HB.out (hc k hlt)
      have c2:=Bk.kept HB.out (hc' k hlt)
      clear hc hc'
      generalize hx:f k = x at *
      generalize hy:g k = y at *
      have HXY:=Lib.hid (And.intro hx hy)
      clear hx hy
      by_cases hxy:x = y
      · have hne:(x != y) = false:=by simp [hxy]
        have HE:=Lib.hid hxy
        clear hxy
        go_wp2_with fail
        go_quiet (fail)
        go_wp2
        go_roundw
        case rel => exact ⟨k + 1,by omega,by go_num,(fun j hj => by by_cases e:j = k; subst e; rw [HXY.out.1,HXY.out.2,HE.out]; exact HAL.out j (by omega)),Bk.bdrew HB.out _⟩
        case measure => simp [intOf]; omega
      · have hne:(x != y) = true:=by simp [hxy]
        have HE:=Lib.hid (show eqTo f g n = false from decide_eq_false (fun h => hxy (by rw [← HXY.out.1,← HXY.out.2]; exact h k hlt)))
        clear hxy
        go_wp2_with fail
        go_quiet (fail)
        go_wp2
        go_ret
        exact ⟨by rw [HE.out]; rfl,Bk.bdrew HB.out _⟩
    · obtain rfl:k = n:=by omega
      have HE:=Lib.hid (show eqTo f g k = true from decide_eq_true HAL.out)
      go_wp2
      go_ret
      exact ⟨by rw [HE.out]; rfl,HB.out⟩
def noneB (n:Nat) (c:Int):Bool:=!hasN n c
set_option maxRecDepth 100000 in
set_option maxHeartbeats 1000000 in
theorem Bk.if1 {w:World} {z b l n c0:Nat} {a0:Option Addr} {av:Value} (hz:w.cell? ⟨z,0,none⟩ = some (.pointer (some ⟨b,0,none⟩))) (h:WorAt w b (.slice a0 n c0) l av) (m c a:Int) :
    Calls Tryz.prog 132 #[.agg #[.int .i64 m,.int .i64 c,.int .i64 a],.pointer (some ⟨z,0,none⟩)] w fun e w' => e = .returned (.bool (noneB n c))∧Below w.heap.size w w':=by
  have h0:=h.c0
  have hb:=(Below.refl w.heap.size w).alloc (Nat.le_refl _) (.cells #[.int .i64 m,.int .i64 c,.int .i64 a] 69)
  have hzl:=block_lt_of_cell hz
  have hbl:=h.lt
  have HB:=Lib.hid hb
  clear h hb
  by_cases h1:c < 0
  · have HH:noneB n c = true:=by unfold noneB hasN; rw [decide_eq_false (by omega)]; rfl
    rw [HH]
    have hd:decide (c < 0) = true:=decide_eq_true h1
    go_enter Tryz.func132,Tryz.ntmps132
    go_wp2_with fail
    go_quiet (fail)
    go_wp2
    go_ret
    exact ⟨rfl,Bk.bdrew HB.out _⟩
  · have hd:decide (c < 0) = false:=decide_eq_false h1
    by_cases h2:(n:Int)≤c
    · have HH:noneB n c = true:=by unfold noneB hasN; rw [decide_eq_false (by omega)]; rfl
      rw [HH]
      go_enter Tryz.func132,Tryz.ntmps132
      go_wp2_with fail
      go_quiet (fail)
      go_wp2
      go_ret
      exact ⟨rfl,Bk.bdrew HB.out _⟩
    · have HH:noneB n c = false:=by unfold noneB hasN; rw [decide_eq_true (by omega)]; rfl
      rw [HH]
      have hd2:decide ((n:Int)≤c) = false:=decide_eq_false h2
      go_enter Tryz.func132,Tryz.ntmps132
      go_wp2_with fail
      go_quiet (fail)
      go_wp2
      go_ret
      exact ⟨rfl,Bk.bdrew HB.out _⟩
theorem rowOf_skip {m:Int} {row:Nat→Int} {p:Pst} {l:List Pst} (h:p.m ≠ m):rowOf m row (p :: l) = rowOf m row l:=by simp only [rowOf]; rw [if_neg h]
theorem rowOf_no {m:Int} {row:Nat→Int} {p:Pst} {l:List Pst} (h:p.m = m) (hi:¬ In64 (row p.c.toNat + p.a)):rowOf m row (p :: l) = none:=by simp only [rowOf]; rw [if_pos h,if_neg hi]
theorem rowOf_step {m:Int} {row:Nat→Int} {p:Pst} {l:List Pst} {k:Nat} (h:p.m = m) (hk:p.c = k) {x:Int} (hx:row k + p.a = x) (hi:In64 x):rowOf m row (p :: l) = rowOf m (fun i => if i = k then x else row i) l:=by
  simp only [rowOf]
  rw [if_pos h,hk]
  simp only [Int.toNat_natCast]
  rw [hx,if_pos hi]
  congr 1
  funext i
  unfold setRow
  by_cases e:i = k
  · subst e; simp
  · rw [if_neg (by omega),if_neg e]
theorem oe_cases (o:Option Int):(oe o = 0∧o = some (on o))∨(oe o = 3∧o = none):=by
  cases o with
  | none => exact .inr ⟨rfl,rfl⟩
  | some x => exact .inl ⟨rfl,rfl⟩
theorem SlI.of_row {w:World} {g n c:Nat} {f:Nat→Int} (h:RowK w g 1 n (fun i _ => .int .i64 (f i))):SlI w (.slice (some ⟨g,0,none⟩) n c) n f :=
  ⟨_,_,rfl,fun _ => ⟨g,0,rfl,fun j hj => by
    have:=h.cell hj (show 0 < 1 by omega)
    rw [Nat.mul_one,Nat.add_zero] at this
    rw [Nat.zero_add]; exact this⟩⟩
theorem Bk.mono_z {z:Nat} {a b c:World} (h:Below (z + 1) b c) (h0:Below a.heap.size a b) (hz:a.heap.size = z):Below a.heap.size a c:=h0.trans (h.mono (by omega))
theorem worths_congr {t:Rates} {f g:Nat→Int} (h:∀ i,i < t.n→f i = g i):t.net f = t.net g∧t.short f = t.short g:=by
  unfold Rates.net Rates.short Rates.worths Rates.shorts
  have e1:(List.range t.n).map (fun c => worthO (t.rate c) (t.cut c) (f c)) = (List.range t.n).map fun c => worthO (t.rate c) (t.cut c) (g c):=List.map_congr_left fun i hi => by rw [h i (List.mem_range.1 hi)]
  have e2:(List.range t.n).map (fun c => shortO (t.rate c) (f c)) = (List.range t.n).map fun c => shortO (t.rate c) (g c):=List.map_congr_left fun i hi => by rw [h i (List.mem_range.1 hi)]
  rw [e1,e2]
  exact ⟨rfl,rfl⟩
def ifRes (t:Rates) (row:Nat→Int) (m:Int) (ps:List Pst):Option (Int × Int):=(rowOf m row ps).bind fun r => (t.net r).bind fun n => (t.short r).map fun s => (n,s)
def inB (n:Nat) (ps:List Pst):Bool:=ps.all fun p => hasN n p.c
def IfPost (t:Rates) (row:Nat→Int) (m:Int) (ps:List Pst) (w:World) (e:Ending) (w':World):Prop:=∃ n s c:Int,e = .returned (.tuple #[.int .i64 n,.int .i64 s,.int .i64 c])∧0≤c∧c≤3∧Below w.heap.size w w'∧(inB t.n ps = false→c ≠ 0)∧(c = 0→ifRes t row m ps = some (n,s))∧(inB t.n ps = true→c ≠ 0→ifRes t row m ps = none)
theorem inB_any {n:Nat} {ps:List Pst}:anyTo (fun i => noneB n ((ps.map Pst.c).getD i 0)) ps.length = !inB n ps:=by
  cases hq:inB n ps with
  | true =>
    refine anyTo_false.2 fun i hi => ?_
    have:=List.all_eq_true.1 hq ps[i] (List.getElem_mem hi)
    simp [List.getD,hi,noneB,this]
  | false =>
    obtain ⟨p,hp,hf⟩:=List.all_eq_false.1 hq
    obtain ⟨i,hi,rfl⟩:=List.getElem_of_mem hp
    refine anyTo_true hi ?_
    simp [List.getD,hi,noneB]
    simpa using hf
def pcell (ps:List Pst) (i j:Nat):Value:=.int .i64 (if j = 0 then (ps.map Pst.m).getD i 0 else if j = 1 then (ps.map Pst.c).getD i 0 else (ps.map Pst.a).getD i 0)
theorem SlP.slK {w:World} {v:Value} {ps:List Pst} (h:SlP w v ps):SlK w v 3 ps.length (pcell ps):=by
  obtain ⟨a,c,rfl,hc⟩:=h
  refine ⟨a,c,rfl,fun hn => ?_⟩
  obtain ⟨b,o,rfl,h2⟩:=hc hn
  refine ⟨b,o,rfl,fun i j hi hj => ?_⟩
  obtain ⟨h3,h4,h5⟩:=h2 i ps[i] (by simp [hi])
  have:j = 0∨j = 1∨j = 2:=by omega
  rcases this with rfl | rfl | rfl
  · simpa [pcell,List.getD,hi] using h3
  · simpa [pcell,List.getD,hi,Nat.add_assoc] using h4
  · simpa [pcell,List.getD,hi,Nat.add_assoc] using h5
set_option maxRecDepth 100000 in
set_option maxHeartbeats 4000000 in
theorem Bk.if_ {w:World} {b l ab N ca:Nat} {tv:Value} {t:Rates} {code:Nat→ByteArray} {A:Nat→Nat→Value} {f:Nat→Int} {bm gw gs:Nat} (h:WorAt w b tv l (.slice (some ⟨ab,0,none⟩) N ca)) (ht:SlT w tv t code) (ho:t.Ok) (hA:RowK w ab 7 N A) (m:Nat) (hm:m < N) (_hN:(N:Int)≤16) (hac:AccOK w t f (A m) bm gw gs) (hf:∀ i,i < t.n→In64 (f i)) (v:Value) (ps:List Pst) (hp:SlP w v ps) (hn:(ps.length:Int)≤4000) (ha:∀ p ∈ ps,In64 p.a) :
    Calls Tryz.prog 86 #[.pointer (some ⟨b,0,none⟩),.int .i64 m,v] w (IfPost t f m ps w):=by
  have hbx:=(Below.refl w.heap.size w).alloc (Nat.le_refl _) (.cells #[.pointer (some ⟨b,0,none⟩)] 137)
  have hh:=Lib.hid (Bk.wor_has (h.below hbx) m)
  rw [hasN_yes hm] at hh
  obtain ⟨tb,tof,tc,rfl,htt⟩:=id ht
  obtain ⟨pa,pc,rfl,hpc⟩:=id hp
  have HPC:=Lib.hid hpc
  clear hpc
  have HBX:=Lib.hid hbx
  have HW:=Lib.hid h
  have HZ:=Lib.hid (show (w.alloc (.cells #[.pointer (some ⟨b,0,none⟩)] 137)).cell? ⟨w.heap.size,0,none⟩ = some (.pointer (some ⟨b,0,none⟩)) from (cell_of_row _ _ 0 _ _ _ (heap_alloc_new _ _)).trans rfl)
  have HANY:=Lib.hid (Bk.anyPst (hp.below hbx).slK hn 132 #[.pointer (some ⟨w.heap.size,0,none⟩)] (fun i => noneB t.n ((ps.map Pst.c).getD i 0)) (fun _ _ => by kernel_rfl)
    (fun i _ wx hx => Bk.if1 (Bk.kept hx HZ.out) ((HW.out.below hbx).below hx) _ _ _))
  rw [inB_any] at HANY
  have HT:=Lib.hid ht
  have HO:=Lib.hid ho
  have HAA:=Lib.hid hA
  have HAC:=Lib.hid hac
  have HF:=Lib.hid hf
  have HP:=Lib.hid hp
  have HPA:=Lib.hid ha
  have h2:=h.c2
  have hbl:=h.lt
  have q1:(m:Int) < (N:Int):=by omega
  have HM:=Lib.hid hm
  clear h ht ho htt hA hac hf hp ha hbx hm
  cases hib:inB t.n ps with
  | false =>
    rw [hib] at HANY
    go_enter Tryz.func86,Tryz.ntmps86
    go_wp2_with fail
    refine hh.out.mono ?_
    rintro e w1 ⟨rfl,rfl⟩
    go_wp2_with fail
    refine HANY.out.mono ?_
    rintro e w2 ⟨rfl,hb2⟩
    go_wp2
    go_ret3
    exact ⟨0,0,1,rfl,by omega,by omega,HBX.out.trans (hb2.mono HBX.out.size),fun _ => by omega,fun h => by omega,fun h => by rw [hib] at h; cases h⟩
  | true =>
    rw [hib] at HANY
    have HIB:=Lib.hid hib
    clear hib
    go_enter Tryz.func86,Tryz.ntmps86
    go_wp2_with fail
    refine hh.out.mono ?_
    rintro e w1 ⟨rfl,rfl⟩
    go_wp2_with fail
    refine HANY.out.mono ?_
    rintro e w2 ⟨rfl,hb2⟩
    have HB2:=Lib.hid (HBX.out.trans (hb2.mono HBX.out.size))
    obtain ⟨cb,cw,cs,e0,e1,e2,hcw,hcs⟩:=HAC.out.ex
    have hA2:=HAA.out.below HB2.out
    have c0:=hA2.cell HM.out (show 0 < 7 by omega)
    have c1:=hA2.cell HM.out (show 1 < 7 by omega)
    have c2:=hA2.cell HM.out (show 2 < 7 by omega)
    have c3:=hA2.cell HM.out (show 3 < 7 by omega)
    have c4:=hA2.cell HM.out (show 4 < 7 by omega)
    have c5:=hA2.cell HM.out (show 5 < 7 by omega)
    have c6:=hA2.cell HM.out (show 6 < 7 by omega)
    rw [Nat.add_zero,e0] at c0
    rw [e1] at c1
    rw [e2] at c2
    rw [HAC.out.a3] at c3
    rw [HAC.out.a4] at c4
    rw [HAC.out.a5] at c5
    rw [HAC.out.a6] at c6
    have h2':=Bk.kept HB2.out h2
    have HAC2:=Lib.hid (HAC.out.below HB2.out)
    have HW2:=Lib.hid (HW.out.below HB2.out)
    have HT2:=Lib.hid (HT.out.below HB2.out)
    have HP2:=Lib.hid (HP.out.below HB2.out)
    have hz2:w.heap.size < w2.heap.size:=by have:=hb2.size; simp at this; omega
    have hz0:=Bk.kept hb2 HZ.out
    have hblt:=HW2.out.lt
    have HZ2:=Lib.hid hz0
    clear e0 e1 e2 hcw hcs hA2 h2 hb2 hbl hh HANY
    generalize hH:w.heap.size = H at *
    have HH:=Lib.hid hH
    clear hH
    obtain ⟨N0,hN0⟩:∃ x,on (t.net f) = x:=⟨_,rfl⟩
    obtain ⟨E0,hE0⟩:∃ x,oe (t.net f) = x:=⟨_,rfl⟩
    obtain ⟨S0,hS0⟩:∃ x,on (t.short f) = x:=⟨_,rfl⟩
    obtain ⟨F0,hF0⟩:∃ x,oe (t.short f) = x:=⟨_,rfl⟩
    rw [hN0] at c3
    rw [hE0] at c4
    rw [hS0] at c5
    rw [hF0] at c6
    have HQ:=Lib.hid (And.intro hN0 (And.intro hE0 (And.intro hS0 hF0)))
    clear hN0 hE0 hS0 hF0
    have hba:=(Below.refl w2.heap.size w2).alloc (Nat.le_refl _) (.cells #[.slice (some ⟨bm,0,none⟩) t.n cb,.slice (some ⟨gw,0,none⟩) t.n cw,.slice (some ⟨gs,0,none⟩) t.n cs,.int .i64 N0,.int .i64 E0,.int .i64 S0,.int .i64 F0,.slice none 0 0] 245)
    have HCL:=Lib.hid (Bk.cloneI64 (f:=fun i _ => .int .i64 (f i)) HO.out.pos (by have:=HO.out.le; omega) (SlK.of_row (c:=cb) (HAC2.out.rb.below hba)) (fun _ _ _ _ => rfl))
    have HX:=Lib.hid (Blk.new w2 245 #[.slice (some ⟨bm,0,none⟩) t.n cb,.slice (some ⟨gw,0,none⟩) t.n cw,.slice (some ⟨gs,0,none⟩) t.n cs,.int .i64 N0,.int .i64 E0,.int .i64 S0,.int .i64 F0,.slice none 0 0])
    have HBA:=Lib.hid hba
    clear hba
    go_wp2_with fail
    refine HCL.out.mono ?_
    rintro e w3 ⟨g,cg,rfl,hrow,hcg,hgg,hgt,hb3⟩
    rw [World.size_alloc] at hgg
    generalize hzz:w2.heap.size = z at *
    have HZZ:=Lib.hid hzz
    clear hzz
    have X3:=HX.out.below hb3
    have l3:=X3.lt
    have y7:=(X3.cell 7).trans rfl
    have f7:=X3.frozen 7
    have X4:Blk (w3.setCell ⟨z,7,none⟩ (.slice (some ⟨g,0,none⟩) t.n cg)) z 245 #[.slice (some ⟨bm,0,none⟩) t.n cb,.slice (some ⟨gw,0,none⟩) t.n cw,.slice (some ⟨gs,0,none⟩) t.n cs,.int .i64 N0,.int .i64 E0,.int .i64 S0,.int .i64 F0,.slice (some ⟨g,0,none⟩) t.n cg]:=X3.set 7 _
    have HX4:=Lib.hid X4
    have HR4:=Lib.hid (hrow.far (b:=z) (by omega) 7 (.slice (some ⟨g,0,none⟩) t.n cg))
    have hb4:Below z w2 (w3.setCell ⟨z,7,none⟩ (.slice (some ⟨g,0,none⟩) t.n cg)):=(HBA.out.trans (hb3.mono (by have:=HBA.out.size; rw [HZZ.out] at this; exact this))).setCell (p:=⟨z,7,none⟩) (Nat.le_refl z) _
    have HB4:=Lib.hid hb4
    have HG:=Lib.hid (And.intro hgg hcg)
    clear X3 hb3 hrow hgg hcg hgt X4 hb4 HX
    go_upto_region 6 with (fail)
    generalize w3.setCell ⟨z,7,none⟩ (.slice (some ⟨g,0,none⟩) t.n cg) = W4 at *
    clear y7 f7 l3 c0 c1 c2 c3 c4 c5 c6 h2' hz0 hblt hz2
    have HB5:=Lib.hid (show Below w2.heap.size w2 W4 by rw [HZZ.out]; exact HB4.out)
    have HHZ:=Lib.hid (show H≤z by have:=HB2.out.size; rw [HH.out,HZZ.out] at this; exact this)
    have n1:=HO.out.pos
    have n8:=HO.out.le
    go_wp2
    go_loopw [40] (fun i wr => ∃ (k:Nat) (f':Nat→Int),k≤ps.length∧i = .int .i64 k∧RowK wr g 1 t.n (fun i _ => .int .i64 (f' i))∧rowOf m f' (ps.drop k) = rowOf m f ps∧(∀ i,i < t.n→In64 (f' i))∧Below (z + 1) W4 wr) (fun i _ => ps.length - (intOf i).toNat)
    case atStart => exact ⟨0,f,by omega,rfl,HR4.out,rfl,HF.out,Below.refl _ _⟩
    case round =>
      obtain ⟨k,f',hk,rfl,hr,hro,hf64,hb⟩:=hrel
      have HR:=Lib.hid hr
      have HRO:=Lib.hid hro
      have HF6:=Lib.hid hf64
      have HB:=Lib.hid hb
      clear hr hro hf64 hb
      have hzs:z < W4.heap.size:=HX4.out.lt
      have hX:Blk wr z 245 _:=(HB.out.block z (Nat.lt_succ_self z)).trans HX4.out
      have y7:wr.cell? ⟨z,7,none⟩ = some (.slice (some ⟨g,0,none⟩) t.n cg):=(hX.cell 7).trans rfl
      have lz:=hX.lt
      have lg:=HR.out.lt
      have HXX:=Lib.hid hX
      clear hX hzs
      by_cases hlt:k < ps.length
      · have q2:(k:Int) < (ps.length:Int):=by omega
        obtain ⟨b',o,rfl,hc⟩:=HPC.out (by omega)
        obtain ⟨h3,h4,h5⟩:=hc k ps[k] (by simp [hlt])
        have hst:=Lib.hid (show ps.drop k = ps[k] :: ps.drop (k + 1) from List.drop_eq_getElem_cons hlt)
        have ha64:=HPA.out ps[k] (List.getElem_mem hlt)
        have hin:=List.all_eq_true.1 HIB.out ps[k] (List.getElem_mem hlt)
        generalize ps[k] = p at *
        have HBW:=Lib.hid (show Below H w wr from (HB2.out.trans ((HB4.out).mono HHZ.out)).trans (HB.out.mono (by have:=HHZ.out; omega)))
        have g3:=Bk.kept (by rw [HH.out]; exact HBW.out) h3
        have g4:=Bk.kept (by rw [HH.out]; exact HBW.out) h4
        have g5:=Bk.kept (by rw [HH.out]; exact HBW.out) h5
        clear hc h3 h4 h5
        have ba:=HB.out.alloc (by have:=HB.out.size; have:=HX4.out.lt; omega) (.cells #[.int .i64 p.m,.int .i64 p.c,.int .i64 p.a] 69)
        have HBA2:=Lib.hid ba
        have HRA:=Lib.hid (HR.out.below ((Below.refl _ _).alloc (Nat.le_refl _) (.cells #[.int .i64 p.m,.int .i64 p.c,.int .i64 p.a] 69)))
        have HBW2:=Lib.hid (HBW.out.alloc (by have:=HBW.out.size; rw [HH.out] at this; exact this) (.cells #[.int .i64 p.m,.int .i64 p.c,.int .i64 p.a] 69))
        clear ba
        obtain ⟨pm,pc',pa'⟩:=p
        simp only at g3 g4 g5 ha64 hin
        have hin2:=hasN_iff.1 hin
        obtain ⟨j,rfl⟩:∃ j:Nat,pc' = j:=⟨pc'.toNat,by omega⟩
        have hj:j < t.n:=by omega
        have w1:(j:Int) < (t.n:Int):=hin2.2
        have w2':(t.n:Int)≤8:=by omega
        have w3':(t.n:Int)≤cg:=by have:=HG.out.2; omega
        clear hin hin2
        by_cases hpm:pm = (m:Int)
        · subst hpm
          have hme:((m:Int) != (m:Int)) = false:=by simp
          have cg1:=HR.out.cell hj (show 0 < 1 by omega)
          have fg1:=HR.out.frozen j
          rw [Nat.mul_one,Nat.add_zero] at cg1
          have hx64:=HF6.out j hj
          by_cases hin:In64 (f' j + pa')
          · have hadd:=Lib.hid (fun w => Bk.add_eq w hx64 ha64 rfl hin)
            have HNX:=Lib.hid (show rowOf m (fun i => if i = j then f' j + pa' else f' i) (ps.drop (k + 1)) = rowOf m f ps by rw [← HRO.out,hst.out]; exact (rowOf_step (p:=⟨(m:Int),(j:Int),pa'⟩) rfl rfl rfl hin).symm)
            have HIN:=Lib.hid hin
            have HJ:=Lib.hid hj
            clear hin hx64 ha64 hj
            generalize f' j + pa' = x' at *
            generalize f' j = x at *
            go_wp2_with fail
            go_quiet ((go_at_call 45; exact Calls.quiet_of_same (hadd.out _)))
            go_wp2
            go_roundw
            case rel =>
              have hs:=(HRA.out.set HJ.out (show 0 < 1 by omega) (.int .i64 x'))
              rw [Nat.mul_one,Nat.add_zero] at hs
              have hdr:Below (wr.alloc (.cells #[.int .i64 m,.int .i64 j,.int .i64 pa'] 69)).heap.size (wr.alloc (.cells #[.int .i64 m,.int .i64 j,.int .i64 pa'] 69)) ((wr.alloc (.cells #[.int .i64 m,.int .i64 j,.int .i64 pa'] 69)).drewN nq):=Bk.bdrew (Below.refl _ _) nq
              have hs:=((HRA.out.below hdr).set HJ.out (show 0 < 1 by omega) (.int .i64 x'))
              rw [Nat.mul_one,Nat.add_zero] at hs
              refine ⟨k + 1,fun i => if i = j then x' else f' i,by omega,by go_num,hs.ext (fun i j' _ hj' => ?_),HNX.out,fun i hi => ?_,(Bk.bdrew HBA2.out nq).setCell (p:=⟨g,j,none⟩) HG.out.1 _⟩
              · by_cases e:i = j
                · subst e; simp [show j' = 0 by omega]
                · simp [e]
              · show In64 (if i = j then x' else f' i)
                split
                · exact HIN.out
                · exact HF6.out i hi
            case measure => simp [intOf]; omega
          · have hadd:=Lib.hid (fun w => Bk.add_no w hx64 ha64 hin)
            have HNX:=Lib.hid (show rowOf m f ps = none by rw [← HRO.out,hst.out]; exact rowOf_no (p:=⟨(m:Int),(j:Int),pa'⟩) rfl (by simpa using hin))
            clear hin hx64 ha64 hj
            generalize f' j = x at *
            go_wp2_with fail
            go_quiet ((go_at_call 45; exact Calls.quiet_of_same (hadd.out _)))
            go_wp2
            go_ret3
            refine ⟨0,0,3,rfl,by omega,by omega,by rw [HH.out]; exact Bk.bdrew HBW2.out _,fun _ => by omega,fun h => by omega,fun _ _ => ?_⟩
            unfold ifRes
            rw [HNX.out]; rfl
        · have hme:(pm != (m:Int)) = true:=by simp [hpm]
          have HNX:=Lib.hid (show rowOf m f' (ps.drop (k + 1)) = rowOf m f ps by rw [← HRO.out,hst.out,rowOf_skip hpm])
          clear hpm ha64 hj
          go_wp2
          go_roundw
          case rel => exact ⟨k + 1,f',by omega,by go_num,HRA.out,HNX.out,HF6.out,HBA2.out⟩
          case measure => simp [intOf]; omega
      · obtain rfl:k = ps.length:=by omega
        have hro:=HRO.out
        rw [List.drop_length] at hro
        have HRES:=Lib.hid (show ifRes t f m ps = (t.net f').bind fun n => (t.short f').map fun s => (n,s) by unfold ifRes; rw [← hro]; rfl)
        have hbw:Below H w wr:=(HB2.out.trans ((HB4.out).mono HHZ.out)).trans (HB.out.mono (by have:=HHZ.out; omega))
        have HBW:=Lib.hid hbw
        have hbw2:Below w.heap.size w wr:=by rw [HH.out]; exact hbw
        have y0:wr.cell? ⟨z,0,none⟩ = some (.slice (some ⟨bm,0,none⟩) t.n cb):=(HXX.out.cell 0).trans rfl
        have y3:wr.cell? ⟨z,3,none⟩ = some (.int .i64 N0):=(HXX.out.cell 3).trans rfl
        have y4:wr.cell? ⟨z,4,none⟩ = some (.int .i64 E0):=(HXX.out.cell 4).trans rfl
        have y5:wr.cell? ⟨z,5,none⟩ = some (.int .i64 S0):=(HXX.out.cell 5).trans rfl
        have y6:wr.cell? ⟨z,6,none⟩ = some (.int .i64 F0):=(HXX.out.cell 6).trans rfl
        have hbm:RowK wr bm 1 t.n (fun i _ => .int .i64 (f i)):=((HAC.out.rb).below hbw2)
        have HEQ:=Lib.hid (Bk.equal (w:=wr) (SlI.of_row (c:=cg) HR.out) (SlI.of_row (c:=cb) hbm) (by omega))
        have HBW2:=Lib.hid hbw2
        clear hro hbw hbw2 hbm hlt hk
        cases heq:eqTo f' f t.n with
        | true =>
          rw [heq] at HEQ
          have hcong:=worths_congr (t:=t) (f:=f') (g:=f) (of_decide_eq_true heq)
          have HV:=Lib.hid (show on (t.net f') = N0∧oe (t.net f') = E0∧on (t.short f') = S0∧oe (t.short f') = F0 by rw [hcong.1,hcong.2]; exact HQ.out)
          clear heq hcong
          go_wp2_with fail
          refine HEQ.out.mono ?_
          rintro e w6 ⟨rfl,hb6⟩
          have HB6:=Lib.hid (HBW2.out.trans (hb6.mono HBW2.out.size))
          replace y0:=Bk.kept hb6 y0
          replace y3:=Bk.kept hb6 y3
          replace y4:=Bk.kept hb6 y4
          replace y5:=Bk.kept hb6 y5
          replace y6:=Bk.kept hb6 y6
          clear hb6 y7
          rcases oe_cases (t.net f') with ⟨ee,es⟩ | ⟨ee,es⟩
          · obtain rfl:E0 = 0:=by rw [← HV.out.2.1]; exact ee
            rcases oe_cases (t.short f') with ⟨fe,fs⟩ | ⟨fe,fs⟩
            · obtain rfl:F0 = 0:=by rw [← HV.out.2.2.2]; exact fe
              have HR2:=Lib.hid (show ifRes t f m ps = some (N0,S0) by rw [HRES.out,es,fs,HV.out.1,HV.out.2.2.1]; rfl)
              clear ee es fe fs
              go_wp2
              go_region
              go_wp2
              go_ret3
              exact ⟨N0,S0,0,rfl,by omega,by omega,HB6.out.drew,fun h => by (rw [HIB.out] at h; cases h),fun _ => HR2.out,fun _ h => absurd rfl h⟩
            · obtain rfl:F0 = 3:=by rw [← HV.out.2.2.2]; exact fe
              have HR2:=Lib.hid (show ifRes t f m ps = none by rw [HRES.out,es,fs]; rfl)
              clear ee es fe fs
              go_wp2
              go_ret3
              exact ⟨0,0,3,rfl,by omega,by omega,HB6.out,fun _ => by omega,fun h => by omega,fun _ _ => HR2.out⟩
          · obtain rfl:E0 = 3:=by rw [← HV.out.2.1]; exact ee
            have HR2:=Lib.hid (show ifRes t f m ps = none by rw [HRES.out,es]; rfl)
            clear ee es
            go_wp2
            go_ret3
            exact ⟨0,0,3,rfl,by omega,by omega,HB6.out,fun _ => by omega,fun h => by omega,fun _ _ => HR2.out⟩
        | false =>
          rw [heq] at HEQ
          have HW6:=Lib.hid (fun (wx:World) (hb:Below wr.heap.size wr wx) => Bk.account ((HW.out.below HBW2.out).below hb) ((HT.out.below HBW2.out).below hb) HO.out (.slice (some ⟨g,0,none⟩) t.n cg) f' (SlI.of_row (HR.out.below hb)) HF6.out)
          have hz6:wr.cell? ⟨H,0,none⟩ = some (.pointer (some ⟨b,0,none⟩)):=Bk.kept (Bk.mono_z HB.out HB5.out HZZ.out) HZ2.out
          clear heq y3 y4 y5 y6
          go_wp2_with fail
          refine HEQ.out.mono ?_
          rintro e w6 ⟨rfl,hb6⟩
          replace y0:=Bk.kept hb6 y0
          replace y7:=Bk.kept hb6 y7
          replace hz6:=Bk.kept hb6 hz6
          have HX6:=Lib.hid (HXX.out.below hb6)
          have HB6:=Lib.hid (HBW.out.trans (hb6.mono (by have:=HBW2.out.size; rw [HH.out] at this; exact this)))
          have HACC:=Lib.hid (HW6.out w6 hb6)
          clear hb6
          go_wp2_with fail
          refine HACC.out.mono ?_
          rintro e w7 ⟨gw2,cw2,gs2,cs2,rfl,_,_,_,_,_,_,_,_,_,hb7⟩
          have hX7:=HX6.out.below hb7
          have HX7:=Lib.hid hX7
          have HB7:=Lib.hid (HB6.out.trans (hb7.mono (by have:=HB6.out.size; rw [HH.out] at this; exact this)))
          have k0:=(hX7.cell 0).trans rfl
          have v0:=hX7.frozen 0
          have k1:=(hX7.cell 1).trans rfl
          have v1:=hX7.frozen 1
          have k2:=(hX7.cell 2).trans rfl
          have v2:=hX7.frozen 2
          have k3:=(hX7.cell 3).trans rfl
          have v3:=hX7.frozen 3
          have k4:=(hX7.cell 4).trans rfl
          have v4:=hX7.frozen 4
          have k5:=(hX7.cell 5).trans rfl
          have v5:=hX7.frozen 5
          have k6:=(hX7.cell 6).trans rfl
          have v6:=hX7.frozen 6
          have lz7:=hX7.lt
          clear hX7 hb7 y0 y7 hz6 lz lg HACC
          obtain ⟨N,hN1⟩:∃ x,on (t.net f') = x:=⟨_,rfl⟩
          obtain ⟨E,hE1⟩:∃ x,oe (t.net f') = x:=⟨_,rfl⟩
          obtain ⟨S,hS1⟩:∃ x,on (t.short f') = x:=⟨_,rfl⟩
          obtain ⟨F,hF1⟩:∃ x,oe (t.short f') = x:=⟨_,rfl⟩
          have HV:=Lib.hid (And.intro hN1 (And.intro hE1 (And.intro hS1 hF1)))
          rw [hN1,hE1,hS1,hF1]
          clear hN1 hE1 hS1 hF1
          go_upto_region 17 with (fail)
          have hX8:Blk (((((((w7.setCell ⟨z,0,none⟩ (.slice (some ⟨g,0,none⟩) t.n cg)).setCell ⟨z,1,none⟩ (.slice (some ⟨gw2,0,none⟩) t.n cw2)).setCell ⟨z,2,none⟩ (.slice (some ⟨gs2,0,none⟩) t.n cs2)).setCell ⟨z,3,none⟩ (.int .i64 N)).setCell ⟨z,4,none⟩ (.int .i64 E)).setCell ⟨z,5,none⟩ (.int .i64 S)).setCell ⟨z,6,none⟩ (.int .i64 F)) z 245 #[.slice (some ⟨g,0,none⟩) t.n cg,.slice (some ⟨gw2,0,none⟩) t.n cw2,.slice (some ⟨gs2,0,none⟩) t.n cs2,.int .i64 N,.int .i64 E,.int .i64 S,.int .i64 F,.slice (some ⟨g,0,none⟩) t.n cg]:=((((((HX7.out.set 0 _).set 1 _).set 2 _).set 3 _).set 4 _).set 5 _).set 6 _
          have HB8:=Lib.hid (show Below w.heap.size w (((((((w7.setCell ⟨z,0,none⟩ (.slice (some ⟨g,0,none⟩) t.n cg)).setCell ⟨z,1,none⟩ (.slice (some ⟨gw2,0,none⟩) t.n cw2)).setCell ⟨z,2,none⟩ (.slice (some ⟨gs2,0,none⟩) t.n cs2)).setCell ⟨z,3,none⟩ (.int .i64 N)).setCell ⟨z,4,none⟩ (.int .i64 E)).setCell ⟨z,5,none⟩ (.int .i64 S)).setCell ⟨z,6,none⟩ (.int .i64 F)) by rw [HH.out]; exact ((((((HB7.out.setCell (p:=⟨z,0,none⟩) HHZ.out _).setCell (p:=⟨z,1,none⟩) HHZ.out _).setCell (p:=⟨z,2,none⟩) HHZ.out _).setCell (p:=⟨z,3,none⟩) HHZ.out _).setCell (p:=⟨z,4,none⟩) HHZ.out _).setCell (p:=⟨z,5,none⟩) HHZ.out _).setCell (p:=⟨z,6,none⟩) HHZ.out _)
          clear k0 k1 k2 k3 k4 k5 k6 v0 v1 v2 v3 v4 v5 v6
          generalize (((((((w7.setCell ⟨z,0,none⟩ (.slice (some ⟨g,0,none⟩) t.n cg)).setCell ⟨z,1,none⟩ (.slice (some ⟨gw2,0,none⟩) t.n cw2)).setCell ⟨z,2,none⟩ (.slice (some ⟨gs2,0,none⟩) t.n cs2)).setCell ⟨z,3,none⟩ (.int .i64 N)).setCell ⟨z,4,none⟩ (.int .i64 E)).setCell ⟨z,5,none⟩ (.int .i64 S)).setCell ⟨z,6,none⟩ (.int .i64 F)) = W8 at *
          have y3:=(hX8.cell 3).trans rfl
          have y4:=(hX8.cell 4).trans rfl
          have y5:=(hX8.cell 5).trans rfl
          have y6:=(hX8.cell 6).trans rfl
          clear hX8
          rcases oe_cases (t.net f') with ⟨ee,es⟩ | ⟨ee,es⟩
          · obtain rfl:E = 0:=by rw [← HV.out.2.1]; exact ee
            rcases oe_cases (t.short f') with ⟨fe,fs⟩ | ⟨fe,fs⟩
            · obtain rfl:F = 0:=by rw [← HV.out.2.2.2]; exact fe
              have HR2:=Lib.hid (show ifRes t f m ps = some (N,S) by rw [HRES.out,es,fs,HV.out.1,HV.out.2.2.1]; rfl)
              clear ee es fe fs
              go_wp2
              go_region
              go_wp2
              go_ret3
              exact ⟨N,S,0,rfl,by omega,by omega,HB8.out.drew,fun h => by (rw [HIB.out] at h; cases h),fun _ => HR2.out,fun _ h => absurd rfl h⟩
            · obtain rfl:F = 3:=by rw [← HV.out.2.2.2]; exact fe
              have HR2:=Lib.hid (show ifRes t f m ps = none by rw [HRES.out,es,fs]; rfl)
              clear ee es fe fs
              go_wp2
              go_ret3
              exact ⟨0,0,3,rfl,by omega,by omega,HB8.out,fun _ => by omega,fun h => by omega,fun _ _ => HR2.out⟩
          · obtain rfl:E = 3:=by rw [← HV.out.2.1]; exact ee
            have HR2:=Lib.hid (show ifRes t f m ps = none by rw [HRES.out,es]; rfl)
            clear ee es
            go_wp2
            go_ret3
            exact ⟨0,0,3,rfl,by omega,by omega,HB8.out,fun _ => by omega,fun h => by omega,fun _ _ => HR2.out⟩
end Go.Proofs.YtgcnnbjbdfgglaaGreat
namespace Go.Proofs.YtgcnnbjbdfgglaaGreat
open Go.RowKit
structure Gh where
  g:Nat
  l:Nat
  r:Nat
  cap:Nat
  wb:Nat
  tv:Value
  ab:Nat
  ca:Nat
  lb:Nat
  lc:Nat
  fb:Nat
  fc:Nat
  A:Nat→Nat→Value
  bm:Nat→Nat
  gw:Nat→Nat
  gs:Nat→Nat
  sb:Nat→Nat
  sc:Nat→Nat
structure Gd where
  L:Led
  t:Rates
  code:Nat→ByteArray
  lim:Nat→Lim
  flag:Nat→Bool
structure Gd.Ok (d:Gd):Prop where
  lok:d.L.Ok
  tok:d.t.Ok
  c:d.L.c = d.t.n
  s64:∀ m i,m < d.L.n→i < d.t.n→0≤(d.lim m).short i∧In64 ((d.lim m).short i)
  a64:∀ m,m < d.L.n→In64 (d.lim m).all
structure GuAt (w:World) (h:Gh) (d:Gd):Prop where
  gu:Blk w h.g 139 #[.pointer (some ⟨h.l,0,none⟩),.pointer (some ⟨h.wb,0,none⟩),.slice (some ⟨h.lb,0,none⟩) d.L.n h.lc,.slice (some ⟨h.fb,0,none⟩) d.L.n h.fc]
  led:LedAt w h.l h.r h.cap d.L
  wor:WorAt w h.wb h.tv h.l (.slice (some ⟨h.ab,0,none⟩) d.L.n h.ca)
  tab:SlT w h.tv d.t d.code
  acc:RowK w h.ab 7 d.L.n h.A
  aty:Ty w h.ab 243
  acs:∀ m,m < d.L.n→AccOK w d.t (d.L.bal m) (h.A m) (h.bm m) (h.gw m) (h.gs m)
  lims:RowK w h.lb 2 d.L.n (fun m j => if j = 0 then .slice (some ⟨h.sb m,0,none⟩) d.t.n (h.sc m) else .int .i64 (d.lim m).all)
  sho:∀ m,m < d.L.n→RowK w (h.sb m) 1 d.t.n (fun i _ => .int .i64 ((d.lim m).short i))
  flags:RowK w h.fb 1 d.L.n (fun m _ => .bool (d.flag m))
  fty:Ty w h.fb 4
  ok:d.Ok
theorem GuAt.below {w w1:World} {h:Gh} {d:Gd} (a:GuAt w h d) (hb:Below w.heap.size w w1):GuAt w1 h d :=
  ⟨a.gu.below hb,a.led.below hb,a.wor.below hb,a.tab.below hb,a.acc.below hb,a.aty.below hb,fun m hm => (a.acs m hm).below hb,a.lims.below hb,fun m hm => (a.sho m hm).below hb,a.flags.below hb,a.fty.below hb,a.ok⟩
set_option maxRecDepth 100000 in
set_option maxHeartbeats 400000 in
theorem Bk.gu_has {w:World} {h:Gh} {d:Gd} (a:GuAt w h d) (m:Int):Calls Tryz.prog 44 #[.pointer (some ⟨h.g,0,none⟩),.int .i64 m] w fun e w' => e = .returned (.bool (hasN d.L.n m))∧w' = w:=by
  have h3:=(a.gu.cell 3).trans rfl
  clear a
  generalize d.L.n = N at *
  by_cases h1:0≤m
  · by_cases h2:m < N
    · have HH:hasN N m = true:=decide_eq_true (And.intro h1 h2)
      rw [HH]
      go_enter Tryz.func44,Tryz.ntmps44
      go_wp2
      go_ret
      exact ⟨rfl,rfl⟩
    · have HH:hasN N m = false:=decide_eq_false (fun (h:0≤m∧m < N) => h2 h.2)
      rw [HH]
      go_enter Tryz.func44,Tryz.ntmps44
      go_wp2
      go_ret
      exact ⟨rfl,rfl⟩
  · have HH:hasN N m = false:=decide_eq_false (fun (h:0≤m∧m < N) => h1 h.1)
    rw [HH]
    go_enter Tryz.func44,Tryz.ntmps44
    go_wp2
    go_ret
    exact ⟨rfl,rfl⟩
def Gd.flagged (d:Gd) (m:Int):Bool:=hasN d.L.n m && d.flag m.toNat
set_option maxRecDepth 100000 in
set_option maxHeartbeats 1000000 in
theorem Bk.flagged {w:World} {h:Gh} {d:Gd} (a:GuAt w h d) (m:Int):Calls Tryz.prog 21 #[.pointer (some ⟨h.g,0,none⟩),.int .i64 m] w fun e w' => e = .returned (.bool (d.flagged m))∧w' = w:=by
  have hh:=Lib.hid (Bk.gu_has a m)
  by_cases hq:hasN d.L.n m = true
  · have e:d.flagged m = d.flag m.toNat:=by unfold Gd.flagged; rw [hq]; rfl
    rw [e]
    rw [hq] at hh
    obtain ⟨h1,h2⟩:=hasN_iff.1 hq
    obtain ⟨i,rfl⟩:∃ i:Nat,m = i:=⟨m.toNat,by omega⟩
    have h3:=(a.gu.cell 3).trans rfl
    have hf:=a.flags.cell (i:=i) (by omega) (show 0 < 1 by omega)
    rw [Nat.mul_one,Nat.add_zero] at hf
    have hn:=a.ok.lok.n16
    have q1:(i:Int) < (d.L.n:Int):=h2
    have q2:(d.L.n:Int)≤16:=by omega
    rw [Int.toNat_natCast]
    clear a hq e h1 h2 hn
    generalize d.flag i = b at *
    generalize d.L.n = N at *
    go_enter Tryz.func21,Tryz.ntmps21
    go_wp2_with fail
    refine hh.out.mono ?_
    rintro e w1 ⟨rfl,rfl⟩
    go_wp2
    go_ret
    exact ⟨rfl,rfl⟩
  · rw [Bool.not_eq_true] at hq
    have e:d.flagged m = false:=by unfold Gd.flagged; rw [hq]; rfl
    rw [e]
    rw [hq] at hh
    clear a hq e
    go_enter Tryz.func21,Tryz.ntmps21
    go_wp2_with fail
    refine hh.out.mono ?_
    rintro e w1 ⟨rfl,rfl⟩
    go_wp2
    go_ret
    exact ⟨rfl,rfl⟩
def SumsPost (d:Gd) (m:Nat) (ps:List Pst) (most:Int) (w:World) (e:Ending) (w':World):Prop:=∃ v:Int,e = .returned (.int .i64 v)∧(v = 0∨v = 1∨v = 4∨v = 5∨v = 7)∧Below w.heap.size w w'∧(inB d.t.n ps = false→v ≠ 0)∧(inB d.t.n ps = true→(v = 0 ↔ ∃ n s,ifRes d.t (d.L.bal m) m ps = some (n,s)∧¬ n < 0∧¬ most < s))
set_option maxRecDepth 100000 in
set_option maxHeartbeats 2000000 in
theorem Bk.sums {w:World} {h:Gh} {d:Gd} (a:GuAt w h d) (m:Nat) (hm:m < d.L.n) (v:Value) (ps:List Pst) (hp:SlP w v ps) (hn:(ps.length:Int)≤4000) (ha:∀ p ∈ ps,In64 p.a) (most:Int) (_hmo:In64 most) :
    Calls Tryz.prog 46 #[.pointer (some ⟨h.g,0,none⟩),.int .i64 m,v,.int .i64 most] w (SumsPost d m ps most w):=by
  have HIF:=Lib.hid (Bk.if_ a.wor a.tab a.ok.tok a.acc m hm (by have:=a.ok.lok.n16; omega) (a.acs m hm) (fun i hi => a.ok.lok.b64 m i hm (by have:=a.ok.tok.le; omega)) v ps hp hn ha)
  have h1:=(a.gu.cell 1).trans rfl
  clear a hp ha
  unfold In64 at _hmo
  go_enter Tryz.func46,Tryz.ntmps46
  go_wp2_with fail
  refine HIF.out.mono ?_
  rintro e w1 ⟨n,s,c,rfl,hc0,hc3,hb,hno,hyes,hnone⟩
  have HB:=Lib.hid hb
  by_cases hc:c = 0
  · subst hc
    have HR:=Lib.hid (hyes rfl)
    have HN:=Lib.hid hno
    clear hyes hno hnone hb
    have fin:∀ v:Int,(v = 0∨v = 1∨v = 4∨v = 5∨v = 7)→(v = 0 ↔ ¬ n < 0∧¬ most < s)→SumsPost d m ps most w (.returned (.int .i64 v)) w1:=fun v hv hiff =>
      ⟨v,rfl,hv,HB.out,fun hf => absurd rfl (HN.out hf),fun _ => ⟨fun h0 => ⟨n,s,HR.out,(hiff.1 h0).1,(hiff.1 h0).2⟩,fun ⟨n',s',he,h5,h6⟩ => by rw [HR.out] at he; cases he; exact hiff.2 ⟨h5,h6⟩⟩⟩
    have FIN:=Lib.hid fin
    clear fin
    by_cases h5:n < 0
    · by_cases h6:most < s
      · go_wp2
        go_ret
        exact FIN.out 5 (by omega) ⟨fun h => by omega,fun h => by omega⟩
      · go_wp2
        go_ret
        exact FIN.out 1 (by omega) ⟨fun h => by omega,fun h => by omega⟩
    · by_cases h6:most < s
      · go_wp2
        go_ret
        exact FIN.out 4 (by omega) ⟨fun h => by omega,fun h => by omega⟩
      · go_wp2
        go_ret
        exact FIN.out 0 (by omega) ⟨fun _ => by omega,fun _ => rfl⟩
  · have hcb:(c == 0) = false:=by simp [hc]
    have HNN:=Lib.hid (fun h => hnone h hc)
    clear hyes hno hnone hb hc
    go_wp2
    go_ret
    exact ⟨7,rfl,by omega,HB.out,fun _ => by omega,fun h => ⟨fun h0 => by omega,fun ⟨n',s',he,_,_⟩ => by rw [HNN.out h] at he; cases he⟩⟩
end Go.Proofs.YtgcnnbjbdfgglaaGreat
