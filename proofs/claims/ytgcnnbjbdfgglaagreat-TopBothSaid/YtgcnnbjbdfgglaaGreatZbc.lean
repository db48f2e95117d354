/- LAW TopBoth: of every configuration of a bank and every list of byte strings the given function TopBoth returns true and leaves its arguments as they were; no condition. A part of what it needs. -/
import Derived.Test.YtgcnnbjbdfgglaaGreatZbb
import Derived.Deep.RegionHeld3
namespace Go.Proofs.YtgcnnbjbdfgglaaGreat.W
open Go.RowKit
section
structure MayR (w:World) (B gu gc:Nat) (c:Cm) (L:List (Nat × Nat)) (n':Nat→Int) (ts fs:Value) (wr:World):Prop where
  hu:CmAt wr gu ⟨c.k,n'⟩
  hc:CmAt wr gc c
  ft:FieldsAt wr B gu ts L
  ff:FieldsAt wr B gc fs L
  bel:Below w.heap.size w wr
theorem MayR.below {w:World} {B gu gc:Nat} {c:Cm} {L:List (Nat × Nat)} {n':Nat→Int} {ts fs:Value} {wr w':World} (h:MayR w B gu gc c L n' ts fs wr) (hb:Below wr.heap.size wr w'):MayR w B gu gc c L n' ts fs w' :=
  ⟨h.hu.below hb,h.hc.below hb,fieldsAt_below h.ft hb,fieldsAt_below h.ff hb,h.bel.trans (hb.mono h.bel.size)⟩
theorem MayR.set {w:World} {B gu gc:Nat} {c:Cm} {L:List (Nat × Nat)} {n':Nat→Int} {ts fs:Value} {wr:World} (h:MayR w B gu gc c L n' ts fs wr) (hB:gu < B) (hne:gc ≠ gu) (hg:w.heap.size≤gu) {i:Nat} (h1:1≤i) (h7:i≤7) (x:Int) :
    MayR w B gu gc c L (upd n' i x) ts fs (wr.setCell ⟨gu,i,none⟩ (.int .i64 x)) :=
  ⟨h.hu.set h1 h7 x,h.hc.apart hne _ _,fieldsAt_apart h.ft hB _ _,fieldsAt_apart h.ff hB _ _,h.bel.setCell hg _⟩
theorem three_new (w:World) (a b c:Value) (t:TypeId):(w.alloc (.cells #[a,b,c] t (0,0))).cell? ⟨w.heap.size,0,none⟩ = some a∧(w.alloc (.cells #[a,b,c] t (0,0))).cell? ⟨w.heap.size,1,none⟩ = some b∧(w.alloc (.cells #[a,b,c] t (0,0))).cell? ⟨w.heap.size,2,none⟩ = some c:=by
  have h:=heap_alloc_new w (.cells #[a,b,c] t (0,0))
  exact ⟨(cell_of_row _ _ 0 _ _ _ h).trans rfl,(cell_of_row _ _ 1 _ _ _ h).trans rfl,(cell_of_row _ _ 2 _ _ _ h).trans rfl⟩
theorem all_false {L:List (Nat × Nat)} {f:Nat × Nat→Bool} {j:Nat} {p:Nat × Nat} (h:L[j]? = some p) (hf:f p = false):L.all f = false:=by
  rw [List.all_eq_false]
  exact ⟨p,List.mem_of_getElem? h,by simp [hf]⟩
theorem drewN_below' {B:Nat} {w w':World} (h:Below B w w') (n:Nat):Below B w (w'.drewN n):=⟨h.os,h.tape,h.output,h.size,h.block⟩
theorem pn_nil (c:Cm):(fun _ => 0:Nat→Int) = pn c []:=by funext i; simp [pn]
set_option maxRecDepth 100000 in
set_option maxHeartbeats 4000000 in
theorem may_any (c:Cm) (w:World) :
    Calls Tryz.prog 39 #[.agg c.cells] w fun e w' => e = .returned (.bool (may c))∧Below w.heap.size w w':=by
  have hn0:=cmAt_new w c
  have hn1:=cmAt_new (w.alloc (.cells c.cells 54 (0,0))) ⟨c.k,fun _ => 0⟩
  have hn2:=hn0.below ((Below.refl _ _).alloc (Nat.le_refl _) (.cells (Cm.cells ⟨c.k,fun _ => 0⟩) 54 (0,0)))
  have hB0:=(((Below.refl _ _).alloc (Nat.le_refl _) (.cells c.cells 54 (0,0))).alloc (by simp) (.cells (Cm.cells ⟨c.k,fun _ => 0⟩) 54 (0,0)):Below w.heap.size w _)
  have hsz:((w.alloc (.cells c.cells 54 (0,0))).alloc (.cells (Cm.cells ⟨c.k,fun _ => 0⟩) 54 (0,0))).heap.size = w.heap.size + 2:=by simp
  rw [show (w.alloc (.cells c.cells 54 (0,0))).heap.size = w.heap.size + 1 by simp] at hn1
  have hk:=hn0.kind
  have HN1:=Lib.hid hn1
  have HN2:=Lib.hid hn2
  have HB0:=Lib.hid hB0
  have HSZ:=Lib.hid hsz
  clear hn0 hn1 hn2 hB0 hsz
  obtain ⟨L,hL⟩:∃ L,specs c.k = L:=⟨_,rfl⟩
  have HL:=Lib.hid hL
  have HM:=Lib.hid (show may c = (decide (0 < L.length) && (L.all (okField c) && same (pn c L) c.n)) by rw [← hL]; rfl)
  have hl7:L.length≤7:=by rw [← hL]; exact specs_len _
  have HP:=Lib.hid (show ∀ p ∈ L,1≤p.1∧p.1≤7∧(p.1≤5→p.2 = 1∨p.2 = 4)∧(5 < p.1→p.2 = 8) by intro p hp; rw [← hL] at hp; exact specs_mem hp)
  clear hL
  generalize may c = m at *
  unfold Cm.cells at *
  dsimp only at HN1 HN2 HB0 HSZ hk ⊢
  go_enter Tryz.func39,Tryz.ntmps39
  go_wp2_with fail
  have hk1:=HN1.out.kind
  refine (fields_any (w.heap.size + 1) c.k _ hk1).mono ?_
  rintro e w3 ⟨_,rfl,h3,hb3⟩
  have hk3:=(HN2.out.below hb3).kind
  have HR3:=Lib.hid (And.intro (HN1.out.below hb3) (And.intro (HN2.out.below hb3) (HB0.out.trans (hb3.mono HB0.out.size))))
  have HS3:=Lib.hid (show w.heap.size + 2≤w3.heap.size by rw [← HSZ.out]; exact hb3.size)
  rw [HSZ.out] at h3
  obtain ⟨a3,rfl,h3⟩:=h3
  replace h3:=Lib.hid h3
  clear hk hk1 hb3 HN1 HN2 HB0 HSZ
  go_wp2_with fail
  refine (fields_any w.heap.size c.k _ hk3).mono ?_
  rintro e w4 ⟨_,rfl,h4,hb4⟩
  have ht:FieldsAt w4 (w.heap.size + 2) (w.heap.size + 1) (.slice a3 (specs c.k).length (specs c.k).length) (specs c.k):=fieldsAt_below ⟨_,rfl,h3.out⟩ hb4
  have hf:FieldsAt w4 (w.heap.size + 2) w.heap.size _ (specs c.k):=fieldsAt_mono h4 HS3.out
  obtain ⟨a4,rfl,-⟩:=h4
  rw [HL.out] at ht hf ⊢
  have HM4:=Lib.hid (show MayR w (w.heap.size + 2) (w.heap.size + 1) w.heap.size c L (fun _ => 0) (.slice a3 L.length L.length) (.slice a4 L.length L.length) w4 from ⟨HR3.out.1.below hb4,HR3.out.2.1.below hb4,ht,hf,HR3.out.2.2.trans (hb4.mono HR3.out.2.2.size)⟩)
  clear hk3 h3 ht hf hb4 HR3 HS3
  go_wp2_with fail
  go_loopw [13] (fun i wr => ∃ j:Nat,j≤L.length∧i = .int .i64 j∧(L.take j).all (okField c) = true∧MayR w (w.heap.size + 2) (w.heap.size + 1) w.heap.size c L (pn c (L.take j)) (.slice a3 L.length L.length) (.slice a4 L.length L.length) wr) (fun i _ => L.length - (intOf i).toNat)
  case atStart => exact ⟨0,by omega,rfl,by simp,by rw [List.take_zero,← pn_nil]; exact HM4.out⟩
  case round =>
    obtain ⟨j,hj,rfl,hall,hr⟩:=hrel
    clear HM4
    have HA:=Lib.hid hall
    have HR:=Lib.hid hr
    clear hall
    by_cases hlt:j < L.length
    · have hq1:(j:Int) < L.length:=by omega
      have hp:L[j]? = some L[j]:=by simp [hlt]
      obtain ⟨b4,hb4,e4,r4⟩:=fields_range hr.ff hp
      simp only [Value.slice.injEq] at e4
      obtain ⟨rfl,_,_⟩:=e4
      obtain ⟨b3,hb3,e3,r3⟩:=fields_range hr.ft hp
      simp only [Value.slice.injEq] at e3
      obtain ⟨rfl,_,_⟩:=e3
      have hsn:=Lib.hid (pn_snoc c (L.take j) L[j])
      have htk:=Lib.hid (show L.take (j + 1) = L.take j ++ [L[j]] from List.take_succ_eq_append_getElem hlt)
      have hpm:=HP.out L[j] (List.getElem_mem hlt)
      generalize L[j] = p at *
      obtain ⟨i,b⟩:=p
      have HLJ:=Lib.hid hp
      clear hp
      by_cases hi:i≤5
      · rw [show fieldCells (w.heap.size) (i,b) = [.pointer (some ⟨w.heap.size,i,none⟩),.pointer none,.int .i64 b] from if_pos hi] at r4
        rw [show fieldCells (w.heap.size + 1) (i,b) = [.pointer (some ⟨w.heap.size + 1,i,none⟩),.pointer none,.int .i64 b] from if_pos hi] at r3
        have hbn:=(Below.refl wr.heap.size wr).alloc (Nat.le_refl _) (.cells #[.pointer (some ⟨w.heap.size,i,none⟩),.pointer none,.int .i64 b] 118 (0,0))
        obtain ⟨x0,x1,x2⟩:=three_new wr (.pointer (some ⟨w.heap.size,i,none⟩)) (.pointer none) (.int .i64 b) 118
        have y0:=kept_cell hbn (r3 0 _ rfl)
        have y1:=kept_cell hbn (r3 1 _ rfl)
        have y2:=kept_cell hbn (r3 2 _ rfl)
        have hr5:=hr.below hbn
        have zc:=hr5.hc.num hpm.1 hpm.2.1
        have zu:=hr5.hu.num hpm.1 hpm.2.1
        have zf:=hr5.hu.frozen i
        rw [Nat.add_zero] at y0
        have H4:=Lib.hid r4
        have HR5:=Lib.hid hr5
        have HPM:=Lib.hid hpm
        have HI:=Lib.hid hi
        clear r3 r4 hr hr5 hbn HR hpm hi
        go_wp2_with (with_reducible refine wpList_load_mid rfl 118 (.tmp 16) rfl b4 (j * 3) rfl _ _ H4.out Tryz.underlying118 rfl (by kernel_rfl) ?_)
        generalize wr.alloc (.cells #[.pointer (some ⟨w.heap.size,i,none⟩),.pointer none,.int .i64 b] 118 (0,0)) = w5 at *
        generalize wr.heap.size = z at *
        go_quiet (first | (go_at_call 35; exact Calls.quiet_of_same (within_any _ _ _)))
        have hr6:MayR w (w.heap.size + 2) (w.heap.size + 1) w.heap.size c L (pn c (L.take j)) (.slice (some ⟨b3,0,none⟩) L.length L.length) (.slice (some ⟨b4,0,none⟩) L.length L.length) (w5.drewN nq):=HR5.out.below (drewN_below' (Below.refl _ _) nq)
        have HR6:=Lib.hid hr6
        have x0':(w5.drewN nq).cell? _ = _:=x0
        have x1':(w5.drewN nq).cell? _ = _:=x1
        have x2':(w5.drewN nq).cell? _ = _:=x2
        have y0':(w5.drewN nq).cell? _ = _:=y0
        have zc':(w5.drewN nq).cell? _ = _:=zc
        have zu':(w5.drewN nq).cell? _ = _:=zu
        have zf':(w5.drewN nq).frozen? _ = _:=zf
        clear hr6 x0 x1 x2 y0 y1 y2 zc zu zf HR5
        generalize w5.drewN nq = w6 at *
        cases hfit:fits (c.n i) b
        · have HF:=Lib.hid hfit
          clear hfit
          go_wp2
          go_ret
          refine ⟨ret_bool ?_,HR6.out.bel⟩
          rw [HM.out,all_false HLJ.out (show okField c (i,b) = false by unfold okField; rw [HF.out,Bool.or_false]; exact decide_eq_false (by have:=HI.out; omega))]
          simp
        · have HF:=Lib.hid hfit
          clear hfit
          go_upto_region 10 with (fail)
          go_still_tail 10,(by kernel_rfl)
          go_wp2
          have hr7:=HR6.out.below ((Below.refl _ _).drew)
          have hr8:=hr7.set (by omega) (by omega) (by omega) HPM.out.1 HPM.out.2.1 (c.n i)
          rw [hsn.out,← htk.out] at hr8
          have HR8:=Lib.hid hr8
          clear hr7 hr8
          go_roundw
          case rel => exact ⟨j + 1,by omega,by go_num,by rw [htk.out,List.all_append,HA.out]; simp [okField,HF.out],HR8.out⟩
          case measure => simp [intOf]; omega
      · rw [show fieldCells (w.heap.size) (i,b) = [.pointer none,.pointer (some ⟨w.heap.size,i,none⟩),.int .i64 b] from if_neg hi] at r4
        rw [show fieldCells (w.heap.size + 1) (i,b) = [.pointer none,.pointer (some ⟨w.heap.size + 1,i,none⟩),.int .i64 b] from if_neg hi] at r3
        have hbn:=(Below.refl wr.heap.size wr).alloc (Nat.le_refl _) (.cells #[.pointer none,.pointer (some ⟨w.heap.size,i,none⟩),.int .i64 b] 118 (0,0))
        obtain ⟨x0,x1,x2⟩:=three_new wr (.pointer none) (.pointer (some ⟨w.heap.size,i,none⟩)) (.int .i64 b) 118
        have y0:=kept_cell hbn (r3 0 _ rfl)
        have y1:=kept_cell hbn (r3 1 _ rfl)
        have y2:=kept_cell hbn (r3 2 _ rfl)
        have hr5:=hr.below hbn
        have zc:=hr5.hc.num hpm.1 hpm.2.1
        have zu:=hr5.hu.num hpm.1 hpm.2.1
        have zf:=hr5.hu.frozen i
        rw [Nat.add_zero] at y0
        have H4:=Lib.hid r4
        have HR5:=Lib.hid hr5
        have HPM:=Lib.hid hpm
        have HI:=Lib.hid hi
        clear r3 r4 hr hr5 hbn HR hpm hi
        go_wp2_with (with_reducible refine wpList_load_mid rfl 118 (.tmp 16) rfl b4 (j * 3) rfl _ _ H4.out Tryz.underlying118 rfl (by kernel_rfl) ?_)
        generalize wr.alloc (.cells #[.pointer none,.pointer (some ⟨w.heap.size,i,none⟩),.int .i64 b] 118 (0,0)) = w5 at *
        generalize wr.heap.size = z at *
        go_upto_region 7 with (fail)
        go_still_tail 10,(by kernel_rfl)
        go_wp2
        have hr7:=HR5.out.below ((Below.refl _ _).drew)
        have hr8:=hr7.set (by omega) (by omega) (by omega) HPM.out.1 HPM.out.2.1 (c.n i)
        rw [hsn.out,← htk.out] at hr8
        have HR8:=Lib.hid hr8
        clear hr7 hr8
        go_roundw
        case rel => exact ⟨j + 1,by omega,by go_num,by rw [htk.out,List.all_append,HA.out]; simp [okField]; left; exact Nat.lt_of_not_le HI.out,HR8.out⟩
        case measure => simp [intOf]; omega
    · obtain rfl:j = L.length:=by omega
      rw [List.take_length] at HR HA
      clear hr
      have HB:=Lib.hid HR.out.bel
      have c0:=HR.out.hc.kind
      have c1:=HR.out.hc.num (i:=1) (by omega) (by omega)
      have c2:=HR.out.hc.num (i:=2) (by omega) (by omega)
      have c3:=HR.out.hc.num (i:=3) (by omega) (by omega)
      have c4:=HR.out.hc.num (i:=4) (by omega) (by omega)
      have c5:=HR.out.hc.num (i:=5) (by omega) (by omega)
      have c6:=HR.out.hc.num (i:=6) (by omega) (by omega)
      have c7:=HR.out.hc.num (i:=7) (by omega) (by omega)
      have u0:=HR.out.hu.kind
      have u1:=HR.out.hu.num (i:=1) (by omega) (by omega)
      have u2:=HR.out.hu.num (i:=2) (by omega) (by omega)
      have u3:=HR.out.hu.num (i:=3) (by omega) (by omega)
      have u4:=HR.out.hu.num (i:=4) (by omega) (by omega)
      have u5:=HR.out.hu.num (i:=5) (by omega) (by omega)
      have u6:=HR.out.hu.num (i:=6) (by omega) (by omega)
      have u7:=HR.out.hu.num (i:=7) (by omega) (by omega)
      generalize pn c L = n' at *
      clear HR
      by_cases h0:0 < L.length
      · have h0i:(0:Int) < L.length:=by omega
        go_wp2
        all_goals
          go_ret
          refine ⟨ret_bool ?_,HB.out⟩
          rw [HM.out,HA.out]
          clear HM HA HB HL HP
          simp [same, *]
      · have h0i:¬ (0:Int) < L.length:=by omega
        go_wp2
        all_goals
          go_ret
          refine ⟨ret_bool ?_,HB.out⟩
          rw [HM.out,HA.out]
          clear HM HA HB HL HP
          simp [same, *]
end
section
def kb (k:Int):UInt8:=UInt8.ofNat (k % 256).toNat
theorem be_len (n:Int):∀ k,(be n k).length = k
  | 0 => rfl
  | k + 1 => by simp [be,be_len n k]
theorem conv_own {B:Nat} {v:Value} {acc:List UInt8} {w:World} (h:w.ownsRow B 5 1 v acc.length (bytesV acc)) (hne:acc ≠ []) :
    (convert 162 9 v).run Tryz.prog w = .ok (.string ⟨acc.toArray⟩) w:=by
  have hpos:0 < acc.length:=List.length_pos_iff.2 hne
  rcases h.2 with ⟨_,h0⟩ | ⟨g,cap,cur,rfl,_,hc,_,_,_,ht⟩
  · omega
  · refine run_convert_bytes_back (P:=Tryz.prog) _ 162 9 5 ⟨g,0,none⟩ cap acc Tryz.underlying162 Tryz.underlying5 Tryz.underlying9 ?_
    intro j hj
    rw [Addr.add_mid,Nat.zero_add,cell_of_row _ _ _ _ _ _ hc]
    have:(bytesV acc)[j]? = some (.int .u8 acc[j].toNat):=by simp [bytesV,hj]
    rw [← ht,List.getElem?_take] at this
    split at this
    · simpa using this
    · cases this
theorem own_below {B B' n:Nat} {t:TypeId} {v:Value} {xs:List Value} {w w':World} (h:w.ownsRow B t 1 v n xs) (hb:Below B' w w') (hB:B' = w.heap.size):w'.ownsRow B t 1 v n xs:=by
  subst hB
  refine ⟨h.1,?_⟩
  rcases h.2 with hn | ⟨g,cap,cur,rfl,hb2,hgg,rest⟩
  · exact .inl hn
  · exact .inr ⟨g,cap,cur,rfl,hb2,by rw [hb.block g (Array.getElem?_eq_some_iff.1 hgg).1]; exact hgg,rest⟩
end
section
def tk:List (Nat × Nat)→List UInt8→(Nat→Int)→Option ((Nat→Int) × List UInt8)
  | [],s,n => some (n,s)
  | p :: L,s,n => if s.length < p.2 then none else tk L (s.drop p.2) (upd n p.1 (IntKind.i64.wrap (val (s.take p.2):Nat)))
theorem tk_app (L M:List (Nat × Nat)):∀ (s:List UInt8) (n:Nat→Int),tk (L ++ M) s n = match tk L s n with
    | none => none
    | some (n',r) => tk M r n':=by
  induction L with
  | nil => intro s n; rfl
  | cons p L ih =>
    intro s n
    simp only [List.cons_append,tk]
    split
    · rfl
    · exact ih _ _
def take (s:List UInt8):Option Cm :=
  match s with
  | [] => none
  | x :: s => match tk (specs x.toNat) s (fun _ => 0) with
    | none => none
    | some (n,r) => if r = []∧may ⟨x.toNat,n⟩ = true then some ⟨x.toNat,n⟩ else none
def takeV:Option Cm→Value
  | none => .tuple #[.agg (Cm.cells ⟨0,fun _ => 0⟩),.int .i64 2]
  | some c => .tuple #[.agg c.cells,.int .i64 0]
structure TakeR (w:World) (gr gc:Nat) (k:Int) (n:Nat→Int) (L:List (Nat × Nat)) (fs:Value) (wr:World):Prop where
  hc:CmAt wr gc ⟨k,n⟩
  hr:CmAt wr gr ⟨0,fun _ => 0⟩
  ff:FieldsAt wr (gc + 1) gc fs L
  bel:Below w.heap.size w wr
theorem TakeR.below {w:World} {gr gc:Nat} {k:Int} {n:Nat→Int} {L:List (Nat × Nat)} {fs:Value} {wr w':World} (h:TakeR w gr gc k n L fs wr) (hb:Below wr.heap.size wr w'):TakeR w gr gc k n L fs w' :=
  ⟨h.hc.below hb,h.hr.below hb,fieldsAt_below h.ff hb,h.bel.trans (hb.mono h.bel.size)⟩
theorem TakeR.set {w:World} {gr gc:Nat} {k:Int} {n:Nat→Int} {L:List (Nat × Nat)} {fs:Value} {wr:World} (h:TakeR w gr gc k n L fs wr) (hne:gr ≠ gc) (hg:w.heap.size≤gc) {i:Nat} (h1:1≤i) (h7:i≤7) (x:Int) :
    TakeR w gr gc k (upd n i x) L fs (wr.setCell ⟨gc,i,none⟩ (.int .i64 x)) :=
  ⟨h.hc.set h1 h7 x,h.hr.apart hne _ _,fieldsAt_apart h.ff (by omega) _ _,h.bel.setCell hg _⟩
theorem below_cells {B g:Nat} {a:World} (hb:B≤g):∀ (vs:List Value) (o:Nat) (w:World),Below B a w→Below B a (w.setCells g o vs)
  | [],_,_,h => h
  | v :: vs,o,_,h => below_cells hb vs (o + 1) _ (h.setCell hb v)
theorem tk_at {L:List (Nat × Nat)} {s:List UInt8} {n0:Nat→Int} {j:Nat} {n':Nat→Int} {r:List UInt8} (h:tk (L.take j) s n0 = some (n',r)) (hj:j < L.length) :
    tk L s n0 = if r.length < (L[j]).2 then none else tk (L.drop (j + 1)) (r.drop (L[j]).2) (upd n' (L[j]).1 (IntKind.i64.wrap (val (r.take (L[j]).2):Nat))):=by
  have h2:=tk_app (L.take j) (L.drop j) s n0
  rw [List.take_append_drop,h] at h2
  rw [h2,List.drop_eq_getElem_cons hj]
  rfl
theorem tk_next {L:List (Nat × Nat)} {s:List UInt8} {n0:Nat→Int} {j:Nat} {n':Nat→Int} {r:List UInt8} (h:tk (L.take j) s n0 = some (n',r)) (hj:j < L.length) :
    tk (L.take (j + 1)) s n0 = if r.length < (L[j]).2 then none else some (upd n' (L[j]).1 (IntKind.i64.wrap (val (r.take (L[j]).2):Nat)),r.drop (L[j]).2):=by
  rw [List.take_succ_eq_append_getElem hj,tk_app,h]
  rfl
theorem CmAt.there {w:World} {g:Nat} {c:Cm} (h:CmAt w g c):w.there g 0 8:=fun j hj => by
  have h8:c.cells.size = 8:=rfl
  refine ⟨?_,frozen_of_row _ _ _ _ _ h⟩
  rw [Nat.zero_add,cell_of_row _ _ _ _ _ _ h]
  simp [h8,hj]
theorem results_mid2 {fn:Func} {p u:Tmp} {ty:TypeId} (h:fn.results = #[.cell p ty,.tmp u]) (tmps:Array Value) (P:Program) (w:World) (g:Nat) (cs:List Value) (d:TypeDesc)
    (hp:tmps.getD p undef = .pointer (some ⟨g,0,none⟩)) (hc:w.rangeAt g 0 cs) (hu:P.underlying ty = some d) (hd:d.isRow = true) (hi:(P.info? ty).map (·.size) = some cs.length) :
    (results fn tmps).run P w = .ok (.tuple #[.agg cs.toArray,tmps.getD u undef]) w:=by
  rw [results_cell_tmp h,hp]
  simp [asAddr,Result.andThen,run_loadVar_mid w g 0 ty cs d hc hu hd hi]
set_option maxRecDepth 100000 in
set_option maxHeartbeats 4000000 in
theorem take_any (s:List UInt8) (hl:(s.length:Int)≤1099511627776) (w:World) :
    Calls Tryz.prog 13 #[.string ⟨s.toArray⟩] w fun e w' => e = .returned (takeV (take s))∧Below w.heap.size w w':=by
  have hn0:=Lib.hid (cmAt_new w ⟨0,fun _ => 0⟩)
  have hB0:=Lib.hid ((Below.refl w.heap.size w).alloc (Nat.le_refl _) (.cells (Cm.cells ⟨0,fun _ => 0⟩) 54 (0,0)))
  cases s with
  | nil =>
    unfold Cm.cells at *
    dsimp only at hn0 hB0
    go_enter Tryz.func13,Tryz.ntmps13
    go_wp2
    exact bodyPost_ret (results_mid2 rfl _ _ _ w.heap.size _ _ rfl (CmAt.range hn0.out) Tryz.underlying54 rfl (by kernel_rfl)) rfl ⟨rfl,hB0.out⟩
  | cons x s =>
    have hn1:=Lib.hid (hn0.out.below ((Below.refl _ _).alloc (Nat.le_refl _) (.cells (Cm.cells ⟨x.toNat,fun _ => 0⟩) 54 (0,0))))
    have hn2:=Lib.hid (cmAt_new (w.alloc (.cells (Cm.cells ⟨0,fun _ => 0⟩) 54 (0,0))) ⟨x.toNat,fun _ => 0⟩)
    have hB2:=Lib.hid (hB0.out.alloc (by simp) (.cells (Cm.cells ⟨x.toNat,fun _ => 0⟩) 54 (0,0)))
    have hsz:=Lib.hid (show ((w.alloc (.cells (Cm.cells ⟨0,fun _ => 0⟩) 54 (0,0))).alloc (.cells (Cm.cells ⟨x.toNat,fun _ => 0⟩) 54 (0,0))).heap.size = w.heap.size + 2 by simp)
    rw [show (w.alloc (.cells (Cm.cells ⟨0,fun _ => 0⟩) 54 (0,0))).heap.size = w.heap.size + 1 by simp] at hn2
    clear hn0 hB0
    unfold Cm.cells at hn1 hn2 hB2 hsz
    dsimp only at hn1 hn2 hB2 hsz
    have hl2:(s.length:Int) + 1≤1099511627776:=by simpa using hl
    have hx1:(⟨(x :: s).toArray⟩:ByteArray).extract 1 (s.length + 1) = ⟨s.toArray⟩:=by rw [ByteArray.extract_mk]; simp
    have hx0:wrap64 (((⟨(x :: s).toArray⟩:ByteArray)[0]'(Nat.succ_pos s.length)).toNat:Int) = (x.toNat:Int):=by
      have h:((⟨(x :: s).toArray⟩:ByteArray)[0]'(Nat.succ_pos s.length)) = x:=rfl
      rw [h]
      have:=x.toNat_lt
      unfold wrap64
      omega
    have HL2:=Lib.hid hl2
    clear hl hl2
    generalize hT:takeV (take (x :: s)) = tv at *
    have HTV:=Lib.hid (show tv = takeV (match tk (specs x.toNat) s (fun _ => 0) with
      | none => none
      | some (n,r) => if r = []∧may ⟨x.toNat,n⟩ = true then some ⟨x.toNat,n⟩ else none) from hT.symm)
    clear hT
    go_enter Tryz.func13,Tryz.ntmps13
    go_wp2_with fail
    generalize (x.toNat:Int) = k at *
    refine (fields_any (w.heap.size + 1) k _ hn2.out.kind).mono ?_
    rintro e w3 ⟨_,rfl,h3,hb3⟩
    have HR:=Lib.hid (show TakeR w w.heap.size (w.heap.size + 1) k (fun _ => 0) (specs k) _ w3 from
      ⟨hn2.out.below hb3,hn1.out.below hb3,fieldsAt_mono h3 (by rw [hsz.out]; omega),hB2.out.trans (hb3.mono hB2.out.size)⟩)
    obtain ⟨a3,rfl,-⟩:=h3
    clear hn1 hn2 hB2 hsz hb3 hx0 hx1
    have HGE:=Lib.hid (show w.heap.size≤w.heap.size∧w.heap.size≤w.heap.size + 1∧w.heap.size ≠ w.heap.size + 1 by omega)
    generalize w.heap.size + 1 = gc at *
    generalize hgr:w.heap.size = gr at HR HGE ⊢
    obtain ⟨L,hL⟩:∃ L,specs k = L:=⟨_,rfl⟩
    have hl7:L.length≤7:=by rw [← hL]; exact specs_len _
    have HP:=Lib.hid (show ∀ p ∈ L,1≤p.1∧p.1≤7∧(p.1≤5→p.2 = 1∨p.2 = 4)∧(5 < p.1→p.2 = 8) by intro p hp; rw [← hL] at hp; exact specs_mem hp)
    rw [hL] at HR HTV ⊢
    clear hL
    go_wp2_with fail
    go_loopw [5,19] (fun q i wr => ∃ (j:Nat) (r:List UInt8) (n':Nat→Int),j≤L.length∧i = .int .i64 j∧q = .string ⟨r.toArray⟩∧(r.length:Int)≤1099511627776∧tk (L.take j) s (fun _ => 0) = some (n',r)∧TakeR w gr gc k n' L (.slice a3 L.length L.length) wr) (fun _ i _ => L.length - (intOf i).toNat)
    case atStart => exact ⟨0,s,_,by omega,rfl,rfl,by have:=HL2.out; omega,rfl,HR.out⟩
    case round =>
      obtain ⟨j,r,n',hj,rfl,rfl,hrl,htk,hr⟩:=hrel
      clear HR
      have HR:=Lib.hid hr
      have HTK:=Lib.hid htk
      by_cases hlt:j < L.length
      · have hq1:(j:Int) < L.length:=by omega
        have hp:L[j]? = some L[j]:=by simp [hlt]
        obtain ⟨b4,hb4,e4,r4⟩:=fields_range hr.ff hp
        simp only [Value.slice.injEq] at e4
        obtain ⟨rfl,_,_⟩:=e4
        have hpm:=HP.out L[j] (List.getElem_mem hlt)
        have HTA:=Lib.hid (tk_at htk hlt)
        have HTN:=Lib.hid (tk_next htk hlt)
        generalize L[j] = p at *
        obtain ⟨i,b⟩:=p
        clear hp htk HTK
        dsimp only at hpm HTA HTN
        have hb8:b≤8:=by omega
        by_cases hi:i≤5
        · rw [show fieldCells gc (i,b) = [.pointer (some ⟨gc,i,none⟩),.pointer none,.int .i64 b] from if_pos hi] at r4
          have hbn:=(Below.refl wr.heap.size wr).alloc (Nat.le_refl _) (.cells #[.pointer (some ⟨gc,i,none⟩),.pointer none,.int .i64 b] 118 (0,0))
          obtain ⟨x0,x1,x2⟩:=three_new wr (.pointer (some ⟨gc,i,none⟩)) (.pointer none) (.int .i64 b) 118
          have hr5:=hr.below hbn
          have H4:=Lib.hid r4
          have HR5:=Lib.hid hr5
          have HLTZ:=Lib.hid (show gc < wr.heap.size from hr.hc.lt)
          have HPM:=Lib.hid hpm
          clear r4 hr hr5 hbn HR hi hpm
          by_cases hsh:r.length < b
          · have hshi:(r.length:Int) < b:=by omega
            have HNO:=Lib.hid (HTA.out.trans (if_pos hsh))
            clear hsh
            go_upto_region 9 with (with_reducible refine wpList_load_mid rfl 118 (.tmp 21) rfl b4 (j * 3) rfl _ _ H4.out Tryz.underlying118 rfl (by kernel_rfl) ?_)
            generalize wr.alloc (.cells #[.pointer (some ⟨gc,i,none⟩),.pointer none,.int .i64 b] 118 (0,0)) = w5 at *
            have HTH:=Lib.hid HR5.out.hr.there
            go_step
            go_step
            go_step
            go_step
            have HB6:=Lib.hid (below_cells (Nat.le_refl _) [.int .i64 0,.int .i64 0,.int .i64 0,.int .i64 0,.int .i64 0,.int .i64 0,.int .i64 0,.int .i64 0] 0 _ (hgr ▸ HR5.out.bel))
            have HG6:=Lib.hid (World.rangeAt_setCells_same w5 gr 0 [.int .i64 0,.int .i64 0,.int .i64 0,.int .i64 0,.int .i64 0,.int .i64 0,.int .i64 0,.int .i64 0] HTH.out)
            refine wpList_store_mid rfl 54 (.tmp 2) (.tmp 28) rfl gr 0 #[.int .i64 0,.int .i64 0,.int .i64 0,.int .i64 0,.int .i64 0,.int .i64 0,.int .i64 0,.int .i64 0] rfl rfl HTH.out (by kernel_rfl) (by simp [Value.oneCell']) ?_
            show wpList _ _ _ _ _ (w5.setCells gr 0 [.int .i64 0,.int .i64 0,.int .i64 0,.int .i64 0,.int .i64 0,.int .i64 0,.int .i64 0,.int .i64 0])
            clear x0 x1 x2 HTH HR5
            generalize w5.setCells gr 0 [.int .i64 0,.int .i64 0,.int .i64 0,.int .i64 0,.int .i64 0,.int .i64 0,.int .i64 0,.int .i64 0] = w6 at *
            go_wp2
            exact bodyPost_ret (results_mid2 rfl _ _ _ gr _ _ rfl HG6.out Tryz.underlying54 rfl (by kernel_rfl)) rfl ⟨by rw [HTV.out,HNO.out]; rfl,hgr ▸ HB6.out⟩
          · have hshi:¬ (r.length:Int) < b:=by omega
            have hsh2:b≤r.length:=by omega
            have HYES:=Lib.hid (HTA.out.trans (if_neg hsh))
            have HNX:=Lib.hid (HTN.out.trans (if_neg hsh))
            have he1:(⟨r.toArray⟩:ByteArray).extract 0 b = ⟨(r.take b).toArray⟩:=by rw [ByteArray.extract_mk]; simp
            have he2:(⟨r.toArray⟩:ByteArray).extract b r.length = ⟨(r.drop b).toArray⟩:=by rw [ByteArray.extract_mk]; simp; exact List.take_of_length_le (by simp)
            have HE1:=Lib.hid he1
            have HT8:=Lib.hid (show (r.take b).length≤8 by rw [List.length_take]; omega)
            clear hsh he1
            go_upto_region 12 with (with_reducible refine wpList_load_mid rfl 118 (.tmp 21) rfl b4 (j * 3) rfl _ _ H4.out Tryz.underlying118 rfl (by kernel_rfl) ?_)
            generalize wr.alloc (.cells #[.pointer (some ⟨gc,i,none⟩),.pointer none,.int .i64 b] 118 (0,0)) = w5 at *
            have HZ:=Lib.hid (show gc ≠ wr.heap.size by have:=HLTZ.out; omega)
            generalize wr.heap.size = z at *
            have HR6:=Lib.hid (HR5.out.below ((Below.refl _ _).drew))
            have X0:w5.drew.cell? _ = _:=x0
            have X1:w5.drew.cell? _ = _:=x1
            have X2:w5.drew.cell? _ = _:=x2
            have HC:=Lib.hid (show ∀ wx,Calls Tryz.prog 34 #[.string ((⟨r.toArray⟩:ByteArray).extract 0 b)] wx fun e w' => e = .returned (.int .i64 (IntKind.i64.wrap (val (r.take b):Nat)))∧Below wx.heap.size wx w' by rw [HE1.out]; exact takeInt_any (r.take b) HT8.out)
            go_region_held3 (fun wx => wx.cell? ⟨z,0,none⟩ = some (.pointer (some ⟨gc,i,none⟩))∧wx.cell? ⟨z,1,none⟩ = some (.pointer none)∧wx.cell? ⟨z,2,none⟩ = some (.int .i64 b)) (first | assumption | exact ⟨X0,X1,X2⟩ | exact ⟨y0,y1,y2⟩ | exact ⟨(World.cell?_setCell_other _ _ _ _ (fun e => HZ.out (congrArg Addr.block e).symm)).trans y0,(World.cell?_setCell_other _ _ _ _ (fun e => HZ.out (congrArg Addr.block e).symm)).trans y1,(World.cell?_setCell_other _ _ _ _ (fun e => HZ.out (congrArg Addr.block e).symm)).trans y2⟩ | exact ⟨(World.cell?_setCell_other _ _ _ _ (fun e => HZ.out (congrArg Addr.block e))).trans y0,(World.cell?_setCell_other _ _ _ _ (fun e => HZ.out (congrArg Addr.block e))).trans y1,(World.cell?_setCell_other _ _ _ _ (fun e => HZ.out (congrArg Addr.block e))).trans y2⟩)
              (first | (go_at_call 34; refine (HC.out _).mono ?_; rintro e w7 ⟨rfl,hb7⟩; have y0:=kept_cell hb7 X0; have y1:=kept_cell hb7 X1; have y2:=kept_cell hb7 X2; have hr7:=HR6.out.below hb7; have zc:=hr7.hc.num HPM.out.1 HPM.out.2.1; have zf:=hr7.hc.frozen i; replace hr7:=Lib.hid hr7; replace hb7:=Lib.hid hb7))
            have HR8:=Lib.hid (hr7.out.set HGE.out.2.2 (by have:=HGE.out; omega) HPM.out.1 HPM.out.2.1 (IntKind.i64.wrap (val (r.take b):Nat)))
            clear x0 x1 x2 X0 X1 X2 y0 y1 y2 zc zf
            generalize w7.setCell ⟨gc,i,none⟩ (.int .i64 (IntKind.i64.wrap (val (r.take b):Nat))) = w8 at *
            rename_i hs8
            obtain ⟨_,_,z2⟩:=hs8
            go_wp2
            go_roundw
            case rel => exact ⟨j + 1,r.drop b,_,by omega,by go_num,rfl,by rw [List.length_drop]; omega,HNX.out,HR8.out⟩
            case measure => simp [intOf]; omega
        · rw [show fieldCells gc (i,b) = [.pointer none,.pointer (some ⟨gc,i,none⟩),.int .i64 b] from if_neg hi] at r4
          have hbn:=(Below.refl wr.heap.size wr).alloc (Nat.le_refl _) (.cells #[.pointer none,.pointer (some ⟨gc,i,none⟩),.int .i64 b] 118 (0,0))
          obtain ⟨x0,x1,x2⟩:=three_new wr (.pointer none) (.pointer (some ⟨gc,i,none⟩)) (.int .i64 b) 118
          have hr5:=hr.below hbn
          have H4:=Lib.hid r4
          have HR5:=Lib.hid hr5
          have HLTZ:=Lib.hid (show gc < wr.heap.size from hr.hc.lt)
          have HPM:=Lib.hid hpm
          clear r4 hr hr5 hbn HR hi hpm
          by_cases hsh:r.length < b
          · have hshi:(r.length:Int) < b:=by omega
            have HNO:=Lib.hid (HTA.out.trans (if_pos hsh))
            clear hsh
            go_upto_region 9 with (with_reducible refine wpList_load_mid rfl 118 (.tmp 21) rfl b4 (j * 3) rfl _ _ H4.out Tryz.underlying118 rfl (by kernel_rfl) ?_)
            generalize wr.alloc (.cells #[.pointer none,.pointer (some ⟨gc,i,none⟩),.int .i64 b] 118 (0,0)) = w5 at *
            have HTH:=Lib.hid HR5.out.hr.there
            go_step
            go_step
            go_step
            go_step
            have HB6:=Lib.hid (below_cells (Nat.le_refl _) [.int .i64 0,.int .i64 0,.int .i64 0,.int .i64 0,.int .i64 0,.int .i64 0,.int .i64 0,.int .i64 0] 0 _ (hgr ▸ HR5.out.bel))
            have HG6:=Lib.hid (World.rangeAt_setCells_same w5 gr 0 [.int .i64 0,.int .i64 0,.int .i64 0,.int .i64 0,.int .i64 0,.int .i64 0,.int .i64 0,.int .i64 0] HTH.out)
            refine wpList_store_mid rfl 54 (.tmp 2) (.tmp 28) rfl gr 0 #[.int .i64 0,.int .i64 0,.int .i64 0,.int .i64 0,.int .i64 0,.int .i64 0,.int .i64 0,.int .i64 0] rfl rfl HTH.out (by kernel_rfl) (by simp [Value.oneCell']) ?_
            show wpList _ _ _ _ _ (w5.setCells gr 0 [.int .i64 0,.int .i64 0,.int .i64 0,.int .i64 0,.int .i64 0,.int .i64 0,.int .i64 0,.int .i64 0])
            clear x0 x1 x2 HTH HR5
            generalize w5.setCells gr 0 [.int .i64 0,.int .i64 0,.int .i64 0,.int .i64 0,.int .i64 0,.int .i64 0,.int .i64 0,.int .i64 0] = w6 at *
            go_wp2
            exact bodyPost_ret (results_mid2 rfl _ _ _ gr _ _ rfl HG6.out Tryz.underlying54 rfl (by kernel_rfl)) rfl ⟨by rw [HTV.out,HNO.out]; rfl,hgr ▸ HB6.out⟩
          · have hshi:¬ (r.length:Int) < b:=by omega
            have hsh2:b≤r.length:=by omega
            have HYES:=Lib.hid (HTA.out.trans (if_neg hsh))
            have HNX:=Lib.hid (HTN.out.trans (if_neg hsh))
            have he1:(⟨r.toArray⟩:ByteArray).extract 0 b = ⟨(r.take b).toArray⟩:=by rw [ByteArray.extract_mk]; simp
            have he2:(⟨r.toArray⟩:ByteArray).extract b r.length = ⟨(r.drop b).toArray⟩:=by rw [ByteArray.extract_mk]; simp; exact List.take_of_length_le (by simp)
            have HE1:=Lib.hid he1
            have HT8:=Lib.hid (show (r.take b).length≤8 by rw [List.length_take]; omega)
            clear hsh he1
            go_upto_region 11 with (with_reducible refine wpList_load_mid rfl 118 (.tmp 21) rfl b4 (j * 3) rfl _ _ H4.out Tryz.underlying118 rfl (by kernel_rfl) ?_)
            generalize wr.alloc (.cells #[.pointer none,.pointer (some ⟨gc,i,none⟩),.int .i64 b] 118 (0,0)) = w5 at *
            have HZ:=Lib.hid (show gc ≠ wr.heap.size by have:=HLTZ.out; omega)
            generalize wr.heap.size = z at *
            have HR6:=Lib.hid (HR5.out.below ((Below.refl _ _).drew))
            have X0:w5.drew.cell? _ = _:=x0
            have X1:w5.drew.cell? _ = _:=x1
            have X2:w5.drew.cell? _ = _:=x2
            have HC:=Lib.hid (show ∀ wx,Calls Tryz.prog 33 #[.string ((⟨r.toArray⟩:ByteArray).extract 0 b)] wx fun e w' => e = .returned (.int .i64 (IntKind.i64.wrap (val (r.take b):Nat)))∧Below wx.heap.size wx w' by rw [HE1.out]; exact take64_any (r.take b) HT8.out)
            go_region_held3 (fun wx => wx.cell? ⟨z,0,none⟩ = some (.pointer none)∧wx.cell? ⟨z,1,none⟩ = some (.pointer (some ⟨gc,i,none⟩))∧wx.cell? ⟨z,2,none⟩ = some (.int .i64 b)) (first | assumption | exact ⟨X0,X1,X2⟩ | exact ⟨y0,y1,y2⟩ | exact ⟨(World.cell?_setCell_other _ _ _ _ (fun e => HZ.out (congrArg Addr.block e).symm)).trans y0,(World.cell?_setCell_other _ _ _ _ (fun e => HZ.out (congrArg Addr.block e).symm)).trans y1,(World.cell?_setCell_other _ _ _ _ (fun e => HZ.out (congrArg Addr.block e).symm)).trans y2⟩ | exact ⟨(World.cell?_setCell_other _ _ _ _ (fun e => HZ.out (congrArg Addr.block e))).trans y0,(World.cell?_setCell_other _ _ _ _ (fun e => HZ.out (congrArg Addr.block e))).trans y1,(World.cell?_setCell_other _ _ _ _ (fun e => HZ.out (congrArg Addr.block e))).trans y2⟩)
              (first | (go_at_call 33; refine (HC.out _).mono ?_; rintro e w7 ⟨rfl,hb7⟩; have y0:=kept_cell hb7 X0; have y1:=kept_cell hb7 X1; have y2:=kept_cell hb7 X2; have hr7:=HR6.out.below hb7; have zc:=hr7.hc.num HPM.out.1 HPM.out.2.1; have zf:=hr7.hc.frozen i; replace hr7:=Lib.hid hr7; replace hb7:=Lib.hid hb7))
            have HR8:=Lib.hid (hr7.out.set HGE.out.2.2 (by have:=HGE.out; omega) HPM.out.1 HPM.out.2.1 (IntKind.i64.wrap (val (r.take b):Nat)))
            clear x0 x1 x2 X0 X1 X2 y0 y1 y2 zc zf
            generalize w7.setCell ⟨gc,i,none⟩ (.int .i64 (IntKind.i64.wrap (val (r.take b):Nat))) = w8 at *
            rename_i hs8
            obtain ⟨_,_,z2⟩:=hs8
            go_wp2
            go_roundw
            case rel => exact ⟨j + 1,r.drop b,_,by omega,by go_num,rfl,by rw [List.length_drop]; omega,HNX.out,HR8.out⟩
            case measure => simp [intOf]; omega
      · obtain rfl:j = L.length:=by omega
        rw [List.take_length] at HTK htk
        have HTV2:=Lib.hid (show tv = takeV (if r = []∧may ⟨k,n'⟩ = true then some ⟨k,n'⟩ else none) by rw [HTV.out,htk])
        clear htk HTK HTV
        have HMAY:=Lib.hid (may_any ⟨k,n'⟩)
        have u0:=hr.hc.kind
        have u1:=hr.hc.num (i:=1) (by omega) (by omega)
        have u2:=hr.hc.num (i:=2) (by omega) (by omega)
        have u3:=hr.hc.num (i:=3) (by omega) (by omega)
        have u4:=hr.hc.num (i:=4) (by omega) (by omega)
        have u5:=hr.hc.num (i:=5) (by omega) (by omega)
        have u6:=hr.hc.num (i:=6) (by omega) (by omega)
        have u7:=hr.hc.num (i:=7) (by omega) (by omega)
        clear hr
        unfold Cm.cells at HMAY
        dsimp only at HMAY u0 u1 u2 u3 u4 u5 u6 u7
        cases r with
        | cons y r =>
          go_upto_region 16 with (fail)
          have HTH:=Lib.hid HR.out.hr.there
          go_step
          go_step
          go_step
          go_step
          have HB6:=Lib.hid (below_cells (Nat.le_refl _) [.int .i64 0,.int .i64 0,.int .i64 0,.int .i64 0,.int .i64 0,.int .i64 0,.int .i64 0,.int .i64 0] 0 _ (hgr ▸ HR.out.bel))
          have HG6:=Lib.hid (World.rangeAt_setCells_same wr gr 0 [.int .i64 0,.int .i64 0,.int .i64 0,.int .i64 0,.int .i64 0,.int .i64 0,.int .i64 0,.int .i64 0] HTH.out)
          refine wpList_store_mid rfl 54 (.tmp 2) (.tmp 60) rfl gr 0 #[.int .i64 0,.int .i64 0,.int .i64 0,.int .i64 0,.int .i64 0,.int .i64 0,.int .i64 0,.int .i64 0] rfl rfl HTH.out (by kernel_rfl) (by simp [Value.oneCell']) ?_
          show wpList _ _ _ _ _ (wr.setCells gr 0 [.int .i64 0,.int .i64 0,.int .i64 0,.int .i64 0,.int .i64 0,.int .i64 0,.int .i64 0,.int .i64 0])
          clear HTH HR u0 u1 u2 u3 u4 u5 u6 u7
          generalize wr.setCells gr 0 [.int .i64 0,.int .i64 0,.int .i64 0,.int .i64 0,.int .i64 0,.int .i64 0,.int .i64 0,.int .i64 0] = w6 at *
          go_wp2
          exact bodyPost_ret (results_mid2 rfl _ _ _ gr _ _ rfl HG6.out Tryz.underlying54 rfl (by kernel_rfl)) rfl ⟨by rw [HTV2.out]; simp; rfl,hgr ▸ HB6.out⟩
        | nil =>
          generalize hm:may ⟨k,n'⟩ = m at *
          clear hm
          have HMM:=Lib.hid (show tv = takeV (if m = true then some ⟨k,n'⟩ else none) by rw [HTV2.out]; simp)
          clear HTV2
          cases m
          · go_upto_region 16 with (go_at_call 39; refine (HMAY.out _).mono ?_; rintro e w9 ⟨rfl,hb9⟩; have HR9:=Lib.hid (HR.out.below hb9); clear hb9)
            have HTH:=Lib.hid HR9.out.hr.there
            go_step
            go_step
            go_step
            go_step
            have HB6:=Lib.hid (below_cells (Nat.le_refl _) [.int .i64 0,.int .i64 0,.int .i64 0,.int .i64 0,.int .i64 0,.int .i64 0,.int .i64 0,.int .i64 0] 0 _ (hgr ▸ HR9.out.bel))
            have HG6:=Lib.hid (World.rangeAt_setCells_same w9 gr 0 [.int .i64 0,.int .i64 0,.int .i64 0,.int .i64 0,.int .i64 0,.int .i64 0,.int .i64 0,.int .i64 0] HTH.out)
            refine wpList_store_mid rfl 54 (.tmp 2) (.tmp 60) rfl gr 0 #[.int .i64 0,.int .i64 0,.int .i64 0,.int .i64 0,.int .i64 0,.int .i64 0,.int .i64 0,.int .i64 0] rfl rfl HTH.out (by kernel_rfl) (by simp [Value.oneCell']) ?_
            show wpList _ _ _ _ _ (w9.setCells gr 0 [.int .i64 0,.int .i64 0,.int .i64 0,.int .i64 0,.int .i64 0,.int .i64 0,.int .i64 0,.int .i64 0])
            clear HTH HR HR9 u0 u1 u2 u3 u4 u5 u6 u7
            generalize w9.setCells gr 0 [.int .i64 0,.int .i64 0,.int .i64 0,.int .i64 0,.int .i64 0,.int .i64 0,.int .i64 0,.int .i64 0] = w6 at *
            go_wp2
            exact bodyPost_ret (results_mid2 rfl _ _ _ gr _ _ rfl HG6.out Tryz.underlying54 rfl (by kernel_rfl)) rfl ⟨by rw [HMM.out]; rfl,hgr ▸ HB6.out⟩
          · go_upto_region 17 with (go_at_call 39; refine (HMAY.out _).mono ?_; rintro e w9 ⟨rfl,hb9⟩; have HR9:=Lib.hid (HR.out.below hb9); clear hb9)
            have HTH:=Lib.hid HR9.out.hr.there
            have HRG:=Lib.hid HR9.out.hc.range
            clear u0 u1 u2 u3 u4 u5 u6 u7
            go_step
            refine wpList_load_mid rfl 54 (.tmp 4) rfl gc 0 rfl _ _ HRG.out Tryz.underlying54 rfl (by kernel_rfl) ?_
            have HB6:=Lib.hid (below_cells (Nat.le_refl _) [.int .i64 k,.int .i64 (n' 1),.int .i64 (n' 2),.int .i64 (n' 3),.int .i64 (n' 4),.int .i64 (n' 5),.int .i64 (n' 6),.int .i64 (n' 7)] 0 _ (hgr ▸ HR9.out.bel))
            have HG6:=Lib.hid (World.rangeAt_setCells_same w9 gr 0 [.int .i64 k,.int .i64 (n' 1),.int .i64 (n' 2),.int .i64 (n' 3),.int .i64 (n' 4),.int .i64 (n' 5),.int .i64 (n' 6),.int .i64 (n' 7)] HTH.out)
            refine wpList_store_mid rfl 54 (.tmp 2) (.tmp 61) rfl gr 0 #[.int .i64 k,.int .i64 (n' 1),.int .i64 (n' 2),.int .i64 (n' 3),.int .i64 (n' 4),.int .i64 (n' 5),.int .i64 (n' 6),.int .i64 (n' 7)] rfl rfl HTH.out (by kernel_rfl) (by simp [Value.oneCell']) ?_
            show wpList _ _ _ _ _ (w9.setCells gr 0 [.int .i64 k,.int .i64 (n' 1),.int .i64 (n' 2),.int .i64 (n' 3),.int .i64 (n' 4),.int .i64 (n' 5),.int .i64 (n' 6),.int .i64 (n' 7)])
            clear HTH HR HR9 HRG
            generalize w9.setCells gr 0 [.int .i64 k,.int .i64 (n' 1),.int .i64 (n' 2),.int .i64 (n' 3),.int .i64 (n' 4),.int .i64 (n' 5),.int .i64 (n' 6),.int .i64 (n' 7)] = w6 at *
            go_wp2
            exact bodyPost_ret (results_mid2 rfl _ _ _ gr _ _ rfl HG6.out Tryz.underlying54 rfl (by kernel_rfl)) rfl ⟨by rw [HMM.out]; rfl,hgr ▸ HB6.out⟩
end
end Go.Proofs.YtgcnnbjbdfgglaaGreat.W
