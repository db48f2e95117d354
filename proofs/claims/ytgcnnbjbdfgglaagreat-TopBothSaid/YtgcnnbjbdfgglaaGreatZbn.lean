/- LAW TopBoth: of every configuration of a bank and every list of byte strings the given function TopBoth returns true and leaves its arguments as they were; no condition. A part of what it needs. -/
import Derived.Test.YtgcnnbjbdfgglaaGreatZbc
import Derived.Deep.AppendLies
import Derived.Deep.RegionHeld3
namespace Go.Proofs.YtgcnnbjbdfgglaaGreat.W
open Go.RowKit
section
def putrB (e v:Int) (ids:List Int):List UInt8:=kb e :: (be v 8 ++ be ids.length 2 ++ ids.flatMap fun n=>be n 4)
def putrOk (e:Int) (ids:List Int):Bool:=decide (0≤e∧e≤255∧ids.length≤200) && ids.all fun n=>fits n 4
def putrV (e v:Int) (ids:List Int):Value:=if putrOk e ids then .tuple #[.string ⟨(putrB e v ids).toArray⟩,.int .i64 0] else .tuple #[.string ⟨#[]⟩,.int .i64 2]
theorem ids_len (ids:List Int):(ids.flatMap fun n=>be n 4).length=4 * ids.length:=by
 induction ids with
 | nil=>rfl
 | cons n ids ih=>simp only [List.flatMap_cons,List.length_append,be_len,ih,List.length_cons]; omega
theorem all_false' {L:List Int} {f:Int→Bool} {j:Nat} {p:Int} (h:L[j]?=some p) (hf:f p=false):L.all f=false:=by
 rw [List.all_eq_false]
 exact ⟨p,List.mem_of_getElem? h,by simp [hf]⟩
set_option maxRecDepth 100000 in
set_option maxHeartbeats 4000000 in
theorem putr_any (e v:Int) (ids:List Int) (sl:Value) (w:World) (h:SlInt w sl ids) (hlen:ids.length≤300) :
    Calls Tryz.prog 27 #[.agg #[.int .i64 e,.int .i64 v,sl]] w fun q w'=>q=.returned (putrV e v ids)∧Below w.heap.size w w':=by
 have HPV:=Lib.hid (show putrV e v ids=if putrOk e ids then .tuple #[.string ⟨(putrB e v ids).toArray⟩,.int .i64 0] else .tuple #[.string ⟨#[]⟩,.int .i64 2] from rfl)
 generalize putrV e v ids=pv at *
 obtain ⟨a,ca,rfl,hcells⟩:=h
 have HC:=Lib.hid hcells
 have hb1:=(Below.refl w.heap.size w).alloc (Nat.le_refl _) (.cells #[.int .i64 e,.int .i64 v,.slice a ids.length ca] 49 (0,0))
 have HB1:=Lib.hid hb1
 clear hb1 hcells
 have hli:(ids.length:Int)≤300:=by omega
 by_cases hbad:0≤e∧e≤255∧ids.length≤200
 · have he0:0≤e:=hbad.1
   have he1:e≤255:=hbad.2.1
   have hl2:(ids.length:Int)≤200:=by have:=hbad.2.2; omega
   have HPO:=Lib.hid (show putrOk e ids=ids.all fun n=>fits n 4 by unfold putrOk; rw [decide_eq_true hbad]; rfl)
   clear hbad hlen
   go_enter Tryz.func27,Tryz.ntmps27
   have hke:Value.int .u8 e=.int .u8 (kb e).toNat:=by
    have:=byte_val e
    rw [show e % 256=e by omega] at this
    rw [show kb e=UInt8.ofNat e.toNat by unfold kb; rw [show e % 256=e by omega]]
    exact this
   have HKE:=Lib.hid hke
   clear hke
   go_wp2_with fail
   have hsz:(w.alloc (.cells #[.int .i64 e,.int .i64 v,.slice a ids.length ca] 49 (0,0))).heap.size=w.heap.size + 1:=by simp
   have hnew:=heap_alloc_new w (.cells #[.int .i64 e,.int .i64 v,.slice a ids.length ca] 49 (0,0))
   have hb2:=(Below.refl (w.heap.size + 1) (w.alloc (.cells #[.int .i64 e,.int .i64 v,.slice a ids.length ca] 49 (0,0)))).alloc (by rw [hsz]; omega) (.cells #[.int .u8 e] 5 (0,0))
   have how:((w.alloc (.cells #[.int .i64 e,.int .i64 v,.slice a ids.length ca] 49 (0,0))).alloc (.cells #[.int .u8 e] 5 (0,0))).ownsRow (w.heap.size + 1) 5 1 (.slice (some ⟨w.heap.size + 1,0,none⟩) 1 1) [kb e].length (bytesV [kb e]):=by
    refine ⟨rfl,Or.inr ⟨w.heap.size + 1,1,#[.int .u8 e],rfl,by omega,?_,Nat.le_refl _,by decide,rfl,by rw [HKE.out]; rfl⟩⟩
    have:=heap_alloc_new (w.alloc (.cells #[.int .i64 e,.int .i64 v,.slice a ids.length ca] 49 (0,0))) (.cells #[.int .u8 e] 5 (0,0))
    rwa [hsz] at this
   refine (lay64_any (w.heap.size + 1) _ [kb e] (by simp) v 8 (by omega) _ how (by simp)).mono ?_
   rintro q w1 ⟨v1,rfl,ho1,hb3,-⟩
   have hb4:=hb2.trans hb3
   have hs1:w.heap.size + 1≤w1.heap.size:=Nat.le_trans (by simp) hb3.size
   have hbox:w1.heap[w.heap.size]?=some (.cells #[.int .i64 e,.int .i64 v,.slice a ids.length ca] 49 (0,0)):=by
    rw [hb4.block _ (by omega)]; exact hnew
   have x2:=(cell_of_row _ _ 2 _ _ _ hbox).trans rfl
   have HOW:=Lib.hid ho1
   have HBX:=Lib.hid hbox
   have HB4:=Lib.hid (HB1.out.trans (hb4.mono (by omega)))
   clear hsz hnew hb2 how hb3 hb4 ho1 hbox HB1
   go_wp2_with fail
   refine (layInt_any (w.heap.size + 1) _ _ (by simp [be_len]) ids.length 2 (by omega) _ HOW.out hs1).mono ?_
   rintro q w2 ⟨v2,rfl,ho2,hb5,-⟩
   have hbox:w2.heap[w.heap.size]?=some (.cells #[.int .i64 e,.int .i64 v,.slice a ids.length ca] 49 (0,0)):=by
    rw [hb5.block _ (by omega)]; exact HBX.out
   have x2:=(cell_of_row _ _ 2 _ _ _ hbox).trans rfl
   have hs2:w.heap.size + 1≤w2.heap.size:=Nat.le_trans hs1 hb5.size
   have HOW2:=Lib.hid (show w2.ownsRow (w.heap.size + 1) 5 1 v2 (kb e :: (be v 8 ++ be ids.length 2)).length (bytesV (kb e :: (be v 8 ++ be ids.length 2))) by simpa using ho2)
   have HB6:=Lib.hid (HB4.out.trans (hb5.mono (by omega)))
   clear hb5 ho2 hbox HOW HBX HB4 hs1
   go_wp2_with fail
   clear x2
   go_loopw [4,36] (fun b i wr=>∃ (j:Nat) (acc:List UInt8),j≤ids.length∧i=.int .i64 j∧(ids.take j).all (fun n=>fits n 4)=true∧kb e :: (be v 8 ++ be ids.length 2 ++ (ids.take j).flatMap fun n=>be n 4)=acc∧wr.ownsRow (w.heap.size + 1) 5 1 b acc.length (bytesV acc)∧Below w.heap.size w wr∧w.heap.size + 1≤wr.heap.size) (fun _ i _=>ids.length - (intOf i).toNat)
   case atStart=>exact ⟨0,_,by omega,rfl,rfl,rfl,by simpa using HOW2.out,HB6.out,hs2⟩
   case round =>
    obtain ⟨j,acc,hj,rfl,hall,hacc,how,hbel,hsr⟩:=hrel
    have HA:=Lib.hid hall
    have HACC:=Lib.hid hacc
    have HB:=Lib.hid hbel
    have hal:acc.length≤4096:=by
     rw [← hacc]
     have h2:(ids.take j).length≤200:=by rw [List.length_take]; omega
     simp only [List.length_cons,List.length_append,be_len,ids_len]
     omega
    have HAL:=Lib.hid hal
    have HOW:=Lib.hid how
    clear hall hacc HOW2 HB6 hal how
    by_cases hlt:j < ids.length
    · have hq1:(j:Int) < ids.length:=by omega
      obtain ⟨b,o,rfl,hcell⟩:=HC.out (by intro h; rw [h] at hlt; simp at hlt)
      have hp:ids[j]?=some ids[j]:=by simp [hlt]
      have hx:=kept_cell hbel (hcell j _ hp)
      have HLJ:=Lib.hid hp
      have HTK:=Lib.hid (show ids.take (j + 1)=ids.take j ++ [ids[j]] from List.take_succ_eq_append_getElem hlt)
      generalize ids[j]=x at *
      clear hcell hbel hp
      cases hfit:fits x 4
      · have HF:=Lib.hid hfit
        go_wp2_with (go_at_call 35; refine (within_any x 4 _).mono ?_; rintro q w3 ⟨rfl,rfl⟩)
        go_ret2
        exact ⟨by rw [HPV.out,HPO.out,all_false' HLJ.out HF.out]; rfl,HB.out⟩
      · have HF:=Lib.hid hfit
        go_wp2_with (first
          | (go_at_call 35; refine (within_any x 4 _).mono ?_; rintro q w3 ⟨rfl,rfl⟩)
          | (go_at_call 61; refine (layInt_any (w.heap.size + 1) _ _ HAL.out x 4 (by omega) _ HOW.out hsr).mono ?_; rintro q w4 ⟨v4,rfl,ho4,hb4,-⟩; replace ho4:=Lib.hid ho4; replace hb4:=Lib.hid hb4))
        have HB7:=Lib.hid (HB.out.trans (hb4.out.mono (by omega)))
        have HS7:=Lib.hid (Nat.le_trans hsr hb4.out.size)
        clear hb4 hx HOW
        go_roundw
        case rel=>exact ⟨j + 1,_,by omega,by go_num,by rw [HTK.out,List.all_append,HA.out]; simp [HF.out],by rw [HTK.out,← HACC.out]; simp,ho4.out,HB7.out,HS7.out⟩
        case measure=>simp [intOf]; omega
    · obtain rfl:j=ids.length:=by omega
      rw [List.take_length] at HA HACC
      have hcv:=conv_own HOW.out (by rw [← HACC.out]; simp)
      clear HOW hbel
      have HR:=Lib.hid (show pv=.tuple #[.string ⟨acc.toArray⟩,.int .i64 0] by rw [HPV.out,HPO.out,HA.out,← HACC.out]; rfl)
      generalize acc.toArray=res at *
      go_wp2
      go_ret2
      exact ⟨by rw [HR.out]; rfl,HB.out⟩
 · have HNO:=Lib.hid (show putrOk e ids=false by unfold putrOk; rw [decide_eq_false hbad]; rfl)
   have hne:e < 0∨255 < e∨(200:Int) < ids.length:=by omega
   clear hbad hlen
   go_enter Tryz.func27,Tryz.ntmps27
   rcases hne with h | h | h
   · go_wp2
     go_ret2
     exact ⟨by rw [HPV.out,HNO.out]; rfl,HB1.out⟩
   · have h0:0≤e:=by omega
     go_wp2
     go_ret2
     exact ⟨by rw [HPV.out,HNO.out]; rfl,HB1.out⟩
   · go_wp2
     all_goals
       go_ret2
       exact ⟨by rw [HPV.out,HNO.out]; rfl,HB1.out⟩
end
section
structure Rp where
  e:Int
  v:Int
  ids:List Int
def many (s:List UInt8):Nat:=val ((s.drop 9).take 2)
def idAt (s:List UInt8) (i:Nat):Int:=((val ((s.drop (11 + 4 * i)).take 4):Nat):Int)
def idsOf (s:List UInt8) (n:Nat):List Int:=(List.range n).map (idAt s)
def takeR (s:List UInt8):Option Rp :=
 if s.length < 11 then none
 else if 200 < many s∨s.length ≠ 11 + 4 * many s then none
 else if (idsOf s (many s)).all (fun n=>fits n 4)=true then some ⟨(s.getD 0 0).toNat,IntKind.i64.wrap (val ((s.drop 1).take 8):Nat),idsOf s (many s)⟩
 else none
def rpOf:Option Rp→Rp
  | none=>⟨0,0,[]⟩
  | some r=>r
def rpCode:Option Rp→Int
  | none=>2
  | some _=>0
theorem many_lt (s:List UInt8):many s < 65536:=by
 have h:=val_lt ((s.drop 9).take 2)
 have h2:((s.drop 9).take 2).length≤2:=by rw [List.length_take]; omega
 unfold many
 exact Nat.lt_of_lt_of_le h (Nat.le_trans (Nat.pow_le_pow_right (by omega) h2) (by decide))
theorem idAt_in (s:List UInt8) (i:Nat):0≤idAt s i∧idAt s i≤4294967295:=by
 have h:=val_lt ((s.drop (11 + 4 * i)).take 4)
 have h2:((s.drop (11 + 4 * i)).take 4).length≤4:=by rw [List.length_take]; omega
 have h3:val ((s.drop (11 + 4 * i)).take 4) < 4294967296:=Nat.lt_of_lt_of_le h (Nat.le_trans (Nat.pow_le_pow_right (by omega) h2) (by decide))
 unfold idAt
 omega
theorem idsOf_succ (s:List UInt8) (n:Nat):idsOf s (n + 1)=idsOf s n ++ [idAt s n]:=by simp [idsOf,List.range_succ]
theorem idsOf_len (s:List UInt8) (n:Nat):(idsOf s n).length=n:=by simp [idsOf]
theorem idsOf_at (s:List UInt8) {n i:Nat} (h:i < n):(idsOf s n)[i]?=some (idAt s i):=by simp [idsOf,h]
def RpAt (t:TypeId) (w:World) (g:Nat) (e v:Int) (sl:Value):Prop:=w.heap[g]?=some (.cells #[.int .i64 e,.int .i64 v,sl] t (0,0))
section
variable {t:TypeId} {w w':World} {g:Nat} {e v:Int} {sl:Value} (h:RpAt t w g e v sl)
include h
theorem RpAt.below (hb:Below w.heap.size w w'):RpAt t w' g e v sl:=by
 unfold RpAt at h ⊢; rw [hb.block _ (Array.getElem?_eq_some_iff.1 h).1]; exact h
theorem RpAt.lt:g < w.heap.size:=(Array.getElem?_eq_some_iff.1 h).1
theorem RpAt.c0:w.cell? ⟨g,0,none⟩=some (.int .i64 e):=(cell_of_row _ _ 0 _ _ _ h).trans rfl
theorem RpAt.c1:w.cell? ⟨g,1,none⟩=some (.int .i64 v):=(cell_of_row _ _ 1 _ _ _ h).trans rfl
theorem RpAt.c2:w.cell? ⟨g,2,none⟩=some sl:=(cell_of_row _ _ 2 _ _ _ h).trans rfl
theorem RpAt.frozen (i:Nat):w.frozen? ⟨g,i,none⟩=false:=frozen_of_row _ _ _ _ _ h
theorem RpAt.range:w.rangeAt g 0 [.int .i64 e,.int .i64 v,sl]:=fun j x hx=>by
 rw [cell_of_row _ _ _ _ _ _ h,Nat.zero_add]; simpa using hx
theorem RpAt.set2 (x:Value):RpAt t (w.setCell ⟨g,2,none⟩ x) g e v x:=by
 unfold RpAt at h ⊢
 rw [heap_setCell_same _ _ _ _ _ _ h]; rfl
theorem RpAt.set3 (e' v':Int) (x:Value):RpAt t (((w.setCell ⟨g,0,none⟩ (.int .i64 e')).setCell ⟨g,1,none⟩ (.int .i64 v')).setCell ⟨g,2,none⟩ x) g e' v' x:=by
 unfold RpAt at h ⊢
 have h1:=heap_setCell_same w g 0 _ _ (.int .i64 e') h
 have h2:=heap_setCell_same _ g 1 _ _ (.int .i64 v') h1
 rw [heap_setCell_same _ g 2 _ _ x h2]; rfl
theorem RpAt.apart {g':Nat} (hne:g ≠ g') (i:Nat) (x:Value):RpAt t (w.setCell ⟨g',i,none⟩ x) g e v sl:=by
 unfold RpAt at h ⊢
 rw [heap_setCell_other _ _ _ _ hne]; exact h
theorem RpAt.grown {n:Nat} {row:Value} {xs:List Value} {E:TypeId} {B:Nat} (hg:w.grownBy w' row.ownBlock) (ho:w.ownsRow B E 1 row n xs) (hlt:g < B):RpAt t w' g e v sl:=by
 have h2:=h
 unfold RpAt at h ⊢
 rw [hg.block g (RpAt.lt h2)]
 · exact h
 · intro hk; have:=ho.lt _ hk.symm; omega
end
theorem rpAt_new (t:TypeId) (w:World) (e v:Int) (sl:Value):RpAt t (w.alloc (.cells #[.int .i64 e,.int .i64 v,sl] t (0,0))) w.heap.size e v sl:=heap_alloc_new _ _
theorem infoInt:(Tryz.prog.info? 3).map (fun i=>(i.zero,i.size,i.bytes))=some (some (.int .i64 0),1,8):=by kernel_rfl
theorem slInt_own {w:World} {B:Nat} {v:Value} {ids:List Int} (h:w.ownsRow B 3 1 v ids.length (ids.map (Value.int .i64))):SlInt w v ids:=by
 rcases h.2 with ⟨rfl,h0⟩ | ⟨g,cap,cur,rfl,_,hc,_,_,_,ht⟩
 · exact ⟨none,0,by rw [h0],fun hne=>absurd (List.eq_nil_of_length_eq_zero h0) hne⟩
 · refine ⟨some ⟨g,0,none⟩,cap,rfl,fun _=>⟨g,0,rfl,fun j x hx=>?_⟩⟩
   rw [cell_of_row _ _ _ _ _ _ hc,Nat.zero_add]
   have:(ids.map (Value.int .i64))[j]?=some (.int .i64 x):=by simp [hx]
   rw [← ht,List.getElem?_take] at this
   split at this
   · simpa using this
   · cases this
end
section
theorem own_setCell {w:World} {B n:Nat} {E:TypeId} {v:Value} {xs:List Value} {g:Nat} (h:w.ownsRow B E 1 v n xs) (hlt:g < B) (i:Nat) (x:Value):(w.setCell ⟨g,i,none⟩ x).ownsRow B E 1 v n xs:=by
 refine ⟨h.1,?_⟩
 rcases h.2 with hn | ⟨g',cap,cur,rfl,hb2,hgg,rest⟩
 · exact .inl hn
 · exact .inr ⟨g',cap,cur,rfl,hb2,by rw [heap_setCell_other _ _ _ _ (by show g' ≠ g; omega)]; exact hgg,rest⟩
set_option maxRecDepth 100000 in
set_option maxHeartbeats 4000000 in
theorem taker_any (s:List UInt8) (hl:(s.length:Int)≤1099511627776) (w:World) :
    Calls Tryz.prog 11 #[.string ⟨s.toArray⟩] w fun q w'=>∃ sl,q=.returned (.tuple #[.agg #[.int .i64 (rpOf (takeR s)).e,.int .i64 (rpOf (takeR s)).v,sl],.int .i64 (rpCode (takeR s))])∧SlInt w' sl (rpOf (takeR s)).ids∧Below w.heap.size w w':=by
 have hn0:=rpAt_new 49 w 0 0 (.slice none 0 0)
 have hb0:=(Below.refl w.heap.size w).alloc (Nat.le_refl _) (.cells #[.int .i64 0,.int .i64 0,.slice none 0 0] 49 (0,0))
 have HTR:=Lib.hid (show takeR s=if s.length < 11 then none else if 200 < many s∨s.length ≠ 11 + 4 * many s then none else if (idsOf s (many s)).all (fun n=>fits n 4)=true then some ⟨(s.getD 0 0).toNat,IntKind.i64.wrap (val ((s.drop 1).take 8):Nat),idsOf s (many s)⟩ else none from rfl)
 have HN0:=Lib.hid hn0
 have HB0:=Lib.hid hb0
 clear hn0 hb0
 generalize takeR s=tr at *
 by_cases h11:s.length < 11
 · have h11i:(s.length:Int) < 11:=by omega
   have HNO:=Lib.hid (show tr=none by rw [HTR.out,if_pos h11])
   clear h11
   go_enter Tryz.func11,Tryz.ntmps11
   go_wp2
   refine bodyPost_ret (results_mid2 rfl _ _ _ w.heap.size _ _ rfl HN0.out.range Tryz.underlying49 rfl (by kernel_rfl)) rfl ⟨.slice none 0 0,?_,?_,HB0.out⟩
   · rw [HNO.out]; rfl
   · rw [HNO.out]; exact ⟨none,0,rfl,fun h=>absurd rfl h⟩
 · have h11i:¬ (s.length:Int) < 11:=by omega
   have h11j:(11:Int)≤s.length:=by omega
   have hpos:0 < s.length:=by omega
   obtain ⟨x0,hx0⟩:∃ x0,s.getD 0 0=x0:=⟨_,rfl⟩
   rw [hx0] at HTR
   have hx1:s[0]'hpos=x0:=by rw [← hx0]; simp [List.getD,hpos]
   have hx2:=x0.toNat_lt
   have hx3:(x0.toNat:Int)≤255:=by omega
   have h9i:(9:Int)≤s.length:=by omega
   have hw:IntKind.i64.wrap (((⟨s.toArray⟩:ByteArray)[0]'(by show 0 < s.length; omega)).toNat:Int)=(x0.toNat:Int):=by
    have h:((⟨s.toArray⟩:ByteArray)[0]'(by show 0 < s.length; omega))=x0:=hx1
    rw [h]
    exact IntWalk.i64_in _ (by omega)
   clear hx0 hx2
   have he8:(⟨s.toArray⟩:ByteArray).extract 1 9=⟨((s.drop 1).take 8).toArray⟩:=by rw [ByteArray.extract_mk]; try simp
   have HTK:=Lib.hid (show ∀ wx,Calls Tryz.prog 33 #[.string ((⟨s.toArray⟩:ByteArray).extract 1 9)] wx fun e w'=>e=.returned (.int .i64 (IntKind.i64.wrap (val ((s.drop 1).take 8):Nat)))∧Below wx.heap.size wx w' by rw [he8]; exact take64_any _ (by simp [List.length_take]; omega))
   clear he8
   go_enter Tryz.func11,Tryz.ntmps11
   go_upto_region 3 with (fail)
   generalize IntKind.i64.wrap (val ((s.drop 1).take 8):Nat)=V at *
   have hN2:=(rpAt_new 49 (w.alloc (.cells #[.int .i64 0,.int .i64 0,.slice none 0 0] 49 (0,0))) 0 0 (.slice none 0 0))
   rw [show (w.alloc (.cells #[.int .i64 0,.int .i64 0,.slice none 0 0] 49 (0,0))).heap.size=w.heap.size + 1 by simp] at hN2
   have HN2:=Lib.hid (show RpAt 49 ((w.alloc (.cells #[.int .i64 0,.int .i64 0,.slice none 0 0] 49 (0,0))).alloc (.cells #[.int .i64 0,.int .i64 0,.slice none 0 0] 49 (0,0))).drew (w.heap.size + 1) 0 0 (.slice none 0 0) from hN2)
   have HA2:=Lib.hid (HB0.out.alloc (by simp) (.cells #[.int .i64 0,.int .i64 0,.slice none 0 0] 49 (0,0))).drew
   go_cut [4] (fun p wx=>∃ g,p=.pointer (some ⟨g,0,none⟩)∧w.heap.size < g∧RpAt 49 wx g x0.toNat V (.slice none 0 0)∧RpAt 49 wx w.heap.size 0 0 (.slice none 0 0)∧Below w.heap.size w wx)
   case first =>
    go_region_held3 (fun wx=>Below w.heap.size w wx) (first | assumption | exact HB0.out.drew | exact HA2.out | exact HB0.out.drew.trans (hb8.mono HB0.out.drew.size) | exact HA2.out.trans (hb8.mono HA2.out.size) | exact (HB0.out.drew.trans (hb8.mono HB0.out.drew.size)).alloc (Nat.le_trans HB0.out.drew.size hb8.size) _ | exact (((HA2.out.trans (hb8.mono HA2.out.size)).setCell (Nat.le_succ _) _).setCell (Nat.le_succ _) _).setCell (Nat.le_succ _) _)
      (first | (go_at_call 33; refine (HTK.out _).mono ?_; rintro e w8 ⟨rfl,hb8⟩; (try have hz8:=HN2.out.below hb8); (try have k0:=hz8.c0); (try have k1:=hz8.c1); (try have k2:=hz8.c2); (try have kf:=hz8.frozen)))
    all_goals
      go_wp2_with fail
      go_meet
      rename_i hs
      first
        | exact ⟨_,rfl,Nat.lt_of_lt_of_le (show w.heap.size < _ by simp) hb8.size,rpAt_new _ _ _ _ _,((HN0.out.below (Below.refl _ _).drew).below hb8).below ((Below.refl _ _).alloc (Nat.le_refl _) _),hs⟩
        | exact ⟨_,rfl,Nat.lt_succ_self _,hz8.set3 _ _ _,((((HN0.out.below ((Below.refl _ _).alloc (Nat.le_refl _) _).drew).below hb8).apart (by omega) _ _).apart (by omega) _ _).apart (by omega) _ _,hs⟩
   case rest =>
    obtain ⟨g,rfl,hgt,hg,hr,hbel⟩:=hcut
    have HG:=Lib.hid hg
    have HR:=Lib.hid hr
    have HB:=Lib.hid hbel
    have he2:(⟨s.toArray⟩:ByteArray).extract 9 11=⟨((s.drop 9).take 2).toArray⟩:=by rw [ByteArray.extract_mk]; try simp
    have hm2:IntKind.i64.wrap (val ((s.drop 9).take 2):Nat)=(many s:Int):=IntWalk.i64_in _ (by have:=many_lt s; unfold many at this; omega)
    have HTK2:=Lib.hid (show ∀ wx,Calls Tryz.prog 34 #[.string ((⟨s.toArray⟩:ByteArray).extract 9 11)] wx fun e w'=>e=.returned (.int .i64 (many s))∧Below wx.heap.size wx w' by rw [he2,← hm2]; exact takeInt_any _ (by rw [List.length_take]; omega))
    have hml:=many_lt s
    have hmli:(many s:Int)≤65535:=by omega
    have HTR2:=Lib.hid (show tr=if 200 < many s∨s.length ≠ 11 + 4 * many s then none else if (idsOf s (many s)).all (fun n=>fits n 4)=true then some ⟨x0.toNat,V,idsOf s (many s)⟩ else none by rw [HTR.out,if_neg h11])
    clear hg hr hbel he2 hm2 hml HTR HTK HN0 HB0 HN2 HA2 hN2 hx1 hw hx3 h9i h11 hpos
    generalize many s=M at *
    by_cases hbig:200 < M
    · have hbi:(200:Int) < M:=by omega
      have HNO:=Lib.hid (show tr=none by rw [HTR2.out,if_pos (Or.inl hbig)])
      go_wp2_with (go_at_call 34; refine (HTK2.out _).mono ?_; rintro e w8 ⟨rfl,hb8⟩; have hr8:=HR.out.below hb8; have r0:=hr8.c0; have r1:=hr8.c1; have r2:=hr8.c2; have rf:=hr8.frozen; have HR8:=Lib.hid hr8; have HG8:=Lib.hid (HG.out.below hb8); have HB8:=Lib.hid (HB.out.trans (hb8.mono HB.out.size)); clear hr8 hb8)
      refine bodyPost_ret (results_mid2 rfl _ _ _ w.heap.size _ _ rfl (RpAt.range (HR8.out.set3 0 0 (.slice none 0 0))) Tryz.underlying49 rfl (by kernel_rfl)) rfl ⟨.slice none 0 0,?_,?_,((HB8.out.setCell (Nat.le_refl _) _).setCell (Nat.le_refl _) _).setCell (Nat.le_refl _) _⟩
      · rw [HNO.out]; rfl
      · rw [HNO.out]; exact ⟨none,0,rfl,fun h=>absurd rfl h⟩
    · by_cases hne:s.length ≠ 11 + 4 * M
      · have hni:((s.length:Int) != 11 + 4 * (M:Int))=true:=by rw [bne_iff_ne]; omega
        have hbi:¬ (200:Int) < M:=by omega
        have HNO:=Lib.hid (show tr=none by rw [HTR2.out,if_pos (Or.inr hne)])
        go_wp2_with (go_at_call 34; refine (HTK2.out _).mono ?_; rintro e w8 ⟨rfl,hb8⟩; have hr8:=HR.out.below hb8; have r0:=hr8.c0; have r1:=hr8.c1; have r2:=hr8.c2; have rf:=hr8.frozen; have HR8:=Lib.hid hr8; have HG8:=Lib.hid (HG.out.below hb8); have HB8:=Lib.hid (HB.out.trans (hb8.mono HB.out.size)); clear hr8 hb8)
        refine bodyPost_ret (results_mid2 rfl _ _ _ w.heap.size _ _ rfl (RpAt.range (HR8.out.set3 0 0 (.slice none 0 0))) Tryz.underlying49 rfl (by kernel_rfl)) rfl ⟨.slice none 0 0,?_,?_,((HB8.out.setCell (Nat.le_refl _) _).setCell (Nat.le_refl _) _).setCell (Nat.le_refl _) _⟩
        · rw [HNO.out]; rfl
        · rw [HNO.out]; exact ⟨none,0,rfl,fun h=>absurd rfl h⟩
      · have hni:((s.length:Int) != 11 + 4 * (M:Int))=false:=by rw [bne_eq_false_iff_eq]; omega
        have hbi:¬ (200:Int) < M:=by omega
        have hsl:s.length=11 + 4 * M:=by omega
        have HTR3:=Lib.hid (show tr=if (idsOf s M).all (fun n=>fits n 4)=true then some ⟨x0.toNat,V,idsOf s M⟩ else none by rw [HTR2.out,if_neg (by omega)])
        have HSL:=Lib.hid hsl
        clear hne hbig HTR2
        go_wp2_with (go_at_call 34; refine (HTK2.out _).mono ?_; rintro e w8 ⟨rfl,hb8⟩; have hr8:=HR.out.below hb8; have r0:=hr8.c0; have r1:=hr8.c1; have r2:=hr8.c2; have rf:=hr8.frozen; have HR8:=Lib.hid hr8; have HG8:=Lib.hid (HG.out.below hb8); have HB8:=Lib.hid (HB.out.trans (hb8.mono HB.out.size)); clear hr8 hb8)
        clear r0 r1 r2 rf hsl HR HG HB hni HTK2
        go_loopw [6] (fun q wr=>∃ (j p:Nat) (sl:Value),j≤M∧q=.int .i64 p∧p=11 + 4 * j∧(idsOf s j).all (fun n=>fits n 4)=true∧RpAt 49 wr g x0.toNat V sl∧wr.ownsRow (g + 1) 3 1 sl (idsOf s j).length ((idsOf s j).map (Value.int .i64))∧RpAt 49 wr w.heap.size 0 0 (.slice none 0 0)∧Below w.heap.size w wr) (fun q _=>s.length - (intOf q).toNat)
        case atStart=>exact ⟨0,11,_,by omega,rfl,rfl,rfl,HG8.out,World.ownsRow_nil _ _ _ _,HR8.out,HB8.out⟩
        case round =>
         obtain ⟨j,p,sl,hj,rfl,hp,hall,hg,how,hr,hbel⟩:=hrel
         clear HR8 HG8 HB8
         have HP:=Lib.hid hp
         have HA:=Lib.hid hall
         have HG:=Lib.hid hg
         have HOW:=Lib.hid how
         have HR:=Lib.hid hr
         have HB:=Lib.hid hbel
         have hSL:=HSL.out
         clear hall how hg hr hbel
         by_cases hlt:j < M
         · have hpi:(p:Int) < s.length:=by omega
           have hp4:(p:Int) + 4≤s.length:=by omega
           have he2:(⟨s.toArray⟩:ByteArray).extract p (p + 4)=⟨((s.drop p).take 4).toArray⟩:=by rw [ByteArray.extract_mk]; simp
           have hid:=idAt_in s j
           have hm2:IntKind.i64.wrap (val ((s.drop p).take 4):Nat)=idAt s j:=by rw [hp]; exact IntWalk.i64_in _ (by unfold idAt at hid; omega)
           have HTK4:=Lib.hid (show ∀ wx,Calls Tryz.prog 34 #[.string ((⟨s.toArray⟩:ByteArray).extract p (p + 4))] wx fun e w'=>e=.returned (.int .i64 (idAt s j))∧Below wx.heap.size wx w' by rw [he2,← hm2]; exact takeInt_any _ (by rw [List.length_take]; omega))
           have HN:=Lib.hid (idsOf_succ s j)
           have HAT:=Lib.hid (idsOf_at s hlt)
           clear he2 hm2 hid hp hSL
           generalize idAt s j=x at *
           cases hfit:fits x 4
           · have HF:=Lib.hid hfit
             go_wp2_with (first
               | (go_at_call 34; refine (HTK4.out _).mono ?_; rintro e w8 ⟨rfl,hb8⟩; have hr8:=HR.out.below hb8; have r0:=hr8.c0; have r1:=hr8.c1; have r2:=hr8.c2; have rf:=hr8.frozen; have HR8:=Lib.hid hr8; have HB8:=Lib.hid (HB.out.trans (hb8.mono HB.out.size)); clear hr8 hb8)
               | (go_at_call 35; refine (within_any x 4 _).mono ?_; rintro q w3 ⟨rfl,rfl⟩))
             have HNO:=Lib.hid (show tr=none by rw [HTR3.out,all_false' HAT.out HF.out]; rfl)
             refine bodyPost_ret (results_mid2 rfl _ _ _ w.heap.size _ _ rfl (RpAt.range (HR8.out.set3 0 0 (.slice none 0 0))) Tryz.underlying49 rfl (by kernel_rfl)) rfl ⟨.slice none 0 0,?_,?_,((HB8.out.setCell (Nat.le_refl _) _).setCell (Nat.le_refl _) _).setCell (Nat.le_refl _) _⟩
             · rw [HNO.out]; rfl
             · rw [HNO.out]; exact ⟨none,0,rfl,fun h=>absurd rfl h⟩
           · have HF:=Lib.hid hfit
             go_upto_region 13 with (first
               | (go_at_call 34; refine (HTK4.out _).mono ?_; rintro e w8 ⟨rfl,hb8⟩; have hg8:=HG.out.below hb8; have g2:=hg8.c2; have HG8:=Lib.hid hg8; have HR8:=Lib.hid (HR.out.below hb8); have HOW8:=Lib.hid (own_below HOW.out hb8 rfl); have HB8:=Lib.hid (HB.out.trans (hb8.mono HB.out.size)); clear hg8 hb8)
               | (go_at_call 35; refine (within_any x 4 _).mono ?_; rintro q w3 ⟨rfl,rfl⟩))
             obtain ⟨i0,hi,hz0,hz1,hz2⟩:=info_parts infoInt
             have HRa:=Lib.hid (HR8.out.below ((Below.refl _ _).alloc (Nat.le_refl _) (.cells #[.int .i64 x] 3)))
             have HGa:=Lib.hid (HG8.out.below ((Below.refl _ _).alloc (Nat.le_refl _) (.cells #[.int .i64 x] 3)))
             have HBa:=Lib.hid (HB8.out.alloc HB8.out.size (.cells #[.int .i64 x] 3))
             have hgl:=HG8.out.lt
             go_wp2_with (at_builtin; with_reducible refine wpList_append_lies _ rfl (.tmp 50) (.tmp 52) 25 rfl (g + 1) 3 i0 (.int .i64 0) 1 8 Tryz.underlying25 hi hz0 hz1 hz2 rfl (by decide) _ _ _ rfl (HOW8.out.alloc _) ⟨w3.heap.size,0,none⟩ 1 1 [.int .i64 x] rfl rfl ?c1 ?c2 (by decide) ?c3 ?c4 ?c5 _ rfl ?_)
             case c1=>exact cell_one_new _ _ _
             case c2=>intro u hu; simp at hu; subst hu; rfl
             case c3=>rw [idsOf_len]; unfold maxLen; omega
             case c4=>rw [idsOf_len]; omega
             case c5=>simp; omega
             intro g' cap' w1 hown' hgrow _ _
             have hg1:=HGa.out.grown hgrow (HOW8.out.alloc _) (by omega)
             have hr1:=HRa.out.grown hgrow (HOW8.out.alloc _) (by omega)
             have hb1:=HBa.out.grown hgrow (by simp; omega) (fun k hk=>by have:=HOW8.out.lt k hk; omega)
             have y2:=hg1.c2
             have yf:=hg1.frozen 2
             have HGs:=Lib.hid (hg1.set2 (.slice (some ⟨g',0,none⟩) ((idsOf s j).length + 1) cap'))
             have HRs:=Lib.hid (hr1.apart (show w.heap.size ≠ g by omega) 2 (.slice (some ⟨g',0,none⟩) ((idsOf s j).length + 1) cap'))
             have HBs:=Lib.hid (hb1.setCell (p:=⟨g,2,none⟩) (by show w.heap.size≤g; omega) (.slice (some ⟨g',0,none⟩) ((idsOf s j).length + 1) cap'))
             have HOs:=Lib.hid (show (w1.setCell ⟨g,2,none⟩ (.slice (some ⟨g',0,none⟩) ((idsOf s j).length + 1) cap')).ownsRow (g + 1) 3 1 (.slice (some ⟨g',0,none⟩) ((idsOf s j).length + 1) cap') (idsOf s (j + 1)).length ((idsOf s (j + 1)).map (Value.int .i64)) by
              have h:=own_setCell hown' (Nat.lt_succ_self g) 2 (.slice (some ⟨g',0,none⟩) ((idsOf s j).length + 1) cap')
              rw [HN.out,List.length_append,List.map_append]
              exact h)
             clear hg1 hr1 hb1 hgrow hown' HRa HGa HBa HOW8 HG8 HR8 HB8 g2 hgl hi hz0 hz1 hz2
             go_wp2
             go_roundw
             case rel=>exact ⟨j + 1,p + 4,_,by omega,by go_num,by have:=HP.out; omega,by rw [HN.out,List.all_append,HA.out]; simp [HF.out],HGs.out,HOs.out,HRs.out,HBs.out⟩
             case measure=>simp [intOf]; omega
         · obtain rfl:j=M:=by omega
           have hpi:¬ (p:Int) < s.length:=by omega
           have HYES:=Lib.hid (show tr=some ⟨x0.toNat,V,idsOf s j⟩ by rw [HTR3.out,if_pos HA.out])
           obtain ⟨ao,nn,cc,rfl⟩:∃ ao nn cc,sl=.slice ao nn cc:=by
            rcases HOW.out.2 with ⟨h,_⟩ | ⟨g,cap,_,h,_⟩
            · exact ⟨_,_,_,h⟩
            · exact ⟨_,_,_,h⟩
           have g0:=HG.out.c0
           have g1:=HG.out.c1
           have g2:=HG.out.c2
           have r0:=HR.out.c0
           have r1:=HR.out.c1
           have r2:=HR.out.c2
           have rf:=HR.out.frozen
           go_wp2
           refine bodyPost_ret (results_mid2 rfl _ _ _ w.heap.size _ _ rfl (RpAt.range (HR.out.set3 x0.toNat V (.slice ao nn cc))) Tryz.underlying49 rfl (by kernel_rfl)) rfl ⟨.slice ao nn cc,?_,?_,((HB.out.setCell (Nat.le_refl _) _).setCell (Nat.le_refl _) _).setCell (Nat.le_refl _) _⟩
           · rw [HYES.out]; rfl
           · rw [HYES.out]; exact slInt_own (own_setCell (own_setCell (own_setCell HOW.out (by omega) _ _) (by omega) _ _) (by omega) _ _)
end
end Go.Proofs.YtgcnnbjbdfgglaaGreat.W
namespace Go.Proofs.YtgcnnbjbdfgglaaGreat.W
open Go.RowKit
section
def u64 (n:Int):Nat:=(n % 18446744073709551616).toNat
theorem byte_eq (n:Int) (k:Nat) (hk:k < 8):(n / 2 ^ (8 * k) % 256).toNat=u64 n / 256 ^ k % 256:=by
 unfold u64
 obtain rfl | rfl | rfl | rfl | rfl | rfl | rfl | rfl:k=0∨k=1∨k=2∨k=3∨k=4∨k=5∨k=6∨k=7:=by omega
 all_goals
   simp only [Nat.reduceMul,Int.reducePow,Nat.reducePow]
   omega
theorem be_nbe (n:Int):∀ k,k≤8→be n k=nbe (u64 n) k
  | 0,_=>rfl
  | k + 1,h=>by
   simp only [be,nbe]
   rw [be_nbe n k (by omega),byte_eq n k (by omega)]
end
section
theorem val_nbe (N:Nat):∀ k,val (nbe N k)=N % 256 ^ k:=by
 have key:∀ (k:Nat) (a:Nat),(nbe N k).foldl (fun n b=>n * 256 + b.toNat) a=a * 256 ^ k + N % 256 ^ k:=by
  intro k
  induction k with
  | zero=>intro a; simp [nbe,Nat.mod_one]
  | succ k ih =>
   intro a
   simp only [nbe,List.foldl_cons]
   rw [ih]
   have h1:(UInt8.ofNat (N / 256 ^ k % 256)).toNat=N / 256 ^ k % 256:=by simp
   rw [h1,Nat.pow_succ,Nat.mod_mul]
   rw [Nat.add_mul,Nat.mul_assoc a 256,Nat.mul_comm 256 (256 ^ k),Nat.mul_comm (N / 256 ^ k % 256) (256 ^ k)]
   omega
 intro k
 have:=key k 0
 unfold val
 simpa using this
theorem val_be (n:Int) (k:Nat) (hk:k≤8):val (be n k)=u64 n % 256 ^ k:=by rw [be_nbe n k hk,val_nbe]
end
section
theorem putr_drop (e v:Int) (ids:List Int):(putrB e v ids).drop 9=be ids.length 2 ++ ids.flatMap fun n=>be n 4:=by
 unfold putrB
 rw [List.drop_succ_cons,List.append_assoc,List.drop_append_of_le_length (by rw [be_len]; omega),List.drop_of_length_le (by rw [be_len]; omega)]
 rfl
theorem putr_drop11 (e v:Int) (ids:List Int):(putrB e v ids).drop 11=ids.flatMap fun n=>be n 4:=by
 have h:(putrB e v ids).drop 11=((putrB e v ids).drop 9).drop 2:=by rw [List.drop_drop]
 rw [h,putr_drop,List.drop_append_of_le_length (by rw [be_len]; omega),List.drop_of_length_le (by rw [be_len]; omega)]
 rfl
theorem flat_chunk:∀ (ids:List Int) (i:Nat) (x:Int),ids[i]?=some x→((ids.flatMap fun n=>be n 4).drop (4 * i)).take 4=be x 4
  | [],i,x,h=>by simp at h
  | n :: ids,0,x,h=>by
   simp at h
   subst h
   simp only [List.flatMap_cons,Nat.mul_zero,List.drop_zero]
   rw [List.take_append_of_le_length (by rw [be_len]; omega),List.take_of_length_le (by rw [be_len]; omega)]
  | n :: ids,i + 1,x,h=>by
   simp at h
   have ih:=flat_chunk ids i x h
   simp only [List.flatMap_cons]
   have e:(be n 4 ++ ids.flatMap fun n=>be n 4).drop (4 * (i + 1))=(ids.flatMap fun n=>be n 4).drop (4 * i):=by
    have e4:(be n 4 ++ ids.flatMap fun n=>be n 4).drop 4=ids.flatMap fun n=>be n 4:=by
     rw [List.drop_append_of_le_length (by rw [be_len]; omega),List.drop_of_length_le (by rw [be_len]; omega)]
     rfl
    rw [show 4 * (i + 1)=4 + 4 * i by omega,← List.drop_drop,e4]
   rw [e,ih]
theorem putr_length (e v:Int) (ids:List Int):(putrB e v ids).length=11 + 4 * ids.length:=by
 unfold putrB
 simp only [List.length_cons,List.length_append,be_len,ids_len]
 omega
theorem many_putr (e v:Int) (ids:List Int) (h:ids.length≤200):many (putrB e v ids)=ids.length:=by
 unfold many
 rw [putr_drop,List.take_append_of_le_length (by rw [be_len]; omega),List.take_of_length_le (by rw [be_len]; omega),val_be _ _ (by omega)]
 unfold u64
 omega
theorem val4 {x:Int} (h:fits x 4=true):((val (be x 4):Nat):Int)=x:=by
 rw [val_be _ _ (by omega)]
 unfold fits at h
 rw [if_neg (by omega),decide_eq_true_eq] at h
 unfold u64
 omega
theorem takeR_putr {e v:Int} {ids:List Int} (h:putrOk e ids=true) (hv:-9223372036854775808≤v∧v≤9223372036854775807):takeR (putrB e v ids)=some ⟨e,v,ids⟩:=by
 unfold putrOk at h
 rw [Bool.and_eq_true,decide_eq_true_eq] at h
 obtain ⟨⟨h0,h255,h200⟩,hall⟩:=h
 have hm:=many_putr e v ids h200
 have hids:idsOf (putrB e v ids) ids.length=ids:=by
  refine List.ext_getElem? fun i=>?_
  by_cases hi:i < ids.length
  · have hx:ids[i]?=some ids[i]:=by simp [hi]
    rw [idsOf_at _ hi,hx]
    unfold idAt
    rw [← List.drop_drop,putr_drop11,flat_chunk ids i _ hx,val4 (List.all_eq_true.1 hall _ (List.getElem_mem hi))]
  · rw [List.getElem?_eq_none (by rw [idsOf_len]; omega),List.getElem?_eq_none (by omega)]
 have hv8:IntKind.i64.wrap (val (((putrB e v ids).drop 1).take 8):Nat)=v:=by
  have e8:((putrB e v ids).drop 1).take 8=be v 8:=by
   unfold putrB
   rw [List.drop_succ_cons,List.drop_zero,List.append_assoc,List.take_append_of_le_length (by rw [be_len]; omega),List.take_of_length_le (by rw [be_len]; omega)]
  rw [e8,val_be _ _ (by omega)]
  unfold u64
  rw [IntKind.wrap_i64]
  omega
 have h0':(((putrB e v ids).getD 0 0).toNat:Int)=e:=by
  show ((kb e).toNat:Int)=e
  unfold kb
  simp
  omega
 unfold takeR
 rw [if_neg (by rw [putr_length]; omega),hm,if_neg (by rw [putr_length]; omega),hids,if_pos hall,hv8,h0']
end
end Go.Proofs.YtgcnnbjbdfgglaaGreat.W
