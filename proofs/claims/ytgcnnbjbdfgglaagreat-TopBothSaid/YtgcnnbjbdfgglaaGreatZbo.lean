/- LAW TopBoth: of every configuration of a bank and every list of byte strings the given function TopBoth returns true and leaves its arguments as they were; no condition. A part of what it needs. -/
import Derived.Test.YtgcnnbjbdfgglaaGreatZbj
import Derived.Test.YtgcnnbjbdfgglaaGreatZbm
import Derived.Test.YtgcnnbjbdfgglaaGreatZbn
namespace Go.Proofs.YtgcnnbjbdfgglaaGreat.J
open Go.RowKit
set_option maxRecDepth 100000 in
theorem scan_none (w:World):Calls Tryz.prog 63 #[.string ⟨#[]⟩] w fun e w'=>e=.returned (.tuple #[.slice none 0 0,.int .i64 0,.int .i64 0])∧w'=w:=by
 go_enter Tryz.func63,Tryz.ntmps63
 go_wp2
 go_step3
 go_wp2
 go_step3
 go_wp2
 go_loopw [5,6,7] (fun v a b wr=>v=.slice none 0 0∧a=.int .i64 0∧b=.int .i64 0∧wr=w) (fun _ _ _ _=>0)
 case atStart=>exact ⟨rfl,rfl,rfl,rfl⟩
 case round =>
  obtain ⟨rfl,rfl,rfl,rfl⟩:=hrel
  go_wp2
  rw [Exit.noGoto_ret]
  go_ret3
  exact ⟨rfl,rfl⟩
set_option maxRecDepth 100000 in
theorem follow_none (p:Value) (w:World):Calls Tryz.prog 65 #[p,.slice none 0 0] w fun e w'=>e=.returned (.bool true)∧w'=w:=by
 go_enter Tryz.func65,Tryz.ntmps65
 go_wp2
 go_loopw [13] (fun a wr=>a=.int .i64 0∧wr=w) (fun _ _=>0)
 case atStart=>exact ⟨rfl,rfl⟩
 case round =>
  obtain ⟨rfl,rfl⟩:=hrel
  go_wp2
  go_ret
  exact ⟨rfl,rfl⟩
def Jn.none:Jn:=⟨0,[],[],false⟩
theorem steps_none (jg ke e0:Nat) {d:Dk} (h0:d.b 0=[]) (h2:d.b 2=[]) (he:e0=0):runSteps [⟨67,#[.pointer (some ⟨jg + 1,0,none⟩),.pointer (some ⟨ke,0,none⟩)],fun d=>cutx 0 e0 d⟩,⟨69,#[.pointer (some ⟨jg + 1,0,none⟩)],fun d=>cutx 2 0 d⟩] d=⟨0,d⟩:=by
 subst he
 simp [runSteps,cutx,h0,h2]
set_option maxRecDepth 100000 in
set_option maxHeartbeats 4000000 in
theorem open_fresh (g:Nat) (d:Dk) (ho:d.Ok) (h0:d.b 0=[]) (h1:d.b 1=[]) (h2:d.b 2=[]) (w:World) (h:DiskAt w g d) :
    Calls Tryz.prog 29 #[.pointer (some ⟨g,0,none⟩)] w fun e w'=>e=.returned (.tuple #[.pointer (some ⟨w.heap.size,0,none⟩),.int .i64 0])∧JAt w' w.heap.size g (.slice none 0 0) Jn.none∧DiskAt w' g d∧Two g w.heap.size w w':=by
 have HO:=Lib.hid ho
 have hgl:g < w.heap.size:=(Array.getElem?_eq_some_iff.1 h).1
 have HR0:=Lib.hid (show ∀ wx,DiskAt wx g d→Calls Tryz.prog 62 #[.pointer (some ⟨g,0,none⟩),.int .i64 0] wx fun e w'=>e=.returned (.tuple #[.string ⟨(d.b 0).toArray⟩,.int .i64 0])∧wx=w' from fun wx hw=>read_disk g d 0 (by omega) wx hw)
 have HR1:=Lib.hid (show ∀ wx,DiskAt wx g d→Calls Tryz.prog 62 #[.pointer (some ⟨g,0,none⟩),.int .i64 1] wx fun e w'=>e=.returned (.tuple #[.string ⟨(d.b 1).toArray⟩,.int .i64 0])∧wx=w' from fun wx hw=>read_disk g d 1 (by omega) wx hw)
 rw [h0] at HR0
 rw [h1] at HR1
 have HZ:=Lib.hid (And.intro h0 h2)
 have hb1:=(Below.refl w.heap.size w).alloc (Nat.le_refl _) (.cells #[.pointer (some ⟨g,0,none⟩),.string ⟨#[]⟩,.int .i64 0,.slice none 0 0,.bool false] 166 (0,0))
 have hb2:=(Below.refl (w.alloc (.cells #[.pointer (some ⟨g,0,none⟩),.string ⟨#[]⟩,.int .i64 0,.slice none 0 0,.bool false] 166 (0,0))).heap.size (w.alloc (.cells #[.pointer (some ⟨g,0,none⟩),.string ⟨#[]⟩,.int .i64 0,.slice none 0 0,.bool false] 166 (0,0)))).alloc (Nat.le_refl _) (.cells #[.pointer (some ⟨w.heap.size,0,none⟩)] 96 (0,0))
 have hj1:JAt (w.alloc (.cells #[.pointer (some ⟨g,0,none⟩),.string ⟨#[]⟩,.int .i64 0,.slice none 0 0,.bool false] 166 (0,0))) w.heap.size g (.slice none 0 0) Jn.none:=heap_alloc_new _ _
 have HJ4:=Lib.hid (hj1.below hb2)
 have HD4:=Lib.hid ((DiskAt.below h hb1).below hb2)
 have hs1:(w.alloc (.cells #[.pointer (some ⟨g,0,none⟩),.string ⟨#[]⟩,.int .i64 0,.slice none 0 0,.bool false] 166 (0,0))).heap.size=w.heap.size + 1:=by simp
 have HB4:=Lib.hid (show Box ((w.alloc (.cells #[.pointer (some ⟨g,0,none⟩),.string ⟨#[]⟩,.int .i64 0,.slice none 0 0,.bool false] 166 (0,0))).alloc (.cells #[.pointer (some ⟨w.heap.size,0,none⟩)] 96 (0,0))) (w.heap.size + 1) (.pointer (some ⟨w.heap.size,0,none⟩)) by
  rw [← hs1]
  exact (cell_of_row _ _ 0 _ _ _ (heap_alloc_new _ _)).trans rfl)
 have HN4:=Lib.hid (show Only g w ((w.alloc (.cells #[.pointer (some ⟨g,0,none⟩),.string ⟨#[]⟩,.int .i64 0,.slice none 0 0,.bool false] 166 (0,0))).alloc (.cells #[.pointer (some ⟨w.heap.size,0,none⟩)] 96 (0,0))) from ((Only.refl g w).alloc _).alloc _)
 clear h ho hb1 hb2 hj1 hs1 h0 h1 h2
 go_enter Tryz.func29,Tryz.ntmps29
 go_upto_region 4 with (fail)
 generalize ((w.alloc (.cells #[.pointer (some ⟨g,0,none⟩),.string ⟨#[]⟩,.int .i64 0,.slice none 0 0,.bool false] 166 (0,0))).alloc (.cells #[.pointer (some ⟨w.heap.size,0,none⟩)] 96 (0,0)))=w4 at *
 go_wp2_with fail
 refine (HR1.out _ HD4.out).mono ?_
 rintro e wx ⟨rfl,rfl⟩
 go_wp2_with fail
 refine (HR0.out _ HD4.out).mono ?_
 rintro e wx ⟨rfl,rfl⟩
 go_wp2_with fail
 refine (scan_none _).mono ?_
 rintro e wx ⟨rfl,rfl⟩
 have hkt:w.heap.size + 1 < wx.heap.size:=block_lt_of_cell (show wx.cell? ⟨w.heap.size + 1,0,none⟩=some _ from HB4.out)
 have hb7:=(Below.refl wx.heap.size wx).alloc (Nat.le_refl _) (.cells #[.int .i64 0] 3 (0,0))
 have HN7:=Lib.hid (HN4.out.trans (Only.of_below (g:=g) hb7))
 have HJ7:=Lib.hid (HJ4.out.below hb7)
 have HD7:=Lib.hid (HD4.out.below hb7)
 have HB7:=Lib.hid (show Box (wx.alloc (.cells #[.int .i64 0] 3 (0,0))) (w.heap.size + 1) _ from kept_at hb7 HB4.out)
 have HE7:=Lib.hid (show Box (wx.alloc (.cells #[.int .i64 0] 3 (0,0))) wx.heap.size (.int .i64 0) from (cell_of_row _ _ 0 _ _ _ (heap_alloc_new _ _)).trans rfl)
 have c7:=HB7.out
 unfold Box at c7
 clear hb7 HN4 HJ4 HD4 HB4 HR0 HR1
 go_wp2_with fail
 refine (follow_none _ _).mono ?_
 rintro e w8 ⟨rfl,rfl⟩
 generalize hke:wx.heap.size=ke at *
 generalize wx.alloc (.cells #[.int .i64 0] 3 (0,0))=w8 at *
 clear hke
 have hke8:ke < w8.heap.size:=block_lt_of_cell (show w8.cell? ⟨ke,0,none⟩=some _ from HE7.out)
 have hba:=(Below.refl w8.heap.size w8).alloc (Nat.le_refl _) (.cells #[.func (.func 67) #[] #[.pointer (some ⟨w.heap.size + 1,0,none⟩),.pointer (some ⟨ke,0,none⟩)],.func (.func 69) #[] #[.pointer (some ⟨w.heap.size + 1,0,none⟩)]] 174 (0,0))
 have hc9:=heap_alloc_new w8 (.cells #[.func (.func 67) #[] #[.pointer (some ⟨w.heap.size + 1,0,none⟩),.pointer (some ⟨ke,0,none⟩)],.func (.func 69) #[] #[.pointer (some ⟨w.heap.size + 1,0,none⟩)]] 174 (0,0))
 have hstep:=steps_any w.heap.size g w8.heap.size (.slice none 0 0) Jn.none d HO.out [⟨67,#[.pointer (some ⟨w.heap.size + 1,0,none⟩),.pointer (some ⟨ke,0,none⟩)],fun d=>cutx 0 0 d⟩,⟨69,#[.pointer (some ⟨w.heap.size + 1,0,none⟩)],fun d=>cutx 2 0 d⟩] (by omega) (by omega) _ (HJ7.out.below hba) (HD7.out.below hba) hc9 (by simp) (by
  intro c hc
  simp only [List.mem_cons,List.not_mem_nil,or_false] at hc
  rcases hc with rfl | rfl
  · exact does_trim w.heap.size g (w.heap.size + 1) ke _ _ 0 _ (kept_at hba HB7.out) (by omega) (kept_at hba HE7.out) (by omega) (HJ7.out.below hba) (by omega)
  · exact does_clear2 w.heap.size g (w.heap.size + 1) _ _ _ (kept_at hba HB7.out) (by omega) (HJ7.out.below hba) (by omega))
 rw [steps_none w.heap.size ke 0 HZ.out.1 HZ.out.2 rfl] at hstep
 have HST:=Lib.hid hstep
 have HN9:=Lib.hid (HN7.out.trans (Only.of_below (g:=g) hba))
 have HB9:=Lib.hid (show Box _ (w.heap.size + 1) _ from kept_at hba HB7.out)
 clear hstep hc9 HJ7 HD7 hba
 go_wp2_with fail
 refine (HST.out).mono ?_
 rintro e w10 ⟨rfl,hd10,hok10,hj10,ht10⟩
 have c10:w10.cell? ⟨w.heap.size + 1,0,none⟩=some (.pointer (some ⟨w.heap.size,0,none⟩)):=ht10.cell HB9.out (by show w.heap.size + 1 ≠ g; omega) (by show w.heap.size + 1 ≠ w.heap.size; omega)
 have HJ10:=Lib.hid hj10
 have HD10:=Lib.hid hd10
 have HT10:=Lib.hid ht10
 clear hd10 hok10 hj10 ht10 HST c7 HB9
 go_wp2
 go_ret2
 exact ⟨rfl,HJ10.out,HD10.out,(Two.of1 HN9.out).trans HT10.out⟩
end Go.Proofs.YtgcnnbjbdfgglaaGreat.J
namespace Go.Proofs.YtgcnnbjbdfgglaaGreat.J
open Go.RowKit
structure JK (w:World) (jg g B:Nat) (v:Value) (n:Nat):Prop where
  at_:∃ j d,Jour w jg g B v j d∧j.base + j.recs.length≤n
  ne:jg ≠ g
  jB:jg < B
  gB:g < B
  Bw:B≤w.heap.size
theorem rg (c:Int) (h:c=0∨c=1∨c=4∨c=9):0≤c∧c≤12:=by omega
theorem app_code (d:Dk) (i:Int) (b:List UInt8):0≤(d.append i b).code∧(d.append i b).code≤12:=by
 unfold Dk.append
 split
 · unfold Dk.step
   split
   · exact rg 9 (by omega)
   · dsimp only
     unfold Dk.app
     split
     · exact rg 4 (by omega)
     · exact rg 0 (by omega)
 · exact rg 1 (by omega)
theorem syn_code (d:Dk) (i:Int):0≤(d.sync i).code∧(d.sync i).code≤12:=by
 unfold Dk.sync
 split
 · unfold Dk.step
   split
   · exact rg 9 (by omega)
   · exact rg 0 (by omega)
 · exact rg 1 (by omega)
theorem stA_code (f:List UInt8) (d:Dk):0≤(stA f d).code∧(stA f d).code≤12:=by
 unfold stA
 split
 · split
   · exact rg 0 (by omega)
   · exact syn_code _ _
 · exact app_code _ _ _
theorem appJ_code (j:Jn) (d:Dk) (b:List UInt8):0≤(appJ j d b).1∧(appJ j d b).1≤12:=by
 unfold appJ
 split
 · unfold mayJ
   split
   · exact rg 4 (by omega)
   · split
     · exact rg 9 (by omega)
     · exact rg 0 (by omega)
 · split
   · exact rg 0 (by omega)
   · exact stA_code _ _
theorem appJ_more (j:Jn) (d:Dk) (b:List UInt8):(appJ j d b).2.1.base=j.base∧(appJ j d b).2.1.recs.length≤j.recs.length + 1:=by
 unfold appJ
 split
 · exact ⟨rfl,by simp⟩
 · split
   · exact ⟨rfl,by simp⟩
   · exact ⟨rfl,by simp⟩
theorem appJ_first (room:Int) (hr:1000≤room) (b:List UInt8) (hb:b.length≤100):(appJ Jn.none (Dk.new room) b).1=0:=by
 have hm:mayJ Jn.none b=0:=by
  unfold mayJ
  rw [if_neg (by omega),if_neg (by simp [Jn.none])]
 have hl:(recF Jn.none b).length≤200:=by
  unfold recF frameOf
  simp only [List.length_append]
  show 4 + 4 + (8 + b.length)≤200
  omega
 have ha:(Dk.new room).append 0 (recF Jn.none b)=⟨0,{ (Dk.new room) with b:=upd (Dk.new room).b 0 (recF Jn.none b) }⟩:=by
  unfold Dk.append Dk.step Dk.app Dk.burnt
  have h1:¬ (Dk.new room).left < ((recF Jn.none b).length:Int):=by unfold Dk.left Dk.new; simp; omega
  rw [if_pos (by decide),if_neg (by simp [Dk.new])]
  have h2:(Dk.new room).fuse=-1:=rfl
  rw [if_pos h2]
  dsimp only
  rw [if_neg h1]
  simp [Dk.new]
 have hs:((({ (Dk.new room) with b:=upd (Dk.new room).b 0 (recF Jn.none b) }:Dk)).sync 0).code=0:=by
  unfold Dk.sync Dk.step
  rw [if_pos (by decide),if_neg (by simp [Dk.new])]
  rfl
 have h0:(stA (recF Jn.none b) (Dk.new room)).code=0:=by
  unfold stA
  rw [ha]
  dsimp only
  rw [if_pos rfl,if_pos hs]
 rw [appJ_ok hm h0]
theorem append_k {jg g B n:Nat} {v:Value} {w:World} (h:JK w jg g B v n) (hn:n≤1000) (b:List UInt8) (hb:(b.length:Int)≤140737488355328) :
    Calls Tryz.prog 37 #[.pointer (some ⟨jg,0,none⟩),.string ⟨b.toArray⟩] w fun e w'=>∃ c:Int,e=.returned (.int .i64 c)∧0≤c∧c≤12∧∃ v',JK w' jg g B v' (n + 1)∧Kp g jg v.ownBlock w w'∧(v'.ownBlock=v.ownBlock∨∃ k,v'.ownBlock=some k∧w.heap.size≤k):=by
 obtain ⟨j,d,hj,hl⟩:=h.at_
 refine (append_j jg g B v j d b hb h.ne h.jB h.gB w h.Bw hj (by omega) (by omega)).mono ?_
 rintro e w' ⟨rfl,v',h1,h2,h3⟩
 have hc:=appJ_code j d b
 have hm:=appJ_more j d b
 exact ⟨_,rfl,hc.1,hc.2,v',⟨⟨_,_,h1,by omega⟩,h.ne,h.jB,h.gB,Nat.le_trans h.Bw h2.size⟩,h2,h3⟩
end Go.Proofs.YtgcnnbjbdfgglaaGreat.J
namespace Go.Proofs.YtgcnnbjbdfgglaaGreat
open Go.RowKit
theorem wrap_i64_in (x:Int):In64 (IntKind.i64.wrap x):=by
 have:IntKind.i64.wrap x=wrap64 x:=by
  simp [IntKind.wrap,wrap64,IntKind.bits,IntKind.signed]
  split <;> omega
 rw [this]
 exact Bk.wrap_64 x
theorem tk_in64:∀ (L:List (Nat × Nat)) (s:List UInt8) (n0 n:Nat→Int) (r:List UInt8),(∀ i,In64 (n0 i))→W.tk L s n0=some (n,r)→∀ i,In64 (n i)
  | [],s,n0,n,r,h0,h=>by
   simp [W.tk] at h
   rw [← h.1]
   exact h0
  | p :: L,s,n0,n,r,h0,h=>by
   unfold W.tk at h
   split at h
   · cases h
   · refine tk_in64 L _ _ n r (fun i=>?_) h
     unfold W.upd
     split
     · exact wrap_i64_in _
     · exact h0 i
theorem take_in64 {s:List UInt8} {c:W.Cm} (h:W.take s=some c):W.may c=true∧∀ i,In64 (c.n i):=by
 unfold W.take at h
 split at h
 · cases h
 · split at h
   · cases h
   · rename_i n r htk
     split at h
     · rename_i hr
       injection h with h
       subst h
       exact ⟨hr.2,tk_in64 _ _ _ _ _ (fun _=>in0) htk⟩
     · cases h
theorem putr_ok {E:Int} {zs:List Int} (h0:0≤E) (h1:E≤12) (hz:IdsOk zs):W.putrOk E zs=true:=by
 unfold W.putrOk
 rw [Bool.and_eq_true,decide_eq_true_eq,List.all_eq_true]
 refine ⟨⟨h0,by omega,hz.1⟩,fun z hm=>?_⟩
 have:=hz.2 z hm
 unfold W.fits
 simp
 omega
def ReyPost (E V:Int) (zs:List Int) (w:World) (e:Ending) (w':World):Prop:=e=.returned (.string ⟨(W.putrB E V zs).toArray⟩)∧Below w.heap.size w w'
set_option maxRecDepth 100000 in
set_option maxHeartbeats 2000000 in
theorem Bk.kreply {w:World} {B:Nat} {E V:Int} {ra:Option Addr} {rn rc:Nat} {zs:List Int} (h0:0≤E) (h1:E≤12) (hz:IdsOk zs) (hr:w.ownsRow B 3 1 (.slice ra rn rc) zs.length (ints zs)):Calls Tryz.prog 36 #[.agg #[.int .i64 E,.int .i64 V,.slice ra rn rc]] w (ReyPost E V zs w):=by
 have hb:=(Below.refl w.heap.size w).alloc (Nat.le_refl _) (.cells #[.int .i64 E,.int .i64 V,.slice ra rn rc] 49)
 have hp:=W.putr_any E V zs (.slice ra rn rc) (w.alloc (.cells #[.int .i64 E,.int .i64 V,.slice ra rn rc] 49)) (W.slInt_own (own_below hr hb)) (by have:=hz.1; omega)
 rw [show W.putrV E V zs=.tuple #[.string ⟨(W.putrB E V zs).toArray⟩,.int .i64 0] by unfold W.putrV; rw [putr_ok h0 h1 hz]; rfl] at hp
 have HP:=Lib.hid hp
 have HB:=Lib.hid hb
 have hx:=Blk.new w 49 #[.int .i64 E,.int .i64 V,.slice ra rn rc]
 have HX:=Lib.hid hx
 clear hp hb hx hr
 go_enter Tryz.func36,Tryz.ntmps36
 go_upto_region 1 with (fail)
 generalize w.alloc (.cells #[.int .i64 E,.int .i64 V,.slice ra rn rc] 49)=w1 at *
 have x0:w1.cell? ⟨w.heap.size,0,none⟩=some (.int .i64 E):=(HX.out.cell 0).trans rfl
 have x1:w1.cell? ⟨w.heap.size,1,none⟩=some (.int .i64 V):=(HX.out.cell 1).trans rfl
 have x2:w1.cell? ⟨w.heap.size,2,none⟩=some (.slice ra rn rc):=(HX.out.cell 2).trans rfl
 go_wp2_with fail
 refine HP.out.mono ?_
 rintro e w2 ⟨rfl,hb2⟩
 have HB2:=Lib.hid (HB.out.trans (hb2.mono HB.out.size))
 clear hb2
 go_wp2
 go_ret
 exact ⟨rfl,HB2.out⟩
structure KpAt (w:World) (K:Nat) (q:Qh) (s:Bnk) (g jg B:Nat) (v:Value) (n:Nat):Prop where
  blk:Blk w K 107 #[.pointer (some ⟨jg,0,none⟩),.pointer (some ⟨q.b,0,none⟩)]
  bk:BkAt w q s
  jk:J.JK w jg g B v n
  kq:¬ q.own s.d.L.n K
  gq:¬ q.own s.d.L.n g
  jq:¬ q.own s.d.L.n jg
  vq:∀ x,v.ownBlock=some x→¬ q.own s.d.L.n x∧x ≠ K
  kg:K ≠ g∧K ≠ jg
def kown (K:Nat) (q:Qh) (n:Nat) (g jg:Nat) (v:Value) (x:Nat):Prop:=x=K∨x=g∨x=jg∨v.ownBlock=some x∨q.own n x
theorem JK.frame {w w':World} {jg g B n:Nat} {v:Value} (h:J.JK w jg g B v n) (hs:w.heap.size≤w'.heap.size) (h1:w'.heap[jg]?=w.heap[jg]?) (h2:w'.heap[g]?=w.heap[g]?) (h3:∀ x,v.ownBlock=some x→w'.heap[x]?=w.heap[x]?):J.JK w' jg g B v n:=by
 obtain ⟨j,d,hj,hl⟩:=h.at_
 exact ⟨⟨j,d,⟨h1.trans hj.hj,h2.trans hj.hd,hj.ok,own_same hj.ow h3⟩,hl⟩,h.ne,h.jB,h.gB,Nat.le_trans h.Bw hs⟩
theorem JK.lt {w:World} {jg g B n:Nat} {v:Value} (h:J.JK w jg g B v n):jg < w.heap.size∧g < w.heap.size∧∀ x,v.ownBlock=some x→x < w.heap.size:=by
 obtain ⟨j,d,hj,hl⟩:=h.at_
 exact ⟨hj.hj.lt,hj.hd.lt,fun x hx=>(hj.ow.lt x hx).2⟩
theorem KpAt.below {w w':World} {K:Nat} {q:Qh} {s:Bnk} {g jg B:Nat} {v:Value} {n:Nat} (h:KpAt w K q s g jg B v n) (hb:Below w.heap.size w w'):KpAt w' K q s g jg B v n:=by
 have hl:=JK.lt h.jk
 exact ⟨h.blk.below hb,h.bk.below hb,JK.frame h.jk hb.size (hb.block _ hl.1) (hb.block _ hl.2.1) (fun x hx=>hb.block x (hl.2.2 x hx)),h.kq,h.gq,h.jq,h.vq,h.kg⟩
theorem KpAt.bank {w w':World} {K:Nat} {q q':Qh} {s s':Bnk} {g jg B:Nat} {v:Value} {n:Nat} (h:KpAt w K q s g jg B v n) (a:BkAt w' q' s') (b:BkSt w q w' q' s.d.L.n) (m:BnkSt s s'):KpAt w' K q' s' g jg B v n:=by
 have hl:=JK.lt h.jk
 have hno:∀ x,x < w.heap.size→¬ q.own s.d.L.n x→¬ q'.own s'.d.L.n x:=fun x hx hn ho=>by
  rw [m.L] at ho
  rcases b.own x ho with h1 | h1
  · exact hn h1
  · omega
 have hk:=(b.kept.block K h.blk.lt h.kq).trans h.blk
 exact ⟨by rw [b.b]; exact hk,a,JK.frame h.jk b.kept.size (b.kept.block _ hl.1 h.jq) (b.kept.block _ hl.2.1 h.gq) (fun x hx=>b.kept.block x (hl.2.2 x hx) (h.vq x hx).1),hno K h.blk.lt h.kq,hno g hl.2.1 h.gq,hno jg hl.1 h.jq,fun x hx=>⟨hno x (hl.2.2 x hx) (h.vq x hx).1,(h.vq x hx).2⟩,h.kg⟩
theorem KpAt.jour {w w':World} {K:Nat} {q:Qh} {s:Bnk} {g jg B:Nat} {v v':Value} {n n':Nat} (h:KpAt w K q s g jg B v n) (j:J.JK w' jg g B v' n') (k:J.Kp g jg v.ownBlock w w') (hv:v'.ownBlock=v.ownBlock∨∃ k,v'.ownBlock=some k∧w.heap.size≤k):KpAt w' K q s g jg B v' n':=by
 have hq:∀ x,q.own s.d.L.n x→w'.heap[x]?=w.heap[x]?:=fun x hx=>k.block x (h.bk.ownlt hx) (fun e=>h.gq (e ▸ hx)) (fun e=>h.jq (e ▸ hx)) (fun e=>(h.vq x e.symm).1 hx)
 have hK:=(k.block K h.blk.lt h.kg.1 h.kg.2 (fun e=>(h.vq K e.symm).2 rfl)).trans h.blk
 refine ⟨hK,h.bk.kept (F:=fun x=>¬ q.own s.d.L.n x) ⟨k.os,k.tape,k.output,k.size,fun x hx hn=>hq x (Classical.not_not.1 hn)⟩ (fun x hx hn=>hn hx),j,h.kq,h.gq,h.jq,fun x hx=>?_,h.kg⟩
 rcases hv with e | ⟨y,e,hy⟩
 · rw [e] at hx; exact h.vq x hx
 · rw [e] at hx
   injection hx with hx
   subst hx
   exact ⟨fun ho=>by have:=h.bk.ownlt ho; omega,fun e=>by have:=h.blk.lt; omega⟩
end Go.Proofs.YtgcnnbjbdfgglaaGreat
namespace Go.Proofs.YtgcnnbjbdfgglaaGreat
open Go.RowKit
def ApPost (P:Int→Prop) (jg g B:Nat) (v:Value) (n:Nat) (w:World) (e:Ending) (w':World):Prop:=∃ r:Int,e=.returned (.int .i64 r)∧0≤r∧r≤12∧P r∧∃ v',J.JK w' jg g B v' (n + 1)∧J.Kp g jg v.ownBlock w w'∧(v'.ownBlock=v.ownBlock∨∃ k,v'.ownBlock=some k∧w.heap.size≤k)
def KdPost (P:Int→Prop) (K:Nat) (q:Qh) (s:Bnk) (g jg B:Nat) (v:Value) (n:Nat) (b:List UInt8) (w:World) (e:Ending) (w':World):Prop :=
 ∃ (E V:Int) (zs:List Int) (q':Qh) (s':Bnk) (v':Value),e=.returned (.string ⟨(W.putrB E V zs).toArray⟩)∧(0≤E∧E≤12)∧In64 V∧IdsOk zs∧KpAt w' K q' s' g jg B v' (n + 1)∧BnkSt s s'∧q'.b=q.b∧Kept (kown K q s.d.L.n g jg v) w w'∧(∀ x,kown K q' s.d.L.n g jg v' x→kown K q s.d.L.n g jg v x∨w.heap.size≤x) ∧
 (E=0→∃ c,W.take b=some c∧DoQ s c E V zs s')∧(∀ c,W.take b=some c→(∀ r,P r→r=0)→DoQ s c E V zs s')
theorem KpAt.more {w:World} {K:Nat} {q:Qh} {s:Bnk} {g jg B:Nat} {v:Value} {n:Nat} (h:KpAt w K q s g jg B v n):KpAt w K q s g jg B v (n + 1) :=
 ⟨h.blk,h.bk,by obtain ⟨j,d,hj,hl⟩:=h.jk.at_; exact ⟨⟨j,d,hj,by omega⟩,h.jk.ne,h.jk.jB,h.jk.gB,h.jk.Bw⟩,h.kq,h.gq,h.jq,h.vq,h.kg⟩
theorem KdPost.same {P:Int→Prop} {K:Nat} {q:Qh} {s:Bnk} {g jg B:Nat} {v:Value} {n:Nat} {b:List UInt8} {w w':World} (h:KpAt w K q s g jg B v n) (hb:Below w.heap.size w w') (ht:W.take b=none):KdPost P K q s g jg B v n b w (.returned (.string ⟨(W.putrB 2 0 []).toArray⟩)) w' :=
 ⟨2,0,[],q,s,v,rfl,by omega,in0,ids_ok0,(h.below hb).more,BnkSt.refl s,rfl,Kept.of_below hb,fun x hx=>.inl hx,fun e=>by omega,fun c hc=>by rw [ht] at hc; cases hc⟩
structure KdS (P:Int→Prop) (K:Nat) (q:Qh) (s:Bnk) (g jg B:Nat) (v:Value) (n:Nat) (w:World) (q':Qh) (s':Bnk) (v':Value) (w':World):Prop where
  k:KpAt w' K q' s' g jg B v' (n + 1)
  m:BnkSt s s'
  b:q'.b=q.b
  kept:Kept (kown K q s.d.L.n g jg v) w w'
  own:∀ x,kown K q' s.d.L.n g jg v' x→kown K q s.d.L.n g jg v x∨w.heap.size≤x
theorem KdS.below {P:Int→Prop} {K:Nat} {q:Qh} {s:Bnk} {g jg B:Nat} {v:Value} {n:Nat} {w:World} {q':Qh} {s':Bnk} {v':Value} {w' w2:World} (h:KdS P K q s g jg B v n w q' s' v' w') (hb:Below w'.heap.size w' w2):KdS P K q s g jg B v n w q' s' v' w2 :=
 ⟨h.k.below hb,h.m,h.b,h.kept.trans (Kept.of_below hb),h.own⟩
theorem KdS.jour {P:Int→Prop} {K:Nat} {q:Qh} {s:Bnk} {g jg B:Nat} {v v':Value} {n:Nat} {w w1 w':World} (h:KpAt w K q s g jg B v n) (hb:Below w.heap.size w w1) (j:J.JK w' jg g B v' (n + 1)) (k:J.Kp g jg v.ownBlock w1 w') (hv:v'.ownBlock=v.ownBlock∨∃ k,v'.ownBlock=some k∧w1.heap.size≤k):KdS P K q s g jg B v n w q s v' w':=by
 have hl:=JK.lt h.jk
 refine ⟨(h.below hb).jour j k hv,BnkSt.refl s,rfl,⟨k.os.trans hb.os,k.tape.trans hb.tape,k.output.trans hb.output,Nat.le_trans hb.size k.size,fun x hx hn=>?_⟩,fun x hx=>?_⟩
 · exact (k.block x (Nat.lt_of_lt_of_le hx hb.size) (fun e=>hn (.inr (.inl e))) (fun e=>hn (.inr (.inr (.inl e)))) (fun e=>hn (.inr (.inr (.inr (.inl e.symm)))))).trans (hb.block x hx)
 · rcases hx with e | e | e | e | e
   · exact .inl (.inl e)
   · exact .inl (.inr (.inl e))
   · exact .inl (.inr (.inr (.inl e)))
   · rcases hv with e2 | ⟨y,e2,hy⟩
     · rw [e2] at e; exact .inl (.inr (.inr (.inr (.inl e))))
     · rw [e2] at e
       injection e with e
       have:=hb.size
       exact .inr (by omega)
   · exact .inl (.inr (.inr (.inr (.inr e))))
theorem KdS.bank {P:Int→Prop} {K:Nat} {q:Qh} {s:Bnk} {g jg B:Nat} {v v':Value} {n:Nat} {w w1 w':World} (h:KdS P K q s g jg B v n w q s v' w1) {q':Qh} {s':Bnk} (a:BkAt w' q' s') (b:BkSt w1 q w' q' s.d.L.n) (m:BnkSt s s'):KdS P K q s g jg B v n w q' s' v' w':=by
 refine ⟨h.k.bank a b m,m,b.b,⟨b.kept.os.trans h.kept.os,b.kept.tape.trans h.kept.tape,b.kept.output.trans h.kept.output,Nat.le_trans h.kept.size b.kept.size,fun x hx hn=>?_⟩,fun x hx=>?_⟩
 · exact (b.kept.block x (Nat.lt_of_lt_of_le hx h.kept.size) (fun ho=>hn (.inr (.inr (.inr (.inr ho)))))).trans (h.kept.block x hx hn)
 · have hsz:=h.kept.size
   rcases hx with e | e | e | e | e
   · exact .inl (.inl e)
   · exact .inl (.inr (.inl e))
   · exact .inl (.inr (.inr (.inl e)))
   · exact h.own x (.inr (.inr (.inr (.inl e))))
   · rcases b.own x e with h1 | h1
     · exact .inl (.inr (.inr (.inr (.inr h1))))
     · exact .inr (by omega)
theorem KdS.post {P:Int→Prop} {K:Nat} {q:Qh} {s:Bnk} {g jg B:Nat} {v v':Value} {n:Nat} {w w':World} {q':Qh} {s':Bnk} (h:KdS P K q s g jg B v n w q' s' v' w') {b:List UInt8} {E V:Int} {zs:List Int} (hE:0≤E∧E≤12) (hV:In64 V) (hz:IdsOk zs) (h1:E=0→∃ c,W.take b=some c∧DoQ s c E V zs s') (h2:∀ c,W.take b=some c→(∀ r,P r→r=0)→DoQ s c E V zs s'):KdPost P K q s g jg B v n b w (.returned (.string ⟨(W.putrB E V zs).toArray⟩)) w' :=
 ⟨E,V,zs,q',s',v',rfl,hE,hV,hz,h.k,h.m,h.b,h.kept,h.own,h1,h2⟩
set_option maxRecDepth 100000 in
set_option maxHeartbeats 8000000 in
theorem Bk.kdo {P:Int→Prop} {w:World} {K:Nat} {q:Qh} {s:Bnk} {g jg B:Nat} {v:Value} {n:Nat} (h:KpAt w K q s g jg B v n) (b:List UInt8) (hbl:(b.length:Int)≤100000) (hap:∀ wx,Below w.heap.size w wx→Calls Tryz.prog 37 #[.pointer (some ⟨jg,0,none⟩),.string ⟨b.toArray⟩] wx (ApPost P jg g B v n wx)) :
    Calls Tryz.prog 12 #[.pointer (some ⟨K,0,none⟩),.string ⟨b.toArray⟩] w (KdPost P K q s g jg B v n b w):=by
 have HK:=Lib.hid h
 have HAP:=Lib.hid hap
 have HTK:=Lib.hid (W.take_any b (by omega) w)
 clear h hap
 go_enter Tryz.func12,Tryz.ntmps12
 cases ht:W.take b with
 | none =>
  rw [ht] at HTK
  have HT:=Lib.hid ht
  clear ht
  unfold W.takeV W.Cm.cells at HTK
  dsimp only at HTK
  go_wp2_with fail
  refine HTK.out.mono ?_
  rintro e w1 ⟨rfl,hb1⟩
  have HB1:=Lib.hid hb1
  clear hb1
  have hA:=(Below.refl w1.heap.size w1).alloc (Nat.le_refl _) (.cells #[.int .i64 0,.int .i64 0,.int .i64 0,.int .i64 0,.int .i64 0,.int .i64 0,.int .i64 0,.int .i64 0] 54)
  have HR:=Lib.hid (Bk.kreply (w:=w1.alloc (.cells #[.int .i64 0,.int .i64 0,.int .i64 0,.int .i64 0,.int .i64 0,.int .i64 0,.int .i64 0,.int .i64 0] 54)) (B:=0) (E:=2) (V:=0) (zs:=[]) (by omega) (by omega) ids_ok0 (World.ownsRow_nil _ _ _ _))
  have HB2:=Lib.hid (HB1.out.trans (hA.mono HB1.out.size))
  clear hA
  go_wp2_with fail
  refine HR.out.mono ?_
  rintro e w2 ⟨rfl,hb2⟩
  have HB3:=Lib.hid (HB2.out.trans (hb2.mono HB2.out.size))
  clear hb2
  go_wp2
  go_ret
  exact KdPost.same HK.out HB3.out HT.out
 | some c =>
  rw [ht] at HTK
  have HT:=Lib.hid ht
  have HC:=Lib.hid (take_in64 ht)
  clear ht
  unfold W.takeV W.Cm.cells at HTK
  dsimp only at HTK
  go_wp2_with fail
  refine HTK.out.mono ?_
  rintro e w1 ⟨rfl,hb1⟩
  have HB1:=Lib.hid hb1
  clear hb1
  have hA:=(Below.refl w1.heap.size w1).alloc (Nat.le_refl _) (.cells (cmdC c.k (c.n 1) (c.n 2) (c.n 3) (c.n 4) (c.n 5) (c.n 6) (c.n 7)) 54)
  have HY2:=Lib.hid (Blk.new w1 54 (cmdC c.k (c.n 1) (c.n 2) (c.n 3) (c.n 4) (c.n 5) (c.n 6) (c.n 7)))
  have HB2:=Lib.hid (HB1.out.trans (hA.mono HB1.out.size))
  clear hA
  go_upto_region 4 with (fail)
  generalize w1.alloc (.cells #[.int .i64 c.k,.int .i64 (c.n 1),.int .i64 (c.n 2),.int .i64 (c.n 3),.int .i64 (c.n 4),.int .i64 (c.n 5),.int .i64 (c.n 6),.int .i64 (c.n 7)] 54)=w2 at *
  have HYW:=Lib.hid HB1.out.size
  generalize w1.heap.size=Y at *
  have x0:w2.cell? ⟨K,0,none⟩=some (.pointer (some ⟨jg,0,none⟩)):=((HK.out.below HB2.out).blk.cell 0).trans rfl
  have HAW:=Lib.hid (HAP.out w2 HB2.out)
  clear HB1 HTK
  go_wp2_with fail
  refine HAW.out.mono ?_
  rintro e w3 ⟨r,rfl,hr0,hr1,hP,v',hj,hkp,hv⟩
  have HS3:=Lib.hid (KdS.jour (P:=P) HK.out HB2.out hj hkp hv)
  have HY3:=Lib.hid (show Blk w3 Y 54 (cmdC c.k (c.n 1) (c.n 2) (c.n 3) (c.n 4) (c.n 5) (c.n 6) (c.n 7)) from (hkp.block Y HY2.out.lt (fun e=>by have:=(JK.lt HK.out.jk).2.1; have:=HYW.out; omega) (fun e=>by have:=(JK.lt HK.out.jk).1; have:=HYW.out; omega) (fun e=>by have:=(JK.lt HK.out.jk).2.2 Y e.symm; have:=HYW.out; omega)).trans HY2.out)
  have HR:=Lib.hid (And.intro hr0 (And.intro hr1 hP))
  clear hr0 hr1 hP hj hkp hv x0 HAW HAP HY2 HB2
  rcases eqs r 0 with ⟨a1,a2,a3⟩ | ⟨a1,a2,a3⟩
  · subst a1
    clear a2 a3
    go_upto_region 7 with (fail)
    have HS4:=Lib.hid (HS3.out.below (Below.refl w3.heap.size w3).drew)
    have HY4:=Lib.hid (show Blk w3.drew Y 54 (cmdC c.k (c.n 1) (c.n 2) (c.n 3) (c.n 4) (c.n 5) (c.n 6) (c.n 7)) from HY3.out)
    have S0:=And.intro ((HS4.out.k.blk.cell 1).trans (show _=some (.pointer (some ⟨q.b,0,none⟩)) from rfl)) (And.intro ((HY4.out.cell 0).trans (show _=some (.int .i64 c.k) from rfl)) (And.intro ((HY4.out.cell 1).trans (show _=some (.int .i64 (c.n 1)) from rfl)) (And.intro ((HY4.out.cell 2).trans (show _=some (.int .i64 (c.n 2)) from rfl)) (And.intro ((HY4.out.cell 3).trans (show _=some (.int .i64 (c.n 3)) from rfl)) (And.intro ((HY4.out.cell 4).trans (show _=some (.int .i64 (c.n 4)) from rfl)) (And.intro ((HY4.out.cell 5).trans (show _=some (.int .i64 (c.n 5)) from rfl)) (And.intro ((HY4.out.cell 6).trans (show _=some (.int .i64 (c.n 6)) from rfl)) ((HY4.out.cell 7).trans (show _=some (.int .i64 (c.n 7)) from rfl)))))))))
    have HDO:=Lib.hid (Bk.bdo HS4.out.k.bk c (HC.out.2 6) (HC.out.2 7))
    have HYq:=Lib.hid (show ¬ q.own s.d.L.n Y from fun ho=>by have:=HK.out.bk.ownlt ho; have:=HYW.out; omega)
    go_region_held3 (fun wx=>wx.cell? ⟨K,1,none⟩=some (.pointer (some ⟨q.b,0,none⟩))∧wx.cell? ⟨Y,0,none⟩=some (.int .i64 c.k)∧wx.cell? ⟨Y,1,none⟩=some (.int .i64 (c.n 1))∧wx.cell? ⟨Y,2,none⟩=some (.int .i64 (c.n 2))∧wx.cell? ⟨Y,3,none⟩=some (.int .i64 (c.n 3))∧wx.cell? ⟨Y,4,none⟩=some (.int .i64 (c.n 4))∧wx.cell? ⟨Y,5,none⟩=some (.int .i64 (c.n 5))∧wx.cell? ⟨Y,6,none⟩=some (.int .i64 (c.n 6))∧wx.cell? ⟨Y,7,none⟩=some (.int .i64 (c.n 7)))
      (first | with_reducible exact S2 | with_reducible exact S1 | exact S0)
      (first
        | (go_at_call 26; refine HDO.out.mono ?_; intro e w5 hpost; obtain ⟨E,V,iv,zs,q',s',rfl,hE0,hE1,hV,hrow,hz,ha,hs,hm,hq⟩:=hpost; obtain ⟨ra,rn,rc,rfl⟩:∃ ra rn rc,iv=.slice ra rn rc:=(by rcases hrow.2 with ⟨rfl,_⟩ | ⟨g,cap,cur,rfl,_⟩; exact ⟨_,_,_,rfl⟩; exact ⟨_,_,_,rfl⟩); have hb5:=HS4.out.bank ha hs hm; have hY5:=blk_bk hs HY4.out HYq.out; have S1:=And.intro ((hb5.k.blk.cell 1).trans (show _=some (.pointer (some ⟨q.b,0,none⟩)) from by rw [← hs.b]; rfl)) (And.intro ((hY5.cell 0).trans (show _=some (.int .i64 c.k) from rfl)) (And.intro ((hY5.cell 1).trans (show _=some (.int .i64 (c.n 1)) from rfl)) (And.intro ((hY5.cell 2).trans (show _=some (.int .i64 (c.n 2)) from rfl)) (And.intro ((hY5.cell 3).trans (show _=some (.int .i64 (c.n 3)) from rfl)) (And.intro ((hY5.cell 4).trans (show _=some (.int .i64 (c.n 4)) from rfl)) (And.intro ((hY5.cell 5).trans (show _=some (.int .i64 (c.n 5)) from rfl)) (And.intro ((hY5.cell 6).trans (show _=some (.int .i64 (c.n 6)) from rfl)) ((hY5.cell 7).trans (show _=some (.int .i64 (c.n 7)) from rfl))))))))); have HRY:=Lib.hid (Bk.kreply (V:=V) hE0 hE1 hz hrow); have HS5:=Lib.hid hb5; have HY5:=Lib.hid hY5; have HQ5:=Lib.hid (And.intro hE0 (And.intro hE1 (And.intro hV (And.intro hz hq)))); have HQB:=Lib.hid hs.b; clear hE0 hE1 hV hrow hz ha hs hm hq hb5 hY5)
        | (go_at_call 36; refine HRY.out.mono ?_; rintro e w6 ⟨rfl,hb6⟩; have HS6:=Lib.hid (HS5.out.below hb6); have hY6:=HY5.out.below hb6; have S2:=And.intro ((HS6.out.k.blk.cell 1).trans (show _=some (.pointer (some ⟨q.b,0,none⟩)) from by rw [← HQB.out]; rfl)) (And.intro ((hY6.cell 0).trans (show _=some (.int .i64 c.k) from rfl)) (And.intro ((hY6.cell 1).trans (show _=some (.int .i64 (c.n 1)) from rfl)) (And.intro ((hY6.cell 2).trans (show _=some (.int .i64 (c.n 2)) from rfl)) (And.intro ((hY6.cell 3).trans (show _=some (.int .i64 (c.n 3)) from rfl)) (And.intro ((hY6.cell 4).trans (show _=some (.int .i64 (c.n 4)) from rfl)) (And.intro ((hY6.cell 5).trans (show _=some (.int .i64 (c.n 5)) from rfl)) (And.intro ((hY6.cell 6).trans (show _=some (.int .i64 (c.n 6)) from rfl)) ((hY6.cell 7).trans (show _=some (.int .i64 (c.n 7)) from rfl))))))))); clear hb6 hY6))
    clear S0 S1 S2
    go_wp2
    go_ret
    exact HS6.out.post ⟨HQ5.out.1,HQ5.out.2.1⟩ HQ5.out.2.2.1 HQ5.out.2.2.2.1 (fun _=>⟨c,HT.out,HQ5.out.2.2.2.2⟩) (fun c' hc' _=>by rw [HT.out] at hc'; injection hc' with hc'; rw [← hc']; exact HQ5.out.2.2.2.2)
  · have HNE:=Lib.hid a1
    have a4:(r != 0)=true:=by simpa using a1
    clear a1 a3
    have HRY:=Lib.hid (Bk.kreply (w:=w3) (B:=0) (E:=r) (V:=0) (zs:=[]) HR.out.1 HR.out.2.1 ids_ok0 (World.ownsRow_nil _ _ _ _))
    go_wp2_with fail
    refine HRY.out.mono ?_
    rintro e w4 ⟨rfl,hb4⟩
    have HS4:=Lib.hid (HS3.out.below hb4)
    clear hb4
    go_wp2
    go_ret
    exact HS4.out.post ⟨HR.out.1,HR.out.2.1⟩ in0 ids_ok0 (fun e=>absurd e HNE.out) (fun _ _ hp=>absurd (hp r HR.out.2.2) HNE.out)
end Go.Proofs.YtgcnnbjbdfgglaaGreat
namespace Go.Proofs.YtgcnnbjbdfgglaaGreat
open Go.RowKit
set_option maxRecDepth 100000 in
theorem Bk.jtext {w:World} {jg g:Nat} {v:Value} (h:J.JAt w jg g v J.Jn.none):Calls Tryz.prog 30 #[.pointer (some ⟨jg,0,none⟩)] w fun e w'=>e=.returned (.tuple #[.string ⟨#[]⟩,.int .i64 0])∧Below w.heap.size w w':=by
 have x1:w.cell? ⟨jg,1,none⟩=some (.string ⟨#[]⟩):=(cell_of_row _ _ 1 _ _ _ h).trans rfl
 have x2:w.cell? ⟨jg,2,none⟩=some (.int .i64 0):=(cell_of_row _ _ 2 _ _ _ h).trans rfl
 clear h
 go_enter Tryz.func30,Tryz.ntmps30
 go_upto_region 1 with (fail)
 go_quiet (fail)
 go_wp2
 go_ret2
 exact ⟨rfl,Bk.bdrew (Below.refl _ _) _⟩
theorem Bk.eqlStrNil (w:World):(binOp .eql 30 (.slice none 0 0) (.slice none 0 0)).run Tryz.prog w=.ok (.bool true) w:=by kernel_rfl
set_option maxRecDepth 100000 in
theorem Bk.cloneStrNil (w:World):Calls Tryz.prog 74 #[.slice none 0 0] w fun e w'=>e=.returned (.slice none 0 0)∧w'=w:=by
 have he:=Bk.eqlStrNil
 go_enter Tryz.func74,Tryz.ntmps74
 go_wp2
 go_ret
 exact ⟨rfl,rfl⟩
set_option maxRecDepth 100000 in
theorem Bk.jrecords {w:World} {jg g:Nat} (h:J.JAt w jg g (.slice none 0 0) J.Jn.none):Calls Tryz.prog 32 #[.pointer (some ⟨jg,0,none⟩)] w fun e w'=>e=.returned (.slice none 0 0)∧w'=w:=by
 have x3:w.cell? ⟨jg,3,none⟩=some (.slice none 0 0):=(cell_of_row _ _ 3 _ _ _ h).trans rfl
 have HC:=Lib.hid (Bk.cloneStrNil w)
 clear h
 go_enter Tryz.func32,Tryz.ntmps32
 go_wp2_with fail
 refine HC.out.mono ?_
 rintro e w1 ⟨rfl,rfl⟩
 go_wp2
 go_ret
 exact ⟨rfl,rfl⟩
set_option maxRecDepth 100000 in
theorem Bk.kbank {w:World} {K:Nat} {q:Qh} {s:Bnk} {g jg B:Nat} {v:Value} {n:Nat} (h:KpAt w K q s g jg B v n):Calls Tryz.prog 10 #[.pointer (some ⟨K,0,none⟩)] w fun e w'=>e=.returned (.pointer (some ⟨q.b,0,none⟩))∧w'=w:=by
 have x1:w.cell? ⟨K,1,none⟩=some (.pointer (some ⟨q.b,0,none⟩)):=(h.blk.cell 1).trans rfl
 clear h
 go_enter Tryz.func10,Tryz.ntmps10
 go_wp2
 go_ret
 exact ⟨rfl,rfl⟩
def KoPost (c:Cf) (g:Nat) (d:J.Dk) (w:World) (e:Ending) (w':World):Prop:=Kept (fun x=>x=g) w w'∧((∃ x:Int,e=.returned (.tuple #[.pointer none,.int .i64 x])∧1≤x∧x≤12∧¬ CfOne c)∨∃ K q s jg B,e=.returned (.tuple #[.pointer (some ⟨K,0,none⟩),.int .i64 0])∧KpAt w' K q s g jg B (.slice none 0 0) 0∧J.Jour w' jg g B (.slice none 0 0) J.Jn.none d∧(∀ x,kown K q s.d.L.n g jg (.slice none 0 0) x→x=g∨w.heap.size≤x)∧BnkNew c s)
theorem KoPost.ok {c:Cf} {g:Nat} {d:J.Dk} {w w2 w5:World} {q:Qh} {s:Bnk} (hd:J.DiskAt w g d) (hb:Below w.heap.size w w2) (ha:BkAt w2 q s) (hq:∀ x,q.own s.d.L.n x→w.heap.size≤x) (ht:J.Two g w2.heap.size w2 w5) (hj:J.Jour w5 w2.heap.size g (w2.heap.size + 1) (.slice none 0 0) J.Jn.none d) (hk:Kept (fun x=>x=g) w w5) (hn:BnkNew c s):KoPost c g d w (.returned (.tuple #[.pointer (some ⟨w5.heap.size,0,none⟩),.int .i64 0])) (w5.alloc (.cells #[.pointer (some ⟨w2.heap.size,0,none⟩),.pointer (some ⟨q.b,0,none⟩)] 107)):=by
 have hA:=(Below.refl w5.heap.size w5).alloc (Nat.le_refl _) (.cells #[.pointer (some ⟨w2.heap.size,0,none⟩),.pointer (some ⟨q.b,0,none⟩)] 107)
 have hgl:=hd.lt
 have hjl:=hj.hj.lt
 have h2:=hb.size
 have hgq:¬ q.own s.d.L.n g:=fun ho=>by have:=hq g ho; omega
 have hjq:¬ q.own s.d.L.n w2.heap.size:=fun ho=>by have:=ha.ownlt ho; omega
 have ha5:BkAt w5 q s:=ha.kept (F:=fun x=>¬ q.own s.d.L.n x) ⟨ht.os,ht.tape,ht.output,ht.size,fun x hx hn=>ht.block x hx (fun e=>by subst e; exact hn hgq) (fun e=>by omega)⟩ (fun x hx hn=>hn hx)
 have hj6:J.Jour (w5.alloc (.cells #[.pointer (some ⟨w2.heap.size,0,none⟩),.pointer (some ⟨q.b,0,none⟩)] 107)) w2.heap.size g (w2.heap.size + 1) (.slice none 0 0) J.Jn.none d:=⟨hj.hj.below hA,hj.hd.below hA,hj.ok,World.ownsRow_nil _ _ _ _⟩
 refine ⟨hk.trans (Kept.of_below hA),.inr ⟨_,q,s,w2.heap.size,w2.heap.size + 1,rfl,⟨Blk.new _ _ _,ha5.below hA,⟨⟨_,_,hj6,by simp [J.Jn.none]⟩,by omega,by omega,by omega,by simp; omega⟩,fun ho=>by have:=ha5.ownlt ho; omega,hgq,hjq,fun x hx=>by simp [Value.ownBlock] at hx,by omega,by omega⟩,hj6,fun x hx=>?_,hn⟩⟩
 rcases hx with e | e | e | e | e
 · exact .inr (by omega)
 · exact .inl e
 · exact .inr (by omega)
 · simp [Value.ownBlock] at e
 · exact .inr (hq x e)
set_option maxRecDepth 100000 in
set_option maxHeartbeats 8000000 in
theorem Bk.kopen {w:World} {c:Cf} (h:CfAt w c) {g:Nat} {d:J.Dk} (hd:J.DiskAt w g d) (ho:d.Ok) (h0:d.b 0=[]) (h1:d.b 1=[]) (h2:d.b 2=[]):Calls Tryz.prog 9 #[.agg c.cells,.pointer (some ⟨g,0,none⟩)] w (KoPost c g d w):=by
 have HH:=Lib.hid h
 have HD:=Lib.hid hd
 have HO:=Lib.hid (And.intro ho (And.intro h0 (And.intro h1 h2)))
 have HB0:=Lib.hid ((Below.refl w.heap.size w).alloc (Nat.le_refl _) (.cells c.cells 29))
 have HX0:=Lib.hid (Blk.new w 29 c.cells)
 clear h hd ho h0 h1 h2
 go_enter Tryz.func9,Tryz.ntmps9
 go_upto_region 1 with (fail)
 generalize w.alloc (.cells #[.slice c.ta c.n c.tc,.slice c.la c.N c.lc,.slice c.na c.nn c.nc,.int .i64 c.cut,.int .i64 c.close,.slice c.da c.dn c.dc] 29)=w1 at *
 obtain ⟨x0,x1,x2,x3,x4,x5⟩:=blk6 HX0.out
 have HBN:=Lib.hid (Bk.bnew (HH.out.below HB0.out))
 go_wp2_with fail
 refine HBN.out.mono ?_
 rintro e w2 ⟨hb2,hor⟩
 have HB2:=Lib.hid (HB0.out.trans (hb2.mono HB0.out.size))
 have HB12:=Lib.hid hb2
 clear hb2 x0 x1 x2 x3 x4 x5 HBN HX0
 rcases hor with ⟨x,rfl,hx1,hx2,hno⟩ | ⟨q,s,rfl,ha,hq,hn⟩
 · have HNO:=Lib.hid hno
   have a4:(x != 0)=true:=by simp; omega
   clear hno
   go_wp2
   go_ret2
   exact ⟨Kept.of_below HB2.out,.inl ⟨x,rfl,hx1,hx2,HNO.out⟩⟩
 · have HA:=Lib.hid ha
   have HQ:=Lib.hid hq
   have HN:=Lib.hid hn
   clear ha hq hn
   have HJO:=Lib.hid (J.open_fresh g d HO.out.1 HO.out.2.1 HO.out.2.2.1 HO.out.2.2.2 w2 (HD.out.below HB2.out))
   go_wp2_with fail
   refine HJO.out.mono ?_
   rintro e w3 ⟨rfl,hj,hd3,ht⟩
   have HT:=Lib.hid ht
   have HJ:=Lib.hid hj
   have HD3:=Lib.hid hd3
   have HTX:=Lib.hid (Bk.jtext hj)
   clear hj hd3 ht HJO
   go_wp2_with fail
   refine HTX.out.mono ?_
   rintro e w4 ⟨rfl,hb4⟩
   have HB4:=Lib.hid hb4
   have HJ4:=Lib.hid (HJ.out.below hb4)
   have HRC:=Lib.hid (Bk.jrecords HJ4.out)
   clear hb4 HTX
   go_wp2_with fail
   refine HRC.out.mono ?_
   rintro e w5 ⟨rfl,rfl⟩
   have hK:Kept (fun x=>x=g) w w5:=by
    have t:=HT.out
    have hgl:=HD.out.lt
    refine ⟨HB4.out.os.trans (t.os.trans HB2.out.os),HB4.out.tape.trans (t.tape.trans HB2.out.tape),HB4.out.output.trans (t.output.trans HB2.out.output),Nat.le_trans HB2.out.size (Nat.le_trans t.size HB4.out.size),fun x hx hn=>?_⟩
    have h1:=HB2.out.size
    have h2:=t.size
    exact (HB4.out.block x (by omega)).trans ((t.block x (by omega) hn (by omega)).trans (HB2.out.block x hx))
   have HK5:=Lib.hid hK
   have HJ5:=Lib.hid (show J.Jour w5 w2.heap.size g (w2.heap.size + 1) (.slice none 0 0) J.Jn.none d from ⟨HJ4.out,HD3.out.below HB4.out,HO.out.1,World.ownsRow_nil _ _ _ _⟩)
   clear hK
   go_wp2
   go_loopw [11,56] (fun l i wr=>l=.slice none 0 0∧i=.int .i64 0∧wr=w5) (fun _ _ _=>0)
   case atStart=>exact ⟨rfl,rfl,rfl⟩
   case round =>
    obtain ⟨rfl,rfl,rfl⟩:=hrel
    go_wp2
    go_loopw [74] (fun i wx=>i=.int .i64 0∧wx=wr) (fun _ _=>0)
    case atStart=>exact ⟨rfl,rfl⟩
    case round =>
     obtain ⟨rfl,rfl⟩:=hrel
     go_wp2
     go_ret2
     exact KoPost.ok HD.out HB2.out HA.out (fun x hx=>Nat.le_trans HB0.out.size (HQ.out x hx)) (HT.out.trans (J.Two.of_below HB4.out)) HJ5.out HK5.out HN.out
end Go.Proofs.YtgcnnbjbdfgglaaGreat
namespace Go.Proofs.YtgcnnbjbdfgglaaGreat
open Go.RowKit
theorem KpAt.ownlt {w:World} {K:Nat} {q:Qh} {s:Bnk} {g jg B:Nat} {v:Value} {n:Nat} (h:KpAt w K q s g jg B v n) {x:Nat} (hx:kown K q s.d.L.n g jg v x):x < w.heap.size:=by
 rcases hx with rfl | rfl | rfl | e | e
 · exact h.blk.lt
 · exact (JK.lt h.jk).2.1
 · exact (JK.lt h.jk).1
 · exact (JK.lt h.jk).2.2 _ e
 · exact h.bk.ownlt e
theorem KpAt.frame {w w':World} {K:Nat} {q:Qh} {s:Bnk} {g jg B:Nat} {v:Value} {n:Nat} (h:KpAt w K q s g jg B v n) {F:Nat→Prop} (hk:Kept F w w') (hF:∀ x,kown K q s.d.L.n g jg v x→¬ F x):KpAt w' K q s g jg B v n:=by
 have hl:=JK.lt h.jk
 have hb:∀ x,kown K q s.d.L.n g jg v x→w'.heap[x]?=w.heap[x]?:=fun x ho=>hk.block x (h.ownlt ho) (hF x ho)
 exact ⟨(hb K (.inl rfl)).trans h.blk,h.bk.kept hk (fun x hx=>hF x (.inr (.inr (.inr (.inr hx))))),JK.frame h.jk hk.size (hb jg (.inr (.inr (.inl rfl)))) (hb g (.inr (.inl rfl))) (fun x hx=>hb x (.inr (.inr (.inr (.inl hx))))),h.kq,h.gq,h.jq,h.vq,h.kg⟩
theorem state_three {B B':Bo} {P:Ent→Prop} (o:B.Ok) (o':B'.Ok) (st:BoStep B B' P) {id:Int} (h:B.state id=3):B'.state id=3:=by
 unfold Bo.state at h
 cases hx:B.ix id with
 | none=>rw [hx] at h; simp at h
 | some i =>
  rw [hx] at h
  obtain ⟨h1,h2⟩:=o.ix2 id i hx
  have hl:=st.old i h1
  have h3:=o'.ix1 i (Nat.lt_of_lt_of_le h1 st.n)
  rw [hl.id,h2] at h3
  unfold Bo.state
  rw [h3]
  exact hl.s3 h
theorem state_of {B:Bo} (o:B.Ok) {i:Nat} (hi:i < B.n):B.state (B.e i).id=(B.e i).st:=by
 unfold Bo.state
 rw [o.ix1 i hi]
theorem get_of {B:Bo} (o:B.Ok) {i:Nat} (hi:i < B.n):B.get (B.e i).id=B.e i:=by
 unfold Bo.get
 rw [o.ix1 i hi]
structure LwS where
  K:Nat
  q:Qh
  s:Bnk
  g:Nat
  jg:Nat
  B:Nat
  v:Value
  n:Nat
  sb:Nat
  fb:Nat
  C:Nat
  nS:Nat
  nF:Nat
  FS:Int→Option Value
  FF:Int→Option Value
def LwS.own (l:LwS) (x:Nat):Prop:=kown l.K l.q l.s.d.L.n l.g l.jg l.v x
structure LwAt (c:Cf) (w0 w:World) (l:LwS):Prop where
  kp:KpAt w l.K l.q l.s l.g l.jg l.B l.v l.n
  kl:∀ x,l.own x→w0.heap.size≤x
  set:IMap w l.sb l.nS (.bool false) l.FS
  fai:IMap w l.fb l.nF (.bool false) l.FF
  cfg:Blk w l.C 29 c.cells
  sn:¬ l.own l.sb
  fn:¬ l.own l.fb
  cn:¬ l.own l.C
  ne:l.sb ≠ l.fb
  s0:w0.heap.size≤l.sb
  f0:w0.heap.size≤l.fb
  c0:w0.heap.size≤l.C
  bel:Below w0.heap.size w0 w
  done:∀ id,l.FS id ≠ none→l.s.B.state id=3
  gone:∀ m v,l.FF m=some v→∃ M:Nat,m=M∧l.s.fl M=true
  N:l.s.N=c.N
  t:l.s.d.t.n=c.n
theorem LwAt.below {c:Cf} {w0 w w':World} {l:LwS} (h:LwAt c w0 w l) (hb:Below w.heap.size w w'):LwAt c w0 w' l :=
 ⟨h.kp.below hb,h.kl,h.set.below hb,h.fai.below hb,h.cfg.below hb,h.sn,h.fn,h.cn,h.ne,h.s0,h.f0,h.c0,h.bel.trans (hb.mono h.bel.size),h.done,h.gone,h.N,h.t⟩
theorem LwAt.cne {c:Cf} {w0 w:World} {l:LwS} (h:LwAt c w0 w l):l.C ≠ l.sb∧l.C ≠ l.fb:=⟨h.set.ne ⟨_,h.cfg⟩,h.fai.ne ⟨_,h.cfg⟩⟩
theorem LwAt.step {c:Cf} {w0 w w':World} {l:LwS} (h:LwAt c w0 w l) {q':Qh} {s':Bnk} {v':Value} {n':Nat} (hk:KpAt w' l.K q' s' l.g l.jg l.B v' n') (hm:BnkSt l.s s') (hp:Kept (kown l.K l.q l.s.d.L.n l.g l.jg l.v) w w')
    (ho:∀ x,kown l.K q' l.s.d.L.n l.g l.jg v' x→kown l.K l.q l.s.d.L.n l.g l.jg l.v x∨w.heap.size≤x):LwAt c w0 w' { l with q:=q',s:=s',v:=v',n:=n' }:=by
 have hown:∀ x,LwS.own { l with q:=q',s:=s',v:=v',n:=n' } x→l.own x∨w.heap.size≤x:=fun x hx=>by
  unfold LwS.own at hx
  dsimp only at hx
  rw [hm.L] at hx
  exact ho x hx
 have hno:∀ x,x < w.heap.size→¬ l.own x→¬ LwS.own { l with q:=q',s:=s',v:=v',n:=n' } x:=fun x hx hn hy=>by
  rcases hown x hy with e | e
  · exact hn e
  · omega
 have hsz:=h.bel.size
 refine ⟨hk,fun x hx=>?_,h.set.same (hp.block _ h.set.lt h.sn),h.fai.same (hp.block _ h.fai.lt h.fn),(hp.block _ h.cfg.lt h.cn).trans h.cfg,hno _ h.set.lt h.sn,hno _ h.fai.lt h.fn,hno _ h.cfg.lt h.cn,h.ne,h.s0,h.f0,h.c0,⟨hp.os.trans h.bel.os,hp.tape.trans h.bel.tape,hp.output.trans h.bel.output,Nat.le_trans h.bel.size hp.size,fun x hx=>?_⟩,
   fun id hid=>state_three h.kp.bk.ps.bo.ok hk.bk.ps.bo.ok hm.bo (h.done id hid),fun m v hv=>?_,hm.N.trans h.N,hm.t.trans h.t⟩
 · rcases hown x hx with e | e
   · exact h.kl x e
   · omega
 · exact (hp.block x (by omega) (fun e=>by have:=h.kl x e; omega)).trans (h.bel.block x hx)
 · obtain ⟨M,h1,h2⟩:=h.gone m v hv
   exact ⟨M,h1,hm.fl M h2⟩
theorem kept_row {w w':World} {mb:Nat} (hg:w.grownBy w' (some mb)):Kept (fun x=>x=mb) w w':=⟨hg.os,hg.tape,hg.output,hg.size,fun k hk hn=>hg.block k hk (fun e=>hn (by injection e))⟩
theorem LwAt.mark {c:Cf} {w0 w w':World} {l:LwS} (h:LwAt c w0 w l) {id:Int} {n':Nat} (hm:IMap w' l.sb n' (.bool false) (fun i=>if i=id then some (.bool true) else l.FS i)) (hg:w.grownBy w' (some l.sb)) (hs:l.s.B.state id=3) :
    LwAt c w0 w' { l with nS:=n',FS:=fun i=>if i=id then some (.bool true) else l.FS i }:=by
 have hk:=kept_row hg
 refine ⟨h.kp.frame hk (fun x hx e=>h.sn (e ▸ hx)),h.kl,hm,h.fai.same (hk.block _ h.fai.lt (fun e=>h.ne e.symm)),(hk.block _ h.cfg.lt h.cne.1).trans h.cfg,h.sn,h.fn,h.cn,h.ne,h.s0,h.f0,h.c0,h.bel.grown hg h.bel.size (fun j hj=>by cases hj; exact h.s0),fun i hi=>?_,h.gone,h.N,h.t⟩
 by_cases e:i=id
 · rw [e]; exact hs
 · dsimp only at hi
   rw [if_neg e] at hi
   exact h.done i hi
theorem LwAt.fail {c:Cf} {w0 w w':World} {l:LwS} (h:LwAt c w0 w l) {m:Int} {n':Nat} (hm:IMap w' l.fb n' (.bool false) (fun i=>if i=m then some (.bool true) else l.FF i)) (hg:w.grownBy w' (some l.fb)) (hs:∃ M:Nat,m=M∧l.s.fl M=true) :
    LwAt c w0 w' { l with nF:=n',FF:=fun i=>if i=m then some (.bool true) else l.FF i }:=by
 have hk:=kept_row hg
 refine ⟨h.kp.frame hk (fun x hx e=>h.fn (e ▸ hx)),h.kl,h.set.same (hk.block _ h.set.lt h.ne),hm,(hk.block _ h.cfg.lt h.cne.2).trans h.cfg,h.sn,h.fn,h.cn,h.ne,h.s0,h.f0,h.c0,h.bel.grown hg h.bel.size (fun j hj=>by cases hj; exact h.f0),h.done,fun i v hi=>?_,h.N,h.t⟩
 by_cases e:i=m
 · rw [e]; exact hs
 · dsimp only at hi
   rw [if_neg e] at hi
   exact h.gone i v hi
theorem LwAt.waits {c:Cf} {w0 w:World} {l:LwS} (h:LwAt c w0 w l) {i:Nat} (hi:i < l.s.B.n) (hs:(l.s.B.e i).st < 3):(l.FF (l.s.B.e i).a).getD (.bool false)=.bool false∧(l.FF (l.s.B.e i).b).getD (.bool false)=.bool false:=by
 have hg:=h.kp.bk.gone i hi
 constructor
 · cases hf:l.FF (l.s.B.e i).a with
   | none=>rfl
   | some v =>
    obtain ⟨M,h1,h2⟩:=h.gone _ _ hf
    have:=hg (.inl (by rw [h1,Int.toNat_natCast]; exact h2))
    omega
 · cases hf:l.FF (l.s.B.e i).b with
   | none=>rfl
   | some v =>
    obtain ⟨M,h1,h2⟩:=h.gone _ _ hf
    have:=hg (.inr (by rw [h1,Int.toNat_natCast]; exact h2))
    omega
end Go.Proofs.YtgcnnbjbdfgglaaGreat
namespace Go.Proofs.YtgcnnbjbdfgglaaGreat
open Go.RowKit
set_option maxRecDepth 100000 in
theorem Bk.lown (c:Cf) (w:World):Calls Tryz.prog 6 #[.agg c.cells] w fun e w'=>e=.returned (.agg c.cells)∧Below w.heap.size w w':=by
 have hx:=Blk.new w 29 c.cells
 have hA:=(Below.refl w.heap.size w).alloc (Nat.le_refl _) (.cells c.cells 29)
 have HX:=Lib.hid (hx.alloc (.cells #[.slice none 0 0,.slice none 0 0,.slice none 0 0,.int .i64 0,.int .i64 0,.slice none 0 0] 35))
 have HB:=Lib.hid (hA.alloc (by simp) (.cells #[.slice none 0 0,.slice none 0 0,.slice none 0 0,.int .i64 0,.int .i64 0,.slice none 0 0] 35))
 clear hx hA
 go_enter Tryz.func6,Tryz.ntmps6
 go_upto_region 1 with (fail)
 have hR:=Blk.new (w.alloc (.cells c.cells 29)) 35 #[.slice none 0 0,.slice none 0 0,.slice none 0 0,.int .i64 0,.int .i64 0,.slice none 0 0]
 rw [World.size_alloc] at hR
 have HR:=Lib.hid hR
 clear hR
 generalize ((w.alloc (.cells #[.slice c.ta c.n c.tc,.slice c.la c.N c.lc,.slice c.na c.nn c.nc,.int .i64 c.cut,.int .i64 c.close,.slice c.da c.dn c.dc] 29)).alloc (.cells #[.slice none 0 0,.slice none 0 0,.slice none 0 0,.int .i64 0,.int .i64 0,.slice none 0 0] 35))=w1 at *
 obtain ⟨x0,x1,x2,x3,x4,x5⟩:=blk6 HX.out
 have r0:=(HR.out.cell 0).trans (show _=some (.slice none 0 0) from rfl)
 have r1:=(HR.out.cell 1).trans (show _=some (.slice none 0 0) from rfl)
 have r2:=(HR.out.cell 2).trans (show _=some (.slice none 0 0) from rfl)
 have r3:=(HR.out.cell 3).trans (show _=some (.int .i64 0) from rfl)
 have r4:=(HR.out.cell 4).trans (show _=some (.int .i64 0) from rfl)
 have r5:=(HR.out.cell 5).trans (show _=some (.slice none 0 0) from rfl)
 have f0:=HR.out.frozen 0
 have f1:=HR.out.frozen 1
 have f2:=HR.out.frozen 2
 have f3:=HR.out.frozen 3
 have f4:=HR.out.frozen 4
 have f5:=HR.out.frozen 5
 go_wp2
 have hF:=HR.out.set 0 (.slice c.ta c.n c.tc) |>.set 1 (.slice c.la c.N c.lc) |>.set 2 (.slice c.na c.nn c.nc) |>.set 3 (.int .i64 c.cut) |>.set 4 (.int .i64 c.close) |>.set 5 (.slice c.da c.dn c.dc)
 have hF2:Blk _ (w.heap.size + 1) 35 c.cells:=hF
 exact bodyPost_ret (results_row1 rfl _ _ _ (w.heap.size + 1) _ _ rfl hF2.range Tryz.underlying35 rfl (by kernel_rfl)) rfl ⟨rfl,(((((HB.out.setCell (by simp) _).setCell (by simp) _).setCell (by simp) _).setCell (by simp) _).setCell (by simp) _).setCell (by simp) _⟩
end Go.Proofs.YtgcnnbjbdfgglaaGreat
