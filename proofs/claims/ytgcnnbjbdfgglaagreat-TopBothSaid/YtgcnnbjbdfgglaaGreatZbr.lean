/- LAW TopBoth: of every configuration of a bank and every list of byte strings the given function TopBoth returns true and leaves its arguments as they were; no condition. A part of what it needs. -/
import Derived.Test.YtgcnnbjbdfgglaaGreatZbp
import Derived.Test.YtgcnnbjbdfgglaaGreatZbq
import Derived.Deep.Slices
namespace Go.Proofs.YtgcnnbjbdfgglaaGreat
open Go.RowKit
def SlS (w:World) (v:Value) (n:Nat) (f:Nat→List UInt8):Prop:=SlC w v n fun i=>.string ⟨(f i).toArray⟩
def LaPost (n:Nat) (f:Nat→List UInt8) (w:World) (e:Ending) (w':World):Prop:=∃ b:Bool,e=.returned (.bool b)∧w'=w∧(b=false→n≤40∧∀ i,i < n→(f i).length≤4000)
set_option maxRecDepth 100000 in
set_option maxHeartbeats 4000000 in
theorem Bk.llarge {w:World} {a:Option Addr} {cap n:Nat} {f:Nat→List UInt8} (h:SlS w (.slice a n cap) n f) (hn:(n:Int)≤140737488355328) (hf:∀ i,i < n→((f i).length:Int)≤140737488355328):Calls Tryz.prog 7 #[.slice a n cap] w (LaPost n f w):=by
 have HH:=Lib.hid h
 have HF:=Lib.hid hf
 clear h hf
 go_enter Tryz.func7,Tryz.ntmps7
 go_wp2
 go_loopw [3,4] (fun t i wr=>∃ (k tn:Nat),k≤n∧i=.int .i64 k∧t=.int .i64 tn∧(tn:Int)≤140737488359328 + 1∧Hid (∀ j,j < k→(f j).length≤tn)∧wr=w) (fun _ i _=>n - (intOf i).toNat)
 case atStart=>exact ⟨0,0,by omega,rfl,rfl,by omega,Lib.hid (fun j hj=>by omega),rfl⟩
 case round =>
  obtain ⟨k,tn,hk,rfl,rfl,ht,HK,rfl⟩:=hrel
  have HE:=Lib.hid (show ∀ b:Bool,(b=false→n≤40∧k=n∧tn≤4000)→LaPost n f wr (.returned (.bool b)) wr from fun b hb=>⟨b,rfl,rfl,fun h=>⟨(hb h).1,fun i hi=>Nat.le_trans (HK.out i (by have:=(hb h).2.1; omega)) (hb h).2.2⟩⟩)
  by_cases hlt:k < n
  · have q1:(k:Int) < (n:Int):=by omega
    by_cases h4:tn≤4000
    · have d1:decide ((tn:Int)≤4000)=true:=decide_eq_true (by omega)
      have d1':decide (tn≤4000)=true:=decide_eq_true h4
      obtain ⟨a',c',he,hc⟩:=HH.out
      obtain ⟨b,o,hab,hc⟩:=hc (by omega)
      have ha:a=some ⟨b,o,none⟩:=by injection he with e1; rw [e1,hab]
      subst ha
      have c1:wr.cell? ⟨b,o + k,none⟩=some (.string ⟨(f k).toArray⟩):=hc k hlt
      have hl:=HF.out k hlt
      have HK2:=Lib.hid (show ∀ j,j < k + 1→(f j).length≤tn + ((f k).length + 1) from fun j hj=>by
       by_cases e:j=k
       · subst e; omega
       · have:=HK.out j (by omega); omega)
      have hw1:wrap64 (((f k).length:Int) + 1)=((f k).length:Int) + 1:=Bk.wrap_in (by unfold In64; omega)
      have hw2:wrap64 ((tn:Int) + (((f k).length:Int) + 1))=(tn:Int) + (((f k).length:Int) + 1):=Bk.wrap_in (by unfold In64; omega)
      have HT4:=Lib.hid h4
      clear he hab hc h4
      generalize f k=s at *
      go_wp2
      go_roundw
      case rel=>exact ⟨k + 1,tn + (s.length + 1),by omega,by go_num,by go_num,by have:=HT4.out; omega,HK2,trivial⟩
      case measure=>simp [intOf]; omega
    · have d1:decide ((tn:Int)≤4000)=false:=decide_eq_false (by omega)
      have d1':decide (tn≤4000)=false:=decide_eq_false h4
      have d2:decide ((4000:Int) < (tn:Int))=true:=decide_eq_true (by omega)
      have d2':decide (4000 < tn)=true:=decide_eq_true (by omega)
      by_cases h40:40 < n
      · have d3:decide ((40:Int) < (n:Int))=true:=decide_eq_true (by omega)
        have d3':decide (40 < n)=true:=decide_eq_true h40
        clear h4 h40
        go_wp2
        go_ret
        exact HE.out true (by simp)
      · have d3:decide ((40:Int) < (n:Int))=false:=decide_eq_false (by omega)
        have d3':decide (40 < n)=false:=decide_eq_false h40
        clear h4 h40
        go_wp2
        go_ret
        exact HE.out true (by simp)
  · have hkn:k=n:=by omega
    subst hkn
    by_cases h40:40 < k
    · have d3:decide ((40:Int) < (k:Int))=true:=decide_eq_true (by omega)
      have d3':decide (40 < k)=true:=decide_eq_true h40
      clear h40
      go_wp2
      go_ret
      exact HE.out true (by simp)
    · have d3:decide ((40:Int) < (k:Int))=false:=decide_eq_false (by omega)
      have d3':decide (40 < k)=false:=decide_eq_false h40
      have HN:=Lib.hid h40
      by_cases h4:tn≤4000
      · have d2:decide ((4000:Int) < (tn:Int))=false:=decide_eq_false (by omega)
        have d2':decide (4000 < tn)=false:=decide_eq_false (by omega)
        have HT:=Lib.hid h4
        clear h40 h4
        go_wp2
        go_ret
        exact HE.out false (fun _=>⟨by have:=HN.out; omega,by first | rfl | trivial,HT.out⟩)
      · have d2:decide ((4000:Int) < (tn:Int))=true:=decide_eq_true (by omega)
        have d2':decide (4000 < tn)=true:=decide_eq_true (by omega)
        clear h40 h4
        go_wp2
        go_ret
        exact HE.out true (by simp)
end Go.Proofs.YtgcnnbjbdfgglaaGreat
namespace Go.Proofs.YtgcnnbjbdfgglaaGreat
open Go.ChangeShapes Go.WideShapes Go.ChangeAt Go.RowKit Go.Deep
theorem cells_cur:Tryz.prog.cellsOf 82=3:=by kernel_rfl
theorem cells_lim:Tryz.prog.cellsOf 84=2:=by kernel_rfl
theorem cells_cfg:Tryz.prog.cellsOf 29=6:=by kernel_rfl
theorem cells_day:Tryz.prog.cellsOf 27=3:=by kernel_rfl
theorem cells_i:Tryz.prog.cellsOf 3=1:=by kernel_rfl
theorem cells_i64:Tryz.prog.cellsOf 2=1:=by kernel_rfl
theorem cells_s:Tryz.prog.cellsOf 9=1:=by kernel_rfl
theorem cells_s64:Tryz.prog.cellsOf 70=1:=by kernel_rfl
theorem cells_si:Tryz.prog.cellsOf 25=1:=by kernel_rfl
theorem cells_sc:Tryz.prog.cellsOf 22=1:=by kernel_rfl
theorem cells_sl:Tryz.prog.cellsOf 23=1:=by kernel_rfl
theorem cells_ss:Tryz.prog.cellsOf 24=1:=by kernel_rfl
theorem bytes_s:Tryz.prog.bytesOf 9=16:=by kernel_rfl
theorem wf_in64 {n:Int} (h:(Lit.int .i64 n).wf=true):In64 n:=by
 simp [Lit.wf] at h
 unfold In64
 have:IntKind.i64.min=-9223372036854775808:=rfl
 omega
theorem SlK.ext {w:World} {v:Value} {K n:Nat} {f g:Nat→Nat→Value} (h:SlK w v K n f) (he:∀ i j,i < n→j < K→f i j=g i j):SlK w v K n g:=by
 obtain ⟨a,c,rfl,hc⟩:=h
 refine ⟨a,c,rfl,fun hn=>?_⟩
 obtain ⟨b,o,rfl,h2⟩:=hc hn
 exact ⟨b,o,rfl,fun i j hi hj=>by rw [← he i j hi hj]; exact h2 i j hi hj⟩
section
variable {H:Type} {enc:TypeId × Value→H} {w:World} {held:Bool}
theorem open_nums {t e:TypeId} (ht:Tryz.prog.underlying t=some (.slice e)) (he:Tryz.prog.underlying e=some (.int .i64)) (hc:Tryz.prog.cellsOf e=1) {fuel:Nat} {cs:List Value} {x:DataW H × List MemPlace} (h:DataW.trod enc Tryz.prog w 0 (fun _=>true) held fuel t cs=some x) :
    ∃ v n f,cs=[v]∧n≤maxLen∧SlI w v n f∧∀ j,j < n→In64 (f j):=by
 rcases open_ints ht he hc h with ⟨rfl,_⟩ | ⟨a,len,cap,zs,rfl,_,hl,hm,hz,_,hcell,hwf⟩
 · exact ⟨_,0,fun _=>0,rfl,Nat.zero_le _,⟨none,0,rfl,fun h=>absurd h (by omega)⟩,fun j hj=>by omega⟩
 · simp only [if_true] at hz
   refine ⟨_,len,fun i=>zs.getD i 0,rfl,by omega,⟨some a,cap,rfl,fun hp=>?_⟩,fun j hj=>?_⟩
   · obtain ⟨b,off,spot⟩:=a
     have hspot:spot=none:=by simpa [Addr.add] using World.cell?_spot (hcell 0 (by omega))
     subst hspot
     refine ⟨b,off,rfl,fun i hi=>?_⟩
     have:=hcell i (by omega)
     rw [WideShapes.add_plain] at this
     exact this
   · have hj':j < zs.length:=by omega
     exact wf_in64 (hwf (zs.getD j 0) (by rw [List.getD_eq_getElem?_getD,List.getElem?_eq_getElem hj']; exact List.getElem_mem hj'))
theorem open_rows {t e:TypeId} {K:Nat} (hK:0 < K) (ht:Tryz.prog.underlying t=some (.slice e)) (hc:Tryz.prog.cellsOf e=K) {α:Type} [Inhabited α] {C:α→List Value} {Q:α→Prop} (hlen:∀ y,(C y).length=K)
    (hopen:∀ fuel cs x,DataW.trod enc Tryz.prog w 0 (fun _=>true) held fuel e cs=some x→∃ y,cs=C y∧Q y) {fuel:Nat} {cs:List Value} {x:DataW H × List MemPlace} (h:DataW.trod enc Tryz.prog w 0 (fun _=>true) held fuel t cs=some x) :
    ∃ v n,∃ q:Nat→α,cs=[v]∧n≤maxLen∧SlK w v K n (fun i j=>(C (q i)).getD j (.int .i64 0))∧∀ i,i < n→Q (q i):=by
 rcases Deep.open_slice ht h with ⟨rfl,_⟩ | ⟨a,len,cap,m,n,D,Pl,rfl,_,hl,hm,hmm,_,hel⟩
 · exact ⟨_,0,fun _=>default,rfl,Nat.zero_le _,⟨none,0,rfl,fun h=>absurd h (by omega)⟩,fun j hj=>by omega⟩
 · simp only [if_true] at hmm
   subst hmm
   rw [hc] at hel
   have each:∀ i,i < len→∃ y:α,w.cells? 0 (a.add (i * K)) K=some (C y)∧Q y:=fun i hi=>by
    obtain ⟨cs',h1,h2⟩:=hel i (by omega)
    obtain ⟨y,rfl,hy⟩:=hopen _ _ _ h2
    exact ⟨y,h1,hy⟩
   obtain ⟨q,hq⟩:=choose_lt each
   refine ⟨_,len,q,rfl,by omega,⟨some a,m,rfl,fun hp=>?_⟩,fun i hi=>(hq i hi).2⟩
   obtain ⟨b,off,spot⟩:=a
   have hcl:∀ i j,i < len→j < K→w.cell? (((⟨b,off,spot⟩:Addr).add (i * K)).add j)=some ((C (q i)).getD j (.int .i64 0)):=fun i j hi hj=>by
    obtain ⟨_,_,hcc⟩:=World.cells?_some (hq i hi).1
    have h1:=hcc j hj
    have hjl:j < (C (q i)).length:=by rw [hlen]; exact hj
    rw [List.getD_eq_getElem?_getD,List.getElem?_eq_getElem hjl,Option.getD_some]
    rw [List.getElem?_eq_getElem hjl] at h1
    exact h1
   have hspot:spot=none:=by simpa [Addr.add] using World.cell?_spot (hcl 0 0 hp hK)
   subst hspot
   refine ⟨b,off,rfl,fun i j hi hj=>?_⟩
   have:=hcl i j hi hj
   rw [WideShapes.add_plain,WideShapes.add_plain,Nat.add_assoc] at this
   exact this
set_option maxRecDepth 100000 in
theorem open_cur {fuel:Nat} {cs:List Value} {x:DataW H × List MemPlace} (h:DataW.trod enc Tryz.prog w 0 (fun _=>true) held fuel 82 cs=some x):∃ y:ByteArray × Int × Int,cs=[.string y.1,.int .i64 y.2.1,.int .i64 y.2.2]∧True:=by
 obtain ⟨xs,m,_,hx,hl,hxl,hf⟩:=DataW.trod_struct Tryz.underlying82 h
 rw [cells_cur] at hl
 match cs,hl,xs,hxl with
 | [v0,v1,v2],_,[y0,y1,y2],_ =>
  have g0:=hf 0 _ rfl
  have g1:=hf 1 _ rfl
  have g2:=hf 2 _ rfl
  simp [cells_i64,cells_s] at g0 g1 g2
  obtain ⟨s,e0,_,_⟩:=DataW.trod_string Tryz.underlying9 g0
  obtain ⟨n1,e1,_,w1⟩:=DataW.trod_int Tryz.underlying2 g1
  obtain ⟨n2,e2,_,w2⟩:=DataW.trod_int Tryz.underlying2 g2
  simp only [List.cons.injEq,and_true] at e0 e1 e2
  subst e0 e1 e2
  exact ⟨(s,n1,n2),rfl,trivial⟩
set_option maxRecDepth 100000 in
theorem open_lim {fuel:Nat} {cs:List Value} {x:DataW H × List MemPlace} (h:DataW.trod enc Tryz.prog w 0 (fun _=>true) held fuel 84 cs=some x):∃ y:Value × Nat × (Nat→Int) × Int,cs=[y.1,.int .i64 y.2.2.2]∧(SlI w y.1 y.2.1 y.2.2.1∧In64 y.2.2.2∧∀ j,j < y.2.1→In64 (y.2.2.1 j)):=by
 obtain ⟨xs,m,_,hx,hl,hxl,hf⟩:=DataW.trod_struct Tryz.underlying84 h
 rw [cells_lim] at hl
 match cs,hl,xs,hxl with
 | [v0,v1],_,[y0,y1],_ =>
  have g0:=hf 0 _ rfl
  have g1:=hf 1 _ rfl
  simp [cells_i64,cells_s64] at g0 g1
  obtain ⟨v,n,f,e0,_,hs,hfn⟩:=open_nums Tryz.underlying70 Tryz.underlying2 cells_i64 g0
  obtain ⟨n1,e1,_,w1⟩:=DataW.trod_int Tryz.underlying2 g1
  simp only [List.cons.injEq,and_true] at e0 e1
  subst e0 e1
  exact ⟨(v0,n,f,n1),rfl,hs,wf_in64 w1,hfn⟩
theorem open_line {fuel:Nat} {cs:List Value} {x:DataW H × List MemPlace} (h:DataW.trod enc Tryz.prog w 0 (fun _=>true) held fuel 70 cs=some x):∃ y:Value × Nat × (Nat→Int),cs=[y.1]∧(SlI w y.1 y.2.1 y.2.2∧∀ j,j < y.2.1→In64 (y.2.2 j)):=by
 obtain ⟨v,n,f,rfl,_,hs,hf⟩:=open_nums Tryz.underlying70 Tryz.underlying2 cells_i64 h
 exact ⟨(v,n,f),rfl,hs,hf⟩
def CfLen (c:Cf):Prop:=(c.n:Int)≤9223372036854775807∧(c.N:Int)≤9223372036854775807∧(c.nn:Int)≤9223372036854775807∧(c.dn:Int)≤9223372036854775807
theorem len_int {n:Nat} (h:n≤maxLen):(n:Int)≤9223372036854775807:=by
 unfold maxLen at h
 omega
instance:Inhabited Value:=⟨.int .i64 0⟩
set_option maxRecDepth 100000 in
theorem open_config {base:Nat} {v:Value} {d:DataW H} {p:List MemPlace} (hv:Value.okWide Tryz.prog w .any base 29 v) (h:DataW.Trod enc Tryz.prog w 0 (fun _=>true) true 29 v d p):∃ c:Cf,v=.agg c.cells∧CfAt w c∧CfLen c:=by
 obtain ⟨cs,rfl,_⟩:=okWide_struct Tryz.underlying29 hv
 obtain ⟨fuel,hf⟩:=h
 obtain ⟨xs,m,_,hx,hl,hxl,hf⟩:=DataW.trod_struct Tryz.underlying29 hf
 rw [cells_cfg] at hl
 obtain ⟨cs⟩:=cs
 simp only [Value.cells] at hl hf
 match cs,hl,xs,hxl with
 | [v0,v1,v2,v3,v4,v5],_,[y0,y1,y2,y3],_ =>
  have g0:=hf 0 _ rfl
  have g1:=hf 1 _ rfl
  have g2:=hf 2 _ rfl
  have g3:=hf 3 _ rfl
  simp [cells_sc,cells_sl,cells_ss,cells_day] at g0 g1 g2 g3
  obtain ⟨v0',n,q0,e0,l0,s0,_⟩:=open_rows (by omega) Tryz.underlying22 cells_cur (C:=fun y:ByteArray × Int × Int=>[.string y.1,.int .i64 y.2.1,.int .i64 y.2.2]) (Q:=fun _=>True) (fun _=>rfl) (fun _ _ _ h=>open_cur h) g0
  obtain ⟨v1',N,q1,e1,l1,s1,h1⟩:=open_rows (by omega) Tryz.underlying23 cells_lim (C:=fun y:Value × Nat × (Nat→Int) × Int=>[y.1,.int .i64 y.2.2.2]) (Q:=fun y=>SlI w y.1 y.2.1 y.2.2.1∧In64 y.2.2.2∧∀ j,j < y.2.1→In64 (y.2.2.1 j)) (fun _=>rfl) (fun _ _ _ h=>open_lim h) g1
  obtain ⟨v2',nn,q2,e2,l2,s2,h2⟩:=open_rows (by omega) Tryz.underlying24 cells_s64 (C:=fun y:Value × Nat × (Nat→Int)=>[y.1]) (Q:=fun y=>SlI w y.1 y.2.1 y.2.2∧∀ j,j < y.2.1→In64 (y.2.2 j)) (fun _=>rfl) (fun _ _ _ h=>open_line h) g2
  obtain ⟨xs3,m3,_,_,_,hxl3,hf3⟩:=DataW.trod_struct Tryz.underlying27 g3
  simp only [List.cons.injEq,and_true] at e0 e1 e2
  subst e0 e1 e2
  match xs3,hxl3 with
  | [z0,z1,z2],_ =>
   have k0:=hf3 0 _ rfl
   have k1:=hf3 1 _ rfl
   have k2:=hf3 2 _ rfl
   simp [cells_i,cells_si] at k0 k1 k2
   obtain ⟨cut,e3,_,_⟩:=DataW.trod_int Tryz.underlying3 k0
   obtain ⟨close,e4,_,_⟩:=DataW.trod_int Tryz.underlying3 k1
   obtain ⟨v5',dn,fd,e5,l5,s5,_⟩:=open_nums Tryz.underlying25 Tryz.underlying3 cells_i k2
   simp only [List.cons.injEq,and_true] at e3 e4 e5
   subst e3 e4 e5
   have S0:=s0
   have S1:=s1
   have S2:=s2
   have S5:=s5
   obtain ⟨ta,tc,rfl,_⟩:=s0
   obtain ⟨la,lc,rfl,_⟩:=s1
   obtain ⟨na,nc,rfl,_⟩:=s2
   obtain ⟨da,dc,rfl,_⟩:=s5
   refine ⟨⟨ta,n,tc,la,N,lc,na,nn,nc,cut,close,da,dn,dc,fun i=>(q0 i).1,fun i=>(q0 i).2.1,fun i=>(q0 i).2.2,fun i=>(q1 i).1,fun i=>(q1 i).2.1,fun i=>(q1 i).2.2.1,fun i=>(q1 i).2.2.2,fd⟩,rfl,
     ⟨S0.ext fun i j _ hj=>?_,⟨S1.ext fun i j _ hj=>?_,fun i hi=>h1 i hi⟩,⟨fun i=>(q2 i).1,S2.ext fun i j _ hj=>?_,fun i hi=>⟨_,_,h2 i hi⟩⟩,S5⟩,len_int l0,len_int l1,len_int l2,len_int l5⟩
   · have:j=0∨j=1∨j=2:=by omega
     rcases this with rfl | rfl | rfl <;> rfl
   · have:j=0∨j=1:=by omega
     rcases this with rfl | rfl <;> rfl
   · obtain rfl:j=0:=by omega
     rfl
theorem weightsAll_mem {P:Program} {e:TypeId} {d:DataW H} {n:Nat}:∀ {ds:List (DataW H)},d ∈ ds→n ∈ d.weights P e→n ∈ DataW.weightsAll P e ds
  | [],h,_=>by simp at h
  | d0 :: ds,h,hn=>by
   simp only [DataW.weightsAll,List.mem_append]
   rcases List.mem_cons.1 h with rfl | h
   · exact .inl hn
   · exact .inr (weightsAll_mem h hn)
set_option maxRecDepth 100000 in
theorem open_list {base:Nat} {v:Value} {d:DataW H} {p:List MemPlace} (hv:Value.okWide Tryz.prog w .any base 30 v) (h:DataW.Trod enc Tryz.prog w 0 (fun _=>true) true 30 v d p)
    (hw:∀ n ∈ d.weights Tryz.prog 30,n≤reachBytes):∃ n f,SlS w v n f∧(n:Int)≤140737488355328∧∀ i,i < n→((f i).length:Int)≤140737488355328:=by
 have hR:reachBytes≤140737488355328:=by decide +kernel
 generalize reachBytes=R at *
 obtain ⟨a0,len0,cap0,rfl⟩:=okWide_slice Tryz.underlying30 hv
 obtain ⟨fuel,hf⟩:=h
 rcases open_strings Tryz.underlying30 Tryz.underlying9 cells_s hf with ⟨hcs,hx⟩ | ⟨a,len,cap,ss,hcs,_,hl,hm,hz,hx,hcell,hws⟩
 · simp [Value.cells] at hcs
   obtain ⟨rfl,rfl,rfl⟩:=hcs
   exact ⟨0,fun _=>[],⟨none,0,rfl,fun h=>absurd h (by omega)⟩,by omega,fun i hi=>by omega⟩
 · simp [Value.cells] at hcs
   obtain ⟨rfl,rfl,rfl⟩:=hcs
   simp only [Prod.mk.injEq] at hx
   obtain ⟨rfl,_⟩:=hx
   simp only [if_true] at hz
   refine ⟨len0,fun i=>(ss.getD i ByteArray.empty).data.toList,⟨some a,cap0,rfl,fun hp=>?_⟩,?_,fun i hi=>?_⟩
   · obtain ⟨b,off,spot⟩:=a
     have hspot:spot=none:=by simpa [Addr.add] using World.cell?_spot (hcell 0 (by omega))
     subst hspot
     refine ⟨b,off,rfl,fun j hj=>?_⟩
     have:=hcell j (by omega)
     rw [WideShapes.add_plain] at this
     rw [this]
   · have h1:=hw _ (by simp only [DataW.weights,Tryz.underlying30]; exact List.mem_cons_self)
     rw [bytes_s] at h1
     simp [Go.ChangeShapes.strs] at h1
     omega
   · have hi2:i < ss.length:=by omega
     have h1:=hw (ss.getD i ByteArray.empty).data.toList.length (by
      simp only [DataW.weights,Tryz.underlying30]
      refine List.mem_cons_of_mem _ (List.mem_append.2 (.inl (weightsAll_mem (d:=.lit (.string (ss.getD i ByteArray.empty).data.toList)) ?_ ?_)))
      · simp only [Go.ChangeShapes.strs,List.mem_map]
        exact ⟨ss.getD i ByteArray.empty,by
         rw [List.getD_eq_getElem?_getD,List.getElem?_eq_getElem hi2,Option.getD_some]
         exact List.mem_take_iff_getElem.2 ⟨i,by omega,rfl⟩,rfl⟩
      · simp [DataW.weights])
     show (((ss.getD i ByteArray.empty).data.toList.length:Nat):Int)≤140737488355328
     omega
end
end Go.Proofs.YtgcnnbjbdfgglaaGreat
namespace Go.Proofs.YtgcnnbjbdfgglaaGreat
open Go.RowKit
theorem SlK.open {w:World} {a:Option Addr} {n cap K:Nat} {f:Nat→Nat→Value} (h:SlK w (.slice a n cap) K n f) (hn:0 < n):∃ b o,a=some ⟨b,o,none⟩∧∀ i j,i < n→j < K→w.cell? ⟨b,o + (i * K + j),none⟩=some (f i j):=by
 obtain ⟨a',c',he,hc⟩:=h
 injection he with e1 e2 e3
 subst e1
 exact hc hn
set_option maxRecDepth 100000 in
set_option maxHeartbeats 4000000 in
theorem Bk.lbig {w:World} {c:Cf} (h:CfAt w c) (hl:CfLen c):Calls Tryz.prog 5 #[.agg c.cells,.int .i64 0] w fun e w'=>(∃ b:Bool,e=.returned (.bool b))∧Below w.heap.size w w':=by
 have HB:=Lib.hid ((Below.refl w.heap.size w).alloc (Nat.le_refl _) (.cells c.cells 35))
 have HX:=Lib.hid (Blk.new w 35 c.cells)
 have HH:=Lib.hid h
 have HL:=Lib.hid hl
 clear h hl
 go_enter Tryz.func5,Tryz.ntmps5
 go_upto_region 1 with (fail)
 generalize w.alloc (.cells #[.slice c.ta c.n c.tc,.slice c.la c.N c.lc,.slice c.na c.nn c.nc,.int .i64 c.cut,.int .i64 c.close,.slice c.da c.dn c.dc] 35)=w1 at *
 have x0:w1.cell? ⟨w.heap.size,0,none⟩=some (.slice c.ta c.n c.tc):=(HX.out.cell 0).trans rfl
 have x1:w1.cell? ⟨w.heap.size,1,none⟩=some (.slice c.la c.N c.lc):=(HX.out.cell 1).trans rfl
 have x2:w1.cell? ⟨w.heap.size,2,none⟩=some (.slice c.na c.nn c.nc):=(HX.out.cell 2).trans rfl
 have x5:w1.cell? ⟨w.heap.size,5,none⟩=some (.slice c.da c.dn c.dc):=(HX.out.cell 5).trans rfl
 go_wp2
 go_loopw [5,6] (fun t i wr=>∃ (k:Nat) (z:Int),k≤c.N∧i=.int .i64 k∧t=.int .i64 z∧wr=w1) (fun _ i _=>c.N - (intOf i).toNat)
 case atStart=>exact ⟨0,_,Nat.zero_le _,rfl,rfl,rfl⟩
 case round =>
  obtain ⟨k,z,hk,rfl,rfl,rfl⟩:=hrel
  by_cases hlt:k < c.N
  · have q1:(k:Int) < (c.N:Int):=by omega
    obtain ⟨b,o,hla,hc⟩:=HH.out.lim.row.open (by omega)
    obtain ⟨sa,sc,hsv,_⟩:=(HH.out.lim.sl k hlt).1
    have c0:wr.cell? ⟨b,o + k * 2,none⟩=some (.slice sa (c.m k) sc):=by
     have:=Bk.kept HB.out (hc k 0 hlt (by omega))
     rw [Nat.add_zero,if_pos rfl,hsv] at this
     exact this
    have x1':wr.cell? ⟨w.heap.size,1,none⟩=some (.slice (some ⟨b,o,none⟩) c.N c.lc):=by rw [← hla]; exact x1
    clear x1 hla hc hsv x0 x2 x5
    go_wp2
    go_roundw
    case rel =>
     have hN:=HL.out.2.1
     exact ⟨k + 1,_,by omega,by rw [show wrap64 ((k:Int) + 1)=(k:Int) + 1 from Bk.wrap_in (by unfold In64; omega)]; rfl,rfl,by first | rfl | trivial⟩
    case measure =>
     have hN:=HL.out.2.1
     rw [show wrap64 ((k:Int) + 1)=(k:Int) + 1 from Bk.wrap_in (by unfold In64; omega)]
     simp [intOf]
     omega
  · obtain rfl:k=c.N:=by omega
    clear x0 x5 hlt
    go_wp2
    go_loopw [5,7] (fun t i wr'=>∃ (k:Nat) (z:Int),k≤c.nn∧i=.int .i64 k∧t=.int .i64 z∧wr'=wr) (fun _ i _=>c.nn - (intOf i).toNat)
    case atStart=>exact ⟨0,_,Nat.zero_le _,rfl,rfl,rfl⟩
    case round =>
     obtain ⟨k,z,hk,rfl,rfl,rfl⟩:=hrel
     by_cases hlt:k < c.nn
     · have q1:(k:Int) < (c.nn:Int):=by omega
       obtain ⟨rv,hrow,hln⟩:=HH.out.lin
       obtain ⟨b,o,hna,hc⟩:=hrow.open (by omega)
       obtain ⟨m,f,⟨sa,sc,hsv,_⟩,_⟩:=hln k hlt
       have c0:wr.cell? ⟨b,o + k,none⟩=some (.slice sa m sc):=by
        have:=Bk.kept HB.out (hc k 0 hlt (by omega))
        rw [Nat.add_zero,Nat.mul_one,hsv] at this
        exact this
       have x2':wr.cell? ⟨w.heap.size,2,none⟩=some (.slice (some ⟨b,o,none⟩) c.nn c.nc):=by rw [← hna]; exact x2
       clear x1 x2 hna hc hsv hrow hln
       go_wp2
       go_roundw
       case rel =>
        have hN:=HL.out.2.2.1
        exact ⟨k + 1,_,by omega,by rw [show wrap64 ((k:Int) + 1)=(k:Int) + 1 from Bk.wrap_in (by unfold In64; omega)]; rfl,rfl,by first | rfl | trivial⟩
       case measure =>
        have hN:=HL.out.2.2.1
        rw [show wrap64 ((k:Int) + 1)=(k:Int) + 1 from Bk.wrap_in (by unfold In64; omega)]
        simp [intOf]
        omega
     · obtain rfl:k=c.nn:=by omega
       clear x1 hlt
       by_cases h3:300 < z
       · have d3:decide (300 < z)=true:=decide_eq_true h3
         clear h3
         go_wp2
         go_ret
         exact ⟨⟨_,rfl⟩,HB.out⟩
       · have d3:decide (300 < z)=false:=decide_eq_false h3
         clear h3
         go_wp2
         go_ret
         exact ⟨⟨_,rfl⟩,HB.out⟩
end Go.Proofs.YtgcnnbjbdfgglaaGreat
namespace Go.Proofs.YtgcnnbjbdfgglaaGreat
open Go.RowKit
theorem Bk.appendAny {jg g B n:Nat} {v:Value} {w:World} (h:J.JK w jg g B v n) (hn:n≤1000) (b:List UInt8) (hb:(b.length:Int)≤140737488355328) :
    Calls Tryz.prog 37 #[.pointer (some ⟨jg,0,none⟩),.string ⟨b.toArray⟩] w (ApPost (fun _=>True) jg g B v n w):=by
 refine (J.append_k h hn b hb).mono ?_
 rintro e w' ⟨r,rfl,h0,h1,v',h2,h3,h4⟩
 exact ⟨r,rfl,h0,h1,trivial,v',h2,h3,h4⟩
def TrPost (E V:Int) (w:World) (e:Ending) (w':World):Prop:=∃ (a:Option Addr) (n cp:Nat),e=.returned (.tuple #[.agg #[.int .i64 E,.int .i64 V,.slice a n cp],.int .i64 0])∧Below w.heap.size w w'
theorem Bk.taker {E V:Int} {zs:List Int} (hE:0≤E∧E≤12) (hV:In64 V) (hz:IdsOk zs) (w:World):Calls Tryz.prog 11 #[.string ⟨(W.putrB E V zs).toArray⟩] w (TrPost E V w):=by
 refine (W.taker_any (W.putrB E V zs) (by rw [W.putr_length]; have:=hz.1; omega) w).mono ?_
 rintro e w' ⟨sl,rfl,hs,hb⟩
 rw [W.takeR_putr (putr_ok hE.1 hE.2 hz) hV] at hs ⊢
 obtain ⟨a,cp,rfl,_⟩:=hs
 exact ⟨a,_,cp,rfl,hb⟩
def TakPost (b:List UInt8) (w:World) (e:Ending) (w':World):Prop:=∃ (c:W.Cm) (z:Int),e=.returned (.tuple #[.agg c.cells,.int .i64 z])∧(z=0→W.take b=some c)∧Below w.heap.size w w'
theorem Bk.takes (b:List UInt8) (hb:(b.length:Int)≤100000) (w:World):Calls Tryz.prog 13 #[.string ⟨b.toArray⟩] w (TakPost b w):=by
 refine (W.take_any b (by omega) w).mono ?_
 rintro e w' ⟨rfl,hb⟩
 cases ht:W.take b with
 | none=>exact ⟨⟨0,fun _=>0⟩,2,rfl,fun e=>by omega,hb⟩
 | some c=>exact ⟨c,0,rfl,fun _=>ht,hb⟩
theorem LwAt.start {c:Cf} {w w8:World} {K:Nat} {q:Qh} {s:Bnk} {D jg B:Nat} (hkp:KpAt w8 K q s D jg B (.slice none 0 0) 0) (hkw:∀ x,kown K q s.d.L.n D jg (.slice none 0 0) x→w.heap.size < x) (hx:Blk w8 w.heap.size 29 c.cells) (hb:Below w.heap.size w w8) (hn:BnkNew c s) :
    LwAt c w ((w8.alloc (.map #[] 0)).alloc (.map #[] 0)) ⟨K,q,s,D,jg,B,.slice none 0 0,0,w8.heap.size,w8.heap.size + 1,w.heap.size,0,0,fun _=>none,fun _=>none⟩:=by
 have b1:=(Below.refl w8.heap.size w8).alloc (Nat.le_refl _) (.map #[] 0)
 have b2:=(Below.refl (w8.alloc (.map #[] 0)).heap.size (w8.alloc (.map #[] 0))).alloc (Nat.le_refl _) (.map #[] 0)
 have b3:=b1.alloc (by simp) (.map #[] 0)
 have m2:=IMap.made (w8.alloc (.map #[] 0)) (.bool false)
 rw [World.size_alloc] at m2
 have hsz:=hb.size
 exact ⟨hkp.below b3,fun x hx=>Nat.le_of_lt (hkw x hx),(IMap.made w8 _).below b2,m2,hx.below b3,fun ho=>by have:=hkp.ownlt ho; simp only at this; omega,fun ho=>by have:=hkp.ownlt ho; simp only at this; omega,fun ho=>by have:w.heap.size < w.heap.size:=hkw _ ho; omega,by simp,hsz,by simp only; omega,Nat.le_refl _,hb.trans (b3.mono hsz),fun id h=>absurd rfl h,fun m v h=>(by cases h),hn.N,by rw [hn.t]; rfl⟩
end Go.Proofs.YtgcnnbjbdfgglaaGreat
