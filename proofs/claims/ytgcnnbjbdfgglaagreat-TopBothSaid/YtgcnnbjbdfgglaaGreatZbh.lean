/- LAW TopBoth: of every configuration of a bank and every list of byte strings the given function TopBoth returns true and leaves its arguments as they were; no condition. A part of what it needs. -/
import Derived.Test.YtgcnnbjbdfgglaaGreatZau
import Derived.Test.YtgcnnbjbdfgglaaGreatZbt
namespace Go.Proofs.YtgcnnbjbdfgglaaGreat
open Go.RowKit
theorem Bk.infoLimit:(Tryz.prog.info? 84).map (fun i => (i.zero,i.size,i.bytes)) = some (some (.agg #[.slice none 0 0,.int .i64 0]),2,32):=by kernel_rfl
theorem Bk.makeBool (n:Nat) (hn:n≤16) (w:World):(Instr.makeSlice 121 (.int .i64 n) (.int .i64 n)).run Tryz.prog w = .ok (.slice (some ⟨w.heap.size,0,none⟩) n n) (w.alloc (.cells (madeCells #[.bool false] n) 4)):=by
 obtain ⟨i0,hi,hz0,hz1,hz2⟩:=info_parts (show (Tryz.prog.info? 4).map (fun i => (i.zero,i.size,i.bytes)) = some (some (.bool false),1,1) by kernel_rfl)
 have:=run_make (P:=Tryz.prog) w 121 4 i0 (.bool false) Tryz.underlying121 hi hz0 .i64 .i64 n n (by omega) (Int.le_refl _) (by rw [hz2]; omega) (by omega)
 rw [hz1] at this
 simp only [Int.toNat_natCast,Nat.mul_one] at this
 exact this
theorem made_bools (w:World) (n:Nat):RowK (w.alloc (.cells (madeCells #[.bool false] n) 4)) w.heap.size 1 n (fun _ _ => .bool false):=by
 refine ⟨_,_,heap_alloc_new _ _,fun i j hi hj => ?_⟩
 obtain rfl:j = 0:=by omega
 have:i * 1 + 0 < n:=by omega
 have hi':i < n:=by omega
 simp [madeCells,hi',Nat.mod_one]
structure LimsIn (w:World) (v:Value) (N:Nat) (sv:Nat→Value) (m:Nat→Nat) (f:Nat→Nat→Int) (all:Nat→Int):Prop where
  row:SlK w v 2 N (fun i j => if j = 0 then sv i else .int .i64 (all i))
  sl:∀ i,i < N→SlI w (sv i) (m i) (f i)∧In64 (all i)∧∀ j,j < m i→In64 (f i j)
theorem LimsIn.below {w w':World} {v:Value} {N:Nat} {sv:Nat→Value} {m:Nat→Nat} {f:Nat→Nat→Int} {all:Nat→Int} (h:LimsIn w v N sv m f all) (hb:Below w.heap.size w w'):LimsIn w' v N sv m f all:=⟨h.row.below hb,fun i hi => ⟨SlC.below (h.sl i hi).1 hb,(h.sl i hi).2⟩⟩
def limF (C:Nat) (sb sc:Nat→Nat) (all:Nat→Int) (i j:Nat):Value:=if j = 0 then .slice (some ⟨sb i,0,none⟩) C (sc i) else .int .i64 (all i)
def ShoAt (w:World) (C b:Nat) (f:Nat→Int):Prop:=RowK w b 1 C (fun i _ => .int .i64 (f i))∧Ty w b 2
def Most (w w':World):Prop:=∀ q T,Ty w q T→T ≠ 84→T ≠ 139→w'.heap[q]? = w.heap[q]?
theorem Most.trans {a b c:World} (h:Most a b) (k:Most b c):Most a c:=fun q T hq h1 h2 => (k q T (hq.same (h q T hq h1 h2)) h1 h2).trans (h q T hq h1 h2)
theorem Most.of_below {a b:World} (h:Below a.heap.size a b):Most a b:=fun q _ hq _ _ => h.block q hq.lt
theorem Most.grown {a b:World} {B n K:Nat} {v:Value} {xs:List Value} (h:a.grownBy b v.ownBlock) (ho:a.ownsRow B 84 K v n xs):Most a b:=fun q _ hq h1 _ => h.block q hq.lt (fun e => Ty.ne hq (own_ty ho e.symm) h1 rfl)
theorem Most.set {a:World} {g:Nat} (hg:Ty a g 139) (o:Nat) (v:Value):Most a (a.setCell ⟨g,o,none⟩ v):=fun _ _ hq _ h2 => heap_setCell_other _ _ _ _ (Ty.ne hq hg h2)
theorem WorNew.most {w0 w w':World} {N l wb tb tc ab ca:Nat} {t:Rates} {code:Nat→ByteArray} {A:Nat→Nat→Value} (h:WorNew w0 N l wb tb tc ab ca t code A w) (hm:Most w w') (hb:Below w0.heap.size w0 w'):WorNew w0 N l wb tb tc ab ca t code A w':=by
 have h1:=hm wb _ h.wor.ty (by decide) (by decide)
 have h2:=hm tb _ h.tty (by decide) (by decide)
 have h3:=hm ab _ h.aty (by decide) (by decide)
 refine ⟨?_,?_,h.tty.same h2,h.acc.same h3,h.aty.same h3,h.hw,h.ht,h.ha,hb⟩
 · have:=h.wor; unfold WorAt at this ⊢; rw [h1]; exact this
 · obtain ⟨b0,o0,c0,he,h3⟩:=h.tab
   cases he
   exact ⟨_,_,_,rfl,fun i hi => ⟨Bk.cell_heap h2 (h3 i hi).1,Bk.cell_heap h2 (h3 i hi).2.1,Bk.cell_heap h2 (h3 i hi).2.2⟩⟩
theorem AccTo.most {w w':World} {H k:Nat} {t:Rates} {L:Led} {A:Nat→Nat→Value} {bm gw gs:Nat→Nat} (h:AccTo w H k t L A bm gw gs) (hm:Most w w'):AccTo w' H k t L A bm gw gs :=
 ⟨fun m hk => (h.ac m hk).same (hm _ _ (h.ac m hk).tb (by decide) (by decide)) (hm _ _ (h.ac m hk).tw (by decide) (by decide)) (hm _ _ (h.ac m hk).ts (by decide) (by decide)),h.ge,h.inj⟩
theorem LedAt.most {w w':World} {l r cap:Nat} {L:Led} (h:LedAt w l r cap L) (hm:Most w w'):LedAt w' l r cap L:=h.same (hm _ _ ⟨_,h.hl⟩ (by decide) (by decide)) (hm _ _ h.ty (by decide) (by decide))
theorem ShoAt.most {w w':World} {C b:Nat} {f:Nat→Int} (h:ShoAt w C b f) (hm:Most w w'):ShoAt w' C b f:=⟨h.1.same (hm _ _ h.2 (by decide) (by decide)),h.2.same (hm _ _ h.2 (by decide) (by decide))⟩
structure RnS (w0:World) (N l r cap wb tb tc ab ca fb:Nat) (t:Rates) (code:Nat→ByteArray) (L:Led) (A:Nat→Nat→Value) (bm gw gs:Nat→Nat) (w:World):Prop where
  wor:WorNew w0 N l wb tb tc ab ca t code A w
  acc:AccTo w w0.heap.size N t L A bm gw gs
  led:LedAt w l r cap L
  flag:RowK w fb 1 N (fun _ _ => .bool false)
  fty:Ty w fb 4
  hf:w0.heap.size≤fb
theorem RnS.most {w0 w w':World} {N l r cap wb tb tc ab ca fb:Nat} {t:Rates} {code:Nat→ByteArray} {L:Led} {A:Nat→Nat→Value} {bm gw gs:Nat→Nat} (h:RnS w0 N l r cap wb tb tc ab ca fb t code L A bm gw gs w) (hm:Most w w') (hb:Below w0.heap.size w0 w'):RnS w0 N l r cap wb tb tc ab ca fb t code L A bm gw gs w' :=
 ⟨h.wor.most hm hb,h.acc.most hm,h.led.most hm,h.flag.same (hm _ _ h.fty (by decide) (by decide)),h.fty.same (hm _ _ h.fty (by decide) (by decide)),h.hf⟩
def RnPost (n:Nat) (code:Nat→ByteArray) (rate cut:Nat→Int) (l r cap:Nat) (L:Led) (m:Nat→Nat) (f:Nat→Nat→Int) (all:Nat→Int) (w:World) (e:Ending) (w':World):Prop:=∃ c:Int,0≤c∧c≤12∧Kept (Pair l r) w w'∧(c ≠ 0→e = .returned (.tuple #[.pointer none,.int .i64 c])) ∧
  (CkOne n code rate cut→(∀ i,i < L.n→fitsL n (m i) (f i) (all i))→c = 0) ∧
  (c = 0→∃ h d,e = .returned (.tuple #[.pointer (some ⟨h.g,0,none⟩),.int .i64 0])∧GuS w' h d NoneS∧Judged d d.L.n∧d.L = L∧h.l = l∧h.r = r∧h.cap = cap∧d.t = ratesOf n rate cut∧(∀ k,h.own L.n k→k = l∨k = r∨w.heap.size≤k))
theorem RnS.guard {w0 w:World} {g N l r cap wb tb tc ab ca fb lb lc:Nat} {t:Rates} {code:Nat→ByteArray} {L:Led} {A:Nat→Nat→Value} {bm gw gs sb sc:Nat→Nat} {f:Nat→Nat→Int} {all:Nat→Int} (h:RnS w0 N l r cap wb tb tc ab ca fb t code L A bm gw gs w) (hN:N = L.n) (hc:L.c = t.n) (hlo:L.Ok) (hto:t.Ok)
    (hg:Blk w g 139 #[.pointer (some ⟨l,0,none⟩),.pointer (some ⟨wb,0,none⟩),.slice (some ⟨lb,0,none⟩) N lc,.slice (some ⟨fb,0,none⟩) N N]) (hl:RowK w lb 2 N (limF t.n sb sc all)) (hlt:Ty w lb 84) (hs:∀ m,m < N→ShoAt w t.n (sb m) (f m)) (h64:∀ m,m < N→In64 (all m)∧∀ j,j < t.n→0≤f m j∧In64 (f m j)) :
    GuS w ⟨g,l,r,cap,wb,.slice (some ⟨tb,0,none⟩) t.n tc,ab,ca,lb,lc,fb,N,A,bm,gw,gs,sb,sc⟩ ⟨L,t,code,fun m => ⟨f m,all m⟩,fun _ => false⟩ NoneS:=by
 subst hN
 exact ⟨hg,h.led,h.wor.wor,h.wor.tab,⟨_,_,_,rfl,h.wor.tty⟩,h.wor.acc,h.wor.aty,fun m hm _ => h.acc.ac m hm,fun m hm => ⟨(h.acc.ac m hm).tb,(h.acc.ac m hm).tw,(h.acc.ac m hm).ts⟩,h.acc.inj,hl,hlt,fun m hm => (hs m hm).1,fun m hm => (hs m hm).2,h.flag,h.fty,
   ⟨hlo,hto,hc,fun m i hm hi => (h64 m hm).2 i hi,fun m hm => (h64 m hm).1⟩⟩
end Go.Proofs.YtgcnnbjbdfgglaaGreat
namespace Go.Proofs.YtgcnnbjbdfgglaaGreat
open Go.RowKit
open Classical in
noncomputable def unfitB (C m:Nat) (f:Nat→Int) (a:Int):Bool:=decide (¬ fitsL C m f a)
theorem unfitB_no {C m:Nat} {f:Nat→Int} {a:Int}:unfitB C m f a = false ↔ fitsL C m f a:=by unfold unfitB; simp
theorem unfitB_of {C m:Nat} {f:Nat→Int} {a:Int} {b:Bool} (h:b = true ↔ ¬ fitsL C m f a):b = unfitB C m f a:=by
 by_cases hf:fitsL C m f a
 · rw [unfitB_no.2 hf]
   cases b with
   | true => exact absurd hf (h.1 rfl)
   | false => rfl
 · rw [h.2 hf]
   cases hu:unfitB C m f a with
   | true => rfl
   | false => exact absurd (unfitB_no.1 hu) hf
set_option maxRecDepth 100000 in
set_option maxHeartbeats 16000000 in
theorem Bk.rnew {w:World} {tv:Value} {n:Nat} {code:Nat→ByteArray} {rate cut:Nat→Int} (ht:TabIn w tv n code rate cut) (hn:(n:Int)≤4000) {l r cap:Nat} {L:Led} (hl:LedAt w l r cap L) (hlo:L.Ok) (hc:L.c = n) {lv:Value} {sv:Nat→Value} {m:Nat→Nat} {f:Nat→Nat→Int} {all:Nat→Int} (hls:LimsIn w lv L.n sv m f all) :
    Calls Tryz.prog 50 #[tv,.pointer (some ⟨l,0,none⟩),lv] w (RnPost n code rate cut l r cap L m f all w):=by
 subst hc
 have HWN:=Lib.hid (Bk.wnew ht hn hl hlo rfl)
 have HL:=Lib.hid (And.intro hl hlo)
 have HLS:=Lib.hid hls
 obtain ⟨ta,tc0,rfl,-⟩:=ht
 obtain ⟨la,lc0,rfl,hlc⟩:=hls.row
 have HLC:=Lib.hid hlc
 have q0:(L.n:Int)≤16:=by have:=hlo.n16; omega
 clear hl hlo hls hlc
 go_enter Tryz.func50,Tryz.ntmps50
 go_wp2_with fail
 refine HWN.out.mono ?_
 rintro e w1 ⟨c,hc0,hc1,hone,hb1,hno,hyes⟩
 have HB1:=Lib.hid hb1
 have HONE:=Lib.hid hone
 rcases eqz c 0 with ⟨a1,a2,a3⟩ | ⟨a1,a2,a3⟩
 · subst a1
   obtain ⟨hck,wb,tb,tc,ab,ca,A,bm,gw,gs,rfl,h1,h2,h3,h4,h5,h6,h7,h8,h9⟩:=hyes rfl
   have HW1:=Lib.hid (WorNew.mk h1 h2 h3 h4 h5 h7 h8 h9 hb1:WorNew w L.n l wb tb tc ab ca (ratesOf L.c rate cut) code A w1)
   have HA1:=Lib.hid h6
   have HCK:=Lib.hid hck
   clear a2 a3 hno hyes hb1 hone h1 h2 h3 h4 h5 h6 h7 h8 h9 hck
   have HSZ:=Lib.hid (Bk.ledger_size (HL.out.1.below HB1.out))
   go_wp2_with fail
   refine HSZ.out.mono ?_
   rintro e w2 ⟨rfl,nq,rfl⟩
   have HD:=Lib.hid (Bk.bdrew (Below.refl w1.heap.size w1) nq)
   generalize w1.drewN nq = w2 at *
   have hA:=(Below.refl w2.heap.size w2).alloc (Nat.le_refl _) (.cells #[.int .i64 L.c] 3)
   have hz:(w2.alloc (.cells #[.int .i64 L.c] 3)).cell? ⟨w2.heap.size,0,none⟩ = some (.int .i64 L.c):=(Blk.new w2 3 #[.int .i64 L.c]).cell 0
   have hB3:=(HB1.out.trans (HD.out.mono HB1.out.size)).alloc (by have:=HB1.out.size; have:=HD.out.size; omega) (.cells #[.int .i64 L.c] 3)
   have HB3:=Lib.hid hB3
   have hls3:=HLS.out.below hB3
   have HANY:=Lib.hid (Bk.anyLim hls3.row (by omega) 92 #[.pointer (some ⟨w2.heap.size,0,none⟩)] (fun i => unfitB L.c (m i) (f i) (all i)) (fun _ _ => by kernel_rfl) (fun i hi wx hbx => by
    have h:=hls3.sl i hi
    refine (Bk.rnew1 (SlC.below h.1 hbx) (all i) L.c w2.heap.size (by have:=HL.out.2.c8; omega) (by have:=HL.out.2.c1; omega) (Bk.kept hbx hz)).mono ?_
    rintro e w' ⟨b,rfl,hb,hbb⟩
    exact ⟨by rw [unfitB_of hb],hbb⟩))
   have HM3:=Lib.hid (Most.of_below (HD.out.trans (hA.mono HD.out.size)))
   clear hA hz hB3 hls3 HSZ
   go_wp2_with fail
   refine HANY.out.mono ?_
   rintro e w4 ⟨rfl,hb4⟩
   have HB4:=Lib.hid (HB3.out.trans (hb4.mono HB3.out.size))
   have HM4:=Lib.hid (HM3.out.trans (Most.of_below hb4))
   clear hb4 HANY HM3
   cases hany:anyTo (fun i => unfitB L.c (m i) (f i) (all i)) L.n with
   | true =>
    have HX:=Lib.hid hany
    clear hany
    go_wp2
    go_ret2
    exact ⟨1,by omega,by omega,Kept.of_below HB4.out,fun _ => rfl,fun _ hall => (by
     have h:=HX.out
     rw [anyTo_false.2 (fun i hi => unfitB_no.2 (hall i hi))] at h
     cases h),fun h => absurd h (by decide)⟩
   | false =>
    have HFIT:=Lib.hid (show ∀ i,i < L.n→fitsL L.c (m i) (f i) (all i) from fun i hi => by
     have h:=anyTo_false.1 hany i hi
     exact unfitB_no.1 h)
    have hmk:=Bk.makeBool L.n (by omega)
    clear hany
    have hb5:=HB4.out.alloc HB4.out.size (.cells (madeCells #[.bool false] L.n) 4)
    have HM5:=Lib.hid (HM4.out.trans (Most.of_below ((Below.refl w4.heap.size w4).alloc (Nat.le_refl _) (.cells (madeCells #[.bool false] L.n) 4))))
    have hb6:=hb5.alloc hb5.size (.cells #[.pointer (some ⟨l,0,none⟩),.pointer (some ⟨wb,0,none⟩),.slice none 0 0,.slice (some ⟨w4.heap.size,0,none⟩) L.n L.n] 139)
    have hA5:=(Below.refl (w4.alloc (.cells (madeCells #[.bool false] L.n) 4)).heap.size (w4.alloc (.cells (madeCells #[.bool false] L.n) 4))).alloc (Nat.le_refl _) (.cells #[.pointer (some ⟨l,0,none⟩),.pointer (some ⟨wb,0,none⟩),.slice none 0 0,.slice (some ⟨w4.heap.size,0,none⟩) L.n L.n] 139)
    have HM6:=Lib.hid (HM5.out.trans (Most.of_below hA5))
    have HB6:=Lib.hid hb6
    have HX6:=Lib.hid (show Blk ((w4.alloc (.cells (madeCells #[.bool false] L.n) 4)).alloc (.cells #[.pointer (some ⟨l,0,none⟩),.pointer (some ⟨wb,0,none⟩),.slice none 0 0,.slice (some ⟨w4.heap.size,0,none⟩) L.n L.n] 139)) (w4.heap.size + 1) 139 _ by have:=Blk.new (w4.alloc (.cells (madeCells #[.bool false] L.n) 4)) 139 #[.pointer (some ⟨l,0,none⟩),.pointer (some ⟨wb,0,none⟩),.slice none 0 0,.slice (some ⟨w4.heap.size,0,none⟩) L.n L.n]; rw [World.size_alloc] at this; exact this)
    have HR6:=Lib.hid (RnS.mk (HW1.out.most HM6.out hb6) (HA1.out.most HM6.out) ((HL.out.1.below HB1.out).most HM6.out) ((made_bools w4 L.n).below hA5) (Ty.below ⟨_,heap_alloc_new w4 _⟩ hA5) HB4.out.size:RnS w L.n l r cap wb tb tc ab ca w4.heap.size (ratesOf L.c rate cut) code L A bm gw gs _)
    have hs1:w.heap.size≤w4.heap.size + 1:=by have:=HB4.out.size; omega
    clear hb5 hb6 hA5 HM5 HM6 HM4 HB4 HB3 HW1 HA1
    obtain ⟨i0,hi,hz0',hz1',hz2'⟩:=info_parts Bk.infoLimit
    have HIS:=Lib.hid (And.intro hi (And.intro hz0' (And.intro hz1' hz2')))
    clear hi hz0' hz1' hz2'
    go_wp2
    generalize (w4.alloc (.cells (madeCells #[.bool false] L.n) 4)).alloc (.cells #[.pointer (some ⟨l,0,none⟩),.pointer (some ⟨wb,0,none⟩),.slice none 0 0,.slice (some ⟨w4.heap.size,0,none⟩) L.n L.n] 139) = w6 at *
    generalize w4.heap.size = fb at *
    obtain ⟨X,hX⟩:∃ X,fb + 1 = X:=⟨_,rfl⟩
    rw [hX] at HX6 hs1 ⊢
    clear hX
    go_loopw [48] (fun i wr => ∃ (k:Nat) (lv:Value) (sb sc:Nat→Nat),k≤L.n∧i = .int .i64 k∧Hid (Blk wr X 139 #[.pointer (some ⟨l,0,none⟩),.pointer (some ⟨wb,0,none⟩),lv,.slice (some ⟨fb,0,none⟩) L.n L.n])∧Hid (wr.ownsRow w.heap.size 84 2 lv k (flatK 2 k (limF L.c sb sc all)))∧Hid (∀ i,i < k→ShoAt wr L.c (sb i) (f i)∧w.heap.size≤sb i)∧Hid (RnS w L.n l r cap wb tb tc ab ca fb (ratesOf L.c rate cut) code L A bm gw gs wr)∧Hid (Below w.heap.size w wr)) (fun i _ => L.n - (intOf i).toNat)
    case atStart => exact ⟨0,_,fun _ => 0,fun _ => 0,by omega,rfl,HX6,Lib.hid (by rw [flatK_none]; exact World.ownsRow_nil _ _ _ _),Lib.hid (fun i hi => absurd hi (by omega)),HR6,HB6⟩
    case round =>
     clear HX6 HR6 HB6
     obtain ⟨k,lv,sb,sc,hk,rfl,HX,HOWN,HLN,HR,HB⟩:=hrel
     by_cases hlt:k < L.n
     · have q2:(k:Int) < (L.n:Int):=by omega
       obtain ⟨b,o,rfl,hc⟩:=HLC.out (by omega)
       have g0:wr.cell? ⟨b,o + k * 2,none⟩ = some (sv k):=Bk.kept HB.out (hc k 0 hlt (by omega))
       have g1:wr.cell? ⟨b,o + k * 2 + 1,none⟩ = some (.int .i64 (all k)):=by have:=Bk.kept HB.out (hc k 1 hlt (by omega)); rw [← Nat.add_assoc] at this; exact this
       obtain ⟨hsl,ha6,h64⟩:=HLS.out.sl k hlt
       obtain ⟨hmC,ha0,hf0⟩:=HFIT.out k hlt
       rw [hmC] at hsl h64
       have HC1:=HL.out.2.c1
       have HC8:=HL.out.2.c8
       obtain ⟨ra,rc,hrv,hrv2⟩:=id hsl
       rw [hrv] at g0 hsl
       have HSL:=Lib.hid hsl
       have HV6:=Lib.hid (And.intro ha6 (And.intro h64 (And.intro hf0 hmC)))
       have HBX:=Lib.hid (HB.out.alloc HB.out.size (.cells #[.slice ra L.c rc,.int .i64 (all k)] 84))
       have HAB:=Lib.hid ((Below.refl wr.heap.size wr).alloc (Nat.le_refl _) (.cells #[.slice ra L.c rc,.int .i64 (all k)] 84))
       have HBC:=Lib.hid (Blk.new wr 84 #[.slice ra L.c rc,.int .i64 (all k)])
       clear hc hsl ha6 h64 hmC ha0 hf0 hrv hrv2
       go_upto_region 12 with (fail)
       generalize hW:wr.alloc (.cells #[.slice ra L.c rc,.int .i64 (all k)] 84) = W at *
       clear hW
       have HCL:=Lib.hid (Bk.cloneI64 (w:=W.drew) HC1 (by omega) (SlI.slK (((SlC.below HSL.out HB.out).below HAB.out).below (Below.refl _ _).drew)) (fun _ _ _ _ => rfl))
       have hX0:=(HX.out.below HAB.out).drew
       have x0:W.cell? ⟨X,2,none⟩ = some lv:=((HX.out.below HAB.out).cell 2).trans rfl
       have b0:W.cell? ⟨wr.heap.size,0,none⟩ = some (.slice ra L.c rc):=(HBC.out.cell 0).trans rfl
       have b1:W.cell? ⟨wr.heap.size,1,none⟩ = some (.int .i64 (all k)):=(HBC.out.cell 1).trans rfl
       have HXD:=Lib.hid hX0
       have HOD:=Lib.hid (show W.drew.ownsRow w.heap.size 84 2 lv k (flatK 2 k (limF L.c sb sc all)) from own_below (own_below HOWN.out HAB.out) (Below.refl _ _).drew)
       have HLD:=Lib.hid (fun i hi => ((HLN.out i hi).1.most (Most.of_below HAB.out)).most (Most.of_below (Below.refl W.heap.size W).drew))
       have HRD:=Lib.hid ((HR.out.most (Most.of_below HAB.out) HBX.out).most (Most.of_below (Below.refl W.heap.size W).drew) HBX.out.drew)
       have HBD:=Lib.hid HBX.out.drew
       have hlvb:∀ q,lv.ownBlock = some q→q < wr.heap.size:=fun q hq => (HOWN.out.lt q hq).2
       have HLVB:=Lib.hid hlvb
       have HWS:Hid (wr.heap.size < W.heap.size):=Lib.hid HBC.out.lt
       clear hX0 hlvb
       generalize wr.heap.size = bx at *
       go_region_law (first
         | (go_simp; go_at_call 95; refine HCL.out.mono ?_; rintro e w2 ⟨gl,cl,rfl,hrow,hcap,hgl,hty,hb2⟩; have x2:w2.cell? ⟨X,2,none⟩ = some lv:=Bk.kept hb2 (show W.drew.cell? _ = _ from x0); have b2:w2.cell? ⟨bx,0,none⟩ = some (.slice ra L.c rc):=Bk.kept hb2 (show W.drew.cell? _ = _ from b0); have b3:w2.cell? ⟨bx,1,none⟩ = some (.int .i64 (all k)):=Bk.kept hb2 (show W.drew.cell? _ = _ from b1); have HO2:=Lib.hid ((own_below HOD.out hb2).alloc (.cells #[.slice (some ⟨gl,0,none⟩) L.c cl,.int .i64 (all k)] 84)); have HX2:=Lib.hid ((HXD.out.below hb2).alloc (.cells #[.slice (some ⟨gl,0,none⟩) L.c cl,.int .i64 (all k)] 84)); have x2a:(w2.alloc (.cells #[.slice (some ⟨gl,0,none⟩) L.c cl,.int .i64 (all k)] 84)).cell? ⟨X,2,none⟩ = some lv:=(HX2.out.cell 2).trans rfl; have HNW:=Lib.hid (Blk.new w2 84 #[.slice (some ⟨gl,0,none⟩) L.c cl,.int .i64 (all k)]); have HB2:=Lib.hid (HBD.out.trans (hb2.mono HBD.out.size)); replace hb2:=Lib.hid hb2; replace hrow:=Lib.hid hrow; replace hty:=Lib.hid hty; replace hgl:=Lib.hid hgl)
         | (refine step_append_lies _ rfl (.tmp 56) (.tmp 63) 23 rfl w.heap.size 84 i0 (.agg #[.slice none 0 0,.int .i64 0]) 2 32 Tryz.underlying23 HIS.out.1 HIS.out.2.1 HIS.out.2.2.1 HIS.out.2.2.2 rfl (by decide) lv k (flatK 2 k (limF L.c sb sc all)) ?_ HO2.out ⟨w2.heap.size,0,none⟩ 1 1 [.slice (some ⟨gl,0,none⟩) L.c cl,.int .i64 (all k)] ?_ rfl ?_ ?_ (by decide) ?_ ?_ ?_ (w2.heap.size + 1) ?_ ?_
            · simp [Act.eval]
            · simp [Act.eval]
            · intro jj u hu; rw [WideShapes.add_plain]; exact HNW.out.range jj u hu
            · intro u hu; simp at hu; rcases hu with rfl | rfl <;> rfl
            · unfold maxLen; omega
            · omega
            · have:=HB2.out.size; simp; omega
            · simp
            intro g' cap' w3 hown' hgrow hat hlt'
            have hxr:some X ≠ lv.ownBlock:=fun e => Ty.ne ⟨_,HX2.out⟩ (own_ty HO2.out e.symm) (by decide) rfl
            have hx3:=HX2.out.grown hgrow hxr
            have y0:w3.cell? ⟨X,2,none⟩ = some lv:=(hx3.cell 2).trans rfl
            have yf:=hx3.frozen 2
            replace hx3:=Lib.hid hx3
            replace hown':=Lib.hid hown'
            replace hgrow:=Lib.hid hgrow))
       all_goals
         clear y0 yf x2 x2a x0 b0 b1 b2 b3
         have hM2:Most W.drew (w2.alloc (.cells #[.slice (some ⟨gl,0,none⟩) L.c cl,.int .i64 (all k)] 84)):=(Most.of_below hb2.out).trans (Most.of_below ((Below.refl w2.heap.size w2).alloc (Nat.le_refl _) (.cells #[.slice (some ⟨gl,0,none⟩) L.c cl,.int .i64 (all k)] 84)))
         have hM3:Most W.drew (w3.setCell ⟨X,2,none⟩ (.slice (some ⟨g',0,none⟩) (k + 1) cap')):=(hM2.trans (Most.grown hgrow.out HO2.out)).trans (Most.set ⟨_,hx3.out⟩ 2 _)
         have hM4:Most w2 (w3.setCell ⟨X,2,none⟩ (.slice (some ⟨g',0,none⟩) (k + 1) cap')):=((Most.of_below ((Below.refl w2.heap.size w2).alloc (Nat.le_refl _) (.cells #[.slice (some ⟨gl,0,none⟩) L.c cl,.int .i64 (all k)] 84))).trans (Most.grown hgrow.out HO2.out)).trans (Most.set ⟨_,hx3.out⟩ 2 _)
         have HB4:=Lib.hid (((HB2.out.alloc HB2.out.size (.cells #[.slice (some ⟨gl,0,none⟩) L.c cl,.int .i64 (all k)] 84)).grown hgrow.out (by have:=HB2.out.size; simp; omega) (fun q hq => own_ge HO2.out hq)).setCell (p:=⟨X,2,none⟩) hs1 (.slice (some ⟨g',0,none⟩) (k + 1) cap'))
         have hL4:∀ i,i < k + 1→ShoAt (w3.setCell ⟨X,2,none⟩ (.slice (some ⟨g',0,none⟩) (k + 1) cap')) L.c (if i = k then gl else sb i) (f i)∧w.heap.size≤(if i = k then gl else sb i):=by
          intro i hi
          by_cases e:i = k
          · subst e
            rw [if_pos rfl]
            exact ⟨ShoAt.most ⟨hrow.out,hty.out⟩ hM4,Nat.le_trans HBD.out.size hgl.out⟩
          · rw [if_neg e]
            exact ⟨(HLD.out i (by omega)).most hM3,(HLN.out i (by omega)).2⟩
         have hO4:(w3.setCell ⟨X,2,none⟩ (.slice (some ⟨g',0,none⟩) (k + 1) cap')).ownsRow w.heap.size 84 2 (.slice (some ⟨g',0,none⟩) (k + 1) cap') (k + 1) (flatK 2 (k + 1) (limF L.c (fun i => if i = k then gl else sb i) (fun i => if i = k then cl else sc i) all)):=by
          have h1:=own_far hown'.out (b:=X) (fun q hq e => Ty.ne (own_ty hown'.out hq) ⟨_,hx3.out⟩ (by decide) e) 2 (.slice (some ⟨g',0,none⟩) (k + 1) cap')
          rw [flatK_two,flatK_congr (g:=limF L.c sb sc all) (fun i j hi _ => by simp [limF,show i ≠ k by omega])]
          have e1:limF L.c (fun i => if i = k then gl else sb i) (fun i => if i = k then cl else sc i) all k 0 = .slice (some ⟨gl,0,none⟩) L.c cl:=by simp [limF]
          have e2:limF L.c (fun i => if i = k then gl else sb i) (fun i => if i = k then cl else sc i) all k 1 = .int .i64 (all k):=by simp [limF]
          rw [e1,e2]
          exact h1
         have HX4:=Lib.hid (hx3.out.set 2 (.slice (some ⟨g',0,none⟩) (k + 1) cap'))
         have HR4:=Lib.hid (HRD.out.most hM3 HB4.out)
         have HL4:=Lib.hid hL4
         have HO4:=Lib.hid hO4
         clear hL4 hO4 hgrow hown' hx3 HNW HO2 HX2 hxr hat hlt' hM2 hM3 hM4
         generalize w3.setCell ⟨X,2,none⟩ (.slice (some ⟨g',0,none⟩) (k + 1) cap') = w4 at HX4 HB4 HL4 HO4 HR4 ⊢
         go_wp2
         go_roundw
         case rel => exact ⟨k + 1,_,_,_,by omega,by go_num,HX4,HO4,HL4,HR4,HB4⟩
         case measure => simp [intOf]; omega
     · obtain rfl:k = L.n:=by omega
       have hn1:=HL.out.2.n1
       obtain ⟨lb,lc,he,hlb,hlc2⟩:=HOWN.out.form (by omega)
       subst he
       have HRW:=Lib.hid (RowK.of_own HOWN.out)
       have HTY:=Lib.hid (Ty.of_own HOWN.out)
       have hg:=HR.out.guard (g:=X) (lb:=lb) (lc:=lc) (sb:=sb) (sc:=sc) (f:=f) (all:=all) rfl rfl HL.out.2 HCK.out.ok HX.out HRW.out.1 HTY.out (fun i hi => (HLN.out i hi).1) (fun i hi => by
        obtain ⟨_,h6,h64⟩:=HLS.out.sl i hi
        obtain ⟨e,_,hf⟩:=HFIT.out i hi
        rw [e] at h64 hf
        exact ⟨h6,fun j hj => ⟨hf j hj,h64 j hj⟩⟩)
       have HJ:=Lib.hid (Bk.judge hg)
       have HGO:=Lib.hid (show ∀ q,Gh.own ⟨X,l,r,cap,wb,.slice (some ⟨tb,0,none⟩) L.c tc,ab,ca,lb,lc,fb,L.n,A,bm,gw,gs,sb,sc⟩ L.n q→q = l∨q = r∨w.heap.size≤q from by
        rintro q (rfl | rfl | rfl | rfl | rfl | rfl | rfl | ⟨o,c,m',he⟩ | ⟨j,hj,rfl | rfl | rfl | rfl⟩)
        · exact .inr (.inr hs1)
        · exact .inl rfl
        · exact .inr (.inl rfl)
        · exact .inr (.inr HR.out.wor.hw)
        · exact .inr (.inr HR.out.wor.ha)
        · exact .inr (.inr hlb)
        · exact .inr (.inr HR.out.hf)
        · injection he with e1
          injection e1 with e2
          injection e2 with e3
          exact .inr (.inr (e3 ▸ HR.out.wor.ht))
        · exact .inr (.inr (HR.out.acc.ge j hj).1)
        · exact .inr (.inr (HR.out.acc.ge j hj).2.1)
        · exact .inr (.inr (HR.out.acc.ge j hj).2.2)
        · exact .inr (.inr (HLN.out j hj).2))
       clear hg
       go_wp2_with fail
       refine HJ.out.mono ?_
       rintro e w9 ⟨fl,rfl,hg9,hj9,hs9⟩
       have HG9:=Lib.hid hg9
       have HJ9:=Lib.hid hj9
       have HB9:=Lib.hid (show Kept (Pair l r) w w9 from ⟨hs9.kept.os.trans HB.out.os,hs9.kept.tape.trans HB.out.tape,hs9.kept.output.trans HB.out.output,Nat.le_trans HB.out.size hs9.kept.size,fun q hq hn => (hs9.kept.block q (Nat.lt_of_lt_of_le hq HB.out.size) (fun ho => by
        rcases HGO.out q ho with e | e | e
        · exact hn (.inl e)
        · exact hn (.inr e)
        · omega)).trans (HB.out.block q hq)⟩)
       clear hg9 hj9 hs9
       go_wp2
       go_ret2
       exact ⟨0,by omega,by omega,HB9.out,fun h => absurd rfl h,fun _ _ => rfl,fun _ => ⟨_,_,rfl,HG9.out,HJ9.out,rfl,rfl,rfl,rfl,rfl,HGO.out⟩⟩
 · have hee:=hno a1
   subst hee
   have a4:(c != 0) = true:=by simpa using a1
   have HA:=Lib.hid a1
   clear a1
   go_wp2
   go_ret2
   exact ⟨c,hc0,hc1,Kept.of_below HB1.out,fun _ => rfl,fun h _ => HONE.out h,fun h => absurd h HA.out⟩
end Go.Proofs.YtgcnnbjbdfgglaaGreat
