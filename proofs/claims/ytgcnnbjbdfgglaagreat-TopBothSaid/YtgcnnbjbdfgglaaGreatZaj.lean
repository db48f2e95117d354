/- LAW TopBoth: of every configuration of a bank and every list of byte strings the given function TopBoth returns true and leaves its arguments as they were; no condition. A part of what it needs. -/
import Derived.Test.YtgcnnbjbdfgglaaGreatZai
import Derived.Laws.MakeOwn
import Derived.Laws.StructEq
namespace Go.Proofs.YtgcnnbjbdfgglaaGreat
open Go.RowKit
def zeroRow:Array Value:=#[.int .i64 0,.int .i64 0,.int .i64 0,.int .i64 0,.int .i64 0,.int .i64 0,.int .i64 0,.int .i64 0]
theorem Bk.makeRow (n:Nat) (hn:n≤16) (w:World):(Instr.makeSlice 142 (.int .i64 n) (.int .i64 n)).run Tryz.prog w = .ok (.slice (some ⟨w.heap.size,0,none⟩) n n) (w.alloc (.cells (madeCells zeroRow (n * 8)) 144)):=by
  obtain ⟨i0,hi,hz0,hz1,hz2⟩:=info_parts Bk.infoRow
  have:=run_make (P:=Tryz.prog) w 142 144 i0 _ Tryz.underlying142 hi hz0 .i64 .i64 n n (by omega) (Int.le_refl _) (by rw [hz2]; omega) (by omega)
  rw [hz1] at this
  simp only [Int.toNat_natCast] at this
  exact this
theorem made_rows (w:World) (n:Nat):RowsAt (w.alloc (.cells (madeCells zeroRow (n * 8)) 144)) w.heap.size n (fun _ _ => 0):=by
  refine ⟨_,_,heap_alloc_new _ _,fun m k hm hk => ?_⟩
  have h1:m * 8 + k < n * 8:=by omega
  have h2:(m * 8 + k) % 8 = k:=by omega
  have h3:(Array.range (n * 8))[m * 8 + k]? = some (m * 8 + k):=by simp [h1]
  unfold madeCells
  rw [Array.getElem?_map,h3]
  show some (zeroRow.getD ((m * 8 + k) % 8) default) = _
  rw [h2]
  rcases eight hk with rfl | rfl | rfl | rfl | rfl | rfl | rfl | rfl <;> rfl
def Led.zero (N C:Nat):Led:=⟨N,C,fun _ _ => 0,fun _ => 0⟩
theorem Led.zero_ok {N C:Nat} (h:1≤N∧N≤16) (h2:1≤C∧C≤8):(Led.zero N C).Ok:=⟨h.1,h.2,h2.1,h2.2,fun _ _ _ _ => by unfold In64 Led.zero; simp,fun _ _ => by unfold In64 Led.zero; simp⟩
def LnPost (N C:Nat) (w:World) (e:Ending) (w':World):Prop:=∃ l r,e = .returned (.tuple #[.pointer (some ⟨l,0,none⟩),.int .i64 0])∧LedAt w' l r N (Led.zero N C)∧w.heap.size≤l∧w.heap.size≤r∧Below w.heap.size w w'
set_option maxRecDepth 100000 in
set_option maxHeartbeats 1000000 in
theorem Bk.lnew (w:World) (N C:Nat) (h:1≤N∧N≤16) (h2:1≤C∧C≤8):Calls Tryz.prog 49 #[.int .i64 N,.int .i64 C] w (LnPost N C w):=by
  have q1:¬ ((N:Int) < 1):=by omega
  have q2:¬ (16 < (N:Int)):=by omega
  have q3:¬ ((C:Int) < 1):=by omega
  have q4:¬ (8 < (C:Int)):=by omega
  have HH:=Lib.hid h
  have hmk:=Bk.makeRow N h.2
  clear h h2
  go_enter Tryz.func49,Tryz.ntmps49
  go_wp2
  go_ret2
  have hA:=(Below.refl w.heap.size w).alloc (Nat.le_refl _) (.cells (madeCells zeroRow (N * 8)) 144)
  refine ⟨w.heap.size + 1,w.heap.size,rfl,⟨?_,?_,by omega,Nat.le_refl _,?_⟩,by omega,by omega,hA.alloc (by simp) _⟩
  · have:=heap_alloc_new (w.alloc (.cells (madeCells zeroRow (N * 8)) 144)) (.cells ((Led.zero N C).cells w.heap.size N) 146)
    rw [World.size_alloc] at this
    exact this
  · exact (made_rows w N).below ((Below.refl _ _).alloc (Nat.le_refl _) _)
  · exact Ty.below ⟨_,heap_alloc_new w _⟩ ((Below.refl _ _).alloc (Nat.le_refl _) _)
set_option maxRecDepth 100000 in
set_option maxHeartbeats 1000000 in
theorem Bk.lnewNo (w:World) (n c:Int) (h:n < 1∨16 < n∨c < 1∨8 < c):Calls Tryz.prog 49 #[.int .i64 n,.int .i64 c] w fun e w' => e = .returned (.tuple #[.pointer none,.int .i64 1])∧w' = w:=by
  by_cases h1:n < 1
  · clear h
    go_enter Tryz.func49,Tryz.ntmps49
    go_wp2
    go_ret2
    exact ⟨rfl,rfl⟩
  · by_cases h2:16 < n
    · clear h
      go_enter Tryz.func49,Tryz.ntmps49
      go_wp2
      go_ret2
      exact ⟨rfl,rfl⟩
    · by_cases h3:c < 1
      · clear h
        go_enter Tryz.func49,Tryz.ntmps49
        go_wp2
        go_ret2
        exact ⟨rfl,rfl⟩
      · have h4:8 < c:=by omega
        clear h
        go_enter Tryz.func49,Tryz.ntmps49
        go_wp2
        go_ret2
        exact ⟨rfl,rfl⟩
structure RdP (H:World) (l r bL bR N C:Nat) (L:Led) (w:World):Prop where
  led:LedAt w l r N L
  ok:L.Ok
  n:L.n = N
  c:L.c = C
  bl:Blk w bL 77 #[.pointer (some ⟨l,0,none⟩)]
  br:Ty w bR 9
  bel:Below H.heap.size H w
theorem RdP.below {H:World} {l r bL bR N C:Nat} {L:Led} {w w':World} (h:RdP H l r bL bR N C L w) (hb:Below w.heap.size w w'):RdP H l r bL bR N C L w' :=
  ⟨h.led.below hb,h.ok,h.n,h.c,h.bl.below hb,h.br.below hb,h.bel.trans (hb.mono h.bel.size)⟩
theorem own_tyL {w:World} {B e K n:Nat} {v:Value} {xs:List Value} (h:w.ownsRow B e K v n xs) {k:Nat} (hk:v.ownBlock = some k):Ty w k e:=by
  rcases h.2 with ⟨rfl,_⟩ | ⟨g,cap,cur,rfl,_,hc,_⟩
  · simp [Value.ownBlock] at hk
  · simp [Value.ownBlock] at hk
    subst hk
    exact ⟨_,hc⟩
theorem RdP.grown {H:World} {l r bL bR N C:Nat} {L:Led} {w w':World} {row:Option Nat} (h:RdP H l r bL bR N C L w) (hg:w.grownBy w' row) (hr:∀ k,row = some k→Ty w k 2∧H.heap.size≤k):RdP H l r bL bR N C L w':=by
  have hb:∀ k T,Ty w k T→T ≠ 2→w'.heap[k]? = w.heap[k]?:=fun k T ht hT => hg.block k ht.lt (fun e => ht.ne (hr k e.symm).1 hT rfl)
  exact ⟨h.led.same (hb _ _ ⟨_,h.led.hl⟩ (by decide)) (hb _ _ h.led.ty (by decide)),h.ok,h.n,h.c,(hb _ _ ⟨_,h.bl⟩ (by decide)).trans h.bl,h.br.same (hb _ _ h.br (by decide)),h.bel.grown hg h.bel.size (fun k e => (hr k e).2)⟩
theorem NumsAt.grown {w w':World} {g n:Nat} {T:TypeId} {row:Option Nat} (h:NumsAt w g T n) (hg:w.grownBy w' row) (hr:∀ k,row = some k→Ty w k 2) (hT:T ≠ 2):NumsAt w' g T n:=by
  obtain ⟨cs,h1,h2⟩:=h
  exact ⟨cs,by rw [hg.block g (Array.getElem?_eq_some_iff.1 h1).1 (fun e => Ty.ne ⟨_,h1⟩ (hr g e.symm) hT rfl)]; exact h1,h2⟩
theorem NumsAt.set {w:World} {g n:Nat} {T:TypeId} (h:NumsAt w g T n) (j:Nat) (x:Int):NumsAt (w.setCell ⟨g,j,none⟩ (.int .i64 x)) g T n:=by
  obtain ⟨cs,h1,h2⟩:=h
  refine ⟨_,heap_setCell_same w g j _ _ _ h1,fun i hi => ?_⟩
  obtain ⟨y,hy⟩:=h2 i hi
  by_cases e:j = i
  · subst e
    exact ⟨x,by simp [(Array.getElem?_eq_some_iff.1 hy).1]⟩
  · exact ⟨y,by simp [e,hy]⟩
theorem RdP.far {H:World} {l r bL bR N C:Nat} {L:Led} {w:World} (h:RdP H l r bL bR N C L w) {g:Nat} (h1:g ≠ l) (h2:g ≠ r) (h3:g ≠ bL) (hg:H.heap.size≤g) (o:Nat) (v:Value):RdP H l r bL bR N C L (w.setCell ⟨g,o,none⟩ v) :=
  ⟨h.led.far h1 h2 _ _,h.ok,h.n,h.c,h.bl.far h3 _ _,h.br.set _ _ _,h.bel.setCell (p:=⟨g,o,none⟩) hg _⟩
def RdE (H:World) (l r bL bR N C:Nat) (w:World):Prop:=∃ L,RdP H l r bL bR N C L w
theorem Led.ok_setN {L:Led} (h:L.Ok) (k:Nat) {x:Int} (hx:In64 x):(L.setN k x).Ok:=⟨h.n1,h.n16,h.c1,h.c8,h.b64,fun j hj => by
  show In64 (if j = k then x else L.nos j)
  split
  · exact hx
  · exact h.n64 j hj⟩
theorem Led.ok_setB {L:Led} (h:L.Ok) (i k:Nat) {x:Int} (hx:In64 x):(L.setB i k x).Ok:=⟨h.n1,h.n16,h.c1,h.c8,fun m j hm hj => by
  show In64 (if m = i∧j = k then x else L.bal m j)
  split
  · exact hx
  · exact h.b64 m j hm hj,h.n64⟩
theorem RdE.tkN {H:World} {l r bL bR N C:Nat} (hl:H.heap.size≤l) (hR:H.heap.size≤bR) (hne:l ≠ bR):TkP (RdE H l r bL bR N C) l bL bR l 1 C where
  cL w h:=by obtain ⟨L,h⟩:=h; exact (h.bl.cell 0).trans rfl
  cC w h:=by obtain ⟨L,h⟩:=h; rw [h.led.cc,h.c]
  cg w k h hk:=by obtain ⟨L,h⟩:=h; exact ⟨_,h.led.cn hk⟩
  fg w j h:=by obtain ⟨L,h⟩:=h; exact h.led.fl j
  bel w w' h hb:=by obtain ⟨L,h⟩:=h; exact ⟨L,h.below hb⟩
  set w k x hk hx h:=by
    obtain ⟨L,h⟩:=h
    have hbl:bL ≠ l:=Ty.ne ⟨_,h.bl⟩ ⟨_,h.led.hl⟩ (by decide)
    exact ⟨L.setN k x,h.led.setn hk x,Led.ok_setN h.ok k hx,h.n,h.c,h.bl.far hbl.symm _ _,h.br.set _ _ _,h.bel.setCell (p:=⟨l,1 + k,none⟩) hl _⟩
  box w v h:=by
    obtain ⟨L,h⟩:=h
    have h1:bR ≠ l:=Ty.ne h.br ⟨_,h.led.hl⟩ (by decide)
    have h2:bR ≠ r:=Ty.ne h.br h.led.ty (by decide)
    have h3:bR ≠ bL:=Ty.ne h.br ⟨_,h.bl⟩ (by decide)
    exact ⟨L,h.led.far h1 h2 _ _,h.ok,h.n,h.c,h.bl.far h3 _ _,h.br.set _ _ _,h.bel.setCell (p:=⟨bR,0,none⟩) hR _⟩
  ne:=hne
theorem RdE.tkB {H:World} {l r bL bR N C m:Nat} (hl:H.heap.size≤r) (hR:H.heap.size≤bR) (hne:r ≠ bR) (hm:m < N):TkP (RdE H l r bL bR N C) l bL bR r (m * 8) C where
  cL w h:=by obtain ⟨L,h⟩:=h; exact (h.bl.cell 0).trans rfl
  cC w h:=by obtain ⟨L,h⟩:=h; rw [h.led.cc,h.c]
  cg w k h hk:=by obtain ⟨L,h⟩:=h; exact ⟨_,h.led.cb (by rw [h.n]; exact hm) hk⟩
  fg w j h:=by obtain ⟨L,h⟩:=h; exact h.led.fr j
  bel w w' h hb:=by obtain ⟨L,h⟩:=h; exact ⟨L,h.below hb⟩
  set w k x hk hx h:=by
    obtain ⟨L,h⟩:=h
    have hbl:bL ≠ r:=Ty.ne ⟨_,h.bl⟩ h.led.ty (by decide)
    exact ⟨L.setB m k x,h.led.setb (by rw [h.n]; exact hm) hk x,Led.ok_setB h.ok m k hx,h.n,h.c,h.bl.far hbl.symm _ _,h.br.set _ _ _,h.bel.setCell (p:=⟨r,m * 8 + k,none⟩) hl _⟩
  box w v h:=by
    obtain ⟨L,h⟩:=h
    have h1:bR ≠ l:=Ty.ne h.br ⟨_,h.led.hl⟩ (by decide)
    have h2:bR ≠ r:=Ty.ne h.br h.led.ty (by decide)
    have h3:bR ≠ bL:=Ty.ne h.br ⟨_,h.bl⟩ (by decide)
    exact ⟨L,h.led.far h1 h2 _ _,h.ok,h.n,h.c,h.bl.far h3 _ _,h.br.set _ _ _,h.bel.setCell (p:=⟨bR,0,none⟩) hR _⟩
  ne:=hne
set_option maxRecDepth 100000 in
theorem Bk.eqRowD (d:Nat) (x0 x1 x2 x3 x4 x5 x6 x7 y0 y1 y2 y3 y4 y5 y6 y7:Int) (w:World):(Op.equalIn (d + 1 + 1) 144 (.agg #[.int .i64 x0,.int .i64 x1,.int .i64 x2,.int .i64 x3,.int .i64 x4,.int .i64 x5,.int .i64 x6,.int .i64 x7]) (.agg #[.int .i64 y0,.int .i64 y1,.int .i64 y2,.int .i64 y3,.int .i64 y4,.int .i64 y5,.int .i64 y6,.int .i64 y7])).run Tryz.prog w = .ok (x0 == y0 && (x1 == y1 && (x2 == y2 && (x3 == y3 && (x4 == y4 && (x5 == y5 && (x6 == y6 && x7 == y7))))))) w:=by
  have hu:=Tryz.underlying144
  have hs:=Tryz.sizeOf2
  have ha:=Tryz.isAgg2
  have h2:=Tryz.underlying2
  have he:∀ (a b:Int) (w:World),(Op.equalIn (d + 1) 2 (.int .i64 a) (.int .i64 b)).run Tryz.prog w = .ok (a == b) w:=fun a b w => run_equalIn_int w d 2 .i64 .i64 a b h2
  rw [Op.equalIn]
  simp only [Sem.run_bind,run_underlying hu,Result.andThen_ok,hs]
  rw [Std.Legacy.Range.forIn_eq_forIn_range']
  rw [show List.range' ([0:8]:Std.Legacy.Range).start ([0:8]:Std.Legacy.Range).size ([0:8]:Std.Legacy.Range).step = [0,1,2,3,4,5,6,7] from rfl]
  simp only [List.forIn_cons,List.forIn_nil,Sem.run_bind]
  cases h0:(x0 == y0)
  · simp [Go.part,ha,he,h0]
  · skip
    cases h1:(x1 == y1)
    · simp [Go.part,ha,he,h0,h1]
    · skip
      cases h2:(x2 == y2)
      · simp [Go.part,ha,he,h0,h1,h2]
      · skip
        cases h3:(x3 == y3)
        · simp [Go.part,ha,he,h0,h1,h2,h3]
        · skip
          cases h4:(x4 == y4)
          · simp [Go.part,ha,he,h0,h1,h2,h3,h4]
          · skip
            cases h5:(x5 == y5)
            · simp [Go.part,ha,he,h0,h1,h2,h3,h4,h5]
            · skip
              cases h6:(x6 == y6)
              · simp [Go.part,ha,he,h0,h1,h2,h3,h4,h5,h6]
              · skip
                cases h7:(x7 == y7)
                · simp [Go.part,ha,he,h0,h1,h2,h3,h4,h5,h6,h7]
                · simp [Go.part,ha,he,h0,h1,h2,h3,h4,h5,h6,h7]
set_option maxRecDepth 100000 in
theorem Bk.neqRow (x0 x1 x2 x3 x4 x5 x6 x7 y0 y1 y2 y3 y4 y5 y6 y7:Int):∃ b,∀ w,(binOp .neq 144 (.agg #[.int .i64 x0,.int .i64 x1,.int .i64 x2,.int .i64 x3,.int .i64 x4,.int .i64 x5,.int .i64 x6,.int .i64 x7]) (.agg #[.int .i64 y0,.int .i64 y1,.int .i64 y2,.int .i64 y3,.int .i64 y4,.int .i64 y5,.int .i64 y6,.int .i64 y7])).run Tryz.prog w = .ok (.bool b) w:=by
  refine ⟨!(x0 == y0 && (x1 == y1 && (x2 == y2 && (x3 == y3 && (x4 == y4 && (x5 == y5 && (x6 == y6 && x7 == y7))))))),fun w => ?_⟩
  have he:=Bk.eqRowD 9998 x0 x1 x2 x3 x4 x5 x6 x7 y0 y1 y2 y3 y4 y5 y6 y7 w
  go_simp
def LrPost (w:World) (e:Ending) (w':World):Prop:=∃ v x,e = .returned (.tuple #[v,.int .i64 x])∧0≤x∧x≤12∧Below w.heap.size w w'∧(x = 0→∃ l r cap L,v = .pointer (some ⟨l,0,none⟩)∧LedAt w' l r cap L∧L.Ok∧w.heap.size≤l∧w.heap.size≤r)
theorem LrPost.no {w w':World} {x:Int} (h0:0 < x) (h1:x≤12) (hb:Below w.heap.size w w'):LrPost w (.returned (.tuple #[.pointer none,.int .i64 x])) w':=⟨_,x,rfl,by omega,h1,hb,fun h => by omega⟩
set_option maxRecDepth 100000 in
set_option maxHeartbeats 4000000 in
theorem Bk.lread (w:World) (s:List UInt8) (hs:(s.length:Int)≤2000):Calls Tryz.prog 114 #[.string ⟨s.toArray⟩] w (LrPost w):=by
  have hsz:(⟨s.toArray⟩:ByteArray).size = s.length:=by rw [ByteArray.size]; simp
  by_cases h2:s.length < 2
  · have h2i:(s.length:Int) < 2:=by omega
    clear h2
    go_enter Tryz.func114,Tryz.ntmps114
    go_wp2
    go_ret2
    exact LrPost.no (by omega) (by omega) (Below.refl _ _)
  · have h2i:¬ (s.length:Int) < 2:=by omega
    have h2l:(2:Int)≤s.length:=by omega
    have hget:∀ j (hj:j < s.length),IntKind.i64.wrap (((⟨s.toArray⟩:ByteArray)[j]'(by show j < s.length; exact hj)).toNat:Int) = ((s.getD j 0).toNat:Int):=fun j hj => by
      have h:((⟨s.toArray⟩:ByteArray)[j]'(by show j < s.length; exact hj)) = s.getD j 0:=by
        show s[j] = s.getD j 0
        simp [List.getD,hj]
      rw [h]
      have:=UInt8.toNat_lt (s.getD j 0)
      exact IntWalk.i64_in _ (by omega)
    have b0:(0:Int) < s.length:=by omega
    have b1:(1:Int) < s.length:=by omega
    have hw0:=hget 0 (by omega)
    have hw1:=hget 1 (by omega)
    generalize (s.getD 0 0).toNat = N at *
    generalize (s.getD 1 0).toNat = C at *
    clear hget
    by_cases hok:(1≤N∧N≤16)∧1≤C∧C≤8
    · have HN:=Lib.hid (fun wx => Bk.lnew wx N C hok.1 hok.2)
      have HOK:=Lib.hid hok
      clear hok
      go_enter Tryz.func114,Tryz.ntmps114
      go_upto_region 3 with (fail)
      go_cut [4,5] (fun p c wx => ∃ bL l r,p = .pointer (some ⟨bL,0,none⟩)∧c = .int .i64 0∧Blk wx bL 77 #[.pointer (some ⟨l,0,none⟩)]∧LedAt wx l r N (Led.zero N C)∧w.heap.size≤l∧w.heap.size≤r∧w.heap.size≤bL∧Below w.heap.size w wx)
      case first =>
        have HB0:=Lib.hid (Below.refl w.heap.size w).drew
        have HB1:=Lib.hid (((Below.refl w.heap.size w).alloc (Nat.le_refl _) (.cells #[.pointer none] 77)).drew)
        have HB0':=Lib.hid (Below.refl w.heap.size w)
        have HB1':=Lib.hid (((Below.refl w.heap.size w).alloc (Nat.le_refl _) (.cells #[.pointer none] 77)))
        have HNB:=Lib.hid (show Blk ((w.alloc (.cells #[.pointer none] 77)).drew) w.heap.size 77 #[.pointer none] from Blk.new w 77 #[.pointer none])
        go_region_held (fun wx => Below w.heap.size w wx) (first | assumption | exact HB0.out | exact HB1.out | exact HB0'.out | exact HB1'.out | exact HB0.out.trans (hb1.mono HB0.out.size) | exact HB1.out.trans (hb1.mono HB1.out.size) | exact HB0'.out.trans (hb1.mono HB0'.out.size) | exact HB1'.out.trans (hb1.mono HB1'.out.size) | exact (HB0.out.trans (hb1.mono HB0.out.size)).alloc (Nat.le_trans HB0.out.size hb1.size) _ | exact (HB1.out.trans (hb1.mono HB1.out.size)).setCell (Nat.le_refl _) _) (first | (go_at_call 49; refine (HN.out _).mono ?_; rintro e w1 ⟨l,r,rfl,hl,hl1,hr1,hb1⟩; (try have hz:=HNB.out.below hb1); (try have k0:=hz.cell 0); (try have kf:=hz.frozen 0)))
        all_goals
          go_wp2_with fail
          go_meet
          rename_i hs
          first
            | exact ⟨_,l,r,rfl,rfl,Blk.new _ _ _,hl.below ((Below.refl _ _).alloc (Nat.le_refl _) _),hl1,hr1,hb1.size,hs⟩
            | exact ⟨_,l,r,rfl,rfl,(show Blk w1 w.heap.size _ _ from hz).set 0 _,hl.far (by have h:=hl1; simp at h; omega) (by have h:=hr1; simp at h; omega) _ _,(by have h:=hl1; simp at h; omega),(by have h:=hr1; simp at h; omega),Nat.le_refl _,hs⟩
      case rest =>
        obtain ⟨bL,l,r,rfl,rfl,hbl,hl,hl1,hr1,hbL,hbel⟩:=hcut
        have n16:=HOK.out.1.2
        have c8:=HOK.out.2.2
        have k0:=(hbl.cell 0).trans rfl
        have k9:=hl.cc
        have kr:=hl.c0
        have HBL:=Lib.hid hbl
        have HLD:=Lib.hid hl
        have HSZ:=Lib.hid (And.intro hl1 (And.intro hr1 hbL))
        have HBE:=Lib.hid hbel
        have q1:(N:Int)≤16:=by omega
        have q2:(C:Int)≤8:=by omega
        replace k9:World.cell? _ ⟨l,9,none⟩ = some (.int .i64 C):=k9
        replace kr:World.cell? _ ⟨l,0,none⟩ = some (.slice (some ⟨r,0,none⟩) N N):=kr
        clear hbl hl hl1 hr1 hbL hbel n16 c8
        go_upto_region 4 with (fail)
        go_quiet (fail)
        have HBL2:=Lib.hid (show Blk (wc.drewN nq) bL 77 #[.pointer (some ⟨l,0,none⟩)] from HBL.out)
        have HLD2:=Lib.hid (show LedAt (wc.drewN nq) l r N (Led.zero N C) from HLD.out.same rfl rfl)
        have HBE2:=Lib.hid (show Below w.heap.size w (wc.drewN nq) from Bk.bdrew HBE.out nq)
        have k0:(wc.drewN nq).cell? ⟨bL,0,none⟩ = some (.pointer (some ⟨l,0,none⟩)):=(HBL2.out.cell 0).trans rfl
        have k9:(wc.drewN nq).cell? ⟨l,9,none⟩ = some (.int .i64 C):=HLD2.out.cc
        have kr:(wc.drewN nq).cell? ⟨l,0,none⟩ = some (.slice (some ⟨r,0,none⟩) N N):=HLD2.out.c0
        clear HBL HLD HBE
        generalize wc.drewN nq = wd at *
        cases hB:((s.length:Int) != wrap64 (2 + wrap64 (8 * (C:Int) * ((N:Int) + 1)))) with
        | true =>
          go_wp2
          go_ret2
          exact LrPost.no (by omega) (by omega) HBE2.out
        | false =>
          have hlen:s.length = 2 + (N + 1) * (C * 8):=by
            have h1:(s.length:Int) = wrap64 (2 + wrap64 (8 * (C:Int) * ((N:Int) + 1))):=by simpa using hB
            have h3:(N + 1) * (C * 8)≤17 * (8 * 8):=Nat.mul_le_mul (by omega) (by omega)
            have h4:8 * (C:Int) * ((N:Int) + 1) = ((N + 1) * (C * 8):Nat):=by push_cast; rw [Int.mul_comm,Int.mul_comm 8]
            rw [h4] at h1
            generalize (N + 1) * (C * 8) = K at *
            unfold wrap64 at h1
            omega
          have HLEN:=Lib.hid hlen
          have hext:(⟨s.toArray⟩:ByteArray).extract 2 s.length = ⟨(s.drop 2).toArray⟩:=by rw [ByteArray.extract_mk]; simp; exact List.take_of_length_le (by simp)
          have hA:=(Below.refl wd.heap.size wd).alloc (Nat.le_refl _) (.cells #[.string ⟨(s.drop 2).toArray⟩] 9)
          have HSB:=Lib.hid (show StrBox (wd.alloc (.cells #[.string ⟨(s.drop 2).toArray⟩] 9)) wd.heap.size (s.drop 2) from Blk.new wd _ _)
          have HP:=Lib.hid (show RdE w l r bL wd.heap.size N C (wd.alloc (.cells #[.string ⟨(s.drop 2).toArray⟩] 9)) from ⟨_,HLD2.out.below hA,Led.zero_ok HOK.out.1 HOK.out.2,rfl,rfl,HBL2.out.below hA,⟨_,heap_alloc_new _ _⟩,HBE2.out.trans (hA.mono HBE2.out.size)⟩)
          have HNE:=Lib.hid (show l ≠ wd.heap.size∧r ≠ wd.heap.size from ⟨Nat.ne_of_lt HLD2.out.llt,Nat.ne_of_lt HLD2.out.rlt⟩)
          have HWS:=Lib.hid (show w.heap.size≤wd.heap.size from HBE2.out.size)
          have j0:=Bk.kept hA k0
          clear hB hlen hA
          go_wp2_with fail
          generalize wd.heap.size = bR at *
          generalize wd.alloc (.cells #[.string ⟨(s.drop 2).toArray⟩] 9) = we at *
          have HT:=Lib.hid (Bk.ltake (RdE.tkN (r:=r) (bL:=bL) (N:=N) (C:=C) HSZ.out.1 HWS.out HNE.out.1) q2 HP.out (s.drop 2) HSB.out (N * (C * 8)) (by have:=HLEN.out; rw [Nat.succ_mul] at this; rw [List.length_drop]; omega) (by have:=HLEN.out; rw [Nat.succ_mul] at this; omega))
          clear k0 k9 kr hext
          refine HT.out.mono ?_
          rintro e wf ⟨s1,rfl,hp1,hs1,hl1⟩
          clear j0 HT HP HSB HBL2 HLD2 HBE2
          have HP1:=Lib.hid hp1
          have HS1:=Lib.hid hs1
          have HL1:=Lib.hid hl1
          obtain ⟨L1,hq⟩:=hp1
          have k0:=(hq.bl.cell 0).trans rfl
          have kr:=hq.led.c0
          rw [hq.n] at kr
          clear hq hs1 hl1
          go_wp2
          clear k0 kr
          go_loopw [61] (fun i wr => ∃ (m:Nat) (q:List UInt8),m≤N∧i = .int .i64 m∧RdE w l r bL bR N C wr∧StrBox wr bR q∧q.length = (N - m) * (C * 8)) (fun i _ => N - (intOf i).toNat)
          case atStart => exact ⟨0,s1,by omega,rfl,HP1.out,HS1.out,HL1.out⟩
          case round =>
            obtain ⟨m,q,hm,rfl,hp,hsb,hql⟩:=hrel
            have HPm:=Lib.hid hp
            have HSm:=Lib.hid hsb
            have HQ:=Lib.hid hql
            by_cases hlt:m < N
            · have q3:(m:Int) < (N:Int):=by omega
              obtain ⟨Lm,hq⟩:=hp
              have k0:=(hq.bl.cell 0).trans rfl
              have kr:=hq.led.c0
              rw [hq.n] at kr
              have HT:=Lib.hid (Bk.ltake (RdE.tkB (l:=l) (bL:=bL) (N:=N) (C:=C) HSZ.out.2.1 HWS.out HNE.out.2 hlt) q2 HPm.out q HSm.out ((N - (m + 1)) * (C * 8)) (by rw [HQ.out,show N - m = (N - (m + 1)) + 1 by omega,Nat.succ_mul]) (by
                have h1:(N - (m + 1)) * (C * 8)≤16 * (8 * 8):=Nat.mul_le_mul (by omega) (by omega)
                omega))
              clear hq hsb hql
              go_wp2_with fail
              refine HT.out.mono ?_
              rintro e wg ⟨s2,rfl,hp2,hs2,hl2⟩
              have HP2:=Lib.hid hp2
              have HS2:=Lib.hid hs2
              have HL2:=Lib.hid hl2
              clear k0 kr hp2 hs2 hl2 HT
              go_wp2
              go_roundw
              case rel => exact ⟨m + 1,s2,by omega,by go_num,HP2.out,HS2.out,HL2.out⟩
              case measure => simp [intOf]; omega
            · obtain rfl:m = N:=by omega
              obtain ⟨L2,hq⟩:=hp
              have HQ2:=Lib.hid hq
              clear hsb hql HPm HSm HQ HP1 HS1 HL1 HLEN
              have k0:=(hq.bl.cell 0).trans rfl
              have k9:=hq.led.cc
              rw [hq.c] at k9
              have hA:=(Below.refl wr.heap.size wr).alloc (Nat.le_refl _) (.cells zeroRow 144)
              have HA:=Lib.hid hA
              have HQ3:=Lib.hid (hq.below hA)
              have j0:=Bk.kept hA k0
              have j9:=Bk.kept hA k9
              have HNS:=Lib.hid (show NumsAt (wr.alloc (.cells zeroRow 144)) wr.heap.size 144 8 from ⟨_,heap_alloc_new _ _,fun j hj => by rcases eight hj with rfl | rfl | rfl | rfl | rfl | rfl | rfl | rfl <;> exact ⟨_,rfl⟩⟩)
              have HSN:=Lib.hid (show r < wr.heap.size from hq.led.rlt)
              unfold zeroRow at hA j0 j9 HA HQ3 HNS
              clear hq hA
              go_wp2
              have HRT:=Lib.hid (show Ty (wr.alloc (.cells #[.int .i64 0,.int .i64 0,.int .i64 0,.int .i64 0,.int .i64 0,.int .i64 0,.int .i64 0,.int .i64 0] 144)) wr.heap.size 144 from ⟨_,heap_alloc_new _ _⟩)
              have HWR:=Lib.hid HQ2.out.bel.size
              have HRL:=Lib.hid (And.intro HQ2.out.led.llt (And.intro HQ2.out.led.rlt HQ2.out.bl.lt))
              clear k0 k9 j0 j9 HA HQ2 HSN
              generalize hbS:wr.heap.size = bS at *
              generalize wr.alloc (.cells #[.int .i64 0,.int .i64 0,.int .i64 0,.int .i64 0,.int .i64 0,.int .i64 0,.int .i64 0,.int .i64 0] 144) = wh at *
              clear hbS
              go_loopw [77] (fun i wx => ∃ k:Nat,k≤C∧i = .int .i64 k∧RdP w l r bL bR m C L2 wx∧NumsAt wx bS 144 8) (fun i _ => C - (intOf i).toNat)
              case atStart => exact ⟨0,by omega,rfl,HQ3.out,HNS.out⟩
              case round =>
                obtain ⟨k,hk,rfl,hq,hns⟩:=hrel
                have HQK:=Lib.hid hq
                have HNK:=Lib.hid hns
                have k0:=(hq.bl.cell 0).trans rfl
                have kr:=hq.led.c0
                rw [hq.n] at kr
                clear hq hns
                by_cases hlt2:k < C
                · have q4:(k:Int) < (C:Int):=by omega
                  go_wp2
                  clear k0 kr
                  go_loopw [11,85] (fun of i wy => ∃ (j:Nat) (zs:List Int),j≤m∧i = .int .i64 j∧wy.ownsRow w.heap.size 2 1 of zs.length (ints zs)∧zs.length≤j∧(∀ z ∈ zs,In64 z)∧RdP w l r bL bR m C L2 wy∧NumsAt wy bS 144 8) (fun _ i _ => m - (intOf i).toNat)
                  case atStart => exact ⟨0,[],by omega,rfl,World.ownsRow_nil _ _ _ _,by simp,by simp,HQK.out,HNK.out⟩
                  case round =>
                    obtain ⟨j,zs,hj,rfl,hown,hzl,hz,hq,hns⟩:=hrel
                    have HQJ:=Lib.hid hq
                    have HNJ:=Lib.hid hns
                    by_cases hlt3:j < m
                    · have q5:(j:Int) < (m:Int):=by omega
                      have k0:=(hq.bl.cell 0).trans rfl
                      have kr:=hq.led.c0
                      rw [hq.n] at kr
                      have kb:=hq.led.cb (m:=j) (k:=k) (by rw [hq.n]; exact hlt3) (by omega)
                      have HX:=Lib.hid (hq.ok.b64 j k (by rw [hq.n]; exact hlt3) (by omega))
                      generalize L2.bal j k = x at *
                      have HBS:=Lib.hid hq.bel.size
                      have HO:=Lib.hid hown
                      have HZ:=Lib.hid hz
                      have hbs:=hq.bel.size
                      obtain ⟨i0,hi,hz0,hz1,hz2⟩:=info_parts Bk.info64
                      clear hq hns hz
                      go_wp2_with (at_builtin; with_reducible refine wpList_append_own _ rfl (.tmp 88) (.tmp 98) 70 rfl w.heap.size 2 i0 (.int .i64 0) 1 8 Tryz.underlying70 hi hz0 hz1 hz2 rfl (by decide) _ _ _ rfl (hown.alloc _) ⟨wr.heap.size,0,none⟩ 1 1 [.int .i64 x] rfl rfl ?c1 ?c2 ?c3 ?c4 ?c5 ?_)
                      case c1 => exact cell_one_new _ _ _
                      case c2 => intro u hu; simp at hu; subst hu; rfl
                      case c3 => unfold maxLen; omega
                      case c4 => omega
                      case c5 => simp; omega
                      intro v' w1 hown' hgrow _
                      have hrow:w1.ownsRow w.heap.size 2 1 v' (zs ++ [x]).length (ints (zs ++ [x])):=by simpa [ints] using hown'
                      have HQ5:=Lib.hid ((HQJ.out.below ((Below.refl _ _).alloc (Nat.le_refl _) (.cells #[.int .i64 x] 2))).grown hgrow (fun q e => ⟨own_tyL (hown.alloc _) e,own_ge hown e⟩))
                      have HN5:=Lib.hid ((HNJ.out.below ((Below.refl _ _).alloc (Nat.le_refl _) (.cells #[.int .i64 x] 2))).grown hgrow (fun q e => own_tyL (hown.alloc _) e) (by decide))
                      have HRW:=Lib.hid hrow
                      clear hgrow hown' hown k0 kr kb hrow hbs
                      go_wp2
                      go_roundw
                      case rel => exact ⟨j + 1,zs ++ [x],by omega,by go_num,HRW.out,by simp; omega,fun z hz' => by rcases List.mem_append.1 hz' with h | h; exact HZ.out z h; simp at h; subst h; exact HX.out,HQ5.out,HN5.out⟩
                      case measure => simp [intOf]; omega
                    · obtain rfl:j = m:=by omega
                      have hsum:=Lib.hid (Bk.sum _ _ _ _ (own_slI hown) (by omega) (fun i hi => getD_all hz hi))
                      generalize tn (sumTo (fun i => zs.getD i 0) zs.length) = sn at *
                      generalize te (sumTo (fun i => zs.getD i 0) zs.length) = se at *
                      clear hq hns hown hz
                      by_cases hs0:se = 0
                      · subst hs0
                        obtain ⟨x,ex⟩:=HNJ.out.cell (j:=k) (by omega)
                        have fz:wr.frozen? ⟨bS,k,none⟩ = false:=by obtain ⟨cs,hcs,_⟩:=HNJ.out; exact frozen_of_row _ _ _ _ _ hcs
                        have HQ6:=Lib.hid (HQJ.out.far (by have:=HRL.out.1; omega) (by have:=HRL.out.2.1; omega) (by have:=HRL.out.2.2; omega) HWR.out k (.int .i64 sn))
                        have HN6:=Lib.hid (HNJ.out.set k sn)
                        go_wp2_with fail
                        refine hsum.out.mono ?_
                        rintro e w1 ⟨rfl,rfl⟩
                        go_wp2
                        go_roundw
                        case rel => exact ⟨k + 1,by omega,by go_num,HQ6.out,HN6.out⟩
                        case measure => simp [intOf]; omega
                      · have hs1:(se != 0) = true:=by simp [hs0]
                        clear hs0
                        go_wp2_with fail
                        refine hsum.out.mono ?_
                        rintro e w1 ⟨rfl,rfl⟩
                        go_wp2
                        go_ret2
                        exact LrPost.no (by omega) (by omega) HQJ.out.bel
                · obtain rfl:k = C:=by omega
                  obtain ⟨x0,ex0⟩:=HNK.out.cell (j:=0) (by omega)
                  obtain ⟨x1,ex1⟩:=HNK.out.cell (j:=1) (by omega)
                  obtain ⟨x2,ex2⟩:=HNK.out.cell (j:=2) (by omega)
                  obtain ⟨x3,ex3⟩:=HNK.out.cell (j:=3) (by omega)
                  obtain ⟨x4,ex4⟩:=HNK.out.cell (j:=4) (by omega)
                  obtain ⟨x5,ex5⟩:=HNK.out.cell (j:=5) (by omega)
                  obtain ⟨x6,ex6⟩:=HNK.out.cell (j:=6) (by omega)
                  obtain ⟨x7,ex7⟩:=HNK.out.cell (j:=7) (by omega)
                  have n0:=HQK.out.led.cn (show 0 < 8 by omega)
                  have n1:=HQK.out.led.cn (show 1 < 8 by omega)
                  have n2:=HQK.out.led.cn (show 2 < 8 by omega)
                  have n3:=HQK.out.led.cn (show 3 < 8 by omega)
                  have n4:=HQK.out.led.cn (show 4 < 8 by omega)
                  have n5:=HQK.out.led.cn (show 5 < 8 by omega)
                  have n6:=HQK.out.led.cn (show 6 < 8 by omega)
                  have n7:=HQK.out.led.cn (show 7 < 8 by omega)
                  obtain ⟨b,hneq⟩:=Bk.neqRow x0 x1 x2 x3 x4 x5 x6 x7 (L2.nos 0) (L2.nos 1) (L2.nos 2) (L2.nos 3) (L2.nos 4) (L2.nos 5) (L2.nos 6) (L2.nos 7)
                  simp only [Nat.reduceAdd] at n0 n1 n2 n3 n4 n5 n6 n7
                  clear kr
                  go_upto_region 29 with (fail)
                  go_quiet (fail)
                  have HQ7:=Lib.hid (HQK.out.below (Bk.bdrew (Below.refl _ _) nq))
                  cases b with
                  | true =>
                    go_wp2
                    go_ret2
                    exact LrPost.no (by omega) (by omega) HQ7.out.bel
                  | false =>
                    go_wp2
                    go_ret2
                    exact ⟨_,0,rfl,by omega,by omega,HQ7.out.bel,fun _ => ⟨l,r,_,L2,rfl,HQ7.out.led,HQ7.out.ok,HSZ.out.1,HSZ.out.2.1⟩⟩
    · have hbad:(N:Int) < 1∨16 < (N:Int)∨(C:Int) < 1∨8 < (C:Int):=by omega
      have HN:=Lib.hid (fun wx => Bk.lnewNo wx N C hbad)
      clear hok hbad
      go_enter Tryz.func114,Tryz.ntmps114
      go_upto_region 3 with (fail)
      go_cut [4,5] (fun p c wx => ∃ bL,p = .pointer (some ⟨bL,0,none⟩)∧c = .int .i64 1∧Below w.heap.size w wx)
      case first =>
        go_region_with (first | (go_at_call 49; refine (HN.out _).mono ?_; rintro e w1 ⟨rfl,rfl⟩))
        all_goals
          go_wp2_with fail
          go_meet
          first
            | exact ⟨_,rfl,rfl,((Below.refl _ _).alloc (Nat.le_refl _) _).drew⟩
            | exact ⟨_,rfl,rfl,((Below.refl _ _).drew.alloc (Nat.le_refl _) _)⟩
            | exact ⟨_,rfl,rfl,(((Below.refl _ _).alloc (Nat.le_refl _) _).drew).setCell (Nat.le_refl _) _⟩
      case rest =>
        obtain ⟨bL,rfl,rfl,hb⟩:=hcut
        go_upto_region 4 with (fail)
        go_quiet (fail)
        go_wp2
        go_ret2
        exact LrPost.no (by omega) (by omega) (Bk.bdrew hb nq)
end Go.Proofs.YtgcnnbjbdfgglaaGreat
