/- LAW TopBoth: of every configuration of a bank and every list of byte strings the given function TopBoth returns true and leaves its arguments as they were; no condition. A part of what it needs. -/
import Derived.Test.YtgcnnbjbdfgglaaGreatZac
import Derived.Laws.ResultCell
import Derived.Deep.MidRow
import Derived.Deep.LoopGhost
import Derived.Deep.DeepCutAuto
import Derived.Deep.CutBlock
namespace Go.Proofs.YtgcnnbjbdfgglaaGreat
open Go.RowKit
def fitsB (k:Nat) (r c:Int):Bool:=if k = 0 then decide (r = 10000∧c = 0) else decide (1≤r∧r≤100000000∧0≤c∧c≤10000)
theorem fitsB_ok {k:Nat} {r c:Int} (h:fitsB k r c = true):RateOk r c:=by
  unfold fitsB at h
  split at h
  · simp at h; exact ⟨by omega,by omega,by omega,by omega⟩
  · simp at h; exact ⟨by omega,by omega,by omega,by omega⟩
set_option maxRecDepth 100000 in
set_option maxHeartbeats 1000000 in
theorem Bk.fits (k:Nat) (s:ByteArray) (r c:Int) (w:World):Calls Tryz.prog 89 #[.int .i64 k,.agg #[.string s,.int .i64 r,.int .i64 c]] w fun e w' => e = .returned (.bool (fitsB k r c))∧Below w.heap.size w w':=by
  have hb:Below w.heap.size w (w.alloc (.cells #[.string s,.int .i64 r,.int .i64 c] 82)):=(Below.refl _ _).alloc (Nat.le_refl _) _
  by_cases hk:k = 0
  · subst hk
    have e0:fitsB 0 r c = decide (r = 10000∧c = 0):=rfl
    by_cases h1:r = 10000
    · by_cases h2:c = 0
      · have e1:fitsB 0 r c = true:=by rw [e0]; simp [h1,h2]
        rw [e1]
        subst h1 h2
        clear e0 e1
        go_enter Tryz.func89,Tryz.ntmps89
        go_wp2
        go_ret
        exact ⟨rfl,hb⟩
      · have e1:fitsB 0 r c = false:=by rw [e0]; simp [h2]
        rw [e1]
        have h3:(c == 0) = false:=by simp [h2]
        subst h1
        clear e0 e1
        go_enter Tryz.func89,Tryz.ntmps89
        go_wp2
        go_ret
        exact ⟨rfl,hb⟩
    · have e1:fitsB 0 r c = false:=by rw [e0]; simp [h1]
      rw [e1]
      have h3:(r == 10000) = false:=by simp [h1]
      clear e0 e1
      go_enter Tryz.func89,Tryz.ntmps89
      go_wp2
      go_ret
      exact ⟨rfl,hb⟩
  · have e0:fitsB k r c = decide (1≤r∧r≤100000000∧0≤c∧c≤10000):=by unfold fitsB; rw [if_neg hk]
    have hk2:((k:Int) == 0) = false:=by simp [hk]
    clear hk
    by_cases h:1≤r∧r≤100000000∧0≤c∧c≤10000
    · have e1:fitsB k r c = true:=by rw [e0]; exact decide_eq_true h
      rw [e1]
      clear e0 e1
      obtain ⟨h1,h2,h3,h4⟩:=h
      go_enter Tryz.func89,Tryz.ntmps89
      go_wp2
      go_ret
      exact ⟨rfl,hb⟩
    · have e1:fitsB k r c = false:=by rw [e0]; exact decide_eq_false h
      rw [e1]
      clear e0 e1
      by_cases h1:1≤r
      · by_cases h2:r≤100000000
        · by_cases h3:0≤c
          · have h4:¬ c≤10000:=fun h4 => h ⟨h1,h2,h3,h4⟩
            clear h
            go_enter Tryz.func89,Tryz.ntmps89
            go_wp2
            go_ret
            exact ⟨rfl,hb⟩
          · clear h
            go_enter Tryz.func89,Tryz.ntmps89
            go_wp2
            go_ret
            exact ⟨rfl,hb⟩
        · clear h
          go_enter Tryz.func89,Tryz.ntmps89
          go_wp2
          go_ret
          exact ⟨rfl,hb⟩
      · clear h
        go_enter Tryz.func89,Tryz.ntmps89
        go_wp2
        go_ret
        exact ⟨rfl,hb⟩
def Rates.cell (t:Rates) (code:Nat→ByteArray) (i j:Nat):Value:=if j = 0 then .string (code i) else if j = 1 then .int .i64 (t.rate i) else .int .i64 (t.cut i)
theorem SlT.slK {w:World} {v:Value} {t:Rates} {code:Nat→ByteArray} (h:SlT w v t code):SlK w v 3 t.n (t.cell code):=by
  obtain ⟨b,o,c,rfl,h2⟩:=h
  refine ⟨_,_,rfl,fun _ => ⟨b,o,rfl,fun i j hi hj => ?_⟩⟩
  obtain ⟨h3,h4,h5⟩:=h2 i hi
  have:j = 0∨j = 1∨j = 2:=by omega
  rcases this with rfl | rfl | rfl
  · exact h3
  · exact h4
  · exact h5
theorem SlT.of_row {w:World} {g c:Nat} {t:Rates} {code:Nat→ByteArray} (h:RowK w g 3 t.n (t.cell code)):SlT w (.slice (some ⟨g,0,none⟩) t.n c) t code:=by
  refine ⟨g,0,c,rfl,fun i hi => ?_⟩
  have h3:=h.cell hi (show 0 < 3 by omega)
  have h4:=h.cell hi (show 1 < 3 by omega)
  have h5:=h.cell hi (show 2 < 3 by omega)
  rw [Nat.zero_add]
  exact ⟨h3,h4,h5⟩
theorem Rates.one (t:Rates) (code:Nat→ByteArray) (i j:Nat):(t.cell code i j).oneCell' = true:=by
  unfold Rates.cell
  split
  · rfl
  · split <;> rfl
def Rates.put (t:Rates) (k:Nat) (r c:Int):Rates:={ t with rate:=fun i => if i = k then r else t.rate i,cut:=fun i => if i = k then c else t.cut i }
theorem Rates.put_ok {t:Rates} (h:t.Ok) {k:Nat} {r c:Int} (hf:RateOk r c):(t.put k r c).Ok:=by
  refine ⟨h.le,h.pos,fun i hi => ?_⟩
  show RateOk (if i = k then r else t.rate i) (if i = k then c else t.cut i)
  by_cases e:i = k
  · rw [if_pos e,if_pos e]; exact hf
  · rw [if_neg e,if_neg e]; exact h.ok i hi
def WithPost (t:Rates) (code:Nat→ByteArray) (k:Int) (T:Nat→Rates) (w:World) (e:Ending) (w':World):Prop:=∃ (v:Value) (c:Int),e = .returned (.tuple #[v,.int .i64 c])∧(c = 0∨c = 1)∧Below w.heap.size w w'∧(c = 0→∃ i:Nat,k = i∧i < t.n∧(T i).Ok∧SlT w' v (T i) code∧∃ b o cc,v = .slice (some ⟨b,o,none⟩) (T i).n cc∧Ty w' b 82∧w.heap.size≤b)
theorem WithPost.no {t:Rates} {code:Nat→ByteArray} {k:Int} {T:Nat→Rates} {w w':World} (v:Value) (hb:Below w.heap.size w w'):WithPost t code k T w (.returned (.tuple #[v,.int .i64 1])) w':=⟨v,1,rfl,.inr rfl,hb,fun h => by omega⟩
set_option maxRecDepth 100000 in
set_option maxHeartbeats 2000000 in
theorem Bk.with {w:World} {v:Value} {t:Rates} {code:Nat→ByteArray} (h:SlT w v t code) (ho:t.Ok) (k:Nat) (hk:k < t.n) (r c:Int):Calls Tryz.prog 255 #[v,.int .i64 k,.agg #[.string (code k),.int .i64 r,.int .i64 c]] w (WithPost t code k (fun i => t.put i r c) w):=by
  have hw1:=Lib.hid ((Below.refl w.heap.size w).alloc (Nat.le_refl _) (.cells #[.string (code k),.int .i64 r,.int .i64 c] 82))
  have hF:=Lib.hid (fun w => Bk.fits k (code k) r c w)
  have HH:=Lib.hid (h.below hw1.out)
  have HO:=Lib.hid ho
  have hn8:=ho.le
  have hn1:=ho.pos
  have q1:(k:Int) < (t.n:Int):=by omega
  clear h ho
  cases hb:fitsB k r c with
  | false =>
    rw [hb] at hF
    clear hb
    go_enter Tryz.func255,Tryz.ntmps255
    go_wp2_with fail
    refine (hF.out _).mono ?_
    rintro e w2 ⟨rfl,hb2⟩
    have HB2:=Lib.hid (hw1.out.trans (hb2.mono hw1.out.size))
    go_wp2
    go_ret2
    exact WithPost.no _ HB2.out
  | true =>
    rw [hb] at hF
    have HFO:=Lib.hid (fitsB_ok hb)
    clear hb
    go_enter Tryz.func255,Tryz.ntmps255
    go_wp2_with fail
    refine (hF.out _).mono ?_
    rintro e w2 ⟨rfl,hb2⟩
    have HB2:=Lib.hid (hw1.out.trans (hb2.mono hw1.out.size))
    have HT2:=Lib.hid (HH.out.below hb2)
    have hc0:w2.cell? ⟨w.heap.size,0,none⟩ = some (.string (code k)):=Bk.kept hb2 ((cell_of_row _ _ 0 _ _ _ (heap_alloc_new _ _)).trans rfl)
    have hc1:w2.cell? ⟨w.heap.size,1,none⟩ = some (.int .i64 r):=Bk.kept hb2 ((cell_of_row _ _ 1 _ _ _ (heap_alloc_new _ _)).trans rfl)
    have hc2:w2.cell? ⟨w.heap.size,2,none⟩ = some (.int .i64 c):=Bk.kept hb2 ((cell_of_row _ _ 2 _ _ _ (heap_alloc_new _ _)).trans rfl)
    have HCL:=Lib.hid (Bk.cloneCur (by omega) (by omega) HT2.out.slK (fun i j _ _ => t.one code i j))
    clear hb2
    go_wp2_with fail
    refine HCL.out.mono ?_
    rintro e w3 ⟨g,cc,rfl,hrow,hcc,hg,hty,hb3⟩
    have HTY:=Lib.hid hty
    have HB3:=Lib.hid (HB2.out.trans (hb3.mono HB2.out.size))
    have k0:=Bk.kept hb3 hc0
    have k1:=Bk.kept hb3 hc1
    have k2:=Bk.kept hb3 hc2
    have s0:=hrow.cell hk (show 0 < 3 by omega)
    have s1:=hrow.cell hk (show 1 < 3 by omega)
    have s2:=hrow.cell hk (show 2 < 3 by omega)
    have z0:=hrow.frozen (k * 3 + 0)
    have z1:=hrow.frozen (k * 3 + 1)
    have z2:=hrow.frozen (k * 3 + 2)
    have HS:=Lib.hid (((hrow.set hk (show 0 < 3 by omega) (.string (code k))).set hk (show 1 < 3 by omega) (.int .i64 r)).set hk (show 2 < 3 by omega) (.int .i64 c))
    have q2:(t.n:Int)≤cc:=by omega
    rw [Nat.add_zero] at s0 z0 HS
    clear hc0 hc1 hc2 hb3 hrow hty
    go_wp2
    go_ret2
    have hgB:w.heap.size≤g:=Nat.le_trans HB2.out.size hg
    refine ⟨_,0,rfl,.inl rfl,((HB3.out.setCell hgB _).setCell hgB _).setCell hgB _,fun _ => ⟨k,rfl,hk,Rates.put_ok HO.out HFO.out,SlT.of_row (t:=t.put k r c) (HS.out.ext fun i j hi hj => ?_),⟨g,0,cc,rfl,((HTY.out.set _ _ _).set _ _ _).set _ _ _,hgB⟩⟩⟩
    have h3:j = 0∨j = 1∨j = 2:=by omega
    by_cases hik:i = k
    · subst hik
      rcases h3 with rfl | rfl | rfl <;> simp [Rates.cell,Rates.put]
    · rcases h3 with rfl | rfl | rfl <;> simp [Rates.cell,Rates.put,hik]
def Rates.withRate (t:Rates) (r:Int) (k:Nat):Rates:=t.put k r (t.cut k)
def Rates.withCut (t:Rates) (c:Int) (k:Nat):Rates:=t.put k (t.rate k) c
set_option maxRecDepth 100000 in
set_option maxHeartbeats 2000000 in
theorem Bk.withRate {w:World} {v:Value} {t:Rates} {code:Nat→ByteArray} (h:SlT w v t code) (ho:t.Ok) (k:Int) (r:Int):Calls Tryz.prog 222 #[v,.int .i64 k,.int .i64 r] w (WithPost t code k (t.withRate r) w):=by
  have HH:=h
  obtain ⟨b,o,c,rfl,h2⟩:=h
  have hh:=Lib.hid (Bk.table_has (some ⟨b,o,none⟩) t.n c k w)
  by_cases hq:hasN t.n k = true
  · rw [hq] at hh
    obtain ⟨h3,h4⟩:=hasN_iff.1 hq
    obtain ⟨i,rfl⟩:∃ i:Nat,k = i:=⟨k.toNat,by omega⟩
    have hi:i < t.n:=by omega
    have hn8:=ho.le
    obtain ⟨g3,g4,g5⟩:=h2 i hi
    have HW:=Lib.hid (fun (w1:World) (hb:Below w.heap.size w w1) => Bk.with (HH.below hb) ho i hi r (t.cut i))
    have q1:(i:Int) < (t.n:Int):=by omega
    have q2:(t.n:Int)≤8:=by omega
    clear HH h2 hq h3 h4
    generalize hcd:code i = cd at *
    have HCD:=Lib.hid hcd
    clear hcd
    generalize hct:t.cut i = ct at *
    have HCT:=Lib.hid hct
    clear hct
    go_enter Tryz.func222,Tryz.ntmps222
    go_wp2_with fail
    refine hh.out.mono ?_
    rintro e w1 ⟨rfl,rfl⟩
    go_wp2_with fail
    go_region_held3 (fun wx => wx.cell? ⟨b,o + i * 3,none⟩ = some (.string cd)∧wx.cell? ⟨b,o + i * 3 + 2,none⟩ = some (.int .i64 ct)) (first | assumption | exact ⟨g3,g5⟩ | exact ⟨Bk.kept hb g3,Bk.kept hb g5⟩)
      (first | (go_at_call 255; refine (HW.out _ (Below.refl _ _).drew).mono ?_; rintro e w3 ⟨v3,c3,rfl,hc3,hb,hok⟩))
    go_wp2
    go_ret2
    refine ⟨v3,c3,rfl,hc3,(Below.refl _ _).drew.trans hb,fun h0 => ?_⟩
    obtain ⟨i',he,h5,h6,h7⟩:=hok h0
    have:i' = i:=by omega
    subst this
    have e:t.withRate r i' = t.put i' r ct:=by unfold Rates.withRate; rw [HCT.out]
    rw [← e] at h6 h7
    exact ⟨i',rfl,h5,h6,h7⟩
  · rw [Bool.not_eq_true] at hq
    rw [hq] at hh
    clear hq h2 HH
    go_enter Tryz.func222,Tryz.ntmps222
    go_wp2_with fail
    refine hh.out.mono ?_
    rintro e w1 ⟨rfl,rfl⟩
    go_wp2
    go_ret2
    exact WithPost.no _ (Below.refl _ _)
set_option maxRecDepth 100000 in
set_option maxHeartbeats 2000000 in
theorem Bk.withCut {w:World} {v:Value} {t:Rates} {code:Nat→ByteArray} (h:SlT w v t code) (ho:t.Ok) (k:Int) (r:Int):Calls Tryz.prog 224 #[v,.int .i64 k,.int .i64 r] w (WithPost t code k (t.withCut r) w):=by
  have HH:=h
  obtain ⟨b,o,c,rfl,h2⟩:=h
  have hh:=Lib.hid (Bk.table_has (some ⟨b,o,none⟩) t.n c k w)
  by_cases hq:hasN t.n k = true
  · rw [hq] at hh
    obtain ⟨h3,h4⟩:=hasN_iff.1 hq
    obtain ⟨i,rfl⟩:∃ i:Nat,k = i:=⟨k.toNat,by omega⟩
    have hi:i < t.n:=by omega
    have hn8:=ho.le
    obtain ⟨g3,g4,g5⟩:=h2 i hi
    have HW:=Lib.hid (fun (w1:World) (hb:Below w.heap.size w w1) => Bk.with (HH.below hb) ho i hi (t.rate i) r)
    have q1:(i:Int) < (t.n:Int):=by omega
    have q2:(t.n:Int)≤8:=by omega
    clear HH h2 hq h3 h4
    generalize hcd:code i = cd at *
    have HCD:=Lib.hid hcd
    clear hcd
    generalize hct:t.rate i = ct at *
    have HCT:=Lib.hid hct
    clear hct
    go_enter Tryz.func224,Tryz.ntmps224
    go_wp2_with fail
    refine hh.out.mono ?_
    rintro e w1 ⟨rfl,rfl⟩
    go_wp2_with fail
    go_region_held3 (fun wx => wx.cell? ⟨b,o + i * 3,none⟩ = some (.string cd)∧wx.cell? ⟨b,o + i * 3 + 1,none⟩ = some (.int .i64 ct)) (first | assumption | exact ⟨g3,g4⟩ | exact ⟨Bk.kept hb g3,Bk.kept hb g4⟩)
      (first | (go_at_call 255; refine (HW.out _ (Below.refl _ _).drew).mono ?_; rintro e w3 ⟨v3,c3,rfl,hc3,hb,hok⟩))
    go_wp2
    go_ret2
    refine ⟨v3,c3,rfl,hc3,(Below.refl _ _).drew.trans hb,fun h0 => ?_⟩
    obtain ⟨i',he,h5,h6,h7⟩:=hok h0
    have:i' = i:=by omega
    subst this
    have e:t.withCut r i' = t.put i' ct r:=by unfold Rates.withCut; rw [HCT.out]
    rw [← e] at h6 h7
    exact ⟨i',rfl,h5,h6,h7⟩
  · rw [Bool.not_eq_true] at hq
    rw [hq] at hh
    clear hq h2 HH
    go_enter Tryz.func224,Tryz.ntmps224
    go_wp2_with fail
    refine hh.out.mono ?_
    rintro e w1 ⟨rfl,rfl⟩
    go_wp2
    go_ret2
    exact WithPost.no _ (Below.refl _ _)
end Go.Proofs.YtgcnnbjbdfgglaaGreat
namespace Go.Proofs.YtgcnnbjbdfgglaaGreat
open Go.RowKit
theorem on_told (x:Int):on (told x) = tn x:=by unfold told tn on; split <;> rfl
theorem oe_told (x:Int):oe (told x) = te x:=by unfold told te oe; split <;> rfl
def oc (o:Option Int):Array Value:=#[.int .i64 (on o),.int .i64 (oe o)]
theorem results_row2 {fn:Func} {p q:Tmp} {ty:TypeId} (h:fn.results = #[.cell p ty,.cell q ty]) (tmps:Array Value) (P:Program) (w:World) (g g':Nat) (cs cs':List Value) (d:TypeDesc)
    (hp:tmps.getD p undef = .pointer (some ⟨g,0,none⟩)) (hq:tmps.getD q undef = .pointer (some ⟨g',0,none⟩)) (hc:w.rangeAt g 0 cs) (hc':w.rangeAt g' 0 cs') (hu:P.underlying ty = some d) (hd:d.isRow = true) (hi:(P.info? ty).map (·.size) = some cs.length) (hi':(P.info? ty).map (·.size) = some cs'.length) :
    (results fn tmps).run P w = .ok (.tuple #[.agg cs.toArray,.agg cs'.toArray]) w:=by
  simp only [results,h]
  have hp':tmps[p]?.getD undef = .pointer (some ⟨g,0,none⟩):=by simpa using hp
  have hq':tmps[q]?.getD undef = .pointer (some ⟨g',0,none⟩):=by simpa using hq
  simp [Sem.run_bind,Result.andThen,hp',hq',asAddr,run_loadVar_mid w g 0 ty cs d hc hu hd hi,run_loadVar_mid w g' 0 ty cs' d hc' hu hd hi']
theorem results_row1 {fn:Func} {p:Tmp} {ty:TypeId} (h:fn.results = #[.cell p ty]) (tmps:Array Value) (P:Program) (w:World) (g:Nat) (cs:List Value) (d:TypeDesc)
    (hp:tmps.getD p undef = .pointer (some ⟨g,0,none⟩)) (hc:w.rangeAt g 0 cs) (hu:P.underlying ty = some d) (hd:d.isRow = true) (hi:(P.info? ty).map (·.size) = some cs.length) :
    (results fn tmps).run P w = .ok (.agg cs.toArray) w:=by
  simp only [results,h]
  have hp':tmps[p]?.getD undef = .pointer (some ⟨g,0,none⟩):=by simpa using hp
  simp [hp',asAddr,run_loadVar_mid w g 0 ty cs d hc hu hd hi]
def Two (w:World) (g:Nat) (x y:Value):Prop:=∃ T,w.heap[g]? = some (.cells #[x,y] T (0,0))
theorem Two.range {w:World} {g:Nat} {x y:Value} (h:Two w g x y):w.rangeAt g 0 [x,y]:=by
  obtain ⟨T,h⟩:=h
  intro j v hv
  rw [cell_of_row _ _ _ _ _ _ h,Nat.zero_add]
  have hj:=(List.getElem?_eq_some_iff.1 hv).1
  simp at hj
  have:j = 0∨j = 1:=by omega
  rcases this with rfl | rfl <;> exact hv
theorem Two.c0 {w:World} {g:Nat} {x y:Value} (h:Two w g x y):w.cell? ⟨g,0,none⟩ = some x:=h.range 0 _ rfl
theorem Two.c1 {w:World} {g:Nat} {x y:Value} (h:Two w g x y):w.cell? ⟨g,1,none⟩ = some y:=h.range 1 _ rfl
theorem Two.fr {w:World} {g:Nat} {x y:Value} (h:Two w g x y) (j:Nat):w.frozen? ⟨g,j,none⟩ = false:=by
  obtain ⟨T,h⟩:=h
  exact frozen_of_row _ _ _ _ _ h
theorem Two.lt {w:World} {g:Nat} {x y:Value} (h:Two w g x y):g < w.heap.size:=by
  obtain ⟨T,h⟩:=h
  exact (Array.getElem?_eq_some_iff.1 h).1
theorem Two.below {w w1:World} {g:Nat} {x y:Value} (h:Two w g x y) (hb:Below w.heap.size w w1):Two w1 g x y:=by
  have hl:=h.lt
  obtain ⟨T,h⟩:=h
  exact ⟨T,by rw [hb.block g hl]; exact h⟩
theorem Two.set {w:World} {g:Nat} {x y:Value} (h:Two w g x y) (u v:Value):Two ((w.setCell ⟨g,0,none⟩ u).setCell ⟨g,1,none⟩ v) g u v:=by
  obtain ⟨T,h⟩:=h
  have h1:=heap_setCell_same w g 0 _ _ u h
  have h2:=heap_setCell_same _ g 1 _ _ v h1
  exact ⟨T,h2⟩
theorem Two.far {w:World} {g:Nat} {x y:Value} (h:Two w g x y) {b:Nat} (hb:b ≠ g) (o:Nat) (v:Value):Two (w.setCell ⟨b,o,none⟩ v) g x y:=by
  obtain ⟨T,h⟩:=h
  exact ⟨T,by rw [Below.heap_setCell _ _ _ _ hb.symm]; exact h⟩
theorem Two.drew {w:World} {g:Nat} {x y:Value} (h:Two w g x y):Two w.drew g x y:=h
theorem Two.new (w:World) (x y:Value) (T:TypeId):Two (w.alloc (.cells #[x,y] T)) w.heap.size x y:=⟨T,heap_alloc_new _ _⟩
def WorAt (w:World) (b:Nat) (tv:Value) (l:Nat) (av:Value):Prop:=w.heap[b]? = some (.cells #[tv,.pointer (some ⟨l,0,none⟩),av] 236 (0,0))
theorem WorAt.lt {w:World} {b l:Nat} {tv av:Value} (h:WorAt w b tv l av):b < w.heap.size:=(Array.getElem?_eq_some_iff.1 h).1
theorem WorAt.c0 {w:World} {b l:Nat} {tv av:Value} (h:WorAt w b tv l av):w.cell? ⟨b,0,none⟩ = some tv:=by rw [cell_of_row _ _ _ _ _ _ h]; rfl
theorem WorAt.c1 {w:World} {b l:Nat} {tv av:Value} (h:WorAt w b tv l av):w.cell? ⟨b,1,none⟩ = some (.pointer (some ⟨l,0,none⟩)):=by rw [cell_of_row _ _ _ _ _ _ h]; rfl
theorem WorAt.c2 {w:World} {b l:Nat} {tv av:Value} (h:WorAt w b tv l av):w.cell? ⟨b,2,none⟩ = some av:=by rw [cell_of_row _ _ _ _ _ _ h]; rfl
theorem WorAt.below {w w1:World} {b l:Nat} {tv av:Value} (h:WorAt w b tv l av) (hb:Below w.heap.size w w1):WorAt w1 b tv l av:=by
  unfold WorAt at h ⊢
  rw [hb.block b (Array.getElem?_eq_some_iff.1 h).1]; exact h
theorem short_neg {rate x:Int} (h:x < 0):oc (shortO rate x) = #[.int .i64 (tn (0 - tn (plainI rate x))),.int .i64 (if te (plainI rate x) < te (0 - tn (plainI rate x)) then te (0 - tn (plainI rate x)) else te (plainI rate x))]:=by
  unfold shortO
  rw [if_pos h]
  by_cases hi:In64 (plainI rate x)
  · have e:told (plainI rate x) = some (plainI rate x):=if_pos hi
    rw [e,tn_in hi,te_in hi]
    show oc (told (0 - plainI rate x)) = _
    unfold oc
    rw [on_told,oe_told]
    have:=te_range (0 - plainI rate x)
    rw [show (if 0 < te (0 - plainI rate x) then te (0 - plainI rate x) else 0) = te (0 - plainI rate x) by split <;> omega]
  · have e:told (plainI rate x) = none:=if_neg hi
    rw [e,tn_out hi,te_out hi]
    rfl
theorem short_pos {rate x:Int} (h:¬ x < 0):oc (shortO rate x) = #[.int .i64 0,.int .i64 0]:=by unfold shortO; rw [if_neg h]; rfl
set_option maxRecDepth 100000 in
set_option maxHeartbeats 2000000 in
theorem Bk.one {w:World} {b l:Nat} {tv av:Value} {t:Rates} {code:Nat→ByteArray} (h:WorAt w b tv l av) (ht:SlT w tv t code) (ho:t.Ok) (k:Nat) (hk:k < t.n) (x:Int) (hx:In64 x) :
    Calls Tryz.prog 169 #[.pointer (some ⟨b,0,none⟩),.int .i64 k,.int .i64 x] w fun e w' => e = .returned (.tuple #[.agg (oc (worthO (t.rate k) (t.cut k) x)),.agg (oc (shortO (t.rate k) x))])∧Below w.heap.size w w':=by
  have h0:=h.c0
  have HT:=Lib.hid ht
  have HW:=Lib.hid (fun (w1:World) (hb:Below w.heap.size w w1) => Bk.worth (ht.below hb) ho k hk x hx)
  have HP:=Lib.hid (fun (w1:World) (hb:Below w.heap.size w w1) => Bk.plain (ht.below hb) ho k hk x hx)
  have E1:oc (worthO (t.rate k) (t.cut k) x) = #[.int .i64 (tn (worthI (t.rate k) (t.cut k) x)),.int .i64 (te (worthI (t.rate k) (t.cut k) x))]:=by unfold oc worthO; rw [on_told,oe_told]
  rw [E1]
  clear E1
  generalize worthI (t.rate k) (t.cut k) x = W at *
  obtain ⟨b0,o0,c0,rfl,_⟩:=ht
  clear h
  by_cases hneg:x < 0
  · have E2:=short_neg (rate:=t.rate k) hneg
    rw [E2]
    clear E2
    generalize plainI (t.rate k) x = P at *
    have HS:=Lib.hid (fun w => Bk.sub 0 (tn P) (by unfold In64; omega) (tn_64 P) w)
    generalize tn (0 - tn P) = S at *
    generalize te (0 - tn P) = F2 at *
    generalize tn P = P1 at *
    generalize te P = F1 at *
    generalize hM:(if F1 < F2 then F2 else F1) = M at *
    have HM:=Lib.hid hM
    clear hM
    generalize tn W = N at *
    generalize te W = E at *
    have hb0:=(Below.refl w.heap.size w).alloc (Nat.le_refl _) (.cells #[.int .i64 0,.int .i64 0] 241)
    have hb1:=hb0.alloc hb0.size (.cells #[.int .i64 0,.int .i64 0] 241)
    have HB1:=Lib.hid hb1
    have h01:=Bk.kept hb1 h0
    have HA1:=Lib.hid ((Two.new w (.int .i64 0) (.int .i64 0) 241).below ((Below.refl _ _).alloc (Nat.le_refl _) (.cells #[.int .i64 0,.int .i64 0] 241)))
    have HA2:=Lib.hid (Two.new (w.alloc (.cells #[.int .i64 0,.int .i64 0] 241)) (.int .i64 0) (.int .i64 0) 241)
    have hbH:=block_lt_of_cell h0
    clear hb0 hb1
    go_enter Tryz.func169,Tryz.ntmps169
    go_wp2_with fail
    refine (HW.out _ HB1.out).mono ?_
    rintro e w2 ⟨rfl,hb2⟩
    have HB2:=Lib.hid (HB1.out.trans (hb2.mono HB1.out.size))
    have HC1:=Lib.hid (HA1.out.below hb2)
    have HC2:=Lib.hid (HA2.out.below hb2)
    rw [World.size_alloc] at HC2
    have h02:=Bk.kept hb2 h01
    have m1:=HC1.out.c0
    have m2:=HC1.out.c1
    have m3:=HC1.out.fr 0
    have m4:=HC1.out.fr 1
    clear hb2 h01 HA1 HA2 HB1 HW
    have HH:=Lib.hid (show w.heap.size + 1 < w2.heap.size from HC2.out.lt)
    have p1:=HC2.out.c0
    have p2:=HC2.out.c1
    have p3:=HC2.out.fr 0
    have p4:=HC2.out.fr 1
    have hHn:w.heap.size ≠ w.heap.size + 1:=by omega
    have hHm:w.heap.size + 1 ≠ w.heap.size:=by omega
    have hbn:b ≠ w.heap.size:=by have h:b < w.heap.size:=hbH; omega
    have HBN:=Lib.hid (And.intro hbn (show b ≠ w.heap.size + 1 by have h:b < w.heap.size:=hbH; omega))
    have HBS:=Lib.hid (show w.heap.size≤w.heap.size from Nat.le_refl _)
    have HBT:=Lib.hid (show w.heap.size≤w.heap.size + 1 from Nat.le_succ _)
    clear hbH hbn
    generalize w.heap.size + 1 = H1 at *
    generalize hH:w.heap.size = H at *
    have HE:=Lib.hid hH
    clear hH
    have HT1:=Lib.hid (HC1.out.set (.int .i64 N) (.int .i64 E))
    have HT2:=Lib.hid ((HC2.out.far hHn 0 (.int .i64 N)).far hHn 1 (.int .i64 E))
    have HTB:=Lib.hid ((HB2.out.setCell (p:=⟨H,0,none⟩) HBS.out (.int .i64 N)).setCell (p:=⟨H,1,none⟩) HBS.out (.int .i64 E))
    go_upto_region 4 with (fail)
    have HT0:=Lib.hid (show ((w2.setCell ⟨H,0,none⟩ (.int .i64 N)).setCell ⟨H,1,none⟩ (.int .i64 E)).cell? ⟨b,0,none⟩ = some _ from (World.cell?_of_block ((Below.heap_setCell _ _ _ _ HBN.out.1).trans (Below.heap_setCell _ _ _ _ HBN.out.1))).trans h02)
    obtain ⟨W,hW⟩:∃ W,((w2.setCell ⟨H,0,none⟩ (.int .i64 N)).setCell ⟨H,1,none⟩ (.int .i64 E)) = W:=⟨_,rfl⟩
    rw [hW] at HT0 HT1 HT2 HTB ⊢
    clear hW p1 p2 p3 p4 m1 m2 m3 m4 h02
    have h02:=HT0.out
    go_wp2_with fail
    refine (HP.out _ HTB.out).mono ?_
    rintro e w3 ⟨rfl,hb3⟩
    go_wp2_with fail
    refine (HS.out _).mono ?_
    rintro e w4 ⟨rfl,rfl⟩
    have HU1:=Lib.hid (HT1.out.below hb3)
    have HU2:=Lib.hid (HT2.out.below hb3)
    have HUB:=Lib.hid (HTB.out.trans (hb3.mono (by have:=HTB.out.size; rw [HE.out] at this; exact this)))
    clear hb3 h02 HT0 HT1 HT2 HTB
    have p1:=HU2.out.c0
    have p2:=HU2.out.c1
    have p3:=HU2.out.fr 0
    have p4:=HU2.out.fr 1
    go_upto_region 7 with (fail)
    rw [HM.out]
    have HT1:=Lib.hid ((HU1.out.far hHm 0 (.int .i64 S)).far hHm 1 (.int .i64 M))
    have HT2:=Lib.hid (HU2.out.set (.int .i64 S) (.int .i64 M))
    have HTB:=Lib.hid ((HUB.out.setCell (p:=⟨H1,0,none⟩) HBT.out (.int .i64 S)).setCell (p:=⟨H1,1,none⟩) HBT.out (.int .i64 M))
    obtain ⟨W2,hW⟩:∃ W2,((w4.setCell ⟨H1,0,none⟩ (.int .i64 S)).setCell ⟨H1,1,none⟩ (.int .i64 M)) = W2:=⟨_,rfl⟩
    rw [hW] at HT1 HT2 HTB ⊢
    clear hW p1 p2 p3 p4
    have p1:=HT2.out.c0
    have p2:=HT2.out.c1
    have p3:=HT2.out.fr 0
    have p4:=HT2.out.fr 1
    have m1:=HT1.out.c0
    have m2:=HT1.out.c1
    have m3:=HT1.out.fr 0
    have m4:=HT1.out.fr 1
    go_region
    go_wp2
    refine bodyPost_ret (results_row2 rfl _ _ _ H H1 [.int .i64 N,.int .i64 E] [.int .i64 S,.int .i64 M] _ rfl rfl (Two.range (((HT1.out.set _ _).far hHm _ _).far hHm _ _).drew) (Two.range ((((HT2.out.far hHn _ _).far hHn _ _).set _ _)).drew) Tryz.underlying241 rfl (by kernel_rfl) (by kernel_rfl)) rfl ⟨rfl,?_⟩
    rw [HE.out]
    exact ((((HTB.out.setCell (p:=⟨H,0,none⟩) HBS.out _).setCell (p:=⟨H,1,none⟩) HBS.out _).setCell (p:=⟨H1,0,none⟩) HBT.out _).setCell (p:=⟨H1,1,none⟩) HBT.out _).drew
  · have E2:=short_pos (rate:=t.rate k) hneg
    rw [E2]
    clear E2 HP
    generalize tn W = N at *
    generalize te W = E at *
    have hb0:=(Below.refl w.heap.size w).alloc (Nat.le_refl _) (.cells #[.int .i64 0,.int .i64 0] 241)
    have hb1:=hb0.alloc hb0.size (.cells #[.int .i64 0,.int .i64 0] 241)
    have HB1:=Lib.hid hb1
    have h01:=Bk.kept hb1 h0
    have HA1:=Lib.hid ((Two.new w (.int .i64 0) (.int .i64 0) 241).below ((Below.refl _ _).alloc (Nat.le_refl _) (.cells #[.int .i64 0,.int .i64 0] 241)))
    have HA2:=Lib.hid (Two.new (w.alloc (.cells #[.int .i64 0,.int .i64 0] 241)) (.int .i64 0) (.int .i64 0) 241)
    have hbH:=block_lt_of_cell h0
    clear hb0 hb1
    go_enter Tryz.func169,Tryz.ntmps169
    go_wp2_with fail
    refine (HW.out _ HB1.out).mono ?_
    rintro e w2 ⟨rfl,hb2⟩
    have HB2:=Lib.hid (HB1.out.trans (hb2.mono HB1.out.size))
    have HC1:=Lib.hid (HA1.out.below hb2)
    have HC2:=Lib.hid (HA2.out.below hb2)
    rw [World.size_alloc] at HC2
    have h02:=Bk.kept hb2 h01
    have m1:=HC1.out.c0
    have m2:=HC1.out.c1
    have m3:=HC1.out.fr 0
    have m4:=HC1.out.fr 1
    clear hb2 h01 HA1 HA2 HB1 HW
    have HH:=Lib.hid (show w.heap.size + 1 < w2.heap.size from HC2.out.lt)
    have p1:=HC2.out.c0
    have p2:=HC2.out.c1
    have p3:=HC2.out.fr 0
    have p4:=HC2.out.fr 1
    have hHn:w.heap.size ≠ w.heap.size + 1:=by omega
    have hHm:w.heap.size + 1 ≠ w.heap.size:=by omega
    have hbn:b ≠ w.heap.size:=by have h:b < w.heap.size:=hbH; omega
    have HBN:=Lib.hid (And.intro hbn (show b ≠ w.heap.size + 1 by have h:b < w.heap.size:=hbH; omega))
    have HBS:=Lib.hid (show w.heap.size≤w.heap.size from Nat.le_refl _)
    have HBT:=Lib.hid (show w.heap.size≤w.heap.size + 1 from Nat.le_succ _)
    clear hbH hbn
    generalize w.heap.size + 1 = H1 at *
    generalize hH:w.heap.size = H at *
    have HE:=Lib.hid hH
    clear hH
    have HT1:=Lib.hid (HC1.out.set (.int .i64 N) (.int .i64 E))
    have HT2:=Lib.hid ((HC2.out.far hHn 0 (.int .i64 N)).far hHn 1 (.int .i64 E))
    have HTB:=Lib.hid ((HB2.out.setCell (p:=⟨H,0,none⟩) HBS.out (.int .i64 N)).setCell (p:=⟨H,1,none⟩) HBS.out (.int .i64 E))
    go_upto_region 7 with (fail)
    obtain ⟨W,hW⟩:∃ W,((w2.setCell ⟨H,0,none⟩ (.int .i64 N)).setCell ⟨H,1,none⟩ (.int .i64 E)) = W:=⟨_,rfl⟩
    rw [hW] at HT1 HT2 HTB ⊢
    clear hW p1 p2 p3 p4 m1 m2 m3 m4 h02
    have p1:=HT2.out.c0
    have p2:=HT2.out.c1
    have p3:=HT2.out.fr 0
    have p4:=HT2.out.fr 1
    have m1:=HT1.out.c0
    have m2:=HT1.out.c1
    have m3:=HT1.out.fr 0
    have m4:=HT1.out.fr 1
    go_region
    go_wp2
    refine bodyPost_ret (results_row2 rfl _ _ _ H H1 [.int .i64 N,.int .i64 E] [.int .i64 0,.int .i64 0] _ rfl rfl (Two.range (((HT1.out.set _ _).far hHm _ _).far hHm _ _).drew) (Two.range ((((HT2.out.far hHn _ _).far hHn _ _).set _ _)).drew) Tryz.underlying241 rfl (by kernel_rfl) (by kernel_rfl)) rfl ⟨rfl,?_⟩
    rw [HE.out]
    exact ((((HTB.out.setCell (p:=⟨H,0,none⟩) HBS.out _).setCell (p:=⟨H,1,none⟩) HBS.out _).setCell (p:=⟨H1,0,none⟩) HBT.out _).setCell (p:=⟨H1,1,none⟩) HBT.out _).drew
end Go.Proofs.YtgcnnbjbdfgglaaGreat
namespace Go.Proofs.YtgcnnbjbdfgglaaGreat
open Go.RowKit
def tcell (o:Nat→Option Int) (i j:Nat):Value:=if j = 0 then .int .i64 (on (o i)) else .int .i64 (oe (o i))
def olist (n:Nat) (o:Nat→Option Int):List (Option Int):=(List.range n).map o
theorem olist_drop {n k:Nat} (o:Nat→Option Int) (h:k < n):(olist n o).drop k = o k :: (olist n o).drop (k + 1):=by
  have hl:k < (olist n o).length:=by simp [olist,h]
  rw [List.drop_eq_getElem_cons hl]
  simp [olist]
theorem olist_end (n:Nat) (o:Nat→Option Int):(olist n o).drop n = []:=by simp [olist]
theorem Bk.add_eq {a b:Int} (w:World) (ha:In64 a) (hb:In64 b) {x:Int} (hx:a + b = x) (hi:In64 x):Calls Tryz.prog 45 #[.int .i64 a,.int .i64 b] w fun e w' => e = .returned (.tuple #[.int .i64 x,.int .i64 0])∧w' = w:=by
  have:=Bk.add a b ha hb w
  rw [hx,tn_in hi,te_in hi] at this
  exact this
theorem Bk.add_no {a b:Int} (w:World) (ha:In64 a) (hb:In64 b) (hi:¬ In64 (a + b)):Calls Tryz.prog 45 #[.int .i64 a,.int .i64 b] w fun e w' => e = .returned (.tuple #[.int .i64 0,.int .i64 3])∧w' = w:=by
  have:=Bk.add a b ha hb w
  rw [tn_out hi,te_out hi] at this
  exact this
theorem Two.alloc {w:World} {g:Nat} {x y:Value} (h:Two w g x y) (o:Obj):Two (w.alloc o) g x y:=h.below ((Below.refl _ _).alloc (Nat.le_refl _) o)
theorem Two.setn {w:World} {g:Nat} {x y:Value} (h:Two w g x y) (u:Value):Two (w.setCell ⟨g,0,none⟩ u) g u y:=by
  obtain ⟨T,h⟩:=h
  exact ⟨T,heap_setCell_same w g 0 _ _ u h⟩
set_option maxRecDepth 100000 in
set_option maxHeartbeats 2000000 in
theorem Bk.chainW {w:World} {v:Value} {n:Nat} {o:Nat→Option Int} (h:SlK w v 2 n (tcell o)) (hn:(n:Int)≤8) (ho:∀ i x,i < n→o i = some x→In64 x) :
    Calls Tryz.prog 170 #[v] w fun e w' => e = .returned (.agg (oc (chain 0 (olist n o))))∧Below w.heap.size w w':=by
  obtain ⟨a,c,rfl,hc⟩:=h
  have HC:=Lib.hid hc
  have HO:=Lib.hid ho
  clear hc ho
  have HB0:=Lib.hid (((Below.refl w.heap.size w).alloc (Nat.le_refl _) (.cells #[.int .i64 0,.int .i64 0] 241)).alloc (by simp) (.cells #[.int .i64 0,.int .i64 0] 241))
  have HA1:=Lib.hid ((Two.new w (.int .i64 0) (.int .i64 0) 241).below ((Below.refl _ _).alloc (Nat.le_refl _) (.cells #[.int .i64 0,.int .i64 0] 241)))
  have HA2:=Two.new (w.alloc (.cells #[.int .i64 0,.int .i64 0] 241)) (.int .i64 0) (.int .i64 0) 241
  rw [World.size_alloc] at HA2
  have HA2:=Lib.hid HA2
  have hHn:w.heap.size ≠ w.heap.size + 1:=by omega
  have hHm:w.heap.size + 1 ≠ w.heap.size:=by omega
  have HBS:=Lib.hid (show w.heap.size≤w.heap.size from Nat.le_refl _)
  have HBT:=Lib.hid (show w.heap.size≤w.heap.size + 1 from Nat.le_succ _)
  go_enter Tryz.func170,Tryz.ntmps170
  go_wp2
  go_loopw [10] (fun i wr => ∃ (k:Nat) (s:Int),k≤n∧i = .int .i64 k∧In64 s∧Two wr w.heap.size (.int .i64 0) (.int .i64 0)∧Two wr (w.heap.size + 1) (.int .i64 s) (.int .i64 0)∧chain s ((olist n o).drop k) = chain 0 (olist n o)∧Below w.heap.size w wr) (fun i _ => n - (intOf i).toNat)
  case atStart => exact ⟨0,0,by omega,rfl,by unfold In64; omega,HA1.out,HA2.out,rfl,HB0.out⟩
  case round =>
    obtain ⟨k,s,hk,rfl,hs,h1,h2,hch,hb⟩:=hrel
    have HB:=Lib.hid hb
    have H1:=Lib.hid h1
    have H2:=Lib.hid h2
    have HCH:=Lib.hid hch
    clear hb h1 h2 hch
    generalize hH:w.heap.size = H at *
    have HE:=Lib.hid hH
    clear hH
    by_cases hlt:k < n
    · have q1:(k:Int) < (n:Int):=by omega
      obtain ⟨b,o',rfl,hc⟩:=HC.out (by omega)
      have h3:=Bk.kept (HE.out ▸ HB.out:Below w.heap.size w wr) (hc k 0 hlt (by omega))
      have h4:=Bk.kept (HE.out ▸ HB.out:Below w.heap.size w wr) (hc k 1 hlt (by omega))
      rw [Nat.add_zero] at h3
      rw [← Nat.add_assoc] at h4
      simp only [tcell,if_true,show ¬ (1:Nat) = 0 by omega,if_false] at h3 h4
      have HD:=Lib.hid (olist_drop o hlt)
      have HOK:=Lib.hid (fun x => HO.out k x hlt)
      clear hc
      obtain ⟨N,hN⟩:∃ N,on (o k) = N:=⟨_,rfl⟩
      obtain ⟨E,hE⟩:∃ E,oe (o k) = E:=⟨_,rfl⟩
      rw [hN] at h3
      rw [hE] at h4
      have m1:=H1.out.c0
      have m2:=H1.out.c1
      have m3:=H1.out.fr 0
      have m4:=H1.out.fr 1
      have p1:=H2.out.c0
      have p2:=H2.out.c1
      have p3:=H2.out.fr 0
      have p4:=H2.out.fr 1
      have l1:=H1.out.lt
      have l2:=H2.out.lt
      cases hok:o k with
      | none =>
        have hr:=Lib.hid (show chain 0 (olist n o) = none by rw [← HCH.out,HD.out,hok]; rfl)
        obtain rfl:N = 0:=by rw [← hN,hok]; rfl
        obtain rfl:E = 3:=by rw [← hE,hok]; rfl
        clear hN hE hok
        go_wp2
        refine bodyPost_ret (results_row1 rfl _ _ _ H [.int .i64 0,.int .i64 3] _ rfl (Two.range ((H1.out.set _ _).alloc _)) Tryz.underlying241 rfl (by kernel_rfl)) rfl ⟨by rw [hr.out]; rfl,?_⟩
        rw [HE.out]
        exact ((HB.out.setCell (p:=⟨H,0,none⟩) HBS.out _).setCell (p:=⟨H,1,none⟩) HBS.out _).alloc (by simpa [World.setCell] using (HE.out ▸ HB.out.size:H≤_)) _
      | some x =>
        obtain rfl:N = x:=by rw [← hN,hok]; rfl
        obtain rfl:E = 0:=by rw [← hE,hok]; rfl
        have hx64:=HOK.out N hok
        by_cases hin:In64 (s + N)
        · have HCH2:=Lib.hid (show chain (s + N) ((olist n o).drop (k + 1)) = chain 0 (olist n o) by rw [← HCH.out,HD.out,hok]; simp only [chain]; rw [if_pos hin])
          have HIN:=Lib.hid hin
          have hadd:=Lib.hid (fun w => Bk.add_eq w hs hx64 rfl hin)
          clear hin hN hE hok hx64 hs
          generalize s + N = s' at *
          go_wp2_with fail
          refine (hadd.out _).mono ?_
          rintro e w5 ⟨rfl,rfl⟩
          go_wp2
          go_roundw
          case rel => exact ⟨k + 1,s',by omega,by go_num,HIN.out,(H1.out.far hHm _ _).alloc _,(H2.out.setn _).alloc _,HCH2.out,(HB.out.setCell (p:=⟨H + 1,0,none⟩) HBT.out _).alloc (by simpa [World.setCell] using (HE.out ▸ HB.out.size:H≤_)) _⟩
          case measure => simp [intOf]; omega
        · have hr:=Lib.hid (show chain 0 (olist n o) = none by rw [← HCH.out,HD.out,hok]; simp only [chain]; rw [if_neg hin])
          have hadd:=Lib.hid (fun w => Bk.add_no w hs hx64 hin)
          clear hin hN hE hok hx64 hs
          go_wp2_with fail
          refine (hadd.out _).mono ?_
          rintro e w5 ⟨rfl,rfl⟩
          go_wp2
          refine bodyPost_ret (results_row1 rfl _ _ _ H [.int .i64 0,.int .i64 3] _ rfl (Two.range ((H1.out.set _ _).alloc _)) Tryz.underlying241 rfl (by kernel_rfl)) rfl ⟨by rw [hr.out]; rfl,?_⟩
          rw [HE.out]
          exact ((HB.out.setCell (p:=⟨H,0,none⟩) HBS.out _).setCell (p:=⟨H,1,none⟩) HBS.out _).alloc (by simpa [World.setCell] using (HE.out ▸ HB.out.size:H≤_)) _
    · obtain rfl:k = n:=by omega
      have m1:=H1.out.c0
      have m2:=H1.out.c1
      have m3:=H1.out.fr 0
      have m4:=H1.out.fr 1
      have p1:=H2.out.c0
      have p2:=H2.out.c1
      go_wp2
      refine bodyPost_ret (results_row1 rfl _ _ _ H [.int .i64 s,.int .i64 0] _ rfl (Two.range (H1.out.set _ _)) Tryz.underlying241 rfl (by kernel_rfl)) rfl ⟨?_,?_⟩
      · have hr:chain 0 (olist k o) = some s:=by rw [← HCH.out,olist_end]; rfl
        rw [hr]; rfl
      · rw [HE.out]
        exact (HB.out.setCell (p:=⟨H,0,none⟩) HBS.out _).setCell (p:=⟨H,1,none⟩) HBS.out _
end Go.Proofs.YtgcnnbjbdfgglaaGreat
