/- LAW TopBoth: of every configuration of a bank and every list of byte strings the given function TopBoth returns true and leaves its arguments as they were; no condition. A part of what it needs. -/
import Derived.Test.YtgcnnbjbdfgglaaGreatZaa
namespace Go.Proofs.YtgcnnbjbdfgglaaGreat
open Go.RowKit
def SlC (w:World) (v:Value) (n:Nat) (f:Nat→Value):Prop:=∃ a c,v = .slice a n c∧(0 < n→∃ b o,a = some ⟨b,o,none⟩∧∀ i,i < n→w.cell? ⟨b,o + i,none⟩ = some (f i))
def SlI (w:World) (v:Value) (n:Nat) (f:Nat→Int):Prop:=SlC w v n fun i => .int .i64 (f i)
theorem SlC.below {w w':World} {v:Value} {n:Nat} {f:Nat→Value} (h:SlC w v n f) (hb:Below w.heap.size w w'):SlC w' v n f:=by
  obtain ⟨a,c,rfl,hc⟩:=h
  refine ⟨a,c,rfl,fun hn => ?_⟩
  obtain ⟨b,o,rfl,h2⟩:=hc hn
  exact ⟨b,o,rfl,fun i hi => (hb.cell (block_lt_of_cell (h2 i hi))).trans (h2 i hi)⟩
def sumTo (f:Nat→Int):Nat→Int
  | 0 => 0
  | n + 1 => sumTo f n + f n
theorem Bk.size_of (a:Int) (ha:In64 a) (w:World):Calls Tryz.prog 216 #[.int .i64 a] w fun e w' => e = .returned (.tuple #[.int .i64 (tn (a.natAbs:Int)),.int .i64 (te (a.natAbs:Int))])∧w' = w:=by
  have h1:=Lib.hid (fun w => Bk.size a ha w)
  have h2:=Lib.hid (fun w => Bk.signed a.natAbs false (by unfold In64 at ha; omega) w)
  generalize a.natAbs = A at *
  go_enter Tryz.func216,Tryz.ntmps216
  go_wp2_with fail
  refine (h1.out _).mono ?_
  rintro e w1 ⟨rfl,rfl⟩
  go_wp2_with fail
  refine (h2.out _).mono ?_
  rintro e w1 ⟨rfl,rfl⟩
  go_wp2
  go_ret2
  exact ⟨rfl,rfl⟩
set_option maxRecDepth 100000 in
set_option maxHeartbeats 1000000 in
theorem Bk.sum (v:Value) (n:Nat) (f:Nat→Int) (w:World) (hs:SlI w v n f) (hn:(n:Int)≤1000000) (hf:∀ i,i < n→In64 (f i)) :
    Calls Tryz.prog 19 #[v] w fun e w' => e = .returned (.tuple #[.int .i64 (tn (sumTo f n)),.int .i64 (te (sumTo f n))])∧w' = w:=by
  obtain ⟨a,c,rfl,hc⟩:=hs
  have HC:=Lib.hid hc
  have HF:=Lib.hid hf
  clear hc hf
  go_enter Tryz.func19,Tryz.ntmps19
  go_wp2
  go_loopw [4,5,11] (fun h l i wr => ∃ (k lo:Nat) (hi:Int),k≤n∧i = .int .i64 k∧h = .int .i64 hi∧l = .int .u64 lo∧wr = w∧sumTo f k = hi * 18446744073709551616 + lo∧lo < 18446744073709551616∧-(k:Int)≤hi∧hi≤k) (fun _ _ i _ => n - (intOf i).toNat)
  case atStart => exact ⟨0,0,0,by omega,rfl,rfl,rfl,rfl,rfl,by omega,by omega,by omega⟩
  case round =>
    obtain ⟨k,lo,hi,hk,rfl,rfl,rfl,rfl,hsum,hlo,h1,h2⟩:=hrel
    by_cases hlt:k < n
    · obtain ⟨b,o,rfl,hc⟩:=HC.out (by omega)
      have hcb:=hc k hlt
      have hx:=HF.out k hlt
      have hq1:(k:Int) < (n:Int):=by omega
      have hsn:sumTo f (k + 1) = sumTo f k + f k:=rfl
      have HS:=Lib.hid (And.intro hsum hsn)
      clear hc hsum hsn
      unfold In64 at hx
      generalize f k = x at *
      obtain ⟨u,hu⟩:∃ u:Nat,x % 18446744073709551616 = u:=⟨(x % 18446744073709551616).toNat,by omega⟩
      obtain ⟨l2,hl2⟩:∃ l2:Nat,(lo + u) % 18446744073709551616 = l2:=⟨_,rfl⟩
      have e1:IntKind.u64.wrap x = u:=by rw [Bk.wrap_u64]; exact hu
      have e2:IntKind.u64.wrap ((lo:Int) + u) = l2:=by rw [Bk.wrap_u64]; omega
      obtain ⟨s,hs⟩:∃ s,x / 9223372036854775808 = s:=⟨_,rfl⟩
      have hs2:s = if x < 0 then -1 else 0:=by split <;> omega
      by_cases hcar:(l2:Int) < lo
      · have hA:=Lib.hid (show sumTo f (k + 1) = (hi + 1 + s) * 18446744073709551616 + l2 by obtain ⟨g1,g2⟩:=HS.out; rw [g2,g1]; split at hs2 <;> omega)
        have hB:=Lib.hid (show l2 < 18446744073709551616∧-((k + 1:Nat):Int)≤hi + 1 + s∧hi + 1 + s≤((k + 1:Nat):Int) by split at hs2 <;> omega)
        have hhi:hi≤1000000∧-1000000≤hi:=by omega
        have hs3:-1≤s∧s≤0:=by split at hs2 <;> omega
        clear hs2 hu hl2 HS h1 h2 hlo hx
        go_wp2
        go_roundw
        case rel => exact ⟨k + 1,l2,hi + 1 + s,by omega,by go_num,rfl,rfl,trivial,hA.out,hB.out⟩
        case measure => simp [intOf]; omega
      · have hA:=Lib.hid (show sumTo f (k + 1) = (hi + s) * 18446744073709551616 + l2 by obtain ⟨g1,g2⟩:=HS.out; rw [g2,g1]; split at hs2 <;> omega)
        have hB:=Lib.hid (show l2 < 18446744073709551616∧-((k + 1:Nat):Int)≤hi + s∧hi + s≤((k + 1:Nat):Int) by split at hs2 <;> omega)
        have hhi:hi≤1000000∧-1000000≤hi:=by omega
        have hs3:-1≤s∧s≤0:=by split at hs2 <;> omega
        clear hs2 hu hl2 HS h1 h2 hlo hx
        go_wp2
        go_roundw
        case rel => exact ⟨k + 1,l2,hi + s,by omega,by go_num,rfl,rfl,trivial,hA.out,hB.out⟩
        case measure => simp [intOf]; omega
    · obtain rfl:k = n:=by omega
      obtain ⟨x,hx⟩:∃ x,wrap64 (lo:Int) = x:=⟨_,rfl⟩
      obtain ⟨s,hs⟩:∃ s,x / 9223372036854775808 = s:=⟨_,rfl⟩
      have hx2:x = if (lo:Int) < 9223372036854775808 then (lo:Int) else lo - 18446744073709551616:=by rw [← hx]; unfold wrap64; split <;> omega
      generalize hS:sumTo f k = S at *
      have HS:=Lib.hid hS
      clear hS
      by_cases hin:In64 S
      · have HI:=Lib.hid hin
        unfold In64 at hin
        have hhs:hi = s:=by split at hx2 <;> omega
        have hxS:x = S:=by split at hx2 <;> omega
        subst hhs hxS
        clear hx2 hsum hin
        go_wp2
        go_ret2
        refine ⟨?_,rfl⟩
        rw [HS.out,tn_in HI.out,te_in HI.out,← hx]
        rfl
      · have HI:=Lib.hid hin
        unfold In64 at hin
        have hhs:(hi != s) = true:=by simp; split at hx2 <;> omega
        clear hx2 hsum hin
        go_wp2
        go_ret2
        refine ⟨?_,rfl⟩
        rw [HS.out,tn_out HI.out,te_out HI.out]
        rfl
end Go.Proofs.YtgcnnbjbdfgglaaGreat
namespace Go.Proofs.YtgcnnbjbdfgglaaGreat
open Go.RowKit
structure Led where
  n:Nat
  c:Nat
  bal:Nat→Nat→Int
  nos:Nat→Int
def Led.cells (L:Led) (r cap:Nat):Array Value:=#[.slice (some ⟨r,0,none⟩) L.n cap,.int .i64 (L.nos 0),.int .i64 (L.nos 1),.int .i64 (L.nos 2),.int .i64 (L.nos 3),.int .i64 (L.nos 4),.int .i64 (L.nos 5),.int .i64 (L.nos 6),.int .i64 (L.nos 7),.int .i64 L.c]
def RowsAt (w:World) (r:Nat) (n:Nat) (f:Nat→Nat→Int):Prop:=∃ cs T,w.heap[r]? = some (.cells cs T (0,0))∧∀ m k,m < n→k < 8→cs[m * 8 + k]? = some (.int .i64 (f m k))
def Ty (w:World) (g:Nat) (T:TypeId):Prop:=∃ cs,w.heap[g]? = some (.cells cs T (0,0))
theorem Ty.lt {w:World} {g:Nat} {T:TypeId} (h:Ty w g T):g < w.heap.size:=by
  obtain ⟨cs,h⟩:=h
  exact (Array.getElem?_eq_some_iff.1 h).1
theorem Ty.same {w w1:World} {g:Nat} {T:TypeId} (h:Ty w g T) (hs:w1.heap[g]? = w.heap[g]?):Ty w1 g T:=by
  obtain ⟨cs,h⟩:=h
  exact ⟨cs,by rw [hs]; exact h⟩
theorem Ty.below {w w1:World} {g:Nat} {T:TypeId} (h:Ty w g T) (hb:Below w.heap.size w w1):Ty w1 g T:=h.same (hb.block g h.lt)
theorem Ty.set {w:World} {g:Nat} {T:TypeId} (h:Ty w g T) (b o:Nat) (v:Value):Ty (w.setCell ⟨b,o,none⟩ v) g T:=by
  by_cases e:b = g
  · subst e
    obtain ⟨cs,h⟩:=h
    exact ⟨_,heap_setCell_same w b o _ _ v h⟩
  · exact h.same (Below.heap_setCell _ _ _ _ (Ne.symm e))
theorem Ty.ne {w:World} {g g':Nat} {T T':TypeId} (h:Ty w g T) (h':Ty w g' T') (hn:T ≠ T'):g ≠ g':=by
  rintro rfl
  obtain ⟨cs,h⟩:=h
  obtain ⟨cs',h'⟩:=h'
  rw [h] at h'
  simp only [Option.some.injEq,Obj.cells.injEq] at h'
  exact hn h'.2.1
structure LedAt (w:World) (l r cap:Nat) (L:Led):Prop where
  hl:w.heap[l]? = some (.cells (L.cells r cap) 146 (0,0))
  hr:RowsAt w r L.n L.bal
  ne:l ≠ r
  cap:L.n≤cap
  ty:Ty w r 144
structure Led.Ok (L:Led):Prop where
  n1:1≤L.n
  n16:L.n≤16
  c1:1≤L.c
  c8:L.c≤8
  b64:∀ m k,m < L.n→k < 8→In64 (L.bal m k)
  n64:∀ k,k < 8→In64 (L.nos k)
def Led.has (L:Led) (m c:Int):Bool:=decide (0≤m∧m < L.n∧0≤c∧c < L.c)
theorem eight {k:Nat} (h:k < 8):k = 0∨k = 1∨k = 2∨k = 3∨k = 4∨k = 5∨k = 6∨k = 7:=by omega
section
variable {w:World} {l r cap:Nat} {L:Led} (h:LedAt w l r cap L)
include h
theorem LedAt.llt:l < w.heap.size:=(Array.getElem?_eq_some_iff.1 h.hl).1
theorem LedAt.rlt:r < w.heap.size:=by
  obtain ⟨cs,T,h1,_⟩:=h.hr
  exact (Array.getElem?_eq_some_iff.1 h1).1
theorem LedAt.c0:w.cell? ⟨l,0,none⟩ = some (.slice (some ⟨r,0,none⟩) L.n cap):=by rw [cell_of_row _ _ _ _ _ _ h.hl]; rfl
theorem LedAt.cn {k:Nat} (hk:k < 8):w.cell? ⟨l,1 + k,none⟩ = some (.int .i64 (L.nos k)):=by
  rw [cell_of_row _ _ _ _ _ _ h.hl]
  rcases eight hk with rfl | rfl | rfl | rfl | rfl | rfl | rfl | rfl <;> rfl
theorem LedAt.cc:w.cell? ⟨l,9,none⟩ = some (.int .i64 L.c):=by rw [cell_of_row _ _ _ _ _ _ h.hl]; rfl
theorem LedAt.cb {m k:Nat} (hm:m < L.n) (hk:k < 8):w.cell? ⟨r,m * 8 + k,none⟩ = some (.int .i64 (L.bal m k)):=by
  obtain ⟨cs,T,h1,h2⟩:=h.hr
  rw [cell_of_row _ _ _ _ _ _ h1]
  exact h2 m k hm hk
theorem LedAt.fl (j:Nat):w.frozen? ⟨l,j,none⟩ = false:=frozen_of_row _ _ _ _ _ h.hl
theorem LedAt.fr (j:Nat):w.frozen? ⟨r,j,none⟩ = false:=by
  obtain ⟨cs,T,h1,_⟩:=h.hr
  exact frozen_of_row _ _ _ _ _ h1
theorem LedAt.same {w1:World} (h1:w1.heap[l]? = w.heap[l]?) (h2:w1.heap[r]? = w.heap[r]?):LedAt w1 l r cap L:=by
  obtain ⟨cs,T,h3,h4⟩:=h.hr
  exact ⟨by rw [h1]; exact h.hl,⟨cs,T,by rw [h2]; exact h3,h4⟩,h.ne,h.cap,h.ty.same h2⟩
theorem LedAt.below {w1:World} (hb:Below w.heap.size w w1):LedAt w1 l r cap L:=h.same (hb.block l h.llt) (hb.block r h.rlt)
end
set_option maxRecDepth 100000 in
set_option maxHeartbeats 1000000 in
theorem Bk.has {w:World} {l r cap:Nat} {L:Led} (h:LedAt w l r cap L) (m c:Int):Calls Tryz.prog 47 #[.pointer (some ⟨l,0,none⟩),.int .i64 m,.int .i64 c] w fun e w' => e = .returned (.bool (L.has m c))∧w' = w:=by
  have h0:=h.c0
  have h9:=h.cc
  obtain ⟨n,C,bal,nos⟩:=L
  have HH:=Lib.hid (show Led.has ⟨n,C,bal,nos⟩ m c = decide (0≤m∧m < n∧0≤c∧c < C) from rfl)
  clear h
  simp only at h0 h9
  by_cases h1:0≤m
  · by_cases h2:m < n
    · by_cases h3:0≤c
      · go_enter Tryz.func47,Tryz.ntmps47
        go_wp2
        go_ret
        exact ⟨by rw [HH.out]; simp [h1,h2,h3],rfl⟩
      · go_enter Tryz.func47,Tryz.ntmps47
        go_wp2
        go_ret
        exact ⟨by rw [HH.out,decide_eq_false (by omega)]; rfl,rfl⟩
    · go_enter Tryz.func47,Tryz.ntmps47
      go_wp2
      go_ret
      exact ⟨by rw [HH.out,decide_eq_false (by omega)]; rfl,rfl⟩
  · go_enter Tryz.func47,Tryz.ntmps47
    go_wp2
    go_ret
    exact ⟨by rw [HH.out,decide_eq_false (by omega)]; rfl,rfl⟩
def Led.get (L:Led) (m c:Int):Int:=if L.has m c then L.bal m.toNat c.toNat else 0
def Led.nostro (L:Led) (c:Int):Int:=if L.has 0 c then L.nos c.toNat else 0
theorem Led.has_iff {L:Led} {m c:Int}:L.has m c = true ↔ 0≤m∧m < L.n∧0≤c∧c < L.c:=by simp [Led.has]
set_option maxRecDepth 100000 in
set_option maxHeartbeats 1000000 in
theorem Bk.get {w:World} {l r cap:Nat} {L:Led} (h:LedAt w l r cap L) (ho:L.Ok) (m c:Int):Calls Tryz.prog 28 #[.pointer (some ⟨l,0,none⟩),.int .i64 m,.int .i64 c] w fun e w' => e = .returned (.int .i64 (L.get m c))∧w' = w:=by
  have hh:=Lib.hid (Bk.has h m c)
  by_cases hq:L.has m c = true
  · rw [hq] at hh
    obtain ⟨h1,h2,h3,h4⟩:=Led.has_iff.1 hq
    obtain ⟨i,rfl⟩:∃ i:Nat,m = i:=⟨m.toNat,by omega⟩
    obtain ⟨k,rfl⟩:∃ k:Nat,c = k:=⟨c.toNat,by omega⟩
    have hc8:=ho.c8
    have hn:=ho.n16
    have HG:=Lib.hid (show L.get i k = L.bal i k by unfold Led.get; rw [if_pos hq]; simp)
    have h0:=h.c0
    have hb:=h.cb (m:=i) (k:=k) (by omega) (by omega)
    have q1:(i:Int) < (L.n:Int):=h2
    have q2:(k:Int) < 8:=by omega
    have q3:(L.n:Int)≤16:=by omega
    clear h ho hq h1 h2 h3 h4 hc8 hn
    generalize L.n = n at *
    generalize L.bal i k = x at *
    go_enter Tryz.func28,Tryz.ntmps28
    go_wp2_with fail
    refine hh.out.mono ?_
    rintro e w1 ⟨rfl,rfl⟩
    go_wp2
    go_ret
    exact ⟨by rw [HG.out]; rfl,rfl⟩
  · rw [Bool.not_eq_true] at hq
    rw [hq] at hh
    have HG:=Lib.hid (show L.get m c = 0 by unfold Led.get; rw [if_neg (by simp [hq])])
    clear h ho hq
    go_enter Tryz.func28,Tryz.ntmps28
    go_wp2_with fail
    refine hh.out.mono ?_
    rintro e w1 ⟨rfl,rfl⟩
    go_wp2
    go_ret
    exact ⟨by rw [HG.out]; rfl,rfl⟩
set_option maxRecDepth 100000 in
set_option maxHeartbeats 1000000 in
theorem Bk.nostro {w:World} {l r cap:Nat} {L:Led} (h:LedAt w l r cap L) (ho:L.Ok) (c:Int):Calls Tryz.prog 24 #[.pointer (some ⟨l,0,none⟩),.int .i64 c] w fun e w' => e = .returned (.int .i64 (L.nostro c))∧w' = w:=by
  have hh:=Lib.hid (Bk.has h 0 c)
  by_cases hq:L.has 0 c = true
  · rw [hq] at hh
    obtain ⟨h1,h2,h3,h4⟩:=Led.has_iff.1 hq
    obtain ⟨k,rfl⟩:∃ k:Nat,c = k:=⟨c.toNat,by omega⟩
    have hc8:=ho.c8
    have HG:=Lib.hid (show L.nostro k = L.nos k by unfold Led.nostro; rw [if_pos hq]; simp)
    have hb:=h.cn (k:=k) (by omega)
    have q2:(k:Int) < 8:=by omega
    clear h ho hq h1 h2 h3 h4 hc8
    generalize L.nos k = x at *
    go_enter Tryz.func24,Tryz.ntmps24
    go_wp2_with fail
    refine hh.out.mono ?_
    rintro e w1 ⟨rfl,rfl⟩
    go_wp2
    go_ret
    exact ⟨by rw [HG.out]; rfl,rfl⟩
  · rw [Bool.not_eq_true] at hq
    rw [hq] at hh
    have HG:=Lib.hid (show L.nostro c = 0 by unfold Led.nostro; rw [if_neg (by simp [hq])])
    clear h ho hq
    go_enter Tryz.func24,Tryz.ntmps24
    go_wp2_with fail
    refine hh.out.mono ?_
    rintro e w1 ⟨rfl,rfl⟩
    go_wp2
    go_ret
    exact ⟨by rw [HG.out]; rfl,rfl⟩
set_option maxRecDepth 100000 in
set_option maxHeartbeats 1000000 in
theorem Bk.ledger_size {w:World} {l r cap:Nat} {L:Led} (h:LedAt w l r cap L):Calls Tryz.prog 91 #[.pointer (some ⟨l,0,none⟩)] w fun e w' => e = .returned (.tuple #[.int .i64 L.n,.int .i64 L.c])∧∃ n,w' = w.drewN n:=by
  have h0:=h.c0
  have h9:=h.cc
  clear h
  generalize L.n = n at *
  generalize L.c = C at *
  go_enter Tryz.func91,Tryz.ntmps91
  go_wp2
  go_region
  go_wp2
  go_ret2
  exact ⟨rfl,1,rfl⟩
theorem Led.cells_set (L:Led) (r cap k:Nat) (hk:k < 8) (x:Int):(L.cells r cap).set! (1 + k) (.int .i64 x) = Led.cells { L with nos:=fun i => if i = k then x else L.nos i } r cap:=by
  rcases eight hk with rfl | rfl | rfl | rfl | rfl | rfl | rfl | rfl <;> rfl
theorem RowsAt.set {w:World} {r n:Nat} {f:Nat→Nat→Int} (h:RowsAt w r n f) {m k:Nat} (hm:m < n) (hk:k < 8) (x:Int):RowsAt (w.setCell ⟨r,m * 8 + k,none⟩ (.int .i64 x)) r n (fun i j => if i = m∧j = k then x else f i j):=by
  obtain ⟨cs,T,h1,h2⟩:=h
  refine ⟨cs.set! (m * 8 + k) (.int .i64 x),T,heap_setCell_same w r _ _ _ _ h1,fun i j hi hj => ?_⟩
  have h3:=h2 i j hi hj
  have h4:=h2 m k hm hk
  have hlt:=(Array.getElem?_eq_some_iff.1 h4).1
  by_cases e:i = m∧j = k
  · obtain ⟨rfl,rfl⟩:=e
    simp [hlt]
  · show _ = some (Value.int .i64 (if i = m∧j = k then x else f i j))
    rw [if_neg e,Array.set!_eq_setIfInBounds,Array.getElem?_setIfInBounds_ne (by omega)]
    exact h3
theorem LedAt.setn {w:World} {l r cap:Nat} {L:Led} (h:LedAt w l r cap L) {k:Nat} (hk:k < 8) (x:Int):LedAt (w.setCell ⟨l,1 + k,none⟩ (.int .i64 x)) l r cap { L with nos:=fun i => if i = k then x else L.nos i }:=by
  refine ⟨?_,?_,h.ne,h.cap,h.ty.set _ _ _⟩
  · rw [heap_setCell_same w l (1 + k) _ _ (.int .i64 x) h.hl]
    simp only [← Led.cells_set L r cap k hk x,Array.set!_eq_setIfInBounds]
  · obtain ⟨cs,T,h1,h2⟩:=h.hr
    exact ⟨cs,T,by rw [Below.heap_setCell _ _ _ _ (Ne.symm h.ne)]; exact h1,h2⟩
theorem LedAt.setb {w:World} {l r cap:Nat} {L:Led} (h:LedAt w l r cap L) {m k:Nat} (hm:m < L.n) (hk:k < 8) (x:Int):LedAt (w.setCell ⟨r,m * 8 + k,none⟩ (.int .i64 x)) l r cap { L with bal:=fun i j => if i = m∧j = k then x else L.bal i j }:=by
  refine ⟨?_,h.hr.set hm hk x,h.ne,h.cap,h.ty.set _ _ _⟩
  rw [Below.heap_setCell _ _ _ _ h.ne]
  exact h.hl
end Go.Proofs.YtgcnnbjbdfgglaaGreat
namespace Go.Proofs.YtgcnnbjbdfgglaaGreat
open Go.RowKit
structure Kept (F:Nat→Prop) (w w':World):Prop where
  os:w'.os = w.os
  tape:w'.tape = w.tape
  output:w'.output = w.output
  size:w.heap.size≤w'.heap.size
  block:∀ k,k < w.heap.size→¬ F k→w'.heap[k]? = w.heap[k]?
theorem Kept.refl (F:Nat→Prop) (w:World):Kept F w w:=⟨rfl,rfl,rfl,Nat.le_refl _,fun _ _ _ => rfl⟩
theorem Kept.of_below {F:Nat→Prop} {w w':World} (h:Below w.heap.size w w'):Kept F w w':=⟨h.os,h.tape,h.output,h.size,fun k hk _ => h.block k hk⟩
theorem Kept.trans {F:Nat→Prop} {a b c:World} (h:Kept F a b) (k:Kept F b c):Kept F a c :=
  ⟨k.os.trans h.os,k.tape.trans h.tape,k.output.trans h.output,Nat.le_trans h.size k.size,fun i hi hn => (k.block i (Nat.lt_of_lt_of_le hi h.size) hn).trans (h.block i hi hn)⟩
theorem Kept.mono {F G:Nat→Prop} {a b:World} (h:Kept F a b) (hg:∀ k,k < a.heap.size→F k→G k):Kept G a b :=
  ⟨h.os,h.tape,h.output,h.size,fun k hk hn => h.block k hk (fun hf => hn (hg k hk hf))⟩
theorem Kept.setCell {F:Nat→Prop} {a b:World} (h:Kept F a b) {g:Nat} (hg:F g∨a.heap.size≤g) (o:Nat) (v:Value):Kept F a (b.setCell ⟨g,o,none⟩ v) :=
  ⟨h.os,h.tape,h.output,by simpa [World.setCell] using h.size,fun k hk hn => (Below.heap_setCell _ _ _ _ (fun e => by subst e; rcases hg with hg | hg; exact hn hg; omega)).trans (h.block k hk hn)⟩
theorem Kept.drew {F:Nat→Prop} {a b:World} (h:Kept F a b):Kept F a b.drew:=⟨h.os,h.tape,h.output,h.size,h.block⟩
theorem Kept.drewN {F:Nat→Prop} {a b:World} (h:Kept F a b) (n:Nat):Kept F a (b.drewN n):=⟨h.os,h.tape,h.output,h.size,h.block⟩
theorem Kept.alloc {F:Nat→Prop} {a b:World} (h:Kept F a b) (o:Obj):Kept F a (b.alloc o):=h.trans (Kept.of_below ((Below.refl _ _).alloc (Nat.le_refl _) o))
theorem Kept.below {F:Nat→Prop} {a b:World} (h:Kept F a b) {B:Nat} (hB:B≤a.heap.size) (hF:∀ k,F k→B≤k):Below B a b :=
  ⟨h.os,h.tape,h.output,h.size,fun k hk => h.block k (by omega) (fun hf => by have:=hF k hf; omega)⟩
theorem Kept.cell {F:Nat→Prop} {a b:World} (h:Kept F a b) {p:Addr} {v:Value} (hp:a.cell? p = some v) (hn:¬ F p.block):b.cell? p = some v:=by
  rw [World.cell?_of_block (w:=a) (h.block p.block (block_lt_of_cell hp) hn)]; exact hp
theorem Kept.heap {F:Nat→Prop} {a b:World} (h:Kept F a b) {k:Nat} {o:Obj} (hk:a.heap[k]? = some o) (hn:¬ F k):b.heap[k]? = some o:=by
  rw [h.block k (Array.getElem?_eq_some_iff.1 hk).1 hn]; exact hk
abbrev Pair (l r:Nat):Nat→Prop:=fun k => k = l∨k = r
theorem LedAt.drew {w:World} {l r cap:Nat} {L:Led} (h:LedAt w l r cap L):LedAt w.drew l r cap L:=h.same rfl rfl
def Led.setB (L:Led) (i k:Nat) (x:Int):Led:={ L with bal:=fun m j => if m = i∧j = k then x else L.bal m j }
def Led.setN (L:Led) (k:Nat) (y:Int):Led:={ L with nos:=fun j => if j = k then y else L.nos j }
theorem LedAt.set2 {w:World} {l r cap:Nat} {L:Led} (h:LedAt w l r cap L) {i k:Nat} (hi:i < L.n) (hk:k < 8) (x y:Int):LedAt ((w.setCell ⟨r,i * 8 + k,none⟩ (.int .i64 x)).setCell ⟨l,1 + k,none⟩ (.int .i64 y)) l r cap ((L.setB i k x).setN k y):=(h.setb hi hk x).setn hk y
theorem LedAt.set4 {w:World} {l r cap:Nat} {L:Led} (h:LedAt w l r cap L) {i k j:Nat} (hi:i < L.n) (hk:k < 8) (hj:j < 8) (x y z u:Int):LedAt ((((w.setCell ⟨r,i * 8 + k,none⟩ (.int .i64 x)).setCell ⟨l,1 + k,none⟩ (.int .i64 y)).setCell ⟨r,i * 8 + j,none⟩ (.int .i64 z)).setCell ⟨l,1 + j,none⟩ (.int .i64 u)) l r cap ((((L.setB i k x).setN k y).setB i j z).setN j u):=(((h.setb hi hk x).setn hk y).setb hi hj z).setn hj u
theorem Kept.pair2 {l r:Nat} {a b:World} (h:Kept (Pair l r) a b) (o p:Nat) (x y:Value):Kept (Pair l r) a ((b.setCell ⟨r,o,none⟩ x).setCell ⟨l,p,none⟩ y) :=
  (h.setCell (Or.inl (Or.inr rfl)) o x).setCell (Or.inl (Or.inl rfl)) p y
def Led.inn (L:Led) (m c a:Int):Int × Led :=
  if L.has m c = true∧1≤a then
    if In64 (L.bal m.toNat c.toNat + a)∧In64 (L.nos c.toNat + a) then (0,(L.setB m.toNat c.toNat (L.bal m.toNat c.toNat + a)).setN c.toNat (L.nos c.toNat + a))
    else (3,L)
  else (1,L)
def Led.out (L:Led) (m c a:Int):Int × Led :=
  if L.has m c = true∧1≤a then
    if a≤L.bal m.toNat c.toNat∧a≤L.nos c.toNat then (0,(L.setB m.toNat c.toNat (L.bal m.toNat c.toNat - a)).setN c.toNat (L.nos c.toNat - a))
    else (10,L)
  else (1,L)
def SwapPost (L:Led) (m g v a b:Int) (l r cap:Nat) (w:World) (e:Ending) (w':World):Prop:=∃ (c:Int) (L':Led),e = .returned (.int .i64 c)∧LedAt w' l r cap L'∧Kept (Pair l r) w w'∧(c ≠ 0→L' = L) ∧
  (c = 0→L.has m g = true∧L.has m v = true∧g ≠ v∧1≤a∧1≤b∧b≤L.nos v.toNat∧In64 (L.bal m.toNat g.toNat + a)∧In64 (L.nos g.toNat + a)∧In64 (L.bal m.toNat v.toNat - b) ∧
    L' = (((L.setB m.toNat g.toNat (L.bal m.toNat g.toNat + a)).setN g.toNat (L.nos g.toNat + a)).setB m.toNat v.toNat (L.bal m.toNat v.toNat - b)).setN v.toNat (L.nos v.toNat - b))
theorem SwapPost.same {L:Led} {m g v a b:Int} {l r cap:Nat} {w:World} (h:LedAt w l r cap L) {c:Int} (hc:c ≠ 0):SwapPost L m g v a b l r cap w (.returned (.int .i64 c)) w :=
  ⟨c,L,rfl,h,Kept.refl _ _,fun _ => rfl,fun h => absurd h hc⟩
set_option maxRecDepth 100000 in
set_option maxHeartbeats 2000000 in
theorem Bk.inn {w:World} {l r cap:Nat} {L:Led} (h:LedAt w l r cap L) (ho:L.Ok) (m c a:Int) (ha:In64 a):Calls Tryz.prog 190 #[.pointer (some ⟨l,0,none⟩),.int .i64 m,.int .i64 c,.int .i64 a] w fun e w' => e = .returned (.int .i64 (L.inn m c a).1)∧LedAt w' l r cap (L.inn m c a).2∧Kept (Pair l r) w w':=by
  have hh:=Lib.hid (Bk.has h m c)
  have HL:=Lib.hid h
  by_cases hq:L.has m c = true
  · rw [hq] at hh
    by_cases ha1:1≤a
    · obtain ⟨h1,h2,h3,h4⟩:=Led.has_iff.1 hq
      obtain ⟨i,rfl⟩:∃ i:Nat,m = i:=⟨m.toNat,by omega⟩
      obtain ⟨k,rfl⟩:∃ k:Nat,c = k:=⟨c.toNat,by omega⟩
      have hc8:=ho.c8
      have hn:=ho.n16
      have hi:i < L.n:=by omega
      have hk:k < 8:=by omega
      have HE:L.inn i k a = if In64 (L.bal i k + a)∧In64 (L.nos k + a) then (0,(L.setB i k (L.bal i k + a)).setN k (L.nos k + a)) else (3,L):=by
        unfold Led.inn; rw [if_pos ⟨hq,ha1⟩]; simp
      have hA1:=Lib.hid (fun w => Bk.add (L.bal i k) a (ho.b64 i k hi hk) ha w)
      have hA2:=Lib.hid (fun w => Bk.add (L.nos k) a (ho.n64 k hk) ha w)
      have h0:=h.c0
      have hb:=h.cb hi hk
      have hcn:=h.cn hk
      have f1:=h.fr (i * 8 + k)
      have f2:=h.fl (1 + k)
      have q1:(i:Int) < (L.n:Int):=h2
      have q2:(k:Int) < 8:=by omega
      have q3:(L.n:Int)≤16:=by omega
      have hs:=Lib.hid (fun (x y:Int) => h.set2 hi hk x y)
      have hne:=Lib.hid h.ne
      rw [HE]
      clear h ho hq h1 h2 h3 h4 hc8 hn HE ha
      by_cases hin:In64 (L.bal i k + a)∧In64 (L.nos k + a)
      · rw [tn_in hin.1,te_in hin.1] at hA1
        rw [tn_in hin.2,te_in hin.2] at hA2
        rw [if_pos hin]
        clear hin hi hk
        generalize L.bal i k + a = x' at *
        generalize L.nos k + a = y' at *
        generalize L.bal i k = x at *
        generalize L.nos k = y at *
        generalize L.n = n at *
        go_enter Tryz.func190,Tryz.ntmps190
        go_wp2_with fail
        refine hh.out.mono ?_
        rintro e w1 ⟨rfl,rfl⟩
        go_wp2_with fail
        refine (hA1.out _).mono ?_
        rintro e w2 ⟨rfl,rfl⟩
        go_wp2_with fail
        refine (hA2.out _).mono ?_
        rintro e w2 ⟨rfl,rfl⟩
        go_wp2
        go_region
        go_wp2
        go_ret
        exact ⟨rfl,(hs.out _ _).drew,((Kept.refl _ _).pair2 _ _ _ _).drew⟩
      · rw [if_neg hin]
        have hor:te (L.bal i k + a) ≠ 0∨te (L.nos k + a) ≠ 0:=by
          by_cases h1:In64 (L.bal i k + a)
          · right; intro h2; exact hin ⟨h1,te_zero.1 h2⟩
          · left; intro h2; exact h1 (te_zero.1 h2)
        clear hin hi hk
        generalize tn (L.bal i k + a) = x1 at *
        generalize te (L.bal i k + a) = e1 at *
        generalize tn (L.nos k + a) = y1 at *
        generalize te (L.nos k + a) = e2 at *
        generalize L.bal i k = x at *
        generalize L.nos k = y at *
        generalize L.n = n at *
        rcases hor with hor | hor
        · have g1:(e1 != 0) = true:=by simp [hor]
          clear hor
          go_enter Tryz.func190,Tryz.ntmps190
          go_wp2_with fail
          refine hh.out.mono ?_
          rintro e w1 ⟨rfl,rfl⟩
          go_wp2_with fail
          refine (hA1.out _).mono ?_
          rintro e w2 ⟨rfl,rfl⟩
          go_wp2_with fail
          refine (hA2.out _).mono ?_
          rintro e w2 ⟨rfl,rfl⟩
          go_wp2
          go_ret
          exact ⟨rfl,HL.out,Kept.refl _ _⟩
        · have g1:(e2 != 0) = true:=by simp [hor]
          clear hor
          by_cases g2:(e1 != 0) = true
          · go_enter Tryz.func190,Tryz.ntmps190
            go_wp2_with fail
            refine hh.out.mono ?_
            rintro e w1 ⟨rfl,rfl⟩
            go_wp2_with fail
            refine (hA1.out _).mono ?_
            rintro e w2 ⟨rfl,rfl⟩
            go_wp2_with fail
            refine (hA2.out _).mono ?_
            rintro e w2 ⟨rfl,rfl⟩
            go_wp2
            go_ret
            exact ⟨rfl,HL.out,Kept.refl _ _⟩
          · rw [Bool.not_eq_true] at g2
            go_enter Tryz.func190,Tryz.ntmps190
            go_wp2_with fail
            refine hh.out.mono ?_
            rintro e w1 ⟨rfl,rfl⟩
            go_wp2_with fail
            refine (hA1.out _).mono ?_
            rintro e w2 ⟨rfl,rfl⟩
            go_wp2_with fail
            refine (hA2.out _).mono ?_
            rintro e w2 ⟨rfl,rfl⟩
            go_wp2
            go_ret
            exact ⟨rfl,HL.out,Kept.refl _ _⟩
    · have HE:L.inn m c a = (1,L):=by unfold Led.inn; rw [if_neg (by simp [ha1])]
      rw [HE]
      clear h ho hq HE ha
      go_enter Tryz.func190,Tryz.ntmps190
      go_wp2_with fail
      refine hh.out.mono ?_
      rintro e w1 ⟨rfl,rfl⟩
      go_wp2
      go_ret
      exact ⟨rfl,HL.out,Kept.refl _ _⟩
  · have HE:L.inn m c a = (1,L):=by unfold Led.inn; rw [if_neg (by simp [hq])]
    rw [HE]
    rw [Bool.not_eq_true] at hq
    rw [hq] at hh
    clear h ho hq HE ha
    go_enter Tryz.func190,Tryz.ntmps190
    go_wp2_with fail
    refine hh.out.mono ?_
    rintro e w1 ⟨rfl,rfl⟩
    go_wp2
    go_ret
    exact ⟨rfl,HL.out,Kept.refl _ _⟩
set_option maxRecDepth 100000 in
set_option maxHeartbeats 2000000 in
theorem Bk.outt {w:World} {l r cap:Nat} {L:Led} (h:LedAt w l r cap L) (ho:L.Ok) (m c a:Int) (_ha:In64 a):Calls Tryz.prog 239 #[.pointer (some ⟨l,0,none⟩),.int .i64 m,.int .i64 c,.int .i64 a] w fun e w' => e = .returned (.int .i64 (L.out m c a).1)∧LedAt w' l r cap (L.out m c a).2∧Kept (Pair l r) w w':=by
  have hh:=Lib.hid (Bk.has h m c)
  have HL:=Lib.hid h
  by_cases hq:L.has m c = true
  · rw [hq] at hh
    by_cases ha1:1≤a
    · obtain ⟨h1,h2,h3,h4⟩:=Led.has_iff.1 hq
      obtain ⟨i,rfl⟩:∃ i:Nat,m = i:=⟨m.toNat,by omega⟩
      obtain ⟨k,rfl⟩:∃ k:Nat,c = k:=⟨c.toNat,by omega⟩
      have hc8:=ho.c8
      have hn:=ho.n16
      have hi:i < L.n:=by omega
      have hk:k < 8:=by omega
      have HE:L.out i k a = if a≤L.bal i k∧a≤L.nos k then (0,(L.setB i k (L.bal i k - a)).setN k (L.nos k - a)) else (10,L):=by
        unfold Led.out; rw [if_pos ⟨hq,ha1⟩]; simp
      have hx64:=ho.b64 i k hi hk
      have hy64:=ho.n64 k hk
      unfold In64 at hx64 hy64
      have h0:=h.c0
      have hb:=h.cb hi hk
      have hcn:=h.cn hk
      have f1:=h.fr (i * 8 + k)
      have f2:=h.fl (1 + k)
      have q1:(i:Int) < (L.n:Int):=h2
      have q2:(k:Int) < 8:=by omega
      have q3:(L.n:Int)≤16:=by omega
      have hs:=Lib.hid (fun (x y:Int) => h.set2 hi hk x y)
      have hne:=h.ne
      have hne2:=h.ne.symm
      rw [HE]
      clear h ho hq h1 h2 h3 h4 hc8 hn HE _ha hi hk
      generalize L.bal i k = x at *
      generalize L.nos k = y at *
      generalize L.n = n at *
      by_cases hin1:a≤x
      · by_cases hin2:a≤y
        · rw [if_pos ⟨hin1,hin2⟩]
          go_enter Tryz.func239,Tryz.ntmps239
          go_wp2_with fail
          refine hh.out.mono ?_
          rintro e w1 ⟨rfl,rfl⟩
          go_wp2
          go_region
          go_wp2
          go_region
          go_wp2
          go_ret
          exact ⟨rfl,(hs.out _ _).drew.drew,((Kept.refl _ _).pair2 _ _ _ _).drew.drew⟩
        · rw [if_neg (by omega)]
          go_enter Tryz.func239,Tryz.ntmps239
          go_wp2_with fail
          refine hh.out.mono ?_
          rintro e w1 ⟨rfl,rfl⟩
          go_wp2
          go_ret
          exact ⟨rfl,HL.out,Kept.refl _ _⟩
      · rw [if_neg (by omega)]
        go_enter Tryz.func239,Tryz.ntmps239
        go_wp2_with fail
        refine hh.out.mono ?_
        rintro e w1 ⟨rfl,rfl⟩
        go_wp2
        go_ret
        exact ⟨rfl,HL.out,Kept.refl _ _⟩
    · have HE:L.out m c a = (1,L):=by unfold Led.out; rw [if_neg (by simp [ha1])]
      rw [HE]
      clear h ho hq HE _ha
      go_enter Tryz.func239,Tryz.ntmps239
      go_wp2_with fail
      refine hh.out.mono ?_
      rintro e w1 ⟨rfl,rfl⟩
      go_wp2
      go_ret
      exact ⟨rfl,HL.out,Kept.refl _ _⟩
  · have HE:L.out m c a = (1,L):=by unfold Led.out; rw [if_neg (by simp [hq])]
    rw [HE]
    rw [Bool.not_eq_true] at hq
    rw [hq] at hh
    clear h ho hq HE _ha
    go_enter Tryz.func239,Tryz.ntmps239
    go_wp2_with fail
    refine hh.out.mono ?_
    rintro e w1 ⟨rfl,rfl⟩
    go_wp2
    go_ret
    exact ⟨rfl,HL.out,Kept.refl _ _⟩
set_option maxRecDepth 100000 in
set_option maxHeartbeats 4000000 in
theorem Bk.swap {w:World} {l r cap:Nat} {L:Led} (h:LedAt w l r cap L) (ho:L.Ok) (m g v a b:Int) (ha:In64 a) (hb:In64 b):Calls Tryz.prog 244 #[.pointer (some ⟨l,0,none⟩),.int .i64 m,.int .i64 g,.int .i64 v,.int .i64 a,.int .i64 b] w (SwapPost L m g v a b l r cap w):=by
  have hh1:=Lib.hid (Bk.has h m g)
  have hh2:=Lib.hid (Bk.has h m v)
  have HL:=Lib.hid h
  by_cases hq1:L.has m g = true
  · rw [hq1] at hh1
    by_cases hq2:L.has m v = true
    · rw [hq2] at hh2
      by_cases hgv:g = v
      · subst hgv
        clear h ho hq1 hq2 ha hb
        go_enter Tryz.func244,Tryz.ntmps244
        go_wp2_with fail
        refine hh1.out.mono ?_
        rintro e w1 ⟨rfl,rfl⟩
        go_wp2_with fail
        refine hh2.out.mono ?_
        rintro e w1 ⟨rfl,rfl⟩
        go_wp2
        go_ret
        exact SwapPost.same HL.out (by decide)
      · by_cases ha1:1≤a
        · by_cases hb1:1≤b
          · obtain ⟨h1,h2,h3,h4⟩:=Led.has_iff.1 hq1
            obtain ⟨h5,h6,h7,h8⟩:=Led.has_iff.1 hq2
            obtain ⟨i,rfl⟩:∃ i:Nat,m = i:=⟨m.toNat,by omega⟩
            obtain ⟨k,rfl⟩:∃ k:Nat,g = k:=⟨g.toNat,by omega⟩
            obtain ⟨j,rfl⟩:∃ j:Nat,v = j:=⟨v.toNat,by omega⟩
            have hc8:=ho.c8
            have hn:=ho.n16
            have hi:i < L.n:=by omega
            have hk:k < 8:=by omega
            have hj:j < 8:=by omega
            have HQ:=Lib.hid (And.intro hq1 hq2)
            have hne:¬ (k:Int) = (j:Int):=hgv
            have hneb:((k:Int) == (j:Int)) = false:=by simp; omega
            have hA1:=Lib.hid (fun w => Bk.add (L.bal i k) a (ho.b64 i k hi hk) ha w)
            have hA2:=Lib.hid (fun w => Bk.add (L.nos k) a (ho.n64 k hk) ha w)
            have hA3:=Lib.hid (fun w => Bk.sub (L.bal i j) b (ho.b64 i j hi hj) hb w)
            have h0:=h.c0
            have hbk:=h.cb hi hk
            have hbj:=h.cb hi hj
            have hck:=h.cn hk
            have hcj:=h.cn hj
            have f1:=h.fr (i * 8 + k)
            have f2:=h.fl (1 + k)
            have f3:=h.fr (i * 8 + j)
            have f4:=h.fl (1 + j)
            have q1:(i:Int) < (L.n:Int):=h2
            have q2:(k:Int) < 8:=by omega
            have q3:(L.n:Int)≤16:=by omega
            have q4:(j:Int) < 8:=by omega
            have hy64:=ho.n64 j hj
            unfold In64 at hy64
            have hs:=Lib.hid (fun (x y z u:Int) => h.set4 hi hk hj x y z u)
            have hlr:=h.ne
            have hrl:=h.ne.symm
            clear h ho hq1 hq2 h1 h2 h3 h4 h5 h6 h7 h8 hc8 hn ha hb
            by_cases hnb:b≤L.nos j
            · by_cases hin:In64 (L.bal i k + a)∧In64 (L.nos k + a)∧In64 (L.bal i j - b)
              · rw [tn_in hin.1,te_in hin.1] at hA1
                rw [tn_in hin.2.1,te_in hin.2.1] at hA2
                rw [tn_in hin.2.2,te_in hin.2.2] at hA3
                have HI:=Lib.hid (And.intro ha1 (And.intro hb1 (And.intro hnb hin)))
                have hkj:k ≠ j:=by omega
                have hjk:j ≠ k:=by omega
                have n1:i * 8 + k ≠ i * 8 + j:=by omega
                have n2:i * 8 + j ≠ i * 8 + k:=by omega
                have n3:1 + k ≠ 1 + j:=by omega
                have n4:1 + j ≠ 1 + k:=by omega
                clear hin hi hk hj
                have e1:∀ w',LedAt w' l r cap ((((L.setB i k (L.bal i k + a)).setN k (L.nos k + a)).setB i j (L.bal i j - b)).setN j (L.nos j - b))→Kept (Pair l r) w w'→SwapPost L i k j a b l r cap w (.returned (.int .i64 0)) w':=fun w' hl hk => ⟨0,_,rfl,hl,hk,fun h => absurd rfl h,fun _ => ⟨HQ.out.1,HQ.out.2,hgv,HI.out.1,HI.out.2.1,HI.out.2.2.1,HI.out.2.2.2.1,HI.out.2.2.2.2.1,HI.out.2.2.2.2.2,rfl⟩⟩
                have E1:=Lib.hid e1
                have hs2:=Lib.hid (hs.out (L.bal i k + a) (L.nos k + a) (L.bal i j - b) (L.nos j - b))
                clear e1 hs
                generalize ((((L.setB i k (L.bal i k + a)).setN k (L.nos k + a)).setB i j (L.bal i j - b)).setN j (L.nos j - b)) = L' at *
                have hs3:LedAt ((((w.setCell ⟨r,i * 8 + k,none⟩ (.int .i64 (L.bal i k + a))).setCell ⟨l,1 + k,none⟩ (.int .i64 (L.nos k + a))).setCell ⟨r,i * 8 + j,none⟩ (.int .i64 (L.bal i j - b))).setCell ⟨l,1 + j,none⟩ (.int .i64 (L.nos j - b))) l r cap L':=hs2.out
                have HS3:=Lib.hid hs3
                clear hs2 hs3
                generalize L.bal i k + a = x1 at *
                generalize L.nos k + a = y1 at *
                generalize L.bal i j - b = x2 at *
                have hy2:-9223372036854775808≤L.nos j - b∧L.nos j - b≤9223372036854775807:=by omega
                generalize hy:L.nos j = y at *
                clear hy
                generalize L.bal i k = z1 at *
                generalize L.nos k = z2 at *
                generalize L.bal i j = z3 at *
                generalize L.n = n at *
                go_enter Tryz.func244,Tryz.ntmps244
                go_wp2_with fail
                refine hh1.out.mono ?_
                rintro e w1 ⟨rfl,rfl⟩
                go_wp2_with fail
                refine hh2.out.mono ?_
                rintro e w1 ⟨rfl,rfl⟩
                go_wp2_with fail
                refine (hA1.out _).mono ?_
                rintro e w2 ⟨rfl,rfl⟩
                go_wp2_with fail
                refine (hA2.out _).mono ?_
                rintro e w2 ⟨rfl,rfl⟩
                go_wp2_with fail
                refine (hA3.out _).mono ?_
                rintro e w2 ⟨rfl,rfl⟩
                go_wp2
                go_region
                go_wp2
                go_region
                go_wp2
                go_ret
                exact E1.out _ HS3.out.drew.drew (((((((Kept.refl _ _).setCell (Or.inl (Or.inr rfl)) _ _).setCell (Or.inl (Or.inl rfl)) _ _).setCell (Or.inl (Or.inr rfl)) _ _).setCell (Or.inl (Or.inl rfl)) _ _).drew).drew)
              · have hor:te (L.bal i k + a) ≠ 0∨te (L.nos k + a) ≠ 0∨te (L.bal i j - b) ≠ 0:=by
                  by_cases h1:In64 (L.bal i k + a)
                  · by_cases h2:In64 (L.nos k + a)
                    · right; right; intro h3; exact hin ⟨h1,h2,te_zero.1 h3⟩
                    · right; left; intro h3; exact h2 (te_zero.1 h3)
                  · left; intro h2; exact h1 (te_zero.1 h2)
                clear hin hi hk hj hs
                generalize tn (L.bal i k + a) = x1 at *
                generalize te (L.bal i k + a) = e1 at *
                generalize tn (L.nos k + a) = y1 at *
                generalize te (L.nos k + a) = e2 at *
                generalize tn (L.bal i j - b) = z1 at *
                generalize te (L.bal i j - b) = e3 at *
                generalize L.nos j = y at *
                generalize L.n = n at *
                have g:(e1 != 0 || e2 != 0 || e3 != 0) = true:=by
                  rcases hor with h | h | h <;> simp [h]
                clear hor
                cases g1:(e1 != 0) with
                | true =>
                  clear g
                  go_enter Tryz.func244,Tryz.ntmps244
                  go_wp2_with fail
                  refine hh1.out.mono ?_
                  rintro e w1 ⟨rfl,rfl⟩
                  go_wp2_with fail
                  refine hh2.out.mono ?_
                  rintro e w1 ⟨rfl,rfl⟩
                  go_wp2_with fail
                  refine (hA1.out _).mono ?_
                  rintro e w2 ⟨rfl,rfl⟩
                  go_wp2_with fail
                  refine (hA2.out _).mono ?_
                  rintro e w2 ⟨rfl,rfl⟩
                  go_wp2_with fail
                  refine (hA3.out _).mono ?_
                  rintro e w2 ⟨rfl,rfl⟩
                  go_wp2
                  go_ret
                  exact SwapPost.same HL.out (by decide)
                | false =>
                  cases g2:(e2 != 0) with
                  | true =>
                    clear g
                    go_enter Tryz.func244,Tryz.ntmps244
                    go_wp2_with fail
                    refine hh1.out.mono ?_
                    rintro e w1 ⟨rfl,rfl⟩
                    go_wp2_with fail
                    refine hh2.out.mono ?_
                    rintro e w1 ⟨rfl,rfl⟩
                    go_wp2_with fail
                    refine (hA1.out _).mono ?_
                    rintro e w2 ⟨rfl,rfl⟩
                    go_wp2_with fail
                    refine (hA2.out _).mono ?_
                    rintro e w2 ⟨rfl,rfl⟩
                    go_wp2_with fail
                    refine (hA3.out _).mono ?_
                    rintro e w2 ⟨rfl,rfl⟩
                    go_wp2
                    go_ret
                    exact SwapPost.same HL.out (by decide)
                  | false =>
                    have g3:(e3 != 0) = true:=by rw [g1,g2] at g; simpa using g
                    clear g
                    go_enter Tryz.func244,Tryz.ntmps244
                    go_wp2_with fail
                    refine hh1.out.mono ?_
                    rintro e w1 ⟨rfl,rfl⟩
                    go_wp2_with fail
                    refine hh2.out.mono ?_
                    rintro e w1 ⟨rfl,rfl⟩
                    go_wp2_with fail
                    refine (hA1.out _).mono ?_
                    rintro e w2 ⟨rfl,rfl⟩
                    go_wp2_with fail
                    refine (hA2.out _).mono ?_
                    rintro e w2 ⟨rfl,rfl⟩
                    go_wp2_with fail
                    refine (hA3.out _).mono ?_
                    rintro e w2 ⟨rfl,rfl⟩
                    go_wp2
                    go_ret
                    exact SwapPost.same HL.out (by decide)
            · have hlt:L.nos j < b:=by omega
              generalize L.nos j = y at *
              go_enter Tryz.func244,Tryz.ntmps244
              go_wp2_with fail
              refine hh1.out.mono ?_
              rintro e w1 ⟨rfl,rfl⟩
              go_wp2_with fail
              refine hh2.out.mono ?_
              rintro e w1 ⟨rfl,rfl⟩
              go_wp2
              go_ret
              exact SwapPost.same HL.out (by decide)
          · clear h ho hq1 hq2 ha hb
            go_enter Tryz.func244,Tryz.ntmps244
            go_wp2_with fail
            refine hh1.out.mono ?_
            rintro e w1 ⟨rfl,rfl⟩
            go_wp2_with fail
            refine hh2.out.mono ?_
            rintro e w1 ⟨rfl,rfl⟩
            go_wp2
            go_ret
            exact SwapPost.same HL.out (by decide)
        · clear h ho hq1 hq2 ha hb
          go_enter Tryz.func244,Tryz.ntmps244
          go_wp2_with fail
          refine hh1.out.mono ?_
          rintro e w1 ⟨rfl,rfl⟩
          go_wp2_with fail
          refine hh2.out.mono ?_
          rintro e w1 ⟨rfl,rfl⟩
          go_wp2
          go_ret
          exact SwapPost.same HL.out (by decide)
    · rw [Bool.not_eq_true] at hq2
      rw [hq2] at hh2
      clear h ho hq1 hq2 ha hb
      go_enter Tryz.func244,Tryz.ntmps244
      go_wp2_with fail
      refine hh1.out.mono ?_
      rintro e w1 ⟨rfl,rfl⟩
      go_wp2_with fail
      refine hh2.out.mono ?_
      rintro e w1 ⟨rfl,rfl⟩
      go_wp2
      go_ret
      exact SwapPost.same HL.out (by decide)
  · rw [Bool.not_eq_true] at hq1
    rw [hq1] at hh1
    clear h ho hq1 ha hb
    go_enter Tryz.func244,Tryz.ntmps244
    go_wp2_with fail
    refine hh1.out.mono ?_
    rintro e w1 ⟨rfl,rfl⟩
    go_wp2
    go_ret
    exact SwapPost.same HL.out (by decide)
end Go.Proofs.YtgcnnbjbdfgglaaGreat
