/- LAW TopBoth: of every configuration of a bank and every list of byte strings the given function TopBoth returns true and leaves its arguments as they were; no condition. A part of what it needs. -/
import Derived.Test.YtgcnnbjbdfgglaaGreatZae
import Derived.LoopTactic
import Derived.Laws.RangeAny
import Derived.Laws.RangeString
namespace Go.Proofs.YtgcnnbjbdfgglaaGreat
open Go.RowKit
def anyTo (p:Nat→Bool):Nat→Bool
  | 0 => false
  | n + 1 => anyTo p n || p n
theorem anyTo_false {p:Nat→Bool} {n:Nat}:anyTo p n = false ↔ ∀ i,i < n→p i = false:=by
  induction n with
  | zero => simp [anyTo]
  | succ n ih =>
    simp only [anyTo,Bool.or_eq_false_iff,ih]
    constructor
    · rintro ⟨h1,h2⟩ i hi
      by_cases e:i = n
      · subst e; exact h2
      · exact h1 i (by omega)
    · intro h
      exact ⟨fun i hi => h i (by omega),h n (by omega)⟩
theorem anyTo_true {p:Nat→Bool} {n i:Nat} (hi:i < n) (h:p i = true):anyTo p n = true:=by
  cases hq:anyTo p n with
  | true => rfl
  | false => rw [anyTo_false.1 hq i hi] at h; cases h
def IdxIs (p:Nat→Bool) (n:Nat) (k:Int):Prop:=(k = -1∧∀ i,i < n→p i = false)∨(∃ i:Nat,i < n∧k = i∧p i = true∧∀ j,j < i→p j = false)
def IdxPost (p:Nat→Bool) (n:Nat) (w:World) (e:Ending) (w':World):Prop:=∃ k:Int,e = .returned (.int .i64 k)∧IdxIs p n k∧Below w.heap.size w w'
set_option maxRecDepth 100000 in
set_option maxHeartbeats 1000000 in
theorem Bk.idxPst {w:World} {v:Value} {n:Nat} {f:Nat→Nat→Value} (h:SlK w v 3 n f) (hn:(n:Int)≤4000) (g:FuncId) (lb:Array Value) (p:Nat→Bool) (eg:∀ args w,(callFunc g args).run Tryz.prog w = .ok (.enter g args) w)
    (hp:∀ i,i < n→∀ wx,Below w.heap.size w wx→Calls Tryz.prog g (#[.agg #[f i 0,f i 1,f i 2]] ++ lb) wx fun e w' => e = .returned (.bool (p i))∧Below wx.heap.size wx w') :
    Calls Tryz.prog 168 #[v,.func (.func g) #[] lb] w (IdxPost p n w):=by
  obtain ⟨a,c,rfl,hc⟩:=h
  have HC:=Lib.hid hc
  have HP:=Lib.hid hp
  clear hc hp
  go_enter Tryz.func168,Tryz.ntmps168
  go_wp2
  go_loopw [8] (fun i wr => ∃ k:Nat,k≤n∧i = .int .i64 k∧(∀ j,j < k→p j = false)∧Below w.heap.size w wr) (fun i _ => n - (intOf i).toNat)
  case atStart => exact ⟨0,by omega,rfl,fun j h => by omega,Below.refl _ _⟩
  case round =>
    obtain ⟨k,hk,rfl,hall,hb⟩:=hrel
    have HAL:=Lib.hid hall
    have HB:=Lib.hid hb
    clear hall
    by_cases hlt:k < n
    · have q1:(k:Int) < (n:Int):=by omega
      obtain ⟨b,o,rfl,hc⟩:=HC.out (by omega)
      have hcall:=Lib.hid (HP.out k hlt)
      have c0:=Bk.kept hb (hc k 0 hlt (by omega))
      rw [Nat.add_zero] at c0
      generalize f k 0 = y0 at *
      have c1:=Bk.kept hb (hc k 1 hlt (by omega))
      rw [← Nat.add_assoc] at c1
      generalize f k 1 = y1 at *
      have c2:=Bk.kept hb (hc k 2 hlt (by omega))
      rw [← Nat.add_assoc] at c2
      generalize f k 2 = y2 at *
      clear hc hb
      cases hq:p k with
      | true =>
        have HQ:=Lib.hid hq
        rw [hq] at hcall
        clear hq
        go_wp2_with fail
        refine (hcall.out _ HB.out).mono ?_
        rintro e w1 ⟨rfl,hb1⟩
        go_wp2
        go_ret
        exact ⟨k,rfl,.inr ⟨k,hlt,rfl,HQ.out,HAL.out⟩,HB.out.trans (hb1.mono HB.out.size)⟩
      | false =>
        have HQ:=Lib.hid hq
        rw [hq] at hcall
        clear hq
        go_wp2_with fail
        refine (hcall.out _ HB.out).mono ?_
        rintro e w1 ⟨rfl,hb1⟩
        go_wp2
        go_roundw
        case rel => exact ⟨k + 1,by omega,by go_num,(fun j hj => by by_cases e:j = k; subst e; exact HQ.out; exact HAL.out j (by omega)),HB.out.trans (hb1.mono HB.out.size)⟩
        case measure => simp [intOf]; omega
    · obtain rfl:k = n:=by omega
      clear hb
      go_wp2
      go_ret
      exact ⟨-1,rfl,.inl ⟨rfl,HAL.out⟩,HB.out⟩
set_option maxRecDepth 100000 in
set_option maxHeartbeats 1000000 in
theorem Bk.anyPst {w:World} {v:Value} {n:Nat} {f:Nat→Nat→Value} (h:SlK w v 3 n f) (hn:(n:Int)≤4000) (g:FuncId) (lb:Array Value) (p:Nat→Bool) (eg:∀ args w,(callFunc g args).run Tryz.prog w = .ok (.enter g args) w)
    (hp:∀ i,i < n→∀ wx,Below w.heap.size w wx→Calls Tryz.prog g (#[.agg #[f i 0,f i 1,f i 2]] ++ lb) wx fun e w' => e = .returned (.bool (p i))∧Below wx.heap.size wx w') :
    Calls Tryz.prog 134 #[v,.func (.func g) #[] lb] w fun e w' => e = .returned (.bool (anyTo p n))∧Below w.heap.size w w':=by
  have HI:=Lib.hid (Bk.idxPst h hn g lb p eg hp)
  clear hp eg
  obtain ⟨a,c,rfl,hc⟩:=h
  clear hc
  go_enter Tryz.func134,Tryz.ntmps134
  go_wp2_with fail
  refine HI.out.mono ?_
  rintro e w1 ⟨k,rfl,hi,hb⟩
  rcases hi with ⟨rfl,hall⟩ | ⟨i,hin,rfl,hpi,_⟩
  · have HR:=Lib.hid (anyTo_false.2 hall)
    clear hall
    go_wp2
    go_ret
    exact ⟨by rw [HR.out]; rfl,hb⟩
  · have HR:=Lib.hid (anyTo_true hin hpi)
    clear hpi
    go_wp2
    go_ret
    exact ⟨by rw [HR.out]; rfl,hb⟩
set_option maxRecDepth 100000 in
set_option maxHeartbeats 1000000 in
theorem Bk.idxCur {w:World} {v:Value} {n:Nat} {f:Nat→Nat→Value} (h:SlK w v 3 n f) (hn:(n:Int)≤4000) (g:FuncId) (lb:Array Value) (p:Nat→Bool) (eg:∀ args w,(callFunc g args).run Tryz.prog w = .ok (.enter g args) w)
    (hp:∀ i,i < n→∀ wx,Below w.heap.size w wx→Calls Tryz.prog g (#[.agg #[f i 0,f i 1,f i 2]] ++ lb) wx fun e w' => e = .returned (.bool (p i))∧Below wx.heap.size wx w') :
    Calls Tryz.prog 137 #[v,.func (.func g) #[] lb] w (IdxPost p n w):=by
  obtain ⟨a,c,rfl,hc⟩:=h
  have HC:=Lib.hid hc
  have HP:=Lib.hid hp
  clear hc hp
  go_enter Tryz.func137,Tryz.ntmps137
  go_wp2
  go_loopw [8] (fun i wr => ∃ k:Nat,k≤n∧i = .int .i64 k∧(∀ j,j < k→p j = false)∧Below w.heap.size w wr) (fun i _ => n - (intOf i).toNat)
  case atStart => exact ⟨0,by omega,rfl,fun j h => by omega,Below.refl _ _⟩
  case round =>
    obtain ⟨k,hk,rfl,hall,hb⟩:=hrel
    have HAL:=Lib.hid hall
    have HB:=Lib.hid hb
    clear hall
    by_cases hlt:k < n
    · have q1:(k:Int) < (n:Int):=by omega
      obtain ⟨b,o,rfl,hc⟩:=HC.out (by omega)
      have hcall:=Lib.hid (HP.out k hlt)
      have c0:=Bk.kept hb (hc k 0 hlt (by omega))
      rw [Nat.add_zero] at c0
      generalize f k 0 = y0 at *
      have c1:=Bk.kept hb (hc k 1 hlt (by omega))
      rw [← Nat.add_assoc] at c1
      generalize f k 1 = y1 at *
      have c2:=Bk.kept hb (hc k 2 hlt (by omega))
      rw [← Nat.add_assoc] at c2
      generalize f k 2 = y2 at *
      clear hc hb
      cases hq:p k with
      | true =>
        have HQ:=Lib.hid hq
        rw [hq] at hcall
        clear hq
        go_wp2_with fail
        refine (hcall.out _ HB.out).mono ?_
        rintro e w1 ⟨rfl,hb1⟩
        go_wp2
        go_ret
        exact ⟨k,rfl,.inr ⟨k,hlt,rfl,HQ.out,HAL.out⟩,HB.out.trans (hb1.mono HB.out.size)⟩
      | false =>
        have HQ:=Lib.hid hq
        rw [hq] at hcall
        clear hq
        go_wp2_with fail
        refine (hcall.out _ HB.out).mono ?_
        rintro e w1 ⟨rfl,hb1⟩
        go_wp2
        go_roundw
        case rel => exact ⟨k + 1,by omega,by go_num,(fun j hj => by by_cases e:j = k; subst e; exact HQ.out; exact HAL.out j (by omega)),HB.out.trans (hb1.mono HB.out.size)⟩
        case measure => simp [intOf]; omega
    · obtain rfl:k = n:=by omega
      clear hb
      go_wp2
      go_ret
      exact ⟨-1,rfl,.inl ⟨rfl,HAL.out⟩,HB.out⟩
set_option maxRecDepth 100000 in
set_option maxHeartbeats 1000000 in
theorem Bk.idxLim {w:World} {v:Value} {n:Nat} {f:Nat→Nat→Value} (h:SlK w v 2 n f) (hn:(n:Int)≤4000) (g:FuncId) (lb:Array Value) (p:Nat→Bool) (eg:∀ args w,(callFunc g args).run Tryz.prog w = .ok (.enter g args) w)
    (hp:∀ i,i < n→∀ wx,Below w.heap.size w wx→Calls Tryz.prog g (#[.agg #[f i 0,f i 1]] ++ lb) wx fun e w' => e = .returned (.bool (p i))∧Below wx.heap.size wx w') :
    Calls Tryz.prog 141 #[v,.func (.func g) #[] lb] w (IdxPost p n w):=by
  obtain ⟨a,c,rfl,hc⟩:=h
  have HC:=Lib.hid hc
  have HP:=Lib.hid hp
  clear hc hp
  go_enter Tryz.func141,Tryz.ntmps141
  go_wp2
  go_loopw [8] (fun i wr => ∃ k:Nat,k≤n∧i = .int .i64 k∧(∀ j,j < k→p j = false)∧Below w.heap.size w wr) (fun i _ => n - (intOf i).toNat)
  case atStart => exact ⟨0,by omega,rfl,fun j h => by omega,Below.refl _ _⟩
  case round =>
    obtain ⟨k,hk,rfl,hall,hb⟩:=hrel
    have HAL:=Lib.hid hall
    have HB:=Lib.hid hb
    clear hall
    by_cases hlt:k < n
    · have q1:(k:Int) < (n:Int):=by omega
      obtain ⟨b,o,rfl,hc⟩:=HC.out (by omega)
      have hcall:=Lib.hid (HP.out k hlt)
      have c0:=Bk.kept hb (hc k 0 hlt (by omega))
      rw [Nat.add_zero] at c0
      generalize f k 0 = y0 at *
      have c1:=Bk.kept hb (hc k 1 hlt (by omega))
      rw [← Nat.add_assoc] at c1
      generalize f k 1 = y1 at *
      clear hc hb
      cases hq:p k with
      | true =>
        have HQ:=Lib.hid hq
        rw [hq] at hcall
        clear hq
        go_wp2_with fail
        refine (hcall.out _ HB.out).mono ?_
        rintro e w1 ⟨rfl,hb1⟩
        go_wp2
        go_ret
        exact ⟨k,rfl,.inr ⟨k,hlt,rfl,HQ.out,HAL.out⟩,HB.out.trans (hb1.mono HB.out.size)⟩
      | false =>
        have HQ:=Lib.hid hq
        rw [hq] at hcall
        clear hq
        go_wp2_with fail
        refine (hcall.out _ HB.out).mono ?_
        rintro e w1 ⟨rfl,hb1⟩
        go_wp2
        go_roundw
        case rel => exact ⟨k + 1,by omega,by go_num,(fun j hj => by by_cases e:j = k; subst e; exact HQ.out; exact HAL.out j (by omega)),HB.out.trans (hb1.mono HB.out.size)⟩
        case measure => simp [intOf]; omega
    · obtain rfl:k = n:=by omega
      clear hb
      go_wp2
      go_ret
      exact ⟨-1,rfl,.inl ⟨rfl,HAL.out⟩,HB.out⟩
set_option maxRecDepth 100000 in
set_option maxHeartbeats 1000000 in
theorem Bk.anyLim {w:World} {v:Value} {n:Nat} {f:Nat→Nat→Value} (h:SlK w v 2 n f) (hn:(n:Int)≤4000) (g:FuncId) (lb:Array Value) (p:Nat→Bool) (eg:∀ args w,(callFunc g args).run Tryz.prog w = .ok (.enter g args) w)
    (hp:∀ i,i < n→∀ wx,Below w.heap.size w wx→Calls Tryz.prog g (#[.agg #[f i 0,f i 1]] ++ lb) wx fun e w' => e = .returned (.bool (p i))∧Below wx.heap.size wx w') :
    Calls Tryz.prog 94 #[v,.func (.func g) #[] lb] w fun e w' => e = .returned (.bool (anyTo p n))∧Below w.heap.size w w':=by
  have HI:=Lib.hid (Bk.idxLim h hn g lb p eg hp)
  clear hp eg
  obtain ⟨a,c,rfl,hc⟩:=h
  clear hc
  go_enter Tryz.func94,Tryz.ntmps94
  go_wp2_with fail
  refine HI.out.mono ?_
  rintro e w1 ⟨k,rfl,hi,hb⟩
  rcases hi with ⟨rfl,hall⟩ | ⟨i,hin,rfl,hpi,_⟩
  · have HR:=Lib.hid (anyTo_false.2 hall)
    clear hall
    go_wp2
    go_ret
    exact ⟨by rw [HR.out]; rfl,hb⟩
  · have HR:=Lib.hid (anyTo_true hin hpi)
    clear hpi
    go_wp2
    go_ret
    exact ⟨by rw [HR.out]; rfl,hb⟩
set_option maxRecDepth 100000 in
set_option maxHeartbeats 1000000 in
theorem Bk.idxI64 {w:World} {v:Value} {n:Nat} {f:Nat→Nat→Value} (h:SlK w v 1 n f) (hn:(n:Int)≤4000) (g:FuncId) (lb:Array Value) (p:Nat→Bool) (eg:∀ args w,(callFunc g args).run Tryz.prog w = .ok (.enter g args) w)
    (hp:∀ i,i < n→∀ wx,Below w.heap.size w wx→Calls Tryz.prog g (#[f i 0] ++ lb) wx fun e w' => e = .returned (.bool (p i))∧Below wx.heap.size wx w') :
    Calls Tryz.prog 143 #[v,.func (.func g) #[] lb] w (IdxPost p n w):=by
  obtain ⟨a,c,rfl,hc⟩:=h
  have HC:=Lib.hid hc
  have HP:=Lib.hid hp
  clear hc hp
  go_enter Tryz.func143,Tryz.ntmps143
  go_wp2
  go_loopw [8] (fun i wr => ∃ k:Nat,k≤n∧i = .int .i64 k∧(∀ j,j < k→p j = false)∧Below w.heap.size w wr) (fun i _ => n - (intOf i).toNat)
  case atStart => exact ⟨0,by omega,rfl,fun j h => by omega,Below.refl _ _⟩
  case round =>
    obtain ⟨k,hk,rfl,hall,hb⟩:=hrel
    have HAL:=Lib.hid hall
    have HB:=Lib.hid hb
    clear hall
    by_cases hlt:k < n
    · have q1:(k:Int) < (n:Int):=by omega
      obtain ⟨b,o,rfl,hc⟩:=HC.out (by omega)
      have hcall:=Lib.hid (HP.out k hlt)
      have c0:=Bk.kept hb (hc k 0 hlt (by omega))
      rw [Nat.mul_one,Nat.add_zero] at c0
      generalize f k 0 = y0 at *
      clear hc hb
      cases hq:p k with
      | true =>
        have HQ:=Lib.hid hq
        rw [hq] at hcall
        clear hq
        go_wp2_with fail
        refine (hcall.out _ HB.out).mono ?_
        rintro e w1 ⟨rfl,hb1⟩
        go_wp2
        go_ret
        exact ⟨k,rfl,.inr ⟨k,hlt,rfl,HQ.out,HAL.out⟩,HB.out.trans (hb1.mono HB.out.size)⟩
      | false =>
        have HQ:=Lib.hid hq
        rw [hq] at hcall
        clear hq
        go_wp2_with fail
        refine (hcall.out _ HB.out).mono ?_
        rintro e w1 ⟨rfl,hb1⟩
        go_wp2
        go_roundw
        case rel => exact ⟨k + 1,by omega,by go_num,(fun j hj => by by_cases e:j = k; subst e; exact HQ.out; exact HAL.out j (by omega)),HB.out.trans (hb1.mono HB.out.size)⟩
        case measure => simp [intOf]; omega
    · obtain rfl:k = n:=by omega
      clear hb
      go_wp2
      go_ret
      exact ⟨-1,rfl,.inl ⟨rfl,HAL.out⟩,HB.out⟩
set_option maxRecDepth 100000 in
set_option maxHeartbeats 1000000 in
theorem Bk.anyI64 {w:World} {v:Value} {n:Nat} {f:Nat→Nat→Value} (h:SlK w v 1 n f) (hn:(n:Int)≤4000) (g:FuncId) (lb:Array Value) (p:Nat→Bool) (eg:∀ args w,(callFunc g args).run Tryz.prog w = .ok (.enter g args) w)
    (hp:∀ i,i < n→∀ wx,Below w.heap.size w wx→Calls Tryz.prog g (#[f i 0] ++ lb) wx fun e w' => e = .returned (.bool (p i))∧Below wx.heap.size wx w') :
    Calls Tryz.prog 100 #[v,.func (.func g) #[] lb] w fun e w' => e = .returned (.bool (anyTo p n))∧Below w.heap.size w w':=by
  have HI:=Lib.hid (Bk.idxI64 h hn g lb p eg hp)
  clear hp eg
  obtain ⟨a,c,rfl,hc⟩:=h
  clear hc
  go_enter Tryz.func100,Tryz.ntmps100
  go_wp2_with fail
  refine HI.out.mono ?_
  rintro e w1 ⟨k,rfl,hi,hb⟩
  rcases hi with ⟨rfl,hall⟩ | ⟨i,hin,rfl,hpi,_⟩
  · have HR:=Lib.hid (anyTo_false.2 hall)
    clear hall
    go_wp2
    go_ret
    exact ⟨by rw [HR.out]; rfl,hb⟩
  · have HR:=Lib.hid (anyTo_true hin hpi)
    clear hpi
    go_wp2
    go_ret
    exact ⟨by rw [HR.out]; rfl,hb⟩
set_option maxRecDepth 100000 in
set_option maxHeartbeats 1000000 in
theorem Bk.idxRow {w:World} {v:Value} {n:Nat} {f:Nat→Nat→Value} (h:SlK w v 1 n f) (hn:(n:Int)≤4000) (g:FuncId) (lb:Array Value) (p:Nat→Bool) (eg:∀ args w,(callFunc g args).run Tryz.prog w = .ok (.enter g args) w)
    (hp:∀ i,i < n→∀ wx,Below w.heap.size w wx→Calls Tryz.prog g (#[f i 0] ++ lb) wx fun e w' => e = .returned (.bool (p i))∧Below wx.heap.size wx w') :
    Calls Tryz.prog 144 #[v,.func (.func g) #[] lb] w (IdxPost p n w):=by
  obtain ⟨a,c,rfl,hc⟩:=h
  have HC:=Lib.hid hc
  have HP:=Lib.hid hp
  clear hc hp
  go_enter Tryz.func144,Tryz.ntmps144
  go_wp2
  go_loopw [8] (fun i wr => ∃ k:Nat,k≤n∧i = .int .i64 k∧(∀ j,j < k→p j = false)∧Below w.heap.size w wr) (fun i _ => n - (intOf i).toNat)
  case atStart => exact ⟨0,by omega,rfl,fun j h => by omega,Below.refl _ _⟩
  case round =>
    obtain ⟨k,hk,rfl,hall,hb⟩:=hrel
    have HAL:=Lib.hid hall
    have HB:=Lib.hid hb
    clear hall
    by_cases hlt:k < n
    · have q1:(k:Int) < (n:Int):=by omega
      obtain ⟨b,o,rfl,hc⟩:=HC.out (by omega)
      have hcall:=Lib.hid (HP.out k hlt)
      have c0:=Bk.kept hb (hc k 0 hlt (by omega))
      rw [Nat.mul_one,Nat.add_zero] at c0
      generalize f k 0 = y0 at *
      clear hc hb
      cases hq:p k with
      | true =>
        have HQ:=Lib.hid hq
        rw [hq] at hcall
        clear hq
        go_wp2_with fail
        refine (hcall.out _ HB.out).mono ?_
        rintro e w1 ⟨rfl,hb1⟩
        go_wp2
        go_ret
        exact ⟨k,rfl,.inr ⟨k,hlt,rfl,HQ.out,HAL.out⟩,HB.out.trans (hb1.mono HB.out.size)⟩
      | false =>
        have HQ:=Lib.hid hq
        rw [hq] at hcall
        clear hq
        go_wp2_with fail
        refine (hcall.out _ HB.out).mono ?_
        rintro e w1 ⟨rfl,hb1⟩
        go_wp2
        go_roundw
        case rel => exact ⟨k + 1,by omega,by go_num,(fun j hj => by by_cases e:j = k; subst e; exact HQ.out; exact HAL.out j (by omega)),HB.out.trans (hb1.mono HB.out.size)⟩
        case measure => simp [intOf]; omega
    · obtain rfl:k = n:=by omega
      clear hb
      go_wp2
      go_ret
      exact ⟨-1,rfl,.inl ⟨rfl,HAL.out⟩,HB.out⟩
set_option maxRecDepth 100000 in
set_option maxHeartbeats 1000000 in
theorem Bk.anyRow {w:World} {v:Value} {n:Nat} {f:Nat→Nat→Value} (h:SlK w v 1 n f) (hn:(n:Int)≤4000) (g:FuncId) (lb:Array Value) (p:Nat→Bool) (eg:∀ args w,(callFunc g args).run Tryz.prog w = .ok (.enter g args) w)
    (hp:∀ i,i < n→∀ wx,Below w.heap.size w wx→Calls Tryz.prog g (#[f i 0] ++ lb) wx fun e w' => e = .returned (.bool (p i))∧Below wx.heap.size wx w') :
    Calls Tryz.prog 102 #[v,.func (.func g) #[] lb] w fun e w' => e = .returned (.bool (anyTo p n))∧Below w.heap.size w w':=by
  have HI:=Lib.hid (Bk.idxRow h hn g lb p eg hp)
  clear hp eg
  obtain ⟨a,c,rfl,hc⟩:=h
  clear hc
  go_enter Tryz.func102,Tryz.ntmps102
  go_wp2_with fail
  refine HI.out.mono ?_
  rintro e w1 ⟨k,rfl,hi,hb⟩
  rcases hi with ⟨rfl,hall⟩ | ⟨i,hin,rfl,hpi,_⟩
  · have HR:=Lib.hid (anyTo_false.2 hall)
    clear hall
    go_wp2
    go_ret
    exact ⟨by rw [HR.out]; rfl,hb⟩
  · have HR:=Lib.hid (anyTo_true hin hpi)
    clear hpi
    go_wp2
    go_ret
    exact ⟨by rw [HR.out]; rfl,hb⟩
set_option maxRecDepth 100000 in
set_option maxHeartbeats 1000000 in
theorem Bk.idxPrt {w:World} {v:Value} {n:Nat} {f:Nat→Nat→Value} (h:SlK w v 2 n f) (hn:(n:Int)≤4000) (g:FuncId) (lb:Array Value) (p:Nat→Bool) (eg:∀ args w,(callFunc g args).run Tryz.prog w = .ok (.enter g args) w)
    (hp:∀ i,i < n→∀ wx,Below w.heap.size w wx→Calls Tryz.prog g (#[.agg #[f i 0,f i 1]] ++ lb) wx fun e w' => e = .returned (.bool (p i))∧Below wx.heap.size wx w') :
    Calls Tryz.prog 265 #[v,.func (.func g) #[] lb] w (IdxPost p n w):=by
  obtain ⟨a,c,rfl,hc⟩:=h
  have HC:=Lib.hid hc
  have HP:=Lib.hid hp
  clear hc hp
  go_enter Tryz.func265,Tryz.ntmps265
  go_wp2
  go_loopw [8] (fun i wr => ∃ k:Nat,k≤n∧i = .int .i64 k∧(∀ j,j < k→p j = false)∧Below w.heap.size w wr) (fun i _ => n - (intOf i).toNat)
  case atStart => exact ⟨0,by omega,rfl,fun j h => by omega,Below.refl _ _⟩
  case round =>
    obtain ⟨k,hk,rfl,hall,hb⟩:=hrel
    have HAL:=Lib.hid hall
    have HB:=Lib.hid hb
    clear hall
    by_cases hlt:k < n
    · have q1:(k:Int) < (n:Int):=by omega
      obtain ⟨b,o,rfl,hc⟩:=HC.out (by omega)
      have hcall:=Lib.hid (HP.out k hlt)
      have c0:=Bk.kept hb (hc k 0 hlt (by omega))
      rw [Nat.add_zero] at c0
      generalize f k 0 = y0 at *
      have c1:=Bk.kept hb (hc k 1 hlt (by omega))
      rw [← Nat.add_assoc] at c1
      generalize f k 1 = y1 at *
      clear hc hb
      cases hq:p k with
      | true =>
        have HQ:=Lib.hid hq
        rw [hq] at hcall
        clear hq
        go_wp2_with fail
        refine (hcall.out _ HB.out).mono ?_
        rintro e w1 ⟨rfl,hb1⟩
        go_wp2
        go_ret
        exact ⟨k,rfl,.inr ⟨k,hlt,rfl,HQ.out,HAL.out⟩,HB.out.trans (hb1.mono HB.out.size)⟩
      | false =>
        have HQ:=Lib.hid hq
        rw [hq] at hcall
        clear hq
        go_wp2_with fail
        refine (hcall.out _ HB.out).mono ?_
        rintro e w1 ⟨rfl,hb1⟩
        go_wp2
        go_roundw
        case rel => exact ⟨k + 1,by omega,by go_num,(fun j hj => by by_cases e:j = k; subst e; exact HQ.out; exact HAL.out j (by omega)),HB.out.trans (hb1.mono HB.out.size)⟩
        case measure => simp [intOf]; omega
    · obtain rfl:k = n:=by omega
      clear hb
      go_wp2
      go_ret
      exact ⟨-1,rfl,.inl ⟨rfl,HAL.out⟩,HB.out⟩
set_option maxRecDepth 100000 in
set_option maxHeartbeats 1000000 in
theorem Bk.anyPrt {w:World} {v:Value} {n:Nat} {f:Nat→Nat→Value} (h:SlK w v 2 n f) (hn:(n:Int)≤4000) (g:FuncId) (lb:Array Value) (p:Nat→Bool) (eg:∀ args w,(callFunc g args).run Tryz.prog w = .ok (.enter g args) w)
    (hp:∀ i,i < n→∀ wx,Below w.heap.size w wx→Calls Tryz.prog g (#[.agg #[f i 0,f i 1]] ++ lb) wx fun e w' => e = .returned (.bool (p i))∧Below wx.heap.size wx w') :
    Calls Tryz.prog 246 #[v,.func (.func g) #[] lb] w fun e w' => e = .returned (.bool (anyTo p n))∧Below w.heap.size w w':=by
  have HI:=Lib.hid (Bk.idxPrt h hn g lb p eg hp)
  clear hp eg
  obtain ⟨a,c,rfl,hc⟩:=h
  clear hc
  go_enter Tryz.func246,Tryz.ntmps246
  go_wp2_with fail
  refine HI.out.mono ?_
  rintro e w1 ⟨k,rfl,hi,hb⟩
  rcases hi with ⟨rfl,hall⟩ | ⟨i,hin,rfl,hpi,_⟩
  · have HR:=Lib.hid (anyTo_false.2 hall)
    clear hall
    go_wp2
    go_ret
    exact ⟨by rw [HR.out]; rfl,hb⟩
  · have HR:=Lib.hid (anyTo_true hin hpi)
    clear hpi
    go_wp2
    go_ret
    exact ⟨by rw [HR.out]; rfl,hb⟩
set_option maxRecDepth 100000 in
set_option maxHeartbeats 1000000 in
theorem Bk.idxInt {w:World} {v:Value} {n:Nat} {f:Nat→Nat→Value} (h:SlK w v 1 n f) (hn:(n:Int)≤4000) (g:FuncId) (lb:Array Value) (p:Nat→Bool) (eg:∀ args w,(callFunc g args).run Tryz.prog w = .ok (.enter g args) w)
    (hp:∀ i,i < n→∀ wx,Below w.heap.size w wx→Calls Tryz.prog g (#[f i 0] ++ lb) wx fun e w' => e = .returned (.bool (p i))∧Below wx.heap.size wx w') :
    Calls Tryz.prog 271 #[v,.func (.func g) #[] lb] w (IdxPost p n w):=by
  obtain ⟨a,c,rfl,hc⟩:=h
  have HC:=Lib.hid hc
  have HP:=Lib.hid hp
  clear hc hp
  go_enter Tryz.func271,Tryz.ntmps271
  go_wp2
  go_loopw [8] (fun i wr => ∃ k:Nat,k≤n∧i = .int .i64 k∧(∀ j,j < k→p j = false)∧Below w.heap.size w wr) (fun i _ => n - (intOf i).toNat)
  case atStart => exact ⟨0,by omega,rfl,fun j h => by omega,Below.refl _ _⟩
  case round =>
    obtain ⟨k,hk,rfl,hall,hb⟩:=hrel
    have HAL:=Lib.hid hall
    have HB:=Lib.hid hb
    clear hall
    by_cases hlt:k < n
    · have q1:(k:Int) < (n:Int):=by omega
      obtain ⟨b,o,rfl,hc⟩:=HC.out (by omega)
      have hcall:=Lib.hid (HP.out k hlt)
      have c0:=Bk.kept hb (hc k 0 hlt (by omega))
      rw [Nat.mul_one,Nat.add_zero] at c0
      generalize f k 0 = y0 at *
      clear hc hb
      cases hq:p k with
      | true =>
        have HQ:=Lib.hid hq
        rw [hq] at hcall
        clear hq
        go_wp2_with fail
        refine (hcall.out _ HB.out).mono ?_
        rintro e w1 ⟨rfl,hb1⟩
        go_wp2
        go_ret
        exact ⟨k,rfl,.inr ⟨k,hlt,rfl,HQ.out,HAL.out⟩,HB.out.trans (hb1.mono HB.out.size)⟩
      | false =>
        have HQ:=Lib.hid hq
        rw [hq] at hcall
        clear hq
        go_wp2_with fail
        refine (hcall.out _ HB.out).mono ?_
        rintro e w1 ⟨rfl,hb1⟩
        go_wp2
        go_roundw
        case rel => exact ⟨k + 1,by omega,by go_num,(fun j hj => by by_cases e:j = k; subst e; exact HQ.out; exact HAL.out j (by omega)),HB.out.trans (hb1.mono HB.out.size)⟩
        case measure => simp [intOf]; omega
    · obtain rfl:k = n:=by omega
      clear hb
      go_wp2
      go_ret
      exact ⟨-1,rfl,.inl ⟨rfl,HAL.out⟩,HB.out⟩
set_option maxRecDepth 100000 in
set_option maxHeartbeats 1000000 in
theorem Bk.anyInt {w:World} {v:Value} {n:Nat} {f:Nat→Nat→Value} (h:SlK w v 1 n f) (hn:(n:Int)≤4000) (g:FuncId) (lb:Array Value) (p:Nat→Bool) (eg:∀ args w,(callFunc g args).run Tryz.prog w = .ok (.enter g args) w)
    (hp:∀ i,i < n→∀ wx,Below w.heap.size w wx→Calls Tryz.prog g (#[f i 0] ++ lb) wx fun e w' => e = .returned (.bool (p i))∧Below wx.heap.size wx w') :
    Calls Tryz.prog 262 #[v,.func (.func g) #[] lb] w fun e w' => e = .returned (.bool (anyTo p n))∧Below w.heap.size w w':=by
  have HI:=Lib.hid (Bk.idxInt h hn g lb p eg hp)
  clear hp eg
  obtain ⟨a,c,rfl,hc⟩:=h
  clear hc
  go_enter Tryz.func262,Tryz.ntmps262
  go_wp2_with fail
  refine HI.out.mono ?_
  rintro e w1 ⟨k,rfl,hi,hb⟩
  rcases hi with ⟨rfl,hall⟩ | ⟨i,hin,rfl,hpi,_⟩
  · have HR:=Lib.hid (anyTo_false.2 hall)
    clear hall
    go_wp2
    go_ret
    exact ⟨by rw [HR.out]; rfl,hb⟩
  · have HR:=Lib.hid (anyTo_true hin hpi)
    clear hpi
    go_wp2
    go_ret
    exact ⟨by rw [HR.out]; rfl,hb⟩
end Go.Proofs.YtgcnnbjbdfgglaaGreat
namespace Go.Proofs.YtgcnnbjbdfgglaaGreat
open Go.RowKit
theorem eqz (a b:Int):(a = b∧decide (a = b) = true∧(a == b) = true)∨(¬ a = b∧decide (a = b) = false∧(a == b) = false):=by
  by_cases h:a = b
  · exact .inl ⟨h,by simp [h],by simp [h]⟩
  · exact .inr ⟨h,by simp [h],by simp [h]⟩
def Caps (s:ByteArray):Prop:=∀ i (h:i < s.size),65≤(s[i]'h).toNat∧(s[i]'h).toNat≤90
theorem Bk.iterBelow {w:World} (s:ByteArray) (pos:Nat):Below w.heap.size w (w.iter s pos):=(Below.refl _ _).alloc (Nat.le_refl _) _
theorem Bk.width (s:ByteArray) (pos:Nat) (h:pos < s.size):1≤(Utf8.decode s pos).2:=by
  by_cases ha:(s[pos]'h).toNat < 128
  · rw [decode_ascii s pos h ha]
    exact Nat.le_refl _
  · exact (decode_high s pos h (by omega)).2
def FmPost (s:ByteArray) (w:World) (e:Ending) (w':World):Prop:=∃ b:Bool,e = .returned (.bool b)∧(Caps s→b = decide (s.size = 3))∧Below w.heap.size w w'
set_option maxRecDepth 100000 in
set_option maxHeartbeats 2000000 in
theorem Bk.formed (s:ByteArray) (w:World):Calls Tryz.prog 87 #[.string s] w (FmPost s w):=by
  go_enter Tryz.func87,Tryz.ntmps87
  go_wp2
  go_loopw [4] (fun _ w' => ∃ pos:Nat,w' = w.iter s pos) (fun _ w' => s.size - w'.iterPos w.heap.size)
  case atStart => exact ⟨0,rfl⟩
  case round =>
    obtain ⟨pos,rfl⟩:=hrel
    by_cases hp:pos < s.size
    · have hnx:∀ ty,(Instr.next (.pointer (some ⟨w.heap.size,0,none⟩)) true ty).run Tryz.prog (w.iter s pos) = _:=fun ty => run_next_any w s pos ty hp
      have hcap:Caps s→((Utf8.decode s pos).1:Int) = ((s[pos]'hp).toNat:Int):=fun hc => by
        rw [decode_ascii s pos hp (by have:=(hc pos hp).2; omega)]
      have hle:=decode_le s pos
      have hwd:=Bk.width s pos hp
      have HC:=Lib.hid hcap
      clear hcap
      have HMS:Hid (∀ k:Nat,1≤k→s.size - (pos + k) < s.size - pos):=Lib.hid (fun k hk => by omega)
      generalize Utf8.decode s pos = D at *
      obtain ⟨r,k⟩:=D
      dsimp only at *
      by_cases h1:(r:Int) < 65
      · go_wp2
        go_ret
        exact ⟨false,rfl,fun hc => by
          have h:=HC.out hc
          have:=(hc pos hp).1
          omega,Bk.iterBelow _ _⟩
      · by_cases h2:(90:Int) < r
        · go_wp2
          go_ret
          exact ⟨false,rfl,fun hc => by
            have h:=HC.out hc
            have:=(hc pos hp).2
            omega,Bk.iterBelow _ _⟩
        · go_wp2
          go_roundw
          case rel => exact ⟨pos + k,rfl⟩
          case measure => simp; exact HMS.out k hwd
    · have hnx:∀ ty,(Instr.next (.pointer (some ⟨w.heap.size,0,none⟩)) true ty).run Tryz.prog (w.iter s pos) = _:=fun ty => run_next_end w s pos ty hp
      go_wp2
      go_ret
      refine ⟨_,rfl,fun _ => ?_,Bk.iterBelow _ _⟩
      exact (show decide ((s.size:Int) = 3) = decide (s.size = 3) from decide_eq_decide.2 (by omega))
theorem Bk.find1 (s:ByteArray) (r c:Int) (t:ByteArray) (z:Nat) (w:World) (hz:w.cell? ⟨z,0,none⟩ = some (.string t)):Calls Tryz.prog 138 #[.agg #[.string s,.int .i64 r,.int .i64 c],.pointer (some ⟨z,0,none⟩)] w fun e w' => e = .returned (.bool (s.toList == t.toList))∧Below w.heap.size w w':=by
  have hb:=(Below.refl w.heap.size w).alloc (Nat.le_refl _) (.cells #[.string s,.int .i64 r,.int .i64 c] 82)
  have hz2:=Bk.kept hb hz
  have HB:=Lib.hid hb
  clear hb
  go_enter Tryz.func138,Tryz.ntmps138
  go_wp2
  go_ret
  exact ⟨rfl,HB.out⟩
def TabIn (w:World) (v:Value) (n:Nat) (code:Nat→ByteArray) (rate cut:Nat→Int):Prop:=SlK w v 3 n (fun i j => if j = 0 then .string (code i) else if j = 1 then .int .i64 (rate i) else .int .i64 (cut i))
def FdPost (n:Nat) (code:Nat→ByteArray) (s:ByteArray) (w:World) (e:Ending) (w':World):Prop:=∃ (i:Int) (b:Bool),e = .returned (.tuple #[.int .i64 i,.bool b])∧(∃ j:Int,IdxIs (fun i => (code i).toList == s.toList) n j∧i = max j 0)∧Below w.heap.size w w'
set_option maxRecDepth 100000 in
theorem Bk.tfind {w:World} {v:Value} {n:Nat} {code:Nat→ByteArray} {rate cut:Nat→Int} (h:TabIn w v n code rate cut) (hn:(n:Int)≤4000) (s:ByteArray):Calls Tryz.prog 88 #[v,.string s] w (FdPost n code s w):=by
  have hb:=(Below.refl w.heap.size w).alloc (Nat.le_refl _) (.cells #[.string s] 9)
  have hx:(w.alloc (.cells #[.string s] 9)).cell? ⟨w.heap.size,0,none⟩ = some (.string s):=(Blk.new w 9 #[.string s]).cell 0
  have HI:=Lib.hid (Bk.idxCur (h.below hb) hn 138 #[.pointer (some ⟨w.heap.size,0,none⟩)] (fun i => (code i).toList == s.toList) (fun _ _ => by kernel_rfl) (fun i hi wx hbx => Bk.find1 (code i) (rate i) (cut i) s w.heap.size wx (Bk.kept hbx hx)))
  have HB:=Lib.hid hb
  obtain ⟨a,c,rfl,-⟩:=h
  clear hb hx
  go_enter Tryz.func88,Tryz.ntmps88
  go_wp2_with fail
  refine HI.out.mono ?_
  rintro e w1 ⟨j,rfl,hj,hb1⟩
  have HB1:=Lib.hid (HB.out.trans (hb1.mono HB.out.size))
  have HJ:=Lib.hid hj
  clear hb1 hj
  by_cases h0:j < 0
  · go_wp2
    go_ret2
    exact ⟨_,_,rfl,⟨j,HJ.out,by omega⟩,HB1.out⟩
  · go_wp2
    go_ret2
    exact ⟨_,_,rfl,⟨j,HJ.out,by omega⟩,HB1.out⟩
def ckRates (n:Nat) (rate cut:Nat→Int):Prop:=1≤n∧n≤8∧∀ i,i < n→fitsB i (rate i) (cut i) = true
def CkPost (n:Nat) (code:Nat→ByteArray) (rate cut:Nat→Int) (w:World) (e:Ending) (w':World):Prop:=∃ c:Int,e = .returned (.int .i64 c)∧0≤c∧c≤12∧(c = 0→ckRates n rate cut)∧(n = 1→Caps (code 0)→(code 0).size = 3→rate 0 = 10000→cut 0 = 0→c = 0)∧Below w.heap.size w w'
set_option maxRecDepth 100000 in
set_option maxHeartbeats 4000000 in
theorem Bk.check {w:World} {v:Value} {n:Nat} {code:Nat→ByteArray} {rate cut:Nat→Int} (h:TabIn w v n code rate cut) (hn:(n:Int)≤4000):Calls Tryz.prog 48 #[v] w (CkPost n code rate cut w):=by
  have HI:=Lib.hid h
  obtain ⟨a,c,rfl,hc⟩:=h
  have HC:=Lib.hid hc
  clear hc
  by_cases h8:n = 0∨8 < n
  · have HX:=Lib.hid h8
    rcases h8 with h0 | h0
    · subst h0
      go_enter Tryz.func48,Tryz.ntmps48
      go_wp2
      go_ret
      exact ⟨4,rfl,by omega,by omega,by omega,by omega,Below.refl _ _⟩
    · have h1:¬ (n:Int) = 0:=by omega
      have h2:(8:Int) < n:=by omega
      go_enter Tryz.func48,Tryz.ntmps48
      go_wp2
      go_ret
      exact ⟨4,rfl,by omega,by omega,by omega,by omega,Below.refl _ _⟩
  · have h1:¬ (n:Int) = 0:=by omega
    have h2:¬ (8:Int) < n:=by omega
    have h3:1≤n∧n≤8:=by omega
    have HN:=Lib.hid h3
    clear h8 h3
    go_enter Tryz.func48,Tryz.ntmps48
    go_wp2
    go_loopw [21] (fun i wr => ∃ k:Nat,k≤n∧i = .int .i64 k∧Hid (Below w.heap.size w wr)) (fun i _ => n - (intOf i).toNat)
    case atStart => exact ⟨0,by omega,rfl,Lib.hid (Below.refl _ _)⟩
    case round =>
      obtain ⟨k,hk,rfl,HB⟩:=hrel
      by_cases hlt:k < n
      · have q1:(k:Int) < (n:Int):=by omega
        obtain ⟨b,o,rfl,h2⟩:=HC.out (by omega)
        have c0:wr.cell? ⟨b,o + k * 3,none⟩ = some (.string (code k)):=Bk.kept HB.out (h2 k 0 hlt (by omega))
        have c1:wr.cell? ⟨b,o + k * 3 + 1,none⟩ = some (.int .i64 (rate k)):=by have:=Bk.kept HB.out (h2 k 1 hlt (by omega)); rw [← Nat.add_assoc] at this; exact this
        have c2:wr.cell? ⟨b,o + k * 3 + 2,none⟩ = some (.int .i64 (cut k)):=by have:=Bk.kept HB.out (h2 k 2 hlt (by omega)); rw [← Nat.add_assoc] at this; exact this
        have HB2:=Lib.hid (HB.out.alloc HB.out.size (.cells #[.string (code k),.int .i64 (rate k),.int .i64 (cut k)] 82))
        have HF:=Lib.hid (Bk.formed (code k) (wr.alloc (.cells #[.string (code k),.int .i64 (rate k),.int .i64 (cut k)] 82)))
        have HK:=Lib.hid (show n = 1→Caps (code 0)→(code 0).size = 3→Caps (code k)∧(code k).size = 3 from fun h1 hc hz => by
          obtain rfl:k = 0:=by omega
          exact ⟨hc,hz⟩)
        clear h2
        generalize code k = s at *
        generalize rate k = r at *
        generalize cut k = u at *
        go_wp2_with fail
        refine HF.out.mono ?_
        rintro e w1 ⟨fb,rfl,hfb,hb1⟩
        have HB3:=Lib.hid (HB2.out.trans (hb1.mono HB2.out.size))
        have HFB:=Lib.hid hfb
        clear hfb hb1
        cases fb with
        | true =>
          go_wp2
          go_roundw
          case rel => exact ⟨k + 1,by omega,by go_num,HB3⟩
          case measure => simp [intOf]; omega
        | false =>
          go_wp2
          go_ret
          exact ⟨2,rfl,by omega,by omega,by omega,fun h1 hc hz _ _ => by
            obtain ⟨a1,a2⟩:=HK.out h1 hc hz
            have:=HFB.out a1
            simp [a2] at this,HB3.out⟩
      · go_wp2
        go_loopw [32] (fun i wr => ∃ k:Nat,k≤n∧i = .int .i64 k∧Hid (Below w.heap.size w wr)) (fun i _ => n - (intOf i).toNat)
        case atStart => exact ⟨0,by omega,rfl,HB⟩
        case round =>
          clear HB hlt hk
          obtain ⟨k,hk,rfl,HB⟩:=hrel
          by_cases hlt:k < n
          · have q1:(k:Int) < (n:Int):=by omega
            obtain ⟨b,o,rfl,h2⟩:=HC.out (by omega)
            have c0:wr.cell? ⟨b,o + k * 3,none⟩ = some (.string (code k)):=Bk.kept HB.out (h2 k 0 hlt (by omega))
            have c1:wr.cell? ⟨b,o + k * 3 + 1,none⟩ = some (.int .i64 (rate k)):=by have:=Bk.kept HB.out (h2 k 1 hlt (by omega)); rw [← Nat.add_assoc] at this; exact this
            have c2:wr.cell? ⟨b,o + k * 3 + 2,none⟩ = some (.int .i64 (cut k)):=by have:=Bk.kept HB.out (h2 k 2 hlt (by omega)); rw [← Nat.add_assoc] at this; exact this
            have HB2:=Lib.hid (HB.out.alloc HB.out.size (.cells #[.string (code k),.int .i64 (rate k),.int .i64 (cut k)] 82))
            have HF:=Lib.hid (Bk.tfind (HI.out.below HB2.out) hn (code k))
            clear h2
            generalize code k = s at *
            generalize rate k = r at *
            generalize cut k = u at *
            go_wp2_with fail
            refine HF.out.mono ?_
            rintro e w1 ⟨i,fb,rfl,hi,hb1⟩
            have HB3:=Lib.hid (HB2.out.trans (hb1.mono HB2.out.size))
            have HIX:=Lib.hid hi
            clear hi hb1
            rcases eqz i k with ⟨a1,a2,a3⟩ | ⟨a1,a2,a3⟩
            · subst a1
              clear a2 a3
              go_wp2
              go_roundw
              case rel => exact ⟨k + 1,by omega,by go_num,HB3⟩
              case measure => simp [intOf]; omega
            · have a4:(i != (k:Int)) = true:=by simpa using a1
              have HA:=Lib.hid a1
              clear a1
              go_wp2
              go_ret
              exact ⟨6,rfl,by omega,by omega,by omega,fun h1 _ _ _ _ => by
                obtain ⟨j,hj,hm⟩:=HIX.out
                refine absurd ?_ HA.out
                rcases hj with ⟨e,_⟩ | ⟨j',hj',e,_⟩ <;> omega,HB3.out⟩
          · go_wp2
            go_loopw [50] (fun i wr => ∃ k:Nat,k≤n∧i = .int .i64 k∧Hid (∀ j,j < k→fitsB j (rate j) (cut j) = true)∧Hid (Below w.heap.size w wr)) (fun i _ => n - (intOf i).toNat)
            case atStart => exact ⟨0,by omega,rfl,Lib.hid (fun j hj => by omega),HB⟩
            case round =>
              clear HB hlt hk
              obtain ⟨k,hk,rfl,HD,HB⟩:=hrel
              by_cases hlt:k < n
              · have q1:(k:Int) < (n:Int):=by omega
                obtain ⟨b,o,rfl,h2⟩:=HC.out (by omega)
                have c0:wr.cell? ⟨b,o + k * 3,none⟩ = some (.string (code k)):=Bk.kept HB.out (h2 k 0 hlt (by omega))
                have c1:wr.cell? ⟨b,o + k * 3 + 1,none⟩ = some (.int .i64 (rate k)):=by have:=Bk.kept HB.out (h2 k 1 hlt (by omega)); rw [← Nat.add_assoc] at this; exact this
                have c2:wr.cell? ⟨b,o + k * 3 + 2,none⟩ = some (.int .i64 (cut k)):=by have:=Bk.kept HB.out (h2 k 2 hlt (by omega)); rw [← Nat.add_assoc] at this; exact this
                have HB2:=Lib.hid (HB.out.alloc HB.out.size (.cells #[.string (code k),.int .i64 (rate k),.int .i64 (cut k)] 82))
                have HF:=Lib.hid (Bk.fits k (code k) (rate k) (cut k) (wr.alloc (.cells #[.string (code k),.int .i64 (rate k),.int .i64 (cut k)] 82)))
                have HD2:=Lib.hid (show ∀ b:Bool,fitsB k (rate k) (cut k) = b→(b = true→∀ j,j < k + 1→fitsB j (rate j) (cut j) = true)∧(b = false→¬ (n = 1∧rate 0 = 10000∧cut 0 = 0)) from fun b hb => ⟨fun e j hj => by
                  by_cases ej:j = k
                  · subst ej; rw [hb,e]
                  · exact HD.out j (by omega),fun e hz => by
                  obtain rfl:k = 0:=by omega
                  rw [hz.2.1,hz.2.2,e] at hb
                  cases hb⟩)
                clear h2
                generalize fitsB k (rate k) (cut k) = fb at *
                generalize code k = s at *
                generalize rate k = r at *
                generalize cut k = u at *
                go_wp2_with fail
                refine HF.out.mono ?_
                rintro e w1 ⟨rfl,hb1⟩
                have HB3:=Lib.hid (HB2.out.trans (hb1.mono HB2.out.size))
                have HD3:=Lib.hid (HD2.out fb rfl)
                clear hb1 HD2
                cases fb with
                | true =>
                  go_wp2
                  go_roundw
                  case rel => exact ⟨k + 1,by omega,by go_num,Lib.hid (HD3.out.1 trivial),HB3⟩
                  case measure => simp [intOf]; omega
                | false =>
                  go_wp2
                  go_ret
                  exact ⟨1,rfl,by omega,by omega,by omega,fun h1 _ _ hr hu => absurd ⟨h1,hr,hu⟩ (HD3.out.2 trivial),HB3.out⟩
              · obtain rfl:k = n:=by omega
                go_wp2
                go_ret
                exact ⟨0,rfl,by omega,by omega,fun _ => ⟨HN.out.1,HN.out.2,HD.out⟩,fun _ _ _ _ _ => rfl,HB.out⟩
end Go.Proofs.YtgcnnbjbdfgglaaGreat
