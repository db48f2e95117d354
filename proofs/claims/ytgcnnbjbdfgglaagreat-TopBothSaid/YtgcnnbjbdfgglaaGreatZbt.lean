/- LAW TopBoth: of every configuration of a bank and every list of byte strings the given function TopBoth returns true and leaves its arguments as they were; no condition. A part of what it needs. -/
import Derived.Test.YtgcnnbjbdfgglaaGreatZan
namespace Go.Proofs.YtgcnnbjbdfgglaaGreat
open Go.RowKit
def MinPost (n:Nat) (f:Nat→Int) (w:World) (e:Ending) (w':World):Prop:=∃ x:Int,e = .returned (.int .i64 x)∧(∀ i,i < n→x≤f i)∧(∃ i,i < n∧x = f i)∧w' = w
set_option maxRecDepth 100000 in
set_option maxHeartbeats 2000000 in
theorem Bk.min64 {w:World} {v:Value} {n:Nat} {f:Nat→Int} (h:SlI w v n f) (hn0:0 < n) (hn:(n:Int)≤4000):Calls Tryz.prog 140 #[v] w (MinPost n f w):=by
  obtain ⟨a,c,rfl,hc⟩:=h
  obtain ⟨b,o,rfl,h2⟩:=hc hn0
  have H2:=Lib.hid h2
  have q0:¬ (n:Int) < 1:=by omega
  have c0:=h2 0 hn0
  rw [Nat.add_zero] at c0
  have q1:(0:Int) < n:=by omega
  clear hc h2
  go_enter Tryz.func140,Tryz.ntmps140
  go_wp2
  go_loopw [3,4] (fun m i wr => ∃ (k:Nat) (x:Int),k≤n∧1≤k∧m = .int .i64 x∧i = .int .i64 k∧Hid ((∀ j,j < k→x≤f j)∧∃ j,j < n∧x = f j)∧wr = w) (fun _ i _ => n - (intOf i).toNat)
  case atStart => exact ⟨1,f 0,by omega,by omega,rfl,rfl,Lib.hid ⟨fun j hj => by
    obtain rfl:j = 0:=by omega
    exact Int.le_refl _,0,hn0,rfl⟩,rfl⟩
  case round =>
    obtain ⟨k,x,hk,hk1,rfl,rfl,HX,rfl⟩:=hrel
    by_cases hlt:k < n
    · have q2:(k:Int) < (n:Int):=by omega
      have ck:=H2.out k hlt
      have HY:∀ y:Int,y = min x (f k)→Hid ((∀ j,j < k + 1→y≤f j)∧∃ j,j < n∧y = f j):=fun y hy => Lib.hid (by
        refine ⟨fun j hj => ?_,?_⟩
        · by_cases e:j = k
          · subst e; omega
          · have:=HX.out.1 j (by omega); omega
        · rcases (by omega:y = x∨y = f k) with e | e
          · obtain ⟨j,hj,e2⟩:=HX.out.2; exact ⟨j,hj,by omega⟩
          · exact ⟨k,hlt,e⟩)
      have HYY:=Lib.hid HY
      clear HY
      generalize f k = y at *
      by_cases hxy:y < x
      · go_wp2
        go_roundw
        case rel => exact ⟨k + 1,y,by omega,by omega,rfl,by go_num,HYY.out y (by omega),trivial⟩
        case measure => simp [intOf]; omega
      · go_wp2
        go_roundw
        case rel => exact ⟨k + 1,x,by omega,by omega,rfl,by go_num,HYY.out x (by omega),trivial⟩
        case measure => simp [intOf]; omega
    · obtain rfl:k = n:=by omega
      go_wp2
      go_ret
      exact ⟨x,rfl,HX.out.1,HX.out.2,rfl⟩
def fitsL (C m:Nat) (f:Nat→Int) (a:Int):Prop:=m = C∧0≤a∧∀ j,j < m→0≤f j
def FitPost (P:Prop) (w:World) (e:Ending) (w':World):Prop:=∃ b:Bool,e = .returned (.bool b)∧(b = true ↔ P)∧Below w.heap.size w w'
set_option maxRecDepth 100000 in
set_option maxHeartbeats 2000000 in
theorem Bk.rfits {w:World} {v:Value} {m:Nat} {f:Nat→Int} (h:SlI w v m f) (a:Int) (C:Nat) (hm:(C:Int)≤4000) (hC:0 < C):Calls Tryz.prog 93 #[.agg #[v,.int .i64 a],.int .i64 C] w (FitPost (fitsL C m f a) w):=by
  have HH:=Lib.hid h
  obtain ⟨va,vc,rfl,-⟩:=h
  have HB:=Lib.hid ((Below.refl w.heap.size w).alloc (Nat.le_refl _) (.cells #[.slice va m vc,.int .i64 a] 84))
  have hC0:¬ (C:Int) = 0:=by omega
  have hC1:((C:Int) == 0) = false:=by simpa using hC0
  by_cases h1:(m:Int) = C
  · by_cases h2:0≤a
    · obtain rfl:m = C:=by omega
      clear h1
      have h4:decide (0≤a) = true:=decide_eq_true h2
      have h5:decide ((m:Int) = 0) = false:=decide_eq_false hC0
      have HM:=Lib.hid (Bk.min64 (HH.out.below HB.out) (by omega) hm)
      go_enter Tryz.func93,Tryz.ntmps93
      go_wp2_with fail
      refine HM.out.mono ?_
      rintro e w1 ⟨x,rfl,hx1,hx2,rfl⟩
      have HX:=Lib.hid (And.intro hx1 hx2)
      clear hx1 hx2
      go_wp2
      go_ret
      refine ⟨_,rfl,?_,HB.out⟩
      rw [decide_eq_true_iff]
      exact ⟨fun hx => ⟨rfl,h2,fun j hj => by have:=HX.out.1 j hj; omega⟩,fun hf => by obtain ⟨j,hj,e⟩:=HX.out.2; have:=hf.2.2 j hj; omega⟩
    · obtain rfl:m = C:=by omega
      clear h1
      have h4:decide (0≤a) = false:=decide_eq_false h2
      go_enter Tryz.func93,Tryz.ntmps93
      go_wp2
      go_ret
      exact ⟨false,rfl,⟨fun h => (by cases h),fun hf => absurd hf.2.1 (by omega)⟩,HB.out⟩
  · have h3:((m:Int) == C) = false:=by simpa using h1
    have h6:decide ((m:Int) = C) = false:=decide_eq_false h1
    go_enter Tryz.func93,Tryz.ntmps93
    go_wp2
    go_ret
    exact ⟨false,rfl,⟨fun h => (by cases h),fun hf => absurd (by rw [hf.1]) h1⟩,HB.out⟩
set_option maxRecDepth 100000 in
theorem Bk.rnew1 {w:World} {v:Value} {m:Nat} {f:Nat→Int} (h:SlI w v m f) (a:Int) (C z:Nat) (hm:(C:Int)≤4000) (hC:0 < C) (hz:w.cell? ⟨z,0,none⟩ = some (.int .i64 C)):Calls Tryz.prog 92 #[.agg #[v,.int .i64 a],.pointer (some ⟨z,0,none⟩)] w (FitPost (¬ fitsL C m f a) w):=by
  have HH:=Lib.hid h
  obtain ⟨va,vc,rfl,-⟩:=h
  have HB:=Lib.hid ((Below.refl w.heap.size w).alloc (Nat.le_refl _) (.cells #[.slice va m vc,.int .i64 a] 84))
  have HF:=Lib.hid (Bk.rfits (HH.out.below HB.out) a C hm hC)
  have hz2:=Bk.kept HB.out hz
  clear hz
  go_enter Tryz.func92,Tryz.ntmps92
  go_wp2_with fail
  refine HF.out.mono ?_
  rintro e w1 ⟨b,rfl,hb,hb1⟩
  have HB1:=Lib.hid (HB.out.trans (hb1.mono HB.out.size))
  have HBB:=Lib.hid hb
  clear hb hb1
  go_wp2
  go_ret
  refine ⟨!b,rfl,?_,HB1.out⟩
  cases b with
  | true => exact ⟨fun h => (by cases h),fun h => absurd (HBB.out.1 rfl) h⟩
  | false => exact ⟨fun _ hf => (by have:=HBB.out.2 hf; cases this),fun _ => rfl⟩
end Go.Proofs.YtgcnnbjbdfgglaaGreat
