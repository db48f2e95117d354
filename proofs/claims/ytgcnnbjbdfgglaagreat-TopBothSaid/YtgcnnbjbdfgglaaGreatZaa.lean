/- LAW TopBoth: of every configuration of a bank and every list of byte strings the given function TopBoth returns true and leaves its arguments as they were; no condition. A part of what it needs. -/
import Derived.Test.YtgcnnbjbdfgglaaGreatRows
import Derived.WalkKit
import Derived.WalkSpells
import Derived.WalkLawsBesides
import Derived.Lib.Hide
import Derived.BigQuiet
import Derived.BigRegion
import Derived.LoopN
import Derived.Laws.BitsAllLaws
namespace Go.Proofs.YtgcnnbjbdfgglaaGreat
def In64 (x:Int):Prop:=-9223372036854775808≤x∧x≤9223372036854775807
instance (x:Int):Decidable (In64 x):=by unfold In64; exact inferInstance
def tn (x:Int):Int:=if In64 x then x else 0
def te (x:Int):Int:=if In64 x then 0 else 3
theorem tn_in {x:Int} (h:In64 x):tn x = x:=if_pos h
theorem te_in {x:Int} (h:In64 x):te x = 0:=if_pos h
theorem tn_out {x:Int} (h:¬ In64 x):tn x = 0:=if_neg h
theorem te_out {x:Int} (h:¬ In64 x):te x = 3:=if_neg h
theorem tn_64 (x:Int):In64 (tn x):=by unfold tn; split; assumption; unfold In64; omega
theorem te_zero {x:Int}:te x = 0 ↔ In64 x:=by unfold te; split <;> simp_all
theorem te_range (x:Int):0≤te x∧te x≤3:=by unfold te; split <;> omega
def md (a b c:Int) (up:Bool):Int:=if up then -((-(a * b)) / c) else a * b / c
def part (cut x:Int):Int:=if x < 0 then 10000 + cut else 10000 - cut
def worthI (rate cut x:Int):Int:=x * (rate * part cut x) / 100000000
def plainI (rate x:Int):Int:=x * rate / 10000
def told (x:Int):Option Int:=if In64 x then some x else none
def worthO (rate cut x:Int):Option Int:=told (worthI rate cut x)
def shortO (rate x:Int):Option Int:=if x < 0 then (told (plainI rate x)).bind fun p => told (0 - p) else some 0
def on (o:Option Int):Int:=o.getD 0
def oe (o:Option Int):Int:=if o.isSome then 0 else 3
def chain (s:Int):List (Option Int)→Option Int
  | [] => some s
  | none :: _ => none
  | some x :: l => if In64 (s + x) then chain (s + x) l else none
theorem told_some {x y:Int} (h:told x = some y):y = x∧In64 x:=by
  unfold told at h
  split at h
  · cases h; exact ⟨rfl,by assumption⟩
  · cases h
structure RateOk (rate cut:Int):Prop where
  r0:1≤rate
  r1:rate≤100000000
  c0:0≤cut
  c1:cut≤10000
theorem div_mono {a b:Int} (c:Int) (hc:0 < c) (h:a≤b):a / c≤b / c:=Int.ediv_le_ediv hc h
theorem worthI_mono {rate cut x y:Int} (h:RateOk rate cut) (hxy:x≤y):worthI rate cut x≤worthI rate cut y:=by
  unfold worthI
  apply div_mono _ (by omega)
  have hp:∀ z,0≤rate * part cut z:=fun z => Int.mul_nonneg (by have:=h.r0; omega) (by have:=h.c0; have:=h.c1; unfold part; split <;> omega)
  by_cases hx:x < 0
  · by_cases hy:y < 0
    · have e:part cut x = part cut y:=by unfold part; rw [if_pos hx,if_pos hy]
      rw [e]
      exact Int.mul_le_mul_of_nonneg_right hxy (hp y)
    · have h1:x * (rate * part cut x)≤0:=Int.mul_nonpos_of_nonpos_of_nonneg (by omega) (hp x)
      have h2:0≤y * (rate * part cut y):=Int.mul_nonneg (by omega) (hp y)
      omega
  · have e:part cut x = part cut y:=by unfold part; rw [if_neg hx,if_neg (by omega)]
    rw [e]
    exact Int.mul_le_mul_of_nonneg_right hxy (hp y)
theorem plainI_mono {rate x y:Int} (h:1≤rate) (hxy:x≤y):plainI rate x≤plainI rate y:=by
  unfold plainI
  exact div_mono _ (by omega) (Int.mul_le_mul_of_nonneg_right hxy (by omega))
theorem worthO_mono {rate cut x y a b:Int} (h:RateOk rate cut) (hxy:x≤y) (ha:worthO rate cut x = some a) (hb:worthO rate cut y = some b):a≤b:=by
  have h1:=told_some ha
  have h2:=told_some hb
  have:=worthI_mono h hxy
  omega
theorem shortO_form {rate x a:Int} (_:1≤rate) (ha:shortO rate x = some a):a = if x < 0 then - plainI rate x else 0:=by
  unfold shortO at ha
  split at ha
  · cases hp:told (plainI rate x) with
    | none => rw [hp] at ha; cases ha
    | some p =>
      rw [hp] at ha
      have h1:=told_some hp
      have h2:=told_some (show told (0 - p) = some a from ha)
      omega
  · rename_i hx; cases ha; rw [if_neg hx]
theorem shortO_mono {rate x y a b:Int} (h:1≤rate) (hxy:x≤y) (ha:shortO rate x = some a) (hb:shortO rate y = some b):b≤a:=by
  have h1:=shortO_form h ha
  have h2:=shortO_form h hb
  have hm:=plainI_mono h hxy
  by_cases hx:x < 0
  · rw [if_pos hx] at h1
    by_cases hy:y < 0
    · rw [if_pos hy] at h2; omega
    · rw [if_neg hy] at h2
      have:plainI rate x≤0:=by
        have e:plainI rate 0 = 0:=by unfold plainI; simp
        have:=plainI_mono h (show x≤0 by omega)
        omega
      omega
  · rw [if_neg hx] at h1
    rw [if_neg (by omega)] at h2
    omega
theorem chain_mono {l k:List (Option Int)} (hl:l.length = k.length) (h:∀ (i:Nat) (a b:Int),l[i]? = some (some a)→k[i]? = some (some b)→a≤b):∀ {s u t v:Int},s≤u→chain s l = some t→chain u k = some v→t≤v:=by
  induction l generalizing k with
  | nil =>
    intro s u t v hs h1 h2
    cases k with
    | nil => cases h1; cases h2; exact hs
    | cons _ _ => cases hl
  | cons o l ih =>
    intro s u t v hs h1 h2
    cases k with
    | nil => cases hl
    | cons p k =>
      cases o with
      | none => cases h1
      | some x =>
        cases p with
        | none => cases h2
        | some y =>
          have hxy:=h 0 x y rfl rfl
          simp only [chain] at h1 h2
          split at h1
          · split at h2
            · exact ih (by simpa using hl) (fun i a b ha hb => h (i + 1) a b (by simpa using ha) (by simpa using hb)) (by omega) h1 h2
            · cases h2
          · cases h1
structure Rates where
  n:Nat
  rate:Nat→Int
  cut:Nat→Int
structure Rates.Ok (t:Rates):Prop where
  le:t.n≤8
  pos:1≤t.n
  ok:∀ i,i < t.n→RateOk (t.rate i) (t.cut i)
def Rates.worths (t:Rates) (row:Nat→Int):List (Option Int):=(List.range t.n).map fun c => worthO (t.rate c) (t.cut c) (row c)
def Rates.shorts (t:Rates) (row:Nat→Int):List (Option Int):=(List.range t.n).map fun c => shortO (t.rate c) (row c)
def Rates.net (t:Rates) (row:Nat→Int):Option Int:=chain 0 (t.worths row)
def Rates.short (t:Rates) (row:Nat→Int):Option Int:=chain 0 (t.shorts row)
structure Lim where
  short:Nat→Int
  all:Int
def Passes (t:Rates) (l:Lim) (row:Nat→Int):Prop:=(∀ c,c < t.n→¬ row c < - l.short c)∧∃ n s,t.net row = some n∧t.short row = some s∧¬ n < 0∧¬ l.all < s
theorem worths_at {t:Rates} {row:Nat→Int} {i:Nat} {a:Int} (h:(t.worths row)[i]? = some (some a)):i < t.n∧worthO (t.rate i) (t.cut i) (row i) = some a:=by
  unfold Rates.worths at h
  have hi:=(List.getElem?_eq_some_iff.1 h).1
  simp at hi
  rw [List.getElem?_map,List.getElem?_range hi] at h
  exact ⟨hi,by simpa using h⟩
theorem shorts_at {t:Rates} {row:Nat→Int} {i:Nat} {a:Int} (h:(t.shorts row)[i]? = some (some a)):i < t.n∧shortO (t.rate i) (row i) = some a:=by
  unfold Rates.shorts at h
  have hi:=(List.getElem?_eq_some_iff.1 h).1
  simp at hi
  rw [List.getElem?_map,List.getElem?_range hi] at h
  exact ⟨hi,by simpa using h⟩
theorem passes_more {t:Rates} (ht:t.Ok) {l:Lim} {row row':Nat→Int} (h:Passes t l row) (hle:∀ c,c < t.n→row c≤row' c) {n s:Int} (hn:t.net row' = some n) (hs:t.short row' = some s):Passes t l row':=by
  obtain ⟨h1,n0,s0,h2,h3,h4,h5⟩:=h
  refine ⟨fun c hc => by have:=h1 c hc; have:=hle c hc; omega,n,s,hn,hs,?_,?_⟩
  · have:n0≤n:=by
      refine chain_mono (l:=t.worths row) (k:=t.worths row') (by simp [Rates.worths]) ?_ (Int.le_refl 0) h2 hn
      intro i a b ha hb
      obtain ⟨hj,ha⟩:=worths_at ha
      obtain ⟨hk,hb⟩:=worths_at hb
      exact worthO_mono (ht.ok _ hj) (hle _ hj) ha hb
    omega
  · have:s≤s0:=by
      refine chain_mono (l:=t.shorts row') (k:=t.shorts row) (by simp [Rates.shorts]) ?_ (Int.le_refl 0) hs h3
      intro i a b ha hb
      obtain ⟨hj,ha⟩:=shorts_at ha
      obtain ⟨hk,hb⟩:=shorts_at hb
      exact shortO_mono (ht.ok _ hk).r0 (hle _ hk) hb ha
    omega
structure Pst where
  m:Int
  c:Int
  a:Int
def setRow (f:Nat→Int) (c:Int) (x:Int):Nat→Int:=fun i => if (i:Int) = c then x else f i
def rowOf (m:Int) (row:Nat→Int):List Pst→Option (Nat→Int)
  | [] => some row
  | p :: l => if p.m = m then (if In64 (row p.c.toNat + p.a) then rowOf m (setRow row p.c (row p.c.toNat + p.a)) l else none) else rowOf m row l
def rowsOf (bal:Nat→Nat→Int):List Pst→Option (Nat→Nat→Int)
  | [] => some bal
  | p :: l => if In64 (bal p.m.toNat p.c.toNat + p.a) then rowsOf (fun m => if (m:Int) = p.m then setRow (bal m) p.c (bal p.m.toNat p.c.toNat + p.a) else bal m) l else none
theorem rowsOf_row:∀ (l:List Pst) (bal out:Nat→Nat→Int),(∀ p ∈ l,0≤p.m)→rowsOf bal l = some out→∀ m:Nat,rowOf m (bal m) l = some (out m):=by
  intro l
  induction l with
  | nil => intro bal out _ h m; cases h; rfl
  | cons p l ih =>
    intro bal out hm h m
    have hp:=hm p (List.mem_cons_self ..)
    have hl:∀ p ∈ l,0≤p.m:=fun q hq => hm q (List.mem_cons_of_mem _ hq)
    simp only [rowsOf] at h
    split at h
    · rename_i hin
      have:=ih _ _ hl h m
      simp only [rowOf]
      by_cases e:p.m = (m:Int)
      · have e2:p.m.toNat = m:=by omega
        rw [if_pos e]
        rw [e2] at this hin
        rw [if_pos hin]
        rw [if_pos e.symm] at this
        exact this
      · rw [if_neg e]
        rw [if_neg (fun h => e h.symm)] at this
        exact this
    · cases h
theorem rowOf_other:∀ (l:List Pst) (m:Int) (row:Nat→Int),(∀ p ∈ l,p.m ≠ m)→rowOf m row l = some row:=by
  intro l
  induction l with
  | nil => intros; rfl
  | cons p l ih =>
    intro m row h
    simp only [rowOf]
    rw [if_neg (h p (List.mem_cons_self ..))]
    exact ih m row (fun q hq => h q (List.mem_cons_of_mem _ hq))
end Go.Proofs.YtgcnnbjbdfgglaaGreat
namespace Go.Proofs.YtgcnnbjbdfgglaaGreat
open Go.RowKit
theorem Bk.wrap_in {x:Int} (h:In64 x):wrap64 x = x:=by unfold In64 at h; unfold wrap64; omega
set_option maxRecDepth 100000 in
set_option maxHeartbeats 400000 in
theorem Bk.add (a b:Int) (ha:In64 a) (hb:In64 b) (w:World):Calls Tryz.prog 45 #[.int .i64 a,.int .i64 b] w fun e w' => e = .returned (.tuple #[.int .i64 (tn (a + b)),.int .i64 (te (a + b))])∧w' = w:=by
  by_cases h:In64 (a + b)
  · have e1:wrap64 (a + b) = a + b:=Bk.wrap_in h
    rw [tn_in h,te_in h]
    unfold In64 at *
    by_cases h1:a < 0
    · by_cases h2:b < 0
      · have h3:a + b < 0:=by omega
        go_enter Tryz.func45,Tryz.ntmps45
        go_wp2
        go_ret2
        exact ⟨rfl,rfl⟩
      · go_enter Tryz.func45,Tryz.ntmps45
        go_wp2
        go_ret2
        exact ⟨rfl,rfl⟩
    · by_cases h2:b < 0
      · go_enter Tryz.func45,Tryz.ntmps45
        go_wp2
        go_ret2
        exact ⟨rfl,rfl⟩
      · have h3:¬ a + b < 0:=by omega
        go_enter Tryz.func45,Tryz.ntmps45
        go_wp2
        go_ret2
        exact ⟨rfl,rfl⟩
  · rw [tn_out h,te_out h]
    by_cases h1:a < 0
    · have h2:b < 0:=by unfold In64 at *; omega
      have h3:¬ wrap64 (a + b) < 0:=by unfold wrap64; unfold In64 at *; omega
      clear h ha hb
      go_enter Tryz.func45,Tryz.ntmps45
      go_wp2
      go_ret2
      exact ⟨rfl,rfl⟩
    · have h2:¬ b < 0:=by unfold In64 at *; omega
      have h3:wrap64 (a + b) < 0:=by unfold wrap64; unfold In64 at *; omega
      clear h ha hb
      go_enter Tryz.func45,Tryz.ntmps45
      go_wp2
      go_ret2
      exact ⟨rfl,rfl⟩
set_option maxRecDepth 100000 in
set_option maxHeartbeats 400000 in
theorem Bk.sub (a b:Int) (ha:In64 a) (hb:In64 b) (w:World):Calls Tryz.prog 199 #[.int .i64 a,.int .i64 b] w fun e w' => e = .returned (.tuple #[.int .i64 (tn (a - b)),.int .i64 (te (a - b))])∧w' = w:=by
  by_cases h:In64 (a - b)
  · have e1:wrap64 (a - b) = a - b:=Bk.wrap_in h
    rw [tn_in h,te_in h]
    unfold In64 at *
    by_cases h1:a < 0
    · by_cases h2:b < 0
      · go_enter Tryz.func199,Tryz.ntmps199
        go_wp2
        go_ret2
        exact ⟨rfl,rfl⟩
      · have h3:a - b < 0:=by omega
        go_enter Tryz.func199,Tryz.ntmps199
        go_wp2
        go_ret2
        exact ⟨rfl,rfl⟩
    · by_cases h2:b < 0
      · have h3:¬ a - b < 0:=by omega
        go_enter Tryz.func199,Tryz.ntmps199
        go_wp2
        go_ret2
        exact ⟨rfl,rfl⟩
      · go_enter Tryz.func199,Tryz.ntmps199
        go_wp2
        go_ret2
        exact ⟨rfl,rfl⟩
  · rw [tn_out h,te_out h]
    by_cases h1:a < 0
    · have h2:¬ b < 0:=by unfold In64 at *; omega
      have h3:¬ wrap64 (a - b) < 0:=by unfold wrap64; unfold In64 at *; omega
      clear h ha hb
      go_enter Tryz.func199,Tryz.ntmps199
      go_wp2
      go_ret2
      exact ⟨rfl,rfl⟩
    · have h2:b < 0:=by unfold In64 at *; omega
      have h3:wrap64 (a - b) < 0:=by unfold wrap64; unfold In64 at *; omega
      clear h ha hb
      go_enter Tryz.func199,Tryz.ntmps199
      go_wp2
      go_ret2
      exact ⟨rfl,rfl⟩
theorem Bk.wrap_u64 (n:Int):IntKind.u64.wrap n = n % 18446744073709551616:=by simp [IntKind.wrap,IntKind.bits,IntKind.signed]
theorem Bk.shift_in {rest low:Nat} (h1:rest < 9223372036854775808) (h2:low < 18446744073709551616):bits .or .u64 ((rest:Int) * 2) ((low:Int) / 9223372036854775808) = ((2 * rest + low / 9223372036854775808:Nat):Int):=by
  have:=u64_or_nat (rest * 2) (low / 9223372036854775808) (by omega) (by omega)
  rw [show ((rest * 2:Nat):Int) = (rest:Int) * 2 by omega,show ((low / 9223372036854775808:Nat):Int) = (low:Int) / 9223372036854775808 by omega] at this
  rw [this,nat_join 1 _ _ (by omega) (by omega),Nat.mul_comm]
theorem Bk.set_low {q:Nat} (h:q < 9223372036854775808):bits .or .u64 ((2 * q:Nat):Int) 1 = ((2 * q + 1:Nat):Int):=by
  have:=u64_or_nat (2 * q) 1 (by omega) (by omega)
  rw [show ((1:Nat):Int) = 1 by rfl] at this
  rw [this,nat_join 1 _ _ (by omega) (by omega)]
theorem Bk.quot_step {T rest low X:Nat} (hT:T = (X + rest) * 18446744073709551616 + low):T * 2 = (2 * X + (2 * rest + low / 9223372036854775808)) * 18446744073709551616 + low * 2 % 18446744073709551616:=by omega
theorem Bk.quotient {high L by_:Nat} (h1:high < by_) (h2:by_≤9223372036854775807) (h3:L < 18446744073709551616) (w:World):Calls Tryz.prog 260 #[.int .u64 high,.int .u64 L,.int .u64 by_] w fun e w' => e = .returned (.tuple #[.int .u64 ((high * 18446744073709551616 + L) / by_:Nat),.bool (!decide ((high * 18446744073709551616 + L) % by_ = 0)),.bool true])∧w' = w:=by
  obtain ⟨N,hN⟩:∃ N,high * 18446744073709551616 + L = N:=⟨_,rfl⟩
  rw [hN]
  have H1:=Lib.hid (And.intro h1 (And.intro h2 (And.intro h3 hN)))
  have hlt:¬ ((by_:Int)≤high):=by omega
  have hlt2:(high:Int) < by_:=by omega
  clear h1 h2 h3 hN
  go_enter Tryz.func260,Tryz.ntmps260
  go_wp2
  go_loopw [1,6,9,15] (fun l u r i wr => ∃ j q rest low:Nat,j≤64∧i = .int .i64 j∧l = .int .u64 low∧u = .int .u64 q∧r = .int .u64 rest∧wr = w∧low < 18446744073709551616∧rest < by_∧q < 2 ^ j∧N * 2 ^ j = (q * by_ + rest) * 18446744073709551616 + low) (fun _ _ _ i _ => 64 - (intOf i).toNat)
  case atStart =>
    obtain ⟨h1,h2,h3,hN⟩:=H1.out
    exact ⟨0,0,high,L,by omega,rfl,rfl,rfl,rfl,rfl,h3,h1,by decide,by omega⟩
  case round =>
    obtain ⟨j,q,rest,low,hj,rfl,rfl,rfl,rfl,rfl,hlow,hrest,hq,hNj⟩:=hrel
    have hby:=H1.out.2.1
    by_cases hlt64:j < 64
    · have hover:¬ (9223372036854775808:Int)≤rest:=by omega
      have hq63:q < 9223372036854775808:=by
        have:2 ^ j≤2 ^ 63:=Nat.pow_le_pow_right (by omega) (by omega)
        have p63:(2:Nat) ^ 63 = 9223372036854775808:=by decide
        omega
      have hor:=Bk.shift_in (rest:=rest) (by omega) hlow
      have hw1:IntKind.u64.wrap ((low:Int) * 2) = ((low * 2 % 18446744073709551616:Nat):Int):=by rw [Bk.wrap_u64]; omega
      have hw2:IntKind.u64.wrap ((q:Int) * 2) = ((2 * q:Nat):Int):=by rw [Bk.wrap_u64]; omega
      have hlo:=Bk.set_low hq63
      have hst:=Bk.quot_step hNj
      have hb1:low / 9223372036854775808≤1:=by omega
      obtain ⟨R,hR⟩:∃ R,2 * rest + low / 9223372036854775808 = R:=⟨_,rfl⟩
      obtain ⟨l',hl⟩:∃ l',low * 2 % 18446744073709551616 = l':=⟨_,rfl⟩
      obtain ⟨q2,hq2⟩:∃ q2,2 * q = q2:=⟨_,rfl⟩
      rw [hR] at hor hst
      rw [hl] at hw1 hst
      rw [hq2] at hw2 hlo
      have hl':l' < 18446744073709551616:=by omega
      have hR':R < 2 * by_:=by omega
      have hX:2 * (q * by_) = q2 * by_:=by rw [← hq2,Nat.mul_assoc]
      have hq':q2 + 1 < 2 ^ (j + 1):=by rw [Nat.pow_succ]; omega
      rw [hX] at hst
      have hst':N * 2 ^ (j + 1) = (q2 * by_ + R) * 18446744073709551616 + l':=by rw [Nat.pow_succ,← Nat.mul_assoc]; exact hst
      have hw3:by_≤R→IntKind.u64.wrap ((R:Int) - by_) = ((R - by_:Nat):Int):=by intro h; rw [Bk.wrap_u64]; omega
      have H2:=Lib.hid (And.intro hl' (And.intro hR' (And.intro hq' (And.intro hst' hw3))))
      clear hlow hrest hq hNj hby hst hst' hR hl hq2 hX hq63 hb1 hl' hR' hq' hw3
      go_wp2
      · rename_i hge
        go_roundw
        case rel =>
          obtain ⟨g1,g2,g3,g4,g5⟩:=H2.out
          have hge':by_≤R:=by omega
          have g6:(q2 + 1) * by_ = q2 * by_ + by_:=by rw [Nat.add_mul,Nat.one_mul]
          refine ⟨j + 1,q2 + 1,R - by_,l',by omega,by go_num,rfl,rfl,?_,trivial,g1,by omega,g3,?_⟩
          · rw [g5 hge']
          · rw [g6,g4]; congr 2; omega
        case measure => simp [intOf]; omega
      · rename_i hge
        go_roundw
        case rel =>
          obtain ⟨g1,g2,g3,g4,g5⟩:=H2.out
          exact ⟨j + 1,q2,R,l',by omega,by go_num,rfl,rfl,rfl,trivial,g1,by omega,by omega,g4⟩
        case measure => simp [intOf]; omega
    · obtain rfl:j = 64:=by omega
      have p64:(2:Nat) ^ 64 = 18446744073709551616:=by decide
      rw [p64] at hq hNj
      have hN:N = by_ * q + rest:=by rw [Nat.mul_comm by_ q]; omega
      have hq1:N / by_ = q:=by
        rw [hN,Nat.mul_add_div (by omega),Nat.div_eq_of_lt hrest,Nat.add_zero]
      have hq2:N % by_ = rest:=by
        rw [hN,Nat.mul_add_mod,Nat.mod_eq_of_lt hrest]
      have HQ:=Lib.hid (And.intro hq1 hq2)
      have hr:((rest:Int) != 0) = !decide (rest = 0):=by
        by_cases h:rest = 0
        · subst h; rfl
        · simp [h]
      clear hlow hrest hq hNj hby hN hq1 hq2 p64
      go_wp2
      go_ret3
      rw [HQ.out.1,HQ.out.2]
      exact ⟨rfl,rfl⟩
theorem Bk.low_mask {x:Nat} (h:x < 18446744073709551616):bits .and .u64 (x:Int) 4294967295 = ((x % 4294967296:Nat):Int):=by
  have:=u64_and_nat x 4294967295 h (by omega)
  rw [show ((4294967295:Nat):Int) = 4294967295 by rfl] at this
  rw [this,show 4294967295 = 2 ^ 32 - 1 by decide,Nat.and_two_pow_sub_one_eq_mod]
theorem Bk.prod_mod {T K R:Nat} (h:T = K * 18446744073709551616 + R) (hR:R < 18446744073709551616):T % 18446744073709551616 = R:=by omega
theorem Bk.prod_div {T K R:Nat} (h:T = K * 18446744073709551616 + R) (hR:R < 18446744073709551616):T / 18446744073709551616 = K:=by omega
set_option maxRecDepth 100000 in
set_option maxHeartbeats 400000 in
theorem Bk.size (a:Int) (h:In64 a) (w:World):Calls Tryz.prog 249 #[.int .i64 a] w fun e w' => e = .returned (.int .u64 a.natAbs)∧w' = w:=by
  unfold In64 at h
  by_cases h1:a < 0
  · have e2:IntKind.u64.wrap (-(a % 18446744073709551616)) = (a.natAbs:Int):=by rw [Bk.wrap_u64]; omega
    generalize (a.natAbs:Int) = A at *
    go_enter Tryz.func249,Tryz.ntmps249
    go_wp2
    go_ret
    refine ⟨?_,rfl⟩
    show Ending.returned (Value.int .u64 (IntKind.u64.wrap (-IntKind.u64.wrap a))) = _
    rw [Bk.wrap_u64 a,e2]
  · have e2:a = (a.natAbs:Int):=by omega
    have H2:=Lib.hid e2
    clear e2
    generalize (a.natAbs:Int) = A at *
    go_enter Tryz.func249,Tryz.ntmps249
    go_wp2
    go_ret
    refine ⟨?_,rfl⟩
    rw [← H2.out]
    rfl
set_option maxRecDepth 100000 in
set_option maxHeartbeats 400000 in
theorem Bk.signed (n:Nat) (neg:Bool) (hn:n < 18446744073709551616) (w:World):Calls Tryz.prog 248 #[.int .u64 n,.bool neg] w fun e w' => e = .returned (.tuple #[.int .i64 (tn (if neg then -(n:Int) else n)),.int .i64 (te (if neg then -(n:Int) else n))])∧w' = w:=by
  cases neg
  · show Calls _ _ _ _ fun e w' => e = .returned (.tuple #[.int .i64 (tn (n:Int)),.int .i64 (te (n:Int))])∧w' = w
    by_cases h:(n:Int) < 9223372036854775808
    · have hi:In64 n:=by unfold In64; omega
      rw [tn_in hi,te_in hi]
      have e1:wrap64 (n:Int) = n:=Bk.wrap_in hi
      clear hi hn
      go_enter Tryz.func248,Tryz.ntmps248
      go_wp2
      go_ret2
      exact ⟨rfl,rfl⟩
    · have hi:¬ In64 n:=by unfold In64; omega
      rw [tn_out hi,te_out hi]
      clear hi hn
      go_enter Tryz.func248,Tryz.ntmps248
      go_wp2
      go_ret2
      exact ⟨rfl,rfl⟩
  · show Calls _ _ _ _ fun e w' => e = .returned (.tuple #[.int .i64 (tn (-(n:Int))),.int .i64 (te (-(n:Int)))])∧w' = w
    by_cases h:(n:Int)≤9223372036854775808
    · have hi:In64 (-n):=by unfold In64; omega
      rw [tn_in hi,te_in hi]
      have e1:wrap64 (-(wrap64 (n:Int))) = -n:=by unfold wrap64; omega
      clear hi hn
      go_enter Tryz.func248,Tryz.ntmps248
      go_wp2
      go_ret2
      refine ⟨?_,rfl⟩
      show Ending.returned (Value.tuple #[Value.int .i64 (wrap64 (-wrap64 (n:Int))),Value.int .i64 0]) = _
      rw [e1]
    · have hi:¬ In64 (-n):=by unfold In64; omega
      rw [tn_out hi,te_out hi]
      clear hi hn
      go_enter Tryz.func248,Tryz.ntmps248
      go_wp2
      go_ret2
      exact ⟨rfl,rfl⟩
theorem Bk.prod_key (a b ah al bh bl:Nat) (ha:a = ah * 4294967296 + al) (hb:b = bh * 4294967296 + bl):a * b = (ah * bh) * 18446744073709551616 + (al * bh + ah * bl) * 4294967296 + al * bl:=by
  subst ha hb; grind
theorem Bk.mul_le {x y:Nat} (hx:x < 4294967296) (hy:y < 4294967296):x * y≤18446744065119617025 :=
  Nat.le_trans (Nat.mul_le_mul (Nat.le_of_lt_succ (by omega:x < 4294967295 + 1)) (Nat.le_of_lt_succ (by omega:y < 4294967295 + 1))) (by decide)
theorem Bk.prod_joinK (K T P0 P1 P2 P3 y0 z0 y1 z1 y2 z2 mid hm lm:Nat) (hT:T = P3 * (K * K) + (P1 + P2) * K + P0) (h0:P0 = y0 * K + z0) (h1:P1 = y1 * K + z1) (h2:P2 = y2 * K + z2) (hmid:mid = y0 + z1 + z2) (hmm:mid = hm * K + lm):T = (P3 + y1 + y2 + hm) * (K * K) + (lm * K + z0):=by
  subst h0 h1 h2
  have e:hm * K + lm = y0 + z1 + z2:=by rw [← hmm,hmid]
  have e2:(hm * K + lm) * K = (y0 + z1 + z2) * K:=by rw [e]
  grind
theorem Bk.prod_join (T P0 P1 P2 P3 y0 z0 y1 z1 y2 z2 mid hm lm:Nat) (hT:T = P3 * 18446744073709551616 + (P1 + P2) * 4294967296 + P0) (h0:P0 = y0 * 4294967296 + z0) (h1:P1 = y1 * 4294967296 + z1) (h2:P2 = y2 * 4294967296 + z2) (hmid:mid = y0 + z1 + z2) (hmm:mid = hm * 4294967296 + lm):T = (P3 + y1 + y2 + hm) * 18446744073709551616 + (lm * 4294967296 + z0) :=
  Bk.prod_joinK 4294967296 T P0 P1 P2 P3 y0 z0 y1 z1 y2 z2 mid hm lm hT h0 h1 h2 hmid hmm
set_option maxRecDepth 100000 in
set_option maxHeartbeats 1000000 in
theorem Bk.product {a b:Nat} (ha:a < 18446744073709551616) (hb:b < 18446744073709551616) (w:World):Calls Tryz.prog 259 #[.int .u64 a,.int .u64 b] w fun e w' => e = .returned (.tuple #[.int .u64 (a * b / 18446744073709551616:Nat),.int .u64 (a * b % 18446744073709551616:Nat)])∧Below w.heap.size w w':=by
  obtain ⟨al,hal⟩:∃ al,a % 4294967296 = al:=⟨_,rfl⟩
  obtain ⟨ah,hah⟩:∃ ah,a / 4294967296 = ah:=⟨_,rfl⟩
  obtain ⟨bl,hbl⟩:∃ bl,b % 4294967296 = bl:=⟨_,rfl⟩
  obtain ⟨bh,hbh⟩:∃ bh,b / 4294967296 = bh:=⟨_,rfl⟩
  have m1:=Bk.low_mask (x:=a) ha
  have m2:=Bk.low_mask (x:=b) hb
  rw [hal] at m1
  rw [hbl] at m2
  have d1:(a:Int) / 4294967296 = ah:=by omega
  have d2:(b:Int) / 4294967296 = bh:=by omega
  have key0:=Bk.prod_key a b ah al bh bl (by omega) (by omega)
  have b0:=Bk.mul_le (x:=al) (y:=bl) (by omega) (by omega)
  have b1:=Bk.mul_le (x:=al) (y:=bh) (by omega) (by omega)
  have b2:=Bk.mul_le (x:=ah) (y:=bl) (by omega) (by omega)
  have b3:=Bk.mul_le (x:=ah) (y:=bh) (by omega) (by omega)
  obtain ⟨P0,hP0⟩:∃ P,al * bl = P:=⟨_,rfl⟩
  obtain ⟨P1,hP1⟩:∃ P,al * bh = P:=⟨_,rfl⟩
  obtain ⟨P2,hP2⟩:∃ P,ah * bl = P:=⟨_,rfl⟩
  obtain ⟨P3,hP3⟩:∃ P,ah * bh = P:=⟨_,rfl⟩
  rw [hP0] at b0 key0
  rw [hP1] at b1 key0
  rw [hP2] at b2 key0
  rw [hP3] at b3 key0
  have w0:IntKind.u64.wrap ((al:Int) * bl) = P0:=by rw [Bk.wrap_u64,← Int.natCast_mul,hP0]; omega
  have w1:IntKind.u64.wrap ((al:Int) * bh) = P1:=by rw [Bk.wrap_u64,← Int.natCast_mul,hP1]; omega
  have w2:IntKind.u64.wrap ((ah:Int) * bl) = P2:=by rw [Bk.wrap_u64,← Int.natCast_mul,hP2]; omega
  have w3:IntKind.u64.wrap ((ah:Int) * bh) = P3:=by rw [Bk.wrap_u64,← Int.natCast_mul,hP3]; omega
  have hab:a * b < 18446744073709551616 * 18446744073709551616:=Nat.mul_lt_mul'' ha hb
  generalize a * b = T at *
  clear hP0 hP1 hP2 hP3
  obtain ⟨y0,hy0⟩:∃ y,P0 / 4294967296 = y:=⟨_,rfl⟩
  obtain ⟨z0,hz0⟩:∃ y,P0 % 4294967296 = y:=⟨_,rfl⟩
  obtain ⟨y1,hy1⟩:∃ y,P1 / 4294967296 = y:=⟨_,rfl⟩
  obtain ⟨z1,hz1⟩:∃ y,P1 % 4294967296 = y:=⟨_,rfl⟩
  obtain ⟨y2,hy2⟩:∃ y,P2 / 4294967296 = y:=⟨_,rfl⟩
  obtain ⟨z2,hz2⟩:∃ y,P2 % 4294967296 = y:=⟨_,rfl⟩
  have m3:=Bk.low_mask (x:=P0) (by omega)
  have m4:=Bk.low_mask (x:=P1) (by omega)
  have m5:=Bk.low_mask (x:=P2) (by omega)
  rw [hz0] at m3
  rw [hz1] at m4
  rw [hz2] at m5
  have e0:(P0:Int) / 4294967296 = y0:=by omega
  have e1:(P1:Int) / 4294967296 = y1:=by omega
  have e2:(P2:Int) / 4294967296 = y2:=by omega
  obtain ⟨q,hq⟩:∃ q,y0 + z1 = q:=⟨_,rfl⟩
  obtain ⟨mid,hmid⟩:∃ mid,q + z2 = mid:=⟨_,rfl⟩
  obtain ⟨hm,hhm⟩:∃ hm,mid / 4294967296 = hm:=⟨_,rfl⟩
  obtain ⟨lm,hlm⟩:∃ lm,mid % 4294967296 * 4294967296 = lm:=⟨_,rfl⟩
  have key:=Bk.prod_join T P0 P1 P2 P3 y0 z0 y1 z1 y2 z2 mid hm (mid % 4294967296) key0 (by omega) (by omega) (by omega) (by omega) (by omega)
  have a1:IntKind.u64.wrap ((y0:Int) + z1) = q:=by rw [Bk.wrap_u64]; omega
  have a2:IntKind.u64.wrap ((q:Int) + z2) = mid:=by rw [Bk.wrap_u64]; omega
  have a3:IntKind.u64.wrap ((mid:Int) * 4294967296) = lm:=by rw [Bk.wrap_u64]; omega
  have a4:(mid:Int) / 4294967296 = hm:=by omega
  obtain ⟨r0,hr0⟩:∃ r,lm + z0 = r:=⟨_,rfl⟩
  have o1:bits .or .u64 (z0:Int) (lm:Int) = (r0:Int):=by
    have p32:(2:Nat) ^ 32 = 4294967296:=by decide
    rw [u64_or_nat _ _ (by omega) (by omega),Nat.or_comm,nat_join 32 _ _ (by rw [p32]; omega) (by rw [p32]; omega),hr0]
  obtain ⟨t1,ht1⟩:∃ t,P3 + y1 = t:=⟨_,rfl⟩
  obtain ⟨t2,ht2⟩:∃ t,t1 + y2 = t:=⟨_,rfl⟩
  obtain ⟨r1,hr1⟩:∃ t,t2 + hm = t:=⟨_,rfl⟩
  have key2:T = r1 * 18446744073709551616 + r0:=by rw [key,← hr1,← ht2,← ht1,← hr0,← hlm]
  have hr0b:r0 < 18446744073709551616:=by omega
  have hr1b:r1 < 18446744073709551616:=by omega
  have f0:=Bk.prod_mod key2 hr0b
  have f1:=Bk.prod_div key2 hr0b
  rw [f0,f1]
  have c1:IntKind.u64.wrap ((P3:Int) + y1) = t1:=by rw [Bk.wrap_u64]; omega
  have c2:IntKind.u64.wrap ((t1:Int) + y2) = t2:=by rw [Bk.wrap_u64]; omega
  have c3:IntKind.u64.wrap ((t2:Int) + hm) = r1:=by rw [Bk.wrap_u64]; omega
  clear ha hb hal hah hbl hbh key0 b0 b1 b2 b3 hab hy0 hz0 hy1 hz1 hy2 hz2 hq hmid hhm hlm key hr0 ht1 ht2 hr1 key2 hr0b hr1b f0 f1
  go_enter Tryz.func259,Tryz.ntmps259
  go_wp2
  go_ret2
  exact ⟨rfl,(Below.refl _ _).alloc (Nat.le_refl _) _⟩
theorem Bk.neg_div (t z:Nat) (hz:0 < z):(-(t:Int)) / (z:Int) = -((t / z + (if t % z = 0 then 0 else 1):Nat):Int):=by
  have hd:=Nat.div_add_mod t z
  have hm:=Nat.mod_lt t hz
  generalize t / z = q at *
  generalize t % z = r at *
  subst hd
  by_cases h0:r = 0
  · subst h0
    rw [if_pos rfl,Nat.add_zero,Nat.add_zero]
    have:-((z * q:Nat):Int) = (-(q:Int)) * (z:Int):=by rw [Int.natCast_mul,Int.neg_mul,Int.mul_comm]
    rw [this,Int.mul_ediv_cancel _ (by omega)]
  · rw [if_neg h0]
    have hq:-((z * q + r:Nat):Int) = ((z:Int) - (r:Int)) + (z:Int) * (-((q + 1:Nat):Int)):=by
      rw [Int.natCast_add,Int.natCast_mul,Int.natCast_add,Int.mul_neg,Int.mul_add]
      omega
    rw [hq,Int.add_mul_ediv_left _ _ (by omega),Int.ediv_eq_zero_of_lt (by omega) (by omega)]
    omega
def mdN (x y z:Nat) (away:Bool):Nat:=x * y / z + (if away = true∧x * y % z ≠ 0 then 1 else 0)
theorem Bk.md_neg {a b c:Int} (hc:0 < c) (ha:a < 0) (hb:0≤b) (up:Bool):md a b c up = -((mdN a.natAbs b.natAbs c.natAbs (!up):Nat):Int):=by
  obtain ⟨x,rfl⟩:∃ x:Nat,a = -(x:Int):=⟨a.natAbs,by omega⟩
  obtain ⟨y,rfl⟩:∃ y:Nat,b = (y:Int):=⟨b.natAbs,by omega⟩
  obtain ⟨z,rfl⟩:∃ z:Nat,c = (z:Int):=⟨c.natAbs,by omega⟩
  have e1:(-(x:Int)).natAbs = x:=by omega
  rw [e1,Int.natAbs_natCast,Int.natAbs_natCast]
  unfold md mdN
  have e2:-(x:Int) * (y:Int) = -((x * y:Nat):Int):=by rw [Int.natCast_mul,Int.neg_mul]
  rw [e2]
  generalize x * y = t
  have hz:0 < z:=by omega
  cases up
  · show -(t:Int) / (z:Int) = _
    rw [Bk.neg_div _ _ hz]
    by_cases h0:t % z = 0 <;> simp [h0]
  · show -(-(-(t:Int)) / (z:Int)) = _
    rw [Int.neg_neg,← Int.natCast_ediv]
    simp
theorem Bk.md_pos {a b c:Int} (hc:0 < c) (ha:0≤a) (hb:0≤b) (up:Bool):md a b c up = ((mdN a.natAbs b.natAbs c.natAbs up:Nat):Int):=by
  obtain ⟨x,rfl⟩:∃ x:Nat,a = (x:Int):=⟨a.natAbs,by omega⟩
  obtain ⟨y,rfl⟩:∃ y:Nat,b = (y:Int):=⟨b.natAbs,by omega⟩
  obtain ⟨z,rfl⟩:∃ z:Nat,c = (z:Int):=⟨c.natAbs,by omega⟩
  rw [Int.natAbs_natCast,Int.natAbs_natCast,Int.natAbs_natCast]
  unfold md mdN
  rw [← Int.natCast_mul]
  generalize x * y = t
  have hz:0 < z:=by omega
  cases up
  · show (t:Int) / (z:Int) = _
    rw [← Int.natCast_ediv]
    simp
  · show -(-(t:Int) / (z:Int)) = _
    rw [Bk.neg_div _ _ hz]
    by_cases h0:t % z = 0 <;> simp [h0]
set_option maxRecDepth 100000 in
set_option maxHeartbeats 1000000 in
theorem Bk.quotient_not {high L by_:Nat} (h1:by_≤high) (w:World):Calls Tryz.prog 260 #[.int .u64 high,.int .u64 L,.int .u64 by_] w fun e w' => e = .returned (.tuple #[.int .u64 0,.bool false,.bool false])∧w' = w:=by
  have hlt:(by_:Int)≤high:=by omega
  go_enter Tryz.func260,Tryz.ntmps260
  go_wp2
  go_ret3
  exact ⟨rfl,rfl⟩
theorem Bk.big_out {x y z:Nat} {b:Bool} (hz:0 < z) (h:z≤x * y / 18446744073709551616):18446744073709551616≤mdN x y z b:=by
  unfold mdN
  have h1:z * 18446744073709551616≤x * y:=Nat.le_trans (Nat.mul_le_mul_right _ h) (Nat.div_mul_le_self _ _)
  have h2:18446744073709551616≤x * y / z:=(Nat.le_div_iff_mul_le hz).2 (by rw [Nat.mul_comm]; exact h1)
  omega
set_option maxRecDepth 100000 in
set_option maxHeartbeats 2000000 in
theorem Bk.muldiv (a b c:Int) (up:Bool) (ha:In64 a) (hb0:0≤b) (hb:In64 b) (hc0:1≤c) (hc:In64 c) (w:World):Calls Tryz.prog 235 #[.int .i64 a,.int .i64 b,.int .i64 c,.bool up] w fun e w' => e = .returned (.tuple #[.int .i64 (tn (md a b c up)),.int .i64 (te (md a b c up))])∧Below w.heap.size w w':=by
  have hS:=Lib.hid (fun w => Bk.size a ha w)
  have hS2:=Lib.hid (fun w => Bk.size b hb w)
  have hP:=Lib.hid (fun w => Bk.product (a:=a.natAbs) (b:=b.natAbs) (by unfold In64 at ha; omega) (by unfold In64 at hb; omega) w)
  have hhi:a.natAbs * b.natAbs / 18446744073709551616 * 18446744073709551616 + a.natAbs * b.natAbs % 18446744073709551616 = a.natAbs * b.natAbs:=by omega
  have g1:¬ c < 1:=by omega
  have g2:¬ b < 0:=by omega
  have g3:(c.natAbs:Int) = c:=by omega
  have hcn:c.natAbs≤9223372036854775807:=by unfold In64 at hc; omega
  have hc1:0 < c.natAbs:=by omega
  have hcx:c≤9223372036854775807:=by unfold In64 at hc; omega
  have hcy:0≤c:=by omega
  obtain ⟨hi,hhi'⟩:∃ hi,a.natAbs * b.natAbs / 18446744073709551616 = hi:=⟨_,rfl⟩
  obtain ⟨lo,hlo'⟩:∃ lo,a.natAbs * b.natAbs % 18446744073709551616 = lo:=⟨_,rfl⟩
  have hlo64:lo < 18446744073709551616:=by omega
  rw [hhi',hlo'] at hP hhi
  by_cases hfit:hi < c.natAbs
  · have HQ:=Lib.hid (fun w => Bk.quotient (high:=hi) (L:=lo) (by_:=c.natAbs) hfit hcn hlo64 w)
    rw [hhi,g3] at HQ
    have hqb:a.natAbs * b.natAbs / c.natAbs < 18446744073709551616:=by
      refine (Nat.div_lt_iff_lt_mul hc1).2 ?_
      rw [← hhi]
      have h1:(hi + 1) * 18446744073709551616≤c.natAbs * 18446744073709551616:=Nat.mul_le_mul_right _ hfit
      rw [Nat.mul_comm 18446744073709551616]
      omega
    have hA:∀ away:Bool,mdN a.natAbs b.natAbs c.natAbs away = a.natAbs * b.natAbs / c.natAbs + (if away = true∧a.natAbs * b.natAbs % c.natAbs ≠ 0 then 1 else 0):=fun _ => rfl
    obtain ⟨q,hq⟩:∃ q,a.natAbs * b.natAbs / c.natAbs = q:=⟨_,rfl⟩
    obtain ⟨r,hr⟩:∃ r,a.natAbs * b.natAbs % c.natAbs = r:=⟨_,rfl⟩
    rw [hq] at hqb HQ hA
    rw [hr] at HQ hA
    clear hhi hhi' hlo' hlo64 hfit hq hr hcn
    by_cases hneg:a < 0
    · have hM:=Bk.md_neg (a:=a) (c:=c) (by omega) hneg hb0 up
      rw [hA] at hM
      generalize md a b c up = M at *
      clear hA ha hb hc hc0 hb0 hc1 g3
      by_cases hr0:r = 0
      · have hM2:M = -(q:Int):=by rw [hM]; simp [hr0]
        subst hM2
        have HF:=Lib.hid (fun w => Bk.signed q true hqb w)
        have hd:(!decide (r = 0)) = false:=by simp [hr0]
        rw [hd] at HQ
        clear hM hqb hd hr0
        go_enter Tryz.func235,Tryz.ntmps235
        go_wp2_with fail
        refine (hS.out _).mono ?_
        rintro e w1 ⟨rfl,rfl⟩
        go_wp2_with fail
        refine (hS2.out _).mono ?_
        rintro e w1 ⟨rfl,rfl⟩
        go_wp2_with fail
        refine (hP.out _).mono ?_
        rintro e w1 ⟨rfl,hb1⟩
        go_wp2_with fail
        with_reducible refine (HQ.out _).mono ?_
        rintro e w2 ⟨rfl,rfl⟩
        go_wp2_with fail
        with_reducible refine (HF.out _).mono ?_
        rintro e w3 ⟨rfl,rfl⟩
        go_wp2
        go_ret2
        exact ⟨rfl,hb1⟩
      · have hd:(!decide (r = 0)) = true:=by simp [hr0]
        rw [hd] at HQ
        clear hd
        cases up
        · have hM2:M = -((q + 1:Nat):Int):=by rw [hM]; simp [hr0]
          subst hM2
          clear hM hr0
          by_cases hov:q + 1 = 18446744073709551616
          · have hno:¬ In64 (-((q + 1:Nat):Int)):=by unfold In64; omega
            rw [tn_out hno,te_out hno]
            have hw:IntKind.u64.wrap ((q:Int) + 1) = 0:=by rw [Bk.wrap_u64]; omega
            clear hno hov hqb
            go_enter Tryz.func235,Tryz.ntmps235
            go_wp2_with fail
            refine (hS.out _).mono ?_
            rintro e w1 ⟨rfl,rfl⟩
            go_wp2_with fail
            refine (hS2.out _).mono ?_
            rintro e w1 ⟨rfl,rfl⟩
            go_wp2_with fail
            refine (hP.out _).mono ?_
            rintro e w1 ⟨rfl,hb1⟩
            go_wp2_with fail
            with_reducible refine (HQ.out _).mono ?_
            rintro e w2 ⟨rfl,rfl⟩
            go_wp2
            go_ret2
            exact ⟨rfl,hb1⟩
          · have HF:=Lib.hid (fun w => Bk.signed (q + 1) true (by omega) w)
            have hw:IntKind.u64.wrap ((q:Int) + 1) = ((q + 1:Nat):Int):=by rw [Bk.wrap_u64]; omega
            have hne:(((q + 1:Nat):Int) == 0) = false:=by simp; omega
            generalize q + 1 = q1 at *
            clear hov hqb
            go_enter Tryz.func235,Tryz.ntmps235
            go_wp2_with fail
            refine (hS.out _).mono ?_
            rintro e w1 ⟨rfl,rfl⟩
            go_wp2_with fail
            refine (hS2.out _).mono ?_
            rintro e w1 ⟨rfl,rfl⟩
            go_wp2_with fail
            refine (hP.out _).mono ?_
            rintro e w1 ⟨rfl,hb1⟩
            go_wp2_with fail
            with_reducible refine (HQ.out _).mono ?_
            rintro e w2 ⟨rfl,rfl⟩
            go_wp2_with fail
            with_reducible refine (HF.out _).mono ?_
            rintro e w3 ⟨rfl,rfl⟩
            go_wp2
            go_ret2
            exact ⟨rfl,hb1⟩
        · have hM2:M = -(q:Int):=by rw [hM]; simp
          subst hM2
          have HF:=Lib.hid (fun w => Bk.signed q true hqb w)
          clear hM hqb hr0
          go_enter Tryz.func235,Tryz.ntmps235
          go_wp2_with fail
          refine (hS.out _).mono ?_
          rintro e w1 ⟨rfl,rfl⟩
          go_wp2_with fail
          refine (hS2.out _).mono ?_
          rintro e w1 ⟨rfl,rfl⟩
          go_wp2_with fail
          refine (hP.out _).mono ?_
          rintro e w1 ⟨rfl,hb1⟩
          go_wp2_with fail
          with_reducible refine (HQ.out _).mono ?_
          rintro e w2 ⟨rfl,rfl⟩
          go_wp2_with fail
          with_reducible refine (HF.out _).mono ?_
          rintro e w3 ⟨rfl,rfl⟩
          go_wp2
          go_ret2
          exact ⟨rfl,hb1⟩
    · have hM:=Bk.md_pos (a:=a) (c:=c) (by omega) (by omega) hb0 up
      rw [hA] at hM
      generalize md a b c up = M at *
      clear hA ha hb hc hc0 hb0 hc1 g3
      by_cases hr0:r = 0
      · have hM2:M = (q:Int):=by rw [hM]; simp [hr0]
        subst hM2
        have HF:=Lib.hid (fun w => Bk.signed q false hqb w)
        have hd:(!decide (r = 0)) = false:=by simp [hr0]
        rw [hd] at HQ
        clear hM hqb hd hr0
        go_enter Tryz.func235,Tryz.ntmps235
        go_wp2_with fail
        refine (hS.out _).mono ?_
        rintro e w1 ⟨rfl,rfl⟩
        go_wp2_with fail
        refine (hS2.out _).mono ?_
        rintro e w1 ⟨rfl,rfl⟩
        go_wp2_with fail
        refine (hP.out _).mono ?_
        rintro e w1 ⟨rfl,hb1⟩
        go_wp2_with fail
        with_reducible refine (HQ.out _).mono ?_
        rintro e w2 ⟨rfl,rfl⟩
        go_wp2_with fail
        with_reducible refine (HF.out _).mono ?_
        rintro e w3 ⟨rfl,rfl⟩
        go_wp2
        go_ret2
        exact ⟨rfl,hb1⟩
      · have hd:(!decide (r = 0)) = true:=by simp [hr0]
        rw [hd] at HQ
        clear hd
        cases up
        · have hM2:M = (q:Int):=by rw [hM]; simp
          subst hM2
          have HF:=Lib.hid (fun w => Bk.signed q false hqb w)
          clear hM hqb hr0
          go_enter Tryz.func235,Tryz.ntmps235
          go_wp2_with fail
          refine (hS.out _).mono ?_
          rintro e w1 ⟨rfl,rfl⟩
          go_wp2_with fail
          refine (hS2.out _).mono ?_
          rintro e w1 ⟨rfl,rfl⟩
          go_wp2_with fail
          refine (hP.out _).mono ?_
          rintro e w1 ⟨rfl,hb1⟩
          go_wp2_with fail
          with_reducible refine (HQ.out _).mono ?_
          rintro e w2 ⟨rfl,rfl⟩
          go_wp2_with fail
          with_reducible refine (HF.out _).mono ?_
          rintro e w3 ⟨rfl,rfl⟩
          go_wp2
          go_ret2
          exact ⟨rfl,hb1⟩
        · have hM2:M = ((q + 1:Nat):Int):=by rw [hM]; simp [hr0]
          subst hM2
          clear hM hr0
          by_cases hov:q + 1 = 18446744073709551616
          · have hno:¬ In64 (((q + 1:Nat):Int)):=by unfold In64; omega
            rw [tn_out hno,te_out hno]
            have hw:IntKind.u64.wrap ((q:Int) + 1) = 0:=by rw [Bk.wrap_u64]; omega
            clear hno hov hqb
            go_enter Tryz.func235,Tryz.ntmps235
            go_wp2_with fail
            refine (hS.out _).mono ?_
            rintro e w1 ⟨rfl,rfl⟩
            go_wp2_with fail
            refine (hS2.out _).mono ?_
            rintro e w1 ⟨rfl,rfl⟩
            go_wp2_with fail
            refine (hP.out _).mono ?_
            rintro e w1 ⟨rfl,hb1⟩
            go_wp2_with fail
            with_reducible refine (HQ.out _).mono ?_
            rintro e w2 ⟨rfl,rfl⟩
            go_wp2
            go_ret2
            exact ⟨rfl,hb1⟩
          · have HF:=Lib.hid (fun w => Bk.signed (q + 1) false (by omega) w)
            have hw:IntKind.u64.wrap ((q:Int) + 1) = ((q + 1:Nat):Int):=by rw [Bk.wrap_u64]; omega
            have hne:(((q + 1:Nat):Int) == 0) = false:=by simp; omega
            generalize q + 1 = q1 at *
            clear hov hqb
            go_enter Tryz.func235,Tryz.ntmps235
            go_wp2_with fail
            refine (hS.out _).mono ?_
            rintro e w1 ⟨rfl,rfl⟩
            go_wp2_with fail
            refine (hS2.out _).mono ?_
            rintro e w1 ⟨rfl,rfl⟩
            go_wp2_with fail
            refine (hP.out _).mono ?_
            rintro e w1 ⟨rfl,hb1⟩
            go_wp2_with fail
            with_reducible refine (HQ.out _).mono ?_
            rintro e w2 ⟨rfl,rfl⟩
            go_wp2_with fail
            with_reducible refine (HF.out _).mono ?_
            rintro e w3 ⟨rfl,rfl⟩
            go_wp2
            go_ret2
            exact ⟨rfl,hb1⟩
  · have HQ:=Lib.hid (fun w => Bk.quotient_not (high:=hi) (L:=lo) (by_:=c.natAbs) (by omega) w)
    rw [g3] at HQ
    have hbig:∀ away:Bool,18446744073709551616≤mdN a.natAbs b.natAbs c.natAbs away:=fun away => Bk.big_out hc1 (by rw [hhi']; omega)
    by_cases hneg:a < 0
    · have hM:=Bk.md_neg (a:=a) (c:=c) (by omega) hneg hb0 up
      have hno:¬ In64 (md a b c up):=by rw [hM]; unfold In64; have:=hbig (!up); omega
      rw [tn_out hno,te_out hno]
      clear hM hno hbig hhi hhi' hlo' hlo64 hfit hcn hc1 ha hb hc hc0 hb0 g3
      go_enter Tryz.func235,Tryz.ntmps235
      go_wp2_with fail
      refine (hS.out _).mono ?_
      rintro e w1 ⟨rfl,rfl⟩
      go_wp2_with fail
      refine (hS2.out _).mono ?_
      rintro e w1 ⟨rfl,rfl⟩
      go_wp2_with fail
      refine (hP.out _).mono ?_
      rintro e w1 ⟨rfl,hb1⟩
      go_wp2_with fail
      with_reducible refine (HQ.out _).mono ?_
      rintro e w2 ⟨rfl,rfl⟩
      go_wp2
      go_ret2
      exact ⟨rfl,hb1⟩
    · have hM:=Bk.md_pos (a:=a) (c:=c) (by omega) (by omega) hb0 up
      have hno:¬ In64 (md a b c up):=by rw [hM]; unfold In64; have:=hbig up; omega
      rw [tn_out hno,te_out hno]
      clear hM hno hbig hhi hhi' hlo' hlo64 hfit hcn hc1 ha hb hc hc0 hb0 g3
      go_enter Tryz.func235,Tryz.ntmps235
      go_wp2_with fail
      refine (hS.out _).mono ?_
      rintro e w1 ⟨rfl,rfl⟩
      go_wp2_with fail
      refine (hS2.out _).mono ?_
      rintro e w1 ⟨rfl,rfl⟩
      go_wp2_with fail
      refine (hP.out _).mono ?_
      rintro e w1 ⟨rfl,hb1⟩
      go_wp2_with fail
      with_reducible refine (HQ.out _).mono ?_
      rintro e w2 ⟨rfl,rfl⟩
      go_wp2
      go_ret2
      exact ⟨rfl,hb1⟩
end Go.Proofs.YtgcnnbjbdfgglaaGreat
