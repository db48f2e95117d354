/- LAW TopBoth: of every configuration of a bank and every list of byte strings the given function TopBoth returns true and leaves its arguments as they were; no condition. A part of what it needs. -/
import Derived.Test.YtgcnnbjbdfgglaaGreatZaf
import Derived.Laws.OwnMore
namespace Go.Proofs.YtgcnnbjbdfgglaaGreat
open Go.RowKit
theorem num_st (x:Ent) (v:Int) {k:Nat} (hk:k < 10) (hn:k ≠ 7):({ x with st:=v }:Ent).num k = x.num k:=by
  have:k = 0∨k = 1∨k = 2∨k = 3∨k = 4∨k = 5∨k = 6∨k = 8∨k = 9:=by omega
  rcases this with rfl | rfl | rfl | rfl | rfl | rfl | rfl | rfl | rfl <;> rfl
theorem num_asked (x:Ent) (v:Int) {k:Nat} (hk:k < 10) (hn:k ≠ 8):({ x with asked:=v }:Ent).num k = x.num k:=by
  have:k = 0∨k = 1∨k = 2∨k = 3∨k = 4∨k = 5∨k = 6∨k = 7∨k = 9:=by omega
  rcases this with rfl | rfl | rfl | rfl | rfl | rfl | rfl | rfl | rfl <;> rfl
theorem num_ord (x:Ent) (v:Int) {k:Nat} (hk:k < 10) (hn:k ≠ 9):({ x with ord:=v }:Ent).num k = x.num k:=by
  have:k = 0∨k = 1∨k = 2∨k = 3∨k = 4∨k = 5∨k = 6∨k = 7∨k = 8:=by omega
  rcases this with rfl | rfl | rfl | rfl | rfl | rfl | rfl | rfl | rfl <;> rfl
theorem Ent.Ok.st' {x:Ent} {mem cur:Nat} (h:x.Ok mem cur) {v:Int} (hv:v = 1∨v = 2∨v = 3∨v = 4):({ x with st:=v }:Ent).Ok mem cur:=⟨h.i1,h.i2,h.a0,h.b0,h.s0,h.c0,h.ab,h.sb,h.se,h.bu,hv⟩
theorem Ent.Ok.asked' {x:Ent} {mem cur:Nat} (h:x.Ok mem cur) (v:Int):({ x with asked:=v }:Ent).Ok mem cur:=⟨h.i1,h.i2,h.a0,h.b0,h.s0,h.c0,h.ab,h.sb,h.se,h.bu,h.st⟩
theorem Ent.Ok.ord' {x:Ent} {mem cur:Nat} (h:x.Ok mem cur) (v:Int):({ x with ord:=v }:Ent).Ok mem cur:=⟨h.i1,h.i2,h.a0,h.b0,h.s0,h.c0,h.ab,h.sb,h.se,h.bu,h.st⟩
theorem flatK_set {K n:Nat} (f:Nat→Nat→Value) {i j:Nat} (hj:j < K) (v:Value):(flatK K n f).set (i * K + j) v = flatK K n (fun a b => if a = i∧b = j then v else f a b):=by
  apply List.ext_getElem?
  intro x
  have hK:0 < K:=by omega
  by_cases hx:x < n * K
  · have e2:(flatK K n f).length = n * K:=flatK_len _ _ _
    rw [List.getElem?_set]
    simp only [flatK,List.getElem?_map,List.getElem?_range hx,Option.map_some]
    by_cases e:i * K + j = x
    · subst e
      have e1:(i * K + j) / K = i:=by rw [Nat.add_comm,Nat.add_mul_div_right _ _ hK,Nat.div_eq_of_lt hj,Nat.zero_add]
      have e3:(i * K + j) % K = j:=by rw [Nat.add_comm,Nat.add_mul_mod_self_right,Nat.mod_eq_of_lt hj]
      simp [e1,e3,hx]
    · rw [if_neg e]
      have:¬ (x / K = i∧x % K = j):=fun h => e (by rw [← h.1,← h.2,Nat.mul_comm]; exact Nat.div_add_mod x K)
      rw [if_neg this]
  · rw [List.getElem?_eq_none (by rw [List.length_set,flatK_len]; omega),List.getElem?_eq_none (by rw [flatK_len]; omega)]
def Bo.upd (B:Bo) (i:Nat) (x:Ent):Bo:={ B with e:=fun k => if k = i then x else B.e k }
structure BSt (w:World) (h:Bh) (w':World) (h':Bh):Prop where
  b:h'.b = h.b
  kept:Kept h.own w w'
  own:∀ k,h'.own k→h.own k∨w.heap.size≤k
theorem BSt.refl (w:World) (h:Bh):BSt w h w h:=⟨rfl,Kept.refl _ _,fun _ hk => .inl hk⟩
theorem BSt.of_below {w w':World} (hb:Below w.heap.size w w') (h:Bh):BSt w h w' h:=⟨rfl,Kept.of_below hb,fun _ hk => .inl hk⟩
theorem BSt.trans {a b c:World} {h h1 h2:Bh} (x:BSt a h b h1) (y:BSt b h1 c h2):BSt a h c h2 :=
  ⟨y.b.trans x.b,⟨y.kept.os.trans x.kept.os,y.kept.tape.trans x.kept.tape,y.kept.output.trans x.kept.output,Nat.le_trans x.kept.size y.kept.size,fun k hk hn => (y.kept.block k (Nat.lt_of_lt_of_le hk x.kept.size) (fun h' => by rcases x.own k h' with h | h; exact hn h; omega)).trans (x.kept.block k hk hn)⟩,
    fun k hk => by
      rcases y.own k hk with h | h
      · exact x.own k h
      · exact .inr (Nat.le_trans x.kept.size h)⟩
structure Ent.Like (x y:Ent):Prop where
  id:y.id = x.id
  a:y.a = x.a
  b:y.b = x.b
  s3:x.st = 3→y.st = 3
  up:x.st≤y.st
theorem Ent.Like.refl (x:Ent):x.Like x:=⟨rfl,rfl,rfl,fun h => h,Int.le_refl _⟩
theorem Ent.Like.trans {x y z:Ent} (h:x.Like y) (k:y.Like z):x.Like z:=⟨k.id.trans h.id,k.a.trans h.a,k.b.trans h.b,fun e => k.s3 (h.s3 e),Int.le_trans h.up k.up⟩
structure BoStep (B B':Bo) (P:Ent→Prop):Prop where
  n:B.n≤B'.n
  mem:B'.mem = B.mem
  cur:B'.cur = B.cur
  old:∀ i,i < B.n→(B.e i).Like (B'.e i)
  new:∀ i,B.n≤i→i < B'.n→P (B'.e i)
theorem BoStep.refl (B:Bo) (P:Ent→Prop):BoStep B B P:=⟨Nat.le_refl _,rfl,rfl,fun _ _ => Ent.Like.refl _,fun i h1 h2 => by omega⟩
theorem BoStep.trans {B C D:Bo} (h:BoStep B C (fun _ => False)) (k:BoStep C D (fun _ => False)):BoStep B D (fun _ => False) :=
  ⟨Nat.le_trans h.n k.n,k.mem.trans h.mem,k.cur.trans h.cur,fun i hi => (h.old i hi).trans (k.old i (Nat.lt_of_lt_of_le hi h.n)),fun i h1 h2 => by
    by_cases h3:i < C.n
    · exact h.new i h1 h3
    · exact k.new i (by omega) h2⟩
theorem BoAt.put {w:World} {h:Bh} {B:Bo} (a:BoAt w h B) {i:Nat} (hi:i < B.n) {j:Nat} (hj:j < 10) {g:Nat} (hg:h.lv.ownBlock = some g) {x:Ent} (hx:∀ k,k < 10→k ≠ j→x.num k = (B.e i).num k) (hok:x.Ok B.mem B.cur) (hid:x.id = (B.e i).id) :
    BoAt (w.setCell ⟨g,i * 10 + j,none⟩ (.int .i64 (x.num j))) h (B.upd i x)∧BSt w h (w.setCell ⟨g,i * 10 + j,none⟩ (.int .i64 (x.num j))) h:=by
  obtain ⟨g',cap,he,hr,hty,hob⟩:=a.slice hi
  rw [hg] at hob
  cases hob
  have hs:∀ k,k ≠ g→(w.setCell ⟨g,i * 10 + j,none⟩ (.int .i64 (x.num j))).heap[k]? = w.heap[k]?:=fun k hk => Below.heap_setCell _ _ _ _ hk
  have nb:h.b ≠ g:=Ty.ne ⟨_,a.blk⟩ hty (by decide)
  have nm:h.mb ≠ g:=(a.map.ne hty).symm
  refine ⟨⟨(hs _ nb).trans a.blk,?_,?_,⟨a.ok.n200,a.ok.mem,a.ok.cur,fun k hk => ?_,fun k hk => ?_,fun k q hq => ?_⟩⟩,rfl,(Kept.refl _ _).setCell (.inl (.inr (.inr hg))) _ _,fun _ hk => .inl hk⟩
  · have ho:=a.own
    rw [he] at ho ⊢
    have h1:=(ho.stored (i * 10 + j) (.int .i64 (x.num j))).1
    rw [flatK_set _ hj] at h1
    have e:flatK 10 (B.upd i x).n (fun i' => ((B.upd i x).e i').cell) = flatK 10 B.n (fun a b => if a = i∧b = j then Value.int .i64 (x.num j) else (B.e a).cell b):=by
      unfold flatK
      apply List.map_congr_left
      intro y hy
      show Ent.cell (if y / 10 = i then x else B.e (y / 10)) (y % 10) = if y / 10 = i∧y % 10 = j then Value.int .i64 (x.num j) else (B.e (y / 10)).cell (y % 10)
      by_cases e1:y / 10 = i
      · rw [if_pos e1]
        by_cases e2:y % 10 = j
        · rw [if_pos ⟨e1,e2⟩,e2]; rfl
        · rw [if_neg (fun h => e2 h.2)]
          show Value.int .i64 (x.num (y % 10)) = Value.int .i64 ((B.e (y / 10)).num (y % 10))
          rw [hx _ (Nat.mod_lt _ (by omega)) e2,e1]
      · rw [if_neg e1,if_neg (fun h => e1 h.1)]
    rw [e]
    exact h1
  · exact a.map.same (hs _ nm)
  · show Ent.Ok (if k = i then x else B.e k) B.mem B.cur
    split
    · exact hok
    · exact a.ok.ent k hk
  · show B.ix (Ent.id (if k = i then x else B.e k)) = some k
    split
    · rename_i e; subst e; rw [hid]; exact a.ok.ix1 k hk
    · exact a.ok.ix1 k hk
  · obtain ⟨h1,h2⟩:=a.ok.ix2 k q hq
    refine ⟨h1,?_⟩
    show Ent.id (if q = i then x else B.e q) = k
    split
    · rename_i e; subst e; rw [hid]; exact h2
    · exact h2
theorem upd_step {B:Bo} {i:Nat} {x:Ent} (hl:(B.e i).Like x) (P:Ent→Prop):BoStep B (B.upd i x) P :=
  ⟨Nat.le_refl _,rfl,rfl,fun k hk => by
    show (B.e k).Like (if k = i then x else B.e k)
    split
    · rename_i e; subst e; exact hl
    · exact Ent.Like.refl _,fun k h1 h2 => by have:k < B.n:=h2; omega⟩
def BPost (h:Bh) (B:Bo) (Q:Ending→Bo→Prop) (w:World) (e:Ending) (w':World):Prop:=∃ B' h',BoAt w' h' B'∧BSt w h w' h'∧BoStep B B' (fun _ => False)∧Q e B'
theorem BPost.same {h:Bh} {B:Bo} {Q:Ending→Bo→Prop} {w:World} {e:Ending} {w':World} (a:BoAt w h B) (hb:Below w.heap.size w w') (hq:Q e B):BPost h B Q w e w':=⟨B,h,a.below hb,BSt.of_below hb h,BoStep.refl B _,hq⟩
set_option maxRecDepth 100000 in
set_option maxHeartbeats 1000000 in
theorem Bk.settle {w:World} {h:Bh} {B:Bo} (a:BoAt w h B) (id:Int) (hi:In64 id) (hst:B.state id = 2):Calls Tryz.prog 237 #[.pointer (some ⟨h.b,0,none⟩),.int .i64 id] w (BPost h B (fun e B' => e = .returned (.int .i64 0)∧∃ i,i < B.n∧(B.e i).st = 2∧B' = B.upd i { B.e i with st:=3 }) w):=by
  have hf:=Bk.find a id hi
  unfold Bh.ptr at hf
  unfold Bo.state at hst
  cases hx:B.ix id with
  | none => rw [hx] at hst; simp at hst
  | some i =>
    rw [hx] at hst
    replace hst:(B.e i).st = 2:=hst
    obtain ⟨i1,i2⟩:=a.ok.ix2 _ _ hx
    obtain ⟨g,cap,he,hr,hty,hob⟩:=a.slice i1
    rw [hx,hob] at hf
    change Calls _ _ _ _ fun e w' => e = .returned (.pointer (some ⟨g,i * 10,none⟩))∧w' = w at hf
    have HF:=Lib.hid hf
    have c7:w.cell? ⟨g,i * 10 + 7,none⟩ = some (.int .i64 2):=by have:=hr.cell i1 (show 7 < 10 by omega); rw [show (B.e i).cell 7 = .int .i64 (B.e i).st from rfl,hst] at this; exact this
    have f7:=hr.frozen (i * 10 + 7)
    have hok:=a.ok.ent i i1
    have HP:=Lib.hid (a.put i1 (show 7 < 10 by omega) hob (x:={ B.e i with st:=3 }) (fun k hk hne => num_st _ _ hk hne) (hok.st' (by simp)) rfl)
    have HI:=Lib.hid (And.intro i1 hst)
    clear a hx hf he hr hty hob i1 i2 hst hok
    go_enter Tryz.func237,Tryz.ntmps237
    go_wp2_with fail
    refine HF.out.mono ?_
    rintro e w1 ⟨rfl,rfl⟩
    go_wp2
    go_ret
    exact ⟨_,h,HP.out.1,HP.out.2,upd_step (B:=B) (i:=i) (x:={ B.e i with st:=3 }) ⟨rfl,rfl,rfl,fun _ => rfl,by show (B.e i).st≤3; have:=HI.out.2; omega⟩ _,rfl,i,HI.out.1,HI.out.2,rfl⟩
def whoV (x:Ent) (m:Int):Int:=if m = x.a then 1 else if m = x.b then (if x.st = 1 then 0 else 2) else 0
set_option maxRecDepth 100000 in
set_option maxHeartbeats 1000000 in
theorem Bk.whoOf {w:World} {g n i:Nat} {f:Nat→Ent} (hr:RowK w g 10 n (fun i => (f i).cell)) (hi:i < n) (m:Int):Calls Tryz.prog 174 #[.pointer (some ⟨g,i * 10,none⟩),.int .i64 m] w fun e w' => e = .returned (.int .i64 (whoV (f i) m))∧w' = w:=by
  have c1:w.cell? ⟨g,i * 10 + 1,none⟩ = some (.int .i64 (f i).a):=hr.cell hi (show 1 < 10 by omega)
  have c2:w.cell? ⟨g,i * 10 + 2,none⟩ = some (.int .i64 (f i).b):=hr.cell hi (show 2 < 10 by omega)
  have c7:w.cell? ⟨g,i * 10 + 7,none⟩ = some (.int .i64 (f i).st):=hr.cell hi (show 7 < 10 by omega)
  clear hr
  generalize f i = x at *
  by_cases h1:m = x.a
  · subst h1
    go_enter Tryz.func174,Tryz.ntmps174
    go_wp2
    go_ret
    exact ⟨by simp [whoV],rfl⟩
  · have e1:(m == x.a) = false:=by simp [h1]
    by_cases h2:m = x.b
    · have e2:(m == x.b) = true:=by simp [h2]
      by_cases h3:x.st = 1
      · have e3:(x.st != 1) = false:=by simp [h3]
        go_enter Tryz.func174,Tryz.ntmps174
        go_wp2
        go_ret
        exact ⟨by simp [whoV,h2 ▸ h1,h2,h3],rfl⟩
      · have e3:(x.st != 1) = true:=by simp [h3]
        go_enter Tryz.func174,Tryz.ntmps174
        go_wp2
        go_ret
        exact ⟨by simp [whoV,h2 ▸ h1,h2,h3],rfl⟩
    · have e2:(m == x.b) = false:=by simp [h2]
      go_enter Tryz.func174,Tryz.ntmps174
      go_wp2
      go_ret
      exact ⟨by simp [whoV,h1,h2],rfl⟩
set_option maxRecDepth 100000 in
set_option maxHeartbeats 4000000 in
theorem Bk.rescind {w:World} {h:Bh} {B:Bo} (a:BoAt w h B) (m id:Int) (hi:In64 id):Calls Tryz.prog 146 #[.pointer (some ⟨h.b,0,none⟩),.int .i64 m,.int .i64 id] w (BPost h B (fun e _ => ∃ s c,e = .returned (.tuple #[.int .i64 s,.int .i64 c])∧0≤s∧s≤4∧0≤c∧c≤12) w):=by
  have hf:=Bk.find a id hi
  unfold Bh.ptr at hf
  cases hx:B.ix id with
  | none =>
    rw [hx] at hf
    have HF:=Lib.hid hf
    have HA:=Lib.hid a
    clear hf hx a
    go_enter Tryz.func146,Tryz.ntmps146
    go_wp2_with fail
    refine HF.out.mono ?_
    rintro e w1 ⟨rfl,rfl⟩
    go_wp2
    go_ret2
    exact BPost.same HA.out (Below.refl _ _) ⟨0,5,rfl,by omega,by omega,by omega,by omega⟩
  | some i =>
    obtain ⟨i1,i2⟩:=a.ok.ix2 _ _ hx
    obtain ⟨g,cap,he,hr,hty,hob⟩:=a.slice i1
    rw [hx,hob] at hf
    change Calls _ _ _ _ fun e w' => e = .returned (.pointer (some ⟨g,i * 10,none⟩))∧w' = w at hf
    have HF:=Lib.hid hf
    have HW:=Lib.hid (Bk.whoOf hr i1 m)
    have HWN:=Lib.hid (fun n => Bk.whoOf (w:=w.drewN n) hr i1 m)
    have c7:w.cell? ⟨g,i * 10 + 7,none⟩ = some (.int .i64 (B.e i).st):=hr.cell i1 (show 7 < 10 by omega)
    have c8:w.cell? ⟨g,i * 10 + 8,none⟩ = some (.int .i64 (B.e i).asked):=hr.cell i1 (show 8 < 10 by omega)
    have f7:=hr.frozen (i * 10 + 7)
    have f8:=hr.frozen (i * 10 + 8)
    have HA:=Lib.hid a
    have hok:=a.ok.ent i i1
    have hst:=hok.st
    have HOK:=Lib.hid hok
    have HI:=Lib.hid (And.intro i1 (And.intro hob (And.intro he hty)))
    clear a hx hf he hr hty hob i1 i2 hok
    generalize hV:whoV (B.e i) m = V at *
    clear hV
    by_cases hv:V = 0
    · subst hv
      go_enter Tryz.func146,Tryz.ntmps146
      go_wp2_with fail
      refine HF.out.mono ?_
      rintro e w1 ⟨rfl,rfl⟩
      go_wp2_with fail
      refine HW.out.mono ?_
      rintro e w2 ⟨rfl,rfl⟩
      go_wp2
      go_ret2
      exact BPost.same HA.out (Below.refl _ _) ⟨0,5,rfl,by omega,by omega,by omega,by omega⟩
    · have hv0:(V == 0) = false:=by simp [hv]
      by_cases h3:3≤(B.e i).st
      · go_enter Tryz.func146,Tryz.ntmps146
        go_wp2_with fail
        refine HF.out.mono ?_
        rintro e w1 ⟨rfl,rfl⟩
        go_wp2_with fail
        refine HW.out.mono ?_
        rintro e w2 ⟨rfl,rfl⟩
        go_wp2
        go_ret2
        exact BPost.same HA.out (Below.refl _ _) ⟨0,7,rfl,by omega,by omega,by omega,by omega⟩
      · by_cases h1:(B.e i).st = 1
        · have HP:=Lib.hid (HA.out.put HI.out.1 (show 7 < 10 by omega) HI.out.2.1 (x:={ B.e i with st:=4 }) (fun k hk hne => num_st _ _ hk hne) (HOK.out.st' (by simp)) rfl)
          have HL:=Lib.hid (upd_step (B:=B) (i:=i) (x:={ B.e i with st:=4 }) ⟨rfl,rfl,rfl,fun e => by omega,by show (B.e i).st≤4; omega⟩ (fun _ => False))
          rw [h1] at c7
          clear h1 h3 hst
          go_enter Tryz.func146,Tryz.ntmps146
          go_wp2_with fail
          refine HF.out.mono ?_
          rintro e w1 ⟨rfl,rfl⟩
          go_wp2_with fail
          refine HW.out.mono ?_
          rintro e w2 ⟨rfl,rfl⟩
          go_wp2
          go_ret2
          exact ⟨_,h,HP.out.1,HP.out.2,HL.out,4,0,rfl,by omega,by omega,by omega,by omega⟩
        · have h2:(B.e i).st = 2:=by omega
          rw [h2] at c7
          clear h1 h3 hst
          have H2:=Lib.hid h2
          obtain ⟨r,hand⟩:∃ r,∀ w,(binOp .and 3 (.int .i64 (B.e i).asked) (.int .i64 V)).run Tryz.prog w = .ok (.int .i64 r) w:=⟨_,fun _ => rfl⟩
          obtain ⟨r2,hor⟩:∃ r,∀ w,(binOp .or 3 (.int .i64 (B.e i).asked) (.int .i64 V)).run Tryz.prog w = .ok (.int .i64 r) w:=⟨_,fun _ => rfl⟩
          go_enter Tryz.func146,Tryz.ntmps146
          go_wp2_with fail
          refine HF.out.mono ?_
          rintro e w1 ⟨rfl,rfl⟩
          go_wp2_with fail
          refine HW.out.mono ?_
          rintro e w2 ⟨rfl,rfl⟩
          go_upto_region 9 with (fail)
          go_quiet (first | (go_at_call 174; exact Calls.quiet_of_same (HWN.out _)))
          have HA3:=Lib.hid (HA.out.below (Bk.bdrew (Below.refl _ _) nq))
          have d7:(w2.drewN nq).cell? ⟨g,i * 10 + 7,none⟩ = some (.int .i64 2):=c7
          have d8:(w2.drewN nq).cell? ⟨g,i * 10 + 8,none⟩ = some (.int .i64 (B.e i).asked):=c8
          have e7:(w2.drewN nq).frozen? ⟨g,i * 10 + 7,none⟩ = false:=f7
          have e8:(w2.drewN nq).frozen? ⟨g,i * 10 + 8,none⟩ = false:=f8
          have HB3:=Lib.hid (Bk.bdrew (Below.refl w2.heap.size w2) nq)
          have HW3:=Lib.hid (HWN.out (nq + 1))
          have hdd:w2.drewN (nq + 1) = (w2.drewN nq).drew:=rfl
          rw [hdd] at HW3
          clear hand hor hdd c7 c8 f7 f8 h2
          generalize hw3:w2.drewN nq = w3 at *
          clear hw3
          by_cases h4:bits BinOp.and IntKind.i64 (B.e i).asked V = 0
          · have hb4:(bits BinOp.and IntKind.i64 (B.e i).asked V != 0) = false:=by simp [h4]
            rw [hb4]
            clear h4 hb4
            go_upto_region 11 with (fail)
            go_region_with (first | (go_at_call 174; refine HW3.out.mono ?_; rintro e w8 ⟨rfl,rfl⟩))
            all_goals
              generalize bits BinOp.or IntKind.i64 (B.e i).asked V = R at *
              have hP:=HA3.out.put HI.out.1 (show 8 < 10 by omega) HI.out.2.1 (x:={ B.e i with asked:=R }) (fun k hk hne => num_asked _ _ hk hne) (HOK.out.asked' _) rfl
              have hL:=upd_step (B:=B) (i:=i) (x:={ B.e i with asked:=R }) ⟨rfl,rfl,rfl,fun e => e,Int.le_refl _⟩ (fun _ => False)
              have hA4:BoAt (w3.setCell ⟨g,i * 10 + 8,none⟩ (.int .i64 R)).drew h (B.upd i { B.e i with asked:=R }):=(show BoAt (w3.setCell ⟨g,i * 10 + 8,none⟩ (.int .i64 R)) h (B.upd i { B.e i with asked:=R }) from hP.1).below (Below.refl _ _).drew
              have hst4:BSt w2 h (w3.setCell ⟨g,i * 10 + 8,none⟩ (.int .i64 R)).drew h:=(BSt.of_below HB3.out h).trans ((show BSt w3 h (w3.setCell ⟨g,i * 10 + 8,none⟩ (.int .i64 R)) h from hP.2).trans (BSt.of_below (Below.refl _ _).drew h))
              have t7:(w3.setCell ⟨g,i * 10 + 8,none⟩ (.int .i64 R)).drew.cell? ⟨g,i * 10 + 7,none⟩ = some (.int .i64 2):=(World.cell?_setCell_other _ _ _ _ (fun e => by have:i * 10 + 8 = i * 10 + 7:=by { injection e }; omega)).trans d7
              have t8:(w3.setCell ⟨g,i * 10 + 8,none⟩ (.int .i64 R)).drew.cell? ⟨g,i * 10 + 8,none⟩ = some (.int .i64 R):=World.cell?_setCell_same _ _ _ d8
              obtain ⟨g',cap',he',hr',hty',hob'⟩:=hA4.slice (i:=i) HI.out.1
              have hgg:g' = g:=by have:=HI.out.2.1; rw [hob'] at this; injection this
              subst hgg
              have u7:=hr'.frozen (i * 10 + 7)
              have HP2:=Lib.hid (hA4.put (i:=i) HI.out.1 (show 7 < 10 by omega) HI.out.2.1 (x:={ B.e i with asked:=R,st:=4 }) (fun k hk hne => by
                show _ = Ent.num (if i = i then _ else _) k
                rw [if_pos rfl]
                exact num_st { B.e i with asked:=R } 4 hk hne) ((HOK.out.asked' R).st' (by simp)) (by show _ = Ent.id (if i = i then _ else _); rw [if_pos rfl]))
              have HL2:=Lib.hid (BoStep.trans hL (upd_step (B:=B.upd i { B.e i with asked:=R }) (i:=i) (x:={ B.e i with asked:=R,st:=4 }) (by
                show Ent.Like (if i = i then _ else _) _
                rw [if_pos rfl]
                exact ⟨rfl,rfl,rfl,fun e => by have e':(B.e i).st = 3:=e; have:=H2.out; omega,by show (B.e i).st≤4; have:=H2.out; omega⟩) (fun _ => False)))
              have HL:=Lib.hid hL
              have HA4:=Lib.hid hA4
              have HST4:=Lib.hid hst4
              clear hP hL hA4 hst4 hr' hob' he' hty' d7 d8 e7 e8
              generalize (w3.setCell ⟨g',i * 10 + 8,none⟩ (.int .i64 R)).drew = w4 at *
              by_cases h6:R = 3
              · subst h6
                go_wp2
                go_ret2
                exact ⟨_,h,HP2.out.1,HST4.out.trans HP2.out.2,HL2.out,4,0,rfl,by omega,by omega,by omega,by omega⟩
              · have hb6:(R == 3) = false:=by simp [h6]
                clear h6
                go_wp2
                go_ret2
                exact ⟨_,h,HA4.out,HST4.out,HL.out,2,0,rfl,by omega,by omega,by omega,by omega⟩
          · have hb4:(bits BinOp.and IntKind.i64 (B.e i).asked V != 0) = true:=by simp [h4]
            rw [hb4]
            clear h4 hb4
            go_wp2
            go_ret2
            exact ⟨B,h,HA3.out,BSt.of_below HB3.out h,BoStep.refl B _,0,6,rfl,by omega,by omega,by omega,by omega⟩
end Go.Proofs.YtgcnnbjbdfgglaaGreat
namespace Go.Proofs.YtgcnnbjbdfgglaaGreat
open Go.RowKit
def IdsAt (w:World) (v:Value) (zs:List Int):Prop:=SlI w v zs.length (fun i => zs.getD i 0)
theorem IdsAt.below {w w':World} {v:Value} {zs:List Int} (h:IdsAt w v zs) (hb:Below w.heap.size w w'):IdsAt w' v zs:=SlC.below h hb
theorem ids_of_own {w:World} {B e:Nat} {v:Value} {zs:List Int} (h:w.ownsRow B e 1 v zs.length (ints zs)):IdsAt w v zs:=by
  rcases h.2 with ⟨rfl,h0⟩ | ⟨g,cap,cur,rfl,_⟩
  · exact ⟨none,0,by rw [h0],fun hn => by omega⟩
  · refine ⟨some ⟨g,0,none⟩,cap,rfl,fun _ => ⟨g,0,rfl,fun i hi => ?_⟩⟩
    have h2:=h.cellAt i (by omega)
    rw [Nat.zero_add,h2]
    simp [ints,List.getD,List.getElem?_eq_getElem hi]
def IdsOk (zs:List Int):Prop:=zs.length≤200∧∀ z ∈ zs,1≤z∧z≤2147483647
theorem BSt.grown {w a b:World} {h h':Bh} {row:Option Nat} (s:BSt w h a h') (hg:a.grownBy b row) (hr:∀ k,row = some k→w.heap.size≤k):BSt w h b h' :=
  ⟨s.b,⟨hg.os.trans s.kept.os,hg.tape.trans s.kept.tape,hg.output.trans s.kept.output,Nat.le_trans s.kept.size hg.size,fun k hk hn => (hg.block k (Nat.lt_of_lt_of_le hk s.kept.size) (fun e => by have:=hr k e.symm; omega)).trans (s.kept.block k hk hn)⟩,s.own⟩
theorem BoAt.grown {a b:World} {h:Bh} {B:Bo} {row:Option Nat} (s:BoAt a h B) (hg:a.grownBy b row) (hr:∀ k,h.own k→row ≠ some k):BoAt b h B:=s.frame fun k hk => hg.block k (s.ownlt hk) (fun e => hr k hk e.symm)
set_option maxRecDepth 100000 in
set_option maxHeartbeats 4000000 in
theorem Bk.remove {w:World} {h:Bh} {B:Bo} (a:BoAt w h B) (m:Int):Calls Tryz.prog 188 #[.pointer (some ⟨h.b,0,none⟩),.int .i64 m] w (fun e w' => BPost h B (fun e B' => ∃ v zs,e = .returned v∧w'.ownsRow w.heap.size 3 1 v zs.length (ints zs)∧IdsOk zs∧∀ i,i < B'.n→((B'.e i).a = m∨(B'.e i).b = m)→3≤(B'.e i).st) w e w'):=by
  obtain ⟨i0,hi,hz0,hz1,hz2⟩:=info_parts Bk.infoInt
  have HA:=Lib.hid a
  have n200:=a.ok.n200
  have c2:=(a.blk.cell 2).trans rfl
  have hsl:∃ g c,h.lv = .slice g B.n c:=by
    rcases a.own.2 with ⟨he,h0⟩ | ⟨g,cap,cur,he,_⟩
    · exact ⟨none,0,by rw [he,h0]⟩
    · exact ⟨_,_,he⟩
  have hbl:=a.blk.lt
  have q200:(B.n:Int)≤200:=by omega
  clear a n200
  obtain ⟨sg,sc,hlv⟩:=hsl
  rw [hlv] at c2
  have HLV:=Lib.hid hlv
  clear hlv
  go_enter Tryz.func188,Tryz.ntmps188
  go_wp2
  go_loopw [5,13] (fun v i wr => ∃ (k:Nat) (B':Bo) (zs:List Int) (u:Value),k≤B.n∧i = .int .i64 k∧u = v∧BoAt wr h B'∧BSt w h wr h∧BoStep B B' (fun _ => False)∧B'.n = B.n∧(∀ j,j < k→((B'.e j).a = m∨(B'.e j).b = m)→3≤(B'.e j).st)∧wr.ownsRow w.heap.size 3 1 v zs.length (ints zs)∧(∀ z ∈ zs,1≤z∧z≤2147483647)∧zs.length≤k) (fun _ i _ => B.n - (intOf i).toNat)
  case atStart => exact ⟨0,B,[],_,by omega,rfl,rfl,HA.out,BSt.refl _ _,BoStep.refl B _,rfl,(fun j hj => by omega),World.ownsRow_nil _ _ _ _,(by simp),by simp⟩
  case round =>
    obtain ⟨k,B',zs,v,hk,rfl,rfl,hb,hst,hstep,hnn,hdone,hown,hzs,hzl⟩:=hrel
    have HB:=Lib.hid hb
    have HST:=Lib.hid hst
    have HSTEP:=Lib.hid hstep
    have HD:=Lib.hid hdone
    have HZ:=Lib.hid (And.intro hzs hzl)
    have HOW:=Lib.hid hown
    have HNN:=Lib.hid hnn
    by_cases hlt:k < B.n
    · have q1:(k:Int) < (B.n:Int):=by omega
      have hk':k < B'.n:=by omega
      obtain ⟨g,cap,he,hr,hty,hob⟩:=hb.slice hk'
      have hsc:sg = some ⟨g,0,none⟩∧sc = cap:=by
        have h1:=HLV.out
        rw [he,hnn] at h1
        simp only [Value.slice.injEq] at h1
        exact ⟨h1.1.symm,h1.2.2.symm⟩
      obtain ⟨rfl,rfl⟩:=hsc
      have g2:wr.cell? ⟨h.b,2,none⟩ = some (.slice (some ⟨g,0,none⟩) B.n sc):=by have:=hb.blk.cell 2; rw [this,he,hnn]; rfl
      have c7:wr.cell? ⟨g,k * 10 + 7,none⟩ = some (.int .i64 (B'.e k).st):=hr.cell hk' (show 7 < 10 by omega)
      have c1:wr.cell? ⟨g,k * 10 + 1,none⟩ = some (.int .i64 (B'.e k).a):=hr.cell hk' (show 1 < 10 by omega)
      have d2:wr.cell? ⟨g,k * 10 + 2,none⟩ = some (.int .i64 (B'.e k).b):=hr.cell hk' (show 2 < 10 by omega)
      have d0:wr.cell? ⟨g,k * 10,none⟩ = some (.int .i64 (B'.e k).id):=by have:=hr.cell hk' (show 0 < 10 by omega); rw [Nat.add_zero] at this; exact this
      have f7:=hr.frozen (k * 10 + 7)
      have hok:=hb.ok.ent k hk'
      have HI:=Lib.hid (And.intro hk' (And.intro hok (And.intro hob hty)))
      clear hb hst hstep hdone hown hzs hzl he hr hty hob hnn hok hk'
      have SKIP:=Lib.hid (fun (hx:((B'.e k).a = m∨(B'.e k).b = m)→3≤(B'.e k).st) (j:Nat) (hj:j < k + 1) => (show ((B'.e j).a = m∨(B'.e j).b = m)→3≤(B'.e j).st from by
        by_cases e:j = k
        · subst e; exact hx
        · exact HD.out j (by omega)))
      by_cases h3:(B'.e k).st < 3
      · by_cases hm:(B'.e k).a = m∨(B'.e k).b = m
        · have HP:=Lib.hid (HB.out.put (i:=k) HI.out.1 (show 7 < 10 by omega) HI.out.2.2.1 (x:={ B'.e k with st:=4 }) (fun q hq hne => num_st _ _ hq hne) (HI.out.2.1.st' (by simp)) rfl)
          have HL:=Lib.hid (HSTEP.out.trans (upd_step (B:=B') (i:=k) (x:={ B'.e k with st:=4 }) ⟨rfl,rfl,rfl,fun e => by omega,by show (B'.e k).st≤4; omega⟩ (fun _ => False)))
          have HDN:=Lib.hid (fun (j:Nat) (hj:j < k + 1) => (show (((B'.upd k { B'.e k with st:=4 }).e j).a = m∨((B'.upd k { B'.e k with st:=4 }).e j).b = m)→3≤((B'.upd k { B'.e k with st:=4 }).e j).st from by
            show ((if j = k then { B'.e k with st:=4 } else B'.e j:Ent).a = m∨(if j = k then { B'.e k with st:=4 } else B'.e j:Ent).b = m)→3≤(if j = k then { B'.e k with st:=4 } else B'.e j:Ent).st
            by_cases e:j = k
            · intro _; simp [e]
            · simp only [e,if_false]; exact HD.out j (by omega)))
          have glt:g < w.heap.size:=by have h1:=HA.out.ownlt (k:=g) (.inr (.inr (by rw [HI.out.2.2.1]))); exact h1
          have hblt:=HB.out.blk.lt
          have W1:=Lib.hid (show (wr.setCell ⟨g,k * 10 + 7,none⟩ (.int .i64 4)).ownsRow w.heap.size 3 1 v zs.length (ints zs) from own_far HOW.out (fun q hq => by have:=(HOW.out.lt q hq).1; omega) _ _)
          have hBA:BoAt (wr.setCell ⟨g,k * 10 + 7,none⟩ (.int .i64 4)) h (B'.upd k { B'.e k with st:=4 }):=HP.out.1
          have hBS:BSt wr h (wr.setCell ⟨g,k * 10 + 7,none⟩ (.int .i64 4)) h:=HP.out.2
          have HBA:=Lib.hid hBA
          have HBS:=Lib.hid (HST.out.trans hBS)
          have e0:(wr.setCell ⟨g,k * 10 + 7,none⟩ (.int .i64 4)).cell? ⟨g,k * 10,none⟩ = some (.int .i64 (B'.e k).id):=(World.cell?_setCell_other _ _ _ _ (fun e => by have:k * 10 + 7 = k * 10:=by { injection e }; omega)).trans d0
          have HWS:=Lib.hid (HST.out.kept.size)
          have HX:=Lib.hid (show ints (zs ++ [(B'.e k).id]) = ints zs ++ [Value.int .i64 (B'.e k).id] by simp [ints])
          have HZ2:=Lib.hid (show (zs ++ [(B'.e k).id]).length = zs.length + 1∧(∀ z ∈ zs ++ [(B'.e k).id],1≤z∧z≤2147483647)∧(zs ++ [(B'.e k).id]).length≤k + 1 by
            refine ⟨by simp,fun z hz => ?_,by have:=HZ.out.2; simp; omega⟩
            rcases List.mem_append.1 hz with h | h
            · exact HZ.out.1 z h
            · simp at h; subst h; exact ⟨HI.out.2.1.i1,HI.out.2.1.i2⟩)
          have hzl:=HZ.out.2
          have guard1:decide ((B'.e k).st < 3) = true:=decide_eq_true h3
          clear hBA hBS HP SKIP
          have hab:((B'.e k).a == m) = true∨(((B'.e k).a == m) = false∧((B'.e k).b == m) = true):=by
            by_cases e:(B'.e k).a = m
            · left; simp [e]
            · right
              rcases hm with h | h
              · exact absurd h e
              · exact ⟨by simp [e],by simp [h]⟩
          have HOWN:=Lib.hid (fun q (hq:h.own q) => HA.out.ownlt hq)
          have HSZ:=Lib.hid HBS.out.kept.size
          have hws:=HSZ.out
          clear hm
          rcases hab with hma | ⟨hma,hmb⟩
          · go_upto_region 8 with (fail)
            generalize wr.setCell ⟨g,k * 10 + 7,none⟩ (.int .i64 4) = w4 at *
            clear c7 c1 d2 d0 f7 g2 c2
            generalize (B'.e k).id = x0 at *
            go_wp2_with (at_builtin; with_reducible refine wpList_append_lies _ rfl (.tmp 48) (.tmp 54) 25 rfl w.heap.size 3 i0 (.int .i64 0) 1 8 Tryz.underlying25 hi hz0 hz1 hz2 rfl (by decide) _ _ _ rfl (W1.out.alloc _) ⟨w4.heap.size,0,none⟩ 1 1 [.int .i64 x0] rfl rfl ?k1 ?k2 (by decide) ?k3 ?k4 ?k5 _ rfl ?_)
            all_goals try (first | rfl | (unfold maxLen; omega) | omega)
            intro g1 cap1 w5 hown hgrow hg hgl
            have hv:∀ q,v.ownBlock = some q→w.heap.size≤q:=fun q hq => (W1.out.lt q hq).1
            have HF1:=Lib.hid ((HBA.out.below ((Below.refl _ _).alloc (Nat.le_refl _) (.cells #[.int .i64 x0] 3))).grown hgrow (fun q hq e => by have:=hv q e; have:=HOWN.out q hq; omega))
            have HF2:=Lib.hid ((HBS.out.trans (BSt.of_below ((Below.refl _ _).alloc (Nat.le_refl _) (.cells #[.int .i64 x0] 3)) h)).grown hgrow hv)
            rw [← HX.out,← HZ2.out.1] at hown
            have HF3:=Lib.hid hown
            clear hown hgrow hg hgl hv
            go_wp2
            go_roundw
            case rel => exact ⟨k + 1,_,zs ++ [x0],_,by omega,by go_num,rfl,HF1.out,HF2.out,HL.out,HNN.out,HDN.out,by have:=HF3.out; rw [HZ2.out.1] at this ⊢; exact this,HZ2.out.2.1,HZ2.out.2.2⟩
            case measure => simp [intOf]; omega
          · obtain hmb':(B'.e k).b = m:=by simpa using hmb
            clear hmb
            subst hmb'
            go_upto_region 8 with (fail)
            generalize wr.setCell ⟨g,k * 10 + 7,none⟩ (.int .i64 4) = w4 at *
            clear c7 c1 d2 d0 f7 g2 c2
            generalize (B'.e k).id = x0 at *
            go_wp2_with (at_builtin; with_reducible refine wpList_append_lies _ rfl (.tmp 48) (.tmp 54) 25 rfl w.heap.size 3 i0 (.int .i64 0) 1 8 Tryz.underlying25 hi hz0 hz1 hz2 rfl (by decide) _ _ _ rfl (W1.out.alloc _) ⟨w4.heap.size,0,none⟩ 1 1 [.int .i64 x0] rfl rfl ?j1 ?j2 (by decide) ?j3 ?j4 ?j5 _ rfl ?_)
            all_goals try (first | rfl | (unfold maxLen; omega) | omega)
            intro g1 cap1 w5 hown hgrow hg hgl
            have hv:∀ q,v.ownBlock = some q→w.heap.size≤q:=fun q hq => (W1.out.lt q hq).1
            have HF1:=Lib.hid ((HBA.out.below ((Below.refl _ _).alloc (Nat.le_refl _) (.cells #[.int .i64 x0] 3))).grown hgrow (fun q hq e => by have:=hv q e; have:=HOWN.out q hq; omega))
            have HF2:=Lib.hid ((HBS.out.trans (BSt.of_below ((Below.refl _ _).alloc (Nat.le_refl _) (.cells #[.int .i64 x0] 3)) h)).grown hgrow hv)
            rw [← HX.out,← HZ2.out.1] at hown
            have HF3:=Lib.hid hown
            clear hown hgrow hg hgl hv
            go_wp2
            go_roundw
            case rel => exact ⟨k + 1,_,zs ++ [x0],_,by omega,by go_num,rfl,HF1.out,HF2.out,HL.out,HNN.out,HDN.out,by have:=HF3.out; rw [HZ2.out.1] at this ⊢; exact this,HZ2.out.2.1,HZ2.out.2.2⟩
            case measure => simp [intOf]; omega
        · have hma:((B'.e k).a == m) = false:=by simp; exact fun e => hm (.inl e)
          have hmb:((B'.e k).b == m) = false:=by simp; exact fun e => hm (.inr e)
          have HD2:=Lib.hid (SKIP.out (fun h => absurd h hm))
          have hzl:=HZ.out.2
          clear hm SKIP
          go_wp2
          go_roundw
          case rel => exact ⟨k + 1,B',zs,v,by omega,by go_num,rfl,HB.out,HST.out,HSTEP.out,HNN.out,HD2.out,HOW.out,HZ.out.1,by omega⟩
          case measure => simp [intOf]; omega
      · have HD2:=Lib.hid (SKIP.out (fun _ => by omega))
        have hzl:=HZ.out.2
        clear SKIP
        go_wp2
        go_roundw
        case rel => exact ⟨k + 1,B',zs,v,by omega,by go_num,rfl,HB.out,HST.out,HSTEP.out,HNN.out,HD2.out,HOW.out,HZ.out.1,by omega⟩
        case measure => simp [intOf]; omega
    · obtain rfl:k = B.n:=by omega
      clear hb hst hstep hdone hown hzs hzl hnn
      go_wp2
      go_ret
      exact ⟨B',h,HB.out,HST.out,HSTEP.out,v,zs,rfl,HOW.out,⟨by have:=HZ.out.2; have:=HA.out.ok.n200; omega,HZ.out.1⟩,fun i hi => HD.out i (by have:=HNN.out; omega)⟩
theorem IMap.nil {w:World} {mb:Nat} {z:Value} (h:IMap w mb 0 z (fun _ => none)) (B:Bo) (hB:B.ix = fun _ => none):IMap w mb 0 z B.F:=by
  unfold Bo.F
  rw [hB]
  exact h
def DnPost (m c:Nat) (w:World) (e:Ending) (w':World):Prop:=∃ h B,e = .returned (.tuple #[.pointer (some ⟨h.b,0,none⟩),.int .i64 0])∧BoAt w' h B∧B.n = 0∧B.mem = m∧B.cur = c∧Below w.heap.size w w'∧∀ k,h.own k→w.heap.size≤k
set_option maxRecDepth 100000 in
set_option maxHeartbeats 1000000 in
theorem Bk.dealNew (w:World) (m c:Nat) (hm:1≤m∧m≤16) (hc:1≤c∧c≤8):Calls Tryz.prog 54 #[.int .i64 m,.int .i64 c] w (DnPost m c w):=by
  have q1:¬ ((m:Int) < 1):=by omega
  have q2:¬ (16 < (m:Int)):=by omega
  have q3:¬ ((c:Int) < 1):=by omega
  have q4:¬ (8 < (c:Int)):=by omega
  have HM:=Lib.hid (And.intro hm hc)
  clear hm hc
  have hmm:∀ (t:TypeId) (w:World),(Instr.makeMap t none).run Tryz.prog w = .ok (.map (some w.heap.size)) (w.alloc (.map #[] 0)):=fun _ _ => rfl
  go_enter Tryz.func54,Tryz.ntmps54
  go_wp2
  go_ret2
  have hb:Below w.heap.size w ((w.alloc (.map #[] 0)).alloc (.cells #[.int .i64 m,.int .i64 c,.slice none 0 0,.map (some w.heap.size),.int .i64 0] 131)):=((Below.refl _ _).alloc (Nat.le_refl _) _).alloc (by simp) _
  refine ⟨⟨w.heap.size + 1,w.heap.size,.slice none 0 0⟩,⟨0,fun _ => Ent.none,fun _ => Option.none,m,c,0⟩,rfl,⟨?_,World.ownsRow_nil _ _ _ _,IMap.nil (((IMap.made w _).below ((Below.refl _ _).alloc (Nat.le_refl _) _))) _ rfl,⟨by show (0:Nat)≤200; omega,HM.out.1.2,HM.out.2.2,fun i hi => by have:i < 0:=hi; omega,fun i hi => by have:i < 0:=hi; omega,fun k i hk => by cases hk⟩⟩,rfl,rfl,rfl,hb,fun k hk => ?_⟩
  · have:=Blk.new (w.alloc (.map #[] 0)) 131 #[.int .i64 m,.int .i64 c,.slice none 0 0,.map (some w.heap.size),.int .i64 0]
    rw [World.size_alloc] at this
    exact this
  · rcases hk with rfl | rfl | hk
    · exact Nat.le_succ _
    · exact Nat.le_refl _
    · cases hk
end Go.Proofs.YtgcnnbjbdfgglaaGreat
