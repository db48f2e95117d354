/- LAW TopBoth: of every configuration of a bank and every list of byte strings the given function TopBoth returns true and leaves its arguments as they were; no condition. A part of what it needs. -/
import Derived.Test.YtgcnnbjbdfgglaaGreatZag
import Derived.StillTailTactics
import Derived.Laws.StructEq
import Derived.Deep.RegionLaw
import Derived.Deep.AppendLies
namespace Go.Proofs.YtgcnnbjbdfgglaaGreat
open Go.RowKit
def SubPost (h:Bh) (B:Bo) (x:Ent) (w:World) (e:Ending) (w':World):Prop:=∃ m c B' h',e = .returned (.tuple #[.bool m,.int .i64 c])∧(0≤c∧c≤12)∧BoAt w' h' B'∧BSt w h w' h'∧BoStep B B' (fun y => y.a = x.a∧y.b = x.b)
theorem mayB_ok {B:Bo} {x:Ent} (h:mayB B x = true) (h1:x.sell≤9223372036854775807) (h2:x.buy≤9223372036854775807) (hs:x.st = 1):x.Ok B.mem B.cur:=by
  unfold mayB twoB at h
  simp only [Bool.and_eq_true,decide_eq_true_eq] at h
  obtain ⟨⟨⟨⟨⟨a1,a2⟩,a3⟩,a4⟩,a5⟩,a6⟩:=h
  exact ⟨a1,a2,⟨a3.1,a3.2.2.1⟩,⟨a3.2.1,a3.2.2.2.1⟩,⟨a4.1,a4.2.2.1⟩,⟨a4.2.1,a4.2.2.2.1⟩,a3.2.2.2.2,a4.2.2.2.2,⟨a5,h1⟩,⟨a6,h2⟩,.inl hs⟩
theorem flatK_snoc {K:Nat} (hK:0 < K) (n:Nat) (f:Nat→Nat→Value):flatK K (n + 1) f = flatK K n f ++ (List.range K).map (f n):=by
  unfold flatK
  rw [Nat.succ_mul,List.range_add,List.map_append]
  congr 1
  rw [List.map_map]
  apply List.map_congr_left
  intro j hj
  have hj':=List.mem_range.1 hj
  show f ((n * K + j) / K) ((n * K + j) % K) = f n j
  rw [Nat.add_comm,Nat.add_mul_div_right _ _ hK,Nat.div_eq_of_lt hj',Nat.zero_add,Nat.add_mul_mod_self_right,Nat.mod_eq_of_lt hj']
theorem flatK_congr {K n:Nat} {f g:Nat→Nat→Value} (h:∀ i j,i < n→j < K→f i j = g i j):flatK K n f = flatK K n g:=by
  unfold flatK
  apply List.map_congr_left
  intro y hy
  have hy':=List.mem_range.1 hy
  have hK:0 < K:=by
    rcases Nat.eq_zero_or_pos K with e | e
    · subst e; simp at hy'
    · exact e
  exact h _ _ (Nat.div_lt_of_lt_mul (by rw [Nat.mul_comm]; exact hy')) (Nat.mod_lt _ hK)
theorem Bk.infoEnt:(Tryz.prog.info? 127).map (fun i => (i.zero,i.size,i.bytes)) = some (some (.agg #[.int .i64 0,.int .i64 0,.int .i64 0,.int .i64 0,.int .i64 0,.int .i64 0,.int .i64 0,.int .i64 0,.int .i64 0,.int .i64 0]),10,80):=by kernel_rfl
def Bo.more (B:Bo) (x:Ent):Bo:={ B with n:=B.n + 1,e:=fun k => if k = B.n then x else B.e k,ix:=fun i => if i = x.id then some B.n else B.ix i }
theorem more_ok {B:Bo} (h:B.Ok) {x:Ent} (hn:B.n ≠ 200) (hx:x.Ok B.mem B.cur) (hix:B.ix x.id = none):(B.more x).Ok:=by
  refine ⟨by show B.n + 1≤200; have:=h.n200; omega,h.mem,h.cur,fun i hi => ?_,fun i hi => ?_,fun k i hk => ?_⟩
  · have hi':i < B.n + 1:=hi
    show Ent.Ok (if i = B.n then x else B.e i) B.mem B.cur
    split
    · exact hx
    · exact h.ent i (by omega)
  · have hi':i < B.n + 1:=hi
    show (if Ent.id (if i = B.n then x else B.e i) = x.id then some B.n else B.ix (Ent.id (if i = B.n then x else B.e i))) = some i
    by_cases e:i = B.n
    · simp [e]
    · simp only [e,if_false]
      have h1:=h.ix1 i (by omega)
      rw [if_neg (fun e2 => by rw [e2,hix] at h1; cases h1)]
      exact h1
  · have hk':(if k = x.id then some B.n else B.ix k) = some i:=hk
    show i < B.n + 1∧Ent.id (if i = B.n then x else B.e i) = k
    split at hk'
    · rename_i e
      cases hk'
      rw [if_pos rfl]
      exact ⟨by omega,e.symm⟩
    · obtain ⟨h1,h2⟩:=h.ix2 k i hk'
      rw [if_neg (by omega)]
      exact ⟨by omega,h2⟩
theorem more_step (B:Bo) (x:Ent):BoStep B (B.more x) (fun y => y.a = x.a∧y.b = x.b) :=
  ⟨Nat.le_succ _,rfl,rfl,fun i hi => by
    show (B.e i).Like (if i = B.n then x else B.e i)
    rw [if_neg (by omega)]
    exact Ent.Like.refl _,fun i h1 h2 => by
    have h2':i < B.n + 1:=h2
    show Ent.a (if i = B.n then x else B.e i) = x.a∧Ent.b (if i = B.n then x else B.e i) = x.b
    rw [if_pos (by omega)]
    exact ⟨rfl,rfl⟩⟩
theorem BoStep.weak {B C:Bo} (h:BoStep B C (fun _ => False)) (P:Ent→Prop):BoStep B C P:=⟨h.n,h.mem,h.cur,h.old,fun i h1 h2 => (h.new i h1 h2).elim⟩
theorem BoAt.setmat {w:World} {h:Bh} {B:Bo} (a:BoAt w h B) (m:Int):BoAt (w.setCell ⟨h.b,4,none⟩ (.int .i64 m)) h { B with mat:=m }∧BSt w h (w.setCell ⟨h.b,4,none⟩ (.int .i64 m)) h:=by
  have hs:∀ k,k ≠ h.b→(w.setCell ⟨h.b,4,none⟩ (.int .i64 m)).heap[k]? = w.heap[k]?:=fun k hk => Below.heap_setCell _ _ _ _ hk
  refine ⟨⟨a.blk.set 4 _,own_same a.own fun k hk => hs k ?_,a.map.same (hs _ (a.map.ne ⟨_,a.blk⟩).symm),⟨a.ok.n200,a.ok.mem,a.ok.cur,a.ok.ent,a.ok.ix1,a.ok.ix2⟩⟩,rfl,(Kept.refl _ _).setCell (.inl (.inl rfl)) _ _,fun _ hk => .inl hk⟩
  exact Ty.ne (own_ty a.own hk) ⟨_,a.blk⟩ (by decide)
theorem SubPost.same {h:Bh} {B:Bo} {x:Ent} {w w':World} (a:BoAt w' h B) (hb:Below w.heap.size w w') {c:Int} (hc:0≤c∧c≤12):SubPost h B x w (.returned (.tuple #[.bool false,.int .i64 c])) w':=⟨false,c,B,h,rfl,hc,a,BSt.of_below hb h,BoStep.refl B _⟩
set_option maxRecDepth 100000 in
set_option maxHeartbeats 1000000 in
theorem Bk.neqD (u v:Ent):∃ b,∀ w,(binOp .neq 63 (.agg u.deal) (.agg v.deal)).run Tryz.prog w = .ok (.bool b) w:=by
  unfold Ent.deal
  by_cases h:u.id = v.id∧u.a = v.a∧u.b = v.b∧u.sc = v.sc∧u.bc = v.bc∧u.sell = v.sell∧u.buy = v.buy
  · obtain ⟨h0,h1,h2,h3,h4,h5,h6⟩:=h
    refine ⟨false,fun w => ?_⟩
    go_simp
  · refine ⟨true,fun w => ?_⟩
    go_simp
    exact fun h0 h1 h2 h3 h4 h5 h6 => h ⟨h0,h1,h2,h3,h4,h5,h6⟩
set_option maxRecDepth 100000 in
set_option maxHeartbeats 4000000 in
theorem Bk.submit {w:World} {h:Bh} {B:Bo} (a:BoAt w h B) (x:Ent) (hid:In64 x.id) (h1:x.sell≤9223372036854775807) (h2:x.buy≤9223372036854775807) (hs:x.st = 1) (has:x.asked = 0) (hor:x.ord = 0) :
    Calls Tryz.prog 145 #[.pointer (some ⟨h.b,0,none⟩),.agg x.deal] w (SubPost h B x w):=by
  have HB0:=Lib.hid ((Below.refl w.heap.size w).alloc (Nat.le_refl _) (.cells x.deal 63))
  have HA0:=Lib.hid (a.below HB0.out)
  have HM:=Lib.hid (Bk.may HA0.out x)
  have hn:=Blk.new w 63 x.deal
  have HX:=Lib.hid (fun hm => mayB_ok (B:=B) (x:=x) hm h1 h2 hs)
  have HID:=Lib.hid hid
  have HSA:=Lib.hid (And.intro hs (And.intro has hor))
  clear a h1 h2 hid hs has hor
  unfold Ent.deal at HB0 HA0 HM hn ⊢
  have c0:(w.alloc (.cells #[.int .i64 x.id,.int .i64 x.a,.int .i64 x.b,.int .i64 x.sc,.int .i64 x.bc,.int .i64 x.sell,.int .i64 x.buy] 63)).cell? ⟨w.heap.size,0,none⟩ = some (.int .i64 x.id):=hn.cell 0
  have c1:(w.alloc (.cells #[.int .i64 x.id,.int .i64 x.a,.int .i64 x.b,.int .i64 x.sc,.int .i64 x.bc,.int .i64 x.sell,.int .i64 x.buy] 63)).cell? ⟨w.heap.size,1,none⟩ = some (.int .i64 x.a):=hn.cell 1
  have c2:(w.alloc (.cells #[.int .i64 x.id,.int .i64 x.a,.int .i64 x.b,.int .i64 x.sc,.int .i64 x.bc,.int .i64 x.sell,.int .i64 x.buy] 63)).cell? ⟨w.heap.size,2,none⟩ = some (.int .i64 x.b):=hn.cell 2
  have c3:(w.alloc (.cells #[.int .i64 x.id,.int .i64 x.a,.int .i64 x.b,.int .i64 x.sc,.int .i64 x.bc,.int .i64 x.sell,.int .i64 x.buy] 63)).cell? ⟨w.heap.size,3,none⟩ = some (.int .i64 x.sc):=hn.cell 3
  have c4:(w.alloc (.cells #[.int .i64 x.id,.int .i64 x.a,.int .i64 x.b,.int .i64 x.sc,.int .i64 x.bc,.int .i64 x.sell,.int .i64 x.buy] 63)).cell? ⟨w.heap.size,4,none⟩ = some (.int .i64 x.bc):=hn.cell 4
  have c5:(w.alloc (.cells #[.int .i64 x.id,.int .i64 x.a,.int .i64 x.b,.int .i64 x.sc,.int .i64 x.bc,.int .i64 x.sell,.int .i64 x.buy] 63)).cell? ⟨w.heap.size,5,none⟩ = some (.int .i64 x.sell):=hn.cell 5
  have c6:(w.alloc (.cells #[.int .i64 x.id,.int .i64 x.a,.int .i64 x.b,.int .i64 x.sc,.int .i64 x.bc,.int .i64 x.sell,.int .i64 x.buy] 63)).cell? ⟨w.heap.size,6,none⟩ = some (.int .i64 x.buy):=hn.cell 6
  have HN:=Lib.hid hn
  clear hn
  go_enter Tryz.func145,Tryz.ntmps145
  go_wp2_with fail
  refine HM.out.mono ?_
  rintro e w2 ⟨rfl,hb2⟩
  have HB2:=Lib.hid (HB0.out.trans (hb2.mono HB0.out.size))
  have HA2:=Lib.hid (HA0.out.below hb2)
  have HN2:=Lib.hid (HN.out.below hb2)
  have d0:=Bk.kept hb2 c0
  clear c0
  have d1:=Bk.kept hb2 c1
  clear c1
  have d2:=Bk.kept hb2 c2
  clear c2
  have d3:=Bk.kept hb2 c3
  clear c3
  have d4:=Bk.kept hb2 c4
  clear c4
  have d5:=Bk.kept hb2 c5
  clear c5
  have d6:=Bk.kept hb2 c6
  clear c6
  clear hb2 HM HA0 HN
  generalize hH:w.heap.size = H at *
  have HE:=Lib.hid hH
  clear hH
  cases hm:mayB B x with
  | false =>
    clear hm
    go_wp2
    go_ret2
    exact SubPost.same HA2.out (by rw [HE.out]; exact HB2.out) (by omega)
  | true =>
    have HXO:=Lib.hid (HX.out hm)
    clear hm
    have hsl:∃ g c,h.lv = .slice g B.n c:=by
      rcases HA2.out.own.2 with ⟨he,h0⟩ | ⟨g,cap,cur,he,_⟩
      · exact ⟨none,0,by rw [he,h0]⟩
      · exact ⟨_,_,he⟩
    obtain ⟨sg,sc,hlv⟩:=hsl
    have b2:w2.cell? ⟨h.b,2,none⟩ = some (.slice sg B.n sc):=by rw [← hlv]; exact HA2.out.blk.cell 2
    have b3:w2.cell? ⟨h.b,3,none⟩ = some (.map (some h.mb)):=HA2.out.blk.cell 3
    have z2:=HA2.out.blk.frozen 2
    have HLV:=Lib.hid hlv
    clear hlv
    have hf:=Bk.find HA2.out x.id HID.out
    unfold Bh.ptr at hf
    cases hx:B.ix x.id with
    | none =>
      rw [hx] at hf
      have HF:=Lib.hid hf
      have HIX:=Lib.hid hx
      clear hf hx
      by_cases hn:B.n = 200
      · have hnb:((B.n:Int) == 200) = true:=by simp [hn]
        clear hn
        go_wp2_with fail
        refine HF.out.mono ?_
        rintro e w3 ⟨rfl,rfl⟩
        go_wp2
        go_ret2
        exact SubPost.same HA2.out (by rw [HE.out]; exact HB2.out) (by omega)
      · have hnb:((B.n:Int) == 200) = false:=by simp; omega
        have HNN:=Lib.hid hn
        clear hn
        go_upto_region 7 with (go_at_call 40; refine HF.out.mono ?_; rintro e w3 ⟨rfl,rfl⟩)
        have hbd:Below w3.heap.size w3 w3.drew:=(Below.refl _ _).drew
        have HA3:=Lib.hid (HA2.out.below hbd)
        have HN3:=Lib.hid (HN2.out.below hbd)
        have HB3:=Lib.hid (HB2.out.drew)
        replace d0:w3.drew.cell? ⟨H,0,none⟩ = _:=d0
        replace d1:w3.drew.cell? ⟨H,1,none⟩ = _:=d1
        replace d2:w3.drew.cell? ⟨H,2,none⟩ = _:=d2
        replace d3:w3.drew.cell? ⟨H,3,none⟩ = _:=d3
        replace d4:w3.drew.cell? ⟨H,4,none⟩ = _:=d4
        replace d5:w3.drew.cell? ⟨H,5,none⟩ = _:=d5
        replace d6:w3.drew.cell? ⟨H,6,none⟩ = _:=d6
        replace b2:w3.drew.cell? ⟨h.b,2,none⟩ = _:=b2
        replace b3:w3.drew.cell? ⟨h.b,3,none⟩ = _:=b3
        replace z2:w3.drew.frozen? ⟨h.b,2,none⟩ = _:=z2
        clear hbd HF HA2 HN2 HB2
        go_still_tail 11,(by kernel_rfl)
        change wpList _ _ _ _ _ w3.drew
        generalize w3.drew = w4 at *
        obtain ⟨w5,hupd,hmap,hgm⟩:=HA3.out.map.put (t:=129) Tryz.underlying129 (by have:=HA3.out.ok.n200; unfold maxLen; omega) x.id HID.out (.int .i64 B.n)
        go_upto_region 8 with (fail)
        obtain ⟨i0,hi0,hz0,hz1,hz2⟩:=info_parts Bk.infoEnt
        have HIS:=Lib.hid (And.intro hi0 (And.intro hz0 (And.intro hz1 hz2)))
        clear hi0 hz0 hz1 hz2
        have hnb2:h.b ≠ h.mb:=HA3.out.map.ne ⟨_,HA3.out.blk⟩
        have hkb:w5.heap[h.b]? = w4.heap[h.b]?:=hgm.block _ HA3.out.blk.lt (fun e => by injection e; omega)
        have hkH:w5.heap[H]? = w4.heap[H]?:=hgm.block _ HN3.out.lt (fun e => by injection e with e; exact absurd e (HA3.out.map.ne ⟨_,HN3.out⟩))
        have hbk:Blk w5 h.b 131 _:=hkb.trans HA3.out.blk
        have hH5:Blk w5 H 63 _:=hkH.trans HN3.out
        have hown:w5.ownsRow 0 127 10 (.slice sg B.n sc) B.n (flatK 10 B.n fun i => (B.e i).cell):=by
          rw [← HLV.out]
          exact HA3.out.own.kept hgm (.inr (fun e => absurd rfl (HA3.out.map.ne (own_ty HA3.out.own e))))
        have HST5:=Lib.hid (show Kept h.own w w5∧Below H w w4 from ⟨⟨hgm.os.trans HB3.out.os,hgm.tape.trans HB3.out.tape,hgm.output.trans HB3.out.output,Nat.le_trans HB3.out.size hgm.size,fun k hk hnk => (hgm.block k (Nat.lt_of_lt_of_le hk HB3.out.size) (fun e => hnk (by injection e with e; exact .inr (.inl e)))).trans (HB3.out.block k (by rw [← HE.out]; exact hk))⟩,HB3.out⟩)
        have e0:w5.cell? ⟨H,0,none⟩ = _:=(World.cell?_of_block (a:=⟨H,0,none⟩) hkH).trans d0
        have e1:w5.cell? ⟨H,1,none⟩ = _:=(World.cell?_of_block (a:=⟨H,1,none⟩) hkH).trans d1
        have e2:w5.cell? ⟨H,2,none⟩ = _:=(World.cell?_of_block (a:=⟨H,2,none⟩) hkH).trans d2
        have e3:w5.cell? ⟨H,3,none⟩ = _:=(World.cell?_of_block (a:=⟨H,3,none⟩) hkH).trans d3
        have e4:w5.cell? ⟨H,4,none⟩ = _:=(World.cell?_of_block (a:=⟨H,4,none⟩) hkH).trans d4
        have e5:w5.cell? ⟨H,5,none⟩ = _:=(World.cell?_of_block (a:=⟨H,5,none⟩) hkH).trans d5
        have e6:w5.cell? ⟨H,6,none⟩ = _:=(World.cell?_of_block (a:=⟨H,6,none⟩) hkH).trans d6
        have e12:w5.cell? ⟨h.b,2,none⟩ = some (.slice sg B.n sc):=(World.cell?_of_block (a:=⟨h.b,2,none⟩) hkb).trans b2
        have HBK:=Lib.hid hbk
        have HH5:=Lib.hid hH5
        have HOWN:=Lib.hid hown
        have HMAP:=Lib.hid hmap
        have lb5:=hbk.lt
        have lh5:=hH5.lt
        have HOa:=Lib.hid (show (w5.alloc (.cells #[.int .i64 x.id,.int .i64 x.a,.int .i64 x.b,.int .i64 x.sc,.int .i64 x.bc,.int .i64 x.sell,.int .i64 x.buy,.int .i64 1,.int .i64 0,.int .i64 0] 127 (0,0))).drew.ownsRow 0 127 10 (.slice sg B.n sc) B.n (flatK 10 B.n fun i => (B.e i).cell) from hown.alloc _)
        have HBa:=Lib.hid (show Blk (w5.alloc (.cells #[.int .i64 x.id,.int .i64 x.a,.int .i64 x.b,.int .i64 x.sc,.int .i64 x.bc,.int .i64 x.sell,.int .i64 x.buy,.int .i64 1,.int .i64 0,.int .i64 0] 127 (0,0))).drew h.b 131 _ from hbk.alloc _)
        have e12a:(w5.alloc (.cells #[.int .i64 x.id,.int .i64 x.a,.int .i64 x.b,.int .i64 x.sc,.int .i64 x.bc,.int .i64 x.sell,.int .i64 x.buy,.int .i64 1,.int .i64 0,.int .i64 0] 127 (0,0))).cell? ⟨h.b,2,none⟩ = some (.slice sg B.n sc):=Bk.kept ((Below.refl w5.heap.size w5).alloc (Nat.le_refl _) _) e12
        have hnw:=Blk.new w5 127 #[.int .i64 x.id,.int .i64 x.a,.int .i64 x.b,.int .i64 x.sc,.int .i64 x.bc,.int .i64 x.sell,.int .i64 x.buy,.int .i64 1,.int .i64 0,.int .i64 0]
        have HNW:=Lib.hid hnw
        clear hgm hkb hkH hbk hH5 hown hmap hnw d0 d1 d2 d3 d4 d5 d6 b2 b3 z2 hupd HB3 HB0
        have n200:=HA3.out.ok.n200
        go_region_law (first
          | (refine step_append_lies _ rfl (.tmp 44) (.tmp 47) 128 rfl 0 127 i0 (.agg #[.int .i64 0,.int .i64 0,.int .i64 0,.int .i64 0,.int .i64 0,.int .i64 0,.int .i64 0,.int .i64 0,.int .i64 0,.int .i64 0]) 10 80 Tryz.underlying128 HIS.out.1 HIS.out.2.1 HIS.out.2.2.1 HIS.out.2.2.2 rfl (by decide) (.slice sg B.n sc) B.n (flatK 10 B.n fun i => (B.e i).cell) ?_ HOa.out ⟨w5.heap.size,0,none⟩ 1 1 [.int .i64 x.id,.int .i64 x.a,.int .i64 x.b,.int .i64 x.sc,.int .i64 x.bc,.int .i64 x.sell,.int .i64 x.buy,.int .i64 1,.int .i64 0,.int .i64 0] ?_ rfl ?_ ?_ (by decide) ?_ ?_ (Nat.zero_le _) (w5.heap.size + 1) ?_ ?_
             · simp [Act.eval]
             · simp [Act.eval]
             · intro jj u hu; rw [WideShapes.add_plain]; exact HNW.out.range jj u hu
             · intro u hu; simp at hu; rcases hu with rfl | rfl | rfl | rfl | rfl | rfl | rfl | rfl | rfl <;> rfl
             · unfold maxLen; omega
             · omega
             · simp
             intro g' cap' w7 hown' hgrow hgg hlt'
             have hrow:∀ k,(Value.slice sg B.n sc).ownBlock = some k→Ty (w5.alloc (.cells #[.int .i64 x.id,.int .i64 x.a,.int .i64 x.b,.int .i64 x.sc,.int .i64 x.bc,.int .i64 x.sell,.int .i64 x.buy,.int .i64 1,.int .i64 0,.int .i64 0] 127 (0,0))).drew k 127:=fun k hk => own_ty HOa.out hk
             have hb7:=HBa.out.grown hgrow (fun e => Ty.ne ⟨_,HBa.out⟩ (hrow _ e.symm) (by decide) rfl)
             have hm7:=(HMAP.out.below (((Below.refl _ _).alloc (Nat.le_refl _) _).drew)).same (hgrow.block _ (by have:=HMAP.out.lt; simp; omega) (fun e => absurd rfl ((HMAP.out.below (((Below.refl _ _).alloc (Nat.le_refl _) (.cells #[.int .i64 x.id,.int .i64 x.a,.int .i64 x.b,.int .i64 x.sc,.int .i64 x.bc,.int .i64 x.sell,.int .i64 x.buy,.int .i64 1,.int .i64 0,.int .i64 0] 127 (0,0))).drew)).ne (hrow _ e.symm))))
             have y2:w7.cell? ⟨h.b,2,none⟩ = some h.lv:=hb7.cell 2
             have yf:=hb7.frozen 2
             replace hrow:=Lib.hid hrow
             replace hb7:=Lib.hid hb7
             replace hm7:=Lib.hid hm7
             replace hown':=Lib.hid hown'
             replace hgrow:=Lib.hid hgrow
             replace hgg:=Lib.hid (And.intro hgg hlt')
             clear hlt'))
        all_goals
          have hown2:(w7.setCell ⟨h.b,2,none⟩ (.slice (some ⟨g',0,none⟩) (B.n + 1) cap')).ownsRow 0 127 10 (.slice (some ⟨g',0,none⟩) (B.n + 1) cap') (B.more x).n (flatK 10 (B.more x).n fun i => ((B.more x).e i).cell):=by
            have h1:=own_far hown'.out (b:=h.b) (fun k hk => Ty.ne (own_ty hown'.out hk) ⟨_,hb7.out⟩ (by decide)) 2 (.slice (some ⟨g',0,none⟩) (B.n + 1) cap')
            show World.ownsRow _ _ _ _ _ (B.n + 1) (flatK 10 (B.n + 1) fun i => (if i = B.n then x else B.e i).cell)
            rw [flatK_snoc (by omega),flatK_congr (g:=fun i => (B.e i).cell) (fun i j hi _ => by show Ent.cell (if i = B.n then x else B.e i) j = _; rw [if_neg (by omega)])]
            have e1:(List.range 10).map (Ent.cell (if B.n = B.n then x else B.e B.n)) = [.int .i64 x.id,.int .i64 x.a,.int .i64 x.b,.int .i64 x.sc,.int .i64 x.bc,.int .i64 x.sell,.int .i64 x.buy,.int .i64 1,.int .i64 0,.int .i64 0]:=by
              rw [if_pos rfl]
              show [Value.int .i64 x.id,.int .i64 x.a,.int .i64 x.b,.int .i64 x.sc,.int .i64 x.bc,.int .i64 x.sell,.int .i64 x.buy,.int .i64 x.st,.int .i64 x.asked,.int .i64 x.ord] = _
              rw [HSA.out.1,HSA.out.2.1,HSA.out.2.2]
            rw [e1]
            exact h1
          have hmap2:IMap (w7.setCell ⟨h.b,2,none⟩ (.slice (some ⟨g',0,none⟩) (B.n + 1) cap')) h.mb (B.n + 1) (.int .i64 0) (B.more x).F:=by
            have e1:(B.more x).F = fun i => if i = x.id then some (.int .i64 B.n) else B.F i:=by
              funext k
              unfold Bo.F Bo.more
              dsimp only
              split <;> rfl
            rw [e1]
            exact hm7.out.same (Below.heap_setCell _ _ _ _ hnb2.symm)
          have hfin:BoAt (w7.setCell ⟨h.b,2,none⟩ (.slice (some ⟨g',0,none⟩) (B.n + 1) cap')) { h with lv:=.slice (some ⟨g',0,none⟩) (B.n + 1) cap' } (B.more x) :=
            ⟨hb7.out.set 2 _,hown2,hmap2,more_ok HA3.out.ok HNN.out HXO.out HIX.out⟩
          have hbst:BSt w h (w7.setCell ⟨h.b,2,none⟩ (.slice (some ⟨g',0,none⟩) (B.n + 1) cap')) { h with lv:=.slice (some ⟨g',0,none⟩) (B.n + 1) cap' }:=by
            have k1:=HST5.out.1
            have g1:=hgrow.out
            refine ⟨rfl,Kept.setCell ⟨g1.os.trans k1.os,g1.tape.trans k1.tape,g1.output.trans k1.output,Nat.le_trans k1.size (Nat.le_trans (Nat.le_succ _) (by have:=g1.size; simpa using this)),fun k hk hnk => ?_⟩ (.inl (.inl rfl)) _ _,fun k hk => ?_⟩
            · have hk5:k < w5.heap.size:=Nat.lt_of_lt_of_le hk k1.size
              have hr1:=g1.block k (by simp; omega) (fun e => hnk (.inr (.inr (by rw [HLV.out]; exact e.symm))))
              have hr2:=(((Below.refl w5.heap.size w5).alloc (Nat.le_refl _) (.cells #[.int .i64 x.id,.int .i64 x.a,.int .i64 x.b,.int .i64 x.sc,.int .i64 x.bc,.int .i64 x.sell,.int .i64 x.buy,.int .i64 1,.int .i64 0,.int .i64 0] 127 (0,0))).drew).block k hk5
              exact (hr1.trans hr2).trans (k1.block k hk hnk)
            · rcases hk with e | e | e
              · exact .inl (.inl e)
              · exact .inl (.inr (.inl e))
              · have e':g' = k:=by injection e
                subst e'
                rcases hgg.out.1 with e2 | e2
                · exact .inl (.inr (.inr (by rw [HLV.out]; exact e2)))
                · right; have:=k1.size; omega
          have HFIN:=Lib.hid hfin
          have HBST:=Lib.hid hbst
          clear hfin hbst hown2 hmap2 hown' hgrow hm7 hb7 hrow y2 yf hgg
          go_wp2
          go_ret2
          exact ⟨false,0,_,_,rfl,by omega,HFIN.out,HBST.out,more_step B x⟩
    | some i =>
      obtain ⟨i1,i2⟩:=HA2.out.ok.ix2 _ _ hx
      obtain ⟨g,cap,he,hr,hty,hob⟩:=HA2.out.slice i1
      rw [hx,hob] at hf
      change Calls _ _ _ _ fun e w' => e = .returned (.pointer (some ⟨g,i * 10,none⟩))∧w' = w2 at hf
      have HF:=Lib.hid hf
      have k0:w2.cell? ⟨g,i * 10,none⟩ = some (.int .i64 (B.e i).id):=by have:=hr.cell i1 (show 0 < 10 by omega); rw [Nat.add_zero] at this; exact this
      have k1:w2.cell? ⟨g,i * 10 + 1,none⟩ = some (.int .i64 (B.e i).a):=hr.cell i1 (show 1 < 10 by omega)
      have k2:w2.cell? ⟨g,i * 10 + 2,none⟩ = some (.int .i64 (B.e i).b):=hr.cell i1 (show 2 < 10 by omega)
      have k3:w2.cell? ⟨g,i * 10 + 3,none⟩ = some (.int .i64 (B.e i).sc):=hr.cell i1 (show 3 < 10 by omega)
      have k4:w2.cell? ⟨g,i * 10 + 4,none⟩ = some (.int .i64 (B.e i).bc):=hr.cell i1 (show 4 < 10 by omega)
      have k5:w2.cell? ⟨g,i * 10 + 5,none⟩ = some (.int .i64 (B.e i).sell):=hr.cell i1 (show 5 < 10 by omega)
      have k6:w2.cell? ⟨g,i * 10 + 6,none⟩ = some (.int .i64 (B.e i).buy):=hr.cell i1 (show 6 < 10 by omega)
      have k7:w2.cell? ⟨g,i * 10 + 7,none⟩ = some (.int .i64 (B.e i).st):=hr.cell i1 (show 7 < 10 by omega)
      have HHB:Below w.heap.size w w2:=by rw [HE.out]; exact HB2.out
      have HHB:=Lib.hid HHB
      have HI:=Lib.hid (And.intro i1 (And.intro hob hty))
      clear hf hx he hr hty hob i1 i2 b2 b3 z2 HXO
      by_cases h1:(B.e i).st = 1
      · have hb1:((B.e i).st != 1) = false:=by simp [h1]
        by_cases h2:(B.e i).a = x.a
        · have hb2:((B.e i).a == x.a) = true:=by simp [h2]
          clear h1 h2
          go_upto_region 10 with (go_at_call 40; refine HF.out.mono ?_; rintro e w3 ⟨rfl,rfl⟩)
          go_quiet (fail)
          go_wp2
          go_ret2
          exact SubPost.same (HA2.out.below (Bk.bdrew (Below.refl _ _) nq)) (Bk.bdrew HHB.out nq) (by omega)
        · have hb2:((B.e i).a == x.a) = false:=by simp [h2]
          have H1:=Lib.hid h1
          clear h1 h2
          go_upto_region 10 with (go_at_call 40; refine HF.out.mono ?_; rintro e w3 ⟨rfl,rfl⟩)
          go_quiet (fail)
          have hbd:Below w3.heap.size w3 (w3.drewN nq):=Bk.bdrew (Below.refl _ _) nq
          have HA4:=Lib.hid (HA2.out.below hbd)
          have HB4:=Lib.hid (Bk.bdrew HHB.out nq)
          replace k0:(w3.drewN nq).cell? ⟨g,i * 10,none⟩ = _:=k0
          replace k1:(w3.drewN nq).cell? ⟨g,i * 10 + 1,none⟩ = _:=k1
          replace k2:(w3.drewN nq).cell? ⟨g,i * 10 + 2,none⟩ = _:=k2
          replace k3:(w3.drewN nq).cell? ⟨g,i * 10 + 3,none⟩ = _:=k3
          replace k4:(w3.drewN nq).cell? ⟨g,i * 10 + 4,none⟩ = _:=k4
          replace k5:(w3.drewN nq).cell? ⟨g,i * 10 + 5,none⟩ = _:=k5
          replace k6:(w3.drewN nq).cell? ⟨g,i * 10 + 6,none⟩ = _:=k6
          replace d0:(w3.drewN nq).cell? ⟨H,0,none⟩ = _:=d0
          replace d1:(w3.drewN nq).cell? ⟨H,1,none⟩ = _:=d1
          replace d2:(w3.drewN nq).cell? ⟨H,2,none⟩ = _:=d2
          replace d3:(w3.drewN nq).cell? ⟨H,3,none⟩ = _:=d3
          replace d4:(w3.drewN nq).cell? ⟨H,4,none⟩ = _:=d4
          replace d5:(w3.drewN nq).cell? ⟨H,5,none⟩ = _:=d5
          replace d6:(w3.drewN nq).cell? ⟨H,6,none⟩ = _:=d6
          have hty4:Ty (w3.drewN nq) g 127:=HI.out.2.2.below hbd
          have HT4:=Lib.hid hty4
          clear hbd hty4 k7 hb1 hb2
          generalize w3.drewN nq = w4 at *
          go_upto_region 12 with (fail)
          have HMI:=Lib.hid (fun w => Bk.mirror x w)
          unfold Ent.deal at HMI
          go_region_with (first | (go_at_call 173; ((with_reducible refine (HMI.out _).mono ?_); rintro e w8 ⟨⟨y,rfl⟩,hb8⟩; obtain ⟨bq,hbq⟩:=Bk.neqD (B.e i) y; unfold Ent.deal at hbq; have q0:=Bk.kept hb8 (show w4.drew.cell? _ = _ from k0); have q1:=Bk.kept hb8 (show w4.drew.cell? _ = _ from k1); have q2:=Bk.kept hb8 (show w4.drew.cell? _ = _ from k2); have q3:=Bk.kept hb8 (show w4.drew.cell? _ = _ from k3); have q4:=Bk.kept hb8 (show w4.drew.cell? _ = _ from k4); have q5:=Bk.kept hb8 (show w4.drew.cell? _ = _ from k5); have q6:=Bk.kept hb8 (show w4.drew.cell? _ = _ from k6); replace hb8:=Lib.hid hb8)))
          all_goals
            have hb48:=(Below.refl w4.heap.size w4).drew.trans hb8.out
            have hA8:=HA4.out.below hb48
            have HB8:=Lib.hid (HB4.out.trans (hb48.mono HB4.out.size))
            obtain ⟨g',cap',he',hr',hty',hob'⟩:=hA8.slice (i:=i) HI.out.1
            have hgg:g' = g:=by have:=HI.out.2.1; rw [hob'] at this; injection this
            subst hgg
            have r7:=hr'.cell HI.out.1 (show 7 < 10 by omega)
            have r9:=hr'.cell HI.out.1 (show 9 < 10 by omega)
            have f7:=hr'.frozen (i * 10 + 7)
            have f9:=hr'.frozen (i * 10 + 9)
            have m4:=(hA8.blk.cell 4).trans rfl
            have e4:=hA8.blk.frozen 4
            have HA8:=Lib.hid hA8
            have HTY:=Lib.hid hty'
            clear hA8 hr' hob' he' hty' hb48 q0 q1 q2 q3 q4 q5 q6 k0 k1 k2 k3 k4 k5 k6 d0 d1 d2 d3 d4 d5 d6
            cases bq with
            | true =>
              go_wp2
              go_ret2
              exact SubPost.same HA8.out HB8.out (by omega)
            | false =>
              go_upto_region 15 with (fail)
              generalize wrap64 (B.mat + 1) = M at *
              have hM:=HA8.out.setmat M
              have hne:h.b ≠ g':=Ty.ne ⟨_,HA8.out.blk⟩ HTY.out (by decide)
              have hM1:BoAt (w8.setCell ⟨h.b,4,none⟩ (.int .i64 M)) h { B with mat:=M }:=hM.1
              have hM2:BSt w8 h (w8.setCell ⟨h.b,4,none⟩ (.int .i64 M)) h:=hM.2
              have s7:(w8.setCell ⟨h.b,4,none⟩ (.int .i64 M)).cell? ⟨g',i * 10 + 7,none⟩ = some ((B.e i).cell 7):=(World.cell?_setCell_other _ _ _ _ (fun e => hne (by injection e))).trans r7
              have s9:(w8.setCell ⟨h.b,4,none⟩ (.int .i64 M)).cell? ⟨g',i * 10 + 9,none⟩ = some ((B.e i).cell 9):=(World.cell?_setCell_other _ _ _ _ (fun e => hne (by injection e))).trans r9
              have s4:(w8.setCell ⟨h.b,4,none⟩ (.int .i64 M)).cell? ⟨h.b,4,none⟩ = some (.int .i64 M):=World.cell?_setCell_same _ _ _ m4
              have u7:(w8.setCell ⟨h.b,4,none⟩ (.int .i64 M)).frozen? ⟨g',i * 10 + 7,none⟩ = false:=by
                obtain ⟨ga,ca,ea,ra,ta,oa⟩:=hM1.slice (i:=i) HI.out.1
                have:ga = g':=by have:=HI.out.2.1; rw [oa] at this; injection this
                subst this
                exact ra.frozen _
              have u9:(w8.setCell ⟨h.b,4,none⟩ (.int .i64 M)).frozen? ⟨g',i * 10 + 9,none⟩ = false:=by
                obtain ⟨ga,ca,ea,ra,ta,oa⟩:=hM1.slice (i:=i) HI.out.1
                have:ga = g':=by have:=HI.out.2.1; rw [oa] at this; injection this
                subst this
                exact ra.frozen _
              have HM:=Lib.hid (And.intro hM1 hM2)
              clear hM hM1 hM2 r7 r9 f7 f9 m4 e4 hne
              generalize w8.setCell ⟨h.b,4,none⟩ (.int .i64 M) = w9 at *
              have hok:=HM.out.1.ok.ent i HI.out.1
              have hP:=HM.out.1.put (i:=i) HI.out.1 (show 7 < 10 by omega) HI.out.2.1 (x:={ B.e i with st:=2 }) (fun k hk hne => num_st _ _ hk hne) (hok.st' (by simp)) rfl
              have HP:=Lib.hid hP
              have HP2:=Lib.hid (hP.1.put (i:=i) HI.out.1 (show 9 < 10 by omega) HI.out.2.1 (x:={ B.e i with st:=2,ord:=M }) (fun k hk hne => by
                show _ = Ent.num (if i = i then _ else _) k
                rw [if_pos rfl]
                exact num_ord { B.e i with st:=2 } M hk hne) ((hok.st' (v:=2) (by simp)).ord' M) (by show _ = Ent.id (if i = i then _ else _); rw [if_pos rfl]))
              have HL:=Lib.hid (BoStep.trans (upd_step (B:={ B with mat:=M }) (i:=i) (x:={ B.e i with st:=2 }) ⟨rfl,rfl,rfl,fun e => by have e':(B.e i).st = 3:=e; have:=H1.out; omega,by show (B.e i).st≤2; have:=H1.out; omega⟩ (fun _ => False)) (upd_step (B:=Bo.upd { B with mat:=M } i { B.e i with st:=2 }) (i:=i) (x:={ B.e i with st:=2,ord:=M }) (by
                show Ent.Like (if i = i then _ else _) _
                rw [if_pos rfl]
                exact ⟨rfl,rfl,rfl,fun e => e,Int.le_refl _⟩) (fun _ => False)))
              clear hP hok
              go_wp2
              go_ret2
              exact ⟨true,0,_,h,rfl,by omega,HP2.out.1,(BSt.of_below HB8.out h).trans (HM.out.2.trans (HP.out.2.trans HP2.out.2)),BoStep.weak (B:=B) ⟨HL.out.n,HL.out.mem,HL.out.cur,HL.out.old,HL.out.new⟩ _⟩
      · have hb1:((B.e i).st != 1) = true:=by simp [h1]
        clear h1
        go_upto_region 10 with (go_at_call 40; refine HF.out.mono ?_; rintro e w3 ⟨rfl,rfl⟩)
        go_quiet (fail)
        go_wp2
        go_ret2
        exact SubPost.same (HA2.out.below (Bk.bdrew (Below.refl _ _) nq)) (Bk.bdrew HHB.out nq) (by omega)
end Go.Proofs.YtgcnnbjbdfgglaaGreat
