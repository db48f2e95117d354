/- LAW TopBoth: of every configuration of a bank and every list of byte strings the given function TopBoth returns true and leaves its arguments as they were; no condition. A part of what it needs. -/
import Derived.Test.YtgcnnbjbdfgglaaGreatZab
import Derived.Laws.AppendOwn
import Derived.Laws.OwnMore
import Derived.OwnWalk
import Derived.Deep.RegionWith
import Derived.Deep.RegionHeld3
import Derived.Deep.QuietTactic
import Derived.StillTailTactics
namespace Go.Proofs.YtgcnnbjbdfgglaaGreat
open Go.RowKit
def SlP (w:World) (v:Value) (l:List Pst):Prop:=∃ a c,v = .slice a l.length c∧(0 < l.length→∃ b o,a = some ⟨b,o,none⟩∧∀ (i:Nat) (p:Pst),l[i]? = some p→w.cell? ⟨b,o + i * 3,none⟩ = some (.int .i64 p.m)∧w.cell? ⟨b,o + i * 3 + 1,none⟩ = some (.int .i64 p.c)∧w.cell? ⟨b,o + i * 3 + 2,none⟩ = some (.int .i64 p.a))
theorem SlP.below {w w':World} {v:Value} {l:List Pst} (h:SlP w v l) (hb:Below w.heap.size w w'):SlP w' v l:=by
  obtain ⟨a,c,rfl,hc⟩:=h
  refine ⟨a,c,rfl,fun hn => ?_⟩
  obtain ⟨b,o,rfl,h2⟩:=hc hn
  refine ⟨b,o,rfl,fun i p hp => ?_⟩
  obtain ⟨h3,h4,h5⟩:=h2 i p hp
  exact ⟨(hb.cell (block_lt_of_cell h3)).trans h3,(hb.cell (block_lt_of_cell h4)).trans h4,(hb.cell (block_lt_of_cell h5)).trans h5⟩
def ints (l:List Int):List Value:=l.map fun x => .int .i64 x
theorem ints_len (l:List Int):(ints l).length = l.length:=by simp [ints]
theorem Bk.info64:(Tryz.prog.info? 2).map (fun i => (i.zero,i.size,i.bytes)) = some (some (.int .i64 0),1,8):=by kernel_rfl
theorem Bk.infoInt:(Tryz.prog.info? 3).map (fun i => (i.zero,i.size,i.bytes)) = some (some (.int .i64 0),1,8):=by kernel_rfl
theorem own_ge {B e size n:Nat} {v:Value} {xs:List Value} {w:World} (h:w.ownsRow B e size v n xs) {k:Nat} (hk:v.ownBlock = some k):B≤k:=by
  rcases h.2 with ⟨rfl,_⟩ | ⟨g,cap,cur,rfl,hg,_⟩
  · simp [Value.ownBlock] at hk
  · simp [Value.ownBlock] at hk; omega
theorem own_below {B n e size:Nat} {v:Value} {xs:List Value} {w w':World} (h:w.ownsRow B e size v n xs) (hb:Below w.heap.size w w'):w'.ownsRow B e size v n xs:=by
  refine ⟨h.1,?_⟩
  rcases h.2 with hn | ⟨k,cap,cur,rfl,hB,hk,rest⟩
  · exact .inl hn
  · exact .inr ⟨k,cap,cur,rfl,hB,by rw [hb.block k (Array.getElem?_eq_some_iff.1 hk).1]; exact hk,rest⟩
theorem own_slC {B n e:Nat} {v:Value} {xs:List Value} {w:World} (h:w.ownsRow B e 1 v n xs):SlC w v n (fun i => xs.getD i undef):=by
  have hl:xs.length = n:=by have:=h.1; omega
  rcases h.2 with ⟨rfl,rfl⟩ | ⟨g,cap,cur,rfl,_⟩
  · exact ⟨none,0,rfl,fun h => absurd h (by omega)⟩
  · refine ⟨_,_,rfl,fun _ => ⟨g,0,rfl,fun i hi => ?_⟩⟩
    rw [Nat.zero_add,h.cellAt i (by omega)]
    simp [List.getD,List.getElem?_eq_getElem (show i < xs.length by omega)]
theorem own_slI {B e:Nat} {v:Value} {zs:List Int} {w:World} (h:w.ownsRow B e 1 v zs.length (ints zs)):SlI w v zs.length (fun i => zs.getD i 0):=by
  obtain ⟨a,c,rfl,hc⟩:=own_slC h
  refine ⟨a,c,rfl,fun hn => ?_⟩
  obtain ⟨b,o,rfl,h2⟩:=hc hn
  refine ⟨b,o,rfl,fun i hi => ?_⟩
  rw [h2 i hi]
  simp [ints,List.getD,List.getElem?_eq_getElem hi]
theorem getD_all {zs:List Int} {P:Int→Prop} (h:∀ z ∈ zs,P z) {i:Nat} (hi:i < zs.length):P (zs.getD i 0):=by
  simp [List.getD,List.getElem?_eq_getElem hi]
  exact h _ (List.getElem_mem hi)
theorem one_new (w:World) (o:Obj) (p:Obj):((w.alloc o).alloc p).heap[w.heap.size + 1]? = some p:=by
  have:=heap_alloc_new (w.alloc o) p
  rwa [World.size_alloc] at this
def SomeBool (w:World) (e:Ending) (w':World):Prop:=∃ b:Bool,e = .returned (.bool b)∧Below w.heap.size w w'
set_option maxRecDepth 100000 in
set_option maxHeartbeats 2000000 in
theorem Bk.even {w:World} {l:Nat} {C:Nat} (hC:w.cell? ⟨l,9,none⟩ = some (.int .i64 C)) (hC8:(C:Int)≤8) (v:Value) (ps:List Pst) (hp:SlP w v ps) (hn:(ps.length:Int)≤4000) (ha:∀ p ∈ ps,In64 p.a) :
    Calls Tryz.prog 215 #[.pointer (some ⟨l,0,none⟩),v] w (SomeBool w):=by
  obtain ⟨i0,hi,hz0,hz1,hz2⟩:=info_parts Bk.info64
  obtain ⟨a,c,rfl,hc⟩:=hp
  have HC:=Lib.hid hc
  have HA:=Lib.hid ha
  clear hc ha
  have hll:=block_lt_of_cell hC
  have HLL:=Lib.hid hll
  clear hll
  go_enter Tryz.func215,Tryz.ntmps215
  go_wp2
  go_loopw [15] (fun i wr => ∃ k:Nat,k≤C∧i = .int .i64 k∧Below w.heap.size w wr) (fun i _ => C - (intOf i).toNat)
  case atStart => exact ⟨0,by omega,rfl,Below.refl _ _⟩
  case round =>
    obtain ⟨k,hk,rfl,hb⟩:=hrel
    have HB:=Lib.hid hb
    clear hb
    by_cases hlt:k < C
    · have q1:(k:Int) < (C:Int):=by omega
      go_wp2
      go_loopw [6,20] (fun of i wx => ∃ (j:Nat) (zs:List Int),j≤ps.length∧i = .int .i64 j∧wx.ownsRow w.heap.size 2 1 of zs.length (ints zs)∧zs.length≤j∧(∀ z ∈ zs,In64 z)∧Below w.heap.size w wx) (fun _ i _ => ps.length - (intOf i).toNat)
      case atStart => exact ⟨0,[],by omega,rfl,World.ownsRow_nil _ _ _ _,by simp,by simp,HB.out⟩
      case round =>
        obtain ⟨j,zs,hj,rfl,hown,hzl,hz,hb⟩:=hrel
        by_cases hlt2:j < ps.length
        · have q2:(j:Int) < (ps.length:Int):=by omega
          obtain ⟨b,o,rfl,hc⟩:=HC.out (by omega)
          obtain ⟨h3,h4,h5⟩:=hc j ps[j] (by simp [hlt2])
          have h64:=HA.out ps[j] (List.getElem_mem hlt2)
          generalize ps[j] = p at *
          have g3:=(hb.cell (block_lt_of_cell h3)).trans h3
          have g4:=(hb.cell (block_lt_of_cell h4)).trans h4
          have g5:=(hb.cell (block_lt_of_cell h5)).trans h5
          clear hc h3 h4 h5
          have hBs:=hb.size
          by_cases hpk:p.c = (k:Int)
          · have hpk2:(p.c == (k:Int)) = true:=by simp [hpk]
            have hown2:=hown.alloc (.cells #[.int .i64 p.m,.int .i64 p.c,.int .i64 p.a] 69)
            have hb2:=hb.alloc hb.size (.cells #[.int .i64 p.m,.int .i64 p.c,.int .i64 p.a] 69)
            clear hpk
            go_wp2_with (at_builtin; with_reducible refine wpList_append_own _ rfl (.tmp 28) (.tmp 31) 70 rfl w.heap.size 2 i0 (.int .i64 0) 1 8 Tryz.underlying70 hi hz0 hz1 hz2 rfl (by decide) _ _ _ rfl (hown2.alloc _) ⟨wr.heap.size + 1,0,none⟩ 1 1 [.int .i64 p.a] rfl rfl ?c1 ?c2 ?c3 ?c4 ?c5 ?_)
            case c1 => intro x u hx; cases x with | zero => cases hx; rw [WideShapes.add_plain]; exact (cell_of_row _ _ 0 _ _ _ (one_new wr (.cells #[.int .i64 p.m,.int .i64 p.c,.int .i64 p.a] 69) _)).trans rfl | succ x => simp at hx
            case c2 => intro u hu; simp at hu; subst hu; rfl
            case c3 => unfold maxLen; omega
            case c4 => omega
            case c5 => simp; omega
            intro v' w1 hown' hgrow _
            have hb3:=(hb2.alloc (by simp; omega) (.cells #[.int .i64 p.a] 2)).grown hgrow (by simp; omega) (fun k hk => own_ge hown hk)
            have hrow:w1.ownsRow w.heap.size 2 1 v' (zs ++ [p.a]).length (ints (zs ++ [p.a])):=by simpa [ints] using hown'
            clear hgrow hown' hown hown2 hb hb2
            go_wp2
            go_roundw
            case rel => exact ⟨j + 1,zs ++ [p.a],by omega,by go_num,hrow,by simp; omega,fun z hz' => by rcases List.mem_append.1 hz' with h | h; exact hz z h; simp at h; subst h; exact h64,hb3⟩
            case measure => simp [intOf]; omega
          · have hpk2:(p.c == (k:Int)) = false:=by simp [hpk]
            have hown2:=hown.alloc (.cells #[.int .i64 p.m,.int .i64 p.c,.int .i64 p.a] 69)
            have hb2:=hb.alloc hb.size (.cells #[.int .i64 p.m,.int .i64 p.c,.int .i64 p.a] 69)
            clear hpk hown hb
            go_wp2
            go_roundw
            case rel => exact ⟨j + 1,zs,by omega,by go_num,hown2,by omega,hz,hb2⟩
            case measure => simp [intOf]; omega
        · obtain rfl:j = ps.length:=by omega
          have hsum:=Lib.hid (Bk.sum _ _ _ _ (own_slI hown) (by omega) (fun i hi => getD_all hz hi))
          generalize tn (sumTo (fun i => zs.getD i 0) zs.length) = sn at *
          generalize te (sumTo (fun i => zs.getD i 0) zs.length) = se at *
          go_wp2_with fail
          refine hsum.out.mono ?_
          rintro e w1 ⟨rfl,rfl⟩
          by_cases hs0:sn = 0∧se = 0
          · obtain ⟨rfl,rfl⟩:=hs0
            go_wp2
            go_roundw
            case rel => exact ⟨k + 1,by omega,by go_num,hb⟩
            case measure => simp [intOf]; omega
          · have hs1:((sn != 0) || (se != 0)) = true:=by
              by_cases h1:sn = 0
              · have h2:se ≠ 0:=fun h2 => hs0 ⟨h1,h2⟩
                simp [h2]
              · simp [h1]
            cases h1:(sn != 0) with
            | true =>
              clear hs0 hs1
              go_wp2
              go_ret
              exact ⟨false,rfl,hb⟩
            | false =>
              have h2:(se != 0) = true:=by rw [h1] at hs1; simpa using hs1
              clear hs0 hs1
              go_wp2
              go_ret
              exact ⟨false,rfl,hb⟩
    · obtain rfl:k = C:=by omega
      go_wp2
      go_ret
      exact ⟨true,rfl,HB.out⟩
def flat (n:Nat) (f:Nat→Nat→Int):List Value:=(List.range (n * 8)).map fun i => .int .i64 (f (i / 8) (i % 8))
theorem flat_len (n:Nat) (f:Nat→Nat→Int):(flat n f).length = n * 8:=by simp [flat]
theorem flat_at {n:Nat} (f:Nat→Nat→Int) {m k:Nat} (hm:m < n) (hk:k < 8):(flat n f)[m * 8 + k]? = some (.int .i64 (f m k)):=by
  have h1:m * 8 + k < n * 8:=by omega
  have h2:(m * 8 + k) / 8 = m:=by omega
  have h3:(m * 8 + k) % 8 = k:=by omega
  unfold flat
  rw [List.getElem?_map,List.getElem?_range h1]
  simp only [Option.map_some,h2,h3]
theorem flat_one (n:Nat) (f:Nat→Nat→Int):∀ u ∈ flat n f,u.oneCell' = true:=by
  intro u hu
  simp only [flat,List.mem_map] at hu
  obtain ⟨_,_,rfl⟩:=hu
  rfl
theorem RowsAt.flat {w:World} {r n:Nat} {f:Nat→Nat→Int} (h:RowsAt w r n f):∀ j u,(flat n f)[j]? = some u→w.cell? ((⟨r,0,none⟩:Addr).add j) = some u:=by
  intro j u hu
  obtain ⟨cs,T,h1,h2⟩:=h
  have hj:=(List.getElem?_eq_some_iff.1 hu).1
  rw [flat_len] at hj
  have e:j = (j / 8) * 8 + j % 8:=by omega
  have h3:=flat_at (n:=n) f (m:=j / 8) (k:=j % 8) (by omega) (by omega)
  rw [← e,hu] at h3
  cases h3
  have h4:=h2 (j / 8) (j % 8) (by omega) (by omega)
  rw [← e] at h4
  rw [WideShapes.add_plain,cell_of_row _ _ _ _ _ _ h1,Nat.zero_add]
  exact h4
theorem RowsAt.of_own {B n cap g e:Nat} {w:World} {f:Nat→Nat→Int} (h:w.ownsRow B e 8 (.slice (some ⟨g,0,none⟩) n cap) n (Go.Proofs.YtgcnnbjbdfgglaaGreat.flat n f)) (_hn:0 < n):RowsAt w g n f∧B≤g∧n≤cap:=by
  have hc:=h.cellAt
  rcases h.2 with ⟨he,_⟩ | ⟨k,cap',cur,he,hB,hk,hcap,_⟩
  · simp at he
  · simp only [Value.slice.injEq,Option.some.injEq,Addr.mk.injEq] at he
    obtain ⟨⟨rfl,_⟩,_,rfl⟩:=he
    refine ⟨⟨cur,_,hk,fun m k hm hk8 => ?_⟩,hB,hcap⟩
    have h1:=hc (m * 8 + k) (by omega)
    rw [cell_of_row _ _ _ _ _ _ hk,flat_at f hm hk8] at h1
    exact h1
theorem RowsAt.below {w w1:World} {r n:Nat} {f:Nat→Nat→Int} (h:RowsAt w r n f) (hb:Below w.heap.size w w1):RowsAt w1 r n f:=by
  obtain ⟨cs,T,h1,h2⟩:=h
  exact ⟨cs,T,by rw [hb.block r (Array.getElem?_eq_some_iff.1 h1).1]; exact h1,h2⟩
theorem RowsAt.cell {w:World} {r n:Nat} {f:Nat→Nat→Int} (h:RowsAt w r n f) {m k:Nat} (hm:m < n) (hk:k < 8):w.cell? ⟨r,m * 8 + k,none⟩ = some (.int .i64 (f m k))∧w.frozen? ⟨r,m * 8 + k,none⟩ = false:=by
  obtain ⟨cs,T,h1,h2⟩:=h
  exact ⟨by rw [cell_of_row _ _ _ _ _ _ h1]; exact h2 m k hm hk,frozen_of_row _ _ _ _ _ h1⟩
theorem rowsOf_step {f:Nat→Nat→Int} {p:Pst} {l:List Pst} {m k:Nat} (hm:p.m = m) (hk:p.c = k) (h:In64 (f m k + p.a)):rowsOf f (p :: l) = rowsOf (fun i j => if i = m∧j = k then f m k + p.a else f i j) l:=by
  simp only [rowsOf]
  rw [hm,hk]
  simp only [Int.toNat_natCast]
  rw [if_pos h]
  congr 1
  funext i j
  by_cases hi:i = m
  · subst hi
    simp only [setRow,if_true]
    by_cases hj:j = k
    · subst hj; simp
    · rw [if_neg (by omega)]; simp [hj]
  · rw [if_neg (by omega)]; simp [hi]
theorem Bk.bdrew {B:Nat} {a b:World} (h:Below B a b) (n:Nat):Below B a (b.drewN n):=⟨h.os,h.tape,h.output,h.size,h.block⟩
theorem LedAt.far {w:World} {l r cap:Nat} {L:Led} (h:LedAt w l r cap L) {g:Nat} (h1:g ≠ l) (h2:g ≠ r) (o:Nat) (v:Value):LedAt (w.setCell ⟨g,o,none⟩ v) l r cap L :=
  h.same (Below.heap_setCell _ _ _ _ h1.symm) (Below.heap_setCell _ _ _ _ h2.symm)
theorem LedAt.turn {w:World} {l r cap:Nat} {L:Led} (h:LedAt w l r cap L) {g cap2:Nat} {f:Nat→Nat→Int} (hr:RowsAt w g L.n f) (hy:Ty w g 144) (hg:g ≠ l) (hc:L.n≤cap2):LedAt (w.setCell ⟨l,0,none⟩ (.slice (some ⟨g,0,none⟩) L.n cap2)) l g cap2 { L with bal:=f }:=by
  obtain ⟨cs,T,h1,h2⟩:=hr
  refine ⟨?_,⟨cs,T,?_,h2⟩,hg.symm,hc,hy.set _ _ _⟩
  · rw [heap_setCell_same w l 0 _ _ (.slice (some ⟨g,0,none⟩) L.n cap2) h.hl]; rfl
  · rw [Below.heap_setCell _ _ _ _ hg]; exact h1
def PostPost (L:Led) (ps:List Pst) (l:Nat) (w:World) (e:Ending) (w':World):Prop:=∃ c:Int,e = .returned (.int .i64 c)∧(c ≠ 0→Below w.heap.size w w') ∧
  (c = 0→∃ r cap bal,(∀ p ∈ ps,L.has p.m p.c = true)∧rowsOf L.bal ps = some bal∧LedAt w' l r cap { L with bal:=bal }∧(∀ m k,m < L.n→k < 8→In64 (bal m k))∧Kept (fun k => k = l) w w'∧w.heap.size≤r)∧(0≤c∧c≤12)
theorem PostPost.no {L:Led} {ps:List Pst} {l:Nat} {w w':World} {c:Int} (hc:c ≠ 0) (hr:0≤c∧c≤12) (hb:Below w.heap.size w w'):PostPost L ps l w (.returned (.int .i64 c)) w':=⟨c,rfl,fun _ => hb,fun h => absurd h hc,hr⟩
theorem Bk.infoRow:(Tryz.prog.info? 144).map (fun i => (i.zero,i.size,i.bytes)) = some (some (.agg #[.int .i64 0,.int .i64 0,.int .i64 0,.int .i64 0,.int .i64 0,.int .i64 0,.int .i64 0,.int .i64 0]),8,64):=by kernel_rfl
set_option maxRecDepth 100000 in
set_option maxHeartbeats 4000000 in
theorem Bk.post {w:World} {l r cap:Nat} {L:Led} (h:LedAt w l r cap L) (ho:L.Ok) (v:Value) (ps:List Pst) (hp:SlP w v ps) (hn:(ps.length:Int)≤4000) (ha:∀ p ∈ ps,In64 p.a) :
    Calls Tryz.prog 182 #[.pointer (some ⟨l,0,none⟩),v] w (PostPost L ps l w):=by
  obtain ⟨i0,hi,hz0,hz1,hz2⟩:=info_parts Bk.infoRow
  have HH:=Lib.hid h
  have HO:=Lib.hid ho
  have HP:=Lib.hid hp
  obtain ⟨a,c,rfl,hc⟩:=hp
  have HC:=Lib.hid hc
  have HA:=Lib.hid ha
  clear hc ha h ho
  go_enter Tryz.func182,Tryz.ntmps182
  go_wp2
  go_loopw [14] (fun i wr => ∃ k:Nat,k≤ps.length∧i = .int .i64 k∧(∀ p ∈ ps.take k,L.has p.m p.c = true)∧Below w.heap.size w wr) (fun i _ => ps.length - (intOf i).toNat)
  case atStart => exact ⟨0,by omega,rfl,by simp,Below.refl _ _⟩
  case round =>
    obtain ⟨k,hk,rfl,hall,hb⟩:=hrel
    have HB:=Lib.hid hb
    have HAL:=Lib.hid hall
    clear hb hall
    by_cases hlt:k < ps.length
    · have q1:(k:Int) < (ps.length:Int):=by omega
      obtain ⟨b,o,rfl,hc⟩:=HC.out (by omega)
      obtain ⟨h3,h4,h5⟩:=hc k ps[k] (by simp [hlt])
      have hst:=Lib.hid (show ps.take (k + 1) = ps.take k ++ [ps[k]] by simp)
      generalize ps[k] = p at *
      have g3:=(HB.out.cell (block_lt_of_cell h3)).trans h3
      have g4:=(HB.out.cell (block_lt_of_cell h4)).trans h4
      have g5:=(HB.out.cell (block_lt_of_cell h5)).trans h5
      have hb2:=HB.out.alloc HB.out.size (.cells #[.int .i64 p.m,.int .i64 p.c,.int .i64 p.a] 69)
      have hh:=Bk.has ((HH.out.below HB.out).below ((Below.refl _ _).alloc (Nat.le_refl _) (.cells #[.int .i64 p.m,.int .i64 p.c,.int .i64 p.a] 69))) p.m p.c
      have HHH:=Lib.hid hh
      have HB2:=Lib.hid hb2
      clear hc h3 h4 h5 hh hb2
      cases hq:L.has p.m p.c with
      | true =>
        rw [hq] at HHH
        have HQ:=Lib.hid hq
        clear hq
        go_wp2_with fail
        refine HHH.out.mono ?_
        rintro e w1 ⟨rfl,rfl⟩
        go_wp2
        go_roundw
        case rel => exact ⟨k + 1,by omega,by go_num,by rw [hst.out]; intro q hq'; rcases List.mem_append.1 hq' with h | h; exact HAL.out q h; simp at h; subst h; exact HQ.out,HB2.out⟩
        case measure => simp [intOf]; omega
      | false =>
        rw [hq] at HHH
        clear hq
        go_wp2_with fail
        refine HHH.out.mono ?_
        rintro e w1 ⟨rfl,rfl⟩
        go_wp2
        go_ret
        exact PostPost.no (by decide) (by decide) HB2.out
    · obtain rfl:k = ps.length:=by omega
      rw [List.take_length] at HAL
      have hl2:=HH.out.below HB.out
      have hE:=Lib.hid (Bk.even hl2.cc (by have:=HO.out.c8; omega) _ ps (HP.out.below HB.out) hn HA.out)
      have HL2:=Lib.hid hl2
      clear hl2
      go_wp2_with fail
      refine hE.out.mono ?_
      rintro e w2 ⟨ev,rfl,hb2⟩
      have HB2:=Lib.hid (HB.out.trans (hb2.mono HB.out.size))
      have HL3:=Lib.hid (HL2.out.below hb2)
      clear hb2 HL2
      cases ev with
      | false =>
        go_wp2
        go_ret
        exact PostPost.no (by decide) (by decide) HB2.out
      | true =>
        have h0:=HL3.out.c0
        have n1:=HO.out.n1
        have n16:=HO.out.n16
        go_wp2_with (at_builtin; with_reducible refine wpList_append_own _ rfl (.const (.slice none 0 0)) (.tmp 33) 142 rfl w.heap.size 144 i0 _ 8 64 Tryz.underlying142 hi hz0 hz1 hz2 rfl (by decide) _ _ _ rfl (World.ownsRow_nil _ _ _ _) ⟨r,0,none⟩ L.n cap (flat L.n L.bal) rfl ?c0 ?c1 ?c2 ?c3 ?c4 ?c5 ?_)
        case c0 => exact flat_len _ _
        case c1 => exact HL3.out.hr.flat
        case c2 => exact flat_one _ _
        case c3 => unfold maxLen; omega
        case c4 => omega
        case c5 => exact HB2.out.size
        intro v' w3 hown hgrow _
        obtain ⟨g,cap2,rfl⟩:∃ g cap2,v' = .slice (some ⟨g,0,none⟩) L.n cap2:=by
          rcases hown.2 with ⟨_,h⟩ | ⟨g,cap2,cur,h,_⟩
          · omega
          · exact ⟨g,cap2,h⟩
        obtain ⟨hrows,hg,hcap2⟩:=RowsAt.of_own hown (by omega)
        have hty:Ty w3 g 144:=by
          rcases hown.2 with ⟨_,h⟩ | ⟨g',cap3,cur,h,_,h2,_⟩
          · omega
          · simp only [Value.slice.injEq,Option.some.injEq,Addr.mk.injEq] at h
            obtain ⟨⟨rfl,_⟩,_⟩:=h
            exact ⟨cur,h2⟩
        have HTY:=Lib.hid hty
        have hb3:Below w2.heap.size w2 w3:=⟨hgrow.os,hgrow.tape,hgrow.output,hgrow.size,fun k hk => hgrow.block k hk (by simp [Value.ownBlock])⟩
        have hgs:g < w3.heap.size:=by
          obtain ⟨cs,T,h1,_⟩:=hrows
          exact (Array.getElem?_eq_some_iff.1 h1).1
        have HB3:=Lib.hid (HB2.out.trans (hb3.mono HB2.out.size))
        have HL4:=Lib.hid (HL3.out.below hb3)
        have HR:=Lib.hid hrows
        have HG:=Lib.hid (And.intro hg (And.intro hcap2 hgs))
        clear hown hgrow hrows hg hcap2 hgs hb3 h0 HL3 HB2 hty
        go_wp2
        go_loopw [37] (fun i wr => ∃ (k:Nat) (f:Nat→Nat→Int),k≤ps.length∧i = .int .i64 k∧RowsAt wr g L.n f∧rowsOf f (ps.drop k) = rowsOf L.bal ps∧(∀ m k,m < L.n→k < 8→In64 (f m k))∧Below w.heap.size w wr∧LedAt wr l r cap L∧Ty wr g 144) (fun i _ => ps.length - (intOf i).toNat)
        case atStart => exact ⟨0,L.bal,by omega,rfl,HR.out,rfl,HO.out.b64,HB3.out,HL4.out,HTY.out⟩
        case round =>
          obtain ⟨k,f,hk,rfl,hrw,hro,hf64,hb,hla,hgy⟩:=hrel
          have HGY:=Lib.hid hgy
          have hgl:=hgy.lt
          clear hgy
          have HB:=Lib.hid hb
          have HRW:=Lib.hid hrw
          have HRO:=Lib.hid hro
          have HF:=Lib.hid hf64
          have HLA:=Lib.hid hla
          clear hb hrw hro hf64 hla
          by_cases hlt:k < ps.length
          · have q1:(k:Int) < (ps.length:Int):=by omega
            obtain ⟨b,o,rfl,hc⟩:=HC.out (by omega)
            obtain ⟨h3,h4,h5⟩:=hc k ps[k] (by simp [hlt])
            have hst:=Lib.hid (show ps.drop k = ps[k] :: ps.drop (k + 1) from List.drop_eq_getElem_cons hlt)
            have hhas:=HAL.out ps[k] (List.getElem_mem hlt)
            have ha64:=HA.out ps[k] (List.getElem_mem hlt)
            generalize ps[k] = p at *
            have g3:=(HB.out.cell (block_lt_of_cell h3)).trans h3
            have g4:=(HB.out.cell (block_lt_of_cell h4)).trans h4
            have g5:=(HB.out.cell (block_lt_of_cell h5)).trans h5
            have hb2:=HB.out.alloc HB.out.size (.cells #[.int .i64 p.m,.int .i64 p.c,.int .i64 p.a] 69)
            have HB2:=Lib.hid hb2
            obtain ⟨u1,u2,u3,u4⟩:=Led.has_iff.1 hhas
            obtain ⟨pm,pc,pa⟩:=p
            simp only at u1 u2 u3 u4 g3 g4 g5 ha64
            obtain ⟨i,rfl⟩:∃ i:Nat,pm = i:=⟨pm.toNat,by omega⟩
            obtain ⟨j,rfl⟩:∃ j:Nat,pc = j:=⟨pc.toNat,by omega⟩
            have c8:=HO.out.c8
            have hi2:i < L.n:=by omega
            have hj8:j < 8:=by omega
            obtain ⟨hcx,hfx⟩:=HRW.out.cell hi2 hj8
            have hx64:=HF.out i j hi2 hj8
            have HSET:=Lib.hid (fun x => HRW.out.set hi2 hj8 x)
            have hadd:=Lib.hid (fun w => Bk.add (f i j) pa hx64 ha64 w)
            have HI2:=Lib.hid (And.intro hi2 hj8)
            have v1:(i:Int) < (L.n:Int):=u2
            have v2:(j:Int) < 8:=by omega
            have v3:(L.n:Int)≤16:=by omega
            have v4:(L.n:Int)≤cap2:=by have:=HG.out.2.1; omega
            clear hc h3 h4 h5 hb2 hhas u1 u2 u3 u4 c8 hi2 hj8 hx64
            by_cases hin:In64 (f i j + pa)
            · have HI:=Lib.hid (And.intro hin ha64)
              rw [tn_in hin,te_in hin] at hadd
              clear hin ha64
              generalize hx':f i j + pa = x' at *
              have HX':=Lib.hid hx'
              clear hx'
              generalize hLn:L.n = N at *
              have HLN:=Lib.hid hLn
              clear hLn
              go_wp2_with fail
              go_quiet ((go_at_call 45; exact Calls.quiet_of_same (hadd.out _)))
              go_wp2
              go_region
              go_wp2
              go_roundw
              case rel =>
                have hlg:=HH.out.llt
                have hrg:=HH.out.rlt
                have hg0:=HG.out.1
                have hw:=(Below.refl wr.heap.size wr).alloc (Nat.le_refl _) (.cells #[.int .i64 i,.int .i64 j,.int .i64 pa] 69)
                have hrow2:RowsAt ((wr.alloc (.cells #[.int .i64 i,.int .i64 j,.int .i64 pa] 69)).drewN (nq + 1)) g N f:=HRW.out.below (Bk.bdrew hw _)
                have hled2:LedAt ((wr.alloc (.cells #[.int .i64 i,.int .i64 j,.int .i64 pa] 69)).drewN (nq + 1)) l r cap L:=(HLA.out.below hw).same rfl rfl
                refine ⟨k + 1,fun a b => if a = i∧b = j then x' else f a b,by omega,by go_num,hrow2.set HI2.out.1 HI2.out.2 x',?_,?_,(Bk.bdrew HB2.out _).setCell hg0 _,hled2.far (by omega) (by omega) _ _,(HGY.out.below (Bk.bdrew hw (nq + 1))).set _ _ _⟩
                · rw [← HRO.out,hst.out,rowsOf_step rfl rfl (by rw [HX'.out]; exact HI.out.1),HX'.out]
                · intro a b ha hb
                  show In64 (if a = i∧b = j then x' else f a b)
                  split
                  · exact HI.out.1
                  · exact HF.out a b ha hb
              case measure => simp [intOf]; omega
            · have hne:(te (f i j + pa) != 0) = true:=by
                have:te (f i j + pa) ≠ 0:=fun h => hin (te_zero.1 h)
                simp [this]
              have hne2:te (f i j + pa) ≠ 0:=fun h => hin (te_zero.1 h)
              have hr2:=te_range (f i j + pa)
              have HN:=Lib.hid (And.intro hne2 (show 0≤te (f i j + pa)∧te (f i j + pa)≤12 by omega))
              clear hr2
              clear hin ha64 hne2
              generalize tn (f i j + pa) = x' at *
              generalize te (f i j + pa) = e' at *
              generalize L.n = N at *
              go_wp2_with fail
              go_quiet ((go_at_call 45; exact Calls.quiet_of_same (hadd.out _)))
              go_wp2
              go_ret
              exact PostPost.no HN.out.1 HN.out.2 (Bk.bdrew HB2.out _)
          · obtain rfl:k = ps.length:=by omega
            have h0:=HLA.out.c0
            have f0:=HLA.out.fl 0
            have hro:=HRO.out
            rw [List.drop_length] at hro
            have HRO2:=Lib.hid hro
            clear hro
            go_wp2
            go_ret
            have hlg:=HH.out.llt
            have hg0:=HG.out.1
            refine ⟨0,rfl,fun h => absurd rfl h,fun _ => ⟨g,cap2,f,HAL.out,?_,HLA.out.turn HRW.out HGY.out (by omega) HG.out.2.1,HF.out,Kept.setCell (F:=fun k => k = l) (Kept.of_below HB.out) (.inl rfl) _ _,hg0⟩,by omega⟩
            rw [← HRO2.out]; rfl
end Go.Proofs.YtgcnnbjbdfgglaaGreat
namespace Go.Proofs.YtgcnnbjbdfgglaaGreat
open Go.RowKit
theorem Bk.kept {w w':World} {p:Addr} {v:Value} (h:Below w.heap.size w w') (hp:w.cell? p = some v):w'.cell? p = some v:=(h.cell (block_lt_of_cell hp)).trans hp
def SlT (w:World) (v:Value) (t:Rates) (code:Nat→ByteArray):Prop:=∃ b o c,v = .slice (some ⟨b,o,none⟩) t.n c∧∀ i,i < t.n→w.cell? ⟨b,o + i * 3,none⟩ = some (.string (code i))∧w.cell? ⟨b,o + i * 3 + 1,none⟩ = some (.int .i64 (t.rate i))∧w.cell? ⟨b,o + i * 3 + 2,none⟩ = some (.int .i64 (t.cut i))
theorem SlT.below {w w':World} {v:Value} {t:Rates} {code:Nat→ByteArray} (h:SlT w v t code) (hb:Below w.heap.size w w'):SlT w' v t code:=by
  obtain ⟨b,o,c,rfl,h2⟩:=h
  refine ⟨b,o,c,rfl,fun i hi => ?_⟩
  obtain ⟨h3,h4,h5⟩:=h2 i hi
  exact ⟨(hb.cell (block_lt_of_cell h3)).trans h3,(hb.cell (block_lt_of_cell h4)).trans h4,(hb.cell (block_lt_of_cell h5)).trans h5⟩
def hasN (n:Nat) (i:Int):Bool:=decide (0≤i∧i < n)
theorem hasN_yes {n i:Nat} (h:i < n):hasN n i = true:=decide_eq_true (by omega)
theorem hasN_iff {n:Nat} {i:Int}:hasN n i = true ↔ 0≤i∧i < n:=by simp [hasN]
set_option maxRecDepth 100000 in
set_option maxHeartbeats 400000 in
theorem Bk.table_has (a:Option Addr) (n c:Nat) (i:Int) (w:World):Calls Tryz.prog 234 #[.slice a n c,.int .i64 i] w fun e w' => e = .returned (.bool (hasN n i))∧w' = w:=by
  by_cases h1:0≤i
  · by_cases h2:i < n
    · have HH:hasN n i = true:=decide_eq_true (And.intro h1 h2)
      rw [HH]
      go_enter Tryz.func234,Tryz.ntmps234
      go_wp2
      go_ret
      exact ⟨rfl,rfl⟩
    · have HH:hasN n i = false:=decide_eq_false (fun (h:0≤i∧i < n) => h2 h.2)
      rw [HH]
      go_enter Tryz.func234,Tryz.ntmps234
      go_wp2
      go_ret
      exact ⟨rfl,rfl⟩
  · have HH:hasN n i = false:=decide_eq_false (fun (h:0≤i∧i < n) => h1 h.1)
    rw [HH]
    go_enter Tryz.func234,Tryz.ntmps234
    go_wp2
    go_ret
    exact ⟨rfl,rfl⟩
theorem md_worth {rate cut x:Int}:md x (rate * part cut x) 100000000 false = worthI rate cut x:=rfl
theorem md_plain {rate x:Int}:md x rate 10000 false = plainI rate x:=rfl
theorem part_mul {rate cut x:Int} (h:RateOk rate cut):0≤rate * part cut x∧rate * part cut x≤2000000000000:=by
  have h0:=h.r0
  have h1:=h.r1
  have h2:=h.c0
  have h3:=h.c1
  have hp:0≤part cut x∧part cut x≤20000:=by unfold part; split <;> omega
  refine ⟨Int.mul_nonneg (by omega) hp.1,?_⟩
  calc rate * part cut x≤100000000 * 20000:=Int.mul_le_mul h1 hp.2 hp.1 (by omega)
    _ = 2000000000000:=by decide
set_option maxRecDepth 100000 in
set_option maxHeartbeats 1000000 in
theorem Bk.worth {w:World} {v:Value} {t:Rates} {code:Nat→ByteArray} (h:SlT w v t code) (ho:t.Ok) (k:Nat) (hk:k < t.n) (x:Int) (hx:In64 x):Calls Tryz.prog 197 #[v,.int .i64 k,.int .i64 x] w fun e w' => e = .returned (.tuple #[.int .i64 (tn (worthI (t.rate k) (t.cut k) x)),.int .i64 (te (worthI (t.rate k) (t.cut k) x))])∧Below w.heap.size w w':=by
  have hr:=ho.ok k hk
  have hpm:=part_mul (x:=x) hr
  have hM:=Lib.hid (fun w => Bk.muldiv x (t.rate k * part (t.cut k) x) 100000000 false hx hpm.1 (by unfold In64; omega) (by omega) (by unfold In64; omega) w)
  rw [md_worth] at hM
  obtain ⟨b,o,c,rfl,h2⟩:=h
  obtain ⟨h3,h4,h5⟩:=h2 k hk
  have hh:=Lib.hid (Bk.table_has (some ⟨b,o,none⟩) t.n c k w)
  rw [hasN_yes hk] at hh
  have q1:(k:Int) < (t.n:Int):=by omega
  have hn:=ho.le
  have q2:(t.n:Int)≤8:=by omega
  obtain ⟨r0,r1,c0,c1⟩:=hr
  generalize tn (worthI (t.rate k) (t.cut k) x) = N at *
  generalize te (worthI (t.rate k) (t.cut k) x) = E at *
  clear h2 ho hx hk hn
  generalize t.rate k = rate at *
  generalize t.cut k = cut at *
  generalize t.n = n at *
  obtain ⟨m,hm⟩:∃ m,rate * part cut x = m:=⟨_,rfl⟩
  rw [hm] at hM hpm
  have hw:wrap64 m = m:=by unfold wrap64; omega
  by_cases hneg:x < 0
  · have e:rate * (10000 + cut) = m:=by rw [← hm]; unfold part; rw [if_pos hneg]
    clear hm
    go_enter Tryz.func197,Tryz.ntmps197
    go_wp2_with fail
    refine hh.out.mono ?_
    rintro e w1 ⟨rfl,rfl⟩
    go_wp2_with fail
    refine (hM.out _).mono ?_
    rintro e w2 ⟨rfl,hb⟩
    go_wp2
    go_ret2
    exact ⟨rfl,hb⟩
  · have e:rate * (10000 - cut) = m:=by rw [← hm]; unfold part; rw [if_neg hneg]
    clear hm
    go_enter Tryz.func197,Tryz.ntmps197
    go_wp2_with fail
    refine hh.out.mono ?_
    rintro e w1 ⟨rfl,rfl⟩
    go_wp2_with fail
    refine (hM.out _).mono ?_
    rintro e w2 ⟨rfl,hb⟩
    go_wp2
    go_ret2
    exact ⟨rfl,hb⟩
set_option maxRecDepth 100000 in
set_option maxHeartbeats 1000000 in
theorem Bk.plain {w:World} {v:Value} {t:Rates} {code:Nat→ByteArray} (h:SlT w v t code) (ho:t.Ok) (k:Nat) (hk:k < t.n) (x:Int) (hx:In64 x):Calls Tryz.prog 198 #[v,.int .i64 k,.int .i64 x] w fun e w' => e = .returned (.tuple #[.int .i64 (tn (plainI (t.rate k) x)),.int .i64 (te (plainI (t.rate k) x))])∧Below w.heap.size w w':=by
  have hr:=ho.ok k hk
  have hM:=Lib.hid (fun w => Bk.muldiv x (t.rate k) 10000 false hx (by have:=hr.r0; omega) (by have:=hr.r0; have:=hr.r1; unfold In64; omega) (by omega) (by unfold In64; omega) w)
  rw [md_plain] at hM
  obtain ⟨b,o,c,rfl,h2⟩:=h
  obtain ⟨h3,h4,h5⟩:=h2 k hk
  have hh:=Lib.hid (Bk.table_has (some ⟨b,o,none⟩) t.n c k w)
  rw [hasN_yes hk] at hh
  have q1:(k:Int) < (t.n:Int):=by omega
  have hn:=ho.le
  have q2:(t.n:Int)≤8:=by omega
  generalize tn (plainI (t.rate k) x) = N at *
  generalize te (plainI (t.rate k) x) = E at *
  clear h2 ho hx hk hr hn
  generalize t.rate k = rate at *
  generalize t.cut k = cut at *
  generalize t.n = n at *
  go_enter Tryz.func198,Tryz.ntmps198
  go_wp2_with fail
  refine hh.out.mono ?_
  rintro e w1 ⟨rfl,rfl⟩
  go_wp2_with fail
  refine (hM.out _).mono ?_
  rintro e w2 ⟨rfl,hb⟩
  go_wp2
  go_ret2
  exact ⟨rfl,hb⟩
set_option maxRecDepth 100000 in
set_option maxHeartbeats 1000000 in
theorem Bk.change {w:World} {v:Value} {t:Rates} {code:Nat→ByteArray} (h:SlT w v t code) (ho:t.Ok) (i k:Nat) (hi:i < t.n) (hk:k < t.n) (x:Int) (hx:In64 x):Calls Tryz.prog 264 #[v,.int .i64 i,.int .i64 k,.int .i64 x,.bool true] w fun e w' => e = .returned (.tuple #[.int .i64 (tn (md x (t.rate i) (t.rate k) true)),.int .i64 (te (md x (t.rate i) (t.rate k) true))])∧Below w.heap.size w w':=by
  have hr:=ho.ok i hi
  have hr2:=ho.ok k hk
  have hM:=Lib.hid (fun w => Bk.muldiv x (t.rate i) (t.rate k) true hx (by have:=hr.r0; omega) (by have:=hr.r0; have:=hr.r1; unfold In64; omega) hr2.r0 (by have:=hr2.r0; have:=hr2.r1; unfold In64; omega) w)
  obtain ⟨b,o,c,rfl,h2⟩:=h
  obtain ⟨h3,h4,h5⟩:=h2 i hi
  obtain ⟨g3,g4,g5⟩:=h2 k hk
  have hh:=Lib.hid (Bk.table_has (some ⟨b,o,none⟩) t.n c i w)
  rw [hasN_yes hi] at hh
  have hh2:=Lib.hid (Bk.table_has (some ⟨b,o,none⟩) t.n c k w)
  rw [hasN_yes hk] at hh2
  have q1:(i:Int) < (t.n:Int):=by omega
  have q3:(k:Int) < (t.n:Int):=by omega
  have hn:=ho.le
  have q2:(t.n:Int)≤8:=by omega
  generalize md x (t.rate i) (t.rate k) true = M at *
  generalize tn M = N at *
  generalize te M = E at *
  clear h2 ho hx hk hi hr hr2 hn
  generalize t.rate i = rate at *
  generalize t.rate k = rate2 at *
  generalize t.n = n at *
  go_enter Tryz.func264,Tryz.ntmps264
  go_wp2_with fail
  refine hh.out.mono ?_
  rintro e w1 ⟨rfl,rfl⟩
  go_wp2_with fail
  refine hh2.out.mono ?_
  rintro e w1 ⟨rfl,rfl⟩
  go_wp2_with fail
  go_region_held3 (fun wx => wx.cell? ⟨b,o + i * 3 + 1,none⟩ = some (.int .i64 rate)∧wx.cell? ⟨b,o + k * 3 + 1,none⟩ = some (.int .i64 rate2)) (first | assumption | exact ⟨h4,g4⟩ | exact ⟨Bk.kept hb h4,Bk.kept hb g4⟩)
    (first | (go_at_call 235; refine (hM.out _).mono ?_; rintro e w3 ⟨rfl,hb⟩))
  go_wp2
  go_ret2
  exact ⟨rfl,(Below.refl _ _).drew.trans hb⟩
end Go.Proofs.YtgcnnbjbdfgglaaGreat
namespace Go.Proofs.YtgcnnbjbdfgglaaGreat
open Go.RowKit
def RowK (w:World) (g K n:Nat) (f:Nat→Nat→Value):Prop:=∃ cs T,w.heap[g]? = some (.cells cs T (0,0))∧∀ i j,i < n→j < K→cs[i * K + j]? = some (f i j)
theorem RowK.lt {w:World} {g K n:Nat} {f:Nat→Nat→Value} (h:RowK w g K n f):g < w.heap.size:=by
  obtain ⟨cs,T,h1,_⟩:=h
  exact (Array.getElem?_eq_some_iff.1 h1).1
theorem RowK.cell {w:World} {g K n:Nat} {f:Nat→Nat→Value} (h:RowK w g K n f) {i j:Nat} (hi:i < n) (hj:j < K):w.cell? ⟨g,i * K + j,none⟩ = some (f i j):=by
  obtain ⟨cs,T,h1,h2⟩:=h
  rw [cell_of_row _ _ _ _ _ _ h1]
  exact h2 i j hi hj
theorem RowK.frozen {w:World} {g K n:Nat} {f:Nat→Nat→Value} (h:RowK w g K n f) (o:Nat):w.frozen? ⟨g,o,none⟩ = false:=by
  obtain ⟨cs,T,h1,_⟩:=h
  exact frozen_of_row _ _ _ _ _ h1
theorem RowK.same {w w1:World} {g K n:Nat} {f:Nat→Nat→Value} (h:RowK w g K n f) (hs:w1.heap[g]? = w.heap[g]?):RowK w1 g K n f:=by
  obtain ⟨cs,T,h1,h2⟩:=h
  exact ⟨cs,T,by rw [hs]; exact h1,h2⟩
theorem RowK.below {w w1:World} {g K n:Nat} {f:Nat→Nat→Value} (h:RowK w g K n f) (hb:Below w.heap.size w w1):RowK w1 g K n f:=h.same (hb.block g h.lt)
theorem RowK.far {w:World} {g K n:Nat} {f:Nat→Nat→Value} (h:RowK w g K n f) {b:Nat} (hb:b ≠ g) (o:Nat) (v:Value):RowK (w.setCell ⟨b,o,none⟩ v) g K n f:=h.same (Below.heap_setCell _ _ _ _ hb.symm)
theorem RowK.ext {w:World} {g K n:Nat} {f f':Nat→Nat→Value} (h:RowK w g K n f) (he:∀ i j,i < n→j < K→f i j = f' i j):RowK w g K n f':=by
  obtain ⟨cs,T,h1,h2⟩:=h
  exact ⟨cs,T,h1,fun i j hi hj => by rw [h2 i j hi hj,he i j hi hj]⟩
theorem mulK_ne {K i j a b:Nat} (hj:j < K) (hb:b < K) (h:i * K + j = a * K + b):i = a∧j = b:=by
  have h1:(i * K + j) / K = i:=by rw [Nat.mul_comm,Nat.mul_add_div (by omega),Nat.div_eq_of_lt hj,Nat.add_zero]
  have h2:(a * K + b) / K = a:=by rw [Nat.mul_comm,Nat.mul_add_div (by omega),Nat.div_eq_of_lt hb,Nat.add_zero]
  have h3:i = a:=by rw [← h1,← h2,h]
  subst h3
  exact ⟨rfl,by omega⟩
theorem RowK.set {w:World} {g K n:Nat} {f:Nat→Nat→Value} (h:RowK w g K n f) {a b:Nat} (ha:a < n) (hb:b < K) (v:Value):RowK (w.setCell ⟨g,a * K + b,none⟩ v) g K n (fun i j => if i = a∧j = b then v else f i j):=by
  obtain ⟨cs,T,h1,h2⟩:=h
  refine ⟨cs.set! (a * K + b) v,T,heap_setCell_same w g _ _ _ _ h1,fun i j hi hj => ?_⟩
  have h3:=h2 i j hi hj
  have hlt:=(Array.getElem?_eq_some_iff.1 (h2 a b ha hb)).1
  by_cases e:i = a∧j = b
  · obtain ⟨rfl,rfl⟩:=e
    simp [hlt]
  · show _ = some (if i = a∧j = b then v else f i j)
    rw [if_neg e,Array.set!_eq_setIfInBounds,Array.getElem?_setIfInBounds_ne (fun h => e (by have:=mulK_ne hb hj h; exact ⟨this.1.symm,this.2.symm⟩))]
    exact h3
def flatK (K n:Nat) (f:Nat→Nat→Value):List Value:=(List.range (n * K)).map fun i => f (i / K) (i % K)
theorem flatK_len (K n:Nat) (f:Nat→Nat→Value):(flatK K n f).length = n * K:=by simp [flatK]
theorem lt_mulK {K n i j:Nat} (hi:i < n) (hj:j < K):i * K + j < n * K:=by
  have:(i + 1) * K≤n * K:=Nat.mul_le_mul_right _ hi
  rw [Nat.add_mul,Nat.one_mul] at this
  omega
theorem flatK_at {K n:Nat} (f:Nat→Nat→Value) {i j:Nat} (hi:i < n) (hj:j < K):(flatK K n f)[i * K + j]? = some (f i j):=by
  have h1:i * K + j < n * K:=lt_mulK hi hj
  have h2:(i * K + j) / K = i:=by rw [Nat.mul_comm,Nat.mul_add_div (by omega),Nat.div_eq_of_lt hj,Nat.add_zero]
  have h3:(i * K + j) % K = j:=by rw [Nat.mul_comm,Nat.mul_add_mod,Nat.mod_eq_of_lt hj]
  unfold flatK
  rw [List.getElem?_map,List.getElem?_range h1]
  simp only [Option.map_some,h2,h3]
theorem flatK_of {K n:Nat} {f:Nat→Nat→Value} (hK:0 < K) {x:Nat} {u:Value} (h:(flatK K n f)[x]? = some u):x / K < n∧x % K < K∧u = f (x / K) (x % K):=by
  have hx:=(List.getElem?_eq_some_iff.1 h).1
  rw [flatK_len] at hx
  have h1:x / K < n:=(Nat.div_lt_iff_lt_mul hK).2 hx
  have h2:x % K < K:=Nat.mod_lt _ hK
  refine ⟨h1,h2,?_⟩
  have h3:=flatK_at f h1 h2
  rw [show x / K * K + x % K = x by rw [Nat.mul_comm]; exact Nat.div_add_mod x K,h] at h3
  cases h3; rfl
theorem flatK_one {K n:Nat} {f:Nat→Nat→Value} (hK:0 < K) (h:∀ i j,i < n→j < K→(f i j).oneCell' = true):∀ u ∈ flatK K n f,u.oneCell' = true:=by
  intro u hu
  obtain ⟨x,hx⟩:=List.mem_iff_getElem?.1 hu
  obtain ⟨h1,h2,rfl⟩:=flatK_of hK hx
  exact h _ _ h1 h2
theorem Ty.of_own {B n cap g K e:Nat} {w:World} {xs:List Value} (h:w.ownsRow B e K (.slice (some ⟨g,0,none⟩) n cap) n xs):Ty w g e:=by
  rcases h.2 with ⟨he,_⟩ | ⟨k,cap',cur,he,hB,hk,hcap,_⟩
  · simp at he
  · simp only [Value.slice.injEq,Option.some.injEq,Addr.mk.injEq] at he
    obtain ⟨⟨rfl,_⟩,_,rfl⟩:=he
    exact ⟨cur,hk⟩
theorem RowK.of_own {B n cap g K e:Nat} {w:World} {f:Nat→Nat→Value} (h:w.ownsRow B e K (.slice (some ⟨g,0,none⟩) n cap) n (flatK K n f)):RowK w g K n f∧B≤g∧n≤cap:=by
  have hc:=h.cellAt
  rcases h.2 with ⟨he,_⟩ | ⟨k,cap',cur,he,hB,hk,hcap,_⟩
  · simp at he
  · simp only [Value.slice.injEq,Option.some.injEq,Addr.mk.injEq] at he
    obtain ⟨⟨rfl,_⟩,_,rfl⟩:=he
    refine ⟨⟨cur,_,hk,fun i j hi hj => ?_⟩,hB,hcap⟩
    have h1:=hc (i * K + j) (lt_mulK hi hj)
    rw [cell_of_row _ _ _ _ _ _ hk,flatK_at f hi hj] at h1
    exact h1
def SlK (w:World) (v:Value) (K n:Nat) (f:Nat→Nat→Value):Prop:=∃ a c,v = .slice a n c∧(0 < n→∃ b o,a = some ⟨b,o,none⟩∧∀ i j,i < n→j < K→w.cell? ⟨b,o + (i * K + j),none⟩ = some (f i j))
theorem SlK.below {w w':World} {v:Value} {K n:Nat} {f:Nat→Nat→Value} (h:SlK w v K n f) (hb:Below w.heap.size w w'):SlK w' v K n f:=by
  obtain ⟨a,c,rfl,hc⟩:=h
  refine ⟨a,c,rfl,fun hn => ?_⟩
  obtain ⟨b,o,rfl,h2⟩:=hc hn
  exact ⟨b,o,rfl,fun i j hi hj => Bk.kept hb (h2 i j hi hj)⟩
theorem SlK.flat {w:World} {b o c K n:Nat} {f:Nat→Nat→Value} (hK:0 < K) (h:SlK w (.slice (some ⟨b,o,none⟩) n c) K n f):∀ j u,(flatK K n f)[j]? = some u→w.cell? ((⟨b,o,none⟩:Addr).add j) = some u:=by
  intro x u hu
  obtain ⟨h1,h2,rfl⟩:=flatK_of hK hu
  obtain ⟨a,c',he,hc⟩:=h
  simp only [Value.slice.injEq] at he
  obtain ⟨rfl,_,_⟩:=he
  obtain ⟨b',o',he,h3⟩:=hc (Nat.lt_of_le_of_lt (Nat.zero_le _) h1)
  simp only [Option.some.injEq,Addr.mk.injEq] at he
  obtain ⟨rfl,rfl,_⟩:=he
  have h4:=h3 _ _ h1 h2
  rw [show x / K * K + x % K = x by rw [Nat.mul_comm]; exact Nat.div_add_mod x K] at h4
  rw [WideShapes.add_plain]
  exact h4
theorem SlK.of_row {w:World} {g K n c:Nat} {f:Nat→Nat→Value} (h:RowK w g K n f):SlK w (.slice (some ⟨g,0,none⟩) n c) K n f :=
  ⟨_,_,rfl,fun _ => ⟨g,0,rfl,fun i j hi hj => by rw [Nat.zero_add]; exact h.cell hi hj⟩⟩
def Cloned (T:TypeId) (K n:Nat) (f:Nat→Nat→Value) (w:World) (e:Ending) (w':World):Prop:=∃ g c,e = .returned (.slice (some ⟨g,0,none⟩) n c)∧RowK w' g K n f∧n≤c∧w.heap.size≤g∧Ty w' g T∧Below w.heap.size w w'
theorem Bk.eqlCur (a:Addr) (n c:Nat) (w:World):(binOp .eql 22 (.slice (some a) n c) (.slice none 0 0)).run Tryz.prog w = .ok (.bool false) w:=by kernel_rfl
theorem Bk.infcCur:(Tryz.prog.info? 82).map (fun i => (i.zero,i.size,i.bytes)) = some (some (.agg #[.string ⟨#[]⟩,.int .i64 0,.int .i64 0]),3,32):=by kernel_rfl
set_option maxRecDepth 100000 in
set_option maxHeartbeats 1000000 in
theorem Bk.cloneCur {w:World} {v:Value} {n:Nat} {f:Nat→Nat→Value} (hn:0 < n) (hn2:(n:Int)≤4000) (h:SlK w v 3 n f) (h1:∀ i j,i < n→j < 3→(f i j).oneCell' = true):Calls Tryz.prog 72 #[v] w (Cloned 82 3 n f w):=by
  obtain ⟨i0,hi,hz0,hz1,hz2⟩:=info_parts Bk.infcCur
  have HH:=h
  obtain ⟨a,c,rfl,hc⟩:=h
  obtain ⟨b,o,rfl,hc⟩:=hc hn
  have HF:=Lib.hid (HH.flat (by omega))
  have H1:=Lib.hid (flatK_one (K:=3) (by omega) h1)
  clear hc HH h1
  have he:=Bk.eqlCur ⟨b,o,none⟩ n c
  have hb0:=(Below.refl w.heap.size w).alloc (Nat.le_refl _) (.cells #[] 82)
  go_enter Tryz.func72,Tryz.ntmps72
  go_wp2_with (at_builtin; with_reducible refine wpList_append_own _ rfl (.tmp 5) (.tmp 6) 22 rfl w.heap.size 82 i0 _ 3 32 Tryz.underlying22 hi hz0 hz1 hz2 rfl (by decide) _ _ _ rfl (World.ownsRow_made w #[] 0 (Nat.le_refl _) (Nat.zero_le _) rfl) ⟨b,o,none⟩ n c (flatK 3 n f) rfl ?c0 ?c1 ?c2 ?c3 ?c4 ?c5 ?_)
  case c0 => exact flatK_len _ _ _
  case c1 => intro j u hu; exact Bk.kept ((Below.refl w.heap.size w).alloc (Nat.le_refl _) (.cells #[] 82)) (HF.out j u hu)
  case c2 => exact H1.out
  case c3 => unfold maxLen; omega
  case c4 => omega
  case c5 => simp
  intro v' w3 hown hgrow _
  have hb3:=hb0.grown hgrow (by simp) (by intro k hk; simp [Value.ownBlock] at hk; omega)
  obtain ⟨g,c2,rfl⟩:∃ g c2,v' = .slice (some ⟨g,0,none⟩) n c2:=by
    rcases hown.2 with ⟨_,h⟩ | ⟨g,cap2,cur,h,_⟩
    · omega
    · exact ⟨g,cap2,h⟩
  obtain ⟨hrow,hg,hc2⟩:=RowK.of_own hown
  have hty:=Ty.of_own hown
  clear hown hgrow hb0 he
  go_wp2
  go_ret
  exact ⟨g,c2,rfl,hrow,hc2,hg,hty,hb3⟩
theorem Bk.eqlLim (a:Addr) (n c:Nat) (w:World):(binOp .eql 23 (.slice (some a) n c) (.slice none 0 0)).run Tryz.prog w = .ok (.bool false) w:=by kernel_rfl
theorem Bk.infcLim:(Tryz.prog.info? 84).map (fun i => (i.zero,i.size,i.bytes)) = some (some (.agg #[.slice none 0 0,.int .i64 0]),2,32):=by kernel_rfl
theorem Bk.eqlI64 (a:Addr) (n c:Nat) (w:World):(binOp .eql 70 (.slice (some a) n c) (.slice none 0 0)).run Tryz.prog w = .ok (.bool false) w:=by kernel_rfl
theorem Bk.infcI64:(Tryz.prog.info? 2).map (fun i => (i.zero,i.size,i.bytes)) = some (some (.int .i64 0),1,8):=by kernel_rfl
set_option maxRecDepth 100000 in
set_option maxHeartbeats 1000000 in
theorem Bk.cloneI64 {w:World} {v:Value} {n:Nat} {f:Nat→Nat→Value} (hn:0 < n) (hn2:(n:Int)≤4000) (h:SlK w v 1 n f) (h1:∀ i j,i < n→j < 1→(f i j).oneCell' = true):Calls Tryz.prog 95 #[v] w (Cloned 2 1 n f w):=by
  obtain ⟨i0,hi,hz0,hz1,hz2⟩:=info_parts Bk.infcI64
  have HH:=h
  obtain ⟨a,c,rfl,hc⟩:=h
  obtain ⟨b,o,rfl,hc⟩:=hc hn
  have HF:=Lib.hid (HH.flat (by omega))
  have H1:=Lib.hid (flatK_one (K:=1) (by omega) h1)
  clear hc HH h1
  have he:=Bk.eqlI64 ⟨b,o,none⟩ n c
  have hb0:=(Below.refl w.heap.size w).alloc (Nat.le_refl _) (.cells #[] 2)
  go_enter Tryz.func95,Tryz.ntmps95
  go_wp2_with (at_builtin; with_reducible refine wpList_append_own _ rfl (.tmp 5) (.tmp 6) 70 rfl w.heap.size 2 i0 _ 1 8 Tryz.underlying70 hi hz0 hz1 hz2 rfl (by decide) _ _ _ rfl (World.ownsRow_made w #[] 0 (Nat.le_refl _) (Nat.zero_le _) rfl) ⟨b,o,none⟩ n c (flatK 1 n f) rfl ?c0 ?c1 ?c2 ?c3 ?c4 ?c5 ?_)
  case c0 => exact flatK_len _ _ _
  case c1 => intro j u hu; exact Bk.kept ((Below.refl w.heap.size w).alloc (Nat.le_refl _) (.cells #[] 2)) (HF.out j u hu)
  case c2 => exact H1.out
  case c3 => unfold maxLen; omega
  case c4 => omega
  case c5 => simp
  intro v' w3 hown hgrow _
  have hb3:=hb0.grown hgrow (by simp) (by intro k hk; simp [Value.ownBlock] at hk; omega)
  obtain ⟨g,c2,rfl⟩:∃ g c2,v' = .slice (some ⟨g,0,none⟩) n c2:=by
    rcases hown.2 with ⟨_,h⟩ | ⟨g,cap2,cur,h,_⟩
    · omega
    · exact ⟨g,cap2,h⟩
  obtain ⟨hrow,hg,hc2⟩:=RowK.of_own hown
  have hty:=Ty.of_own hown
  clear hown hgrow hb0 he
  go_wp2
  go_ret
  exact ⟨g,c2,rfl,hrow,hc2,hg,hty,hb3⟩
theorem Bk.eqlInt (a:Addr) (n c:Nat) (w:World):(binOp .eql 25 (.slice (some a) n c) (.slice none 0 0)).run Tryz.prog w = .ok (.bool false) w:=by kernel_rfl
theorem Bk.infcInt:(Tryz.prog.info? 3).map (fun i => (i.zero,i.size,i.bytes)) = some (some (.int .i64 0),1,8):=by kernel_rfl
set_option maxRecDepth 100000 in
set_option maxHeartbeats 1000000 in
theorem Bk.cloneInt {w:World} {v:Value} {n:Nat} {f:Nat→Nat→Value} (hn:0 < n) (hn2:(n:Int)≤4000) (h:SlK w v 1 n f) (h1:∀ i j,i < n→j < 1→(f i j).oneCell' = true):Calls Tryz.prog 55 #[v] w (Cloned 3 1 n f w):=by
  obtain ⟨i0,hi,hz0,hz1,hz2⟩:=info_parts Bk.infcInt
  have HH:=h
  obtain ⟨a,c,rfl,hc⟩:=h
  obtain ⟨b,o,rfl,hc⟩:=hc hn
  have HF:=Lib.hid (HH.flat (by omega))
  have H1:=Lib.hid (flatK_one (K:=1) (by omega) h1)
  clear hc HH h1
  have he:=Bk.eqlInt ⟨b,o,none⟩ n c
  have hb0:=(Below.refl w.heap.size w).alloc (Nat.le_refl _) (.cells #[] 3)
  go_enter Tryz.func55,Tryz.ntmps55
  go_wp2_with (at_builtin; with_reducible refine wpList_append_own _ rfl (.tmp 5) (.tmp 6) 25 rfl w.heap.size 3 i0 _ 1 8 Tryz.underlying25 hi hz0 hz1 hz2 rfl (by decide) _ _ _ rfl (World.ownsRow_made w #[] 0 (Nat.le_refl _) (Nat.zero_le _) rfl) ⟨b,o,none⟩ n c (flatK 1 n f) rfl ?c0 ?c1 ?c2 ?c3 ?c4 ?c5 ?_)
  case c0 => exact flatK_len _ _ _
  case c1 => intro j u hu; exact Bk.kept ((Below.refl w.heap.size w).alloc (Nat.le_refl _) (.cells #[] 3)) (HF.out j u hu)
  case c2 => exact H1.out
  case c3 => unfold maxLen; omega
  case c4 => omega
  case c5 => simp
  intro v' w3 hown hgrow _
  have hb3:=hb0.grown hgrow (by simp) (by intro k hk; simp [Value.ownBlock] at hk; omega)
  obtain ⟨g,c2,rfl⟩:∃ g c2,v' = .slice (some ⟨g,0,none⟩) n c2:=by
    rcases hown.2 with ⟨_,h⟩ | ⟨g,cap2,cur,h,_⟩
    · omega
    · exact ⟨g,cap2,h⟩
  obtain ⟨hrow,hg,hc2⟩:=RowK.of_own hown
  have hty:=Ty.of_own hown
  clear hown hgrow hb0 he
  go_wp2
  go_ret
  exact ⟨g,c2,rfl,hrow,hc2,hg,hty,hb3⟩
end Go.Proofs.YtgcnnbjbdfgglaaGreat
