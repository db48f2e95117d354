/- LAW TopBoth: of every configuration of a bank and every list of byte strings the given function TopBoth returns true and leaves its arguments as they were; no condition. A part of what it needs. -/
import Derived.Test.YtgcnnbjbdfgglaaGreatZam
import Derived.Deep.CutRange
import Derived.Deep.RegionWith
namespace Go.Proofs.YtgcnnbjbdfgglaaGreat
open Go.RowKit
theorem Led.inn_ok {L:Led} (ho:L.Ok) {m c a:Int} (h:(L.inn m c a).1 = 0):L.has m c = true∧1≤a∧In64 (L.bal m.toNat c.toNat + a)∧In64 (L.nos c.toNat + a)∧(L.inn m c a).2 = (L.setB m.toNat c.toNat (L.bal m.toNat c.toNat + a)).setN c.toNat (L.nos c.toNat + a)∧(L.inn m c a).2.Ok:=by
  unfold Led.inn at h ⊢
  by_cases h1:L.has m c = true∧1≤a
  · rw [if_pos h1] at h ⊢
    by_cases h2:In64 (L.bal m.toNat c.toNat + a)∧In64 (L.nos c.toNat + a)
    · rw [if_pos h2] at h ⊢
      refine ⟨h1.1,h1.2,h2.1,h2.2,rfl,ho.n1,ho.n16,ho.c1,ho.c8,fun i k hi hk => ?_,fun k hk => ?_⟩
      · show In64 (if i = m.toNat∧k = c.toNat then L.bal m.toNat c.toNat + a else L.bal i k)
        split
        · exact h2.1
        · exact ho.b64 i k hi hk
      · show In64 (if k = c.toNat then L.nos c.toNat + a else L.nos k)
        split
        · exact h2.2
        · exact ho.n64 k hk
    · rw [if_neg h2] at h; simp at h
  · rw [if_neg h1] at h; simp at h
theorem Led.inn_no {L:Led} {m c a:Int} (h:(L.inn m c a).1 ≠ 0):(L.inn m c a).2 = L∧0≤(L.inn m c a).1∧(L.inn m c a).1≤12:=by
  unfold Led.inn at h ⊢
  split
  · split
    · rename_i h1 h2; rw [if_pos h1,if_pos h2] at h; simp at h
    · exact ⟨rfl,by simp,by simp⟩
  · exact ⟨rfl,by simp,by simp⟩
theorem good_in {d:Gd} (hd:d.Ok) {m c:Nat} (hm:m < d.L.n) (hc:c < d.t.n) {a:Int} (ha:1≤a) {x:Int × Int} (hi:ifRes d.t (d.L.bal m) m [⟨m,c,a⟩] = some x) {fl:Nat→Bool} {L':Led} (hL:L' = (d.L.setB m c (d.L.bal m c + a)).setN c (d.L.nos c + a))
    (hf:∀ i,fl i = false→(i ≠ m→d.flag i = false)∧(i = m→d.flag m = false∨PassB { d with L:=L' } m [])) (hg:Good d):Good { d with L:=L',flag:=fl }:=by
  subst hL
  constructor
  · intro i hin hfl
    obtain ⟨h1,h2⟩:=hf i hfl
    by_cases e:i = m
    · subst e
      rcases h2 rfl with h3 | h3
      · have hp:=passB_nil.1 (hg.fl i hm h3)
        refine passB_nil.2 ?_
        show Passes d.t (d.lim i) (fun k => if i = i∧k = c then d.L.bal i c + a else d.L.bal i k)
        unfold ifRes at hi
        simp only [rowOf,if_true] at hi
        split at hi
        · simp only [Int.toNat_natCast,Option.bind_some] at hi
          have e2:setRow (d.L.bal i) (c:Int) (d.L.bal i c + a) = fun k => if i = i∧k = c then d.L.bal i c + a else d.L.bal i k:=by
            funext k
            unfold setRow
            by_cases e3:k = c
            · subst e3; simp
            · rw [if_neg (by omega)]; simp [e3]
          rw [e2] at hi
          cases hn:d.t.net (fun k => if i = i∧k = c then d.L.bal i c + a else d.L.bal i k) with
          | none => rw [hn] at hi; simp at hi
          | some n =>
            cases hs:d.t.short (fun k => if i = i∧k = c then d.L.bal i c + a else d.L.bal i k) with
            | none => rw [hn,hs] at hi; simp at hi
            | some s =>
              exact passes_more hd.tok hp (fun k _ => by
                show d.L.bal i k≤if i = i∧k = c then d.L.bal i c + a else d.L.bal i k
                split
                · rename_i h4; rw [h4.2]; omega
                · exact Int.le_refl _) hn hs
        · simp at hi
      · exact passB_nil.2 (passB_nil.1 h3)
    · refine passB_nil.2 ?_
      have hp:=passB_nil.1 (hg.fl i hin (h1 e))
      refine passes_congr (fun k _ => ?_) hp
      show d.L.bal i k = if i = m∧k = c then _ else d.L.bal i k
      rw [if_neg (fun h => e h.1)]
  · intro k hk
    show 0≤if k = c then d.L.nos c + a else d.L.nos k
    split
    · have:=hg.no c (by rw [hd.c]; exact hc); omega
    · exact hg.no k hk
def InQ (d:Gd) (m c a:Int) (r:Int) (d':Gd):Prop:=(r = 0→d'.L = (d.L.inn m c a).2∧d'.t = d.t)∧(hasN d.L.n m = true→hasN d.t.n c = true→1≤a→(∃ x,ifRes d.t (d.L.bal m.toNat) m [⟨m,c,a⟩] = some x)→(d.L.inn m c a).1 = 0→r = 0)
theorem one_posting (w:World) (m c a:Int):SlP (w.alloc (.cells #[.int .i64 m,.int .i64 c,.int .i64 a] 69)) (.slice (some ⟨w.heap.size,0,none⟩) 1 1) [⟨m,c,a⟩]:=by
  refine ⟨_,_,rfl,fun _ => ⟨w.heap.size,0,rfl,fun i p hp => ?_⟩⟩
  cases i with
  | succ i => simp at hp
  | zero =>
    simp at hp
    subst hp
    have hh:=heap_alloc_new w (.cells #[.int .i64 m,.int .i64 c,.int .i64 a] 69)
    exact ⟨(cell_of_row _ _ _ _ _ _ hh).trans rfl,(cell_of_row _ _ _ _ _ _ hh).trans rfl,(cell_of_row _ _ _ _ _ _ hh).trans rfl⟩
set_option maxRecDepth 100000 in
set_option maxHeartbeats 4000000 in
theorem Bk.gin {w:World} {h:Gh} {d:Gd} (a:GuS w h d NoneS) (m c x:Int) (hx:In64 x) :
    Calls Tryz.prog 150 #[.pointer (some ⟨h.g,0,none⟩),.int .i64 m,.int .i64 c,.int .i64 x] w (GPost h d (InQ d m c x) w):=by
  have g0:=a.c0
  have HA:=Lib.hid a
  have n8:=a.ok.tok.le
  have n16:=a.ok.lok.n16
  have hcn:=a.ok.c
  have HSZ:=Lib.hid (Bk.ledger_size a.led)
  have HC:=Lib.hid hcn
  have gl:=a.gu.lt
  clear a hcn
  go_enter Tryz.func150,Tryz.ntmps150
  go_wp2_with fail
  refine HSZ.out.mono ?_
  rintro e w1 ⟨rfl,q,rfl⟩
  have HB1:=Lib.hid (Bk.bdrew (Below.refl w.heap.size w) q)
  have HA1:=Lib.hid (HA.out.below HB1.out)
  have g0':=HA1.out.c0
  have g1':=HA1.out.c1
  have g3':=HA1.out.c3
  generalize w.drewN q = w1 at *
  have HH1:=Lib.hid (Bk.gu_has HA1.out.at m)
  have W1:=Lib.hid (fun r (hr:0≤r∧r≤12) (hq:InQ d m c x r d) => (⟨r,d,h,rfl,hr,HA1.out,Step.of_below HB1.out _ _,⟨rfl,rfl⟩,id,hq⟩:GPost h d (InQ d m c x) w (.returned (.int .i64 r)) w1))
  clear g0
  have q8:(d.t.n:Int)≤8:=by omega
  have q16:(d.L.n:Int)≤16:=by omega
  have qc:(d.L.c:Int) = d.t.n:=by rw [HC.out]
  rw [qc]
  clear qc
  by_cases hm:hasN d.L.n m = true
  · rw [hm] at HH1
    by_cases hc:hasN d.t.n c = true
    · by_cases hx1:1≤x
      · obtain ⟨m1,m2⟩:=hasN_iff.1 hm
        obtain ⟨c1,c2⟩:=hasN_iff.1 hc
        obtain ⟨i,rfl⟩:∃ i:Nat,m = i:=⟨m.toNat,by omega⟩
        obtain ⟨k,rfl⟩:∃ k:Nat,c = k:=⟨c.toNat,by omega⟩
        have hi:i < d.L.n:=by omega
        have hk:k < d.t.n:=by omega
        have q1:(i:Int) < (d.L.n:Int):=m2
        have q2:(k:Int) < (d.t.n:Int):=c2
        have HBA:=Lib.hid ((Below.refl w1.heap.size w1).alloc (Nat.le_refl _) (.cells #[.int .i64 i,.int .i64 k,.int .i64 x] 69))
        have HA2:=Lib.hid (HA1.out.below HBA.out)
        have HIF:=Lib.hid (Bk.if_ HA2.out.wor HA2.out.tab HA2.out.ok.tok HA2.out.acc i hi (by omega) (HA2.out.acs i hi id) (fun j hj => HA2.out.ok.lok.b64 i j hi (by omega)) _ [⟨i,k,x⟩] (one_posting w1 i k x) (by simp) (by simpa using hx))
        have HM:=Lib.hid (And.intro hi (And.intro hk (And.intro hm hc)))
        have HIB:=Lib.hid (show inB d.t.n [⟨(i:Int),(k:Int),x⟩] = true by simp [inB,hc])
        clear m1 m2 c1 c2 hi hk hm hc
        go_wp2_with fail
        refine HH1.out.mono ?_
        rintro e w2 ⟨rfl,rfl⟩
        go_wp2_with fail
        refine HIF.out.mono ?_
        rintro e w3 ⟨n,s,r1,rfl,hr0,hr3,hb3,hno,hyes,hnone⟩
        have HB3:=Lib.hid (HBA.out.trans (hb3.mono HBA.out.size))
        have HA3:=Lib.hid (HA2.out.below hb3)
        have HR1:=Lib.hid (And.intro hr0 hr3)
        have HYES:=Lib.hid hyes
        have HNONE:=Lib.hid hnone
        clear hb3 hno hyes hnone hr0 hr3
        by_cases hr:r1 = 0
        · subst hr
          have HRES:=Lib.hid (HYES.out rfl)
          have g0:=HA3.out.c0
          have HIN:=Lib.hid (Bk.inn HA3.out.led HA3.out.ok.lok i k x hx)
          clear HYES HNONE HR1
          go_wp2_with fail
          refine HIN.out.mono ?_
          rintro e w4 ⟨rfl,hl4,hk4⟩
          by_cases hz:(d.L.inn i k x).1 = 0
          · obtain ⟨i1,i2,i3,i4,i5,i6⟩:=Led.inn_ok HA3.out.ok.lok hz
            obtain ⟨hG4,hS4⟩:=HA3.out.ledger (T:=fun j => j = i) hl4 hk4 (.inl rfl) (by rw [i5]; rfl) (by rw [i5]; rfl) i6 (fun j _ hj q _ => by
              rw [i5]
              show (if j = _∧q = _ then _ else d.L.bal j q) = _
              rw [if_neg (fun h => hj (by simpa using h.1))])
            have HEQ:=Lib.hid i5
            have HZ:=Lib.hid hz
            have HG4:=Lib.hid hG4
            have HS4:=Lib.hid hS4
            have g1:w4.cell? ⟨h.g,1,none⟩ = some (.pointer (some ⟨h.wb,0,none⟩)):=hG4.c1
            have HMV:=Lib.hid (Bk.gmoved hG4 i (by show i < (d.L.inn i k x).2.n; rw [i5]; exact HM.out.1))
            rw [hz]
            clear hz i1 i2 i3 i4 i5 i6 hG4 hS4 hl4 hk4 g0
            go_wp2_with fail
            refine HMV.out.mono ?_
            rintro e w5 ⟨h5,rfl,hg5,hst5⟩
            have hn5:(d.L.inn i k x).2.n = d.L.n:=by rw [HEQ.out]; rfl
            change Step w4 _ w5 h5 (d.L.inn i k x).2.n at hst5
            rw [hn5] at hst5
            have HG5:=Lib.hid (hg5.less (T:=NoneS) (fun j _ hj => hj.2 (hj.1.resolve_left id)))
            have HS5:=Lib.hid (((Step.of_below (HB1.out.trans (HB3.out.mono HB1.out.size)) h d.L.n).trans HS4.out).trans hst5)
            have hgg:h5.g = h.g:=Gh.pg hst5.g
            have c3:w5.cell? ⟨h.g,3,none⟩ = some (.slice (some ⟨h5.fb,0,none⟩) d.L.n h5.fc):=by rw [← hgg,← hn5]; exact HG5.out.c3
            have cf:w5.cell? ⟨h5.fb,i,none⟩ = some (.bool (d.flag i)):=HG5.out.flags.cell1 (show i < (d.L.inn i k x).2.n by rw [hn5]; exact HM.out.1)
            have ff:=HG5.out.flags.frozen i
            have HNE:=Lib.hid (show h.g ≠ h5.fb by rw [← hgg]; exact HG5.out.gfb)
            have HN5:=Lib.hid hn5
            have FIN:=Lib.hid (fun (b:Bool) (hb:b = false→d.flag i = false∨PassB { d with L:=(d.L.inn i k x).2 } i []) (w6:World) (hb6:Below w5.heap.size w5 w6) => (show GPost h d (InQ d i k x) w (.returned (.int .i64 0)) (w6.setCell ⟨h5.fb,i,none⟩ (.bool b)) from
              ⟨0,_,h5,rfl,by omega,(HG5.out.below hb6).setflag (by show i < (d.L.inn i k x).2.n; rw [HN5.out]; exact HM.out.1) b,(HS5.out.below hb6).trans (Step.setflag (w:=w6) (h:=h5) (n:=d.L.n) i (.bool b)),⟨HN5.out,rfl⟩,
                good_in (d:=d) HA.out.ok HM.out.1 HM.out.2.1 hx1 HRES.out (fl:=fun j => if j = i then b else d.flag j) (L':=(d.L.inn i k x).2) (by rw [HEQ.out]; simp) (fun j hj => ⟨fun e => by simpa [e] using hj,fun e => hb (by simpa [e] using hj)⟩),fun _ => ⟨rfl,rfl⟩,fun _ _ _ _ _ => rfl⟩))
            clear hg5 hst5 hgg hn5 g1
            cases hfi:d.flag i with
            | false =>
              rw [hfi] at cf
              have HFI:=Lib.hid hfi
              clear hfi
              have FIN2:=Lib.hid (FIN.out false (fun _ => .inl HFI.out) w5.drew ((Below.refl _ _).drew))
              go_wp2
              go_region
              go_wp2
              go_ret
              exact FIN2.out
            | true =>
              rw [hfi] at cf
              have hgd:Below w5.heap.size w5 w5.drew:=(Below.refl _ _).drew
              have HF:=Bk.fails (HG5.out.below hgd).at i (by show i < (d.L.inn i k x).2.n; rw [HN5.out]; exact HM.out.1) _ [] (SlP.nil _) (by simp) (by simp)
              have hgg:h5.g = h.g:=Gh.pg HS5.out.g
              rw [hgg] at HF
              have HF:=Lib.hid HF
              have d3:w5.drew.cell? ⟨h.g,3,none⟩ = some (.slice (some ⟨h5.fb,0,none⟩) d.L.n h5.fc):=c3
              have df:w5.drew.cell? ⟨h5.fb,i,none⟩ = some (.bool true):=cf
              have HD:=Lib.hid hgd
              clear hgd hfi hgg
              go_wp2_with fail
              go_region_with (first | (go_at_call 22; ((with_reducible refine HF.out.mono ?_); rintro e w6 ⟨v,rfl,hb6,hiff⟩; have e3:=Bk.kept hb6 d3; have ef:=Bk.kept hb6 df; have hG6:=(HG5.out.below HD.out).below hb6; have v0:=hG6.flags.frozen i; replace hG6:=Lib.hid hG6; replace hiff:=Lib.hid hiff; replace hb6:=Lib.hid hb6)))
              all_goals
                have FIN2:=Lib.hid (FIN.out (v != 0) (fun hv => .inr (hiff.out.1 (by simpa using hv))) w6 ((Below.refl _ _).drew.trans hb6.out))
                clear e3 ef v0 d3 df
                go_wp2
                go_ret
                exact FIN2.out
          · obtain ⟨i1,i2,i3⟩:=Led.inn_no hz
            rw [i1] at hl4
            have hgs:=HA3.out.ledger (T:=fun _ => False) (L:=d.L) hl4 hk4 (.inl rfl) rfl rfl HA3.out.ok.lok (fun j _ _ q _ => rfl)
            have HGS:=Lib.hid hgs
            have HZ:=Lib.hid hz
            have HNB:=Lib.hid (show ((d.L.inn i k x).1 != 0) = true by simp [hz])
            have HI23:=Lib.hid (And.intro i2 i3)
            have hnb:=HNB.out
            clear hl4 hk4 hgs i1 i2 i3 hz g0
            generalize hzz:(d.L.inn i k x).1 = z at *
            go_wp2
            go_ret
            refine ⟨z,d,h,rfl,HI23.out,HGS.out.1.less (fun m _ hs => by rcases hs with h | h <;> exact h.elim),(Step.of_below (HB1.out.trans (HB3.out.mono HB1.out.size)) h d.L.n).trans HGS.out.2,⟨rfl,rfl⟩,id,fun h0 => absurd h0 HZ.out,fun _ _ _ _ h0 => absurd (hzz ▸ h0) HZ.out⟩
        · have hnb:(r1 != 0) = true:=by simp [hr]
          have HN:=Lib.hid (HNONE.out HIB.out hr)
          have HRN:=Lib.hid hr
          clear HYES HNONE hr
          go_wp2
          go_ret
          exact ⟨r1,d,h,rfl,by have:=HR1.out; omega,HA3.out,Step.of_below (HB1.out.trans (HB3.out.mono HB1.out.size)) _ _,⟨rfl,rfl⟩,id,fun h0 => absurd h0 HRN.out,fun _ _ _ h1 _ => by obtain ⟨y,hy⟩:=h1; rw [Int.toNat_natCast,HN.out] at hy; cases hy⟩
      · have HX:=Lib.hid hx1
        obtain ⟨c1,c2⟩:=hasN_iff.1 hc
        clear hm hc
        go_wp2_with fail
        refine HH1.out.mono ?_
        rintro e w2 ⟨rfl,rfl⟩
        go_wp2
        go_ret
        exact W1.out 1 (by omega) ⟨fun h0 => by omega,fun _ _ h _ _ => by have:=HX.out; omega⟩
    · have HCN:=Lib.hid hc
      have hcs:c < 0∨(d.t.n:Int)≤c:=by
        by_cases h1:c < 0
        · exact .inl h1
        · right
          by_cases h2:c < d.t.n
          · exact absurd (hasN_iff.2 ⟨by omega,h2⟩) hc
          · omega
      clear hm hc
      rcases hcs with hcs | hcs
      · go_wp2_with fail
        refine HH1.out.mono ?_
        rintro e w2 ⟨rfl,rfl⟩
        go_wp2
        go_ret
        exact W1.out 1 (by omega) ⟨fun h0 => by omega,fun _ h _ _ _ => absurd h HCN.out⟩
      · go_wp2_with fail
        refine HH1.out.mono ?_
        rintro e w2 ⟨rfl,rfl⟩
        go_wp2
        go_ret
        exact W1.out 1 (by omega) ⟨fun h0 => by omega,fun _ h _ _ _ => absurd h HCN.out⟩
  · have HMN:=Lib.hid hm
    rw [Bool.not_eq_true] at hm
    rw [hm] at HH1
    clear hm
    go_wp2_with fail
    refine HH1.out.mono ?_
    rintro e w2 ⟨rfl,rfl⟩
    go_wp2
    go_ret
    exact W1.out 1 (by omega) ⟨fun h0 => by omega,fun h _ _ _ _ => absurd h HMN.out⟩
end Go.Proofs.YtgcnnbjbdfgglaaGreat
namespace Go.Proofs.YtgcnnbjbdfgglaaGreat
open Go.RowKit
def TPost (h:Gh) (d:Gd) (w:World) (e:Ending) (w':World):Prop:=∃ c d' h',e = .returned (.int .i64 c)∧GuS w' h' d' NoneS∧Step w h w' h' d.L.n∧(d'.L.n = d.L.n∧d'.t.n = d.t.n)∧(Good d→Good d')
theorem judged_good {d:Gd} {L:Led} {fl:Nat→Bool} (hn:L.n = d.L.n) (hc:L.c = d.L.c) (hj:Judged { d with L:=L,flag:=fl } d.L.n) (hno:(∀ c,c < d.L.c→0≤d.L.nos c)→∀ c,c < d.L.c→0≤L.nos c) (hg:Good d):Good { d with L:=L,flag:=fl } :=
  ⟨fun m hm hf => (hj m (hn ▸ hm)).1 hf,fun c hlt => hno hg.no c (hc ▸ hlt)⟩
theorem rowsOf_ok {L:Led} {bal:Nat→Nat→Int} (h64:∀ m k,m < L.n→k < 8→In64 (bal m k)) (ho:L.Ok):Led.Ok { L with bal:=bal }:=⟨ho.n1,ho.n16,ho.c1,ho.c8,h64,ho.n64⟩
set_option maxRecDepth 100000 in
set_option maxHeartbeats 2000000 in
theorem Bk.take {w:World} {h:Gh} {d:Gd} (a:GuS w h d NoneS) (v:Value) (ps:List Pst) (hp:SlP w v ps) (hn:(ps.length:Int)≤4000) (ha:∀ p ∈ ps,In64 p.a) :
    Calls Tryz.prog 189 #[.pointer (some ⟨h.g,0,none⟩),v] w (TPost h d w):=by
  have g0:=a.c0
  have HP:=Lib.hid (Bk.post a.led a.ok.lok v ps hp hn ha)
  have HA:=Lib.hid a
  clear a hp ha
  go_enter Tryz.func189,Tryz.ntmps189
  go_wp2_with fail
  refine HP.out.mono ?_
  rintro e w1 ⟨c,rfl,hno,hyes,-⟩
  by_cases hc:c = 0
  · subst hc
    obtain ⟨r,cap,bal,_,_,hl,h64,hk,hr⟩:=hyes rfl
    obtain ⟨hG,hS⟩:=HA.out.ledger (T:=fun _ => True) hl (hk.mono (fun k _ hk' => .inl hk')) (.inr hr) rfl rfl (rowsOf_ok h64 HA.out.ok.lok) (fun j _ hj => absurd trivial hj)
    have HAN:=Lib.hid (Bk.anew0 hG)
    have HS:=Lib.hid hS
    clear hno hyes hl h64 hk hr hG hS
    go_wp2_with fail
    refine HAN.out.mono ?_
    rintro e w2 ⟨fl,h2,rfl,hg2,hj2,hs2⟩
    have HG2:=Lib.hid hg2
    have HJ2:=Lib.hid hj2
    have HS2:=Lib.hid (HS.out.trans hs2)
    clear hg2 hj2 hs2
    go_wp2
    go_ret
    exact ⟨0,_,h2,rfl,HG2.out,HS2.out,⟨rfl,rfl⟩,judged_good (d:=d) (L:={ d.L with bal:=bal }) rfl rfl HJ2.out id⟩
  · have HB:=Lib.hid (hno hc)
    have HAN:=Lib.hid (Bk.anewN (w:=w1) (g:=h.g) hc)
    clear hno hyes hc
    go_wp2_with fail
    refine HAN.out.mono ?_
    rintro e w2 ⟨rfl,rfl⟩
    go_wp2
    go_ret
    exact ⟨c,d,h,rfl,HA.out.below HB.out,Step.of_below HB.out _ _,⟨rfl,rfl⟩,id⟩
set_option maxRecDepth 100000 in
set_option maxHeartbeats 2000000 in
theorem Bk.gswap {w:World} {h:Gh} {d:Gd} (a:GuS w h d NoneS) (m g v x y:Int) (hx:In64 x) (hy:In64 y) :
    Calls Tryz.prog 210 #[.pointer (some ⟨h.g,0,none⟩),.int .i64 m,.int .i64 g,.int .i64 v,.int .i64 x,.int .i64 y] w (TPost h d w):=by
  have g0:=a.c0
  have HP:=Lib.hid (Bk.swap a.led a.ok.lok m g v x y hx hy)
  have HA:=Lib.hid a
  clear a
  go_enter Tryz.func210,Tryz.ntmps210
  go_wp2_with fail
  refine HP.out.mono ?_
  rintro e w1 ⟨c,L',rfl,hl,hk,hno,hyes⟩
  by_cases hc:c = 0
  · subst hc
    obtain ⟨h1,h2,hgv,hx1,hy1,hyn,i1,i2,i3,hL⟩:=hyes rfl
    have hok:L'.Ok:=by
      have ho:=HA.out.ok.lok
      subst hL
      refine ⟨ho.n1,ho.n16,ho.c1,ho.c8,fun i k hi hk => ?_,fun k hk => ?_⟩
      · show In64 (if i = m.toNat∧k = v.toNat then _ else if i = m.toNat∧k = g.toNat then _ else d.L.bal i k)
        split
        · exact i3
        · split
          · exact i1
          · exact ho.b64 i k hi hk
      · show In64 (if k = v.toNat then _ else if k = g.toNat then _ else d.L.nos k)
        have hvn:=Led.has_iff.1 h2
        have h64:=ho.n64 v.toNat (by have:=ho.c8; omega)
        split
        · unfold In64 at h64 ⊢; omega
        · split
          · exact i2
          · exact ho.n64 k hk
    have hnn:L'.n = d.L.n:=by rw [hL]; rfl
    have hcc:L'.c = d.L.c:=by rw [hL]; rfl
    have hnos:(∀ c,c < d.L.c→0≤d.L.nos c)→∀ c,c < d.L.c→0≤L'.nos c:=fun h0 c hc => by
      have hgn:=Led.has_iff.1 h1
      subst hL
      show 0≤if c = v.toNat then _ else if c = g.toNat then _ else d.L.nos c
      split
      · omega
      · split
        · have:=h0 g.toNat (by omega); omega
        · exact h0 c hc
    obtain ⟨hG,hS⟩:=HA.out.ledger (T:=fun _ => True) hl hk (.inl rfl) hnn hcc hok (fun j _ hj => absurd trivial hj)
    have HAN:=Lib.hid (Bk.anew0 hG)
    have HS:=Lib.hid hS
    have HNO:=Lib.hid (And.intro hnn (And.intro hcc hnos))
    clear hno hyes hl hk hG hS h1 h2 hgv hx1 hy1 hyn i1 i2 i3 hL hok hnn hcc hnos
    go_wp2_with fail
    refine HAN.out.mono ?_
    rintro e w2 ⟨fl,h2,rfl,hg2,hj2,hs2⟩
    change Judged { d with L:=L',flag:=fl } L'.n at hj2
    change Step w1 _ w2 h2 L'.n at hs2
    rw [HNO.out.1] at hj2 hs2
    have HG2:=Lib.hid hg2
    have HJ2:=Lib.hid hj2
    have HS2:=Lib.hid (HS.out.trans hs2)
    clear hg2 hj2 hs2
    go_wp2
    go_ret
    exact ⟨0,_,h2,rfl,HG2.out,HS2.out,⟨HNO.out.1,rfl⟩,judged_good (d:=d) (L:=L') HNO.out.1 HNO.out.2.1 HJ2.out HNO.out.2.2⟩
  · have hLL:=hno hc
    subst hLL
    have HAN:=Lib.hid (Bk.anewN (w:=w1) (g:=h.g) hc)
    have hgs:=HA.out.ledger (T:=fun _ => False) (L:=d.L) hl hk (.inl rfl) rfl rfl HA.out.ok.lok (fun j _ _ q _ => rfl)
    have HGS:=Lib.hid hgs
    clear hno hyes hc hl hk hgs
    go_wp2_with fail
    refine HAN.out.mono ?_
    rintro e w2 ⟨rfl,rfl⟩
    go_wp2
    go_ret
    exact ⟨c,d,h,rfl,HGS.out.1.less (fun m _ hs => by rcases hs with h | h <;> exact h.elim),HGS.out.2,⟨rfl,rfl⟩,id⟩
end Go.Proofs.YtgcnnbjbdfgglaaGreat
namespace Go.Proofs.YtgcnnbjbdfgglaaGreat
open Go.RowKit
theorem Led.out_ok {L:Led} (ho:L.Ok) {m c a:Int} (h:(L.out m c a).1 = 0):L.has m c = true∧1≤a∧a≤L.bal m.toNat c.toNat∧a≤L.nos c.toNat∧(L.out m c a).2 = (L.setB m.toNat c.toNat (L.bal m.toNat c.toNat - a)).setN c.toNat (L.nos c.toNat - a)∧(L.out m c a).2.Ok:=by
  unfold Led.out at h ⊢
  by_cases h1:L.has m c = true∧1≤a
  · rw [if_pos h1] at h ⊢
    by_cases h2:a≤L.bal m.toNat c.toNat∧a≤L.nos c.toNat
    · rw [if_pos h2] at h ⊢
      have hh:=Led.has_iff.1 h1.1
      have b64:=ho.b64 m.toNat c.toNat (by omega) (by have:=ho.c8; omega)
      have n64:=ho.n64 c.toNat (by have:=ho.c8; omega)
      refine ⟨h1.1,h1.2,h2.1,h2.2,rfl,ho.n1,ho.n16,ho.c1,ho.c8,fun i k hi hk => ?_,fun k hk => ?_⟩
      · show In64 (if i = m.toNat∧k = c.toNat then L.bal m.toNat c.toNat - a else L.bal i k)
        split
        · unfold In64 at *; omega
        · exact ho.b64 i k hi hk
      · show In64 (if k = c.toNat then L.nos c.toNat - a else L.nos k)
        split
        · unfold In64 at *; omega
        · exact ho.n64 k hk
    · rw [if_neg h2] at h; simp at h
  · rw [if_neg h1] at h; simp at h
theorem Led.out_no {L:Led} {m c a:Int} (h:(L.out m c a).1 ≠ 0):(L.out m c a).2 = L:=by
  unfold Led.out at h ⊢
  split
  · rename_i h1
    rw [if_pos h1] at h
    split
    · rename_i h2
      rw [if_pos h2] at h
      exact absurd rfl h
    · rfl
  · rfl
theorem good_out {d:Gd} {m c:Nat} (hm:m < d.L.n) {a:Int} (hp:PassB d m [⟨m,c,-a⟩]) (hn:a≤d.L.nos c) {L':Led} (hL:L' = (d.L.setB m c (d.L.bal m c - a)).setN c (d.L.nos c - a)) (hg:Good d):Good { d with L:=L' }:=by
  subst hL
  constructor
  · intro i hin hfl
    refine passB_nil.2 ?_
    show Passes d.t (d.lim i) (fun k => if i = m∧k = c then d.L.bal m c - a else d.L.bal i k)
    by_cases e:i = m
    · subst e
      obtain ⟨_,row,hr,hps⟩:=hp
      simp only [rowOf,if_true] at hr
      split at hr
      · simp only [Int.toNat_natCast,Option.some.injEq] at hr
        refine passes_congr (fun k _ => ?_) hps
        rw [← hr]
        unfold setRow
        by_cases e3:k = c
        · subst e3; simp; omega
        · rw [if_neg (by omega)]; simp [e3]
      · cases hr
    · refine passes_congr (fun k _ => ?_) (passB_nil.1 (hg.fl i hin hfl))
      rw [if_neg (fun h => e h.1)]
  · intro k hk
    show 0≤if k = c then d.L.nos c - a else d.L.nos k
    split
    · omega
    · exact hg.no k hk
set_option maxRecDepth 100000 in
set_option maxHeartbeats 4000000 in
theorem Bk.gout {w:World} {h:Gh} {d:Gd} (a:GuS w h d NoneS) (i k:Nat) (hi:i < d.L.n) (hk:k < d.t.n) (x:Int) (hx1:1≤x) (hx:In64 x) :
    Calls Tryz.prog 203 #[.pointer (some ⟨h.g,0,none⟩),.int .i64 i,.int .i64 k,.int .i64 x] w (TPost h d w):=by
  have g0:=a.c0
  have HA:=Lib.hid a
  have n8:=a.ok.tok.le
  have n16:=a.ok.lok.n16
  have hcn:=a.ok.c
  have HSZ:=Lib.hid (Bk.ledger_size a.led)
  have HC:=Lib.hid hcn
  have gl:=a.gu.lt
  have HM:=Lib.hid (And.intro hi hk)
  have q1:(i:Int) < (d.L.n:Int):=by omega
  have q2:(k:Int) < (d.t.n:Int):=by omega
  have hx9:x≤9223372036854775807:=by unfold In64 at hx; omega
  have HX:=Lib.hid hx
  clear a hcn hi hk hx
  go_enter Tryz.func203,Tryz.ntmps203
  go_wp2_with fail
  refine HSZ.out.mono ?_
  rintro e w1 ⟨rfl,q,rfl⟩
  have HB1:=Lib.hid (Bk.bdrew (Below.refl w.heap.size w) q)
  have HA1:=Lib.hid (HA.out.below HB1.out)
  have g0':=HA1.out.c0
  have g1':=HA1.out.c1
  have g3':=HA1.out.c3
  generalize w.drewN q = w1 at *
  have HH1:=Bk.gu_has HA1.out.at i
  rw [hasN_yes HM.out.1] at HH1
  have HH1:=Lib.hid HH1
  have W1:=Lib.hid (fun r => (⟨r,d,h,rfl,HA1.out,Step.of_below HB1.out _ _,⟨rfl,rfl⟩,id⟩:TPost h d w (.returned (.int .i64 r)) w1))
  have hget:=Bk.get HA1.out.led HA1.out.ok.lok i k
  have hnos:=Bk.nostro HA1.out.led HA1.out.ok.lok k
  have e1:d.L.get i k = d.L.bal i k:=by
    unfold Led.get
    rw [if_pos (Led.has_iff.2 (by have:=HC.out; omega))]
    simp
  have e2:d.L.nostro k = d.L.nos k:=by
    unfold Led.nostro
    rw [if_pos (Led.has_iff.2 (by have:=HC.out; have:=HA1.out.ok.lok.n1; omega))]
    simp
  rw [e1] at hget
  rw [e2] at hnos
  have HGET:=Lib.hid hget
  have HNOS:=Lib.hid hnos
  have cf:=HA1.out.flags.cell1 HM.out.1
  have HBA:=Lib.hid ((Below.refl w1.heap.size w1).alloc (Nat.le_refl _) (.cells #[.int .i64 i,.int .i64 k,.int .i64 (-x)] 69))
  have HA2:=Lib.hid (HA1.out.below HBA.out)
  have HF:=Lib.hid (Bk.fails HA2.out.at i HM.out.1 _ [⟨i,k,-x⟩] (one_posting w1 i k (-x)) (by simp) (by simp; unfold In64; omega))
  have q8:(d.t.n:Int)≤8:=by omega
  have q16:(d.L.n:Int)≤16:=by omega
  have qc:(d.L.c:Int) = d.t.n:=by rw [HC.out]
  rw [qc]
  have EB:=Lib.hid (rfl:d.L.bal i k = d.L.bal i k)
  clear g0 hget hnos e1 e2 qc EB
  have OUTC:=Lib.hid (fun (w3:World) (hb3:Below w1.heap.size w1 w3) => Bk.outt (HA1.out.below hb3).led (HA1.out.below hb3).ok.lok i k x HX.out)
  cases hfi:d.flag i with
  | true =>
    rw [hfi] at cf
    clear hfi
    go_wp2_with fail
    refine HH1.out.mono ?_
    rintro e w2 ⟨rfl,rfl⟩
    go_wp2
    go_ret
    exact W1.out 10
  | false =>
    rw [hfi] at cf
    clear hfi
    by_cases hb1:x≤d.L.bal i k
    · by_cases hn1:x≤d.L.nos k
      · have HLE:=Lib.hid (And.intro hb1 hn1)
        generalize d.L.bal i k = B at *
        generalize d.L.nos k = N at *
        go_wp2_with fail
        refine HH1.out.mono ?_
        rintro e w2 ⟨rfl,rfl⟩
        go_wp2_with fail
        refine HGET.out.mono ?_
        rintro e w3 ⟨rfl,rfl⟩
        go_wp2_with fail
        refine HNOS.out.mono ?_
        rintro e w4 ⟨rfl,rfl⟩
        go_wp2_with fail
        refine HF.out.mono ?_
        rintro e w5 ⟨v,rfl,hb5,hiff⟩
        have HB5:=Lib.hid (HBA.out.trans (hb5.mono HBA.out.size))
        have HA5:=Lib.hid (HA2.out.below hb5)
        have HI5:=Lib.hid hiff
        clear hb5 hiff HF
        by_cases hv:v = 0
        · subst hv
          have HPB:=Lib.hid (HI5.out.1 rfl)
          have g0:=HA5.out.c0
          have g1:=HA5.out.c1
          have HOUT:=Lib.hid (OUTC.out w5 HB5.out)
          go_wp2_with fail
          refine HOUT.out.mono ?_
          rintro e w6 ⟨rfl,hl6,hk6⟩
          by_cases hz:(d.L.out i k x).1 = 0
          · obtain ⟨o1,o2,o3,o4,o5,o6⟩:=Led.out_ok HA5.out.ok.lok hz
            have hnn:(d.L.out i k x).2.n = d.L.n:=by rw [o5]; rfl
            have hcc:(d.L.out i k x).2.c = d.L.c:=by rw [o5]; rfl
            obtain ⟨hG6,hS6⟩:=HA5.out.ledger (T:=fun j => j = i) hl6 hk6 (.inl rfl) hnn hcc o6 (fun j _ hj q _ => by
              rw [o5]
              show (if j = _∧q = _ then _ else d.L.bal j q) = _
              rw [if_neg (fun h => hj (by simpa using h.1))])
            have HEQ:=Lib.hid o5
            have HNN:=Lib.hid hnn
            have HLE2:=Lib.hid o4
            have HG6:=Lib.hid hG6
            have HS6:=Lib.hid ((Step.of_below (HB1.out.trans (HB5.out.mono HB1.out.size)) h d.L.n).trans hS6)
            have g1':w6.cell? ⟨h.g,1,none⟩ = some (.pointer (some ⟨h.wb,0,none⟩)):=hG6.c1
            have HMV:=Lib.hid (Bk.gmoved hG6 i (by show i < (d.L.out i k x).2.n; rw [hnn]; exact HM.out.1))
            rw [hz]
            clear hz o1 o2 o3 o4 o5 o6 hG6 hS6 hl6 hk6 g0 g1 hnn hcc HOUT OUTC
            go_wp2_with fail
            refine HMV.out.mono ?_
            rintro e w7 ⟨h7,rfl,hg7,hst7⟩
            change Step w6 _ w7 h7 (d.L.out i k x).2.n at hst7
            rw [HNN.out] at hst7
            have HG7:=Lib.hid (hg7.less (T:=NoneS) (fun j _ hj => hj.2 (hj.1.resolve_left id)))
            have HS7:=Lib.hid (HS6.out.trans hst7)
            clear hg7 hst7 g1'
            go_wp2
            go_ret
            exact ⟨0,_,h7,rfl,HG7.out,HS7.out,⟨HNN.out,rfl⟩,good_out (d:=d) HM.out.1 HPB.out (by simpa using HLE2.out) (L':=(d.L.out i k x).2) (by simpa using HEQ.out)⟩
          · have hl7:LedAt w6 h.l h.r h.cap d.L:=by rw [Led.out_no hz] at hl6; exact hl6
            have hgs:=HA5.out.ledger (T:=fun _ => False) (L:=d.L) hl7 hk6 (.inl rfl) rfl rfl HA5.out.ok.lok (fun j _ _ q _ => rfl)
            have HGS:=Lib.hid (hgs.1.less (T:=NoneS) (fun m _ hs => by rcases hs with h | h <;> exact h.elim))
            have HSS:=Lib.hid ((Step.of_below (HB1.out.trans (HB5.out.mono HB1.out.size)) h d.L.n).trans hgs.2)
            have HMV:=Lib.hid (Bk.gmoved HGS.out i HM.out.1)
            have g1':w6.cell? ⟨h.g,1,none⟩ = some (.pointer (some ⟨h.wb,0,none⟩)):=HGS.out.c1
            clear hz hgs hl6 hl7 hk6 g0 g1 HOUT OUTC
            generalize (d.L.out i k x).1 = z at *
            go_wp2_with fail
            refine HMV.out.mono ?_
            rintro e w7 ⟨h7,rfl,hg7,hst7⟩
            have HG7:=Lib.hid (hg7.less (T:=NoneS) (fun j _ hj => hj.1))
            have HS7:=Lib.hid (HSS.out.trans hst7)
            clear hg7 hst7 g1'
            go_wp2
            go_ret
            exact ⟨z,d,h7,rfl,HG7.out,HS7.out,⟨rfl,rfl⟩,id⟩
        · have hvn:(v != 0) = true:=by simp [hv]
          clear hv
          go_wp2
          go_ret
          exact ⟨10,d,h,rfl,HA5.out,Step.of_below (HB1.out.trans (HB5.out.mono HB1.out.size)) _ _,⟨rfl,rfl⟩,id⟩
      · generalize d.L.bal i k = B at *
        generalize d.L.nos k = N at *
        go_wp2_with fail
        refine HH1.out.mono ?_
        rintro e w2 ⟨rfl,rfl⟩
        go_wp2_with fail
        refine HGET.out.mono ?_
        rintro e w3 ⟨rfl,rfl⟩
        go_wp2_with fail
        refine HNOS.out.mono ?_
        rintro e w4 ⟨rfl,rfl⟩
        go_wp2
        go_ret
        exact W1.out 10
    · generalize d.L.bal i k = B at *
      go_wp2_with fail
      refine HH1.out.mono ?_
      rintro e w2 ⟨rfl,rfl⟩
      go_wp2_with fail
      refine HGET.out.mono ?_
      rintro e w3 ⟨rfl,rfl⟩
      go_wp2
      go_ret
      exact W1.out 10
end Go.Proofs.YtgcnnbjbdfgglaaGreat
namespace Go.Proofs.YtgcnnbjbdfgglaaGreat
open Go.RowKit
theorem Bk.infoAcc:(Tryz.prog.info? 243).map (fun i => (i.zero,i.size,i.bytes)) = some (some (.agg zero7),7,104):=by kernel_rfl
theorem Bk.makeAcc (n:Nat) (hn:n≤16) (w:World):(Instr.makeSlice 234 (.int .i64 n) (.int .i64 n)).run Tryz.prog w = .ok (.slice (some ⟨w.heap.size,0,none⟩) n n) (w.alloc (.cells (madeCells zero7 (n * 7)) 243)):=by
  obtain ⟨i0,hi,hz0,hz1,hz2⟩:=info_parts Bk.infoAcc
  have:=run_make (P:=Tryz.prog) w 234 243 i0 _ Tryz.underlying234 hi hz0 .i64 .i64 n n (by omega) (Int.le_refl _) (by rw [hz2]; omega) (by omega)
  rw [hz1] at this
  simp only [Int.toNat_natCast] at this
  exact this
theorem made_accs (w:World) (n:Nat):RowK (w.alloc (.cells (madeCells zero7 (n * 7)) 243)) w.heap.size 7 n (fun _ j => zero7.getD j default):=by
  refine ⟨_,_,heap_alloc_new _ _,fun m k hm hk => ?_⟩
  have h1:m * 7 + k < n * 7:=by omega
  have h2:(m * 7 + k) % 7 = k:=by omega
  have h3:(Array.range (n * 7))[m * 7 + k]? = some (m * 7 + k):=by simp [h1]
  unfold madeCells
  rw [Array.getElem?_map,h3]
  show some (zero7.getD ((m * 7 + k) % 7) default) = _
  rw [h2]
def CkOne (n:Nat) (code:Nat→ByteArray) (rate cut:Nat→Int):Prop:=n = 1∧Caps (code 0)∧(code 0).size = 3∧rate 0 = 10000∧cut 0 = 0
def ratesOf (n:Nat) (rate cut:Nat→Int):Rates:=⟨n,rate,cut⟩
theorem ckRates.ok {n:Nat} {rate cut:Nat→Int} (h:ckRates n rate cut):(ratesOf n rate cut).Ok:=⟨h.2.1,h.1,fun i hi => fitsB_ok (h.2.2 i hi)⟩
theorem TabIn.slT {w:World} {v:Value} {n:Nat} {code:Nat→ByteArray} {rate cut:Nat→Int} (h:TabIn w v n code rate cut) (hn:0 < n):SlT w v (ratesOf n rate cut) code:=by
  obtain ⟨a,c,rfl,h1⟩:=h
  obtain ⟨b,o,rfl,h2⟩:=h1 hn
  refine ⟨b,o,c,rfl,fun i hi => ⟨?_,?_,?_⟩⟩
  · exact h2 i 0 hi (by omega)
  · have:=h2 i 1 hi (by omega); rw [← Nat.add_assoc] at this; exact this
  · have:=h2 i 2 hi (by omega); rw [← Nat.add_assoc] at this; exact this
structure AccTo (w:World) (H k:Nat) (t:Rates) (L:Led) (A:Nat→Nat→Value) (bm gw gs:Nat→Nat):Prop where
  ac:∀ m,m < k→AccOK w t (L.bal m) (A m) (bm m) (gw m) (gs m)
  ge:∀ m,m < k→H≤bm m∧H≤gw m∧H≤gs m
  inj:∀ m j,m < k→j < k→(gw m = gw j→m = j)∧(gs m = gs j→m = j)∧gw m ≠ gs j
def WnPost (n:Nat) (code:Nat→ByteArray) (rate cut:Nat→Int) (l:Nat) (L:Led) (w:World) (e:Ending) (w':World):Prop:=∃ c:Int,0≤c∧c≤12∧(CkOne n code rate cut→c = 0)∧Below w.heap.size w w'∧(c ≠ 0→e = .returned (.tuple #[.pointer none,.int .i64 c])) ∧
  (c = 0→ckRates n rate cut∧∃ wb tb tc ab ca A bm gw gs,e = .returned (.tuple #[.pointer (some ⟨wb,0,none⟩),.int .i64 0])∧WorAt w' wb (.slice (some ⟨tb,0,none⟩) n tc) l (.slice (some ⟨ab,0,none⟩) L.n ca)∧SlT w' (.slice (some ⟨tb,0,none⟩) n tc) (ratesOf n rate cut) code∧Ty w' tb 82 ∧
    RowK w' ab 7 L.n A∧Ty w' ab 243∧AccTo w' w.heap.size L.n (ratesOf n rate cut) L A bm gw gs∧w.heap.size≤wb∧w.heap.size≤tb∧w.heap.size≤ab)
structure WorNew (w0:World) (N l wb tb tc ab ca:Nat) (t:Rates) (code:Nat→ByteArray) (A:Nat→Nat→Value) (w:World):Prop where
  wor:WorAt w wb (.slice (some ⟨tb,0,none⟩) t.n tc) l (.slice (some ⟨ab,0,none⟩) N ca)
  tab:SlT w (.slice (some ⟨tb,0,none⟩) t.n tc) t code
  tty:Ty w tb 82
  acc:RowK w ab 7 N A
  aty:Ty w ab 243
  hw:w0.heap.size≤wb
  ht:w0.heap.size≤tb
  ha:w0.heap.size≤ab
  below:Below w0.heap.size w0 w
theorem AccTo.none (w:World) (H:Nat) (t:Rates) (L:Led) (A:Nat→Nat→Value) (bm gw gs:Nat→Nat):AccTo w H 0 t L A bm gw gs:=⟨fun m h => by omega,fun m h => by omega,fun m j h => by omega⟩
theorem AccTo.next {w0 w w':World} {N l wb tb tc ab ca k:Nat} {t:Rates} {code:Nat→ByteArray} {L:Led} {A:Nat→Nat→Value} {bm gw gs:Nat→Nat} (h:WorNew w0 N l wb tb tc ab ca t code A w) (ha:AccTo w w0.heap.size k t L A bm gw gs) {A':Nat→Value} {b g s:Nat}
    (hac:AccOK w' t (L.bal k) A' b g s) (hb:w.heap.size≤b) (hg:w.heap.size≤g) (hs:w.heap.size≤s) (hr:RowK w' ab 7 N (fun i j => if i = k then A' j else A i j)) (hty:Ty w' ab 243) (hk:Kept (fun q => q = ab) w w') :
    WorNew w0 N l wb tb tc ab ca t code (fun i j => if i = k then A' j else A i j) w'∧AccTo w' w0.heap.size (k + 1) t L (fun i j => if i = k then A' j else A i j) (fun i => if i = k then b else bm i) (fun i => if i = k then g else gw i) (fun i => if i = k then s else gs i):=by
  have hsz:=h.below.size
  have hst:∀ q T,Ty w q T→T ≠ 243→w'.heap[q]? = w.heap[q]?:=fun q T hq hT => hk.block q hq.lt (fun e => by subst e; exact Ty.ne hq h.aty hT rfl)
  have h1:=hst wb _ h.wor.ty (by decide)
  have h2:=hst tb _ h.tty (by decide)
  refine ⟨⟨?_,?_,h.tty.same h2,hr,hty,h.hw,h.ht,h.ha,h.below.trans (hk.below h.below.size (fun q hq => by rw [hq]; exact h.ha))⟩,⟨fun m hm => ?_,fun m hm => ?_,fun m j hm hj => ?_⟩⟩
  · have:=h.wor; unfold WorAt at this ⊢; rw [h1]; exact this
  · obtain ⟨b0,o0,c0,he,h3⟩:=h.tab
    cases he
    exact ⟨_,_,_,rfl,fun i hi => ⟨Bk.cell_heap h2 (h3 i hi).1,Bk.cell_heap h2 (h3 i hi).2.1,Bk.cell_heap h2 (h3 i hi).2.2⟩⟩
  · by_cases e:m = k
    · subst e; simp only [if_true]; exact hac
    · simp only [e,if_false]
      have a:=ha.ac m (by omega)
      exact a.same (hst _ _ a.tb (by decide)) (hst _ _ a.tw (by decide)) (hst _ _ a.ts (by decide))
  · by_cases e:m = k
    · subst e; simp only [if_true]; omega
    · simp only [e,if_false]; exact ha.ge m (by omega)
  · have lt:∀ m,m < k→gw m < w.heap.size∧gs m < w.heap.size:=fun m hm => ⟨(ha.ac m hm).tw.lt,(ha.ac m hm).ts.lt⟩
    by_cases e:m = k
    · by_cases e2:j = k
      · subst e; subst e2; simp only [if_true]; exact ⟨fun _ => trivial,fun _ => trivial,hac.ne⟩
      · have:=lt j (by omega)
        simp only [e,e2,if_true,if_false]; exact ⟨fun h => by omega,fun h => by omega,by omega⟩
    · by_cases e2:j = k
      · have:=lt m (by omega)
        simp only [e,e2,if_true,if_false]; exact ⟨fun h => by omega,fun h => by omega,by omega⟩
      · simp only [e,e2,if_false]; exact ha.inj m j (by omega) (by omega)
theorem WorNew.of {w0 w:World} {t:Rates} {code:Nat→ByteArray} {N l tb tc ab ca:Nat} {A:Nat→Nat→Value} (hb:Below w0.heap.size w0 w) (hrow:RowK w tb 3 t.n (t.cell code)) (hty:Ty w tb 82) (hacc:RowK w ab 7 N A) (haty:Ty w ab 243) (ht:w0.heap.size≤tb) (ha:w0.heap.size≤ab) :
    WorNew w0 N l w.heap.size tb tc ab ca t code A (w.alloc (.cells #[.slice (some ⟨tb,0,none⟩) t.n tc,.pointer (some ⟨l,0,none⟩),.slice (some ⟨ab,0,none⟩) N ca] 236)) :=
  have hA:=(Below.refl w.heap.size w).alloc (Nat.le_refl _) (.cells #[.slice (some ⟨tb,0,none⟩) t.n tc,.pointer (some ⟨l,0,none⟩),.slice (some ⟨ab,0,none⟩) N ca] 236)
  ⟨heap_alloc_new w _,(SlT.of_row hrow).below hA,hty.below hA,hacc.below hA,haty.below hA,hb.size,ht,ha,hb.alloc hb.size _⟩
set_option maxRecDepth 100000 in
set_option maxHeartbeats 8000000 in
theorem Bk.wnew {w:World} {v:Value} {n:Nat} {code:Nat→ByteArray} {rate cut:Nat→Int} (h:TabIn w v n code rate cut) (hn:(n:Int)≤4000) {l r cap:Nat} {L:Led} (hl:LedAt w l r cap L) (hlo:L.Ok) (hc:L.c = n):Calls Tryz.prog 90 #[v,.pointer (some ⟨l,0,none⟩)] w (WnPost n code rate cut l L w):=by
  subst hc
  have HCK:=Lib.hid (Bk.check h hn)
  have HH:=Lib.hid h
  have HL:=Lib.hid (And.intro hl hlo)
  obtain ⟨va,vc,rfl,-⟩:=h
  clear hl
  go_enter Tryz.func90,Tryz.ntmps90
  go_wp2_with fail
  refine HCK.out.mono ?_
  rintro e w1 ⟨c,rfl,hc0,hc1,hck,hone,hb1⟩
  have HB1:=Lib.hid hb1
  have HCR:=Lib.hid hck
  have HONE:=Lib.hid (show CkOne L.c code rate cut→c = 0 from fun h => hone h.1 h.2.1 h.2.2.1 h.2.2.2.1 h.2.2.2.2)
  clear hck hone hb1 HCK
  rcases eqz c 0 with ⟨a1,a2,a3⟩ | ⟨a1,a2,a3⟩
  · subst a1
    clear a2 a3 hc0 hc1
    have hcr:=HCR.out rfl
    have HCR2:=Lib.hid hcr
    have HSZ:=Lib.hid (Bk.ledger_size (HL.out.1.below HB1.out))
    go_wp2_with fail
    refine HSZ.out.mono ?_
    rintro e w2 ⟨rfl,nq,rfl⟩
    have HB2:=Lib.hid (Bk.bdrew HB1.out nq)
    generalize w1.drewN nq = w2 at *
    have hto:=hcr.ok
    have hst:=TabIn.slT (SlK.below HH.out HB2.out) hto.pos
    have HST:=Lib.hid hst
    have HCL:=Lib.hid (fun (wx:World) (hb:Below w2.heap.size w2 wx) => Bk.cloneCur hto.pos (by have:=hto.le; omega) (hst.below hb).slK (fun i j hi hj => by rcases (by omega:j = 0∨j = 1∨j = 2) with rfl | rfl | rfl <;> rfl))
    change Hid (∀ wx,Below w2.heap.size w2 wx→Calls _ _ #[Value.slice va L.c vc] wx (Cloned 82 3 L.c ((ratesOf L.c rate cut).cell code) wx)) at HCL
    have hmk:=Bk.makeAcc L.n hlo.n16
    have HD1:=Lib.hid ((Below.refl w2.heap.size w2).drew)
    have HD2:=Lib.hid (HD1.out.alloc (Nat.le_refl _) (.cells (madeCells zero7 (L.n * 7)) 243))
    clear hst hto hcr HSZ HCR
    go_upto_region 9 with (fail)
    go_cut [9] from 11 (fun p wc => ∃ wb tb tc ab ca A,p = .pointer (some ⟨wb,0,none⟩)∧Hid (WorNew w L.n l wb tb tc ab ca (ratesOf L.c rate cut) code A wc))
    case first =>
      go_region_with (first | (go_at_call 72; refine (HCL.out _ (by first | exact HD1.out | exact HD2.out)).mono ?_; rintro e w5 ⟨g,cc,rfl,hrow,hcc,hg,hty,hb5⟩))
      all_goals (go_wp2_with fail; go_meet)
      case rel =>
        have hB5:=HB2.out.drew.trans (hb5.mono HB2.out.drew.size)
        have hA5:=(Below.refl w5.heap.size w5).alloc (Nat.le_refl _) (.cells (madeCells zero7 (L.n * 7)) 243)
        have hg2:=Nat.le_trans HB2.out.drew.size hg
        have hw:=WorNew.of (t:=ratesOf L.c rate cut) (l:=l) (tc:=cc) (ca:=L.n) (hB5.alloc hB5.size (.cells (madeCells zero7 (L.n * 7)) 243)) (hrow.below hA5) (hty.below hA5) (made_accs w5 L.n) ⟨_,heap_alloc_new w5 _⟩ hg2 hB5.size
        rw [World.size_alloc] at hw
        exact ⟨_,_,_,_,_,_,rfl,Lib.hid hw⟩
      case rel =>
        have hB3:=(HB2.out.alloc HB2.out.size (.cells (madeCells zero7 (L.n * 7)) 243)).drew
        have hB5:=hB3.trans (hb5.mono hB3.size)
        have hm:=(made_accs w2 L.n).below (Below.refl _ _).drew
        have hg2:=Nat.le_trans hB3.size hg
        have hw:=WorNew.of (t:=ratesOf L.c rate cut) (l:=l) (tc:=cc) (ca:=L.n) hB5 hrow hty (hm.below hb5) (Ty.below (Ty.below ⟨_,heap_alloc_new w2 _⟩ (Below.refl _ _).drew) hb5) hg2 HB2.out.size
        exact ⟨_,_,_,_,_,_,rfl,Lib.hid hw⟩
    case rest =>
      obtain ⟨wb,tb,tc,ab,ca,A,rfl,HW⟩:=hcut
      have HTO:=Lib.hid HCR2.out.ok
      have q0:(L.n:Int)≤16:=by have:=hlo.n16; omega
      clear hmk HD1 HD2 HCL HST HB2 hn
      go_wp2
      go_loopw [35] (fun i wr => ∃ (k:Nat) (A:Nat→Nat→Value) (bm gw gs:Nat→Nat),k≤L.n∧i = .int .i64 k∧Hid (WorNew w L.n l wb tb tc ab ca (ratesOf L.c rate cut) code A wr)∧Hid (AccTo wr w.heap.size k (ratesOf L.c rate cut) L A bm gw gs)) (fun i _ => L.n - (intOf i).toNat)
      case atStart => exact ⟨0,A,fun _ => 0,fun _ => 0,fun _ => 0,by omega,rfl,HW,Lib.hid (AccTo.none _ _ _ _ _ _ _ _)⟩
      case round =>
        clear HW
        obtain ⟨k,A,bm,gw,gs,hk,rfl,HW,HA⟩:=hrel
        by_cases hlt:k < L.n
        · have q1:(k:Int) < (L.n:Int):=by omega
          have HM:=Lib.hid (Bk.moved HW.out.wor HW.out.tab HTO.out (HL.out.1.below HW.out.below) HL.out.2 rfl HW.out.acc HW.out.aty k hlt rfl)
          go_wp2_with fail
          refine HM.out.mono ?_
          rintro e w6 ⟨A',b,g,s,rfl,hac,hb,hg,hs,hr,hty,hkp⟩
          obtain ⟨h1,h2⟩:=AccTo.next HW.out HA.out hac hb hg hs hr hty hkp
          have H1:=Lib.hid h1
          have H2:=Lib.hid h2
          clear hac hb hg hs hr hty hkp h1 h2
          go_wp2
          go_roundw
          case rel => exact ⟨k + 1,_,_,_,_,by omega,by go_num,H1,H2⟩
          case measure => simp [intOf]; omega
        · obtain rfl:k = L.n:=by omega
          go_wp2
          go_ret2
          exact ⟨0,by omega,by omega,fun _ => rfl,HW.out.below,fun h => absurd rfl h,fun _ => ⟨HCR2.out,wb,tb,tc,ab,ca,A,bm,gw,gs,rfl,HW.out.wor,HW.out.tab,HW.out.tty,HW.out.acc,HW.out.aty,HA.out,HW.out.hw,HW.out.ht,HW.out.ha⟩⟩
  · have a4:(c != 0) = true:=by simpa using a1
    have HA:=Lib.hid a1
    clear a1
    go_wp2
    go_ret2
    exact ⟨c,hc0,hc1,HONE.out,HB1.out,fun _ => rfl,fun h => absurd h HA.out⟩
end Go.Proofs.YtgcnnbjbdfgglaaGreat
