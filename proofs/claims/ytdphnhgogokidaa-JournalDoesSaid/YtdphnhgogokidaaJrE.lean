/- The journal and the document's, side by side. -/
import Derived.Test.YtdphnhgogokidaaJrD
namespace Go.Proofs.Ytdphnhgogokidaa
open Go.RowKit

theorem scan_len8 (l : List UInt8) : 8 * (scan l).1.length ≤ l.length := by
  suffices h : ∀ n (l : List UInt8), l.length ≤ n → 8 * (scan l).1.length ≤ l.length from h l.length l (Nat.le_refl _)
  intro n
  induction n with
  | zero => intro l hl; rw [scan_nil (by omega)]; simp
  | succ n ih =>
    intro l hl
    by_cases h0 : l.length = 0
    · rw [scan_nil h0]; simp
    by_cases h8 : l.length < 8
    · rw [scan_short (by omega) h8]; simp
    by_cases hn : 65536 < rd (l.take 4)
    · rw [scan_big (by omega) hn]; simp
    by_cases ht : l.length < 8 + rd (l.take 4)
    · rw [scan_torn (by omega) hn ht]; simp
    by_cases hc : Crc.check ((l.drop 8).take (rd (l.take 4))) = rd ((l.drop 4).take 4)
    · rw [scan_one (by omega) hn ht hc]
      have := ih (l.drop (8 + rd (l.take 4))) (by rw [List.length_drop]; omega)
      rw [List.length_drop] at this
      dsimp only
      rw [List.length_cons]
      omega
    · rw [scan_bad (by omega) hn ht hc]; split <;> simp
theorem fol_len (base : Nat) : ∀ (L : List (List UInt8)) (f : Bool) (nx : Nat) (rs : List (List UInt8)), fol base f nx L = some rs → rs.length ≤ L.length
  | [], _, _, rs, h => by simp only [fol, Option.some.injEq] at h; subst h; simp
  | x :: L, f, nx, rs, h => by
    rw [fol] at h
    split at h
    · cases h
    · rename_i n t _
      split at h
      · cases h
      · cases hr : fol base false (n + 1) L with
        | none => rw [hr] at h; cases h
        | some r =>
          rw [hr] at h
          have h1 := fol_len base L false (n + 1) r hr
          simp only [Option.map_some, Option.some.injEq] at h
          subst h
          split
          · simp; omega
          · simp; omega
/-- no file has more than M bytes. -/
def Sz (M : Nat) (d : Dk) : Prop := ∀ i, (d.b i).length ≤ M
theorem Sz.mono {M N : Nat} {d : Dk} (h : Sz M d) (hm : M ≤ N) : Sz N d := fun i => Nat.le_trans (h i) hm
theorem Sz.step {M N : Nat} {d : Dk} {f : Dk → Out} (h : Sz M d) (hm : M ≤ N) (hf : ∀ c : Dk, c.b = d.b → Sz N (f c).dk) : Sz N (d.step f).dk := by
  rcases step_cases d f with e | e
  · rw [e]; exact h.mono hm
  · rw [e]; exact hf _ (burnt_b d)
theorem Sz.append {M : Nat} {d : Dk} (h : Sz M d) (i : Int) (f : List UInt8) : Sz (M + f.length) (d.append i f).dk := by
  unfold Dk.append
  split
  · refine Sz.step h (by omega) (fun c hc => ?_)
    unfold Dk.app
    split
    · intro k; rw [hc]; have := h k; omega
    · intro k
      have h1 := h k
      show (upd c.b i.toNat (c.b i.toNat ++ f) k).length ≤ _
      rw [hc]
      unfold upd
      split
      · rename_i e; rw [List.length_append, ← e]; omega
      · omega
  · exact h.mono (by omega)
theorem Sz.sync {M : Nat} {d : Dk} (h : Sz M d) (i : Int) : Sz M (d.sync i).dk := by
  unfold Dk.sync
  split
  · exact Sz.step h (Nat.le_refl _) (fun c hc k => by show (c.b k).length ≤ M; rw [hc]; exact h k)
  · exact h
theorem Sz.cutto {M : Nat} {d : Dk} (h : Sz M d) (i n : Int) : Sz M (d.cutto i n).dk := by
  unfold Dk.cutto
  split
  · refine Sz.step h (Nat.le_refl _) (fun c hc k => ?_)
    have h1 := h k
    show (upd c.b i.toNat ((c.b i.toNat).take n.toNat) k).length ≤ M
    rw [hc]
    unfold upd
    split
    · rename_i e; rw [List.length_take, ← e]; omega
    · exact h1
  · exact h
theorem Sz.move {M : Nat} {d : Dk} (h : Sz M d) (i j : Int) : Sz M (d.move i j).dk := by
  unfold Dk.move
  split
  · refine Sz.step h (Nat.le_refl _) (fun c hc => ?_)
    unfold Dk.mov
    split
    · intro k; show (c.b k).length ≤ M; rw [hc]; exact h k
    · intro k
      show (upd (upd c.b j.toNat (c.b i.toNat)) i.toNat [] k).length ≤ M
      rw [hc]
      unfold upd
      split
      · simp
      · split
        · exact h _
        · exact h k
  · exact h
theorem Sz.zcut {M : Nat} {d : Dk} (h : Sz M d) (i n : Nat) : Sz M (cutx i n d).dk := by
  unfold cutx
  split
  · exact h
  · exact h.cutto _ _
theorem Sz.crash {M : Nat} {d : Dk} (h : Sz M d) (kept : Nat → Int) : Sz M (d.crash kept) := by
  intro k
  have h1 := h k
  show ((d.crashTo kept 4).b k).length ≤ M
  unfold Dk.crashTo
  dsimp only
  split
  · rw [List.length_take]; omega
  · exact h1
theorem Sz.zrun {M : Nat} : ∀ (L : List (Dk → Out)), (∀ F ∈ L, ∀ d : Dk, Sz M d → Sz M (F d).dk) → ∀ d : Dk, Sz M d → Sz M (runF L d).dk
  | [], _, _, h => h
  | F :: L, hL, d, h => by
    by_cases hc : (F d).code = 0
    · rw [runF_go hc]; exact Sz.zrun L (fun G hG => hL G (List.mem_cons_of_mem _ hG)) _ (hL F (List.mem_cons_self ..) d h)
    · rw [runF_stop hc]; exact hL F (List.mem_cons_self ..) d h
theorem Sz.zop {M : Nat} {d : Dk} (h : Sz M d) (e : Nat) : Sz M (opS e d).dk := by
  refine Sz.zrun _ ?_ d h
  intro F hF c hc
  simp only [List.mem_cons, List.not_mem_nil, or_false] at hF
  rcases hF with rfl | rfl
  · exact hc.zcut 0 e
  · exact hc.zcut 2 0
theorem Sz.zapp {M : Nat} {d : Dk} (h : Sz M d) (f : List UInt8) : Sz (M + f.length) (stA f d).dk := by
  unfold stA
  split
  · split
    · exact (h.append 0 f).sync 0
    · exact (h.append 0 f).sync 0
  · exact h.append 0 f
theorem Sz.zsnap {M : Nat} {d : Dk} (h : Sz M d) (f : List UInt8) : Sz (M + f.length) (stS f d).dk := by
  unfold stS snapF
  have h1 := h.zcut 2 0
  by_cases c1 : (cutx 2 0 d).code = 0
  · rw [runF_go c1]
    have h2 := h1.append 2 f
    generalize (cutx 2 0 d).dk = d1 at *
    by_cases c2 : (d1.append 2 f).code = 0
    · rw [runF_go (F := fun d => d.append 2 f) c2]
      refine Sz.zrun _ ?_ _ h2
      intro F hF c hc
      simp only [List.mem_cons, List.not_mem_nil, or_false] at hF
      rcases hF with rfl | rfl | rfl
      · exact hc.sync 2
      · exact hc.move 2 1
      · exact hc.cutto 0 0
    · rw [runF_stop (F := fun d => d.append 2 f) c2]; exact h2
  · rw [runF_stop c1]; exact h1.mono (by omega)
/-- what a journal holds is bounded, behind k calls on M bytes. -/
structure Bd (k M : Nat) (j : Jn) : Prop where
  hb : (j.base : Int) ≤ 4611686018427387903 + 4000 * k
  hr : 8 * j.recs.length ≤ M
theorem Bd.mono {k M l N : Nat} {j : Jn} (h : Bd k M j) (hk : k ≤ l) (hM : M ≤ N) : Bd l N j := ⟨by have := h.hb; omega, by have := h.hr; omega⟩
theorem openJ_bd {d d' : Dk} {c : Int} {j : Jn} {M : Nat} (hs : Sz M d) (h : openJ d = (c, some j, d')) (k : Nat) : c = 0 ∧ Bd k M j ∧ Sz M d' := by
  unfold openJ at h
  split at h
  · cases h
  · rename_i n t hsn
    split at h
    · cases h
    · split at h
      · cases h
      · rename_i rs hf
        split at h
        · simp only [Prod.mk.injEq, Option.some.injEq] at h
          obtain ⟨rfl, rfl, rfl⟩ := h
          have h1 := snapOf_lt hsn
          have h2 := fol_len _ _ _ _ _ hf
          have h3 := scan_len8 (d.b 0)
          have h4 := hs 0
          refine ⟨rfl, ⟨?_, ?_⟩, hs.zop _⟩
          · dsimp only; omega
          · dsimp only; omega
        · simp only [Prod.mk.injEq] at h
          exact absurd h.2.1 (by simp)
theorem openJ_sz {d d' : Dk} {c : Int} {oj : Option Jn} {M : Nat} (hs : Sz M d) (h : openJ d = (c, oj, d')) : Sz M d' := by
  unfold openJ at h
  split at h
  · simp only [Prod.mk.injEq] at h; rw [← h.2.2]; exact hs
  · split at h
    · simp only [Prod.mk.injEq] at h; rw [← h.2.2]; exact hs
    · split at h
      · simp only [Prod.mk.injEq] at h; rw [← h.2.2]; exact hs
      · split at h
        · simp only [Prod.mk.injEq] at h; rw [← h.2.2]; exact hs.zop _
        · simp only [Prod.mk.injEq] at h; rw [← h.2.2]; exact hs.zop _
theorem appJ_bd {d : Dk} {j : Jn} {k M : Nat} (hs : Sz M d) (hb : Bd k M j) (r : List UInt8) : Bd (k + 1) (M + (r.length + 16)) (appJ j d r).2.1 ∧ Sz (M + (r.length + 16)) (appJ j d r).2.2 := by
  have hF : (recF j r).length = r.length + 16 := frame_len _ _
  have h1 := hs.zapp (recF j r)
  rw [hF] at h1
  have h2 := hb.hb
  have h3 := hb.hr
  unfold appJ
  split
  · exact ⟨hb.mono (by omega) (by omega), hs.mono (by omega)⟩
  · split
    · refine ⟨⟨by dsimp only; omega, ?_⟩, h1⟩
      dsimp only
      rw [List.length_append]
      simp
      omega
    · exact ⟨⟨by dsimp only; omega, by dsimp only; omega⟩, h1⟩
theorem snapJ_bd {d : Dk} {j : Jn} {k M : Nat} (hs : Sz M d) (hb : Bd k M j) (hM : M ≤ 10000) (r : List UInt8) : Bd (k + 1) (M + (r.length + 16)) (snapJ j d r).2.1 ∧ Sz (M + (r.length + 16)) (snapJ j d r).2.2 := by
  have hF : (snaF j r).length = r.length + 16 := frame_len _ _
  have h1 := hs.zsnap (snaF j r)
  rw [hF] at h1
  have h2 := hb.hb
  have h3 := hb.hr
  unfold snapJ
  split
  · exact ⟨hb.mono (by omega) (by omega), hs.mono (by omega)⟩
  · split
    · exact ⟨⟨by dsimp only; omega, by dsimp only; simp⟩, h1⟩
    · exact ⟨⟨by dsimp only; omega, by dsimp only; omega⟩, h1⟩
/-- two journals, over two disks, apart. -/
structure Sp (g J : Nat) (v : Value) (rg rj : Nat) (rv : Value) : Prop where
  gg : g ≠ rg
  jg : J ≠ rg
  vg : v.ownBlock ≠ some rg
  gj : g ≠ rj
  jj : J ≠ rj
  vj : v.ownBlock ≠ some rj
  gv : rv.ownBlock ≠ some g
  jv : rv.ownBlock ≠ some J
  vv : ∀ k, v.ownBlock = some k → rv.ownBlock ≠ some k
section
variable {B : Nat} {w w' : World} {g J rg rj : Nat} {v v' rv rv' : Value} {j : Jn} {d : Dk}
theorem JL.byR (h : JL B w J g v j d) (hk : Kp rg rj none w w') (s : Sp g J v rg rj rv) : JL B w' J g v j d := by
  refine ⟨⟨?_, ?_, h.jour.ok, ?_⟩, h.lt, h.ge⟩
  · have h1 := h.jour.hj
    have h2 := h.jlt
    unfold JAt at h1 ⊢
    rw [hk.block J h2 s.jg s.jj (by simp)]; exact h1
  · have h1 := h.jour.hd
    unfold DiskAt at h1 ⊢
    rw [hk.block g (Array.getElem?_eq_some_iff.1 h1).1 s.gg s.gj (by simp)]; exact h1
  · refine ⟨h.jour.ow.1, ?_⟩
    rcases h.jour.ow.2 with hn | ⟨k, cap, cur, rfl, hB, hkk, rest⟩
    · exact .inl hn
    · exact .inr ⟨k, cap, cur, rfl, hB, by rw [hk.block k (Array.getElem?_eq_some_iff.1 hkk).1 (fun e => s.vg (by rw [e]; rfl)) (fun e => s.vj (by rw [e]; rfl)) (by simp)]; exact hkk, rest⟩
theorem RL.byJ (h : RL B w rj rg rv j d) (hk : Kp g J v.ownBlock w w') (s : Sp g J v rg rj rv) : RL B w' rj rg rv j d := by
  refine ⟨?_, ?_, h.ok, ?_, h.lt, h.ge⟩
  · have h1 := h.hj
    have h2 := h.jlt
    unfold RJAt at h1 ⊢
    rw [hk.block rj h2 (fun e => s.gj e.symm) (fun e => s.jj e.symm) (fun e => s.vj e.symm)]; exact h1
  · have h1 := h.hd
    unfold RefAt at h1 ⊢
    rw [hk.block rg (Array.getElem?_eq_some_iff.1 h1).1 (fun e => s.gg e.symm) (fun e => s.jg e.symm) (fun e => s.vg e.symm)]; exact h1
  · refine ⟨h.ow.1, ?_⟩
    rcases h.ow.2 with hn | ⟨k, cap, cur, rfl, hB, hkk, rest⟩
    · exact .inl hn
    · exact .inr ⟨k, cap, cur, rfl, hB, by rw [hk.block k (Array.getElem?_eq_some_iff.1 hkk).1 (fun e => s.gv (by rw [← e]; rfl)) (fun e => s.jv (by rw [← e]; rfl)) (fun e => s.vv k e.symm rfl)]; exact hkk, rest⟩
theorem Sp.byJ (s : Sp g J v rg rj rv) (h : RL B w rj rg rv j d) (hv : v'.ownBlock = v.ownBlock ∨ ∀ k, v'.ownBlock = some k → w.heap.size ≤ k) : Sp g J v' rg rj rv := by
  rcases hv with hv | hv
  · exact ⟨s.gg, s.jg, by rw [hv]; exact s.vg, s.gj, s.jj, by rw [hv]; exact s.vj, s.gv, s.jv, fun k hk => s.vv k (by rw [← hv]; exact hk)⟩
  · have h1 := h.hd.lt
    have h2 := h.jlt
    exact ⟨s.gg, s.jg, fun e => by have := hv _ e; omega, s.gj, s.jj, fun e => by have := hv _ e; omega, s.gv, s.jv, fun k hk e => by have := hv _ hk; have := (h.ow.blk k e).2; omega⟩
theorem Sp.byR (s : Sp g J v rg rj rv) (h : JL B w J g v j d) (hv : rv'.ownBlock = rv.ownBlock ∨ ∀ k, rv'.ownBlock = some k → w.heap.size ≤ k) : Sp g J v rg rj rv' := by
  rcases hv with hv | hv
  · exact ⟨s.gg, s.jg, s.vg, s.gj, s.jj, s.vj, by rw [hv]; exact s.gv, by rw [hv]; exact s.jv, fun k hk => by rw [hv]; exact s.vv k hk⟩
  · have h1 := h.jlt
    have h2 := h.lt
    exact ⟨s.gg, s.jg, s.vg, s.gj, s.jj, s.vj, fun e => by have := hv _ e; omega, fun e => by have := hv _ e; omega, fun k hk e => by have := hv _ e; have := (h.row k hk).2; omega⟩
theorem RL.kpb (h : RL B w rj rg rv j d) (k : Kp rg rj none w w') (hs : B ≤ w.heap.size) : Below B w w' := by
  have h1 := h.lt
  have h2 := h.ge
  exact k.below hs h2 (by omega) (fun x hx => by cases hx)
end
/-- the program's journal and the document's, at two pointers: both none, or both there and the same. -/
def Both (B : Nat) (w : World) (g rg : Nat) (p r : Value) (d : Dk) (k M : Nat) : Prop :=
  (p = .pointer none ∧ r = .pointer none ∧ DiskAt w g d ∧ RefAt w rg d ∧ d.Ok) ∨
  ∃ J rj v rv j, p = .pointer (some ⟨J, 0, none⟩) ∧ r = .pointer (some ⟨rj, 0, none⟩) ∧ JL B w J g v j d ∧ RL B w rj rg rv j d ∧ Sp g J v rg rj rv ∧ Bd k M j
theorem Both.disks {B : Nat} {w : World} {g rg : Nat} {p r : Value} {d : Dk} {k M : Nat} (h : Both B w g rg p r d k M) : DiskAt w g d ∧ RefAt w rg d ∧ d.Ok := by
  rcases h with ⟨_, _, h1, h2, h3⟩ | ⟨J, rj, v, rv, j, _, _, h1, h2, _⟩
  · exact ⟨h1, h2, h3⟩
  · exact ⟨h1.jour.hd, h2.hd, h2.ok⟩
theorem Both.below {B : Nat} {w w' : World} {g rg : Nat} {p r : Value} {d : Dk} {k M : Nat} (h : Both B w g rg p r d k M) (hb : Below w.heap.size w w') : Both B w' g rg p r d k M := by
  rcases h with ⟨e1, e2, h1, h2, h3⟩ | ⟨J, rj, v, rv, j, e1, e2, h1, h2, h3, h4⟩
  · exact .inl ⟨e1, e2, h1.below hb, h2.below hb, h3⟩
  · exact .inr ⟨J, rj, v, rv, j, e1, e2, h1.below hb, h2.below hb, h3, h4⟩
theorem Both.mono {B : Nat} {w : World} {g rg : Nat} {p r : Value} {d : Dk} {k M l N : Nat} (h : Both B w g rg p r d k M) (hk : k ≤ l) (hM : M ≤ N) : Both B w g rg p r d l N := by
  rcases h with h | ⟨J, rj, v, rv, j, e1, e2, h1, h2, h3, h4⟩
  · exact .inl h
  · exact .inr ⟨J, rj, v, rv, j, e1, e2, h1, h2, h3, h4.mono hk hM⟩
/-- the disks alone turn. -/
theorem Both.turn {B : Nat} {w w' : World} {g rg : Nat} {p r : Value} {d d' : Dk} {k M : Nat} (h : Both B w g rg p r d k M) (ht : Two g rg w w') (h1 : DiskAt w' g d') (h2 : RefAt w' rg d') (h3 : d'.Ok) : Both B w' g rg p r d' k M := by
  rcases h with ⟨e1, e2, _, _, _⟩ | ⟨J, rj, v, rv, j, e1, e2, hj, hr, hs, hb⟩
  · exact .inl ⟨e1, e2, h1, h2, h3⟩
  · refine .inr ⟨J, rj, v, rv, j, e1, e2, ⟨⟨?_, h1, h3, ?_⟩, hj.lt, hj.ge⟩, ⟨?_, h2, h3, ?_, hr.lt, hr.ge⟩, hs, hb⟩
    · have a := hj.jour.hj
      have b := hj.jlt
      have c := hj.lt
      unfold JAt at a ⊢
      rw [ht.block J b (by omega) hs.jg]; exact a
    · refine ⟨hj.jour.ow.1, ?_⟩
      rcases hj.jour.ow.2 with hn | ⟨x, cap, cur, rfl, hB, hkk, rest⟩
      · exact .inl hn
      · have c := hj.lt
        exact .inr ⟨x, cap, cur, rfl, hB, by rw [ht.block x (Array.getElem?_eq_some_iff.1 hkk).1 (by omega) (fun e => hs.vg (by rw [e]; rfl))]; exact hkk, rest⟩
    · have a := hr.hj
      have b := hr.jlt
      have c := hr.lt
      unfold RJAt at a ⊢
      rw [ht.block rj b (fun e => hs.gj e.symm) (by omega)]; exact a
    · refine ⟨hr.ow.1, ?_⟩
      rcases hr.ow.2 with hn | ⟨x, cap, cur, rfl, hB, hkk, rest⟩
      · exact .inl hn
      · have c := hr.lt
        exact .inr ⟨x, cap, cur, rfl, hB, by rw [ht.block x (Array.getElem?_eq_some_iff.1 hkk).1 (fun e => hs.gv (by rw [← e]; rfl)) (by omega)]; exact hkk, rest⟩
end Go.Proofs.Ytdphnhgogokidaa
