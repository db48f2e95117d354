/- The journal, plain: with power and room each call goes. -/
import Derived.Test.YtdphnhgogokidaaJourR
namespace Go.Proofs.Ytdphnhgogokidaa
open Go.RowKit

/-- a disk with power, of R bytes' room; its last file is empty. -/
structure Calm (R : Int) (d : Dk) : Prop where
  fuse : d.fuse = -1
  down : d.down = false
  room : d.room = R
  b3 : d.b 3 = []
def tot (L : List (List UInt8)) : Nat := (L.map fun r => r.length + 16).sum
theorem tot_app (A B : List (List UInt8)) : tot (A ++ B) = tot A + tot B := by simp [tot]
theorem tot_one (r : List UInt8) : tot [r] = r.length + 16 := by simp [tot]
theorem tot_drop (L : List (List UInt8)) (k : Nat) : tot (L.drop k) ≤ tot L := by
  have h := tot_app (L.take k) (L.drop k)
  rw [List.take_append_drop] at h
  omega
theorem tot_take (L : List (List UInt8)) (k : Nat) : tot (L.take k) ≤ tot L := by
  have h := tot_app (L.take k) (L.drop k)
  rw [List.take_append_drop] at h
  omega
theorem tot_seg (all : List (List UInt8)) (a b : Nat) : tot (seg all a b) ≤ tot all := Nat.le_trans (tot_drop _ _) (tot_take _ _)
theorem frames_lay : ∀ (n : Nat) (L : List (List UInt8)), (framesOf (lay n L)).length = tot L
  | _, [] => rfl
  | n, r :: L => by
    rw [lay, framesOf_cons, List.length_append, frames_lay (n + 1) L, frameOf_length, List.length_append, eight_len]
    simp [tot]; omega
theorem frame_len (n : Nat) (r : List UInt8) : (frameOf (eight n ++ r)).length = r.length + 16 := by
  rw [frameOf_length, List.length_append, eight_len]; omega
theorem SnapB.len {l : List UInt8} {n : Nat} {t : List UInt8} (h : SnapB l n t) : l.length ≤ t.length + 16 := by
  rcases h with ⟨rfl, _, rfl⟩ | ⟨rfl, _, _⟩
  · simp
  · rw [frame_len]; omega
theorem live_left {R : Int} {j : Jn} {d : Dk} {all : List (List UInt8)} {n : Nat} {t : List UInt8} (h : Live j d all n t) (hc : Calm R d) : R - tot all - t.length - 16 ≤ d.left := by
  have h0 : (d.b 0).length ≤ tot all := by rw [h.saf.b0, frames_lay]; exact tot_seg _ _ _
  have h1 := h.saf.snap.len
  have h2 : (d.b 2).length = 0 := by rw [h.b2]; rfl
  have h3 : (d.b 3).length = 0 := by rw [hc.b3]; rfl
  have h4 := hc.room
  unfold Dk.left
  omega
theorem append_calm {R : Int} {d : Dk} (hc : Calm R d) (i : Nat) (hi : i < 3) (f : List UInt8) (hl : ¬ d.left < f.length) : (d.append i f).code = 0 ∧ Calm R (d.append i f).dk := by
  rw [append_step d i (by omega), step_pow hc.fuse hc.down]
  unfold Dk.app
  rw [if_neg hl]
  exact ⟨rfl, hc.fuse, hc.down, hc.room, by simp only [upd]; rw [if_neg (by omega)]; exact hc.b3⟩
theorem sync_calm {R : Int} {d : Dk} (hc : Calm R d) (i : Nat) (hi : i < 3) : (d.sync i).code = 0 ∧ Calm R (d.sync i).dk := by
  rw [sync_step d i (by omega), step_pow hc.fuse hc.down]
  exact ⟨rfl, hc.fuse, hc.down, hc.room, hc.b3⟩
theorem move_calm {R : Int} {d : Dk} (hc : Calm R d) : (d.move 2 1).code = 0 ∧ Calm R (d.move 2 1).dk := by
  rw [move21, step_pow hc.fuse hc.down]
  unfold Dk.mov
  rw [if_neg (by decide)]
  exact ⟨rfl, hc.fuse, hc.down, hc.room, hc.b3⟩
theorem cut_calm {R : Int} {d : Dk} (hc : Calm R d) : (d.cutto 0 0).code = 0 ∧ Calm R (d.cutto 0 0).dk := by
  rw [cut00, step_pow hc.fuse hc.down]
  exact ⟨rfl, hc.fuse, hc.down, hc.room, hc.b3⟩
theorem stA_calm {R : Int} {d : Dk} (hc : Calm R d) (f : List UInt8) (hl : ¬ d.left < f.length) : (stA f d).code = 0 ∧ Calm R (stA f d).dk := by
  have h1 := append_calm hc 0 (by omega) f hl
  have h2 := sync_calm h1.2 0 (by omega)
  unfold stA
  rw [if_pos (show (d.append 0 f).code = 0 from h1.1), if_pos (show ((d.append 0 f).dk.sync 0).code = 0 from h2.1)]
  exact ⟨rfl, h2.2⟩
theorem stS_calm {R : Int} {d : Dk} (hc : Calm R d) (hb : d.b 2 = []) (f : List UInt8) (hl : ¬ d.left < f.length) : (stS f d).code = 0 ∧ Calm R (stS f d).dk := by
  have h0 : cutx 2 0 d = ⟨0, d⟩ := if_pos (by rw [hb]; rfl)
  have h1 : (d.append 2 f).code = 0 ∧ Calm R (d.append 2 f).dk := append_calm hc 2 (by omega) f hl
  have h2 : ((d.append 2 f).dk.sync 2).code = 0 ∧ Calm R ((d.append 2 f).dk.sync 2).dk := sync_calm h1.2 2 (by omega)
  have h3 := move_calm h2.2
  have h4 := cut_calm h3.2
  unfold stS snapF
  rw [runF_go (by rw [h0]), h0]
  rw [runF_go (F := fun d => d.append 2 f) h1.1]
  rw [runF_go (F := fun d => d.sync 2) h2.1]
  rw [runF_go (F := fun d => d.move 2 1) h3.1]
  rw [runF_go (F := fun d => d.cutto 0 0) h4.1]
  exact ⟨rfl, h4.2⟩
/-- a journal with power; what it holds is no more than T bytes in k records; its snapshot's text has no more than M. -/
structure Fine (R : Int) (M : Nat) (j : Jn) (d : Dk) (T k : Nat) : Prop where
  ok : d.Ok
  calm : Calm R d
  live : ∃ all n t, Live j d all n t ∧ tot all ≤ T ∧ t.length ≤ M ∧ all.length ≤ k
theorem fine_new {R : Int} (h0 : 0 ≤ R) (h1 : R ≤ 16777216) (M : Nat) : Fine R M ⟨0, [], [], false⟩ (Dk.new R) 0 0 :=
  ⟨new_ok h0 h1, ⟨rfl, rfl, rfl, rfl⟩, [], 0, [], live_new _, Nat.le_refl _, Nat.zero_le _, Nat.le_refl _⟩
theorem Fine.app {R : Int} {M : Nat} {j : Jn} {d : Dk} {T k : Nat} (h : Fine R M j d T k) (r : List UInt8) (hr : r.length ≤ 65528) (hR : (T : Int) + M + r.length + 32 ≤ R) (hk : k + 1 ≤ 1000) :
    (appJ j d r).1 = 0 ∧ (appJ j d r).2.1 = { j with recs := j.recs ++ [r] } ∧ Fine R M (appJ j d r).2.1 (appJ j d r).2.2 (T + (r.length + 16)) (k + 1) := by
  obtain ⟨all, n, t, hl, ht, htl, hal⟩ := h.live
  have hn := hl.saf.h2
  have hje := hl.je
  have hmay := mayJ_ok n t (seg all n all.length) r (by omega)
  have hleft := live_left hl h.calm
  have hF : (recF j r).length = r.length + 16 := frame_len _ _
  have hs := stA_calm h.calm (recF j r) (by rw [hF]; omega)
  rw [← hje] at hmay
  have hA := appJ_ok hmay hs.1
  have hL := appJ_live h.ok hl r (by omega) (by omega)
  rw [hA] at hL ⊢
  rcases hL with ⟨_, hL⟩ | ⟨hc, _⟩
  · refine ⟨rfl, rfl, stA_ok _ h.ok, hs.2, _, _, _, hL, ?_, htl, by rw [List.length_append]; simp; omega⟩
    rw [tot_app, tot_one]; omega
  · exact absurd rfl hc
theorem Fine.snap {R : Int} {M : Nat} {j : Jn} {d : Dk} {T k : Nat} (h : Fine R M j d T k) (r : List UInt8) (hr : r.length ≤ 65528) (hM : r.length ≤ M) (hR : (T : Int) + M + r.length + 32 ≤ R) :
    (snapJ j d r).1 = 0 ∧ (snapJ j d r).2.1 = ⟨j.base + j.recs.length, r, [], j.broken⟩ ∧ Fine R M (snapJ j d r).2.1 (snapJ j d r).2.2 (T + (r.length + 16)) (k + 1) := by
  obtain ⟨all, n, t, hl, ht, htl, hal⟩ := h.live
  have hn := hl.saf.h2
  have hje := hl.je
  have hmay := mayJ_ok n t (seg all n all.length) r (by omega)
  have hleft := live_left hl h.calm
  have hF : (snaF j r).length = r.length + 16 := frame_len _ _
  have hs := stS_calm h.calm hl.b2 (snaF j r) (by rw [hF]; omega)
  rw [← hje] at hmay
  have hA := snapJ_ok hmay hs.1
  have hL := snapJ_live h.ok hl r (by omega)
  rw [hA] at hL ⊢
  rcases hL with ⟨_, hL⟩ | ⟨hc, _⟩
  · exact ⟨rfl, rfl, stS_ok _ h.ok, hs.2, _, _, _, hL, by omega, by omega, by omega⟩
  · exact absurd rfl hc
theorem triple {A B C : Type} {x : A × B × C} {a : A} {b : B} (h1 : x.1 = a) (h2 : x.2.1 = b) : x = (a, b, x.2.2) := by
  obtain ⟨x1, x2, x3⟩ := x; dsimp only at h1 h2; rw [h1, h2]
theorem Fine.app2 {R : Int} {M : Nat} {j : Jn} {d : Dk} {T k : Nat} (h : Fine R M j d T k) (r : List UInt8) (hr : r.length ≤ 65528) (hR : (T : Int) + M + r.length + 32 ≤ R) (hk : k + 1 ≤ 1000) :
    ∃ d', appJ j d r = (0, { j with recs := j.recs ++ [r] }, d') ∧ Fine R M { j with recs := j.recs ++ [r] } d' (T + (r.length + 16)) (k + 1) := by
  obtain ⟨h1, h2, h3⟩ := h.app r hr hR hk
  rw [h2] at h3
  exact ⟨_, triple h1 h2, h3⟩
theorem Fine.snap2 {R : Int} {M : Nat} {j : Jn} {d : Dk} {T k : Nat} (h : Fine R M j d T k) (r : List UInt8) (hr : r.length ≤ 65528) (hM : r.length ≤ M) (hR : (T : Int) + M + r.length + 32 ≤ R) :
    ∃ d', snapJ j d r = (0, ⟨j.base + j.recs.length, r, [], j.broken⟩, d') ∧ Fine R M ⟨j.base + j.recs.length, r, [], j.broken⟩ d' (T + (r.length + 16)) (k + 1) := by
  obtain ⟨h1, h2, h3⟩ := h.snap r hr hM hR
  rw [h2] at h3
  exact ⟨_, triple h1 h2, h3⟩
theorem Fine.opened {R : Int} {M : Nat} {j : Jn} {d : Dk} {T k : Nat} (h : Fine R M j d T k) : openJ d = (0, some j, d) := by
  obtain ⟨all, n, t, hl, _⟩ := h.live
  exact hl.opened
theorem Fine.small {R : Int} {M : Nat} {j : Jn} {d : Dk} {T k : Nat} (h : Fine R M j d T k) : j.base + j.recs.length ≤ k ∧ j.broken = false := by
  obtain ⟨all, n, t, hl, _, _, hk⟩ := h.live
  rw [hl.je]
  dsimp only
  have := hl.saf.h2
  rw [seg_length (Nat.le_refl _)]
  exact ⟨by omega, rfl⟩
/-- bytes of no frame behind the log. -/
theorem Fine.spoilt {R : Int} {M : Nat} {j : Jn} {d : Dk} {T k : Nat} (h : Fine R M j d T k) (x : List UInt8) (hx : (scan x).2.2 = 2) (e : Dk) (h0 : e.b 0 = d.b 0 ++ x) (h1 : e.b 1 = d.b 1) : openJ e = (8, none, e) := by
  obtain ⟨all, n, t, hl, _, _, hk⟩ := h.live
  have hm := hl.saf.rest.lays
  refine openJ_two (n := n) (t := t) ?_ ?_
  · rw [h1]; exact snapOf_of hl.saf.snap
  · rw [h0, hl.saf.b0, scan_frames _ _ hm]; exact hx
end Go.Proofs.Ytdphnhgogokidaa
