/- The journal, plain: what a crash leaves of a snapshot, and of an opening. -/
import Derived.Test.YtdphnhgogokidaaJourQ
namespace Go.Proofs.Ytdphnhgogokidaa
open Go.RowKit

theorem append2 (d : Dk) (f : List UInt8) : d.append 2 f = d.step (·.app 2 f) := append_step d 2 (by omega) f
theorem sync2 (d : Dk) : d.sync 2 = d.step (·.syn 2) := sync_step d 2 (by omega)
theorem move21 (d : Dk) : d.move 2 1 = d.step (·.mov 2 1) := move_step d 2 1 (by omega) (by omega)
theorem cut00 (d : Dk) : d.cutto 0 0 = d.step (·.cut 0 0) := cutto_step d 0 0 (by omega) (by omega)
theorem append2_cases (d : Dk) (f : List UInt8) : ((d.append 2 f).code ≠ 0 ∧ Same01 d (d.append 2 f).dk) ∨ ((d.append 2 f).code = 0 ∧ Same01 d (d.append 2 f).dk ∧ (d.append 2 f).dk.b 2 = d.b 2 ++ f) := by
  rw [append2]
  rcases step_cases d (·.app 2 f) with h | h
  · rw [h]; exact .inl ⟨(by show (9 : Int) ≠ 0; decide), same_down d⟩
  · rw [h]
    unfold Dk.app
    split
    · exact .inl ⟨(by show (4 : Int) ≠ 0; decide), same_burnt d⟩
    · refine .inr ⟨rfl, ⟨?_, ?_, ?_, ?_⟩, ?_⟩ <;> simp [upd, burnt_b, burnt_s]
theorem sync2_cases (d : Dk) : ((d.sync 2).code ≠ 0 ∧ Same01 d (d.sync 2).dk) ∨ ((d.sync 2).code = 0 ∧ Same01 d (d.sync 2).dk ∧ (d.sync 2).dk.b 2 = d.b 2 ∧ (d.sync 2).dk.s 2 = (d.b 2).length) := by
  rw [sync2]
  rcases step_cases d (·.syn 2) with h | h
  · rw [h]; exact .inl ⟨(by show (9 : Int) ≠ 0; decide), same_down d⟩
  · rw [h]
    unfold Dk.syn
    refine .inr ⟨rfl, ⟨?_, ?_, ?_, ?_⟩, ?_, ?_⟩ <;> simp [upd, burnt_b, burnt_s]
theorem move21_cases (d : Dk) : ((d.move 2 1).code ≠ 0 ∧ Same01 d (d.move 2 1).dk) ∨ ((d.move 2 1).code = 0 ∧ (d.move 2 1).dk.b 0 = d.b 0 ∧ (d.move 2 1).dk.s 0 = d.s 0 ∧ (d.move 2 1).dk.b 1 = d.b 2 ∧ (d.move 2 1).dk.s 1 = d.s 2 ∧ (d.move 2 1).dk.b 2 = []) := by
  rw [move21]
  rcases step_cases d (·.mov 2 1) with h | h
  · rw [h]; exact .inl ⟨(by show (9 : Int) ≠ 0; decide), same_down d⟩
  · rw [h]
    unfold Dk.mov
    rw [if_neg (by decide)]
    refine .inr ⟨rfl, ?_, ?_, ?_, ?_, ?_⟩ <;> simp [upd, burnt_b, burnt_s]
theorem cut00_cases (d : Dk) : ((d.cutto 0 0).code ≠ 0 ∧ Same01 d (d.cutto 0 0).dk) ∨ ((d.cutto 0 0).code = 0 ∧ (d.cutto 0 0).dk.b 0 = [] ∧ (d.cutto 0 0).dk.s 0 = 0 ∧ (d.cutto 0 0).dk.b 1 = d.b 1 ∧ (d.cutto 0 0).dk.s 1 = d.s 1 ∧ (d.cutto 0 0).dk.b 2 = d.b 2) := by
  rw [cut00]
  rcases step_cases d (·.cut 0 0) with h | h
  · rw [h]; exact .inl ⟨(by show (9 : Int) ≠ 0; decide), same_down d⟩
  · rw [h]
    unfold Dk.cut
    refine .inr ⟨rfl, ?_, ?_, ?_, ?_, ?_⟩ <;> simp [upd, burnt_b, burnt_s]
theorem runF_go {F : Dk → Out} {L : List (Dk → Out)} {d : Dk} (h : (F d).code = 0) : runF (F :: L) d = runF L (F d).dk := if_pos h
theorem runF_stop {F : Dk → Out} {L : List (Dk → Out)} {d : Dk} (h : (F d).code ≠ 0) : runF (F :: L) d = F d := if_neg h
theorem runF_ok : ∀ (L : List (Dk → Out)), (∀ F ∈ L, ∀ d : Dk, d.Ok → (F d).dk.Ok) → ∀ d : Dk, d.Ok → (runF L d).dk.Ok
  | [], _, _, h => h
  | F :: L, hL, d, h => by
    by_cases hc : (F d).code = 0
    · rw [runF_go hc]; exact runF_ok L (fun G hG => hL G (List.mem_cons_of_mem _ hG)) _ (hL F (List.mem_cons_self ..) d h)
    · rw [runF_stop hc]; exact hL F (List.mem_cons_self ..) d h
theorem stS_ok (f : List UInt8) {d : Dk} (h : d.Ok) : (stS f d).dk.Ok := by
  refine runF_ok _ ?_ d h
  intro F hF e he
  simp only [snapF, List.mem_cons, List.not_mem_nil, or_false] at hF
  rcases hF with rfl | rfl | rfl | rfl | rfl
  · exact cutx_ok he 2 0
  · exact append_ok he 2 f
  · exact sync_ok he 2
  · exact move_ok he 2 1
  · exact cutto_ok he 0 0
theorem opS_ok (n : Nat) {d : Dk} (h : d.Ok) : (opS n d).dk.Ok := by
  refine runF_ok _ ?_ d h
  intro F hF e he
  simp only [List.mem_cons, List.not_mem_nil, or_false] at hF
  rcases hF with rfl | rfl
  · exact cutx_ok he 0 n
  · exact cutx_ok he 2 0
theorem snap_cases {d : Dk} {f : List UInt8} (h2 : d.b 2 = []) :
    ((stS f d).code ≠ 0 ∧ Same01 d (stS f d).dk) ∨
    ((stS f d).code ≠ 0 ∧ (stS f d).dk.b 0 = d.b 0 ∧ (stS f d).dk.s 0 = d.s 0 ∧ (stS f d).dk.b 1 = f ∧ (stS f d).dk.s 1 = f.length) ∨
    ((stS f d).code = 0 ∧ (stS f d).dk.b 0 = [] ∧ (stS f d).dk.s 0 = 0 ∧ (stS f d).dk.b 1 = f ∧ (stS f d).dk.s 1 = f.length ∧ (stS f d).dk.b 2 = []) := by
  have hc : cutx 2 0 d = ⟨0, d⟩ := if_pos (by rw [h2]; rfl)
  unfold stS snapF
  rw [runF_go (by rw [hc]), hc]
  try dsimp only
  rcases append2_cases d f with ⟨a, s⟩ | ⟨a, s, b⟩
  · rw [runF_stop (F := fun d => d.append 2 f) a]; exact .inl ⟨a, s⟩
  rw [runF_go (F := fun d => d.append 2 f) a]
  try dsimp only
  rw [h2, List.nil_append] at b
  generalize (d.append 2 f).dk = d1 at *
  rcases sync2_cases d1 with ⟨a2, s2⟩ | ⟨a2, s2, b2, l2⟩
  · rw [runF_stop (F := fun d => d.sync 2) a2]; exact .inl ⟨a2, s.trans s2⟩
  rw [runF_go (F := fun d => d.sync 2) a2]
  try dsimp only
  rw [b] at b2 l2
  have ss := s.trans s2
  generalize (d1.sync 2).dk = d2 at *
  rcases move21_cases d2 with ⟨a3, s3⟩ | ⟨a3, p0, q0, p1, q1, p2⟩
  · rw [runF_stop (F := fun d => d.move 2 1) a3]; exact .inl ⟨a3, ss.trans s3⟩
  rw [runF_go (F := fun d => d.move 2 1) a3]
  try dsimp only
  rw [b2] at p1
  rw [l2] at q1
  rw [ss.b0] at p0
  rw [ss.s0] at q0
  generalize (d2.move 2 1).dk = d3 at *
  rcases cut00_cases d3 with ⟨a4, s4⟩ | ⟨a4, r0, t0, r1, t1, r2⟩
  · rw [runF_stop (F := fun d => d.cutto 0 0) a4]
    exact .inr (.inl ⟨a4, by rw [s4.b0]; exact p0, by rw [s4.s0]; exact q0, by rw [s4.b1]; exact p1, by rw [s4.s1]; exact q1⟩)
  rw [runF_go (F := fun d => d.cutto 0 0) a4]
  exact .inr (.inr ⟨rfl, r0, t0, r1.trans p1, t1.trans q1, r2.trans p2⟩)
theorem seg_self (all : List (List UInt8)) : seg all all.length all.length = [] := by
  unfold seg; rw [List.take_length, List.drop_of_length_le (Nat.le_refl _)]
/-- a snapshot that goes, or fails. -/
theorem snapJ_live {j : Jn} {d : Dk} (ho : d.Ok) {all : List (List UInt8)} {n : Nat} {t : List UInt8} (h : Live j d all n t) (r : List UInt8) (hr : r.length ≤ 65528) :
    ((snapJ j d r).1 = 0 ∧ Live (snapJ j d r).2.1 (snapJ j d r).2.2 all all.length r) ∨
    ((snapJ j d r).1 ≠ 0 ∧ ∀ kept, ∃ n' t', ((n' = n ∧ t' = t) ∨ (n' = all.length ∧ t' = r)) ∧ Rest ((snapJ j d r).2.2.crash kept) all n n' all.length t') := by
  have hn := h.saf.h2
  have h4 := h.saf.h4
  have h5 := h.saf.h5
  have hje := h.je
  subst hje
  have hmay := mayJ_ok n t (seg all n all.length) r hr
  have hF := snaF_live (t := t) hn r
  have hok := stS_ok (snaF ⟨n, t, seg all n all.length, false⟩ r) ho
  have hsb : SnapB (frameOf (eight all.length ++ r)) all.length r := .inr ⟨rfl, hr, by omega⟩
  rcases snap_cases (f := snaF ⟨n, t, seg all n all.length, false⟩ r) h.b2 with ⟨a, s⟩ | ⟨a, p0, q0, p1, q1⟩ | ⟨a, p0, q0, p1, q1, p2⟩
  · rw [snapJ_bad hmay a]
    exact .inr ⟨a, fun kept => ⟨n, t, .inl ⟨rfl, rfl⟩, (h.saf.same s).crash kept⟩⟩
  · rw [snapJ_bad hmay a]
    rw [hF] at p1 q1 hok a p0 q0 ⊢
    refine .inr ⟨a, fun kept => ⟨all.length, r, .inr ⟨rfl, rfl⟩, ?_⟩⟩
    have hs : Saf (stS (frameOf (eight all.length ++ r)) d).dk all n all.length all.length r :=
      ⟨p0.trans h.saf.b0, by rw [q0, p0]; exact h.saf.s0, by rw [p1]; exact hsb, by rw [q1, p1], hn, Nat.le_refl _, Nat.le_refl _, h4, h5⟩
    exact hs.crash kept
  · rw [snapJ_ok hmay a]
    rw [hF] at p1 q1 p0 q0 p2 ⊢
    refine .inl ⟨rfl, ⟨?_, ⟨?_, ?_, ?_, ?_, Nat.le_refl _, Nat.le_refl _, Nat.le_refl _, h4, h5⟩, p2⟩⟩
    · dsimp only
      rw [seg_self, seg_length (Nat.le_refl _), show n + (all.length - n) = all.length by omega]
    · dsimp only; rw [p0, seg_self]; rfl
    · dsimp only; rw [p0, q0]; rfl
    · dsimp only; rw [p1]; exact hsb
    · dsimp only; rw [q1, p1]
/-- Open of a journal that goes on. -/
theorem Live.opened {j : Jn} {d : Dk} {all : List (List UInt8)} {n : Nat} {t : List UInt8} (h : Live j d all n t) : openJ d = (0, some j, d) := by
  have hR := h.saf.rest.opened
  have e0 : cutx 0 (framesOf (lay (n + 1) (seg all n all.length))).length d = ⟨0, d⟩ := if_pos (by rw [h.saf.b0])
  have e2 : cutx 2 0 d = ⟨0, d⟩ := if_pos (by rw [h.b2]; rfl)
  have eo : opS (framesOf (lay (n + 1) (seg all n all.length))).length d = ⟨0, d⟩ := by
    unfold opS
    rw [runF_go (F := fun d => cutx 0 _ d) (by rw [e0]), e0]
    rw [runF_go (F := fun d => cutx 2 0 d) (by rw [e2]), e2]
    rfl
  rw [eo, if_pos rfl, ← h.je] at hR
  exact hR
/-- what files 0 and 1 hold is sure. -/
def Sured (d : Dk) : Prop := d.s 0 = (d.b 0).length ∧ d.s 1 = (d.b 1).length
theorem crash_sured {d : Dk} (h : d.Ok) (kept : Nat → Int) : Sured (d.crash kept) :=
  ⟨by rw [crash_sure d kept (by omega), crash_len h kept (by omega)], by rw [crash_sure d kept (by omega), crash_len h kept (by omega)]⟩
theorem cutx_cases {d : Dk} (ho : d.Ok) (i n : Nat) (hi : i < 4) (hn : n ≤ (d.b i).length) : ((cutx i n d).code = 9 ∧ (cutx i n d).dk = { d with down := true }) ∨
    ((cutx i n d).code = 0 ∧ (cutx i n d).dk.b = upd d.b i ((d.b i).take n) ∧ (cutx i n d).dk.s = upd d.s i (min (d.s i) n)) := by
  unfold cutx
  by_cases h : (d.b i).length = n
  · rw [if_pos h]
    refine .inr ⟨rfl, ?_, ?_⟩
    · funext k; unfold upd; split
      · rename_i hk; subst hk; rw [← h, List.take_length]
      · rfl
    · funext k; unfold upd; split
      · rename_i hk; subst hk; have := ho.sure k; try dsimp only
        omega
      · rfl
  · rw [if_neg h, cutto_step d i n hi hn]
    rcases step_cases d (·.cut i n) with hs | hs
    · rw [hs]; exact .inl ⟨rfl, rfl⟩
    · rw [hs]
      unfold Dk.cut
      exact .inr ⟨rfl, by rw [burnt_b], by rw [burnt_b, burnt_s]⟩
theorem Rest.same {d e : Dk} {all : List (List UInt8)} {n0 n m : Nat} {t : List UInt8} (h : Rest d all n0 n m t) (h0 : e.b 0 = d.b 0) (h1 : e.b 1 = d.b 1) : Rest e all n0 n m t :=
  ⟨by rw [h1]; exact h.snap, by rw [h0]; exact h.log, by rw [h0]; exact h.part, h.h1, h.h2, h.h3, h.h4, h.h5⟩
theorem Rest.crash {d : Dk} (hs : Sured d) {all : List (List UInt8)} {n0 n m : Nat} {t : List UInt8} (h : Rest d all n0 n m t) (kept : Nat → Int) : Rest (d.crash kept) all n0 n m t :=
  h.same (crash_full kept (by omega) hs.1) (crash_full kept (by omega) hs.2)
theorem Rest.le {d : Dk} {all : List (List UInt8)} {n0 n m : Nat} {t : List UInt8} (h : Rest d all n0 n m t) : (framesOf (lay (n0 + 1) (seg all n0 m))).length ≤ (d.b 0).length := by
  have := congrArg List.length h.part
  rw [List.length_take] at this
  omega
/-- Open of what a crash left, through a fuse: it tells it, or says that the power is gone; either way it stays. -/
theorem Rest.open_cases {d : Dk} (ho : d.Ok) (hs : Sured d) {all : List (List UInt8)} {n0 n m : Nat} {t : List UInt8} (h : Rest d all n0 n m t) :
    (openJ d = (9, none, (openJ d).2.2) ∨ openJ d = (0, some ⟨n, t, seg all n m, false⟩, (openJ d).2.2)) ∧ (openJ d).2.2.Ok ∧ Sured (openJ d).2.2 ∧ Rest (openJ d).2.2 all n0 n m t := by
  have hO := h.opened
  have hle := h.le
  have hpart := h.part
  have hok := opS_ok (framesOf (lay (n0 + 1) (seg all n0 m))).length ho
  have key : ((opS (framesOf (lay (n0 + 1) (seg all n0 m))).length d).code = 9 ∨ (opS (framesOf (lay (n0 + 1) (seg all n0 m))).length d).code = 0) ∧ Sured (opS (framesOf (lay (n0 + 1) (seg all n0 m))).length d).dk ∧ Rest (opS (framesOf (lay (n0 + 1) (seg all n0 m))).length d).dk all n0 n m t := by
    have hfull : ∀ e : Dk, e.b 0 = framesOf (lay (n0 + 1) (seg all n0 m)) → e.b 1 = d.b 1 → Rest e all n0 n m t := fun e h0 h1 => rest_full h0 (by rw [h1]; exact h.snap) h.h1 h.h2 h.h3 h.h4 h.h5
    generalize framesOf (lay (n0 + 1) (seg all n0 m)) = F at *
    unfold opS
    rcases cutx_cases ho 0 F.length (by omega) hle with ⟨a, e⟩ | ⟨a, eb, es⟩
    · rw [runF_stop (F := fun d => cutx 0 F.length d) (by omega)]
      try dsimp only
      rw [e]
      exact ⟨.inl a, hs, h.same rfl rfl⟩
    · rw [runF_go (F := fun d => cutx 0 F.length d) a]
      try dsimp only
      have ho1 := cutx_ok ho 0 F.length
      generalize (cutx 0 F.length d).dk = d1 at *
      have b0 : d1.b 0 = F := by rw [eb]; simp only [upd, if_true]; exact hpart
      have b1 : d1.b 1 = d.b 1 := by rw [eb]; rfl
      have s0 : d1.s 0 = (d1.b 0).length := by
        rw [es, b0]; simp only [upd, if_true]; have := hs.1; omega
      have s1 : d1.s 1 = (d1.b 1).length := by rw [es, b1]; exact hs.2
      rcases cutx_cases ho1 2 0 (by omega) (Nat.zero_le _) with ⟨a2, e2⟩ | ⟨a2, eb2, es2⟩
      · rw [runF_stop (F := fun d => cutx 2 0 d) (by omega)]
        try dsimp only
        rw [e2]
        exact ⟨.inl a2, ⟨s0, s1⟩, hfull _ b0 b1⟩
      · rw [runF_go (F := fun d => cutx 2 0 d) a2]
        show (_ ∨ (0 : Int) = 0) ∧ Sured (cutx 2 0 d1).dk ∧ Rest (cutx 2 0 d1).dk all n0 n m t
        refine ⟨.inr rfl, ⟨?_, ?_⟩, hfull _ ?_ ?_⟩
        · rw [eb2, es2]; exact s0
        · rw [eb2, es2]; exact s1
        · rw [eb2]; exact b0
        · rw [eb2]; exact b1
  obtain ⟨hc, h1, h2⟩ := key
  rcases hc with hc | hc
  · rw [if_neg (by omega), hc] at hO
    rw [hO]
    exact ⟨.inl rfl, hok, h1, h2⟩
  · rw [if_pos hc] at hO
    rw [hO]
    exact ⟨.inr rfl, hok, h1, h2⟩
theorem cutx_up {d : Dk} (hf : d.fuse = -1) (hd : d.down = false) (i n : Nat) (hi : i < 4) (hn : n ≤ (d.b i).length) : (cutx i n d).code = 0 ∧ (cutx i n d).dk.fuse = -1 ∧ (cutx i n d).dk.down = false := by
  unfold cutx
  split
  · exact ⟨rfl, hf, hd⟩
  · rw [cutto_step d i n hi hn, step_pow hf hd]
    exact ⟨rfl, hf, hd⟩
/-- Open of what a crash left, with power. -/
theorem Rest.open_up {d : Dk} (hf : d.fuse = -1) (hd : d.down = false) {all : List (List UInt8)} {n0 n m : Nat} {t : List UInt8} (h : Rest d all n0 n m t) :
    openJ d = (0, some ⟨n, t, seg all n m, false⟩, (openJ d).2.2) := by
  have hO := h.opened
  have h1 := cutx_up hf hd 0 _ (by omega) h.le
  have h2 := cutx_up h1.2.1 h1.2.2 2 0 (by omega) (Nat.zero_le _)
  have hc : (opS (framesOf (lay (n0 + 1) (seg all n0 m))).length d).code = 0 := by
    unfold opS
    rw [runF_go (F := fun d => cutx 0 _ d) h1.1, runF_go (F := fun d => cutx 2 0 d) h2.1]
    rfl
  rw [if_pos hc] at hO
  rw [hO]
end Go.Proofs.Ytdphnhgogokidaa
