/- The journal, plain: what a crash leaves of each call. -/
import Derived.Test.YtdphnhgogokidaaJourP
import Derived.Test.YtdphnhgogokidaaDiskP
namespace Go.Proofs.Ytdphnhgogokidaa
open Go.RowKit

theorem burnt_s (d : Dk) : d.burnt.s = d.s := by unfold Dk.burnt; split <;> rfl
theorem step_cases (d : Dk) (f : Dk → Out) : d.step f = ⟨9, { d with down := true }⟩ ∨ d.step f = f d.burnt := by
  unfold Dk.step; split
  · exact .inl rfl
  · exact .inr rfl
theorem append_step (d : Dk) (i : Nat) (hi : i < 4) (b : List UInt8) : d.append i b = d.step (·.app i b) := by
  unfold Dk.append; rw [if_pos (by simp [hasB]; omega)]; rfl
theorem sync_step (d : Dk) (i : Nat) (hi : i < 4) : d.sync i = d.step (·.syn i) := by
  unfold Dk.sync; rw [if_pos (by simp [hasB]; omega)]; rfl
theorem cutto_step (d : Dk) (i n : Nat) (hi : i < 4) (hn : n ≤ (d.b i).length) : d.cutto i n = d.step (·.cut i n) := by
  unfold Dk.cutto; rw [if_pos ⟨by simp [hasB]; omega, by omega, by rw [Int.toNat_natCast]; omega⟩]; rfl
theorem move_step (d : Dk) (i j : Nat) (hi : i < 4) (hj : j < 4) : d.move i j = d.step (·.mov i j) := by
  unfold Dk.move; rw [if_pos ⟨by simp [hasB]; omega, by simp [hasB]; omega⟩]; rfl
/-- files 0 and 1 stand, with what is sure of them. -/
structure Same01 (d e : Dk) : Prop where
  b0 : e.b 0 = d.b 0
  s0 : e.s 0 = d.s 0
  b1 : e.b 1 = d.b 1
  s1 : e.s 1 = d.s 1
theorem Same01.refl (d : Dk) : Same01 d d := ⟨rfl, rfl, rfl, rfl⟩
theorem Same01.trans {a b c : Dk} (h : Same01 a b) (k : Same01 b c) : Same01 a c := ⟨k.b0.trans h.b0, k.s0.trans h.s0, k.b1.trans h.b1, k.s1.trans h.s1⟩
theorem same_burnt (d : Dk) : Same01 d d.burnt := ⟨by rw [burnt_b], by rw [burnt_s], by rw [burnt_b], by rw [burnt_s]⟩
theorem same_down (d : Dk) : Same01 d { d with down := true } := ⟨rfl, rfl, rfl, rfl⟩
/-- all that was laid is sure. -/
structure Saf (d : Dk) (all : List (List UInt8)) (n0 n m : Nat) (t : List UInt8) : Prop where
  b0 : d.b 0 = framesOf (lay (n0 + 1) (seg all n0 m))
  s0 : d.s 0 = (d.b 0).length
  snap : SnapB (d.b 1) n t
  s1 : d.s 1 = (d.b 1).length
  h1 : n0 ≤ n
  h2 : n ≤ m
  h3 : m ≤ all.length
  h4 : all.length ≤ 1000
  h5 : ∀ r ∈ all, r.length ≤ 65528
theorem Saf.same {d e : Dk} {all : List (List UInt8)} {n0 n m : Nat} {t : List UInt8} (h : Saf d all n0 n m t) (k : Same01 d e) : Saf e all n0 n m t :=
  ⟨by rw [k.b0]; exact h.b0, by rw [k.s0, k.b0]; exact h.s0, by rw [k.b1]; exact h.snap, by rw [k.s1, k.b1]; exact h.s1, h.h1, h.h2, h.h3, h.h4, h.h5⟩
theorem keeps_ge (d : Dk) (kept : Nat → Int) (i : Nat) : d.s i ≤ d.keeps kept i := by unfold Dk.keeps; omega
theorem crash_full {d : Dk} (kept : Nat → Int) {i : Nat} (hi : i < 4) (h : d.s i = (d.b i).length) : (d.crash kept).b i = d.b i := by
  rw [crash_bytes d kept hi, List.take_of_length_le (by have := keeps_ge d kept i; omega)]
theorem rest_full {d : Dk} {all : List (List UInt8)} {n0 n m : Nat} {t : List UInt8} (hb0 : d.b 0 = framesOf (lay (n0 + 1) (seg all n0 m))) (hs : SnapB (d.b 1) n t) (h1 : n0 ≤ n) (h2 : n ≤ m) (h3 : m ≤ all.length) (h4 : all.length ≤ 1000) (h5 : ∀ r ∈ all, r.length ≤ 65528) : Rest d all n0 n m t := by
  have hl : ∀ x ∈ lay (n0 + 1) (seg all n0 m), x.length ≤ 65536 := lay_mem _ _ 65528 fun r hr => h5 r (seg_mem hr)
  refine ⟨hs, ⟨0, ?_, by omega⟩, by rw [hb0, List.take_length], h1, h2, h3, h4, h5⟩
  have h := scan_frames _ [] hl
  rw [List.append_nil, scan_none] at h
  rw [hb0, h]
  simp
theorem Saf.rest {d : Dk} {all : List (List UInt8)} {n0 n m : Nat} {t : List UInt8} (h : Saf d all n0 n m t) : Rest d all n0 n m t := rest_full h.b0 h.snap h.h1 h.h2 h.h3 h.h4 h.h5
theorem Saf.crash {d : Dk} {all : List (List UInt8)} {n0 n m : Nat} {t : List UInt8} (h : Saf d all n0 n m t) (kept : Nat → Int) : Rest (d.crash kept) all n0 n m t :=
  rest_full (by rw [crash_full kept (by omega) h.s0]; exact h.b0) (by rw [crash_full kept (by omega) h.s1]; exact h.snap) h.h1 h.h2 h.h3 h.h4 h.h5
theorem seg_take (all : List (List UInt8)) (a b k : Nat) (h : a + k ≤ b) : (seg all a b).take k = seg all a (a + k) := by
  unfold seg; rw [List.take_drop, List.take_take, Nat.min_eq_left h]
theorem crash_torn {d : Dk} (ho : d.Ok) {all : List (List UInt8)} {n : Nat} {r t : List UInt8} (hb0 : d.b 0 = framesOf (lay (n + 1) (seg all n all.length)) ++ frameOf (eight (all.length + 1) ++ r)) (hs0 : d.s 0 = (framesOf (lay (n + 1) (seg all n all.length))).length)
    (hsn : SnapB (d.b 1) n t) (hs1 : d.s 1 = (d.b 1).length) (hn : n ≤ all.length) (h4 : all.length + 1 ≤ 1000) (h5 : ∀ r ∈ all, r.length ≤ 65528) (hr : r.length ≤ 65528) (kept : Nat → Int) :
    ∃ m, (m = all.length ∨ m = all.length + 1) ∧ Rest (d.crash kept) (all ++ [r]) n n m t := by
  have hsl : (seg all n all.length).length = all.length - n := seg_length (Nat.le_refl _)
  have hA : lay (n + 1) (seg (all ++ [r]) n (all ++ [r]).length) = lay (n + 1) (seg all n all.length) ++ [eight (all.length + 1) ++ r] := by
    rw [seg_snoc all n r hn, lay_snoc, hsl, show n + 1 + (all.length - n) = all.length + 1 by omega]
  have h5' : ∀ x ∈ all ++ [r], x.length ≤ 65528 := by
    intro x hx
    rcases List.mem_append.1 hx with hx | hx
    · exact h5 x hx
    · rw [List.mem_singleton.1 hx]; exact hr
  have hal : (all ++ [r]).length = all.length + 1 := by simp
  generalize hAA : lay (n + 1) (seg (all ++ [r]) n (all ++ [r]).length) = A at *
  have hAm : ∀ x ∈ A, x.length ≤ 65536 := by rw [← hAA]; exact lay_mem _ _ 65528 fun x hx => h5' x (seg_mem hx)
  have hAl : A.length = all.length - n + 1 := by rw [hA, List.length_append, lay_length, hsl]; rfl
  have hb : d.b 0 = framesOf A := by rw [hb0, hA, framesOf_snoc]
  have hold : A.take (all.length - n) = lay (n + 1) (seg all n all.length) := by
    rw [hA, List.take_append_of_le_length (by rw [lay_length, hsl]; omega), List.take_of_length_le (by rw [lay_length, hsl]; omega)]
  have hK1 := keeps_ge d kept 0
  have hK2 := keeps_le ho kept 0
  rw [hb] at hK2
  have hcb : (d.crash kept).b 0 = (framesOf A).take (d.keeps kept 0) := by rw [crash_bytes d kept (by omega), hb]
  have hc1 : (d.crash kept).b 1 = d.b 1 := crash_full kept (by omega) hs1
  generalize d.keeps kept 0 = K at *
  obtain ⟨j, hj, hsc, hjk, hmax⟩ := scan_take A K hAm hK2
  have hjL : all.length - n ≤ j := by
    rcases hmax with h | ⟨r', hr', hlt⟩
    · omega
    · by_cases hjl : all.length - n ≤ j
      · exact hjl
      · exfalso
        have h1 : A.take (j + 1) = A.take j ++ [r'] := by rw [List.take_add_one, hr']; rfl
        have h2 : (framesOf (A.take (j + 1))).length = (framesOf (A.take j)).length + (r'.length + 8) := by rw [h1, framesOf_snoc, List.length_append, frameOf_length]
        have h3 := framesOf_take_le (A.take (all.length - n)) (j + 1)
        rw [List.take_take, Nat.min_eq_left (by omega), hold] at h3
        omega
  have hm : A.take j = lay (n + 1) (seg (all ++ [r]) n (n + j)) := by
    rw [← hAA, lay_take, seg_take _ _ _ _ (by omega)]
  clear hmax
  refine ⟨n + j, by omega, ⟨by rw [hc1]; exact hsn, ⟨_, by rw [hcb, hsc, hm], by split <;> omega⟩, ?_, Nat.le_refl _, by omega, by omega, by omega, h5'⟩⟩
  rw [hcb, ← hm, List.take_take, Nat.min_eq_left hjk]
  have hsplit : framesOf A = framesOf (A.take j) ++ framesOf (A.drop j) := by rw [← framesOf_app, List.take_append_drop]
  rw [hsplit, List.take_append_of_le_length (Nat.le_refl _), List.take_length]
/-- a journal and its disk agree. -/
structure Live (j : Jn) (d : Dk) (all : List (List UInt8)) (n : Nat) (t : List UInt8) : Prop where
  je : j = ⟨n, t, seg all n all.length, false⟩
  saf : Saf d all n n all.length t
  b2 : d.b 2 = []
theorem live_new (room : Int) : Live ⟨0, [], [], false⟩ (Dk.new room) [] 0 [] :=
  ⟨rfl, ⟨rfl, rfl, .inl ⟨rfl, rfl, rfl⟩, rfl, Nat.le_refl _, Nat.le_refl _, Nat.le_refl _, by simp, by simp⟩, rfl⟩
theorem recF_live {n : Nat} {t : List UInt8} {all : List (List UInt8)} (hn : n ≤ all.length) (r : List UInt8) : recF ⟨n, t, seg all n all.length, false⟩ r = frameOf (eight (all.length + 1) ++ r) := by
  unfold recF; dsimp only; rw [seg_length (Nat.le_refl _), show n + (all.length - n) = all.length by omega]
theorem snaF_live {n : Nat} {t : List UInt8} {all : List (List UInt8)} (hn : n ≤ all.length) (r : List UInt8) : snaF ⟨n, t, seg all n all.length, false⟩ r = frameOf (eight all.length ++ r) := by
  unfold snaF; dsimp only; rw [seg_length (Nat.le_refl _), show n + (all.length - n) = all.length by omega]
theorem mayJ_ok (n : Nat) (t : List UInt8) (L : List (List UInt8)) (r : List UInt8) (hr : r.length ≤ 65528) : mayJ ⟨n, t, L, false⟩ r = 0 := by
  unfold mayJ; rw [if_neg (by omega)]; rfl
theorem upd0 {α : Type} (f : Nat → α) (v : α) : upd f 0 v 0 = v := by simp [upd]
theorem upd1 {α : Type} (f : Nat → α) (v : α) : upd f 0 v 1 = f 1 := by simp [upd]
theorem upd2 {α : Type} (f : Nat → α) (v : α) : upd f 0 v 2 = f 2 := by simp [upd]
theorem append0 (d : Dk) (f : List UInt8) : d.append 0 f = d.step (·.app 0 f) := append_step d 0 (by omega) f
theorem sync0 (d : Dk) : d.sync 0 = d.step (·.syn 0) := sync_step d 0 (by omega)
theorem append0_cases (d : Dk) (f : List UInt8) : ((d.append 0 f).code ≠ 0 ∧ Same01 d (d.append 0 f).dk) ∨
    ((d.append 0 f).code = 0 ∧ (d.append 0 f).dk.b 0 = d.b 0 ++ f ∧ (d.append 0 f).dk.s 0 = d.s 0 ∧ (d.append 0 f).dk.b 1 = d.b 1 ∧ (d.append 0 f).dk.s 1 = d.s 1 ∧ (d.append 0 f).dk.b 2 = d.b 2) := by
  rw [append0]
  rcases step_cases d (·.app 0 f) with h | h
  · rw [h]; exact .inl ⟨(by show (9 : Int) ≠ 0; decide), same_down d⟩
  · rw [h]
    unfold Dk.app
    split
    · exact .inl ⟨(by show (4 : Int) ≠ 0; decide), same_burnt d⟩
    · refine .inr ⟨rfl, ?_, ?_, ?_, ?_, ?_⟩ <;> simp [upd, burnt_b, burnt_s]
theorem sync0_cases (d : Dk) : ((d.sync 0).code ≠ 0 ∧ Same01 d (d.sync 0).dk) ∨
    ((d.sync 0).code = 0 ∧ (d.sync 0).dk.b 0 = d.b 0 ∧ (d.sync 0).dk.s 0 = (d.b 0).length ∧ (d.sync 0).dk.b 1 = d.b 1 ∧ (d.sync 0).dk.s 1 = d.s 1 ∧ (d.sync 0).dk.b 2 = d.b 2) := by
  rw [sync0]
  rcases step_cases d (·.syn 0) with h | h
  · rw [h]; exact .inl ⟨(by show (9 : Int) ≠ 0; decide), same_down d⟩
  · rw [h]
    unfold Dk.syn
    refine .inr ⟨rfl, ?_, ?_, ?_, ?_, ?_⟩ <;> simp [upd, burnt_b, burnt_s]
/-- an append that goes, or fails: what the disk holds. -/
theorem app_cases (d : Dk) (f : List UInt8) :
    ((stA f d).code ≠ 0 ∧ Same01 d (stA f d).dk) ∨
    ((stA f d).code ≠ 0 ∧ (stA f d).dk.b 0 = d.b 0 ++ f ∧ (stA f d).dk.s 0 = d.s 0 ∧ (stA f d).dk.b 1 = d.b 1 ∧ (stA f d).dk.s 1 = d.s 1) ∨
    ((stA f d).code = 0 ∧ (stA f d).dk.b 0 = d.b 0 ++ f ∧ (stA f d).dk.s 0 = (d.b 0 ++ f).length ∧ (stA f d).dk.b 1 = d.b 1 ∧ (stA f d).dk.s 1 = d.s 1 ∧ (stA f d).dk.b 2 = d.b 2) := by
  unfold stA
  rcases append0_cases d f with ⟨a, s⟩ | ⟨a, p0, q0, p1, q1, p2⟩
  · rw [if_neg a]; exact .inl ⟨a, s⟩
  · rw [if_pos a]
    generalize (d.append 0 f).dk = d1 at *
    rcases sync0_cases d1 with ⟨a2, s2⟩ | ⟨a2, r0, t0, r1, t1, r2⟩
    · rw [if_neg a2]
      exact .inr (.inl ⟨a2, by rw [s2.b0]; exact p0, by rw [s2.s0]; exact q0, by rw [s2.b1]; exact p1, by rw [s2.s1]; exact q1⟩)
    · rw [if_pos a2]
      exact .inr (.inr ⟨rfl, r0.trans p0, by rw [t0, p0], r1.trans p1, t1.trans q1, r2.trans p2⟩)
theorem stA_ok (f : List UInt8) {d : Dk} (h : d.Ok) : (stA f d).dk.Ok := by
  unfold stA
  split
  · split
    · exact sync_ok (append_ok h 0 f) 0
    · exact sync_ok (append_ok h 0 f) 0
  · exact append_ok h 0 f
theorem mem_snoc {all : List (List UInt8)} {r : List UInt8} (h5 : ∀ r ∈ all, r.length ≤ 65528) (hr : r.length ≤ 65528) : ∀ x ∈ all ++ [r], x.length ≤ 65528 := by
  intro x hx
  rcases List.mem_append.1 hx with hx | hx
  · exact h5 x hx
  · rw [List.mem_singleton.1 hx]; exact hr
/-- an append that goes, or fails. -/
theorem appJ_live {j : Jn} {d : Dk} (ho : d.Ok) {all : List (List UInt8)} {n : Nat} {t : List UInt8} (h : Live j d all n t) (r : List UInt8) (hr : r.length ≤ 65528) (h4 : all.length + 1 ≤ 1000) :
    ((appJ j d r).1 = 0 ∧ Live (appJ j d r).2.1 (appJ j d r).2.2 (all ++ [r]) n t) ∨ ((appJ j d r).1 ≠ 0 ∧ ∀ kept, ∃ m, (m = all.length ∨ m = all.length + 1) ∧ Rest ((appJ j d r).2.2.crash kept) (all ++ [r]) n n m t) := by
  have hn := h.saf.h2
  have h5 := h.saf.h5
  have hje := h.je
  subst hje
  have hmay := mayJ_ok n t (seg all n all.length) r hr
  have hF := recF_live (t := t) hn r
  have hok := stA_ok (recF ⟨n, t, seg all n all.length, false⟩ r) ho
  have hal : (all ++ [r]).length = all.length + 1 := by simp
  rcases app_cases d (recF ⟨n, t, seg all n all.length, false⟩ r) with ⟨a, s⟩ | ⟨a, p0, q0, p1, q1⟩ | ⟨a, p0, q0, p1, q1, p2⟩
  · rw [appJ_bad hmay a]
    refine .inr ⟨a, fun kept => ⟨all.length, .inl rfl, ?_⟩⟩
    have h1 := h.saf.same s
    refine rest_full ?_ ?_ (Nat.le_refl _) hn (by omega) (by omega) (mem_snoc h5 hr)
    · rw [crash_full kept (by omega) h1.s0, h1.b0]
      congr 2
      unfold seg
      rw [List.take_length, List.take_append_of_le_length (Nat.le_refl _), List.take_length]
    · rw [crash_full kept (by omega) h1.s1]; exact h1.snap
  · rw [appJ_bad hmay a]
    refine .inr ⟨a, fun kept => ?_⟩
    rw [hF] at p0 q0 p1 q1 hok ⊢
    exact crash_torn hok (by rw [p0, h.saf.b0]) (by rw [q0, h.saf.s0, h.saf.b0]) (by rw [p1]; exact h.saf.snap) (by rw [q1, p1]; exact h.saf.s1) hn h4 h5 hr kept
  · rw [appJ_ok hmay a]
    rw [hF] at p0 q0 p1 q1 p2 ⊢
    refine .inl ⟨rfl, ⟨?_, ⟨?_, ?_, ?_, ?_, Nat.le_refl _, by omega, Nat.le_refl _, by omega, mem_snoc h5 hr⟩, ?_⟩⟩
    · dsimp only; rw [seg_snoc all n r hn]
    · dsimp only
      rw [p0, h.saf.b0, seg_snoc all n r hn, lay_snoc, seg_length (Nat.le_refl _), show n + 1 + (all.length - n) = all.length + 1 by omega, framesOf_snoc]
    · dsimp only; rw [q0, p0]
    · dsimp only; rw [p1]; exact h.saf.snap
    · dsimp only; rw [q1, p1]; exact h.saf.s1
    · dsimp only; rw [p2]; exact h.b2
end Go.Proofs.Ytdphnhgogokidaa
