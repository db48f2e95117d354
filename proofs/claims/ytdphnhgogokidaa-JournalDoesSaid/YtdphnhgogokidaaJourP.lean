/- The journal, plain: numbers and records laid, and what is told of them. -/
import Derived.Test.YtdphnhgogokidaaJourH
namespace Go.Proofs.Ytdphnhgogokidaa
open Go.RowKit

theorem eight_len (n : Nat) : (eight n).length = 8 := rfl
theorem eight_small {n : Nat} (h : n < 65536) : eight n = [0, 0, 0, 0, 0, 0, UInt8.ofNat (n / 256), UInt8.ofNat n] := by
  unfold eight
  rw [show n / 72057594037927936 = 0 by omega, show n / 281474976710656 = 0 by omega, show n / 1099511627776 = 0 by omega, show n / 4294967296 = 0 by omega, show n / 16777216 = 0 by omega, show n / 65536 = 0 by omega]
  rfl
theorem part_eight {n : Nat} (h : n < 65536) (r : List UInt8) : part (eight n ++ r) = some (n, r) := by
  have e8 : (eight n ++ r).take 8 = eight n := by rw [List.take_append_of_le_length (by rw [eight_len]; omega), List.take_of_length_le (by rw [eight_len]; omega)]
  have d8 : (eight n ++ r).drop 8 = r := by rw [List.drop_append_of_le_length (by rw [eight_len]; omega), List.drop_of_length_le (by rw [eight_len]; omega)]; rfl
  have e7 : (eight n ++ r).take 7 = [0, 0, 0, 0, 0, 0, UInt8.ofNat (n / 256)] := by
    rw [List.take_append_of_le_length (by rw [eight_len]; omega), eight_small h]; rfl
  have r7 : rd [0, 0, 0, 0, 0, 0, UInt8.ofNat (n / 256)] = n / 256 := by
    simp only [rd, List.foldl_cons, List.foldl_nil, UInt8.toNat_ofNat', UInt8.toNat_zero]
    omega
  have r8 : rd (eight n) = n := by
    rw [eight_small h]
    simp only [rd, List.foldl_cons, List.foldl_nil, UInt8.toNat_ofNat', UInt8.toNat_zero]
    omega
  unfold part
  rw [if_neg (by rw [List.length_append, eight_len]; omega), e7, r7, if_neg (by omega), e8, r8, d8]
/-- records, numbered from n on. -/
def lay : Nat → List (List UInt8) → List (List UInt8)
  | _, [] => []
  | n, r :: L => (eight n ++ r) :: lay (n + 1) L
theorem lay_length : ∀ (n : Nat) (L : List (List UInt8)), (lay n L).length = L.length
  | _, [] => rfl
  | n, _ :: L => by rw [lay, List.length_cons, lay_length (n + 1) L, List.length_cons]
theorem lay_snoc : ∀ (n : Nat) (L : List (List UInt8)) (r : List UInt8), lay n (L ++ [r]) = lay n L ++ [eight (n + L.length) ++ r]
  | n, [], r => rfl
  | n, x :: L, r => by
    rw [List.cons_append, lay, lay_snoc (n + 1) L r, lay, List.cons_append, List.length_cons, show n + 1 + L.length = n + (L.length + 1) by omega]
theorem lay_take : ∀ (n : Nat) (L : List (List UInt8)) (k : Nat), (lay n L).take k = lay n (L.take k)
  | _, [], k => by cases k <;> rfl
  | n, x :: L, 0 => rfl
  | n, x :: L, k + 1 => by rw [lay, List.take_succ_cons, lay_take (n + 1) L k, List.take_succ_cons, lay]
theorem lay_mem : ∀ (n : Nat) (L : List (List UInt8)) (K : Nat), (∀ r ∈ L, r.length ≤ K) → ∀ x ∈ lay n L, x.length ≤ K + 8
  | _, [], _, _, x, hx => by cases hx
  | n, r :: L, K, h, x, hx => by
    rcases List.mem_cons.1 hx with rfl | hx
    · rw [List.length_append, eight_len]; have := h r (List.mem_cons_self ..); omega
    · exact lay_mem (n + 1) L K (fun r hr => h r (List.mem_cons_of_mem _ hr)) x hx
theorem fol_next (base : Nat) : ∀ (L : List (List UInt8)) (nx : Nat), 0 < nx → nx + L.length ≤ 65536 → fol base false nx (lay nx L) = some (L.drop (base + 1 - nx))
  | [], nx, _, _ => by simp [lay, fol]
  | r :: L, nx, h0, hl => by
    rw [List.length_cons] at hl
    rw [lay, fol, part_eight (by omega)]
    dsimp only
    rw [if_neg (by rintro (h | ⟨h, _⟩ | ⟨_, h⟩); omega; cases h; exact h rfl), fol_next base L (nx + 1) (by omega) (by omega)]
    by_cases hb : base < nx
    · rw [show base + 1 - nx = 0 by omega, show base + 1 - (nx + 1) = 0 by omega]; simp [hb]
    · rw [show base + 1 - nx = (base + 1 - (nx + 1)) + 1 by omega]; simp [hb]
theorem fol_lay (base : Nat) (L : List (List UInt8)) (n0 : Nat) (h0 : n0 ≤ base) (hl : n0 + 1 + L.length ≤ 65536) : fol base true 0 (lay (n0 + 1) L) = some (L.drop (base - n0)) := by
  cases L with
  | nil => simp [lay, fol]
  | cons r L =>
    rw [List.length_cons] at hl
    rw [lay, fol, part_eight (by omega)]
    dsimp only
    rw [if_neg (by rintro (h | ⟨_, h⟩ | ⟨h, _⟩); omega; omega; cases h), fol_next base L (n0 + 1 + 1) (by omega) (by omega)]
    by_cases hb : base < n0 + 1
    · rw [show base - n0 = 0 by omega, show base + 1 - (n0 + 1 + 1) = 0 by omega]; simp [hb]
    · rw [show base - n0 = (base + 1 - (n0 + 1 + 1)) + 1 by omega]; simp [hb]
/-- a snapshot's file. -/
def SnapB (l : List UInt8) (n : Nat) (t : List UInt8) : Prop := (l = [] ∧ n = 0 ∧ t = []) ∨ (l = frameOf (eight n ++ t) ∧ t.length ≤ 65528 ∧ n < 65536)
theorem scan_none : scan [] = ([], 0, 0) := scan_nil rfl
theorem scan_snap {n : Nat} {t : List UInt8} (ht : t.length ≤ 65528) : scan (frameOf (eight n ++ t)) = ([eight n ++ t], (frameOf (eight n ++ t)).length, 0) := by
  have h := scan_frame (eight n ++ t) [] (by rw [List.length_append, eight_len]; omega)
  rw [List.append_nil, scan_none] at h
  rw [h, frameOf_length]
  simp [Nat.add_comm]
theorem frameOf_ne (l : List UInt8) : frameOf l ≠ [] := fun h => by have := congrArg List.length h; rw [frameOf_length] at this; simp at this
theorem snapOf_of {l : List UInt8} {n : Nat} {t : List UInt8} (h : SnapB l n t) : snapOf l = some (n, t) := by
  rcases h with ⟨rfl, rfl, rfl⟩ | ⟨rfl, ht, hn⟩
  · exact snapOf_nil rfl
  · rw [snapOf_one (frameOf_ne _) (by rw [scan_snap ht]; exact ⟨rfl, rfl⟩), scan_snap ht]
    exact part_eight hn t
def seg (all : List (List UInt8)) (a b : Nat) : List (List UInt8) := (all.take b).drop a
theorem seg_length {all : List (List UInt8)} {a b : Nat} (h : b ≤ all.length) : (seg all a b).length = b - a := by
  unfold seg; rw [List.length_drop, List.length_take, Nat.min_eq_left h]
theorem seg_drop (all : List (List UInt8)) (a b k : Nat) : (seg all a b).drop k = seg all (a + k) b := by
  unfold seg; rw [List.drop_drop]
theorem seg_snoc (all : List (List UInt8)) (a : Nat) (r : List UInt8) (h : a ≤ all.length) : seg (all ++ [r]) a (all ++ [r]).length = seg all a all.length ++ [r] := by
  unfold seg; rw [List.take_length, List.take_length, List.drop_append_of_le_length h]
theorem seg_mem {all : List (List UInt8)} {a b : Nat} {x : List UInt8} (h : x ∈ seg all a b) : x ∈ all := List.mem_of_mem_take (List.mem_of_mem_drop h)
/-- what a disk keeps: a snapshot n, t; records n0 + 1 .. m, perhaps a part behind them. -/
structure Rest (d : Dk) (all : List (List UInt8)) (n0 n m : Nat) (t : List UInt8) : Prop where
  snap : SnapB (d.b 1) n t
  log : ∃ q, scan (d.b 0) = (lay (n0 + 1) (seg all n0 m), (framesOf (lay (n0 + 1) (seg all n0 m))).length, q) ∧ q ≠ 2
  part : (d.b 0).take (framesOf (lay (n0 + 1) (seg all n0 m))).length = framesOf (lay (n0 + 1) (seg all n0 m))
  h1 : n0 ≤ n
  h2 : n ≤ m
  h3 : m ≤ all.length
  h4 : all.length ≤ 1000
  h5 : ∀ r ∈ all, r.length ≤ 65528
theorem Rest.lays {d : Dk} {all : List (List UInt8)} {n0 n m : Nat} {t : List UInt8} (h : Rest d all n0 n m t) : ∀ x ∈ lay (n0 + 1) (seg all n0 m), x.length ≤ 65536 :=
  lay_mem _ _ 65528 fun r hr => h.h5 r (seg_mem hr)
theorem Rest.fol {d : Dk} {all : List (List UInt8)} {n0 n m : Nat} {t : List UInt8} (h : Rest d all n0 n m t) : fol n true 0 (lay (n0 + 1) (seg all n0 m)) = some (seg all n m) := by
  have h1 := h.h1; have h2 := h.h2; have h3 := h.h3; have h4 := h.h4
  rw [fol_lay n _ n0 h1 (by rw [seg_length h3]; omega), seg_drop, show n0 + (n - n0) = n by omega]
/-- Open of what is kept: by what its two cuts do. -/
theorem Rest.opened {d : Dk} {all : List (List UInt8)} {n0 n m : Nat} {t : List UInt8} (h : Rest d all n0 n m t) :
    openJ d = if (opS (framesOf (lay (n0 + 1) (seg all n0 m))).length d).code = 0 then (0, some ⟨n, t, seg all n m, false⟩, (opS (framesOf (lay (n0 + 1) (seg all n0 m))).length d).dk)
      else ((opS (framesOf (lay (n0 + 1) (seg all n0 m))).length d).code, none, (opS (framesOf (lay (n0 + 1) (seg all n0 m))).length d).dk) := by
  obtain ⟨q, hq, hq2⟩ := h.log
  by_cases hc : (opS (framesOf (lay (n0 + 1) (seg all n0 m))).length d).code = 0
  · rw [if_pos hc]
    have h := openJ_ok (d := d) (snapOf_of h.snap) (by rw [hq]; exact hq2) (rs := seg all n m) (by rw [hq]; exact h.fol) (by rw [hq]; exact hc)
    rw [h, hq]
  · rw [if_neg hc]
    have h := openJ_bad (d := d) (snapOf_of h.snap) (by rw [hq]; exact hq2) (rs := seg all n m) (by rw [hq]; exact h.fol) (by rw [hq]; exact hc)
    rw [h, hq]
end Go.Proofs.Ytdphnhgogokidaa
