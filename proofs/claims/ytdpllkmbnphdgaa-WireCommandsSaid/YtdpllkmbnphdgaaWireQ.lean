/- Wire: the reply of bytes, in plain words. -/
import Derived.Test.YtdpllkmbnphdgaaWireM
import Derived.Test.YtdpllkmbnphdgaaWireO
import Derived.Deep.AppendLies
namespace Go.Proofs.Ytdpllkmbnphdgaa
open Go.RowKit

/-- a reply: an error, a value, numbers. -/
structure Rp where
  e : Int
  v : Int
  ids : List Int
def many (s : List UInt8) : Nat := val ((s.drop 9).take 2)
def idAt (s : List UInt8) (i : Nat) : Int := ((val ((s.drop (11 + 4 * i)).take 4) : Nat) : Int)
def idsOf (s : List UInt8) (n : Nat) : List Int := (List.range n).map (idAt s)
def takeR (s : List UInt8) : Option Rp :=
  if s.length < 11 then none
  else if 200 < many s ∨ s.length ≠ 11 + 4 * many s then none
  else if (idsOf s (many s)).all (fun n => fits n 4) = true then some ⟨(s.getD 0 0).toNat, IntKind.i64.wrap (val ((s.drop 1).take 8) : Nat), idsOf s (many s)⟩
  else none
def rpOf : Option Rp → Rp
  | none => ⟨0, 0, []⟩
  | some r => r
def rpCode : Option Rp → Int
  | none => 2
  | some _ => 0
theorem many_lt (s : List UInt8) : many s < 65536 := by
  have h := val_lt ((s.drop 9).take 2)
  have h2 : ((s.drop 9).take 2).length ≤ 2 := by rw [List.length_take]; omega
  unfold many
  exact Nat.lt_of_lt_of_le h (Nat.le_trans (Nat.pow_le_pow_right (by omega) h2) (by decide))
theorem idAt_in (s : List UInt8) (i : Nat) : 0 ≤ idAt s i ∧ idAt s i ≤ 4294967295 := by
  have h := val_lt ((s.drop (11 + 4 * i)).take 4)
  have h2 : ((s.drop (11 + 4 * i)).take 4).length ≤ 4 := by rw [List.length_take]; omega
  have h3 : val ((s.drop (11 + 4 * i)).take 4) < 4294967296 := Nat.lt_of_lt_of_le h (Nat.le_trans (Nat.pow_le_pow_right (by omega) h2) (by decide))
  unfold idAt
  omega
theorem idsOf_succ (s : List UInt8) (n : Nat) : idsOf s (n + 1) = idsOf s n ++ [idAt s n] := by simp [idsOf, List.range_succ]
theorem idsOf_len (s : List UInt8) (n : Nat) : (idsOf s n).length = n := by simp [idsOf]
theorem idsOf_at (s : List UInt8) {n i : Nat} (h : i < n) : (idsOf s n)[i]? = some (idAt s i) := by simp [idsOf, h]
/-- a reply's block. -/
def RpAt (t : TypeId) (w : World) (g : Nat) (e v : Int) (sl : Value) : Prop := w.heap[g]? = some (.cells #[.int .i64 e, .int .i64 v, sl] t (0, 0))
section
variable {t : TypeId} {w w' : World} {g : Nat} {e v : Int} {sl : Value} (h : RpAt t w g e v sl)
include h
theorem RpAt.below (hb : Below w.heap.size w w') : RpAt t w' g e v sl := by
  unfold RpAt at h ⊢; rw [hb.block _ (Array.getElem?_eq_some_iff.1 h).1]; exact h
theorem RpAt.lt : g < w.heap.size := (Array.getElem?_eq_some_iff.1 h).1
theorem RpAt.c0 : w.cell? ⟨g, 0, none⟩ = some (.int .i64 e) := (cell_of_row _ _ 0 _ _ _ h).trans rfl
theorem RpAt.c1 : w.cell? ⟨g, 1, none⟩ = some (.int .i64 v) := (cell_of_row _ _ 1 _ _ _ h).trans rfl
theorem RpAt.c2 : w.cell? ⟨g, 2, none⟩ = some sl := (cell_of_row _ _ 2 _ _ _ h).trans rfl
theorem RpAt.frozen (i : Nat) : w.frozen? ⟨g, i, none⟩ = false := frozen_of_row _ _ _ _ _ h
theorem RpAt.range : w.rangeAt g 0 [.int .i64 e, .int .i64 v, sl] := fun j x hx => by
  rw [cell_of_row _ _ _ _ _ _ h, Nat.zero_add]; simpa using hx
theorem RpAt.there : w.there g 0 3 := fun j hj => by
  refine ⟨?_, frozen_of_row _ _ _ _ _ h⟩
  rw [Nat.zero_add, cell_of_row _ _ _ _ _ _ h]
  simp [hj]
theorem RpAt.set2 (x : Value) : RpAt t (w.setCell ⟨g, 2, none⟩ x) g e v x := by
  unfold RpAt at h ⊢
  rw [heap_setCell_same _ _ _ _ _ _ h]; rfl
theorem RpAt.set3 (e' v' : Int) (x : Value) : RpAt t (((w.setCell ⟨g, 0, none⟩ (.int .i64 e')).setCell ⟨g, 1, none⟩ (.int .i64 v')).setCell ⟨g, 2, none⟩ x) g e' v' x := by
  unfold RpAt at h ⊢
  have h1 := heap_setCell_same w g 0 _ _ (.int .i64 e') h
  have h2 := heap_setCell_same _ g 1 _ _ (.int .i64 v') h1
  rw [heap_setCell_same _ g 2 _ _ x h2]; rfl
theorem RpAt.apart {g' : Nat} (hne : g ≠ g') (i : Nat) (x : Value) : RpAt t (w.setCell ⟨g', i, none⟩ x) g e v sl := by
  unfold RpAt at h ⊢
  rw [heap_setCell_other _ _ _ _ hne]; exact h
theorem RpAt.grown {n : Nat} {row : Value} {xs : List Value} {E : TypeId} {B : Nat} (hg : w.grownBy w' row.ownBlock) (ho : w.ownsRow B E 1 row n xs) (hlt : g < B) : RpAt t w' g e v sl := by
  have h2 := h
  unfold RpAt at h ⊢
  rw [hg.block g (RpAt.lt h2)]
  · exact h
  · intro hk; have := ho.lt _ hk.symm; omega
end
theorem rpAt_new (t : TypeId) (w : World) (e v : Int) (sl : Value) : RpAt t (w.alloc (.cells #[.int .i64 e, .int .i64 v, sl] t (0, 0))) w.heap.size e v sl := heap_alloc_new _ _
theorem infoInt : (Try.prog.info? 3).map (fun i => (i.zero, i.size, i.bytes)) = some (some (.int .i64 0), 1, 8) := by kernel_rfl
/-- the row of numbers, as a slice of numbers. -/
theorem slInt_own {w : World} {B : Nat} {v : Value} {ids : List Int} (h : w.ownsRow B 3 1 v ids.length (ids.map (Value.int .i64))) : SlInt w v ids := by
  rcases h.2 with ⟨rfl, h0⟩ | ⟨g, cap, cur, rfl, _, hc, _, _, _, ht⟩
  · exact ⟨none, 0, by rw [h0], fun hne => absurd (List.eq_nil_of_length_eq_zero h0) hne⟩
  · refine ⟨some ⟨g, 0, none⟩, cap, rfl, fun _ => ⟨g, 0, rfl, fun j x hx => ?_⟩⟩
    rw [cell_of_row _ _ _ _ _ _ hc, Nat.zero_add]
    have : (ids.map (Value.int .i64))[j]? = some (.int .i64 x) := by simp [hx]
    rw [← ht, List.getElem?_take] at this
    split at this
    · simpa using this
    · cases this
end Go.Proofs.Ytdpllkmbnphdgaa
