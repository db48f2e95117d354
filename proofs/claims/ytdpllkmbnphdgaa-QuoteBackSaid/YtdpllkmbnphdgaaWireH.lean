/- Wire: a command's cells in a box; the fields of a kind; what a command that may be is, in plain words. -/
import Derived.Test.YtdpllkmbnphdgaaWireG
import Derived.StillTailTactics
namespace Go.Proofs.Ytdpllkmbnphdgaa
open Go.RowKit

/-- a command's block. -/
def CmAt (w : World) (g : Nat) (c : Cm) : Prop := w.heap[g]? = some (.cells c.cells 23 (0, 0))
def upd (n : Nat → Int) (i : Nat) (x : Int) : Nat → Int := fun k => if k = i then x else n k
theorem CmAt.below {w w' : World} {g : Nat} {c : Cm} (h : CmAt w g c) (hb : Below w.heap.size w w') : CmAt w' g c := by
  unfold CmAt at h ⊢
  rw [hb.block g (Array.getElem?_eq_some_iff.1 h).1]; exact h
theorem CmAt.lt {w : World} {g : Nat} {c : Cm} (h : CmAt w g c) : g < w.heap.size := (Array.getElem?_eq_some_iff.1 h).1
theorem CmAt.kind {w : World} {g : Nat} {c : Cm} (h : CmAt w g c) : w.cell? ⟨g, 0, none⟩ = some (.int .i64 c.k) := by
  rw [cell_of_row _ _ _ _ _ _ h]; rfl
theorem CmAt.num {w : World} {g : Nat} {c : Cm} (h : CmAt w g c) {i : Nat} (h1 : 1 ≤ i) (h7 : i ≤ 7) : w.cell? ⟨g, i, none⟩ = some (.int .i64 (c.n i)) := by
  rw [cell_of_row _ _ _ _ _ _ h]
  obtain rfl | rfl | rfl | rfl | rfl | rfl | rfl : i = 1 ∨ i = 2 ∨ i = 3 ∨ i = 4 ∨ i = 5 ∨ i = 6 ∨ i = 7 := by omega
  all_goals rfl
theorem CmAt.frozen {w : World} {g : Nat} {c : Cm} (h : CmAt w g c) (i : Nat) : w.frozen? ⟨g, i, none⟩ = false := frozen_of_row _ _ _ _ _ h
theorem CmAt.range {w : World} {g : Nat} {c : Cm} (h : CmAt w g c) : w.rangeAt g 0 c.cells.toList := fun j v hv => by
  rw [cell_of_row _ _ _ _ _ _ h, Nat.zero_add]; simpa using hv
theorem CmAt.set {w : World} {g : Nat} {c : Cm} (h : CmAt w g c) {i : Nat} (h1 : 1 ≤ i) (h7 : i ≤ 7) (x : Int) : CmAt (w.setCell ⟨g, i, none⟩ (.int .i64 x)) g ⟨c.k, upd c.n i x⟩ := by
  unfold CmAt at h ⊢
  rw [heap_setCell_same _ _ _ _ _ _ h]
  obtain rfl | rfl | rfl | rfl | rfl | rfl | rfl : i = 1 ∨ i = 2 ∨ i = 3 ∨ i = 4 ∨ i = 5 ∨ i = 6 ∨ i = 7 := by omega
  all_goals rfl
theorem CmAt.apart {w : World} {g g' : Nat} {c : Cm} (h : CmAt w g c) (hne : g ≠ g') (i : Nat) (v : Value) : CmAt (w.setCell ⟨g', i, none⟩ v) g c := by
  unfold CmAt at h ⊢
  rw [heap_setCell_other _ _ _ _ hne]; exact h
theorem cmAt_new (w : World) (c : Cm) : CmAt (w.alloc (.cells c.cells 23 (0, 0))) w.heap.size c := heap_alloc_new _ _
theorem fieldsAt_below {w w' : World} {B g : Nat} {v : Value} {L : List (Nat × Nat)} (h : FieldsAt w B g v L) (hb : Below w.heap.size w w') : FieldsAt w' B g v L := by
  obtain ⟨a, e, h2⟩ := h
  refine ⟨a, e, fun hne => ?_⟩
  obtain ⟨b, hB, ea, hc⟩ := h2 hne
  exact ⟨b, hB, ea, by rw [hb.block b (Array.getElem?_eq_some_iff.1 hc).1]; exact hc⟩
theorem fieldsAt_apart {w : World} {B g g' : Nat} {v : Value} {L : List (Nat × Nat)} (h : FieldsAt w B g v L) (hlt : g' < B) (i : Nat) (x : Value) : FieldsAt (w.setCell ⟨g', i, none⟩ x) B g v L := by
  obtain ⟨a, e, h2⟩ := h
  refine ⟨a, e, fun hne => ?_⟩
  obtain ⟨b, hB, ea, hc⟩ := h2 hne
  exact ⟨b, hB, ea, by rw [heap_setCell_other _ _ _ _ (by show b ≠ g'; omega)]; exact hc⟩
theorem fieldsAt_mono {w : World} {B B' g : Nat} {v : Value} {L : List (Nat × Nat)} (h : FieldsAt w B g v L) (hle : B' ≤ B) : FieldsAt w B' g v L := by
  obtain ⟨a, e, h2⟩ := h
  refine ⟨a, e, fun hne => ?_⟩
  obtain ⟨b, hB, ea, hc⟩ := h2 hne
  exact ⟨b, by omega, ea, hc⟩
theorem fieldCells_len (g : Nat) (p : Nat × Nat) : (fieldCells g p).length = 3 := by unfold fieldCells; split <;> rfl
theorem flat_at (g : Nat) : ∀ (L : List (Nat × Nat)) (j : Nat) (p : Nat × Nat), L[j]? = some p → ∀ i v, (fieldCells g p)[i]? = some v → (L.flatMap (fieldCells g))[j * 3 + i]? = some v
  | [], j, p, h, _, _, _ => by simp at h
  | q :: L, 0, p, h, i, v, hv => by
    simp at h; subst h
    have hi := (List.getElem?_eq_some_iff.1 hv).1
    simp only [List.flatMap_cons]
    rw [List.getElem?_append_left (by omega)]
    simpa using hv
  | q :: L, j + 1, p, h, i, v, hv => by
    simp at h
    simp only [List.flatMap_cons]
    rw [List.getElem?_append_right (by rw [fieldCells_len]; omega), fieldCells_len, show (j + 1) * 3 + i - 3 = j * 3 + i by omega]
    exact flat_at g L j p h i v hv
theorem fields_range {w : World} {B g : Nat} {v : Value} {L : List (Nat × Nat)} (h : FieldsAt w B g v L) {j : Nat} {p : Nat × Nat} (hj : L[j]? = some p) :
    ∃ b, B ≤ b ∧ v = .slice (some ⟨b, 0, none⟩) L.length L.length ∧ w.rangeAt b (j * 3) (fieldCells g p) := by
  obtain ⟨a, e, h2⟩ := h
  obtain ⟨b, hB, ea, hc⟩ := h2 (by intro h; subst h; simp at hj)
  subst ea
  refine ⟨b, hB, e, fun i u hu => ?_⟩
  rw [cell_of_row _ _ _ _ _ _ hc]
  simpa using flat_at g L j p hj i u hu
theorem specs_mem {k : Int} {p : Nat × Nat} (h : p ∈ specs k) : 1 ≤ p.1 ∧ p.1 ≤ 7 ∧ (p.1 ≤ 5 → p.2 = 1 ∨ p.2 = 4) ∧ (5 < p.1 → p.2 = 8) := by
  unfold specs at h
  repeat' split at h
  all_goals
    simp at h
    try rcases h with rfl | rfl | rfl | rfl | rfl | rfl | rfl
    try rcases h with rfl | rfl | rfl
    try rcases h with rfl | rfl
    try subst h
    try simp
  all_goals simp
theorem specs_len (k : Int) : (specs k).length ≤ 7 := by
  unfold specs
  repeat' split
  all_goals simp
/-- a command's numbers as far as the given fields; 0 elsewhere. -/
def pn (c : Cm) (L : List (Nat × Nat)) : Nat → Int := fun i => if L.any (fun p => p.1 == i) then c.n i else 0
theorem pn_snoc (c : Cm) (L : List (Nat × Nat)) (p : Nat × Nat) : upd (pn c L) p.1 (c.n p.1) = pn c (L ++ [p]) := by
  funext i
  unfold upd pn
  simp only [List.any_append, List.any_cons, List.any_nil, Bool.or_false, Bool.or_eq_true, beq_iff_eq]
  by_cases h : i = p.1
  · subst h; simp
  · rw [if_neg h]
    by_cases h2 : L.any (fun p => p.1 == i) = true
    · rw [if_pos h2, if_pos (Or.inl h2)]
    · rw [if_neg h2, if_neg]
      rintro (h3 | h3)
      · exact h2 h3
      · exact h h3.symm
/-- a field's number may be laid. -/
def okField (c : Cm) (p : Nat × Nat) : Bool := decide (5 < p.1) || fits (c.n p.1) p.2
/-- two commands' numbers are the same. -/
def same (n m : Nat → Int) : Bool := decide (n 1 = m 1 ∧ n 2 = m 2 ∧ n 3 = m 3 ∧ n 4 = m 4 ∧ n 5 = m 5 ∧ n 6 = m 6 ∧ n 7 = m 7)
/-- may a command be? -/
def may (c : Cm) : Bool := decide (0 < (specs c.k).length) && ((specs c.k).all (okField c) && same (pn c (specs c.k)) c.n)
end Go.Proofs.Ytdpllkmbnphdgaa
