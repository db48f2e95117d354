/- The journal: its block; what may be kept; the last number; a file cut. -/
import Derived.Test.YtdphnhgogokidaaJourA
import Derived.Test.YtdphnhgogokidaaDiskN
namespace Go.Proofs.Ytdphnhgogokidaa
open Go.RowKit

/-- a journal. -/
structure Jn where
  base : Nat
  text : List UInt8
  recs : List (List UInt8)
  broken : Bool
def JAt (w : World) (jg g : Nat) (v : Value) (j : Jn) : Prop := w.heap[jg]? = some (.cells #[.pointer (some ⟨g, 0, none⟩), .string ⟨j.text.toArray⟩, .int .i64 j.base, v, .bool j.broken] 111 (0, 0))
section
variable {w w' : World} {jg g : Nat} {v : Value} {j : Jn} (h : JAt w jg g v j)
include h
theorem JAt.c0 : w.cell? ⟨jg, 0, none⟩ = some (.pointer (some ⟨g, 0, none⟩)) := (cell_of_row _ _ 0 _ _ _ h).trans rfl
theorem JAt.c1 : w.cell? ⟨jg, 1, none⟩ = some (.string ⟨j.text.toArray⟩) := (cell_of_row _ _ 1 _ _ _ h).trans rfl
theorem JAt.c2 : w.cell? ⟨jg, 2, none⟩ = some (.int .i64 j.base) := (cell_of_row _ _ 2 _ _ _ h).trans rfl
theorem JAt.c3 : w.cell? ⟨jg, 3, none⟩ = some v := (cell_of_row _ _ 3 _ _ _ h).trans rfl
theorem JAt.c4 : w.cell? ⟨jg, 4, none⟩ = some (.bool j.broken) := (cell_of_row _ _ 4 _ _ _ h).trans rfl
theorem JAt.frozen (i : Nat) : w.frozen? ⟨jg, i, none⟩ = false := frozen_of_row _ _ _ _ _ h
theorem JAt.lt : jg < w.heap.size := (Array.getElem?_eq_some_iff.1 h).1
theorem JAt.below (hb : Below w.heap.size w w') : JAt w' jg g v j := by
  unfold JAt at h ⊢; rw [hb.block _ (Array.getElem?_eq_some_iff.1 h).1]; exact h
end
def mayJ (j : Jn) (b : List UInt8) : Int := if 65528 < b.length then 4 else if j.broken then 9 else 0
set_option maxRecDepth 100000 in
set_option maxHeartbeats 1000000 in
theorem mayj_any (jg g : Nat) (v : Value) (j : Jn) (b : List UInt8) (hb : (b.length : Int) ≤ 140737488355328) (w : World) (h : JAt w jg g v j) :
    Calls Try.prog 75 #[.pointer (some ⟨jg, 0, none⟩), .string ⟨b.toArray⟩] w fun e w' => e = .returned (.int .i64 (mayJ j b)) ∧ w' = w := by
  have c4 := h.c4
  have HM := Lib.hid (show mayJ j b = if 65528 < b.length then 4 else if j.broken then 9 else 0 from rfl)
  generalize mayJ j b = m at *
  by_cases h1 : 65528 < b.length
  · have h1i : (65528 : Int) < b.length := by omega
    have HR := Lib.hid (show m = 4 by rw [HM.out, if_pos h1])
    clear h1 HM h
    go_enter Try.func75, Try.ntmps75
    go_wp2
    go_ret
    exact ⟨by rw [HR.out]; rfl, rfl⟩
  · have h1i : ¬ (65528 : Int) < b.length := by omega
    cases hbr : j.broken
    · have HR := Lib.hid (show m = 0 by rw [HM.out, if_neg h1, hbr]; rfl)
      rw [hbr] at c4
      clear h1 HM h hbr
      go_enter Try.func75, Try.ntmps75
      go_wp2
      go_ret
      exact ⟨by rw [HR.out]; rfl, rfl⟩
    · have HR := Lib.hid (show m = 9 by rw [HM.out, if_neg h1, hbr]; rfl)
      rw [hbr] at c4
      clear h1 HM h hbr
      go_enter Try.func75, Try.ntmps75
      go_wp2
      go_ret
      exact ⟨by rw [HR.out]; rfl, rfl⟩
set_option maxRecDepth 100000 in
set_option maxHeartbeats 1000000 in
theorem last_any (jg g : Nat) (a : Option Addr) (cap : Nat) (j : Jn) (hj : (j.base : Int) + j.recs.length ≤ 9223372036854775807) (w : World) (h : JAt w jg g (.slice a j.recs.length cap) j) :
    Calls Try.prog 45 #[.pointer (some ⟨jg, 0, none⟩)] w fun e w' => e = .returned (.int .i64 ((j.base + j.recs.length : Nat) : Int)) ∧ ∃ n, w' = w.drewN n := by
  have c2 := h.c2
  have c3 := h.c3
  clear h
  go_enter Try.func45, Try.ntmps45
  go_wp2_with fail
  go_quiet (fail)
  go_wp2
  go_ret
  exact ⟨by simp, nq, rfl⟩
end Go.Proofs.Ytdphnhgogokidaa
