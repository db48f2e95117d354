/- The arguments of the wire's laws, opened: a command; a reply. -/
import Derived.Test.YtdpllkmbnphdgaaWireT
import Derived.Test.YtdpllkmbnphdgaaRow
import Derived.Deep.SlicePairs
import Derived.OpenShut
namespace Go.Proofs.Ytdpllkmbnphdgaa
open Go.ChangeShapes Go.WideShapes Go.ChangeAt Go.RowKit Go.Deep
theorem cells_cmd : Try.prog.cellsOf 23 = 8 := by kernel_rfl
theorem cells_rep : Try.prog.cellsOf 40 = 3 := by kernel_rfl
theorem cells_int : Try.prog.cellsOf 3 = 1 := by kernel_rfl
theorem cells_i64 : Try.prog.cellsOf 2 = 1 := by kernel_rfl
theorem cells_err : Try.prog.cellsOf 25 = 1 := by kernel_rfl
theorem cells_ints : Try.prog.cellsOf 38 = 1 := by kernel_rfl
def seven (a b c d e f g : Int) : Nat → Int := fun i => if i = 1 then a else if i = 2 then b else if i = 3 then c else if i = 4 then d else if i = 5 then e else if i = 6 then f else if i = 7 then g else 0
def In64 (n : Int) : Prop := -9223372036854775808 ≤ n ∧ n ≤ 9223372036854775807
theorem seven_in {a b c d e f g : Int} (ha : In64 a) (hb : In64 b) (hc : In64 c) (hd : In64 d) (he : In64 e) (hf : In64 f) (hg : In64 g) (i : Nat) : In64 (seven a b c d e f g i) := by
  unfold seven
  repeat' split
  all_goals first | assumption | (unfold In64; omega)
section
variable {H : Type} {enc : TypeId × Value → H} {W : World} {base : Nat}
theorem open_cmd {v : Value} {d : DataW H} {p : List MemPlace} (hv : Value.okWide Try.prog W .any base 23 v) (h : DataW.Trod enc Try.prog W 0 (fun _ => true) true 23 v d p)
    (_hw : ∀ n ∈ d.weights Try.prog 23, n ≤ reachBytes) : ∃ c : Cm, v = .agg c.cells ∧ ∀ i, In64 (c.n i) := by
  obtain ⟨cs, rfl, hsz⟩ := okWide_struct Try.underlying23 hv
  obtain ⟨fuel, hf0⟩ := h
  obtain ⟨xs, m, _, hx, hl, hxl, hf⟩ := DataW.trod_struct Try.underlying23 hf0
  change cs.toList.length = _ at hl
  change ∀ (i : Nat) (f : Field), _ → DataW.trod enc Try.prog W 0 (fun _ => true) true m f.type ((cs.toList.drop f.offset).take (Try.prog.cellsOf f.type)) = xs[i]? at hf
  rw [cells_cmd] at hl
  obtain ⟨l, rfl⟩ : ∃ l : List Value, cs = l.toArray := ⟨cs.toList, by simp⟩
  simp only at hl hf
  clear hv hsz hf0 hx
  match l, hl, xs, hxl with
  | [v0, v1, v2, v3, v4, v5, v6, v7], _, [y0, y1, y2, y3, y4, y5, y6, y7], _ =>
    have g0 := hf 0 _ rfl
    have g1 := hf 1 _ rfl
    have g2 := hf 2 _ rfl
    have g3 := hf 3 _ rfl
    have g4 := hf 4 _ rfl
    have g5 := hf 5 _ rfl
    have g6 := hf 6 _ rfl
    have g7 := hf 7 _ rfl
    simp [cells_int, cells_i64] at g0 g1 g2 g3 g4 g5 g6 g7
    obtain ⟨n0, e0, _, _⟩ := DataW.trod_int Try.underlying3 g0
    obtain ⟨n1, e1, _, w1⟩ := DataW.trod_int Try.underlying3 g1
    obtain ⟨n2, e2, _, w2⟩ := DataW.trod_int Try.underlying3 g2
    obtain ⟨n3, e3, _, w3⟩ := DataW.trod_int Try.underlying3 g3
    obtain ⟨n4, e4, _, w4⟩ := DataW.trod_int Try.underlying3 g4
    obtain ⟨n5, e5, _, w5⟩ := DataW.trod_int Try.underlying3 g5
    obtain ⟨n6, e6, _, w6⟩ := DataW.trod_int Try.underlying2 g6
    obtain ⟨n7, e7, _, w7⟩ := DataW.trod_int Try.underlying2 g7
    simp only [List.cons.injEq, and_true] at e0 e1 e2 e3 e4 e5 e6 e7
    subst e0 e1 e2 e3 e4 e5 e6 e7
    exact ⟨⟨n0, seven n1 n2 n3 n4 n5 n6 n7⟩, rfl, seven_in (bounds_i64 w1) (bounds_i64 w2) (bounds_i64 w3) (bounds_i64 w4) (bounds_i64 w5) (bounds_i64 w6) (bounds_i64 w7)⟩
theorem open_rep {v : Value} {d : DataW H} {p : List MemPlace} (hv : Value.okWide Try.prog W .any base 40 v) (h : DataW.Trod enc Try.prog W 0 (fun _ => true) true 40 v d p)
    (_hw : ∀ n ∈ d.weights Try.prog 40, n ≤ reachBytes) : ∃ r : Rp, ∃ sl, v = .agg #[.int .i64 r.e, .int .i64 r.v, sl] ∧ SlInt W sl r.ids ∧ In64 r.v := by
  obtain ⟨cs, rfl, hsz⟩ := okWide_struct Try.underlying40 hv
  obtain ⟨fuel, hf0⟩ := h
  obtain ⟨xs, m, _, hx, hl, hxl, hf⟩ := DataW.trod_struct Try.underlying40 hf0
  change cs.toList.length = _ at hl
  change ∀ (i : Nat) (f : Field), _ → DataW.trod enc Try.prog W 0 (fun _ => true) true m f.type ((cs.toList.drop f.offset).take (Try.prog.cellsOf f.type)) = xs[i]? at hf
  rw [cells_rep] at hl
  obtain ⟨l, rfl⟩ : ∃ l : List Value, cs = l.toArray := ⟨cs.toList, by simp⟩
  simp only at hl hf
  clear hv hsz hf0 hx
  match l, hl, xs, hxl with
  | [v0, v1, v2], _, [y0, y1, y2], _ =>
    have g0 := hf 0 _ rfl
    have g1 := hf 1 _ rfl
    have g2 := hf 2 _ rfl
    simp [cells_err, cells_i64, cells_ints] at g0 g1 g2
    obtain ⟨n0, e0, _, _⟩ := DataW.trod_int Try.underlying25 g0
    obtain ⟨n1, e1, _, w1⟩ := DataW.trod_int Try.underlying2 g1
    simp only [List.cons.injEq, and_true] at e0 e1
    subst e0 e1
    rcases open_slice Try.underlying38 g2 with ⟨hcs, _⟩ | ⟨a, len, cap, m2, n, D, Pl, hcs, _, hl2, hm, hmm, _, hel⟩
    · simp at hcs
      subst hcs
      exact ⟨⟨n0, n1, []⟩, .slice none 0 0, rfl, ⟨none, 0, rfl, fun h => absurd rfl h⟩, bounds_i64 w1⟩
    · simp at hcs
      subst hcs
      simp only [if_true] at hmm
      subst hmm
      rw [cells_int] at hel
      have each : ∀ i, i < len → ∃ y : Int, W.cell? (a.add i) = some (.int .i64 y) := by
        intro i hi
        obtain ⟨cs', h1, h2⟩ := hel i (by omega)
        obtain ⟨y, rfl, _, _⟩ := DataW.trod_int Try.underlying3 h2
        obtain ⟨_, _, hc⟩ := World.cells?_some h1
        have := hc 0 (by omega)
        refine ⟨y, ?_⟩
        rw [Nat.mul_one] at this
        simpa [Addr.add] using this
      obtain ⟨q, hq⟩ := choose_lt each
      refine ⟨⟨n0, n1, (List.range len).map q⟩, _, rfl, ⟨some a, m2, by simp, fun hne => ?_⟩, bounds_i64 w1⟩
      have hp : 0 < len := by
        rcases Nat.eq_zero_or_pos len with h | h
        · subst h; simp at hne
        · exact h
      obtain ⟨b, off, spot⟩ := a
      have hspot : spot = none := by
        have := hq 0 hp
        simpa [Addr.add] using World.cell?_spot this
      subst hspot
      refine ⟨b, off, rfl, fun j x hx => ?_⟩
      have hj : j < len := by have := (List.getElem?_eq_some_iff.1 hx).1; simpa using this
      simp [hj] at hx
      subst hx
      have := hq j hj
      rwa [add_plain] at this
end
end Go.Proofs.Ytdpllkmbnphdgaa
