/- The arguments of the disk's laws, opened: a list of operations; an array of four numbers. -/
import Derived.Test.YtdphnhgogokidaaDiskJ
import Derived.Test.YtdphnhgogokidaaOpen
import Derived.Deep.SlicePairs
import Derived.OpenShut
namespace Go.Proofs.Ytdphnhgogokidaa
open Go.ChangeShapes Go.WideShapes Go.ChangeAt Go.RowKit Go.Deep
theorem cells_op : Try.prog.cellsOf 33 = 9 := by kernel_rfl
theorem cells_int : Try.prog.cellsOf 3 = 1 := by kernel_rfl
theorem cells_arr : Try.prog.cellsOf 31 = 4 := by kernel_rfl
instance : Inhabited DOp := ⟨⟨0, 0, 0, 0, [], fun _ => 0⟩⟩
/-- four numbers, as a function. -/
def four_of (a b c d : Int) : Nat → Int := fun i => if i = 0 then a else if i = 1 then b else if i = 2 then c else if i = 3 then d else 0
theorem four_in {a b c d : Int} (ha : -9223372036854775808 ≤ a ∧ a ≤ 9223372036854775807) (hb : -9223372036854775808 ≤ b ∧ b ≤ 9223372036854775807) (hc : -9223372036854775808 ≤ c ∧ c ≤ 9223372036854775807) (hd : -9223372036854775808 ≤ d ∧ d ≤ 9223372036854775807) (i : Nat) :
    -9223372036854775808 ≤ four_of a b c d i ∧ four_of a b c d i ≤ 9223372036854775807 := by
  unfold four_of
  split
  · exact ha
  split
  · exact hb
  split
  · exact hc
  split
  · exact hd
  · omega
section
variable {H : Type} {enc : TypeId × Value → H} {w : World} {base : Nat} {spare : Nat → Bool} {held : Bool}
theorem open_four {fuel : Nat} {cs : List Value} {x : DataW H × List MemPlace} (h : DataW.trod enc Try.prog w base spare held fuel 31 cs = some x) :
    ∃ kept : Nat → Int, cs = (kept4 kept).toList ∧ ∀ i, -9223372036854775808 ≤ kept i ∧ kept i ≤ 9223372036854775807 := by
  obtain ⟨xs, m, _, _, hl, hxl, hf⟩ := DataW.trod_array Try.underlying31 h
  rw [cells_arr] at hl
  rw [cells_int] at hf
  match cs, hl, xs, hxl with
  | [v0, v1, v2, v3], _, [y0, y1, y2, y3], _ =>
    have g0 := hf 0 (by omega)
    have g1 := hf 1 (by omega)
    have g2 := hf 2 (by omega)
    have g3 := hf 3 (by omega)
    simp at g0 g1 g2 g3
    obtain ⟨n0, e0, _, w0⟩ := DataW.trod_int Try.underlying3 g0
    obtain ⟨n1, e1, _, w1⟩ := DataW.trod_int Try.underlying3 g1
    obtain ⟨n2, e2, _, w2⟩ := DataW.trod_int Try.underlying3 g2
    obtain ⟨n3, e3, _, w3⟩ := DataW.trod_int Try.underlying3 g3
    simp only [List.cons.injEq, and_true] at e0 e1 e2 e3
    subst e0 e1 e2 e3
    exact ⟨four_of n0 n1 n2 n3, rfl, four_in (bounds_i64 w0) (bounds_i64 w1) (bounds_i64 w2) (bounds_i64 w3)⟩
set_option maxRecDepth 100000 in
theorem open_op {fuel : Nat} {cs : List Value} {x : DataW H × List MemPlace} (h : DataW.trod enc Try.prog w base spare held fuel 33 cs = some x) (R : Nat) (hR : R ≤ 140737488355328)
    (hw : ∀ n ∈ x.1.weights Try.prog 33, n ≤ R) : ∃ y : DOp, cs = y.cells.toList ∧ y.Ok := by
  obtain ⟨xs, m, _, hx, hl, hxl, hf⟩ := DataW.trod_struct Try.underlying33 h
  rw [cells_op] at hl
  match cs, hl, xs, hxl with
  | [v0, v1, v2, v3, v4, v5, v6, v7, v8], _, [y0, y1, y2, y3, y4, y5], _ =>
    have g0 := hf 0 _ rfl
    have g1 := hf 1 _ rfl
    have g2 := hf 2 _ rfl
    have g3 := hf 3 _ rfl
    have g4 := hf 4 _ rfl
    have g5 := hf 5 _ rfl
    simp [cells_int, cells_str, cells_arr] at g0 g1 g2 g3 g4 g5
    obtain ⟨n0, e0, _, w0⟩ := DataW.trod_int Try.underlying3 g0
    obtain ⟨n1, e1, _, w1⟩ := DataW.trod_int Try.underlying3 g1
    obtain ⟨n2, e2, _, w2⟩ := DataW.trod_int Try.underlying3 g2
    obtain ⟨n3, e3, _, w3⟩ := DataW.trod_int Try.underlying3 g3
    obtain ⟨s, e4, hy4, _⟩ := DataW.trod_string Try.underlying9 g4
    obtain ⟨kept, e5, hk⟩ := open_four g5
    simp only [List.cons.injEq, and_true] at e0 e1 e2 e3 e4
    simp only [kept4, List.cons.injEq, and_true] at e5
    obtain ⟨rfl, rfl, rfl, rfl⟩ := e5
    subst e0 e1 e2 e3 e4
    refine ⟨⟨n0, n1, n2, n3, s.data.toList, kept⟩, rfl, bounds_i64 w1, bounds_i64 w2, bounds_i64 w3, hk, ?_⟩
    refine Nat.le_trans (hw _ ?_) hR
    subst hx
    subst hy4
    simp [DataW.weights, DataW.weightsEach, Try.underlying33]
/-- a slice of operations. -/
def SlOp (W : World) (v : Value) (L : List DOp) : Prop :=
  ∃ a c, v = .slice a L.length c ∧ (L ≠ [] → ∃ b o, a = some ⟨b, o, none⟩ ∧ ∀ j x, L[j]? = some x → W.rangeAt b (o + j * 9) x.cells.toList)
set_option maxRecDepth 100000 in
theorem open_ops {W : World} {base : Nat} {v : Value} {d : DataW H} {p : List MemPlace} (hv : Value.okWide Try.prog W .any base 22 v) (h : DataW.Trod enc Try.prog W 0 (fun _ => true) true 22 v d p)
    (hw : ∀ n ∈ d.weights Try.prog 22, n ≤ reachBytes) : ∃ L, SlOp W v L ∧ L.length ≤ 140737488355328 ∧ ∀ x ∈ L, x.Ok := by
  have hR : reachBytes ≤ 140737488355328 := by decide +kernel
  generalize reachBytes = R at *
  obtain ⟨a0, len0, cap0, rfl⟩ := okWide_slice Try.underlying22 hv
  obtain ⟨fuel, hf⟩ := h
  rcases open_slice Try.underlying22 hf with ⟨hcs, hx⟩ | ⟨a, len, cap, m, n, D, Pl, hcs, _, hl, hm, hmm, hx, hel⟩
  · simp [Value.cells] at hcs
    obtain ⟨rfl, rfl, rfl⟩ := hcs
    exact ⟨[], ⟨none, 0, rfl, fun h => absurd rfl h⟩, by simp, fun x hx => absurd hx (by simp)⟩
  · simp [Value.cells] at hcs
    obtain ⟨rfl, rfl, rfl⟩ := hcs
    simp only [if_true] at hmm
    subst hmm
    simp only [Prod.mk.injEq] at hx
    obtain ⟨rfl, _⟩ := hx
    rw [cells_op] at hel
    have each : ∀ i, i < len0 → ∃ y : DOp, W.cells? 0 (a.add (i * 9)) 9 = some y.cells.toList ∧ y.Ok := by
      intro i hi
      obtain ⟨cs', h1, h2⟩ := hel i (by omega)
      obtain ⟨y, rfl, hy⟩ := open_op h2 R hR (fun n hn => hw n (by
        simp only [DataW.weights, Try.underlying22]
        refine List.mem_cons_of_mem _ (List.mem_append.2 (.inl (weightsAll_mem (d := D i) ?_ hn)))
        exact List.mem_map.2 ⟨i, List.mem_range.2 hi, rfl⟩))
      exact ⟨y, h1, hy⟩
    obtain ⟨q, hq⟩ := choose_lt each
    refine ⟨(List.range len0).map q, ⟨some a, m, by simp, fun hne => ?_⟩, ?_, ?_⟩
    · have hp : 0 < len0 := by
        rcases Nat.eq_zero_or_pos len0 with h | h
        · subst h; simp at hne
        · exact h
      obtain ⟨b, off, spot⟩ := a
      have hspot : spot = none := by
        obtain ⟨_, _, hc⟩ := World.cells?_some (hq 0 hp).1
        have := hc 0 (by omega)
        rw [show (q 0).cells.toList[0]? = some (.int .i64 (q 0).k) from rfl] at this
        simpa [Addr.add] using World.cell?_spot this
      subst hspot
      refine ⟨b, off, rfl, fun j x hx => ?_⟩
      have hj : j < len0 := by have := (List.getElem?_eq_some_iff.1 hx).1; simpa using this
      simp [hj] at hx
      subst hx
      obtain ⟨_, _, hc⟩ := World.cells?_some (hq j hj).1
      intro i u hu
      have hi := (List.getElem?_eq_some_iff.1 hu).1
      rw [← hu, ← hc i (by simpa [DOp.cells] using hi), add_plain, add_plain]
    · have h1 := hw _ (by simp only [DataW.weights, Try.underlying22]; exact List.mem_cons_self)
      have h2 : 0 < Try.prog.bytesOf 33 := by decide +kernel
      simp at h1
      have h3 := Nat.le_trans (Nat.le_mul_of_pos_right _ h2) h1
      simp
      omega
    · intro x hx
      simp only [List.mem_map, List.mem_range] at hx
      obtain ⟨i, hi, rfl⟩ := hx
      exact (hq i hi).2
end
end Go.Proofs.Ytdphnhgogokidaa
