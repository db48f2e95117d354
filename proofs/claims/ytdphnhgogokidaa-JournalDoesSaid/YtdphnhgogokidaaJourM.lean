/- The arguments of the journal's laws, opened: a list of operations. -/
import Derived.Test.YtdphnhgogokidaaDiskM
namespace Go.Proofs.Ytdphnhgogokidaa
open Go.ChangeShapes Go.WideShapes Go.ChangeAt Go.RowKit Go.Deep

/-- an operation of a journal's law. -/
structure JOp where
  k : Int
  n : Int
  b : List UInt8
  kept : Nat → Int
def JOp.cells (x : JOp) : Array Value := #[.int .i64 x.k, .int .i64 x.n, .string ⟨x.b.toArray⟩, .int .i64 (x.kept 0), .int .i64 (x.kept 1), .int .i64 (x.kept 2), .int .i64 (x.kept 3)]
structure JOp.Ok (x : JOp) : Prop where
  n : -9223372036854775808 ≤ x.n ∧ x.n ≤ 9223372036854775807
  kept : ∀ i, -9223372036854775808 ≤ x.kept i ∧ x.kept i ≤ 9223372036854775807
  b : x.b.length ≤ 140737488355328
theorem JOp.Ok.b0 {x : JOp} (h : x.Ok) : (x.b.length : Int) ≤ 140737488355328 := by have := h.b; omega
instance : Inhabited JOp := ⟨⟨0, 0, [], fun _ => 0⟩⟩
theorem cells_jop : Try.prog.cellsOf 71 = 7 := by kernel_rfl
section
variable {H : Type} {enc : TypeId × Value → H} {w : World} {base : Nat} {spare : Nat → Bool} {held : Bool}
set_option maxRecDepth 100000 in
theorem open_jop {fuel : Nat} {cs : List Value} {x : DataW H × List MemPlace} (h : DataW.trod enc Try.prog w base spare held fuel 71 cs = some x) (R : Nat) (hR : R ≤ 140737488355328)
    (hw : ∀ n ∈ x.1.weights Try.prog 71, n ≤ R) : ∃ y : JOp, cs = y.cells.toList ∧ y.Ok := by
  obtain ⟨xs, m, _, hx, hl, hxl, hf⟩ := DataW.trod_struct Try.underlying71 h
  rw [cells_jop] at hl
  match cs, hl, xs, hxl with
  | [v0, v1, v4, v5, v6, v7, v8], _, [y0, y1, y4, y5], _ =>
    have g0 := hf 0 _ rfl
    have g1 := hf 1 _ rfl
    have g4 := hf 2 _ rfl
    have g5 := hf 3 _ rfl
    simp [cells_int, cells_str, cells_arr] at g0 g1 g4 g5
    obtain ⟨n0, e0, _, w0⟩ := DataW.trod_int Try.underlying3 g0
    obtain ⟨n1, e1, _, w1⟩ := DataW.trod_int Try.underlying3 g1
    obtain ⟨s, e4, hy4, _⟩ := DataW.trod_string Try.underlying9 g4
    obtain ⟨kept, e5, hk⟩ := open_four g5
    simp only [List.cons.injEq, and_true] at e0 e1 e4
    simp only [kept4, List.cons.injEq, and_true] at e5
    obtain ⟨rfl, rfl, rfl, rfl⟩ := e5
    subst e0 e1 e4
    refine ⟨⟨n0, n1, s.data.toList, kept⟩, rfl, bounds_i64 w1, hk, ?_⟩
    refine Nat.le_trans (hw _ ?_) hR
    subst hx
    subst hy4
    simp [DataW.weights, DataW.weightsEach, Try.underlying71]
/-- a slice of operations. -/
def SlJ (W : World) (v : Value) (L : List JOp) : Prop :=
  ∃ a c, v = .slice a L.length c ∧ (L ≠ [] → ∃ b o, a = some ⟨b, o, none⟩ ∧ ∀ j x, L[j]? = some x → W.rangeAt b (o + j * 7) x.cells.toList)
set_option maxRecDepth 100000 in
theorem open_jops {W : World} {base : Nat} {v : Value} {d : DataW H} {p : List MemPlace} (hv : Value.okWide Try.prog W .any base 65 v) (h : DataW.Trod enc Try.prog W 0 (fun _ => true) true 65 v d p)
    (hw : ∀ n ∈ d.weights Try.prog 65, n ≤ reachBytes) : ∃ L, SlJ W v L ∧ L.length ≤ 140737488355328 ∧ ∀ x ∈ L, x.Ok := by
  have hR : reachBytes ≤ 140737488355328 := by decide +kernel
  generalize reachBytes = R at *
  obtain ⟨a0, len0, cap0, rfl⟩ := okWide_slice Try.underlying65 hv
  obtain ⟨fuel, hf⟩ := h
  rcases open_slice Try.underlying65 hf with ⟨hcs, hx⟩ | ⟨a, len, cap, m, n, D, Pl, hcs, _, hl, hm, hmm, hx, hel⟩
  · simp [Value.cells] at hcs
    obtain ⟨rfl, rfl, rfl⟩ := hcs
    exact ⟨[], ⟨none, 0, rfl, fun h => absurd rfl h⟩, by simp, fun x hx => absurd hx (by simp)⟩
  · simp [Value.cells] at hcs
    obtain ⟨rfl, rfl, rfl⟩ := hcs
    simp only [if_true] at hmm
    subst hmm
    simp only [Prod.mk.injEq] at hx
    obtain ⟨rfl, _⟩ := hx
    rw [cells_jop] at hel
    have each : ∀ i, i < len0 → ∃ y : JOp, W.cells? 0 (a.add (i * 7)) 7 = some y.cells.toList ∧ y.Ok := by
      intro i hi
      obtain ⟨cs', h1, h2⟩ := hel i (by omega)
      obtain ⟨y, rfl, hy⟩ := open_jop h2 R hR (fun n hn => hw n (by
        simp only [DataW.weights, Try.underlying65]
        refine List.mem_cons_of_mem _ (List.mem_append.2 (.inl (weightsAll_mem (d := D i) ?_ hn)))
        exact List.mem_map.2 ⟨i, List.mem_range.2 hi, rfl⟩))
      exact ⟨y, h1, hy⟩
    obtain ⟨q, hq⟩ := choose_lt each
    refine ⟨(List.range len0).map q, ⟨some a, m, by simp, fun hne => ?_⟩, ?_, ?_⟩
    · have hp : 0 < len0 := by
        rcases Nat.eq_zero_or_pos len0 with h | h
        · subst h; simp at hne
        · exact h
      obtain ⟨b, off, spot⟩ := a
      have hspot : spot = none := by
        obtain ⟨_, _, hc⟩ := World.cells?_some (hq 0 hp).1
        have := hc 0 (by omega)
        rw [show (q 0).cells.toList[0]? = some (.int .i64 (q 0).k) from rfl] at this
        simpa [Addr.add] using World.cell?_spot this
      subst hspot
      refine ⟨b, off, rfl, fun j x hx => ?_⟩
      have hj : j < len0 := by have := (List.getElem?_eq_some_iff.1 hx).1; simpa using this
      simp [hj] at hx
      subst hx
      obtain ⟨_, _, hc⟩ := World.cells?_some (hq j hj).1
      intro i u hu
      have hi := (List.getElem?_eq_some_iff.1 hu).1
      rw [← hu, ← hc i (by simpa [JOp.cells] using hi), add_plain, add_plain]
    · have h1 := hw _ (by simp only [DataW.weights, Try.underlying65]; exact List.mem_cons_self)
      have h2 : 0 < Try.prog.bytesOf 71 := by decide +kernel
      simp at h1
      have h3 := Nat.le_trans (Nat.le_mul_of_pos_right _ h2) h1
      simp
      omega
    · intro x hx
      simp only [List.mem_map, List.mem_range] at hx
      obtain ⟨i, hi, rfl⟩ := hx
      exact (hq i hi).2
end
theorem SlJ.below {B : Nat} {w w' : World} {v : Value} {L : List JOp} (h : SlJ w v L) (hb : Below B w w') (hB : w.heap.size ≤ B) : SlJ w' v L := by
  obtain ⟨a, c, hv, hc⟩ := h
  refine ⟨a, c, hv, fun hne => ?_⟩
  obtain ⟨b, o, ha, hx⟩ := hc hne
  refine ⟨b, o, ha, fun j x hj i u hu => ?_⟩
  have h1 := hx j x hj i u hu
  have h2 := block_lt_of_cell h1
  rw [hb.cell (by omega)]; exact h1
/-- how many bytes operations have together, one more each. -/
def jsz (L : List JOp) : Nat := (L.map fun x => x.b.length + 1).sum
theorem jsz_take (L : List JOp) {k : Nat} (h : k < L.length) : jsz (L.take (k + 1)) = jsz (L.take k) + (L[k].b.length + 1) := by
  unfold jsz; rw [List.take_succ_eq_append_getElem h, List.map_append, List.sum_append]; simp
theorem jsz_le (L : List JOp) (k : Nat) : jsz (L.take k) ≤ jsz L := by
  conv => rhs; rw [← List.take_append_drop k L]
  unfold jsz
  rw [List.map_append, List.sum_append]
  omega
/-- how many bytes operations have together, as the law's own text counts them. -/
def szo : List JOp → Nat → Nat
  | [], n => n
  | x :: L, n => if n < 100000 then szo L (n + x.b.length + 1) else n
theorem szo_stop (L : List JOp) (n : Nat) (h : ¬ n < 100000) : szo L n = n := by
  cases L with
  | nil => rfl
  | cons x L => simp [szo, h]
theorem szo_le : ∀ (L : List JOp) (n : Nat), szo L n ≤ n + jsz L
  | [], n => by simp [szo, jsz]
  | x :: L, n => by
    have h := szo_le L (n + x.b.length + 1)
    rw [szo]
    have e : jsz (x :: L) = (x.b.length + 1) + jsz L := by simp [jsz]
    split <;> omega
theorem szo_ge : ∀ (L : List JOp) (n : Nat), n ≤ szo L n
  | [], n => Nat.le_refl _
  | x :: L, n => by
    have h := szo_ge L (n + x.b.length + 1)
    rw [szo]
    split <;> omega
theorem szo_eq : ∀ (L : List JOp) (n : Nat), szo L n ≤ 4000 → szo L n = n + jsz L
  | [], n, _ => by simp [szo, jsz]
  | x :: L, n, h => by
    have h1 := szo_ge (x :: L) n
    rw [szo] at h ⊢
    have e : jsz (x :: L) = (x.b.length + 1) + jsz L := by simp [jsz]
    by_cases hn : n < 100000
    · rw [if_pos hn] at h ⊢
      rw [szo_eq L _ h]; omega
    · rw [if_neg hn] at h; omega
/-- two numbers; two arrays of four. -/
theorem cells_two : Try.prog.cellsOf 85 = 2 := by kernel_rfl
theorem cells_two4 : Try.prog.cellsOf 86 = 8 := by kernel_rfl
def kept8 (a b : Nat → Int) : Array Value := #[.int .i64 (a 0), .int .i64 (a 1), .int .i64 (a 2), .int .i64 (a 3), .int .i64 (b 0), .int .i64 (b 1), .int .i64 (b 2), .int .i64 (b 3)]
theorem okWide_arrayJ {P : Program} {w : World} {r : Reach} {base : Nat} {t : TypeId} {v : Value} {n : Nat} {e : TypeId} (ht : P.underlying t = some (.array n e)) (h : Value.okWide P w r base t v) : ∃ cs, v = .agg cs ∧ cs.size = P.cellsOf t := by
  simp only [Value.okWide, ht] at h
  obtain ⟨cs, h1, h2, _⟩ := h
  exact ⟨cs, h1, h2⟩
set_option maxRecDepth 100000 in
theorem open_keptJ {H : Type} {enc : TypeId × Value → H} {W : World} {base : Nat} {v : Value} {d : DataW H} {p : List MemPlace} {R : Nat} (hv : Value.okWide Try.prog W .any base 31 v) (h : DataW.Trod enc Try.prog W 0 (fun _ => true) true 31 v d p)
    (_ : ∀ n ∈ d.weights Try.prog 31, n ≤ R) : ∃ kept : Nat → Int, v = .agg (kept4 kept) ∧ ∀ i, -9223372036854775808 ≤ kept i ∧ kept i ≤ 9223372036854775807 := by
  obtain ⟨cs, rfl, _⟩ := okWide_arrayJ Try.underlying31 hv
  obtain ⟨fuel, hf⟩ := h
  obtain ⟨kept, hk, hb⟩ := open_four hf
  refine ⟨kept, ?_, hb⟩
  have : cs.toList = (kept4 kept).toList := by simpa [Value.cells] using hk
  rw [Array.toList_inj.1 this]
set_option maxRecDepth 100000 in
theorem open_two {H : Type} {enc : TypeId × Value → H} {W : World} {base : Nat} {v : Value} {d : DataW H} {p : List MemPlace} {R : Nat} (hv : Value.okWide Try.prog W .any base 85 v) (h : DataW.Trod enc Try.prog W 0 (fun _ => true) true 85 v d p)
    (_ : ∀ n ∈ d.weights Try.prog 85, n ≤ R) : ∃ a b : Int, v = .agg #[.int .i64 a, .int .i64 b] ∧ (-9223372036854775808 ≤ a ∧ a ≤ 9223372036854775807) ∧ (-9223372036854775808 ≤ b ∧ b ≤ 9223372036854775807) := by
  obtain ⟨cs, rfl, _⟩ := okWide_arrayJ Try.underlying85 hv
  obtain ⟨fuel, hf⟩ := h
  obtain ⟨xs, m, _, _, hl, hxl, hf⟩ := DataW.trod_array Try.underlying85 hf
  rw [cells_two] at hl
  rw [cells_int] at hf
  obtain ⟨cs⟩ := cs
  simp only [Value.cells] at hl hf
  match cs, hl, xs, hxl with
  | [v0, v1], _, [y0, y1], _ =>
    have g0 := hf 0 (by omega)
    have g1 := hf 1 (by omega)
    simp at g0 g1
    obtain ⟨n0, e0, _, w0⟩ := DataW.trod_int Try.underlying3 g0
    obtain ⟨n1, e1, _, w1⟩ := DataW.trod_int Try.underlying3 g1
    simp only [List.cons.injEq, and_true] at e0 e1
    subst e0 e1
    exact ⟨n0, n1, rfl, bounds_i64 w0, bounds_i64 w1⟩
set_option maxRecDepth 100000 in
theorem open_two4 {H : Type} {enc : TypeId × Value → H} {W : World} {base : Nat} {v : Value} {d : DataW H} {p : List MemPlace} {R : Nat} (hv : Value.okWide Try.prog W .any base 86 v) (h : DataW.Trod enc Try.prog W 0 (fun _ => true) true 86 v d p)
    (_ : ∀ n ∈ d.weights Try.prog 86, n ≤ R) : ∃ a b : Nat → Int, v = .agg (kept8 a b) ∧ (∀ i, -9223372036854775808 ≤ a i ∧ a i ≤ 9223372036854775807) ∧ (∀ i, -9223372036854775808 ≤ b i ∧ b i ≤ 9223372036854775807) := by
  obtain ⟨cs, rfl, _⟩ := okWide_arrayJ Try.underlying86 hv
  obtain ⟨fuel, hf⟩ := h
  obtain ⟨xs, m, _, _, hl, hxl, hf⟩ := DataW.trod_array Try.underlying86 hf
  rw [cells_two4] at hl
  rw [cells_arr] at hf
  obtain ⟨cs⟩ := cs
  simp only [Value.cells] at hl hf
  match cs, hl, xs, hxl with
  | [v0, v1, v2, v3, v4, v5, v6, v7], _, [y0, y1], _ =>
    have g0 := hf 0 (by omega)
    have g1 := hf 1 (by omega)
    simp at g0 g1
    obtain ⟨a, e0, ha⟩ := open_four g0
    obtain ⟨b, e1, hb⟩ := open_four g1
    simp only [kept4, List.cons.injEq, and_true] at e0 e1
    obtain ⟨rfl, rfl, rfl, rfl⟩ := e0
    obtain ⟨rfl, rfl, rfl, rfl⟩ := e1
    exact ⟨a, b, rfl, ha, hb⟩
end Go.Proofs.Ytdphnhgogokidaa
