/- Journals and rows beside them: for the walks of the laws. -/
import Derived.Test.YtdphnhgogokidaaJourU
import Derived.Deep.MidRow
namespace Go.Proofs.Ytdphnhgogokidaa
open Go.RowKit

/-- a row's block is none of a journal's. -/
def Apart (u v : Value) (g jg : Nat) : Prop := ∀ k, u.ownBlock = some k → k ≠ g ∧ k ≠ jg ∧ v.ownBlock ≠ some k
theorem apart_nil (v : Value) (g jg : Nat) : Apart (.slice none 0 0) v g jg := fun k h => by cases h
theorem JL.grown {B : Nat} {w w' : World} {jg g : Nat} {v u : Value} {j : Jn} {d : Dk} (h : JL B w jg g v j d) (hg : w.grownBy w' u.ownBlock) (ha : Apart u v g jg) : JL B w' jg g v j d := by
  refine ⟨⟨h.jour.hj.grown hg (fun e => (ha jg e.symm).2.1 rfl), h.jour.hd.grown hg (fun e => (ha g e.symm).1 rfl), h.jour.ok, h.jour.ow.kept hg ?_⟩, h.lt, h.ge⟩
  cases hv : v.ownBlock with
  | none => exact .inl rfl
  | some k => exact .inr fun e => (ha k e.symm).2.2 hv
/-- a row of texts. -/
def Row (B : Nat) (w : World) (u : Value) (A : List (List UInt8)) : Prop := w.ownsRow B 9 1 u A.length (strs A)
theorem row_nil (B : Nat) (w : World) : Row B w (.slice none 0 0) [] := World.ownsRow_nil _ _ _ _
theorem Row.below {B : Nat} {w w' : World} {u : Value} {A : List (List UInt8)} (h : Row B w u A) (hb : Below w.heap.size w w') : Row B w' u A := ownsRow_belowJ h hb
theorem Row.kp {B g jg : Nat} {w w' : World} {u v : Value} {A : List (List UInt8)} (h : Row B w u A) (hk : Kp g jg v.ownBlock w w') (ha : Apart u v g jg) : Row B w' u A := by
  refine ⟨h.1, ?_⟩
  rcases h.2 with hn | ⟨k, cap, cur, rfl, hB, hkk, rest⟩
  · exact .inl hn
  · have h3 := ha k rfl
    exact .inr ⟨k, cap, cur, rfl, hB, by rw [hk.block k (Array.getElem?_eq_some_iff.1 hkk).1 h3.1 h3.2.1 (fun e => h3.2.2 e.symm)]; exact hkk, rest⟩
theorem Row.only {B g : Nat} {w w' : World} {u : Value} {A : List (List UInt8)} (h : Row B w u A) (ho : Only g w w') (ha : ∀ k, u.ownBlock = some k → k ≠ g) : Row B w' u A := by
  refine ⟨h.1, ?_⟩
  rcases h.2 with hn | ⟨k, cap, cur, rfl, hB, hkk, rest⟩
  · exact .inl hn
  · exact .inr ⟨k, cap, cur, rfl, hB, ho.heap hkk (ha k rfl), rest⟩
theorem Row.sl {B : Nat} {w : World} {u : Value} {A : List (List UInt8)} (h : Row B w u A) : SlStr w u A := slStr_owns h
theorem Row.form {B : Nat} {w : World} {u : Value} {A : List (List UInt8)} (h : Row B w u A) : ∃ a c, u = .slice a A.length c := own_form h
theorem Row.blk {B : Nat} {w : World} {u : Value} {A : List (List UInt8)} (h : Row B w u A) : ∀ k, u.ownBlock = some k → B ≤ k ∧ k < w.heap.size := fun k hk => h.lt k hk
theorem Apart.kp {B g jg : Nat} {w : World} {u v v' : Value} {A : List (List UInt8)} (h : Apart u v g jg) (hr : Row B w u A) (hv : v'.ownBlock = v.ownBlock ∨ ∀ k, v'.ownBlock = some k → w.heap.size ≤ k) : Apart u v' g jg := by
  intro k hk
  have h3 := h k hk
  refine ⟨h3.1, h3.2.1, ?_⟩
  rcases hv with hv | hv
  · rw [hv]; exact h3.2.2
  · intro e
    have h1 := hv k e
    have h2 := (hr.blk k hk).2
    omega
/-- behind an append to a row. -/
theorem Apart.appended {B : Nat} {w : World} {jg g g' n c : Nat} {u v : Value} {j : Jn} {d : Dk} (h : Apart u v g jg) (hj : JL B w jg g v j d) (hat : u.ownBlock = some g' ∨ g' = w.heap.size) : Apart (.slice (some ⟨g', 0, none⟩) n c) v g jg := by
  intro k hk
  have hk' : g' = k := by simpa [Value.ownBlock] using hk
  subst hk'
  rcases hat with hat | hat
  · exact h g' hat
  · have h1 := hj.jlt
    have h2 := hj.lt
    exact ⟨by omega, by omega, fun e => by have := (hj.row g' e).2; omega⟩
theorem Row.snoc {B : Nat} {w : World} {u : Value} {A : List (List UInt8)} {t : List UInt8} (h : w.ownsRow B 9 1 u (A.length + 1) (strs A ++ [.string ⟨t.toArray⟩])) : Row B w u (A ++ [t]) := by
  unfold Row
  rw [List.length_append, show strs (A ++ [t]) = strs A ++ [Value.string ⟨t.toArray⟩] by simp [strs]]
  exact h
theorem Row.grownBelow {B G : Nat} {w w' : World} {u : Value} {A : List (List UInt8)} (h : Row B w u A) (hg : w.grownBy w' u.ownBlock) (hG : G ≤ B) (hs : G ≤ w.heap.size) : Below G w w' :=
  ⟨hg.os, hg.tape, hg.output, hg.size, fun k hk => hg.block k (by omega) (fun e => by have := (h.blk k e.symm).1; omega)⟩
theorem jsz_bound : ∀ (L : List JOp) (M : Nat), (∀ x ∈ L, x.b.length ≤ M) → jsz L ≤ L.length * (M + 1)
  | [], _, _ => by simp [jsz]
  | x :: L, M, h => by
    have h1 := h x (List.mem_cons_self ..)
    have h2 := jsz_bound L M (fun y hy => h y (List.mem_cons_of_mem _ hy))
    have e : jsz (x :: L) = (x.b.length + 1) + jsz L := by simp [jsz]
    rw [e, List.length_cons, Nat.succ_mul]
    omega
theorem jsz_in {L : List JOp} {x : JOp} (h : x ∈ L) : x.b.length + 1 ≤ jsz L := by
  induction L with
  | nil => cases h
  | cons y L ih =>
    have e : jsz (y :: L) = (y.b.length + 1) + jsz L := by simp [jsz]
    rcases List.mem_cons.1 h with rfl | h
    · omega
    · have := ih h; omega
theorem below_cells {B g : Nat} {a : World} (hb : B ≤ g) : ∀ (vs : List Value) (o : Nat) (w : World), Below B a w → Below B a (w.setCells g o vs)
  | [], _, _, h => h
  | v :: vs, o, _, h => below_cells hb vs (o + 1) _ (h.setCell hb v)
abbrev zero7 : Array Value := #[.int .i64 0, .int .i64 0, .string ⟨#[]⟩, .int .i64 0, .int .i64 0, .int .i64 0, .int .i64 0]
/-- an operation, laid in a block of its own. -/
def opbox (w : World) (x : JOp) : World := (w.alloc (.cells zero7 71 (0, 0))).setCells w.heap.size 0 x.cells.toList
theorem opbox_there (w : World) : (w.alloc (.cells zero7 71 (0, 0))).there w.heap.size 0 7 := fun j hj => by
  have h := heap_alloc_new w (.cells zero7 71 (0, 0))
  rw [cell_of_row _ _ _ _ _ _ h, frozen_of_row _ _ _ _ _ h, Nat.zero_add]
  refine ⟨?_, rfl⟩
  have : j = 0 ∨ j = 1 ∨ j = 2 ∨ j = 3 ∨ j = 4 ∨ j = 5 ∨ j = 6 := by omega
  rcases this with rfl | rfl | rfl | rfl | rfl | rfl | rfl <;> rfl
theorem opbox_below (w : World) (x : JOp) : Below w.heap.size w (opbox w x) := below_cells (Nat.le_refl _) _ _ _ (alloc_below w _)
theorem opbox_range (w : World) (x : JOp) : (opbox w x).rangeAt w.heap.size 0 x.cells.toList := World.rangeAt_setCells_same _ _ _ _ (opbox_there w)
theorem opbox_k (w : World) (x : JOp) : (opbox w x).cell? ⟨w.heap.size, 0, none⟩ = some (.int .i64 x.k) := opbox_range w x 0 _ rfl
theorem opbox_b (w : World) (x : JOp) : (opbox w x).cell? ⟨w.heap.size, 2, none⟩ = some (.string ⟨x.b.toArray⟩) := opbox_range w x 2 _ rfl
theorem opbox_free {B : Nat} {w : World} {jg g : Nat} {v : Value} {j : Jn} {d : Dk} (x : JOp) (h : JL B w jg g v j d) : w.heap.size < (opbox w x).heap.size ∧ w.heap.size ≠ g ∧ w.heap.size ≠ jg ∧ some w.heap.size ≠ v.ownBlock := by
  have h1 := h.jlt
  have h2 := h.lt
  refine ⟨block_lt_of_cell (opbox_k w x), by omega, by omega, fun e => ?_⟩
  have := (h.row _ e.symm).2
  omega
theorem opcells_one (x : JOp) : x.cells.all (·.oneCell') = true := by simp [JOp.cells, Value.oneCell']
theorem same_same {w : World} {va vb : Value} {A : List (List UInt8)} (ha : SlStr w va A) (hb : SlStr w vb A) (hA : A.length ≤ 9223372036854775807) :
    Calls Try.prog 35 #[va, vb] w fun e w' => e = .returned (.bool true) ∧ ∃ n, w' = w.drewN n := by
  have := same_any va vb A A w ha hb hA
  simpa using this
theorem elem_strs : Try.prog.underlying 50 = some (.slice (Try.prog.elem 50)) := by kernel_rfl
theorem size_str (w : World) : (sizeOf (Try.prog.elem 50)).run Try.prog w = .ok 1 w := by kernel_rfl
/-- a part of a row. -/
theorem seg_slice {B N c : Nat} {a : Option Addr} {w : World} {A : List (List UInt8)} (h : Row B w (.slice a N c) A) (n m : Nat) (hnm : n ≤ m) (hm : m ≤ A.length) : ∃ sv,
    (∀ wx, (Instr.slice 50 (.slice a N c) (some (.int .i64 n)) (some (.int .i64 m)) none).run Try.prog wx = .ok sv wx) ∧
    (∀ wx, (Instr.sliceAt 50 (.slice a N c) (some (.int .i64 n)) (some (.int .i64 m)) none).run Try.prog wx = .ok sv wx) ∧
    (∀ w', Row B w' (.slice a N c) A → SlStr w' sv (seg A n m)) := by
  obtain ⟨_, _, he⟩ := h.form
  simp only [Value.slice.injEq] at he
  obtain ⟨_, rfl, _⟩ := he
  have hc : A.length ≤ c := by
    rcases h.2 with ⟨he, h0⟩ | ⟨g, cap, cur, he, _, _, _, hcap, _⟩
    · simp only [Value.slice.injEq] at he; omega
    · simp only [Value.slice.injEq] at he; omega
  have key : ∀ wx, (Instr.slice 50 (.slice a A.length c) (some (.int .i64 n)) (some (.int .i64 m)) none).run Try.prog wx = .ok (sliced a n m c 1) wx := by
    intro wx
    rw [run_slice_lh (P := Try.prog) wx 50 a A.length c elem_strs .i64 .i64 n m (by omega) (by omega) (by omega), size_str]
    simp [Result.andThen]
  refine ⟨sliced a n m c 1, key, fun wx => (run_sliceAt_slice (P := Try.prog) wx 50 _ _ _ _ elem_strs).trans (key wx), fun w' hr => ?_⟩
  unfold sliced
  refine ⟨_, _, by rw [seg_length hm], fun hne => ?_⟩
  have hlt : n < m := by
    rcases Nat.lt_or_ge n m with h | h
    · exact h
    · exfalso; apply hne; apply List.length_eq_zero_iff.1; rw [seg_length hm]; omega
  rcases hr.2 with ⟨he, h0⟩ | ⟨g, cap, cur, he, _, _, _, hcap, _⟩
  · omega
  · simp only [Value.slice.injEq] at he
    obtain ⟨rfl, _, rfl⟩ := he
    rw [if_neg (by omega)]
    refine ⟨g, n, by simp [WideShapes.add_plain], fun i x hx => ?_⟩
    have hi : n + i < A.length := by
      have := (List.getElem?_eq_some_iff.1 hx).1
      rw [seg_length hm] at this; omega
    rw [hr.cellAt (n + i) (by omega)]
    have hx2 : A[n + i]? = some x := by
      unfold seg at hx
      rw [List.getElem?_drop, List.getElem?_take] at hx
      split at hx
      · exact hx
      · cases hx
    simp [strs, hx2]
theorem live_fuse {j : Jn} {d : Dk} {all : List (List UInt8)} {n : Nat} {t : List UInt8} (h : Live j d all n t) (f : Int) : Live j { d with fuse := f } all n t := ⟨h.je, h.saf.same ⟨rfl, rfl, rfl, rfl⟩, h.b2⟩
theorem last_m {B : Nat} {w : World} {jg g : Nat} {v : Value} {j : Jn} {d : Dk} (h : JL B w jg g v j d) (m : Nat) (hm : j.base + j.recs.length = m) (hfit : (m : Int) ≤ 9223372036854775806) :
    Calls Try.prog 45 #[.pointer (some ⟨jg, 0, none⟩)] w fun e w' => e = .returned (.int .i64 m) ∧ ∃ n, w' = w.drewN n := by
  have := last_l h (by omega)
  rw [hm] at this
  exact this
end Go.Proofs.Ytdphnhgogokidaa
