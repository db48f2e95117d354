/- Both journals opened; asked; the arguments of JournalDoes. -/
import Derived.Test.YtdphnhgogokidaaJrF
namespace Go.Proofs.Ytdphnhgogokidaa
open Go.ChangeShapes Go.WideShapes Go.ChangeAt Go.RowKit

/-- what the program's Open left, at a pointer. -/
def Half (B J : Nat) (w : World) (g : Nat) (p : Value) (d : Dk) (oj : Option Jn) : Prop :=
  match oj with
  | none => p = .pointer none ∧ DiskAt w g d
  | some j => ∃ v, p = .pointer (some ⟨J, 0, none⟩) ∧ JL B w J g v j d
theorem open_p (B g : Nat) (d : Dk) (c : Int) (oj : Option Jn) (d' : Dk) (ho : d.Ok) (hB : B ≤ g) (e0 : openJ d = (c, oj, d')) (w : World) (h : DiskAt w g d) :
    Calls Try.prog 41 #[.pointer (some ⟨g, 0, none⟩)] w fun e w' => ∃ p, e = .returned (.tuple #[p, .int .i64 c]) ∧ Half B w.heap.size w' g p d' oj ∧ d'.Ok ∧ Only g w w' := by
  cases oj with
  | none =>
    refine (open_n g d c d' ho e0 w h).mono ?_
    rintro e w' ⟨he, h1, h2, h3⟩
    exact ⟨_, he, ⟨rfl, h1⟩, h2, h3⟩
  | some j =>
    have hgl : g < w.heap.size := h.lt
    refine (open_j g d ho w h).mono ?_
    rintro e w' ⟨h1, h2, h3, h4⟩
    rw [e0] at h2 h3 h4
    obtain ⟨h5, v, h6⟩ := h4
    exact ⟨_, h5, ⟨v, rfl, ⟨h6, hgl, hB⟩⟩, h3, h1⟩
theorem open_r (B g rg : Nat) (hne : g ≠ rg) (d : Dk) (c : Int) (oj : Option Jn) (d' : Dk) (ho : d.Ok) (hB : B ≤ rg) (e0 : openJ d = (c, oj, d')) (k M : Nat) (hs : Sz M d) (w0 w : World) (p : Value) (hp : Half B w0.heap.size w g p d' oj) (h0 : Only g w0 w) (h : RefAt w0 rg d) :
    Calls Try.prog 49 #[.pointer (some ⟨rg, 0, none⟩)] w fun e w' => ∃ r, e = .returned (.tuple #[r, .int .i64 c]) ∧ Both B w' g rg p r d' k M ∧ Only rg w w' := by
  have h1 := h.only h0 (Ne.symm hne)
  refine (open_ref B rg d ho hB w h1).mono ?_
  rintro e w' ⟨h2, h3, h4, h5⟩
  rw [e0] at h3 h4 h5
  cases oj with
  | none =>
    obtain ⟨rfl, hd⟩ := hp
    exact ⟨_, h5, .inl ⟨rfl, rfl, hd.only h2 hne, h3, h4⟩, h2⟩
  | some j =>
    obtain ⟨v, rfl, hj⟩ := hp
    obtain ⟨he, rv, hr⟩ := h5
    have h6 := h.lt
    have h7 := h0.size
    have h8 := hj.jlt
    have h9 := hj.lt
    have hsp : Sp g w0.heap.size v rg w.heap.size rv := by
      refine ⟨hne, by omega, fun e => ?_, by omega, by omega, fun e => ?_, fun e => ?_, fun e => ?_, fun k hk e => ?_⟩
      · have := (hj.row _ e).1; omega
      · have := (hj.row _ e).2; omega
      · have := (hr.ow.blk _ e).1; omega
      · have := (hr.ow.blk _ e).1; omega
      · have := (hj.row _ hk).2; have := (hr.ow.blk _ e).1; omega
    exact ⟨_, he, .inr ⟨_, _, v, rv, j, rfl, rfl, hj.byR (Kp.of_two (Two.of1 h2)) hsp, hr, hsp, (openJ_bd hs e0 k).2.1⟩, h2⟩
theorem same_both {B : Nat} {w : World} {g rg : Nat} {p r : Value} {d : Dk} {k M : Nat} (h : Both B w g rg p r d k M) (hk : k ≤ 100) (hM : M ≤ 10000) :
    Calls Try.prog 50 #[p, r, .pointer (some ⟨g, 0, none⟩)] w fun e w' => e = .returned (.bool true) ∧ Below w.heap.size w w' := by
  rcases h with ⟨rfl, rfl, _⟩ | ⟨J, rj, v, rv, j, rfl, rfl, h1, h2, h3, h4⟩
  · refine (same_none _ w).mono ?_
    rintro e w' ⟨he, rfl⟩
    exact ⟨he, Below.refl _ _⟩
  · have a := h4.hb
    have b := h4.hr
    exact same_some h1 h2 (by omega) (by omega)
theorem cells_three : Try.prog.cellsOf 77 = 3 := by kernel_rfl
def strs3 (f : Nat → List UInt8) : Array Value := #[.string ⟨(f 0).toArray⟩, .string ⟨(f 1).toArray⟩, .string ⟨(f 2).toArray⟩]
def three_of (a b c : List UInt8) : Nat → List UInt8 := fun i => if i = 0 then a else if i = 1 then b else c
set_option maxRecDepth 100000 in
theorem open_three {H : Type} {enc : TypeId × Value → H} {W : World} {base : Nat} {v : Value} {d : DataW H} {p : List MemPlace} (hv : Value.okWide Try.prog W .any base 77 v) (h : DataW.Trod enc Try.prog W 0 (fun _ => true) true 77 v d p)
    (hw : ∀ n ∈ d.weights Try.prog 77, n ≤ reachBytes) : ∃ f : Nat → List UInt8, v = .agg (strs3 f) ∧ ∀ i, (f i).length ≤ 140737488355328 := by
  have hR : reachBytes ≤ 140737488355328 := by decide +kernel
  generalize reachBytes = R at *
  obtain ⟨cs, rfl, _⟩ := okWide_arrayJ Try.underlying77 hv
  obtain ⟨fuel, hf⟩ := h
  obtain ⟨xs, m, _, hx, hl, hxl, hf⟩ := DataW.trod_array Try.underlying77 hf
  rw [cells_three] at hl
  rw [cells_str] at hf
  obtain ⟨cs⟩ := cs
  simp only [Value.cells] at hl hf
  match cs, hl, xs, hxl with
  | [v0, v1, v2], _, [y0, y1, y2], _ =>
    have g0 := hf 0 (by omega)
    have g1 := hf 1 (by omega)
    have g2 := hf 2 (by omega)
    simp at g0 g1 g2
    obtain ⟨s0, e0, hy0, _⟩ := DataW.trod_string Try.underlying9 g0
    obtain ⟨s1, e1, hy1, _⟩ := DataW.trod_string Try.underlying9 g1
    obtain ⟨s2, e2, hy2, _⟩ := DataW.trod_string Try.underlying9 g2
    simp only [List.cons.injEq, and_true] at e0 e1 e2
    subst e0 e1 e2
    obtain ⟨⟨s0⟩⟩ := s0
    obtain ⟨⟨s1⟩⟩ := s1
    obtain ⟨⟨s2⟩⟩ := s2
    refine ⟨three_of s0 s1 s2, rfl, fun i => ?_⟩
    have hall : ∀ s : List UInt8, (s = s0 ∨ s = s1 ∨ s = s2) → s.length ≤ 140737488355328 := by
      intro s hs
      refine Nat.le_trans (hw s.length ?_) hR
      have hx' := congrArg Prod.fst hx
      dsimp only at hx'
      rw [hx']
      subst hy0 hy1 hy2
      rcases hs with rfl | rfl | rfl <;> simp [DataW.weights, DataW.weightsAll, Try.underlying77]
    unfold three_of
    split
    · exact hall _ (.inl rfl)
    split
    · exact hall _ (.inr (.inl rfl))
    · exact hall _ (.inr (.inr rfl))
theorem opbox_n (w : World) (x : JOp) : (opbox w x).cell? ⟨w.heap.size, 1, none⟩ = some (.int .i64 x.n) := opbox_range w x 1 _ rfl
theorem opbox_kept (w : World) (x : JOp) : (opbox w x).rangeAt w.heap.size 3 (kept4 x.kept).toList := fun i v hv => by
  have hi : i < 4 := (List.getElem?_eq_some_iff.1 hv).1
  have h : i = 0 ∨ i = 1 ∨ i = 2 ∨ i = 3 := by omega
  rcases h with rfl | rfl | rfl | rfl
  · exact opbox_range w x 3 v hv
  · exact opbox_range w x 4 v hv
  · exact opbox_range w x 5 v hv
  · exact opbox_range w x 6 v hv
end Go.Proofs.Ytdphnhgogokidaa
