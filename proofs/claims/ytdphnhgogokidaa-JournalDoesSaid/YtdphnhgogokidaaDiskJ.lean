/- Disks in plain words: what may be stays what may be. -/
import Derived.Test.YtdphnhgogokidaaDiskI
namespace Go.Proofs.Ytdphnhgogokidaa
open Go.RowKit

theorem left_upd (d : Dk) (i : Nat) (hi : i < 4) (x : List UInt8) (s : Nat → Nat) (f : Int) (dn : Bool) : (Dk.mk (upd d.b i x) s d.room f dn).left = d.left + (d.b i).length - x.length := by
  rcases four hi with rfl | rfl | rfl | rfl <;> simp [Dk.left, upd] <;> omega
theorem app_ok {d : Dk} (h : d.Ok) {i : Nat} (hi : i < 4) (b : List UInt8) : (d.app i b).dk.Ok := by
  unfold Dk.app
  split
  · exact h
  · rename_i hl
    refine ⟨h.room0, h.room1, h.fuse, h.fuse1, ?_, ?_⟩
    · show 0 ≤ (Dk.mk _ _ _ _ _).left
      rw [left_upd d i hi]; simp; omega
    · intro j
      by_cases hj : j = i
      · subst hj; have := h.sure j; simp [upd]; omega
      · simpa [upd, hj] using h.sure j
theorem syn_ok {d : Dk} (h : d.Ok) (i : Nat) : (d.syn i).dk.Ok := by
  refine ⟨h.room0, h.room1, h.fuse, h.fuse1, h.left, ?_⟩
  intro j
  by_cases hj : j = i
  · subst hj; simp [Dk.syn, upd]
  · simpa [Dk.syn, upd, hj] using h.sure j
theorem cut_ok {d : Dk} (h : d.Ok) {i : Nat} (hi : i < 4) (n : Nat) : (d.cut i n).dk.Ok := by
  refine ⟨h.room0, h.room1, h.fuse, h.fuse1, ?_, ?_⟩
  · show 0 ≤ (Dk.mk _ _ _ _ _).left
    have := h.left
    rw [left_upd d i hi]; simp; omega
  · intro j
    by_cases hj : j = i
    · subst hj; have := h.sure j; simp [Dk.cut, upd]; omega
    · simpa [Dk.cut, upd, hj] using h.sure j
theorem mov_ok {d : Dk} (h : d.Ok) {i j : Nat} (hi : i < 4) (hj : j < 4) : (d.mov i j).dk.Ok := by
  unfold Dk.mov
  split
  · exact h
  · rename_i hij
    have h1 := left_upd d j hj (d.b i) d.s d.fuse d.down
    have h2 := left_upd (Dk.mk (upd d.b j (d.b i)) d.s d.room d.fuse d.down) i hi [] (upd (upd d.s j (d.s i)) i 0) d.fuse d.down
    refine ⟨h.room0, h.room1, h.fuse, h.fuse1, ?_, ?_⟩
    · have := h.left
      show 0 ≤ (Dk.mk _ _ _ _ _).left
      simp only at h2
      rw [h2, h1]
      simp [upd, hij]
      omega
    · intro k
      have h3 := h.sure k
      have h4 := h.sure i
      simp only [upd]
      split
      · omega
      · split
        · exact h4
        · exact h3
theorem step_ok {d : Dk} (h : d.Ok) (f : Dk → Out) (hf : ∀ c : Dk, c.Ok → (f c).dk.Ok) : (d.step f).dk.Ok := by
  unfold Dk.step
  split
  · exact ⟨h.room0, h.room1, h.fuse, h.fuse1, h.left, h.sure⟩
  · rename_i hp
    exact hf _ (burnt_ok h (fun h => hp (.inl h)))
theorem toNat_lt4 {i : Int} (h : hasB i = true) : i.toNat < 4 := by simp [hasB] at h; omega
theorem append_ok {d : Dk} (h : d.Ok) (i : Int) (b : List UInt8) : (d.append i b).dk.Ok := by
  unfold Dk.append
  split
  · rename_i hi; exact step_ok h _ (fun c hc => app_ok hc (toNat_lt4 hi) b)
  · exact h
theorem sync_ok {d : Dk} (h : d.Ok) (i : Int) : (d.sync i).dk.Ok := by
  unfold Dk.sync
  split
  · exact step_ok h _ (fun c hc => syn_ok hc _)
  · exact h
theorem cutto_ok {d : Dk} (h : d.Ok) (i n : Int) : (d.cutto i n).dk.Ok := by
  unfold Dk.cutto
  split
  · rename_i hi; exact step_ok h _ (fun c hc => cut_ok hc (toNat_lt4 hi.1) _)
  · exact h
theorem move_ok {d : Dk} (h : d.Ok) (i j : Int) : (d.move i j).dk.Ok := by
  unfold Dk.move
  split
  · rename_i hi; exact step_ok h _ (fun c hc => mov_ok hc (toNat_lt4 hi.1) (toNat_lt4 hi.2))
  · exact h
theorem fuse_ok {d : Dk} (h : d.Ok) (n : Int) (hn : n ≤ 9223372036854775807) : ({ d with fuse := max n (-1) } : Dk).Ok := by
  refine ⟨h.room0, h.room1, ?_, ?_, h.left, h.sure⟩
  · show -1 ≤ max n (-1); omega
  · show max n (-1) ≤ 9223372036854775807; omega
theorem keeps_le {d : Dk} (h : d.Ok) (kept : Nat → Int) (i : Nat) : d.keeps kept i ≤ (d.b i).length := by
  have := h.sure i
  unfold Dk.keeps
  omega
theorem crash_ok {d : Dk} (h : d.Ok) (kept : Nat → Int) : (d.crash kept).Ok := by
  refine ⟨h.room0, h.room1, by show (-1 : Int) ≤ -1; omega, by show (-1 : Int) ≤ _; omega, ?_, ?_⟩
  · have h0 := keeps_le h kept 0
    have h1 := keeps_le h kept 1
    have h2 := keeps_le h kept 2
    have h3 := keeps_le h kept 3
    have h4 := h.left
    simp only [Dk.left, Dk.crash, Dk.crashTo] at h4 ⊢
    simp
    omega
  · intro i
    have h0 := keeps_le h kept i
    have h1 := h.sure i
    simp only [Dk.crash, Dk.crashTo]
    split
    · simp; omega
    · exact h1
theorem new_ok {room : Int} (h0 : 0 ≤ room) (h1 : room ≤ 16777216) : (Dk.new room).Ok := by
  refine ⟨h0, h1, by show (-1 : Int) ≤ -1; omega, by show (-1 : Int) ≤ _; omega, ?_, fun i => Nat.le_refl _⟩
  simp [Dk.left, Dk.new]; omega
/-- an operation of the law. -/
structure DOp where
  k : Int
  f : Int
  n : Int
  t : Int
  b : List UInt8
  kept : Nat → Int
def DOp.cells (x : DOp) : Array Value := #[.int .i64 x.k, .int .i64 x.f, .int .i64 x.n, .int .i64 x.t, .string ⟨x.b.toArray⟩, .int .i64 (x.kept 0), .int .i64 (x.kept 1), .int .i64 (x.kept 2), .int .i64 (x.kept 3)]
structure DOp.Ok (x : DOp) : Prop where
  f0 : -9223372036854775808 ≤ x.f ∧ x.f ≤ 9223372036854775807
  n0 : -9223372036854775808 ≤ x.n ∧ x.n ≤ 9223372036854775807
  t0 : -9223372036854775808 ≤ x.t ∧ x.t ≤ 9223372036854775807
  kept0 : ∀ i, -9223372036854775808 ≤ x.kept i ∧ x.kept i ≤ 9223372036854775807
  b0 : x.b.length ≤ 140737488355328
def Dk.run (d : Dk) (x : DOp) : Dk :=
  if x.k = 0 then (d.append x.f x.b).dk else if x.k = 1 then (d.sync x.f).dk else if x.k = 2 then (d.cutto x.f x.n).dk else if x.k = 3 then (d.move x.f x.t).dk
  else if x.k = 4 then { d with fuse := max x.n (-1) } else if x.k = 5 then d.crash x.kept else d
theorem run_ok {d : Dk} (h : d.Ok) {x : DOp} (hx : x.Ok) : (d.run x).Ok := by
  unfold Dk.run
  split
  · exact append_ok h _ _
  split
  · exact sync_ok h _
  split
  · exact cutto_ok h _ _
  split
  · exact move_ok h _ _
  split
  · exact fuse_ok h _ hx.n0.2
  split
  · exact crash_ok h _
  · exact h
end Go.Proofs.Ytdphnhgogokidaa
