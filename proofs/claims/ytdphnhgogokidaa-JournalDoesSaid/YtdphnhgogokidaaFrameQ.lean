/- Plain laws on how many bytes a list of texts has together. -/
import Derived.Test.YtdphnhgogokidaaFrameP
namespace Go.Proofs.Ytdphnhgogokidaa

theorem sz_ge (A : List (List UInt8)) : ∀ n, n ≤ sz A n := by
  induction A with
  | nil => intro n; exact Nat.le_refl _
  | cons r A ih =>
    intro n
    unfold sz
    split
    · exact Nat.le_trans (by omega) (ih _)
    · exact Nat.le_refl _
theorem sz_small (A : List (List UInt8)) : ∀ n m, sz A n ≤ m → (m : Int) < 1000000 → n + A.length + (A.map List.length).sum ≤ m ∧ (∀ x ∈ A, x.length ≤ m) ∧ (framesOf A).length ≤ 8 * A.length + (A.map List.length).sum := by
  induction A with
  | nil => intro n m h _; simp only [sz] at h; simp [framesOf]; omega
  | cons r A ih =>
    intro n m h hm
    have hn : n < 1000000 := by
      have := sz_ge (r :: A) n
      omega
    unfold sz at h
    rw [if_pos hn] at h
    obtain ⟨h1, h2, h3⟩ := ih _ _ h hm
    refine ⟨by simp; omega, ?_, ?_⟩
    · intro x hx
      rcases List.mem_cons.1 hx with rfl | hx
      · omega
      · exact h2 x hx
    · simp only [framesOf, List.map_cons, List.flatten_cons, List.length_append, frameOf_length, List.length_cons, List.sum_cons] at h3 ⊢
      omega
theorem sz_le (K : Nat) (A : List (List UInt8)) (h : ∀ x ∈ A, x.length ≤ K) : ∀ n : Nat, (n : Int) ≤ 1000000 + K → (sz A n : Int) ≤ 1000000 + K := by
  induction A with
  | nil => intro n hn; exact hn
  | cons r A ih =>
    intro n hn
    unfold sz
    split
    · have := h r (by simp)
      exact ih (fun x hx => h x (by simp [hx])) _ (by omega)
    · exact hn
end Go.Proofs.Ytdphnhgogokidaa
