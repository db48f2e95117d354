/- Arguments of the laws, opened: a list of texts reads as a slice whose cells hold them; each is no longer than the form's own reach. -/
import Derived.Test.YtdphnhgogokidaaFrameR
import Derived.Test.YtdphnhgogokidaaRow
namespace Go.Proofs.Ytdphnhgogokidaa
open Go.ChangeShapes Go.WideShapes Go.ChangeAt Go.RowKit
open Go.ChangeMaps (open_string shut_string)
theorem cells_str : Try.prog.cellsOf 9 = 1 := by kernel_rfl
theorem bytes_str : Try.prog.bytesOf 9 = 16 := by kernel_rfl
section
variable {H : Type} {enc : TypeId × Value → H}
theorem weightsAll_mem {P : Program} {e : TypeId} {d : DataW H} {n : Nat} : ∀ {ds : List (DataW H)}, d ∈ ds → n ∈ d.weights P e → n ∈ DataW.weightsAll P e ds
  | [], h, _ => by simp at h
  | d0 :: ds, h, hn => by
    simp only [DataW.weightsAll, List.mem_append]
    rcases List.mem_cons.1 h with rfl | h
    · exact .inl hn
    · exact .inr (weightsAll_mem h hn)
theorem string_reach {P : Program} {t : TypeId} {s : ByteArray} {R : Nat} {d : DataW H} (hd : d = .lit (.string s.data.toList)) (h : ∀ n ∈ d.weights P t, n ≤ R) : s.size ≤ R := by
  subst hd
  have := h s.data.toList.length (by simp [DataW.weights])
  simpa using this
set_option maxRecDepth 100000 in
theorem open_texts {W : World} {base : Nat} {v : Value} {d : DataW H} {p : List MemPlace} (hv : Value.okWide Try.prog W .any base 50 v) (h : DataW.Trod enc Try.prog W 0 (fun _ => true) true 50 v d p)
    (hw : ∀ n ∈ d.weights Try.prog 50, n ≤ reachBytes) : ∃ A, SlStr W v A ∧ A.length * 16 ≤ reachBytes ∧ ∀ x ∈ A, x.length ≤ reachBytes := by
  generalize reachBytes = R at *
  obtain ⟨a0, len0, cap0, rfl⟩ := okWide_slice Try.underlying50 hv
  obtain ⟨fuel, hf⟩ := h
  rcases open_strings Try.underlying50 Try.underlying9 cells_str hf with ⟨hcs, hx⟩ | ⟨a, len, cap, ss, hcs, _, hl, hm, hz, hx, hcell, hws⟩
  · simp [Value.cells] at hcs
    obtain ⟨rfl, rfl, rfl⟩ := hcs
    exact ⟨[], ⟨none, 0, rfl, fun h => absurd rfl h⟩, by rw [List.length_nil, Nat.zero_mul]; exact Nat.zero_le _, fun x hx => absurd hx (by simp)⟩
  · simp [Value.cells] at hcs
    obtain ⟨rfl, rfl, rfl⟩ := hcs
    simp only [Prod.mk.injEq] at hx
    obtain ⟨rfl, _⟩ := hx
    simp only [if_true] at hz
    have hlen : ((ss.take len0).map fun s => s.data.toList).length = len0 := by simp; omega
    refine ⟨(ss.take len0).map fun s => s.data.toList, ⟨some a, cap0, by rw [hlen], fun hne => ?_⟩, ?_, ?_⟩
    · have hp : 0 < len0 := by
        rcases Nat.eq_zero_or_pos len0 with h | h
        · subst h; simp at hne
        · exact h
      obtain ⟨b, off, spot⟩ := a
      have hspot : spot = none := by simpa [Addr.add] using World.cell?_spot (hcell 0 (by omega))
      subst hspot
      refine ⟨b, off, rfl, fun j x hx => ?_⟩
      have hj : j < len0 := by have := (List.getElem?_eq_some_iff.1 hx).1; simp at this; omega
      rw [← add_plain, hcell j (by omega)]
      simp [hj] at hx
      obtain ⟨s, hs, rfl⟩ := hx
      simp [List.getD, hs]
    · rw [hlen]
      have h1 := hw _ (by simp only [DataW.weights, Try.underlying50]; exact List.mem_cons_self)
      rw [bytes_str] at h1
      simp [Go.ChangeShapes.strs] at h1
      omega
    · intro x hx
      simp only [List.mem_map] at hx
      obtain ⟨s, hs, rfl⟩ := hx
      refine hw _ ?_
      simp only [DataW.weights, Try.underlying50]
      refine List.mem_cons_of_mem _ (List.mem_append.2 (.inl (weightsAll_mem (d := .lit (.string s.data.toList)) ?_ ?_)))
      · simp only [Go.ChangeShapes.strs, List.mem_map]; exact ⟨s, hs, rfl⟩
      · simp [DataW.weights]
set_option maxRecDepth 100000 in
theorem cap_texts {W : World} {base : Nat} {v : Value} {d : DataW H} {p : List MemPlace} (hv : Value.okWide Try.prog W .any base 50 v) (h : DataW.Trod enc Try.prog W 0 (fun _ => true) true 50 v d p) :
    ∃ a n c, v = .slice a n c ∧ n ≤ c := by
  obtain ⟨a0, len0, cap0, rfl⟩ := okWide_slice Try.underlying50 hv
  obtain ⟨fuel, hf⟩ := h
  rcases open_strings Try.underlying50 Try.underlying9 cells_str hf with ⟨hcs, _⟩ | ⟨a, len, cap, ss, hcs, _, hl, _, _, _, _, _⟩
  · simp [Value.cells] at hcs
    obtain ⟨rfl, rfl, rfl⟩ := hcs
    exact ⟨none, 0, 0, rfl, Nat.le_refl _⟩
  · simp [Value.cells] at hcs
    obtain ⟨rfl, rfl, rfl⟩ := hcs
    exact ⟨_, _, _, rfl, hl⟩
end
end Go.Proofs.Ytdphnhgogokidaa
