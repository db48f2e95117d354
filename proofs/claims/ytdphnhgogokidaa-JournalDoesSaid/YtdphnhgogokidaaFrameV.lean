/- Plain laws of frames: of a part from the first byte on just the whole records are told; a byte of a record that is turned is found. -/
import Derived.Test.YtdphnhgogokidaaFrameQ
namespace Go.Proofs.Ytdphnhgogokidaa

theorem framesOf_cons (r : List UInt8) (A : List (List UInt8)) : framesOf (r :: A) = frameOf r ++ framesOf A := by simp [framesOf]
theorem framesOf_app (A B : List (List UInt8)) : framesOf (A ++ B) = framesOf A ++ framesOf B := by simp [framesOf]
theorem scan_take (A : List (List UInt8)) : ∀ k, (∀ r ∈ A, r.length ≤ 65536) → k ≤ (framesOf A).length →
    ∃ j, j ≤ A.length ∧ scan ((framesOf A).take k) = (A.take j, (framesOf (A.take j)).length, if (framesOf (A.take j)).length = k then 0 else 1) ∧ (framesOf (A.take j)).length ≤ k ∧
      (j = A.length ∨ ∃ r, A[j]? = some r ∧ k < (framesOf (A.take j)).length + 8 + r.length) := by
  induction A with
  | nil =>
    intro k _ hk
    have : k = 0 := by simpa [framesOf] using hk
    subst this
    exact ⟨0, Nat.le_refl _, by rw [scan_nil (by simp)]; simp [framesOf], by simp [framesOf], .inl rfl⟩
  | cons r A ih =>
    intro k hr hk
    have hrl := hr r (by simp)
    rw [framesOf_cons] at hk ⊢
    by_cases hlt : k < 8 + r.length
    · refine ⟨0, Nat.zero_le _, ?_, by simp [framesOf], .inr ⟨r, rfl, by simp [framesOf]; omega⟩⟩
      have hl : ((frameOf r ++ framesOf A).take k).length = k := by rw [List.length_take]; omega
      have ht0 : (framesOf ((r :: A).take 0)).length = 0 := by simp [framesOf]
      rw [ht0]
      by_cases h0 : k = 0
      · subst h0; rw [scan_nil (by simp)]; simp
      · rw [if_neg (by omega)]
        by_cases h8 : k < 8
        · rw [scan_short (by omega) (by omega)]; simp
        · have hn : rd (((frameOf r ++ framesOf A).take k).take 4) = r.length := by
            rw [List.take_take, show min 4 k = 4 from by omega, frame_take4, rd_be4 _ (by omega)]
          rw [scan_torn (by omega) (by rw [hn]; omega) (by rw [hn]; omega)]; simp
    · have hk2 : k - (8 + r.length) ≤ (framesOf A).length := by
        rw [List.length_append, frameOf_length] at hk; omega
      obtain ⟨j, hj, hs, ho, hd⟩ := ih (k - (8 + r.length)) (fun x hx => hr x (by simp [hx])) hk2
      have e : (frameOf r ++ framesOf A).take k = frameOf r ++ (framesOf A).take (k - (8 + r.length)) := by
        rw [List.take_append, List.take_of_length_le (by rw [frameOf_length]; omega), frameOf_length, Nat.add_comm r.length 8]
      have el : (framesOf ((r :: A).take (j + 1))).length = 8 + r.length + (framesOf (A.take j)).length := by
        rw [List.take_succ_cons, framesOf_cons, List.length_append, frameOf_length]; clear hd; omega
      refine ⟨j + 1, by clear hd; simp; omega, ?_, by clear hd; omega, ?_⟩
      · clear hd
        rw [e, scan_frame r _ hrl, hs, el]
        simp only [List.take_succ_cons, Prod.mk.injEq, true_and]
        split <;> split <;> first | rfl | omega
      · rcases hd with rfl | ⟨x, hx, hlt2⟩
        · exact .inl (by simp)
        · exact .inr ⟨x, by simpa using hx, by omega⟩
/-- the text with one byte turned. -/
def turned (l : List UInt8) (p : Nat) (y : UInt8) : List UInt8 := l.take p ++ ((l.getD p 0) ^^^ y) :: l.drop (p + 1)
theorem split_at (l : List UInt8) (p : Nat) (h : p < l.length) : l = l.take p ++ l.getD p 0 :: l.drop (p + 1) := by
  have e : l.getD p 0 = l[p] := by simp [List.getD, h]
  rw [e, ← List.drop_eq_getElem_cons h, List.take_append_drop]
theorem xor_ne (x y : UInt8) (h : y ≠ 0) : x ≠ x ^^^ y := by
  intro e
  apply h
  have h2 : x ^^^ x = x ^^^ (x ^^^ y) := by rw [← e]
  rw [← UInt8.xor_assoc, UInt8.xor_self, UInt8.zero_xor] at h2
  exact h2.symm
theorem check_turned_ne (r : List UInt8) (i : Nat) (y : UInt8) (hi : i < r.length) (hy : y ≠ 0) : Crc.check (turned r i y) ≠ Crc.check r := by
  intro h
  have hs := split_at r i hi
  rw [hs] at h
  conv at h => lhs; rw [← hs]
  unfold turned at h
  exact xor_ne _ _ hy (Crc.check_turned _ _ _ _ h).symm
theorem turned_length (l : List UInt8) (p : Nat) (y : UInt8) (h : p < l.length) : (turned l p y).length = l.length := by
  simp [turned]; omega
theorem turned_app (a l b : List UInt8) (p : Nat) (y : UInt8) (h : p < l.length) : turned (a ++ l ++ b) (a.length + p) y = a ++ turned l p y ++ b := by
  unfold turned
  have e1 : (a ++ l ++ b).take (a.length + p) = a ++ l.take p := by
    rw [List.append_assoc, List.take_length_add_append, List.take_append_of_le_length (by omega)]
  have e2 : (a ++ l ++ b).drop (a.length + p + 1) = l.drop (p + 1) ++ b := by
    rw [List.append_assoc, Nat.add_assoc, List.drop_length_add_append, List.drop_append_of_le_length (by omega)]
  have e3 : (a ++ l ++ b).getD (a.length + p) 0 = l.getD p 0 := by
    simp only [List.getD]
    rw [List.append_assoc, List.getElem?_append_right (by omega), Nat.add_sub_cancel_left, List.getElem?_append_left h]
  rw [e1, e2, e3]
  simp
theorem framesOf_ne (A : List (List UInt8)) : (framesOf A).length = 0 ↔ A.length = 0 := by
  cases A with
  | nil => simp [framesOf]
  | cons r A => rw [framesOf_cons, List.length_append, frameOf_length]; simp
theorem frames_split (A : List (List UInt8)) (k : Nat) (r : List UInt8) (h : A[k]? = some r) : framesOf A = framesOf (A.take k) ++ frameOf r ++ framesOf (A.drop (k + 1)) := by
  have hk := (List.getElem?_eq_some_iff.1 h)
  obtain ⟨hk, hr⟩ := hk
  conv => lhs; rw [← List.take_append_drop k A, List.drop_eq_getElem_cons hk, hr]
  rw [framesOf_app, framesOf_cons, List.append_assoc]
/-- a byte of a record that is turned is found. -/
theorem scan_turned (A : List (List UInt8)) (k i : Nat) (r : List UInt8) (y : UInt8) (hA : ∀ r ∈ A, r.length ≤ 65536) (h : A[k]? = some r) (hi : i < r.length) (hy : y ≠ 0) :
    scan (turned (framesOf A) ((framesOf (A.take k)).length + 8 + i) y) = (A.take k, (framesOf (A.take k)).length, if k + 1 = A.length then 1 else 2) := by
  have hk := (List.getElem?_eq_some_iff.1 h).1
  have hrl := hA r (List.mem_of_getElem? h)
  rw [frames_split A k r h]
  have hf : turned (framesOf (A.take k) ++ frameOf r ++ framesOf (A.drop (k + 1))) ((framesOf (A.take k)).length + (8 + i)) y =
      framesOf (A.take k) ++ turned (frameOf r) (8 + i) y ++ framesOf (A.drop (k + 1)) := turned_app _ _ _ _ _ (by rw [frameOf_length]; omega)
  have hh : (be4 r.length ++ be4 (Crc.check r)).length = 8 := by simp [be4]
  have hfr : turned (frameOf r) (8 + i) y = (be4 r.length ++ be4 (Crc.check r)) ++ turned r i y := by
    have := turned_app (be4 r.length ++ be4 (Crc.check r)) r [] i y hi
    rw [hh, List.append_nil, List.append_nil] at this
    exact this
  rw [Nat.add_assoc, hf, List.append_assoc, scan_frames _ _ (fun x hx => hA x (List.mem_of_mem_take hx)), hfr]
  have hl : (be4 r.length ++ be4 (Crc.check r) ++ turned r i y ++ framesOf (A.drop (k + 1))).length = 8 + r.length + (framesOf (A.drop (k + 1))).length := by
    rw [List.length_append, List.length_append, hh, turned_length _ _ _ hi]
  have t4 : (be4 r.length ++ be4 (Crc.check r) ++ turned r i y ++ framesOf (A.drop (k + 1))).take 4 = be4 r.length := by simp [be4]
  have d4 : ((be4 r.length ++ be4 (Crc.check r) ++ turned r i y ++ framesOf (A.drop (k + 1))).drop 4).take 4 = be4 (Crc.check r) := by simp [be4]
  have d8 : (be4 r.length ++ be4 (Crc.check r) ++ turned r i y ++ framesOf (A.drop (k + 1))).drop 8 = turned r i y ++ framesOf (A.drop (k + 1)) := by simp [be4]
  have hn : rd ((be4 r.length ++ be4 (Crc.check r) ++ turned r i y ++ framesOf (A.drop (k + 1))).take 4) = r.length := by rw [t4, rd_be4 _ (by omega)]
  have hb := scan_bad (l := be4 r.length ++ be4 (Crc.check r) ++ turned r i y ++ framesOf (A.drop (k + 1))) (by omega) (by rw [hn]; omega) (by rw [hn, hl]; omega) (by
    rw [hn, d8, d4, rd_be4 _ (Crc.check_lt r), List.take_append_of_le_length (by rw [turned_length _ _ _ hi]; omega), List.take_of_length_le (by rw [turned_length _ _ _ hi]; omega)]
    exact check_turned_ne r i y hi hy)
  rw [hb, hn, hl]
  have hz := framesOf_ne (A.drop (k + 1))
  rw [List.length_drop] at hz
  by_cases hq : k + 1 = A.length
  · have : (framesOf (A.drop (k + 1))).length = 0 := hz.2 (by omega)
    rw [if_pos (by omega), if_pos hq]; simp
  · have : (framesOf (A.drop (k + 1))).length ≠ 0 := fun h => by have := hz.1 h; omega
    rw [if_neg (by omega), if_neg hq]; simp
end Go.Proofs.Ytdphnhgogokidaa
