/- Plain laws of frames: what was laid is told; no program in sight. -/
import Derived.Test.YtdphnhgogokidaaFrameT
namespace Go.Proofs.Ytdphnhgogokidaa

theorem rd_be4 (n : Nat) (h : n < 4294967296) : rd (be4 n) = n := by
  simp [rd, be4]
  omega
theorem frame_take4 (r t : List UInt8) : (frameOf r ++ t).take 4 = be4 r.length := by simp [frameOf, be4]
theorem frame_drop4 (r t : List UInt8) : ((frameOf r ++ t).drop 4).take 4 = be4 (Crc.check r) := by simp [frameOf, be4]
theorem frame_drop8 (r t : List UInt8) : (frameOf r ++ t).drop 8 = r ++ t := by simp [frameOf, be4]
theorem frame_drop (r t : List UInt8) : (frameOf r ++ t).drop (8 + r.length) = t := by
  rw [← List.drop_drop, frame_drop8]; simp
/-- a frame ahead is told. -/
theorem scan_frame (r t : List UInt8) (h : r.length ≤ 65536) : scan (frameOf r ++ t) = (r :: (scan t).1, 8 + r.length + (scan t).2.1, (scan t).2.2) := by
  have hn : rd ((frameOf r ++ t).take 4) = r.length := by rw [frame_take4, rd_be4 _ (by omega)]
  have hl : (frameOf r ++ t).length = r.length + 8 + t.length := by rw [List.length_append, frameOf_length]
  have h1 := scan_one (l := frameOf r ++ t) (by omega) (by rw [hn]; omega) (by rw [hn, hl]; omega) (by
    rw [hn, frame_drop8, frame_drop4, rd_be4 _ (Crc.check_lt r)]; simp)
  rw [h1, hn, frame_drop8, frame_drop]
  simp
theorem scan_frames (rs : List (List UInt8)) (t : List UInt8) (h : ∀ r ∈ rs, r.length ≤ 65536) : scan (framesOf rs ++ t) = (rs ++ (scan t).1, (framesOf rs).length + (scan t).2.1, (scan t).2.2) := by
  induction rs with
  | nil => simp [framesOf]
  | cons r rs ih =>
    have e : framesOf (r :: rs) ++ t = frameOf r ++ (framesOf rs ++ t) := by simp [framesOf]
    have el : (framesOf (r :: rs)).length = 8 + r.length + (framesOf rs).length := by
      simp only [framesOf, List.map_cons, List.flatten_cons, List.length_append, frameOf_length]; omega
    rw [e, scan_frame r _ (h r (by simp)), ih (fun x hx => h x (by simp [hx])), el]
    simp [Nat.add_assoc]
theorem frame_ab : frameOf [97, 98] = [0, 0, 0, 2, 158, 131, 72, 109, 97, 98] := by decide +kernel
theorem frames_ab : framesOf [[97, 98], []] = [0, 0, 0, 2, 158, 131, 72, 109, 97, 98, 0, 0, 0, 0, 0, 0, 0, 0] := by decide +kernel
theorem scan_ab : scan [0, 0, 0, 2, 158, 131, 72, 109, 97, 98, 0, 0, 0, 0, 0, 0, 0, 0, 0] = ([[97, 98], []], 18, 1) := by
  have h := scan_frames [[97, 98], []] [0] (by intro r hr; simp at hr; rcases hr with rfl | rfl <;> simp)
  rw [scan_short (l := [0]) (by decide) (by decide), frames_ab] at h
  exact h
theorem scan_torn_ab : scan [0, 0, 0, 2, 158, 131, 72, 109, 97] = ([], 0, 1) := scan_torn (by decide) (by decide +kernel) (by decide +kernel)
theorem check_digits : Crc.check [49, 50, 51, 52, 53, 54, 55, 56, 57] = 3421780262 := by decide +kernel
theorem scan_len (l : List UInt8) : (scan l).1.length ≤ l.length := by
  suffices h : ∀ n (l : List UInt8), l.length ≤ n → (scan l).1.length ≤ l.length from h l.length l (Nat.le_refl _)
  intro n
  induction n with
  | zero => intro l hl; rw [scan_nil (by omega)]; simp
  | succ n ih =>
    intro l hl
    by_cases h0 : l.length = 0
    · rw [scan_nil h0]; simp
    by_cases h8 : l.length < 8
    · rw [scan_short (by omega) h8]; simp
    by_cases hn : 65536 < rd (l.take 4)
    · rw [scan_big (by omega) hn]; simp
    by_cases ht : l.length < 8 + rd (l.take 4)
    · rw [scan_torn (by omega) hn ht]; simp
    by_cases hc : Crc.check ((l.drop 8).take (rd (l.take 4))) = rd ((l.drop 4).take 4)
    · rw [scan_one (by omega) hn ht hc]
      have := ih (l.drop (8 + rd (l.take 4))) (by simp; omega)
      simp at this ⊢; omega
    · rw [scan_bad (by omega) hn ht hc]; split <;> simp
end Go.Proofs.Ytdphnhgogokidaa
