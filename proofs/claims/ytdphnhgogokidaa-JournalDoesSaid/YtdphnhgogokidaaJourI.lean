/- The journal: what it tells of itself. -/
import Derived.Test.YtdphnhgogokidaaJourH
import Derived.Test.YtdphnhgogokidaaShelf
import Derived.BigQuiet
namespace Go.Proofs.Ytdphnhgogokidaa
open Go.RowKit

set_option maxRecDepth 100000 in
set_option maxHeartbeats 1000000 in
theorem text_j (jg g : Nat) (v : Value) (j : Jn) (w : World) (h : JAt w jg g v j) :
    Calls Try.prog 46 #[.pointer (some ⟨jg, 0, none⟩)] w fun e w' => e = .returned (.tuple #[.string ⟨j.text.toArray⟩, .int .i64 j.base]) ∧ ∃ n, w' = w.drewN n := by
  have c1 := h.c1
  have c2 := h.c2
  clear h
  go_enter Try.func46, Try.ntmps46
  go_wp2
  go_quiet (fail)
  go_wp2
  go_ret2
  exact ⟨rfl, _, rfl⟩
theorem slStr_strings {w : World} {B : Nat} {v : Value} {rs : List (List UInt8)} (h : w.ownsRow B 9 1 v rs.length (((rs.map fun r => (⟨r.toArray⟩ : ByteArray)).take rs.length).map Value.string)) : SlStr w v rs := by
  apply slStr_owns (B := B)
  rw [List.take_of_length_le (by simp), List.map_map] at h
  exact h
set_option maxRecDepth 100000 in
set_option maxHeartbeats 1000000 in
theorem records_j (jg g B : Nat) (v : Value) (j : Jn) (w : World) (h : JAt w jg g v j) (ho : w.ownsRow B 9 1 v j.recs.length (strs j.recs)) (hl : j.recs.length ≤ 1000000) :
    Calls Try.prog 44 #[.pointer (some ⟨jg, 0, none⟩)] w fun e w' => ∃ u, e = .returned u ∧ SlStr w' u j.recs ∧ Below w.heap.size w w' := by
  have c3 := h.c3
  have HC := Lib.hid (show ∀ wx, wx = w → Calls Try.prog 84 #[v] wx fun e w' => ∃ u, e = .returned u ∧ SlStr w' u j.recs ∧ Below wx.heap.size wx w' by
    rintro wx rfl
    rcases ho.2 with ⟨rfl, h0⟩ | ⟨k, cap, cur, rfl, _⟩
    · refine (Try.slices_Clone_string_nil 0 0 wx).mono ?_
      rintro e w' ⟨rfl, rfl⟩
      have hr : j.recs = [] := List.length_eq_zero_iff.1 h0
      exact ⟨_, rfl, ⟨none, 0, by rw [hr]; rfl, fun hne => absurd hr hne⟩, Below.refl _ _⟩
    · refine (Try.slices_Clone_string k 0 j.recs.length cap (j.recs.map fun r => (⟨r.toArray⟩ : ByteArray)) wx (by simp) (by omega) (fun i hi => ?_)).mono ?_
      · rw [Nat.zero_add, ho.cellAt i (by simpa using hi)]
        have hi2 : i < j.recs.length := by simpa using hi
        simp [strs, hi2]
      · rintro e w' ⟨u, rfl, hw, _, hb⟩
        exact ⟨u, rfl, slStr_strings hw, hb⟩)
  clear h ho
  go_enter Try.func44, Try.ntmps44
  go_wp2_with fail
  refine (HC.out _ rfl).mono ?_
  rintro e w1 ⟨u, rfl, hs, hb⟩
  go_wp2
  go_ret
  exact ⟨u, rfl, hs, hb⟩
end Go.Proofs.Ytdphnhgogokidaa
