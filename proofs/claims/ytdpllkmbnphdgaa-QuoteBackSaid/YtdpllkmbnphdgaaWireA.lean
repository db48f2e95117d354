/- Wire: what kinds use, in plain words; the small functions of both packages. -/
import Derived.Test.YtdpllkmbnphdgaaRows
import Derived.WalkKit
import Derived.WalkSpells
import Derived.WalkLawsBesides
import Derived.Lib.Hide
import Derived.BigQuiet
import Derived.BigRegion
import Derived.Lib.Strings
namespace Go.Proofs.Ytdpllkmbnphdgaa
open Go.RowKit

/-- the fields that a kind uses, in order: the number's place and how many bytes lay it. -/
def specs (k : Int) : List (Nat × Nat) :=
  if k = 1 then [(1, 1), (2, 4), (3, 1), (4, 1), (5, 1), (6, 8), (7, 8)]
  else if k = 2 then [(1, 1), (2, 4)]
  else if k = 3 then [(1, 1), (4, 1), (6, 8)]
  else if k = 4 ∨ k = 8 then [(2, 4)]
  else if k = 5 ∨ k = 6 then [(4, 1), (6, 8)]
  else if k = 7 then [(1, 1)]
  else if k = 9 then [(1, 1), (4, 1)]
  else []
/-- the same, as the document lays it down. -/
def usesOf (k : Int) : List UInt8 :=
  if k = 1 then [49, 49, 49, 49, 49, 49, 49]
  else if k = 2 then [49, 49, 48, 48, 48, 48, 48]
  else if k = 3 then [49, 48, 48, 49, 48, 49, 48]
  else if k = 4 ∨ k = 8 then [48, 49, 48, 48, 48, 48, 48]
  else if k = 5 ∨ k = 6 then [48, 48, 48, 49, 48, 49, 48]
  else if k = 7 then [49, 48, 48, 48, 48, 48, 48]
  else if k = 9 then [49, 48, 48, 49, 48, 48, 48]
  else []
/-- may a number be laid by so many bytes? -/
def fits (n : Int) (bytes : Nat) : Bool := if bytes = 1 then decide (0 ≤ n ∧ n ≤ 255) else decide (0 ≤ n ∧ n ≤ 2147483647)
set_option maxRecDepth 100000 in
set_option maxHeartbeats 1000000 in
theorem within_any (n : Int) (k : Nat) (w : World) : Calls Try.prog 35 #[.int .i64 n, .int .i64 k] w fun e w' => e = .returned (.bool (fits n k)) ∧ w' = w := by
  by_cases hk : k = 1
  · subst hk
    by_cases h0 : 0 ≤ n
    · have e : fits n 1 = decide (n ≤ 255) := by simp [fits, h0]
      rw [e]
      clear e
      go_enter Try.func35, Try.ntmps35
      go_wp2
      go_ret
      exact ⟨rfl, rfl⟩
    · have e : fits n 1 = false := by simp [fits, h0]
      rw [e]
      clear e
      go_enter Try.func35, Try.ntmps35
      go_wp2
      go_ret
      exact ⟨rfl, rfl⟩
  · have e1 : ((k : Int) == 1) = false := by simp; omega
    by_cases h0 : 0 ≤ n
    · have e : fits n k = decide (n ≤ 2147483647) := by simp [fits, h0, hk]
      rw [e]
      clear e hk
      go_enter Try.func35, Try.ntmps35
      go_wp2
      go_ret
      exact ⟨rfl, rfl⟩
    · have e : fits n k = false := by simp [fits, h0, hk]
      rw [e]
      clear e hk
      go_enter Try.func35, Try.ntmps35
      go_wp2
      go_ret
      exact ⟨rfl, rfl⟩
set_option maxRecDepth 100000 in
set_option maxHeartbeats 1000000 in
theorem uses_any (k : Int) (w : World) : Calls Try.prog 29 #[.int .i64 k] w fun e w' => e = .returned (.string ⟨(usesOf k).toArray⟩) ∧ w' = w := by
  by_cases h : k = 1 ∨ k = 2 ∨ k = 3 ∨ k = 4 ∨ k = 5 ∨ k = 6 ∨ k = 7 ∨ k = 8 ∨ k = 9
  · rcases h with rfl | rfl | rfl | rfl | rfl | rfl | rfl | rfl | rfl
    all_goals
      go_enter Try.func29, Try.ntmps29
      go_wp2
      go_ret
      exact ⟨rfl, rfl⟩
  · have e : usesOf k = [] := by
      unfold usesOf
      repeat rw [if_neg (by omega)]
    have e1 : (k == 1) = false := by simp; omega
    have e2 : (k == 2) = false := by simp; omega
    have e3 : (k == 3) = false := by simp; omega
    have e4 : (k == 4) = false := by simp; omega
    have e5 : (k == 5) = false := by simp; omega
    have e6 : (k == 6) = false := by simp; omega
    have e7 : (k == 7) = false := by simp; omega
    have e8 : (k == 8) = false := by simp; omega
    have e9 : (k == 9) = false := by simp; omega
    rw [e]
    clear e h
    go_enter Try.func29, Try.ntmps29
    go_wp2
    go_ret
    exact ⟨rfl, rfl⟩
end Go.Proofs.Ytdpllkmbnphdgaa
