/- The walk of the frame laws' first question (nostrolaw04.awake). -/
import Derived.Test.YtdphnhgogokidaaFrameU
import Derived.Test.YtdphnhgogokidaaFrameP
namespace Go.Proofs.Ytdphnhgogokidaa
open Go.RowKit

theorem put_ab (w : World) : Calls Try.prog 29 #[.string ⟨#[97, 98]⟩] w fun e w' => e = .returned (.tuple #[.string ⟨#[0, 0, 0, 2, 158, 131, 72, 109, 97, 98]⟩, .int .i64 0]) ∧ Below w.heap.size w w' := by
  have h := put_ok ⟨#[97, 98]⟩ (by decide) w
  rw [show (⟨#[97, 98]⟩ : ByteArray).data.toList = [97, 98] from rfl, frame_ab] at h
  exact h
theorem all_ab (v : Value) (w : World) (h : SlStr w v [[97, 98], []]) : Calls Try.prog 37 #[v] w fun e w' => e = .returned (.tuple #[.string ⟨#[0, 0, 0, 2, 158, 131, 72, 109, 97, 98, 0, 0, 0, 0, 0, 0, 0, 0]⟩, .int .i64 0]) ∧ Below w.heap.size w w' := by
  have h := all_any v [[97, 98], []] w h (by simp) (by intro r hr; simp at hr; rcases hr with rfl | rfl <;> simp) (by rw [frames_ab]; simp)
  rw [frames_ab] at h
  exact h
theorem scan_ab_any (w : World) : Calls Try.prog 31 #[.string ⟨#[0, 0, 0, 2, 158, 131, 72, 109, 97, 98, 0, 0, 0, 0, 0, 0, 0, 0, 0]⟩] w fun e w' => ∃ v, e = .returned (.tuple #[v, .int .i64 18, .int .i64 1]) ∧
    SlStr w' v [[97, 98], []] ∧ Below w.heap.size w w' := by
  have h := scan_any ⟨#[0, 0, 0, 2, 158, 131, 72, 109, 97, 98, 0, 0, 0, 0, 0, 0, 0, 0, 0]⟩ (by decide) w
  rw [show (⟨#[0, 0, 0, 2, 158, 131, 72, 109, 97, 98, 0, 0, 0, 0, 0, 0, 0, 0, 0]⟩ : ByteArray).data.toList = [0, 0, 0, 2, 158, 131, 72, 109, 97, 98, 0, 0, 0, 0, 0, 0, 0, 0, 0] from rfl, scan_ab] at h
  refine h.mono ?_
  rintro e w' ⟨v, he, ho, hb⟩
  exact ⟨v, he, slStr_owns ho, hb⟩
theorem scan_torn_any (w : World) : Calls Try.prog 31 #[.string ⟨#[0, 0, 0, 2, 158, 131, 72, 109, 97]⟩] w fun e w' => ∃ v, e = .returned (.tuple #[v, .int .i64 0, .int .i64 1]) ∧
    Below w.heap.size w w' := by
  have h := scan_any ⟨#[0, 0, 0, 2, 158, 131, 72, 109, 97]⟩ (by decide) w
  rw [show (⟨#[0, 0, 0, 2, 158, 131, 72, 109, 97]⟩ : ByteArray).data.toList = [0, 0, 0, 2, 158, 131, 72, 109, 97] from rfl, scan_torn_ab] at h
  refine h.mono ?_
  rintro e w' ⟨v, he, ho, hb⟩
  exact ⟨v, he, hb⟩
theorem check_digits_any (w : World) : Calls Try.prog 33 #[.string ⟨#[49, 50, 51, 52, 53, 54, 55, 56, 57]⟩] w fun e w' => e = .returned (.int .u32 3421780262) ∧ Below w.heap.size w w' := by
  have h := check_any ⟨#[49, 50, 51, 52, 53, 54, 55, 56, 57]⟩ (by decide) w
  rw [show (⟨#[49, 50, 51, 52, 53, 54, 55, 56, 57]⟩ : ByteArray).data.toList = [49, 50, 51, 52, 53, 54, 55, 56, 57] from rfl, check_digits] at h
  exact h
theorem slStr_new2 (w : World) (a b : List UInt8) : SlStr (w.alloc (.cells #[.string ⟨a.toArray⟩, .string ⟨b.toArray⟩] 9)) (.slice (some ⟨w.heap.size, 0, none⟩) 2 2) [a, b] := by
  refine ⟨some ⟨w.heap.size, 0, none⟩, 2, rfl, fun _ => ⟨w.heap.size, 0, rfl, fun j x hx => ?_⟩⟩
  have hj : j = 0 ∨ j = 1 := by
    have := (List.getElem?_eq_some_iff.1 hx).1
    simp at this; omega
  rcases hj with rfl | rfl <;> simp at hx <;> subst hx <;> simp
set_option maxRecDepth 100000 in
set_option maxHeartbeats 2000000 in
theorem awake_any (w : World) : Calls Try.prog 28 #[] w fun e w' => e = .returned (.bool true) ∧ Below w.heap.size w w' := by
  go_enter Try.func28, Try.ntmps28
  go_wp2_with fail
  refine (put_ab _).mono ?_
  rintro e w1 ⟨rfl, hb1⟩
  go_wp2_with fail
  refine (all_ab _ _ (slStr_new2 w1 [97, 98] [])).mono ?_
  rintro e w2 ⟨rfl, hb2⟩
  have hb3 := (hb1.alloc hb1.size (.cells #[.string ⟨#[97, 98]⟩, .string ⟨#[]⟩] 9)).trans (hb2.mono (by have := hb1.size; simp; omega))
  clear hb1 hb2
  go_wp2_with fail
  rw [show (⟨#[0, 0, 0, 2, 158, 131, 72, 109, 97, 98, 0, 0, 0, 0, 0, 0, 0, 0]⟩ : ByteArray) ++ ⟨#[0]⟩ = ⟨#[0, 0, 0, 2, 158, 131, 72, 109, 97, 98, 0, 0, 0, 0, 0, 0, 0, 0, 0]⟩ from by decide]
  refine (scan_ab_any _).mono ?_
  rintro e w3 ⟨v, rfl, hv, hb4⟩
  have hb5 := hb3.trans (hb4.mono hb3.size)
  clear hb3 hb4
  go_wp2_with fail
  rw [show (⟨#[0, 0, 0, 2, 158, 131, 72, 109, 97, 98]⟩ : ByteArray).extract 0 (max 9 0 : Int).toNat = ⟨#[0, 0, 0, 2, 158, 131, 72, 109, 97]⟩ from by decide]
  refine (scan_torn_any _).mono ?_
  rintro e w4 ⟨v2, rfl, hb6⟩
  have hv4 := slStr_below hv hb6
  have hb7 := hb5.trans (hb6.mono hb5.size)
  clear hb5 hb6 hv
  go_wp2_with fail
  refine (check_digits_any _).mono ?_
  rintro e w5 ⟨rfl, hb8⟩
  have hv5 := slStr_below hv4 hb8
  have hb9 := hb7.trans (hb8.mono hb7.size)
  clear hb7 hb8 hv4
  obtain ⟨va, vc, rfl, hvv⟩ := hv5
  have HV := Lib.hid hvv
  clear hvv
  have s4 : ((⟨#[0, 0, 0, 2, 158, 131, 72, 109, 97, 98]⟩ : ByteArray).extract 0 4).toList = [0, 0, 0, 2] := by decide +kernel
  go_wp2_with fail
  refine (same_any _ _ [[97, 98], []] [[97, 98], []] _ ?_ (slStr_new2 w5 [97, 98] []) (by simp)).mono ?_
  · exact slStr_below (w := w5) ⟨va, vc, rfl, HV.out⟩ ((Below.refl _ _).alloc (Nat.le_refl _) _)
  rintro e w6 ⟨rfl, n, rfl⟩
  go_wp2
  go_ret
  exact ⟨rfl, below_drewN (hb9.alloc hb9.size _) n⟩
end Go.Proofs.Ytdphnhgogokidaa
