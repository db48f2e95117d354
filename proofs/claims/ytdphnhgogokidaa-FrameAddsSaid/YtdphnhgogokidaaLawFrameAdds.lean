/- FrameAdds: for every three texts the law returns true, and they read afterwards as they read before. No condition. -/
import Derived.Test.YtdphnhgogokidaaFrameAddsW
namespace Go.Proofs.Ytdphnhgogokidaa.frameAdds
open Go.ChangeShapes Go.WideShapes Go.ChangeAt Go.RowKit
open Go.ChangeMaps (open_string shut_string)

set_option maxRecDepth 100000 in
theorem lifted (os : Os) (started : os.Started) (H : Type) (enc : TypeId × Value → H) :
    ReturnsInHanded {} Try.checked os 10 .any (Rows.frameAddsSpec.pre6 enc Try.prog Try.f10 Rows.frameAddsRow.domain false) (Rows.frameAddsSpec.post enc Try.prog Try.f10 false true false false) := by
  refine returnsInHanded_of_change_sized (C := Try.checked) own_knob started (by kernel_rfl) Try.func10
    (ChangeSpec.witness6 (enc := enc) (C := Try.checked) false ⟨#[], #[.string ByteArray.empty, .string ByteArray.empty, .string ByteArray.empty], []⟩ 8 (by kernel_rfl) (by kernel_rfl) (by kernel_rfl) (by kernel_rfl)) ?_
  intro W base args ds gs before hval0 hW hcnd hsz _
  have hval : ∀ (j : Nat) t v, Try.f10.params[j]? = some t → args[j]? = some v → Value.okWide Try.prog W .any base t v := hval0
  have hww : ∀ (j : Nat) (t : TypeId) (d : DataW H), Try.f10.params.toList[j]? = some t → ds[j]? = some d → ∀ n ∈ d.weights Try.prog t, n ≤ reachBytes := fun j t d h1 h2 => weights_of hsz j h1 h2
  have hW' := hW
  obtain ⟨p, q, hA0, hV, rfl, hfz, hnd⟩ := hW
  have hA : DataW.TrodAll enc Try.prog W 0 (fun _ => true) true Try.f10.params.toList args.toList ds p := hA0
  rw [Try.params10] at hA hval hww
  obtain ⟨v0, vs0, d0, ds0, p0, q0, hargs, rfl, rfl, h0, r0⟩ := trodAll_cons hA
  obtain ⟨v1, vs1, d1, ds1, p1, q1, rfl, rfl, rfl, h1, r1⟩ := trodAll_cons r0
  obtain ⟨v2, vs2, d2, ds2, p2, q2, rfl, rfl, rfl, h2, r2⟩ := trodAll_cons r1
  obtain ⟨rfl, rfl, rfl⟩ := trodAll_nil r2
  obtain rfl : args = #[v0, v1, v2] := by cases args; simp_all
  have hr0 := hww 0 9 d0 rfl rfl
  obtain ⟨a0, rfl, hd0, _, _⟩ := open_string Try.underlying9 (hval 0 9 v0 rfl rfl) h0
  have hl0 : a0.size ≤ reachBytes := string_reach hd0 hr0
  have hr1 := hww 1 9 d1 rfl rfl
  obtain ⟨a1, rfl, hd1, _, _⟩ := open_string Try.underlying9 (hval 1 9 v1 rfl rfl) h1
  have hl1 : a1.size ≤ reachBytes := string_reach hd1 hr1
  have hr2 := hww 2 9 d2 rfl rfl
  obtain ⟨a2, rfl, hd2, _, _⟩ := open_string Try.underlying9 (hval 2 9 v2 rfl rfl) h2
  have hl2 : a2.size ≤ reachBytes := string_reach hd2 hr2
  clear hA0 hval0
  refine (walk a0 hl0 a1 hl1 a2 hl2 W).mono fun e W' ⟨he, hb⟩ => ?_
  subst he
  exact ⟨_, rfl, law_post hW' (by kernel_rfl) rfl rfl (by
    intro t ht
    rw [Try.params10] at ht
    simp at ht
    rcases ht with rfl | rfl | rfl
    all_goals exact ⟨by kernel_rfl, of_decide_eq_true (by kernel_rfl)⟩) hb⟩
theorem over : Rows.frameAddsRow.holds Try.pinned (OpenSpec.ofChange Rows.frameAddsSpec) :=
  OpenClaim.holds_of_wide 10 Try.f10 rfl rfl rfl rfl rfl rfl rfl ⟨rfl, rfl, rfl, rfl, rfl⟩ rfl rfl rfl rfl rfl (by kernel_rfl) Try.func10 (by kernel_rfl)
    (of_decide_eq_true (by kernel_rfl)) (by unfold Func.isWrapper; first | (rw [if_pos (by decide +kernel)]; kernel_rfl) | (rw [if_neg (by decide +kernel)]; exact ⟨rfl, rfl⟩))
    (fun os started H enc _ => lifted os started H enc)
theorem proved : Rows.FrameAddsSaid := over
#print axioms proved

end Go.Proofs.Ytdphnhgogokidaa.frameAdds
