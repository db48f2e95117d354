/- FrameBack: for every list of texts and every number of bytes the law returns true, and the arguments read afterwards as they read before. No condition. -/
import Derived.Test.YtdphnhgogokidaaFrameBackW
import Derived.Test.YtdphnhgogokidaaOpen
namespace Go.Proofs.Ytdphnhgogokidaa.frameBack
open Go.ChangeShapes Go.WideShapes Go.ChangeAt Go.RowKit
open Go.ChangeMaps (open_string shut_string)

theorem walk (v : Value) (A : List (List UInt8)) {w0 : World} (ha : SlStr w0 v A) (hc : ∃ a n c, v = .slice a n c ∧ n ≤ c) (hn : A.length * 16 ≤ reachBytes) (hx : ∀ x ∈ A, x.length ≤ reachBytes) (u : Int) (hu : (Lit.int .u16 u).wf = true) (w : World) (hw : w0 = w) :
    Calls Try.prog 8 #[v, .int .u16 u] w fun e w' => e = .returned (.bool true) ∧ Below w.heap.size w w' := by
  subst hw
  obtain ⟨a, n, c, rfl, hnc⟩ := hc
  have hr : reachBytes = 140737488351232 := rfl
  rw [hr] at hn hx
  have hb : 0 ≤ u ∧ u ≤ 65535 := by simpa [Lit.wf, IntKind.min, IntKind.max, IntKind.signed, IntKind.bits] using hu
  obtain ⟨m, rfl⟩ : ∃ m : Nat, u = m := ⟨u.toNat, by omega⟩
  exact core a n c A m _ ha hnc (by omega) (fun x h => by have := hx x h; omega) (by omega)
set_option maxRecDepth 100000 in
theorem lifted (os : Os) (started : os.Started) (H : Type) (enc : TypeId × Value → H) :
    ReturnsInHanded {} Try.checked os 8 .any (Rows.frameBackSpec.pre6 enc Try.prog Try.f8 Rows.frameBackRow.domain false) (Rows.frameBackSpec.post enc Try.prog Try.f8 false true false false) := by
  refine returnsInHanded_of_change_sized (C := Try.checked) own_knob started (by kernel_rfl) Try.func8
    (ChangeSpec.witness6 (enc := enc) (C := Try.checked) false ⟨#[], #[.slice none 0 0, .int .u16 0], []⟩ 8 (by kernel_rfl) (by kernel_rfl) (by kernel_rfl) (by kernel_rfl)) ?_
  intro W base args ds gs before hval0 hW hcnd hsz _
  have hval : ∀ (j : Nat) t v, Try.f8.params[j]? = some t → args[j]? = some v → Value.okWide Try.prog W .any base t v := hval0
  have hww : ∀ (j : Nat) (t : TypeId) (d : DataW H), Try.f8.params.toList[j]? = some t → ds[j]? = some d → ∀ n ∈ d.weights Try.prog t, n ≤ reachBytes := fun j t d h1 h2 => weights_of hsz j h1 h2
  have hW' := hW
  obtain ⟨p, q, hA0, hV, rfl, hfz, hnd⟩ := hW
  have hA : DataW.TrodAll enc Try.prog W 0 (fun _ => true) true Try.f8.params.toList args.toList ds p := hA0
  rw [Try.params8] at hA hval hww
  obtain ⟨v0, vs0, d0, ds0, p0, q0, hargs, rfl, rfl, h0, r0⟩ := trodAll_cons hA
  obtain ⟨v1, vs1, d1, ds1, p1, q1, rfl, rfl, rfl, h1, r1⟩ := trodAll_cons r0
  obtain ⟨rfl, rfl, rfl⟩ := trodAll_nil r1
  obtain rfl : args = #[v0, v1] := by cases args; simp_all
  have hc0 := cap_texts (hval 0 50 v0 rfl rfl) h0
  obtain ⟨a0, hs0, hn0, hx0⟩ := open_texts (hval 0 50 v0 rfl rfl) h0 (hww 0 50 d0 rfl rfl)
  obtain ⟨a1, rfl, _, _, hl1⟩ := open_int Try.underlying60 (hval 1 60 v1 rfl rfl) h1
  clear hA0 hval0
  refine (walk v0 a0 hs0 hc0 hn0 hx0 a1 hl1 W rfl).mono fun e W' ⟨he, hb⟩ => ?_
  subst he
  exact ⟨_, rfl, law_post hW' (by kernel_rfl) rfl rfl (by
    intro t ht
    rw [Try.params8] at ht
    simp at ht
    rcases ht with rfl | rfl
    all_goals exact ⟨by kernel_rfl, of_decide_eq_true (by kernel_rfl)⟩) hb⟩
theorem over : Rows.frameBackRow.holds Try.pinned (OpenSpec.ofChange Rows.frameBackSpec) :=
  OpenClaim.holds_of_wide 8 Try.f8 rfl rfl rfl rfl rfl rfl rfl ⟨rfl, rfl, rfl, rfl, rfl⟩ rfl rfl rfl rfl rfl (by kernel_rfl) Try.func8 (by kernel_rfl)
    (of_decide_eq_true (by kernel_rfl)) (by unfold Func.isWrapper; first | (rw [if_pos (by decide +kernel)]; kernel_rfl) | (rw [if_neg (by decide +kernel)]; exact ⟨rfl, rfl⟩))
    (fun os started H enc _ => lifted os started H enc)
theorem proved : Rows.FrameBackSaid := over
#print axioms proved

end Go.Proofs.Ytdphnhgogokidaa.frameBack
