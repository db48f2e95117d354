/- FrameTurned: for every list of texts, every place and every turn of a byte the law returns true, and the arguments read afterwards as they read before. No condition. -/
import Derived.Test.YtdphnhgogokidaaFrameTurnedW
import Derived.Test.YtdphnhgogokidaaOpen
namespace Go.Proofs.Ytdphnhgogokidaa.frameTurned
open Go.ChangeShapes Go.WideShapes Go.ChangeAt Go.RowKit
open Go.ChangeMaps (open_string shut_string)

theorem walk (v : Value) (A : List (List UInt8)) {w0 : World} (ha : SlStr w0 v A) (hc : ∃ a n c, v = .slice a n c ∧ n ≤ c) (hn : A.length * 16 ≤ reachBytes) (hx : ∀ x ∈ A, x.length ≤ reachBytes) (u : Int) (hu : (Lit.int .u16 u).wf = true) (y : Int) (hy : (Lit.int .u8 y).wf = true) (w : World) (hw : w0 = w) :
    Calls Try.prog 9 #[v, .int .u16 u, .int .u8 y] w fun e w' => e = .returned (.bool true) ∧ Below w.heap.size w w' := by
  subst hw
  obtain ⟨a, n, c, rfl, hnc⟩ := hc
  have hr : reachBytes = 140737488351232 := rfl
  rw [hr] at hn hx
  have hb : 0 ≤ u ∧ u ≤ 65535 := by simpa [Lit.wf, IntKind.min, IntKind.max, IntKind.signed, IntKind.bits] using hu
  have hby : 0 ≤ y ∧ y ≤ 255 := by simpa [Lit.wf, IntKind.min, IntKind.max, IntKind.signed, IntKind.bits] using hy
  obtain ⟨m, rfl⟩ : ∃ m : Nat, u = m := ⟨u.toNat, by omega⟩
  obtain ⟨y, rfl⟩ : ∃ m : Nat, y = m := ⟨y.toNat, by omega⟩
  exact core a n c A m y _ ha hnc (by omega) (fun x h => by have := hx x h; omega) (by omega) (by omega)
set_option maxRecDepth 100000 in
theorem lifted (os : Os) (started : os.Started) (H : Type) (enc : TypeId × Value → H) :
    ReturnsInHanded {} Try.checked os 9 .any (Rows.frameTurnedSpec.pre6 enc Try.prog Try.f9 Rows.frameTurnedRow.domain false) (Rows.frameTurnedSpec.post enc Try.prog Try.f9 false true false false) := by
  refine returnsInHanded_of_change_sized (C := Try.checked) own_knob started (by kernel_rfl) Try.func9
    (ChangeSpec.witness6 (enc := enc) (C := Try.checked) false ⟨#[], #[.slice none 0 0, .int .u16 0, .int .u8 0], []⟩ 8 (by kernel_rfl) (by kernel_rfl) (by kernel_rfl) (by kernel_rfl)) ?_
  intro W base args ds gs before hval0 hW hcnd hsz _
  have hval : ∀ (j : Nat) t v, Try.f9.params[j]? = some t → args[j]? = some v → Value.okWide Try.prog W .any base t v := hval0
  have hww : ∀ (j : Nat) (t : TypeId) (d : DataW H), Try.f9.params.toList[j]? = some t → ds[j]? = some d → ∀ n ∈ d.weights Try.prog t, n ≤ reachBytes := fun j t d h1 h2 => weights_of hsz j h1 h2
  have hW' := hW
  obtain ⟨p, q, hA0, hV, rfl, hfz, hnd⟩ := hW
  have hA : DataW.TrodAll enc Try.prog W 0 (fun _ => true) true Try.f9.params.toList args.toList ds p := hA0
  rw [Try.params9] at hA hval hww
  obtain ⟨v0, vs0, d0, ds0, p0, q0, hargs, rfl, rfl, h0, r0⟩ := trodAll_cons hA
  obtain ⟨v1, vs1, d1, ds1, p1, q1, rfl, rfl, rfl, h1, r1⟩ := trodAll_cons r0
  obtain ⟨v2, vs2, d2, ds2, p2, q2, rfl, rfl, rfl, h2, r2⟩ := trodAll_cons r1
  obtain ⟨rfl, rfl, rfl⟩ := trodAll_nil r2
  obtain rfl : args = #[v0, v1, v2] := by cases args; simp_all
  have hc0 := cap_texts (hval 0 50 v0 rfl rfl) h0
  obtain ⟨a0, hs0, hn0, hx0⟩ := open_texts (hval 0 50 v0 rfl rfl) h0 (hww 0 50 d0 rfl rfl)
  obtain ⟨a1, rfl, _, _, hl1⟩ := open_int Try.underlying60 (hval 1 60 v1 rfl rfl) h1
  obtain ⟨a2, rfl, _, _, hl2⟩ := open_int Try.underlying5 (hval 2 5 v2 rfl rfl) h2
  clear hA0 hval0
  refine (walk v0 a0 hs0 hc0 hn0 hx0 a1 hl1 a2 hl2 W rfl).mono fun e W' ⟨he, hb⟩ => ?_
  subst he
  exact ⟨_, rfl, law_post hW' (by kernel_rfl) rfl rfl (by
    intro t ht
    rw [Try.params9] at ht
    simp at ht
    rcases ht with rfl | rfl | rfl
    all_goals exact ⟨by kernel_rfl, of_decide_eq_true (by kernel_rfl)⟩) hb⟩
theorem over : Rows.frameTurnedRow.holds Try.pinned (OpenSpec.ofChange Rows.frameTurnedSpec) :=
  OpenClaim.holds_of_wide 9 Try.f9 rfl rfl rfl rfl rfl rfl rfl ⟨rfl, rfl, rfl, rfl, rfl⟩ rfl rfl rfl rfl rfl (by kernel_rfl) Try.func9 (by kernel_rfl)
    (of_decide_eq_true (by kernel_rfl)) (by unfold Func.isWrapper; first | (rw [if_pos (by decide +kernel)]; kernel_rfl) | (rw [if_neg (by decide +kernel)]; exact ⟨rfl, rfl⟩))
    (fun os started H enc _ => lifted os started H enc)
theorem proved : Rows.FrameTurnedSaid := over
#print axioms proved

end Go.Proofs.Ytdphnhgogokidaa.frameTurned
