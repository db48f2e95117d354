/- FrameTells: for every text the law returns true, and the text reads afterwards as it read before. No condition. -/
import Derived.Test.YtdphnhgogokidaaFrameW
import Derived.Test.YtdphnhgogokidaaFrameS
import Derived.Test.YtdphnhgogokidaaRow
namespace Go.Proofs.Ytdphnhgogokidaa.frameTells
open Go.ChangeShapes Go.WideShapes Go.ChangeAt Go.RowKit
open Go.ChangeMaps (open_string shut_string)

set_option maxRecDepth 100000 in
set_option maxHeartbeats 2000000 in
theorem walk (s : ByteArray) (hs : s.size ≤ maxLen) (w : World) :
    Calls Try.prog 6 #[.string s] w fun e w' => e = .returned (.bool true) ∧ Below w.heap.size w w' := by
  unfold maxLen at hs
  by_cases h : (4000 : Int) < s.size
  · go_enter Try.func6, Try.ntmps6
    go_wp2_with (go_at_call 28; refine (awake_any _).mono ?_; rintro e w1 ⟨rfl, hb1⟩)
    go_ret
    exact ⟨rfl, hb1⟩
  · have h65 : s.size ≤ 65536 := by omega
    have hbig : s.size ≤ 1099511627776 := by omega
    have H65 := Lib.hid h65
    have HBIG := Lib.hid hbig
    clear h65 hbig
    go_enter Try.func6, Try.ntmps6
    go_wp2_with fail
    refine (awake_any _).mono ?_
    rintro e w1 ⟨rfl, hb1⟩
    go_wp2_with fail
    refine (put_ok s H65.out _).mono ?_
    rintro e w2 ⟨rfl, hb2⟩
    have hc2 := hb1.trans (hb2.mono hb1.size)
    clear hb1 hb2
    go_wp2_with fail
    refine (rput_ok s H65.out _).mono ?_
    rintro e w3 ⟨rfl, hb3⟩
    have hc3 := hc2.trans (hb3.mono hc2.size)
    clear hc2 hb3
    go_wp2_with fail
    refine (scan_any s HBIG.out _).mono ?_
    rintro e w4 ⟨v, rfl, ho, hb4⟩
    have hv := slStr_owns ho
    have hc4 := hc3.trans (hb4.mono hc3.size)
    clear hc3 hb4 ho
    go_wp2_with fail
    refine (rscan_any s HBIG.out _).mono ?_
    rintro e w5 ⟨v2, rfl, ho2, hb5⟩
    have hv2 := slStr_below hv hb5
    have hv3 := slStr_owns ho2
    have hc5 := hc4.trans (hb5.mono hc4.size)
    clear hc4 hb5 ho2 hv
    go_wp2_with fail
    refine (check_any s (by omega) _).mono ?_
    rintro e w6 ⟨rfl, hb6⟩
    have hv4 := slStr_below hv2 hb6
    have hv5 := slStr_below hv3 hb6
    have hc6 := hc5.trans (hb6.mono hc5.size)
    clear hc5 hb6 hv2 hv3
    go_wp2_with fail
    refine (rcheck_any s (by omega) _).mono ?_
    rintro e w7 ⟨rfl, rfl⟩
    have HV4 := Lib.hid hv4
    have HV5 := Lib.hid hv5
    clear hv4 hv5
    go_wp2_with fail
    refine (same_any _ _ _ _ _ HV4.out HV5.out ?_).mono ?_
    · have := scan_len s.data.toList
      simp at this; omega
    rintro e w8 ⟨rfl, n, rfl⟩
    go_wp2
    go_ret
    exact ⟨by simp, below_drewN hc6 n⟩

set_option maxRecDepth 100000 in
theorem lifted (os : Os) (started : os.Started) (H : Type) (enc : TypeId × Value → H) :
    ReturnsInHanded {} Try.checked os 6 .any (Rows.frameTellsSpec.pre6 enc Try.prog Try.f6 Rows.frameTellsRow.domain false) (Rows.frameTellsSpec.post enc Try.prog Try.f6 false true false false) := by
  refine returnsInHanded_of_change (C := Try.checked) own_knob started (by kernel_rfl) Try.func6
    (ChangeSpec.witness6 (enc := enc) (C := Try.checked) false ⟨#[], #[.string ByteArray.empty], []⟩ 8 (by kernel_rfl) (by kernel_rfl) (by kernel_rfl) (by kernel_rfl)) ?_
  intro W base args ds gs before hval0 hW hcnd _
  have hval : ∀ (j : Nat) t v, Try.f6.params[j]? = some t → args[j]? = some v → Value.okWide Try.prog W .any base t v := hval0
  have hW' := hW
  obtain ⟨p, q, hA0, hV, rfl, hfz, hnd⟩ := hW
  have hA : DataW.TrodAll enc Try.prog W 0 (fun _ => true) true Try.f6.params.toList args.toList ds p := hA0
  rw [Try.params6] at hA hval
  obtain ⟨v0, vs0, d0, ds0, p0, q0, hargs, rfl, rfl, h0, r0⟩ := trodAll_cons hA
  obtain ⟨rfl, rfl, rfl⟩ := trodAll_nil r0
  obtain rfl : args = #[v0] := by cases args; simp_all
  obtain ⟨a0, rfl, _, _, w0⟩ := open_string Try.underlying9 (hval 0 9 v0 rfl rfl) h0
  clear hA0 hval0
  refine (walk a0 w0 W).mono fun e W' ⟨he, hb⟩ => ?_
  subst he
  exact ⟨_, rfl, law_post hW' (by kernel_rfl) rfl rfl (by intro t ht; rw [Try.params6] at ht; simp at ht; subst ht; exact ⟨by kernel_rfl, of_decide_eq_true (by kernel_rfl)⟩) hb⟩

theorem over : Rows.frameTellsRow.holds Try.pinned (OpenSpec.ofChange Rows.frameTellsSpec) :=
  OpenClaim.holds_of_wide 6 Try.f6 rfl rfl rfl rfl rfl rfl rfl ⟨rfl, rfl, rfl, rfl, rfl⟩ rfl rfl rfl rfl rfl (by kernel_rfl) Try.func6 (by kernel_rfl)
    (of_decide_eq_true (by kernel_rfl)) (by unfold Func.isWrapper; first | (rw [if_pos (by decide +kernel)]; kernel_rfl) | (rw [if_neg (by decide +kernel)]; exact ⟨rfl, rfl⟩))
    (fun os started H enc _ => lifted os started H enc)
theorem proved : Rows.FrameTellsSaid := over
#print axioms proved
end Go.Proofs.Ytdphnhgogokidaa.frameTells
