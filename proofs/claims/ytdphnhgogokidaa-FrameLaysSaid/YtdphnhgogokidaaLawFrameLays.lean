/- FrameLays: for every list of texts and every text behind, the law returns true, and both read afterwards as they read before. No condition. -/
import Derived.Test.YtdphnhgogokidaaFrameW
import Derived.Test.YtdphnhgogokidaaFrameQ
import Derived.Test.YtdphnhgogokidaaOpen
namespace Go.Proofs.Ytdphnhgogokidaa.frameLays
open Go.ChangeShapes Go.WideShapes Go.ChangeAt Go.RowKit
open Go.ChangeMaps (open_string shut_string)

set_option maxRecDepth 100000 in
set_option maxHeartbeats 2000000 in
theorem core (v : Value) (A : List (List UInt8)) (s : ByteArray) (w : World) (ha : SlStr w v A) (hn : A.length ≤ 8796093022208) (hx : ∀ x ∈ A, x.length ≤ 140737488355328) (hs : s.size ≤ 140737488355328) :
    Calls Try.prog 7 #[v, .string s] w fun e w' => e = .returned (.bool true) ∧ Below w.heap.size w w' := by
  have hz := sz_le 140737488355328 A hx 0 (by omega)
  have hsm := fun h => sz_small A 0 4000 h (by omega)
  have hsize := fun w1 h => size_any v A w1 h (by omega) hx
  generalize hZ : sz A 0 = Z at *
  have HSM := Lib.hid hsm
  have HSIZE := Lib.hid hsize
  clear hsm hsize hZ hx
  by_cases hlt : (4000 : Int) < (Z : Int) + (s.size : Int)
  · go_enter Try.func7, Try.ntmps7
    go_wp2_with fail
    refine (awake_any _).mono ?_
    rintro e w1 ⟨rfl, hb1⟩
    have ha1 := slStr_below ha hb1
    have HA1 := Lib.hid ha1
    clear ha ha1
    go_wp2_with fail
    refine (HSIZE.out _ HA1.out).mono ?_
    rintro e w2 ⟨rfl, rfl⟩
    go_wp2
    go_ret
    exact ⟨rfl, hb1⟩
  · have hz4 : Z ≤ 4000 := by omega
    obtain ⟨g1, g2, g3⟩ := HSM.out hz4
    have hx2 : ∀ x ∈ A, x.length ≤ 65536 := fun x hx => by have := g2 x hx; omega
    have hF : (framesOf A).length ≤ 36000 := by omega
    have hall := fun w1 h => all_any v A w1 h (by omega) hx2 (by omega)
    have hrall := fun w1 h => rall_any v A w1 h (by omega) hx2 (by omega)
    have eapp : (⟨(framesOf A).toArray⟩ : ByteArray) ++ s = ⟨(framesOf A ++ s.data.toList).toArray⟩ := by
      apply ByteArray.ext
      simp
    have hsc := fun w1 => scan_any ⟨(framesOf A ++ s.data.toList).toArray⟩ (by rw [ByteArray.size]; simp; omega) w1
    have hrsc := fun w1 => rscan_any ⟨(framesOf A ++ s.data.toList).toArray⟩ (by rw [ByteArray.size]; simp; omega) w1
    have hlen := scan_len (framesOf A ++ s.data.toList)
    have hl2 : (framesOf A ++ s.data.toList).length ≤ 100000 := by
      have e : s.data.toList.length = s.size := by simp
      rw [List.length_append, e]; omega
    simp only [] at hsc hrsc
    generalize scan (framesOf A ++ s.data.toList) = R at *
    generalize framesOf A = FR at *
    have HALL := Lib.hid hall
    have HRALL := Lib.hid hrall
    have EAPP := Lib.hid eapp
    have HSC := Lib.hid hsc
    have HRSC := Lib.hid hrsc
    clear hx2 hall hrall eapp hsc hrsc g1 g2 g3 HSM
    go_enter Try.func7, Try.ntmps7
    go_wp2_with fail
    refine (awake_any _).mono ?_
    rintro e w1 ⟨rfl, hb1⟩
    have ha1 := slStr_below ha hb1
    have HA1 := Lib.hid ha1
    clear ha ha1
    go_wp2_with fail
    refine (HSIZE.out _ HA1.out).mono ?_
    rintro e w2 ⟨rfl, rfl⟩
    clear HSIZE
    go_wp2_with fail
    refine (HALL.out _ HA1.out).mono ?_
    rintro e w2 ⟨rfl, hb2⟩
    have HA2 := Lib.hid (slStr_below HA1.out hb2)
    have hc2 := hb1.trans (hb2.mono hb1.size)
    clear hb1 hb2 HALL HA1
    go_wp2_with fail
    refine (HRALL.out _ HA2.out).mono ?_
    rintro e w3 ⟨rfl, hb3⟩
    have hc3 := hc2.trans (hb3.mono hc2.size)
    clear hc2 hb3 HRALL HA2
    go_wp2_with fail
    rw [EAPP.out]
    refine (HSC.out _).mono ?_
    rintro e w4 ⟨v4, rfl, ho, hb4⟩
    have HV := Lib.hid (slStr_owns ho)
    have hc4 := hc3.trans (hb4.mono hc3.size)
    clear hc3 hb4 ho HSC
    go_wp2_with fail
    rw [EAPP.out]
    refine (HRSC.out _).mono ?_
    rintro e w5 ⟨v5, rfl, ho2, hb5⟩
    have HV2 := Lib.hid (slStr_below HV.out hb5)
    have HV3 := Lib.hid (slStr_owns ho2)
    have hc5 := hc4.trans (hb5.mono hc4.size)
    clear hc4 hb5 ho2 HRSC HV
    go_wp2_with fail
    refine (same_any _ _ _ _ _ HV2.out HV3.out (by omega)).mono ?_
    rintro e w8 ⟨rfl, n, rfl⟩
    go_wp2
    go_ret
    exact ⟨by simp, below_drewN hc5 n⟩

theorem walk (v : Value) (A : List (List UInt8)) {w0 : World} (ha : SlStr w0 v A) (hn : A.length * 16 ≤ reachBytes) (hx : ∀ x ∈ A, x.length ≤ reachBytes) (s : ByteArray) (hs : s.size ≤ reachBytes) (w : World) (hw : w0 = w) :
    Calls Try.prog 7 #[v, .string s] w fun e w' => e = .returned (.bool true) ∧ Below w.heap.size w w' := by
  subst hw
  have hr : reachBytes = 140737488351232 := rfl
  rw [hr] at hn hs hx
  exact core v A s _ ha (by omega) (fun x h => by have := hx x h; omega) (by omega)
set_option maxRecDepth 100000 in
theorem lifted (os : Os) (started : os.Started) (H : Type) (enc : TypeId × Value → H) :
    ReturnsInHanded {} Try.checked os 7 .any (Rows.frameLaysSpec.pre6 enc Try.prog Try.f7 Rows.frameLaysRow.domain false) (Rows.frameLaysSpec.post enc Try.prog Try.f7 false true false false) := by
  refine returnsInHanded_of_change_sized (C := Try.checked) own_knob started (by kernel_rfl) Try.func7
    (ChangeSpec.witness6 (enc := enc) (C := Try.checked) false ⟨#[], #[.slice none 0 0, .string ByteArray.empty], []⟩ 8 (by kernel_rfl) (by kernel_rfl) (by kernel_rfl) (by kernel_rfl)) ?_
  intro W base args ds gs before hval0 hW hcnd hsz _
  have hval : ∀ (j : Nat) t v, Try.f7.params[j]? = some t → args[j]? = some v → Value.okWide Try.prog W .any base t v := hval0
  have hww : ∀ (j : Nat) (t : TypeId) (d : DataW H), Try.f7.params.toList[j]? = some t → ds[j]? = some d → ∀ n ∈ d.weights Try.prog t, n ≤ reachBytes := fun j t d h1 h2 => weights_of hsz j h1 h2
  have hW' := hW
  obtain ⟨p, q, hA0, hV, rfl, hfz, hnd⟩ := hW
  have hA : DataW.TrodAll enc Try.prog W 0 (fun _ => true) true Try.f7.params.toList args.toList ds p := hA0
  rw [Try.params7] at hA hval hww
  obtain ⟨v0, vs0, d0, ds0, p0, q0, hargs, rfl, rfl, h0, r0⟩ := trodAll_cons hA
  obtain ⟨v1, vs1, d1, ds1, p1, q1, rfl, rfl, rfl, h1, r1⟩ := trodAll_cons r0
  obtain ⟨rfl, rfl, rfl⟩ := trodAll_nil r1
  obtain rfl : args = #[v0, v1] := by cases args; simp_all
  obtain ⟨a0, hs0, hn0, hx0⟩ := open_texts (hval 0 50 v0 rfl rfl) h0 (hww 0 50 d0 rfl rfl)
  have hr1 := hww 1 9 d1 rfl rfl
  obtain ⟨a1, rfl, hd1, _, _⟩ := open_string Try.underlying9 (hval 1 9 v1 rfl rfl) h1
  have hl1 : a1.size ≤ reachBytes := string_reach hd1 hr1
  clear hA0 hval0
  refine (walk v0 a0 hs0 hn0 hx0 a1 hl1 W rfl).mono fun e W' ⟨he, hb⟩ => ?_
  subst he
  exact ⟨_, rfl, law_post hW' (by kernel_rfl) rfl rfl (by
    intro t ht
    rw [Try.params7] at ht
    simp at ht
    rcases ht with rfl | rfl
    all_goals exact ⟨by kernel_rfl, of_decide_eq_true (by kernel_rfl)⟩) hb⟩
theorem over : Rows.frameLaysRow.holds Try.pinned (OpenSpec.ofChange Rows.frameLaysSpec) :=
  OpenClaim.holds_of_wide 7 Try.f7 rfl rfl rfl rfl rfl rfl rfl ⟨rfl, rfl, rfl, rfl, rfl⟩ rfl rfl rfl rfl rfl (by kernel_rfl) Try.func7 (by kernel_rfl)
    (of_decide_eq_true (by kernel_rfl)) (by unfold Func.isWrapper; first | (rw [if_pos (by decide +kernel)]; kernel_rfl) | (rw [if_neg (by decide +kernel)]; exact ⟨rfl, rfl⟩))
    (fun os started H enc _ => lifted os started H enc)
theorem proved : Rows.FrameLaysSaid := over
#print axioms proved

end Go.Proofs.Ytdphnhgogokidaa.frameLays
