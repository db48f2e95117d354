/- Bytes with one more, or one less, are no command's: for each command that may be, and each byte. -/
import Derived.Test.YtdpllkmbnphdgaaWireU
import Derived.Test.YtdpllkmbnphdgaaWireX
namespace Go.Proofs.Ytdpllkmbnphdgaa.wireCut
open Go.ChangeShapes Go.WideShapes Go.ChangeAt Go.RowKit Go.Deep

theorem take_code (s : List UInt8) (h : (s.length : Int) ≤ 1099511627776) (hn : take s = none) (w : World) : Calls Try.prog 13 #[.string ⟨s.toArray⟩] w fun e w' => e = .returned (.tuple #[.agg #[.int .i64 0, .int .i64 0, .int .i64 0, .int .i64 0, .int .i64 0, .int .i64 0, .int .i64 0, .int .i64 0], .int .i64 2]) ∧ Below w.heap.size w w' := by
  have h2 := take_any s h w
  rw [hn] at h2
  exact h2
theorem take_near {c : Cm} (h : may c = true) : take ((putB c).take ((putB c).length - 1)) = none := by
  have hp := layAll_pos h
  have e : (putB c).take ((putB c).length - 1) = kb c.k :: (layAll c.n (specs c.k)).take ((layAll c.n (specs c.k)).length - 1) := by
    unfold putB
    rw [List.length_cons, Nat.add_sub_cancel]
    cases hl : (layAll c.n (specs c.k)).length with
    | zero => omega
    | succ m => rw [List.take_succ_cons, Nat.add_sub_cancel]
  rw [e]
  exact take_len h (by rw [List.length_take]; omega)
set_option maxRecDepth 100000 in
set_option maxHeartbeats 4000000 in
theorem walk (v : Value) (c : Cm) (hv : v = .agg c.cells) (m : Int) (hm : (Lit.int .u8 m).wf = true) (w : World) :
    Calls Try.prog 6 #[v, .int .u8 m] w fun e w' => e = .returned (.bool true) ∧ Below w.heap.size w w' := by
  subst hv
  have hb0 := (Below.refl w.heap.size w).alloc (Nat.le_refl _) (.cells c.cells 23 (0, 0))
  have HN := Lib.hid (cmAt_new w c)
  have HB := Lib.hid hb0
  have HPUT := Lib.hid (put_any c)
  clear hb0
  obtain ⟨b, hmb⟩ : ∃ b : UInt8, m = b.toNat := by
    have := bounds_u8 hm
    exact ⟨UInt8.ofNat m.toNat, by simp; omega⟩
  subst hmb
  cases hmay : may c
  · unfold putV at HPUT
    rw [hmay] at HPUT
    clear hmay
    unfold Cm.cells at HN HB HPUT ⊢
    go_enter Try.func6, Try.ntmps6
    go_wp2_with fail
    refine (awake_any _).mono ?_
    rintro e w1 ⟨rfl, hb1⟩
    have HN1 := Lib.hid (HN.out.below hb1)
    have HB1 := Lib.hid (HB.out.trans (hb1.mono HB.out.size))
    have c0 := HN1.out.kind
    have c1 := HN1.out.num (i := 1) (by omega) (by omega)
    have c2 := HN1.out.num (i := 2) (by omega) (by omega)
    have c3 := HN1.out.num (i := 3) (by omega) (by omega)
    have c4 := HN1.out.num (i := 4) (by omega) (by omega)
    have c5 := HN1.out.num (i := 5) (by omega) (by omega)
    have c6 := HN1.out.num (i := 6) (by omega) (by omega)
    have c7 := HN1.out.num (i := 7) (by omega) (by omega)
    clear hb1
    go_wp2_with (go_at_call 10; refine (HPUT.out _).mono ?_; rintro e w2 ⟨rfl, hb2⟩; replace hb2 := Lib.hid hb2)
    go_ret
    exact ⟨rfl, HB1.out.trans (hb2.out.mono HB1.out.size)⟩
  · unfold putV at HPUT
    rw [hmay] at HPUT
    have hl2 : 2 ≤ (putB c).length := by unfold putB; have := layAll_pos hmay; simp; omega
    have hl3 : (putB c).length ≤ 100 := by
      have h1 := layAll_len c.n (specs c.k) (fun p hp => (specs_pos hp).2)
      have h2 := specs_len c.k
      unfold putB
      rw [List.length_cons]
      omega
    have HN1 := Lib.hid (show take (putB c ++ [b]) = none from take_len hmay (by simp))
    have HN2 := Lib.hid (take_near hmay)
    clear hmay
    generalize putB c = P at *
    have HT1 := Lib.hid (take_code (P ++ [b]) (by rw [List.length_append]; simp; omega) HN1.out)
    have HT2 := Lib.hid (take_code (P.take (P.length - 1)) (by rw [List.length_take]; omega) HN2.out)
    have hl2i : ¬ (P.length : Int) < 2 := by omega
    have hl2j : (2 : Int) ≤ P.length := by omega
    have hl3i : (P.length : Int) ≤ 100 := by omega
    have hcat := cat_run P [b] (by simp; omega)
    have hext : (⟨P.toArray⟩ : ByteArray).extract 0 (P.length - 1) = ⟨(P.take (P.length - 1)).toArray⟩ := by rw [ByteArray.extract_mk]; simp
    generalize P ++ [b] = P1 at *
    generalize P.take (P.length - 1) = P2 at *
    have hcv : ∀ W : World, (convert 51 9 (Value.slice (some ⟨W.heap.size, 0, none⟩) 1 1)).run Try.prog (W.alloc (.cells #[.int .u8 b.toNat] 5 (0, 0))) = .ok (.string ⟨[b].toArray⟩) (W.alloc (.cells #[.int .u8 b.toNat] 5 (0, 0))) := fun W => conv1 W b
    clear hl2 hl3
    unfold Cm.cells at HN HB HPUT ⊢
    go_enter Try.func6, Try.ntmps6
    go_wp2_with fail
    refine (awake_any _).mono ?_
    rintro e w1 ⟨rfl, hb1⟩
    have HN1 := Lib.hid (HN.out.below hb1)
    have HB1 := Lib.hid (HB.out.trans (hb1.mono HB.out.size))
    have c0 := HN1.out.kind
    have c1 := HN1.out.num (i := 1) (by omega) (by omega)
    have c2 := HN1.out.num (i := 2) (by omega) (by omega)
    have c3 := HN1.out.num (i := 3) (by omega) (by omega)
    have c4 := HN1.out.num (i := 4) (by omega) (by omega)
    have c5 := HN1.out.num (i := 5) (by omega) (by omega)
    have c6 := HN1.out.num (i := 6) (by omega) (by omega)
    have c7 := HN1.out.num (i := 7) (by omega) (by omega)
    clear hb1
    go_wp2_with (go_at_call 10; refine (HPUT.out _).mono ?_; rintro e w2 ⟨rfl, hb2⟩; replace hb2 := Lib.hid hb2)
    have HB2 := Lib.hid ((HB1.out.trans (hb2.out.mono HB1.out.size)).alloc (HB1.out.trans (hb2.out.mono HB1.out.size)).size (.cells #[.int .u8 b.toNat] 5 (0, 0)))
    refine (HT1.out _).mono ?_
    rintro e w3 ⟨rfl, hb3⟩
    have HB3 := Lib.hid (HB2.out.trans (hb3.mono HB2.out.size))
    clear c0 c1 c2 c3 c4 c5 c6 c7 hcv hcat hb3 HB2 hb2
    go_wp2_with fail
    refine (HT2.out _).mono ?_
    rintro e w4 ⟨rfl, hb4⟩
    have HB4 := Lib.hid ((HB3.out.alloc HB3.out.size _).trans (hb4.mono (HB3.out.alloc HB3.out.size _).size))
    clear hb4 HB3
    go_wp2
    go_ret
    exact ⟨rfl, HB4.out.alloc HB4.out.size _⟩
set_option maxRecDepth 100000 in
theorem lifted (os : Os) (started : os.Started) (H : Type) (enc : TypeId × Value → H) :
    ReturnsInHanded {} Try.checked os 6 .any (Rows.wireCutSpec.pre6 enc Try.prog Try.f6 Rows.wireCutRow.domain false) (Rows.wireCutSpec.post enc Try.prog Try.f6 false true false false) := by
  refine returnsInHanded_of_change_sized (C := Try.checked) own_knob started (by kernel_rfl) Try.func6
    (ChangeSpec.witness6 (enc := enc) (C := Try.checked) false ⟨#[], #[.agg #[.int .i64 0, .int .i64 0, .int .i64 0, .int .i64 0, .int .i64 0, .int .i64 0, .int .i64 0, .int .i64 0], .int .u8 0], []⟩ 8 (by kernel_rfl) (by kernel_rfl) (by kernel_rfl) (by kernel_rfl)) ?_
  intro W base args ds gs before hval0 hW hcnd hsz _
  have hval : ∀ (j : Nat) t v, Try.f6.params[j]? = some t → args[j]? = some v → Value.okWide Try.prog W .any base t v := hval0
  have hww : ∀ (j : Nat) (t : TypeId) (d : DataW H), Try.f6.params.toList[j]? = some t → ds[j]? = some d → ∀ n ∈ d.weights Try.prog t, n ≤ reachBytes := fun j t d h1 h2 => weights_of hsz j h1 h2
  have hW' := hW
  obtain ⟨p, q, hA0, hV, rfl, hfz, hnd⟩ := hW
  have hA : DataW.TrodAll enc Try.prog W 0 (fun _ => true) true Try.f6.params.toList args.toList ds p := hA0
  rw [Try.params6] at hA hval hww
  obtain ⟨v0, vs0, d0, ds0, p0, q0, hargs, rfl, rfl, h0, r0⟩ := trodAll_cons hA
  obtain ⟨v1, vs1, d1, ds1, p1, q1, rfl, rfl, rfl, h1, r1⟩ := trodAll_cons r0
  obtain ⟨rfl, rfl, rfl⟩ := trodAll_nil r1
  obtain rfl : args = #[v0, v1] := by cases args; simp_all
  obtain ⟨c0, rfl, hin0⟩ := open_cmd (hval 0 23 v0 rfl rfl) h0 (hww 0 23 d0 rfl rfl)
  obtain ⟨a1, rfl, _, _, hl1⟩ := open_int Try.underlying5 (hval 1 5 v1 rfl rfl) h1
  clear hA0 hval0
  refine (walk _ c0 rfl a1 hl1 W).mono fun e W' ⟨he, hb⟩ => ?_
  subst he
  exact ⟨_, rfl, law_post hW' (by kernel_rfl) rfl rfl (by
    intro t ht
    rw [Try.params6] at ht
    simp at ht
    rcases ht with rfl | rfl
    all_goals exact ⟨by kernel_rfl, of_decide_eq_true (by kernel_rfl)⟩) hb⟩
theorem over : Rows.wireCutRow.holds Try.pinned (OpenSpec.ofChange Rows.wireCutSpec) :=
  OpenClaim.holds_of_wide 6 Try.f6 rfl rfl rfl rfl rfl rfl rfl ⟨rfl, rfl, rfl, rfl, rfl⟩ rfl rfl rfl rfl rfl (by kernel_rfl) Try.func6 (by kernel_rfl)
    (of_decide_eq_true (by kernel_rfl)) (by unfold Func.isWrapper; first | (rw [if_pos (by decide +kernel)]; kernel_rfl) | (rw [if_neg (by decide +kernel)]; exact ⟨rfl, rfl⟩))
    (fun os started H enc _ => lifted os started H enc)
theorem proved : Rows.WireCutSaid := over
#print axioms proved
end Go.Proofs.Ytdpllkmbnphdgaa.wireCut
