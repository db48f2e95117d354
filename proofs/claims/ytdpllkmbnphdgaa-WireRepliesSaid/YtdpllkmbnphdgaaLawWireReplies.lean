/- The bytes of any reply, and the reply of any bytes, or that there is none, are as the document says. -/
import Derived.Test.YtdpllkmbnphdgaaWireU
import Derived.Test.YtdpllkmbnphdgaaWireY
namespace Go.Proofs.Ytdpllkmbnphdgaa.wireReplies
open Go.ChangeShapes Go.WideShapes Go.ChangeAt Go.RowKit Go.Deep
open Go.ChangeMaps (open_string shut_string)

theorem string_reach {H : Type} {P : Program} {t : TypeId} {s : ByteArray} {R : Nat} {d : DataW H} (hd : d = .lit (.string s.data.toList)) (h : ∀ n ∈ d.weights P t, n ≤ R) : s.size ≤ R := by
  subst hd
  have := h s.data.toList.length (by simp [DataW.weights])
  simpa using this
set_option maxRecDepth 100000 in
set_option maxHeartbeats 4000000 in
theorem walk (r : Rp) (sl : Value) (s : ByteArray) (hs : s.size ≤ reachBytes) (w : World) (hsl : SlInt w sl r.ids) :
    Calls Try.prog 4 #[.agg #[.int .i64 r.e, .int .i64 r.v, sl], .string s] w fun e w' => e = .returned (.bool true) ∧ Below w.heap.size w w' := by
  obtain ⟨s, rfl⟩ : ∃ l : List UInt8, s = ⟨l.toArray⟩ := ⟨s.data.toList, by simp⟩
  have hs2 : (s.length : Int) ≤ 281474976710656 := by
    have h1 : reachBytes ≤ 281474976710656 := by decide +kernel
    have h2 : (⟨s.toArray⟩ : ByteArray).size = s.length := by rw [ByteArray.size]; simp
    omega
  clear hs
  obtain ⟨e, v, ids⟩ := r
  dsimp only at hsl ⊢
  obtain ⟨ao, ca, rfl, hcells⟩ := hsl
  have HSL := Lib.hid (show SlInt w (.slice ao ids.length ca) ids from ⟨ao, ca, rfl, hcells⟩)
  have hb0 := (Below.refl w.heap.size w).alloc (Nat.le_refl _) (.cells #[.int .i64 e, .int .i64 v, .slice ao ids.length ca] 40 (0, 0))
  have HN := Lib.hid (rpAt_new 40 w e v (.slice ao ids.length ca))
  have HB := Lib.hid hb0
  clear hb0 hcells
  go_enter Try.func4, Try.ntmps4
  go_wp2_with fail
  refine (awake_any _).mono ?_
  rintro q w1 ⟨rfl, hb1⟩
  have HN1 := Lib.hid (HN.out.below hb1)
  have HB1 := Lib.hid (HB.out.trans (hb1.mono HB.out.size))
  have x0 := HN1.out.c0
  have x1 := HN1.out.c1
  have x2 := HN1.out.c2
  clear hb1 HN HB
  by_cases h1 : (300 : Int) < ids.length
  · go_wp2
    go_ret
    exact ⟨rfl, HB1.out⟩
  by_cases h2 : (2000 : Int) < s.length
  · go_wp2
    go_ret
    exact ⟨rfl, HB1.out⟩
  have hli : (ids.length : Int) ≤ 65535 := by omega
  have hsi : (s.length : Int) ≤ 1099511627776 := by omega
  have HSL1 := Lib.hid (slInt_below HSL.out (show Below w.heap.size w w1 from HB1.out))
  have HP := Lib.hid (fun wx h => putr_any e v ids (.slice ao ids.length ca) wx h (by omega))
  have HQ := Lib.hid (fun wx h => rputr_any e v ids (.slice ao ids.length ca) wx h hli)
  have HT := Lib.hid (taker_any s hsi)
  have HU := Lib.hid (rtaker_any s hsi)
  rw [putrV_pair] at HP HQ
  have hids : (rpOf (takeR s)).ids.length ≤ 9223372036854775807 := by
    have hm := many_lt s
    unfold takeR
    split
    · show (0 : Nat) ≤ _; omega
    · split
      · show (0 : Nat) ≤ _; omega
      · split
        · show (idsOf s (many s)).length ≤ _; rw [idsOf_len]; omega
        · show (0 : Nat) ≤ _; omega
  have HID := Lib.hid hids
  clear hsi hids hs2
  generalize rpOf (takeR s) = rr at *
  generalize rpCode (takeR s) = rc at *
  generalize rbOf e v ids = rb at *
  generalize rcOf e ids = rk at *
  obtain ⟨re, rv, rids⟩ := rr
  dsimp only at HT HU HID
  go_upto_region 5 with (fail)
  go_wp2_with fail
  refine (HP.out _ HSL1.out).mono ?_
  rintro q w2 ⟨rfl, hb2⟩
  have HN2 := Lib.hid (HN1.out.below hb2)
  have HSL2 := Lib.hid (slInt_below HSL1.out hb2)
  have HB2 := Lib.hid (HB1.out.trans (hb2.mono HB1.out.size))
  have x0 := HN2.out.c0
  have x1 := HN2.out.c1
  have x2 := HN2.out.c2
  clear hb2 HN1 HSL1 HB1 HSL HP
  go_wp2_with fail
  refine (HQ.out _ HSL2.out).mono ?_
  rintro q w3 ⟨rfl, hb3⟩
  have HB3 := Lib.hid (HB2.out.trans (hb3.mono HB2.out.size))
  clear hb3 HN2 HSL2 HB2 HQ x0 x1 x2
  go_wp2_with fail
  refine (HT.out _).mono ?_
  rintro q w4 ⟨sa, rfl, ⟨aa, caa, rfl, hca⟩, hb4⟩
  have HB4 := Lib.hid (HB3.out.trans (hb4.mono HB3.out.size))
  have HSA := Lib.hid (show SlInt w4 (.slice aa rids.length caa) rids from ⟨aa, caa, rfl, hca⟩)
  clear hb4 hca HB3 HT
  go_wp2_with fail
  have hba := (Below.refl w4.heap.size w4).alloc (Nat.le_refl _) (.cells #[.int .i64 re, .int .i64 rv, .slice aa rids.length caa] 40 (0, 0))
  have HR5 := Lib.hid (rpAt_new 40 w4 re rv (.slice aa rids.length caa))
  have HSA5 := Lib.hid (slInt_below HSA.out hba)
  have HB5 := Lib.hid (HB4.out.trans (hba.mono HB4.out.size))
  clear hba HSA HB4
  generalize w4.alloc (.cells #[.int .i64 re, .int .i64 rv, .slice aa rids.length caa] 40 (0, 0)) = w5 at *
  generalize w4.heap.size = za at *
  refine (HU.out _).mono ?_
  rintro q w6 ⟨sb, rfl, ⟨ab, cab, rfl, hcb⟩, hb6⟩
  have hba := (Below.refl w6.heap.size w6).alloc (Nat.le_refl _) (.cells #[.int .i64 re, .int .i64 rv, .slice ab rids.length cab] 43 (0, 0))
  have HR7 := Lib.hid (rpAt_new 43 w6 re rv (.slice ab rids.length cab))
  have HQ7 := Lib.hid ((HR5.out.below hb6).below hba)
  have HSA7 := Lib.hid (slInt_below (slInt_below HSA5.out hb6) hba)
  have HSB7 := Lib.hid (slInt_below (show SlInt w6 (.slice ab rids.length cab) rids from ⟨ab, cab, rfl, hcb⟩) hba)
  have HB7 := Lib.hid ((HB5.out.trans (hb6.mono HB5.out.size)).trans (hba.mono (HB5.out.trans (hb6.mono HB5.out.size)).size))
  clear hba hcb HSA5 HB5 HR5 hb6 HU
  go_upto_region 9 with (fail)
  generalize w6.alloc (.cells #[.int .i64 re, .int .i64 rv, .slice ab rids.length cab] 43 (0, 0)) = w7 at *
  generalize w6.heap.size = zb at *
  have y0 := HQ7.out.c0
  have y1 := HQ7.out.c1
  have y2 := HQ7.out.c2
  have z0 := HR7.out.c0
  have z1 := HR7.out.c1
  have z2 := HR7.out.c2
  go_wp2_with (go_at_call 21; refine (ints_any _ _ rids rids _ HSA7.out HSB7.out HID.out).mono ?_; rintro q w8 ⟨rfl, nq, rfl⟩)
  all_goals
    go_ret
    exact ⟨by simp, drewN_below' HB7.out nq⟩
set_option maxRecDepth 100000 in
theorem lifted (os : Os) (started : os.Started) (H : Type) (enc : TypeId × Value → H) :
    ReturnsInHanded {} Try.checked os 4 .any (Rows.wireRepliesSpec.pre6 enc Try.prog Try.f4 Rows.wireRepliesRow.domain false) (Rows.wireRepliesSpec.post enc Try.prog Try.f4 false true false false) := by
  refine returnsInHanded_of_change_sized (C := Try.checked) own_knob started (by kernel_rfl) Try.func4
    (ChangeSpec.witness6 (enc := enc) (C := Try.checked) false ⟨#[], #[.agg #[.int .i64 0, .int .i64 0, .slice none 0 0], .string ByteArray.empty], []⟩ 8 (by kernel_rfl) (by kernel_rfl) (by kernel_rfl) (by kernel_rfl)) ?_
  intro W base args ds gs before hval0 hW hcnd hsz _
  have hval : ∀ (j : Nat) t v, Try.f4.params[j]? = some t → args[j]? = some v → Value.okWide Try.prog W .any base t v := hval0
  have hww : ∀ (j : Nat) (t : TypeId) (d : DataW H), Try.f4.params.toList[j]? = some t → ds[j]? = some d → ∀ n ∈ d.weights Try.prog t, n ≤ reachBytes := fun j t d h1 h2 => weights_of hsz j h1 h2
  have hW' := hW
  obtain ⟨p, q, hA0, hV, rfl, hfz, hnd⟩ := hW
  have hA : DataW.TrodAll enc Try.prog W 0 (fun _ => true) true Try.f4.params.toList args.toList ds p := hA0
  rw [Try.params4] at hA hval hww
  obtain ⟨v0, vs0, d0, ds0, p0, q0, hargs, rfl, rfl, h0, r0⟩ := trodAll_cons hA
  obtain ⟨v1, vs1, d1, ds1, p1, q1, rfl, rfl, rfl, h1, r1⟩ := trodAll_cons r0
  obtain ⟨rfl, rfl, rfl⟩ := trodAll_nil r1
  obtain rfl : args = #[v0, v1] := by cases args; simp_all
  obtain ⟨rq0, sl0, rfl, hsl0, hin0⟩ := open_rep (hval 0 40 v0 rfl rfl) h0 (hww 0 40 d0 rfl rfl)
  have hr1 := hww 1 9 d1 rfl rfl
  obtain ⟨a1, rfl, hd1, _, _⟩ := open_string Try.underlying9 (hval 1 9 v1 rfl rfl) h1
  have hl1 : a1.size ≤ reachBytes := string_reach hd1 hr1
  clear hA0 hval0
  refine (walk rq0 sl0 a1 hl1 W hsl0).mono fun e W' ⟨he, hb⟩ => ?_
  subst he
  exact ⟨_, rfl, law_post hW' (by kernel_rfl) rfl rfl (by
    intro t ht
    rw [Try.params4] at ht
    simp at ht
    rcases ht with rfl | rfl
    all_goals exact ⟨by kernel_rfl, of_decide_eq_true (by kernel_rfl)⟩) hb⟩
theorem over : Rows.wireRepliesRow.holds Try.pinned (OpenSpec.ofChange Rows.wireRepliesSpec) :=
  OpenClaim.holds_of_wide 4 Try.f4 rfl rfl rfl rfl rfl rfl rfl ⟨rfl, rfl, rfl, rfl, rfl⟩ rfl rfl rfl rfl rfl (by kernel_rfl) Try.func4 (by kernel_rfl)
    (of_decide_eq_true (by kernel_rfl)) (by unfold Func.isWrapper; first | (rw [if_pos (by decide +kernel)]; kernel_rfl) | (rw [if_neg (by decide +kernel)]; exact ⟨rfl, rfl⟩))
    (fun os started H enc _ => lifted os started H enc)
theorem proved : Rows.WireRepliesSaid := over
#print axioms proved
end Go.Proofs.Ytdpllkmbnphdgaa.wireReplies
