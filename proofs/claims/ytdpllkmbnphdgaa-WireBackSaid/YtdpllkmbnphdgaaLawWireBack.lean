/- There and back: a command that may be is that of its bytes; what bytes tell has these bytes; likewise of replies. -/
import Derived.Test.YtdpllkmbnphdgaaWireU
import Derived.Test.YtdpllkmbnphdgaaWireY
namespace Go.Proofs.Ytdpllkmbnphdgaa.wireBack
open Go.ChangeShapes Go.WideShapes Go.ChangeAt Go.RowKit Go.Deep
open Go.ChangeMaps (open_string shut_string)

theorem string_reach {H : Type} {P : Program} {t : TypeId} {s : ByteArray} {R : Nat} {d : DataW H} (hd : d = .lit (.string s.data.toList)) (h : ∀ n ∈ d.weights P t, n ≤ R) : s.size ≤ R := by
  subst hd
  have := h s.data.toList.length (by simp [DataW.weights])
  simpa using this
/-- what the boxes hold. -/
structure Held (w0 : World) (g h : Nat) (c : Cm) (e v : Int) (sl : Value) (ids : List Int) (w : World) : Prop where
  hc : CmAt w g c
  hr : RpAt 40 w h e v sl
  hs : SlInt w sl ids
  hb : Below w0.heap.size w0 w
theorem Held.below {w0 : World} {g h : Nat} {c : Cm} {e v : Int} {sl : Value} {ids : List Int} {w w' : World} (H : Held w0 g h c e v sl ids w) (hb : Below w.heap.size w w') : Held w0 g h c e v sl ids w' :=
  ⟨H.hc.below hb, H.hr.below hb, slInt_below H.hs hb, H.hb.trans (hb.mono H.hb.size)⟩
set_option maxRecDepth 100000 in
set_option maxHeartbeats 16000000 in
theorem walk (c : Cm) (hin : ∀ i, In64 (c.n i)) (r : Rp) (sl : Value) (hrv : In64 r.v) (s : ByteArray) (hs : s.size ≤ reachBytes) (w : World) (hsl : SlInt w sl r.ids) :
    Calls Try.prog 5 #[.agg c.cells, .agg #[.int .i64 r.e, .int .i64 r.v, sl], .string s] w fun e w' => e = .returned (.bool true) ∧ Below w.heap.size w w' := by
  obtain ⟨s, rfl⟩ : ∃ l : List UInt8, s = ⟨l.toArray⟩ := ⟨s.data.toList, by simp⟩
  have hs2 : (s.length : Int) ≤ 281474976710656 := by
    have h1 : reachBytes ≤ 281474976710656 := by decide +kernel
    have h2 : (⟨s.toArray⟩ : ByteArray).size = s.length := by rw [ByteArray.size]; simp
    omega
  clear hs
  obtain ⟨e, v, ids⟩ := r
  dsimp only at hsl hrv ⊢
  obtain ⟨ao, ca, rfl, hcells⟩ := hsl
  have HH := Lib.hid (show Held w w.heap.size (w.heap.size + 1) c e v (.slice ao ids.length ca) ids ((w.alloc (.cells c.cells 23 (0, 0))).alloc (.cells #[.int .i64 e, .int .i64 v, .slice ao ids.length ca] 40 (0, 0))) from by
    have h1 := (cmAt_new w c).below ((Below.refl _ _).alloc (Nat.le_refl _) (.cells #[.int .i64 e, .int .i64 v, .slice ao ids.length ca] 40 (0, 0)))
    have h2 := rpAt_new 40 (w.alloc (.cells c.cells 23 (0, 0))) e v (.slice ao ids.length ca)
    rw [show (w.alloc (.cells c.cells 23 (0, 0))).heap.size = w.heap.size + 1 by simp] at h2
    have h3 := ((Below.refl w.heap.size w).alloc (Nat.le_refl _) (.cells c.cells 23 (0, 0))).alloc (by simp) (.cells #[.int .i64 e, .int .i64 v, .slice ao ids.length ca] 40 (0, 0))
    exact ⟨h1, h2, slInt_below ⟨ao, ca, rfl, hcells⟩ h3, h3⟩)
  clear hcells
  have hcc : c.cells = #[.int .i64 c.k, .int .i64 (c.n 1), .int .i64 (c.n 2), .int .i64 (c.n 3), .int .i64 (c.n 4), .int .i64 (c.n 5), .int .i64 (c.n 6), .int .i64 (c.n 7)] := rfl
  have HPUT := Lib.hid (put_any c)
  have HMAY := Lib.hid (may_any c)
  have HBK := Lib.hid (fun (h : may c = true) => take_put h hin)
  have hpl : (putB c).length ≤ 100 := by
    have h1 := layAll_len c.n (specs c.k) (fun p hp => (specs_pos hp).2)
    have h2 := specs_len c.k
    unfold putB
    rw [List.length_cons]
    omega
  have HTB := Lib.hid (take_any (putB c) (by omega))
  have HTS0 := Lib.hid (fun hh => take_any s hh)
  have HPS := Lib.hid (fun d (h : take s = some d) => put_take h)
  have HPR := Lib.hid (fun wx h => fun hl => putr_any e v ids (.slice ao ids.length ca) wx h hl)
  have HRB := Lib.hid (fun (h : putrOk e ids = true) => takeR_putr h hrv)
  have HRS0 := Lib.hid (fun hh => taker_any s hh)
  have HRP := Lib.hid (fun r (h : takeR s = some r) => putr_takeR h)
  have HRT := Lib.hid (fun h => taker_any (putrB e v ids) h)
  have HRL := Lib.hid (putr_length e v ids)
  clear hin hrv
  rw [hcc] at HH HPUT HMAY HBK ⊢
  clear hcc hpl
  generalize hP : putB c = P at *
  have HPB := Lib.hid hP
  clear hP
  go_enter Try.func5, Try.ntmps5
  go_wp2_with fail
  generalize (w.alloc (.cells #[.int .i64 c.k, .int .i64 (c.n 1), .int .i64 (c.n 2), .int .i64 (c.n 3), .int .i64 (c.n 4), .int .i64 (c.n 5), .int .i64 (c.n 6), .int .i64 (c.n 7)] 23 (0, 0))).alloc (.cells #[.int .i64 e, .int .i64 v, .slice ao ids.length ca] 40 (0, 0)) = w0 at *
  refine (awake_any _).mono ?_
  rintro q w1 ⟨rfl, hb1⟩
  have HH1 := Lib.hid (HH.out.below hb1)
  clear hb1 HH
  have x2 := HH1.out.hr.c2
  by_cases h1 : (300 : Int) < ids.length
  · go_wp2
    go_ret
    exact ⟨rfl, HH1.out.hb⟩
  by_cases h2 : (2000 : Int) < s.length
  · go_wp2
    go_ret
    exact ⟨rfl, HH1.out.hb⟩
  have hli : (ids.length : Int) ≤ 300 := by omega
  have HPR1 := Lib.hid (fun wx h => HPR.out wx h (by omega))
  have HRT1 := Lib.hid (HRT.out (by rw [HRL.out]; omega))
  have HTS := Lib.hid (HTS0.out (by omega))
  have HRS := Lib.hid (HRS0.out (by omega))
  clear HPR HRT HRL hs2 HTS0 HRS0
  have c0 := HH1.out.hc.kind
  have c1 := HH1.out.hc.num (i := 1) (by omega) (by omega)
  have c2 := HH1.out.hc.num (i := 2) (by omega) (by omega)
  have c3 := HH1.out.hc.num (i := 3) (by omega) (by omega)
  have c4 := HH1.out.hc.num (i := 4) (by omega) (by omega)
  have c5 := HH1.out.hc.num (i := 5) (by omega) (by omega)
  have c6 := HH1.out.hc.num (i := 6) (by omega) (by omega)
  have c7 := HH1.out.hc.num (i := 7) (by omega) (by omega)
  cases hm : may c
  · have HP := Lib.hid (show ∀ wx, Calls Try.prog 10 #[.agg #[.int .i64 c.k, .int .i64 (c.n 1), .int .i64 (c.n 2), .int .i64 (c.n 3), .int .i64 (c.n 4), .int .i64 (c.n 5), .int .i64 (c.n 6), .int .i64 (c.n 7)]] wx fun q w' => q = .returned (.tuple #[.string ⟨#[]⟩, .int .i64 2]) ∧ Below wx.heap.size wx w' from fun wx => by
        have h := HPUT.out wx
        unfold putV at h
        rw [hm] at h
        exact h)
    have HM := HMAY
    rw [hm] at HM
    go_upto_region 12 with (first | (go_at_call 10; refine (HP.out _).mono ?_; rintro q wa1 ⟨rfl, hba⟩; have HHa1 := Lib.hid (HH1.out.below hba); clear hba c0 c1 c2 c3 c4 c5 c6 c7; have c0 := HHa1.out.hc.kind; have c1 := HHa1.out.hc.num (i := 1) (by omega) (by omega); have c2 := HHa1.out.hc.num (i := 2) (by omega) (by omega); have c3 := HHa1.out.hc.num (i := 3) (by omega) (by omega); have c4 := HHa1.out.hc.num (i := 4) (by omega) (by omega); have c5 := HHa1.out.hc.num (i := 5) (by omega) (by omega); have c6 := HHa1.out.hc.num (i := 6) (by omega) (by omega); have c7 := HHa1.out.hc.num (i := 7) (by omega) (by omega)) | (go_at_call 15; refine (HM.out _).mono ?_; rintro q wb1 ⟨rfl, hbb⟩; have HHb1 := Lib.hid (HHa1.out.below hbb); clear hbb c0 c1 c2 c3 c4 c5 c6 c7))
    clear HP HM hm
    cases ht : take s with
    | none =>
      have HT := Lib.hid (show ∀ wx, Calls Try.prog 13 #[.string ⟨s.toArray⟩] wx fun q w' => q = .returned (.tuple #[.agg #[.int .i64 0, .int .i64 0, .int .i64 0, .int .i64 0, .int .i64 0, .int .i64 0, .int .i64 0, .int .i64 0], .int .i64 2]) ∧ Below wx.heap.size wx w' from fun wx => by
          have h := HTS.out wx
          rw [ht] at h
          exact h)
      go_upto_region 17 with (go_at_call 13; refine (HT.out _).mono ?_; rintro q wa2 ⟨rfl, hba⟩; have HHa2 := Lib.hid (HHb1.out.below hba); clear hba)
      have HHb2 := Lib.hid (HHa2.out.below ((Below.refl _ _).alloc (Nat.le_refl _) (.cells #[.int .i64 0, .int .i64 0, .int .i64 0, .int .i64 0, .int .i64 0, .int .i64 0, .int .i64 0, .int .i64 0] 23 (0, 0))))
      generalize wa2.alloc (.cells #[.int .i64 0, .int .i64 0, .int .i64 0, .int .i64 0, .int .i64 0, .int .i64 0, .int .i64 0, .int .i64 0] 23 (0, 0)) = wb2 at *
      generalize wa2.heap.size = zb2 at *
      clear HT
      have x0 := HHb2.out.hr.c0
      have x1 := HHb2.out.hr.c1
      have x2 := HHb2.out.hr.c2
      cases ho : putrOk e ids
      · have HP := Lib.hid (show ∀ wx, SlInt wx (.slice ao ids.length ca) ids → Calls Try.prog 17 #[.agg #[.int .i64 e, .int .i64 v, .slice ao ids.length ca]] wx fun q w' => q = .returned (.tuple #[.string ⟨#[]⟩, .int .i64 2]) ∧ Below wx.heap.size wx w' from fun wx hx => by
            have h := HPR1.out wx hx
            unfold putrV at h
            rw [ho] at h
            exact h)
        go_upto_region 22 with (go_at_call 17; refine (HP.out _ HHb2.out.hs).mono ?_; rintro q wa3 ⟨rfl, hba⟩; have HHa3 := Lib.hid (HHb2.out.below hba); clear hba x0 x1 x2)
        clear HP
        cases hr : takeR s with
        | none =>
          have HT := Lib.hid (show ∀ wx, Calls Try.prog 19 #[.string ⟨s.toArray⟩] wx fun q w' => ∃ sa, q = .returned (.tuple #[.agg #[.int .i64 0, .int .i64 0, sa], .int .i64 2]) ∧ SlInt w' sa [] ∧ Below wx.heap.size wx w' from fun wx => by
              have h := HRS.out wx
              rw [hr] at h
              exact h)
          go_wp2_with (go_at_call 19; refine (HT.out _).mono ?_; rintro q wa4 ⟨sa, rfl, ⟨aa, caa, rfl, hca⟩, hba⟩; have HHa4 := Lib.hid (HHa3.out.below hba); clear hba hca)
          go_ret
          exact ⟨rfl, HHa4.out.hb.alloc HHa4.out.hb.size _⟩
        | some r =>
          obtain ⟨re, rv, rids⟩ := r
          have HT := Lib.hid (show ∀ wx, Calls Try.prog 19 #[.string ⟨s.toArray⟩] wx fun q w' => ∃ sa, q = .returned (.tuple #[.agg #[.int .i64 re, .int .i64 rv, sa], .int .i64 0]) ∧ SlInt w' sa rids ∧ Below wx.heap.size wx w' from fun wx => by
              have h := HRS.out wx
              rw [hr] at h
              exact h)
          have hrp := HRP.out _ hr
          dsimp only at hrp
          have HD := Lib.hid (show ∀ (sa : Value) wx, SlInt wx sa rids → Calls Try.prog 17 #[.agg #[.int .i64 re, .int .i64 rv, sa]] wx fun q w' => q = .returned (.tuple #[.string ⟨s.toArray⟩, .int .i64 0]) ∧ Below wx.heap.size wx w' from fun sa wx hx => by
              have h3 : rids.length ≤ 300 := by have h4 := hrp.1; unfold putrOk at h4; rw [Bool.and_eq_true, decide_eq_true_eq] at h4; omega
              have h := putr_any re rv rids sa wx hx h3
              unfold putrV at h
              rw [hrp.1, hrp.2] at h
              exact h)
          clear hrp
          go_upto_region 24 with (go_at_call 19; refine (HT.out _).mono ?_; rintro q wa5 ⟨sa, rfl, ⟨aa, caa, rfl, hca⟩, hba⟩; have HHa5 := Lib.hid (HHa3.out.below hba); have HSA := Lib.hid (show SlInt wa5 (.slice aa rids.length caa) rids from ⟨aa, caa, rfl, hca⟩); clear hba hca)
          have HN := Lib.hid (rpAt_new 40 wa5 re rv (.slice aa rids.length caa))
          have HHb5 := Lib.hid (HHa5.out.below ((Below.refl _ _).alloc (Nat.le_refl _) (.cells #[.int .i64 re, .int .i64 rv, .slice aa rids.length caa] 40 (0, 0))))
          have HSB := Lib.hid (slInt_below HSA.out ((Below.refl _ _).alloc (Nat.le_refl _) (.cells #[.int .i64 re, .int .i64 rv, .slice aa rids.length caa] 40 (0, 0))))
          have y0 := HN.out.c0
          have y1 := HN.out.c1
          have y2 := HN.out.c2
          clear HN HSA
          generalize wa5.alloc (.cells #[.int .i64 re, .int .i64 rv, .slice aa rids.length caa] 40 (0, 0)) = wb5 at *
          generalize wa5.heap.size = zb5 at *
          go_wp2_with (go_at_call 17; refine (HD.out _ _ HSB.out).mono ?_; rintro q wc5 ⟨rfl, hbc⟩; have HHc5 := Lib.hid (HHb5.out.below hbc); clear hbc)
          go_ret
          exact ⟨rfl, HHc5.out.hb⟩
      · have HP := Lib.hid (show ∀ wx, SlInt wx (.slice ao ids.length ca) ids → Calls Try.prog 17 #[.agg #[.int .i64 e, .int .i64 v, .slice ao ids.length ca]] wx fun q w' => q = .returned (.tuple #[.string ⟨(putrB e v ids).toArray⟩, .int .i64 0]) ∧ Below wx.heap.size wx w' from fun wx hx => by
            have h := HPR1.out wx hx
            unfold putrV at h
            rw [ho] at h
            exact h)
        have HT := Lib.hid (show ∀ wx, Calls Try.prog 19 #[.string ⟨(putrB e v ids).toArray⟩] wx fun q w' => ∃ sa, q = .returned (.tuple #[.agg #[.int .i64 e, .int .i64 v, sa], .int .i64 0]) ∧ SlInt w' sa ids ∧ Below wx.heap.size wx w' from fun wx => by
            have h := HRT1.out wx
            rw [HRB.out ho] at h
            exact h)
        generalize putrB e v ids = B at HP HT
        go_upto_region 20 with (first | (go_at_call 17; refine (HP.out _ HHb2.out.hs).mono ?_; rintro q wa6 ⟨rfl, hba⟩; have HHa6 := Lib.hid (HHb2.out.below hba); clear hba x0 x1 x2) | (go_at_call 19; refine (HT.out _).mono ?_; rintro q wb6 ⟨sa, rfl, ⟨aa, caa, rfl, hca⟩, hbb⟩; have HHb6 := Lib.hid (HHa6.out.below hbb); have HSA := Lib.hid (show SlInt wb6 (.slice aa ids.length caa) ids from ⟨aa, caa, rfl, hca⟩); clear hbb hca))
        have HN := Lib.hid (rpAt_new 40 wb6 e v (.slice aa ids.length caa))
        have HHc6 := Lib.hid (HHb6.out.below ((Below.refl _ _).alloc (Nat.le_refl _) (.cells #[.int .i64 e, .int .i64 v, .slice aa ids.length caa] 40 (0, 0))))
        have HSB := Lib.hid (slInt_below HSA.out ((Below.refl _ _).alloc (Nat.le_refl _) (.cells #[.int .i64 e, .int .i64 v, .slice aa ids.length caa] 40 (0, 0))))
        have x0 := HHc6.out.hr.c0
        have x1 := HHc6.out.hr.c1
        have x2 := HHc6.out.hr.c2
        have y0 := HN.out.c0
        have y1 := HN.out.c1
        have y2 := HN.out.c2
        clear HN HSA
        generalize wb6.alloc (.cells #[.int .i64 e, .int .i64 v, .slice aa ids.length caa] 40 (0, 0)) = wc6 at *
        generalize wb6.heap.size = zc6 at *
        go_upto_region 22 with (go_at_call 21; refine (ints_any _ _ ids ids _ HSB.out HHc6.out.hs (by omega)).mono ?_; rintro q wd6 ⟨rfl, nq6, rfl⟩)
        have HHd6 := Lib.hid (HHc6.out.below (drewN_below' (Below.refl _ _) nq6))
        clear HP HT x0 x1 x2 y0 y1 y2 HSB
        generalize wc6.drewN nq6 = we6 at *
        cases hr : takeR s with
        | none =>
          have HT := Lib.hid (show ∀ wx, Calls Try.prog 19 #[.string ⟨s.toArray⟩] wx fun q w' => ∃ sa, q = .returned (.tuple #[.agg #[.int .i64 0, .int .i64 0, sa], .int .i64 2]) ∧ SlInt w' sa [] ∧ Below wx.heap.size wx w' from fun wx => by
              have h := HRS.out wx
              rw [hr] at h
              exact h)
          go_wp2_with (go_at_call 19; refine (HT.out _).mono ?_; rintro q wa7 ⟨sa, rfl, ⟨aa, caa, rfl, hca⟩, hba⟩; have HHa7 := Lib.hid (HHd6.out.below hba); clear hba hca)
          go_ret
          exact ⟨rfl, HHa7.out.hb.alloc HHa7.out.hb.size _⟩
        | some r =>
          obtain ⟨re, rv, rids⟩ := r
          have HT := Lib.hid (show ∀ wx, Calls Try.prog 19 #[.string ⟨s.toArray⟩] wx fun q w' => ∃ sa, q = .returned (.tuple #[.agg #[.int .i64 re, .int .i64 rv, sa], .int .i64 0]) ∧ SlInt w' sa rids ∧ Below wx.heap.size wx w' from fun wx => by
              have h := HRS.out wx
              rw [hr] at h
              exact h)
          have hrp := HRP.out _ hr
          dsimp only at hrp
          have HD := Lib.hid (show ∀ (sa : Value) wx, SlInt wx sa rids → Calls Try.prog 17 #[.agg #[.int .i64 re, .int .i64 rv, sa]] wx fun q w' => q = .returned (.tuple #[.string ⟨s.toArray⟩, .int .i64 0]) ∧ Below wx.heap.size wx w' from fun sa wx hx => by
              have h3 : rids.length ≤ 300 := by have h4 := hrp.1; unfold putrOk at h4; rw [Bool.and_eq_true, decide_eq_true_eq] at h4; omega
              have h := putr_any re rv rids sa wx hx h3
              unfold putrV at h
              rw [hrp.1, hrp.2] at h
              exact h)
          clear hrp
          go_upto_region 24 with (go_at_call 19; refine (HT.out _).mono ?_; rintro q wa8 ⟨sa, rfl, ⟨aa, caa, rfl, hca⟩, hba⟩; have HHa8 := Lib.hid (HHd6.out.below hba); have HSA := Lib.hid (show SlInt wa8 (.slice aa rids.length caa) rids from ⟨aa, caa, rfl, hca⟩); clear hba hca)
          have HN := Lib.hid (rpAt_new 40 wa8 re rv (.slice aa rids.length caa))
          have HHb8 := Lib.hid (HHa8.out.below ((Below.refl _ _).alloc (Nat.le_refl _) (.cells #[.int .i64 re, .int .i64 rv, .slice aa rids.length caa] 40 (0, 0))))
          have HSB := Lib.hid (slInt_below HSA.out ((Below.refl _ _).alloc (Nat.le_refl _) (.cells #[.int .i64 re, .int .i64 rv, .slice aa rids.length caa] 40 (0, 0))))
          have y0 := HN.out.c0
          have y1 := HN.out.c1
          have y2 := HN.out.c2
          clear HN HSA
          generalize wa8.alloc (.cells #[.int .i64 re, .int .i64 rv, .slice aa rids.length caa] 40 (0, 0)) = wb8 at *
          generalize wa8.heap.size = zb8 at *
          go_wp2_with (go_at_call 17; refine (HD.out _ _ HSB.out).mono ?_; rintro q wc8 ⟨rfl, hbc⟩; have HHc8 := Lib.hid (HHb8.out.below hbc); clear hbc)
          go_ret
          exact ⟨rfl, HHc8.out.hb⟩
    | some d =>
      have HT := Lib.hid (show ∀ wx, Calls Try.prog 13 #[.string ⟨s.toArray⟩] wx fun q w' => q = .returned (.tuple #[.agg #[.int .i64 d.k, .int .i64 (d.n 1), .int .i64 (d.n 2), .int .i64 (d.n 3), .int .i64 (d.n 4), .int .i64 (d.n 5), .int .i64 (d.n 6), .int .i64 (d.n 7)], .int .i64 0]) ∧ Below wx.heap.size wx w' from fun wx => by
          have h := HTS.out wx
          rw [ht] at h
          exact h)
      have HD := Lib.hid (show ∀ wx, Calls Try.prog 10 #[.agg #[.int .i64 d.k, .int .i64 (d.n 1), .int .i64 (d.n 2), .int .i64 (d.n 3), .int .i64 (d.n 4), .int .i64 (d.n 5), .int .i64 (d.n 6), .int .i64 (d.n 7)]] wx fun q w' => q = .returned (.tuple #[.string ⟨s.toArray⟩, .int .i64 0]) ∧ Below wx.heap.size wx w' from fun wx => by
          have h := put_any d wx
          unfold putV at h
          rw [(HPS.out d ht).1, (HPS.out d ht).2] at h
          exact h)
      go_upto_region 14 with (go_at_call 13; refine (HT.out _).mono ?_; rintro q wa9 ⟨rfl, hba⟩; have HHa9 := Lib.hid (HHb1.out.below hba); clear hba)
      have HN := Lib.hid (show CmAt (wa9.alloc (.cells #[.int .i64 d.k, .int .i64 (d.n 1), .int .i64 (d.n 2), .int .i64 (d.n 3), .int .i64 (d.n 4), .int .i64 (d.n 5), .int .i64 (d.n 6), .int .i64 (d.n 7)] 23 (0, 0))) wa9.heap.size d from heap_alloc_new _ _)
      have HHb9 := Lib.hid (HHa9.out.below ((Below.refl _ _).alloc (Nat.le_refl _) (.cells #[.int .i64 d.k, .int .i64 (d.n 1), .int .i64 (d.n 2), .int .i64 (d.n 3), .int .i64 (d.n 4), .int .i64 (d.n 5), .int .i64 (d.n 6), .int .i64 (d.n 7)] 23 (0, 0))))
      have e0 := HN.out.kind
      have e1 := HN.out.num (i := 1) (by omega) (by omega)
      have e2 := HN.out.num (i := 2) (by omega) (by omega)
      have e3 := HN.out.num (i := 3) (by omega) (by omega)
      have e4 := HN.out.num (i := 4) (by omega) (by omega)
      have e5 := HN.out.num (i := 5) (by omega) (by omega)
      have e6 := HN.out.num (i := 6) (by omega) (by omega)
      have e7 := HN.out.num (i := 7) (by omega) (by omega)
      clear HN
      generalize wa9.alloc (.cells #[.int .i64 d.k, .int .i64 (d.n 1), .int .i64 (d.n 2), .int .i64 (d.n 3), .int .i64 (d.n 4), .int .i64 (d.n 5), .int .i64 (d.n 6), .int .i64 (d.n 7)] 23 (0, 0)) = wb9 at *
      generalize wa9.heap.size = zb9 at *
      go_upto_region 17 with (go_at_call 10; refine (HD.out _).mono ?_; rintro q wc9 ⟨rfl, hbc⟩; have HHc9 := Lib.hid (HHb9.out.below hbc); clear hbc)
      clear HT HD e0 e1 e2 e3 e4 e5 e6 e7
      have x0 := HHc9.out.hr.c0
      have x1 := HHc9.out.hr.c1
      have x2 := HHc9.out.hr.c2
      cases ho : putrOk e ids
      · have HP := Lib.hid (show ∀ wx, SlInt wx (.slice ao ids.length ca) ids → Calls Try.prog 17 #[.agg #[.int .i64 e, .int .i64 v, .slice ao ids.length ca]] wx fun q w' => q = .returned (.tuple #[.string ⟨#[]⟩, .int .i64 2]) ∧ Below wx.heap.size wx w' from fun wx hx => by
            have h := HPR1.out wx hx
            unfold putrV at h
            rw [ho] at h
            exact h)
        go_upto_region 22 with (go_at_call 17; refine (HP.out _ HHc9.out.hs).mono ?_; rintro q wa10 ⟨rfl, hba⟩; have HHa10 := Lib.hid (HHc9.out.below hba); clear hba x0 x1 x2)
        clear HP
        cases hr : takeR s with
        | none =>
          have HT := Lib.hid (show ∀ wx, Calls Try.prog 19 #[.string ⟨s.toArray⟩] wx fun q w' => ∃ sa, q = .returned (.tuple #[.agg #[.int .i64 0, .int .i64 0, sa], .int .i64 2]) ∧ SlInt w' sa [] ∧ Below wx.heap.size wx w' from fun wx => by
              have h := HRS.out wx
              rw [hr] at h
              exact h)
          go_wp2_with (go_at_call 19; refine (HT.out _).mono ?_; rintro q wa11 ⟨sa, rfl, ⟨aa, caa, rfl, hca⟩, hba⟩; have HHa11 := Lib.hid (HHa10.out.below hba); clear hba hca)
          go_ret
          exact ⟨rfl, HHa11.out.hb.alloc HHa11.out.hb.size _⟩
        | some r =>
          obtain ⟨re, rv, rids⟩ := r
          have HT := Lib.hid (show ∀ wx, Calls Try.prog 19 #[.string ⟨s.toArray⟩] wx fun q w' => ∃ sa, q = .returned (.tuple #[.agg #[.int .i64 re, .int .i64 rv, sa], .int .i64 0]) ∧ SlInt w' sa rids ∧ Below wx.heap.size wx w' from fun wx => by
              have h := HRS.out wx
              rw [hr] at h
              exact h)
          have hrp := HRP.out _ hr
          dsimp only at hrp
          have HD := Lib.hid (show ∀ (sa : Value) wx, SlInt wx sa rids → Calls Try.prog 17 #[.agg #[.int .i64 re, .int .i64 rv, sa]] wx fun q w' => q = .returned (.tuple #[.string ⟨s.toArray⟩, .int .i64 0]) ∧ Below wx.heap.size wx w' from fun sa wx hx => by
              have h3 : rids.length ≤ 300 := by have h4 := hrp.1; unfold putrOk at h4; rw [Bool.and_eq_true, decide_eq_true_eq] at h4; omega
              have h := putr_any re rv rids sa wx hx h3
              unfold putrV at h
              rw [hrp.1, hrp.2] at h
              exact h)
          clear hrp
          go_upto_region 24 with (go_at_call 19; refine (HT.out _).mono ?_; rintro q wa12 ⟨sa, rfl, ⟨aa, caa, rfl, hca⟩, hba⟩; have HHa12 := Lib.hid (HHa10.out.below hba); have HSA := Lib.hid (show SlInt wa12 (.slice aa rids.length caa) rids from ⟨aa, caa, rfl, hca⟩); clear hba hca)
          have HN := Lib.hid (rpAt_new 40 wa12 re rv (.slice aa rids.length caa))
          have HHb12 := Lib.hid (HHa12.out.below ((Below.refl _ _).alloc (Nat.le_refl _) (.cells #[.int .i64 re, .int .i64 rv, .slice aa rids.length caa] 40 (0, 0))))
          have HSB := Lib.hid (slInt_below HSA.out ((Below.refl _ _).alloc (Nat.le_refl _) (.cells #[.int .i64 re, .int .i64 rv, .slice aa rids.length caa] 40 (0, 0))))
          have y0 := HN.out.c0
          have y1 := HN.out.c1
          have y2 := HN.out.c2
          clear HN HSA
          generalize wa12.alloc (.cells #[.int .i64 re, .int .i64 rv, .slice aa rids.length caa] 40 (0, 0)) = wb12 at *
          generalize wa12.heap.size = zb12 at *
          go_wp2_with (go_at_call 17; refine (HD.out _ _ HSB.out).mono ?_; rintro q wc12 ⟨rfl, hbc⟩; have HHc12 := Lib.hid (HHb12.out.below hbc); clear hbc)
          go_ret
          exact ⟨rfl, HHc12.out.hb⟩
      · have HP := Lib.hid (show ∀ wx, SlInt wx (.slice ao ids.length ca) ids → Calls Try.prog 17 #[.agg #[.int .i64 e, .int .i64 v, .slice ao ids.length ca]] wx fun q w' => q = .returned (.tuple #[.string ⟨(putrB e v ids).toArray⟩, .int .i64 0]) ∧ Below wx.heap.size wx w' from fun wx hx => by
            have h := HPR1.out wx hx
            unfold putrV at h
            rw [ho] at h
            exact h)
        have HT := Lib.hid (show ∀ wx, Calls Try.prog 19 #[.string ⟨(putrB e v ids).toArray⟩] wx fun q w' => ∃ sa, q = .returned (.tuple #[.agg #[.int .i64 e, .int .i64 v, sa], .int .i64 0]) ∧ SlInt w' sa ids ∧ Below wx.heap.size wx w' from fun wx => by
            have h := HRT1.out wx
            rw [HRB.out ho] at h
            exact h)
        generalize putrB e v ids = B at HP HT
        go_upto_region 20 with (first | (go_at_call 17; refine (HP.out _ HHc9.out.hs).mono ?_; rintro q wa13 ⟨rfl, hba⟩; have HHa13 := Lib.hid (HHc9.out.below hba); clear hba x0 x1 x2) | (go_at_call 19; refine (HT.out _).mono ?_; rintro q wb13 ⟨sa, rfl, ⟨aa, caa, rfl, hca⟩, hbb⟩; have HHb13 := Lib.hid (HHa13.out.below hbb); have HSA := Lib.hid (show SlInt wb13 (.slice aa ids.length caa) ids from ⟨aa, caa, rfl, hca⟩); clear hbb hca))
        have HN := Lib.hid (rpAt_new 40 wb13 e v (.slice aa ids.length caa))
        have HHc13 := Lib.hid (HHb13.out.below ((Below.refl _ _).alloc (Nat.le_refl _) (.cells #[.int .i64 e, .int .i64 v, .slice aa ids.length caa] 40 (0, 0))))
        have HSB := Lib.hid (slInt_below HSA.out ((Below.refl _ _).alloc (Nat.le_refl _) (.cells #[.int .i64 e, .int .i64 v, .slice aa ids.length caa] 40 (0, 0))))
        have x0 := HHc13.out.hr.c0
        have x1 := HHc13.out.hr.c1
        have x2 := HHc13.out.hr.c2
        have y0 := HN.out.c0
        have y1 := HN.out.c1
        have y2 := HN.out.c2
        clear HN HSA
        generalize wb13.alloc (.cells #[.int .i64 e, .int .i64 v, .slice aa ids.length caa] 40 (0, 0)) = wc13 at *
        generalize wb13.heap.size = zc13 at *
        go_upto_region 22 with (go_at_call 21; refine (ints_any _ _ ids ids _ HSB.out HHc13.out.hs (by omega)).mono ?_; rintro q wd13 ⟨rfl, nq13, rfl⟩)
        have HHd13 := Lib.hid (HHc13.out.below (drewN_below' (Below.refl _ _) nq13))
        clear HP HT x0 x1 x2 y0 y1 y2 HSB
        generalize wc13.drewN nq13 = we13 at *
        cases hr : takeR s with
        | none =>
          have HT := Lib.hid (show ∀ wx, Calls Try.prog 19 #[.string ⟨s.toArray⟩] wx fun q w' => ∃ sa, q = .returned (.tuple #[.agg #[.int .i64 0, .int .i64 0, sa], .int .i64 2]) ∧ SlInt w' sa [] ∧ Below wx.heap.size wx w' from fun wx => by
              have h := HRS.out wx
              rw [hr] at h
              exact h)
          go_wp2_with (go_at_call 19; refine (HT.out _).mono ?_; rintro q wa14 ⟨sa, rfl, ⟨aa, caa, rfl, hca⟩, hba⟩; have HHa14 := Lib.hid (HHd13.out.below hba); clear hba hca)
          go_ret
          exact ⟨rfl, HHa14.out.hb.alloc HHa14.out.hb.size _⟩
        | some r =>
          obtain ⟨re, rv, rids⟩ := r
          have HT := Lib.hid (show ∀ wx, Calls Try.prog 19 #[.string ⟨s.toArray⟩] wx fun q w' => ∃ sa, q = .returned (.tuple #[.agg #[.int .i64 re, .int .i64 rv, sa], .int .i64 0]) ∧ SlInt w' sa rids ∧ Below wx.heap.size wx w' from fun wx => by
              have h := HRS.out wx
              rw [hr] at h
              exact h)
          have hrp := HRP.out _ hr
          dsimp only at hrp
          have HD := Lib.hid (show ∀ (sa : Value) wx, SlInt wx sa rids → Calls Try.prog 17 #[.agg #[.int .i64 re, .int .i64 rv, sa]] wx fun q w' => q = .returned (.tuple #[.string ⟨s.toArray⟩, .int .i64 0]) ∧ Below wx.heap.size wx w' from fun sa wx hx => by
              have h3 : rids.length ≤ 300 := by have h4 := hrp.1; unfold putrOk at h4; rw [Bool.and_eq_true, decide_eq_true_eq] at h4; omega
              have h := putr_any re rv rids sa wx hx h3
              unfold putrV at h
              rw [hrp.1, hrp.2] at h
              exact h)
          clear hrp
          go_upto_region 24 with (go_at_call 19; refine (HT.out _).mono ?_; rintro q wa15 ⟨sa, rfl, ⟨aa, caa, rfl, hca⟩, hba⟩; have HHa15 := Lib.hid (HHd13.out.below hba); have HSA := Lib.hid (show SlInt wa15 (.slice aa rids.length caa) rids from ⟨aa, caa, rfl, hca⟩); clear hba hca)
          have HN := Lib.hid (rpAt_new 40 wa15 re rv (.slice aa rids.length caa))
          have HHb15 := Lib.hid (HHa15.out.below ((Below.refl _ _).alloc (Nat.le_refl _) (.cells #[.int .i64 re, .int .i64 rv, .slice aa rids.length caa] 40 (0, 0))))
          have HSB := Lib.hid (slInt_below HSA.out ((Below.refl _ _).alloc (Nat.le_refl _) (.cells #[.int .i64 re, .int .i64 rv, .slice aa rids.length caa] 40 (0, 0))))
          have y0 := HN.out.c0
          have y1 := HN.out.c1
          have y2 := HN.out.c2
          clear HN HSA
          generalize wa15.alloc (.cells #[.int .i64 re, .int .i64 rv, .slice aa rids.length caa] 40 (0, 0)) = wb15 at *
          generalize wa15.heap.size = zb15 at *
          go_wp2_with (go_at_call 17; refine (HD.out _ _ HSB.out).mono ?_; rintro q wc15 ⟨rfl, hbc⟩; have HHc15 := Lib.hid (HHb15.out.below hbc); clear hbc)
          go_ret
          exact ⟨rfl, HHc15.out.hb⟩
  · have HP := Lib.hid (show ∀ wx, Calls Try.prog 10 #[.agg #[.int .i64 c.k, .int .i64 (c.n 1), .int .i64 (c.n 2), .int .i64 (c.n 3), .int .i64 (c.n 4), .int .i64 (c.n 5), .int .i64 (c.n 6), .int .i64 (c.n 7)]] wx fun q w' => q = .returned (.tuple #[.string ⟨P.toArray⟩, .int .i64 0]) ∧ Below wx.heap.size wx w' from fun wx => by
        have h := HPUT.out wx
        unfold putV at h
        rw [hm, HPB.out] at h
        exact h)
    have HT := Lib.hid (show ∀ wx, Calls Try.prog 13 #[.string ⟨P.toArray⟩] wx fun q w' => q = .returned (.tuple #[.agg #[.int .i64 c.k, .int .i64 (c.n 1), .int .i64 (c.n 2), .int .i64 (c.n 3), .int .i64 (c.n 4), .int .i64 (c.n 5), .int .i64 (c.n 6), .int .i64 (c.n 7)], .int .i64 0]) ∧ Below wx.heap.size wx w' from fun wx => by
        have h := HTB.out wx
        rw [HBK.out hm] at h
        exact h)
    go_upto_region 8 with (first | (go_at_call 10; refine (HP.out _).mono ?_; rintro q wa16 ⟨rfl, hba⟩; have HHa16 := Lib.hid (HH1.out.below hba); clear hba c0 c1 c2 c3 c4 c5 c6 c7) | (go_at_call 13; refine (HT.out _).mono ?_; rintro q wb16 ⟨rfl, hbb⟩; have HHb16 := Lib.hid (HHa16.out.below hbb); clear hbb))
    have HN := Lib.hid (show CmAt (wb16.alloc (.cells #[.int .i64 c.k, .int .i64 (c.n 1), .int .i64 (c.n 2), .int .i64 (c.n 3), .int .i64 (c.n 4), .int .i64 (c.n 5), .int .i64 (c.n 6), .int .i64 (c.n 7)] 23 (0, 0))) wb16.heap.size c from heap_alloc_new _ _)
    have HHc16 := Lib.hid (HHb16.out.below ((Below.refl _ _).alloc (Nat.le_refl _) (.cells #[.int .i64 c.k, .int .i64 (c.n 1), .int .i64 (c.n 2), .int .i64 (c.n 3), .int .i64 (c.n 4), .int .i64 (c.n 5), .int .i64 (c.n 6), .int .i64 (c.n 7)] 23 (0, 0))))
    have c0 := HHc16.out.hc.kind
    have c1 := HHc16.out.hc.num (i := 1) (by omega) (by omega)
    have c2 := HHc16.out.hc.num (i := 2) (by omega) (by omega)
    have c3 := HHc16.out.hc.num (i := 3) (by omega) (by omega)
    have c4 := HHc16.out.hc.num (i := 4) (by omega) (by omega)
    have c5 := HHc16.out.hc.num (i := 5) (by omega) (by omega)
    have c6 := HHc16.out.hc.num (i := 6) (by omega) (by omega)
    have c7 := HHc16.out.hc.num (i := 7) (by omega) (by omega)
    have e0 := HN.out.kind
    have e1 := HN.out.num (i := 1) (by omega) (by omega)
    have e2 := HN.out.num (i := 2) (by omega) (by omega)
    have e3 := HN.out.num (i := 3) (by omega) (by omega)
    have e4 := HN.out.num (i := 4) (by omega) (by omega)
    have e5 := HN.out.num (i := 5) (by omega) (by omega)
    have e6 := HN.out.num (i := 6) (by omega) (by omega)
    have e7 := HN.out.num (i := 7) (by omega) (by omega)
    clear HN
    generalize wb16.alloc (.cells #[.int .i64 c.k, .int .i64 (c.n 1), .int .i64 (c.n 2), .int .i64 (c.n 3), .int .i64 (c.n 4), .int .i64 (c.n 5), .int .i64 (c.n 6), .int .i64 (c.n 7)] 23 (0, 0)) = wc16 at *
    generalize wb16.heap.size = zc16 at *
    go_upto_region 12 with (fail)
    clear HP HT hm c0 c1 c2 c3 c4 c5 c6 c7 e0 e1 e2 e3 e4 e5 e6 e7
    cases ht : take s with
    | none =>
      have HT := Lib.hid (show ∀ wx, Calls Try.prog 13 #[.string ⟨s.toArray⟩] wx fun q w' => q = .returned (.tuple #[.agg #[.int .i64 0, .int .i64 0, .int .i64 0, .int .i64 0, .int .i64 0, .int .i64 0, .int .i64 0, .int .i64 0], .int .i64 2]) ∧ Below wx.heap.size wx w' from fun wx => by
          have h := HTS.out wx
          rw [ht] at h
          exact h)
      go_upto_region 17 with (go_at_call 13; refine (HT.out _).mono ?_; rintro q wa17 ⟨rfl, hba⟩; have HHa17 := Lib.hid (HHc16.out.below hba); clear hba)
      have HHb17 := Lib.hid (HHa17.out.below ((Below.refl _ _).alloc (Nat.le_refl _) (.cells #[.int .i64 0, .int .i64 0, .int .i64 0, .int .i64 0, .int .i64 0, .int .i64 0, .int .i64 0, .int .i64 0] 23 (0, 0))))
      generalize wa17.alloc (.cells #[.int .i64 0, .int .i64 0, .int .i64 0, .int .i64 0, .int .i64 0, .int .i64 0, .int .i64 0, .int .i64 0] 23 (0, 0)) = wb17 at *
      generalize wa17.heap.size = zb17 at *
      clear HT
      have x0 := HHb17.out.hr.c0
      have x1 := HHb17.out.hr.c1
      have x2 := HHb17.out.hr.c2
      cases ho : putrOk e ids
      · have HP := Lib.hid (show ∀ wx, SlInt wx (.slice ao ids.length ca) ids → Calls Try.prog 17 #[.agg #[.int .i64 e, .int .i64 v, .slice ao ids.length ca]] wx fun q w' => q = .returned (.tuple #[.string ⟨#[]⟩, .int .i64 2]) ∧ Below wx.heap.size wx w' from fun wx hx => by
            have h := HPR1.out wx hx
            unfold putrV at h
            rw [ho] at h
            exact h)
        go_upto_region 22 with (go_at_call 17; refine (HP.out _ HHb17.out.hs).mono ?_; rintro q wa18 ⟨rfl, hba⟩; have HHa18 := Lib.hid (HHb17.out.below hba); clear hba x0 x1 x2)
        clear HP
        cases hr : takeR s with
        | none =>
          have HT := Lib.hid (show ∀ wx, Calls Try.prog 19 #[.string ⟨s.toArray⟩] wx fun q w' => ∃ sa, q = .returned (.tuple #[.agg #[.int .i64 0, .int .i64 0, sa], .int .i64 2]) ∧ SlInt w' sa [] ∧ Below wx.heap.size wx w' from fun wx => by
              have h := HRS.out wx
              rw [hr] at h
              exact h)
          go_wp2_with (go_at_call 19; refine (HT.out _).mono ?_; rintro q wa19 ⟨sa, rfl, ⟨aa, caa, rfl, hca⟩, hba⟩; have HHa19 := Lib.hid (HHa18.out.below hba); clear hba hca)
          go_ret
          exact ⟨rfl, HHa19.out.hb.alloc HHa19.out.hb.size _⟩
        | some r =>
          obtain ⟨re, rv, rids⟩ := r
          have HT := Lib.hid (show ∀ wx, Calls Try.prog 19 #[.string ⟨s.toArray⟩] wx fun q w' => ∃ sa, q = .returned (.tuple #[.agg #[.int .i64 re, .int .i64 rv, sa], .int .i64 0]) ∧ SlInt w' sa rids ∧ Below wx.heap.size wx w' from fun wx => by
              have h := HRS.out wx
              rw [hr] at h
              exact h)
          have hrp := HRP.out _ hr
          dsimp only at hrp
          have HD := Lib.hid (show ∀ (sa : Value) wx, SlInt wx sa rids → Calls Try.prog 17 #[.agg #[.int .i64 re, .int .i64 rv, sa]] wx fun q w' => q = .returned (.tuple #[.string ⟨s.toArray⟩, .int .i64 0]) ∧ Below wx.heap.size wx w' from fun sa wx hx => by
              have h3 : rids.length ≤ 300 := by have h4 := hrp.1; unfold putrOk at h4; rw [Bool.and_eq_true, decide_eq_true_eq] at h4; omega
              have h := putr_any re rv rids sa wx hx h3
              unfold putrV at h
              rw [hrp.1, hrp.2] at h
              exact h)
          clear hrp
          go_upto_region 24 with (go_at_call 19; refine (HT.out _).mono ?_; rintro q wa20 ⟨sa, rfl, ⟨aa, caa, rfl, hca⟩, hba⟩; have HHa20 := Lib.hid (HHa18.out.below hba); have HSA := Lib.hid (show SlInt wa20 (.slice aa rids.length caa) rids from ⟨aa, caa, rfl, hca⟩); clear hba hca)
          have HN := Lib.hid (rpAt_new 40 wa20 re rv (.slice aa rids.length caa))
          have HHb20 := Lib.hid (HHa20.out.below ((Below.refl _ _).alloc (Nat.le_refl _) (.cells #[.int .i64 re, .int .i64 rv, .slice aa rids.length caa] 40 (0, 0))))
          have HSB := Lib.hid (slInt_below HSA.out ((Below.refl _ _).alloc (Nat.le_refl _) (.cells #[.int .i64 re, .int .i64 rv, .slice aa rids.length caa] 40 (0, 0))))
          have y0 := HN.out.c0
          have y1 := HN.out.c1
          have y2 := HN.out.c2
          clear HN HSA
          generalize wa20.alloc (.cells #[.int .i64 re, .int .i64 rv, .slice aa rids.length caa] 40 (0, 0)) = wb20 at *
          generalize wa20.heap.size = zb20 at *
          go_wp2_with (go_at_call 17; refine (HD.out _ _ HSB.out).mono ?_; rintro q wc20 ⟨rfl, hbc⟩; have HHc20 := Lib.hid (HHb20.out.below hbc); clear hbc)
          go_ret
          exact ⟨rfl, HHc20.out.hb⟩
      · have HP := Lib.hid (show ∀ wx, SlInt wx (.slice ao ids.length ca) ids → Calls Try.prog 17 #[.agg #[.int .i64 e, .int .i64 v, .slice ao ids.length ca]] wx fun q w' => q = .returned (.tuple #[.string ⟨(putrB e v ids).toArray⟩, .int .i64 0]) ∧ Below wx.heap.size wx w' from fun wx hx => by
            have h := HPR1.out wx hx
            unfold putrV at h
            rw [ho] at h
            exact h)
        have HT := Lib.hid (show ∀ wx, Calls Try.prog 19 #[.string ⟨(putrB e v ids).toArray⟩] wx fun q w' => ∃ sa, q = .returned (.tuple #[.agg #[.int .i64 e, .int .i64 v, sa], .int .i64 0]) ∧ SlInt w' sa ids ∧ Below wx.heap.size wx w' from fun wx => by
            have h := HRT1.out wx
            rw [HRB.out ho] at h
            exact h)
        generalize putrB e v ids = B at HP HT
        go_upto_region 20 with (first | (go_at_call 17; refine (HP.out _ HHb17.out.hs).mono ?_; rintro q wa21 ⟨rfl, hba⟩; have HHa21 := Lib.hid (HHb17.out.below hba); clear hba x0 x1 x2) | (go_at_call 19; refine (HT.out _).mono ?_; rintro q wb21 ⟨sa, rfl, ⟨aa, caa, rfl, hca⟩, hbb⟩; have HHb21 := Lib.hid (HHa21.out.below hbb); have HSA := Lib.hid (show SlInt wb21 (.slice aa ids.length caa) ids from ⟨aa, caa, rfl, hca⟩); clear hbb hca))
        have HN := Lib.hid (rpAt_new 40 wb21 e v (.slice aa ids.length caa))
        have HHc21 := Lib.hid (HHb21.out.below ((Below.refl _ _).alloc (Nat.le_refl _) (.cells #[.int .i64 e, .int .i64 v, .slice aa ids.length caa] 40 (0, 0))))
        have HSB := Lib.hid (slInt_below HSA.out ((Below.refl _ _).alloc (Nat.le_refl _) (.cells #[.int .i64 e, .int .i64 v, .slice aa ids.length caa] 40 (0, 0))))
        have x0 := HHc21.out.hr.c0
        have x1 := HHc21.out.hr.c1
        have x2 := HHc21.out.hr.c2
        have y0 := HN.out.c0
        have y1 := HN.out.c1
        have y2 := HN.out.c2
        clear HN HSA
        generalize wb21.alloc (.cells #[.int .i64 e, .int .i64 v, .slice aa ids.length caa] 40 (0, 0)) = wc21 at *
        generalize wb21.heap.size = zc21 at *
        go_upto_region 22 with (go_at_call 21; refine (ints_any _ _ ids ids _ HSB.out HHc21.out.hs (by omega)).mono ?_; rintro q wd21 ⟨rfl, nq21, rfl⟩)
        have HHd21 := Lib.hid (HHc21.out.below (drewN_below' (Below.refl _ _) nq21))
        clear HP HT x0 x1 x2 y0 y1 y2 HSB
        generalize wc21.drewN nq21 = we21 at *
        cases hr : takeR s with
        | none =>
          have HT := Lib.hid (show ∀ wx, Calls Try.prog 19 #[.string ⟨s.toArray⟩] wx fun q w' => ∃ sa, q = .returned (.tuple #[.agg #[.int .i64 0, .int .i64 0, sa], .int .i64 2]) ∧ SlInt w' sa [] ∧ Below wx.heap.size wx w' from fun wx => by
              have h := HRS.out wx
              rw [hr] at h
              exact h)
          go_wp2_with (go_at_call 19; refine (HT.out _).mono ?_; rintro q wa22 ⟨sa, rfl, ⟨aa, caa, rfl, hca⟩, hba⟩; have HHa22 := Lib.hid (HHd21.out.below hba); clear hba hca)
          go_ret
          exact ⟨rfl, HHa22.out.hb.alloc HHa22.out.hb.size _⟩
        | some r =>
          obtain ⟨re, rv, rids⟩ := r
          have HT := Lib.hid (show ∀ wx, Calls Try.prog 19 #[.string ⟨s.toArray⟩] wx fun q w' => ∃ sa, q = .returned (.tuple #[.agg #[.int .i64 re, .int .i64 rv, sa], .int .i64 0]) ∧ SlInt w' sa rids ∧ Below wx.heap.size wx w' from fun wx => by
              have h := HRS.out wx
              rw [hr] at h
              exact h)
          have hrp := HRP.out _ hr
          dsimp only at hrp
          have HD := Lib.hid (show ∀ (sa : Value) wx, SlInt wx sa rids → Calls Try.prog 17 #[.agg #[.int .i64 re, .int .i64 rv, sa]] wx fun q w' => q = .returned (.tuple #[.string ⟨s.toArray⟩, .int .i64 0]) ∧ Below wx.heap.size wx w' from fun sa wx hx => by
              have h3 : rids.length ≤ 300 := by have h4 := hrp.1; unfold putrOk at h4; rw [Bool.and_eq_true, decide_eq_true_eq] at h4; omega
              have h := putr_any re rv rids sa wx hx h3
              unfold putrV at h
              rw [hrp.1, hrp.2] at h
              exact h)
          clear hrp
          go_upto_region 24 with (go_at_call 19; refine (HT.out _).mono ?_; rintro q wa23 ⟨sa, rfl, ⟨aa, caa, rfl, hca⟩, hba⟩; have HHa23 := Lib.hid (HHd21.out.below hba); have HSA := Lib.hid (show SlInt wa23 (.slice aa rids.length caa) rids from ⟨aa, caa, rfl, hca⟩); clear hba hca)
          have HN := Lib.hid (rpAt_new 40 wa23 re rv (.slice aa rids.length caa))
          have HHb23 := Lib.hid (HHa23.out.below ((Below.refl _ _).alloc (Nat.le_refl _) (.cells #[.int .i64 re, .int .i64 rv, .slice aa rids.length caa] 40 (0, 0))))
          have HSB := Lib.hid (slInt_below HSA.out ((Below.refl _ _).alloc (Nat.le_refl _) (.cells #[.int .i64 re, .int .i64 rv, .slice aa rids.length caa] 40 (0, 0))))
          have y0 := HN.out.c0
          have y1 := HN.out.c1
          have y2 := HN.out.c2
          clear HN HSA
          generalize wa23.alloc (.cells #[.int .i64 re, .int .i64 rv, .slice aa rids.length caa] 40 (0, 0)) = wb23 at *
          generalize wa23.heap.size = zb23 at *
          go_wp2_with (go_at_call 17; refine (HD.out _ _ HSB.out).mono ?_; rintro q wc23 ⟨rfl, hbc⟩; have HHc23 := Lib.hid (HHb23.out.below hbc); clear hbc)
          go_ret
          exact ⟨rfl, HHc23.out.hb⟩
    | some d =>
      have HT := Lib.hid (show ∀ wx, Calls Try.prog 13 #[.string ⟨s.toArray⟩] wx fun q w' => q = .returned (.tuple #[.agg #[.int .i64 d.k, .int .i64 (d.n 1), .int .i64 (d.n 2), .int .i64 (d.n 3), .int .i64 (d.n 4), .int .i64 (d.n 5), .int .i64 (d.n 6), .int .i64 (d.n 7)], .int .i64 0]) ∧ Below wx.heap.size wx w' from fun wx => by
          have h := HTS.out wx
          rw [ht] at h
          exact h)
      have HD := Lib.hid (show ∀ wx, Calls Try.prog 10 #[.agg #[.int .i64 d.k, .int .i64 (d.n 1), .int .i64 (d.n 2), .int .i64 (d.n 3), .int .i64 (d.n 4), .int .i64 (d.n 5), .int .i64 (d.n 6), .int .i64 (d.n 7)]] wx fun q w' => q = .returned (.tuple #[.string ⟨s.toArray⟩, .int .i64 0]) ∧ Below wx.heap.size wx w' from fun wx => by
          have h := put_any d wx
          unfold putV at h
          rw [(HPS.out d ht).1, (HPS.out d ht).2] at h
          exact h)
      go_upto_region 14 with (go_at_call 13; refine (HT.out _).mono ?_; rintro q wa24 ⟨rfl, hba⟩; have HHa24 := Lib.hid (HHc16.out.below hba); clear hba)
      have HN := Lib.hid (show CmAt (wa24.alloc (.cells #[.int .i64 d.k, .int .i64 (d.n 1), .int .i64 (d.n 2), .int .i64 (d.n 3), .int .i64 (d.n 4), .int .i64 (d.n 5), .int .i64 (d.n 6), .int .i64 (d.n 7)] 23 (0, 0))) wa24.heap.size d from heap_alloc_new _ _)
      have HHb24 := Lib.hid (HHa24.out.below ((Below.refl _ _).alloc (Nat.le_refl _) (.cells #[.int .i64 d.k, .int .i64 (d.n 1), .int .i64 (d.n 2), .int .i64 (d.n 3), .int .i64 (d.n 4), .int .i64 (d.n 5), .int .i64 (d.n 6), .int .i64 (d.n 7)] 23 (0, 0))))
      have e0 := HN.out.kind
      have e1 := HN.out.num (i := 1) (by omega) (by omega)
      have e2 := HN.out.num (i := 2) (by omega) (by omega)
      have e3 := HN.out.num (i := 3) (by omega) (by omega)
      have e4 := HN.out.num (i := 4) (by omega) (by omega)
      have e5 := HN.out.num (i := 5) (by omega) (by omega)
      have e6 := HN.out.num (i := 6) (by omega) (by omega)
      have e7 := HN.out.num (i := 7) (by omega) (by omega)
      clear HN
      generalize wa24.alloc (.cells #[.int .i64 d.k, .int .i64 (d.n 1), .int .i64 (d.n 2), .int .i64 (d.n 3), .int .i64 (d.n 4), .int .i64 (d.n 5), .int .i64 (d.n 6), .int .i64 (d.n 7)] 23 (0, 0)) = wb24 at *
      generalize wa24.heap.size = zb24 at *
      go_upto_region 17 with (go_at_call 10; refine (HD.out _).mono ?_; rintro q wc24 ⟨rfl, hbc⟩; have HHc24 := Lib.hid (HHb24.out.below hbc); clear hbc)
      clear HT HD e0 e1 e2 e3 e4 e5 e6 e7
      have x0 := HHc24.out.hr.c0
      have x1 := HHc24.out.hr.c1
      have x2 := HHc24.out.hr.c2
      cases ho : putrOk e ids
      · have HP := Lib.hid (show ∀ wx, SlInt wx (.slice ao ids.length ca) ids → Calls Try.prog 17 #[.agg #[.int .i64 e, .int .i64 v, .slice ao ids.length ca]] wx fun q w' => q = .returned (.tuple #[.string ⟨#[]⟩, .int .i64 2]) ∧ Below wx.heap.size wx w' from fun wx hx => by
            have h := HPR1.out wx hx
            unfold putrV at h
            rw [ho] at h
            exact h)
        go_upto_region 22 with (go_at_call 17; refine (HP.out _ HHc24.out.hs).mono ?_; rintro q wa25 ⟨rfl, hba⟩; have HHa25 := Lib.hid (HHc24.out.below hba); clear hba x0 x1 x2)
        clear HP
        cases hr : takeR s with
        | none =>
          have HT := Lib.hid (show ∀ wx, Calls Try.prog 19 #[.string ⟨s.toArray⟩] wx fun q w' => ∃ sa, q = .returned (.tuple #[.agg #[.int .i64 0, .int .i64 0, sa], .int .i64 2]) ∧ SlInt w' sa [] ∧ Below wx.heap.size wx w' from fun wx => by
              have h := HRS.out wx
              rw [hr] at h
              exact h)
          go_wp2_with (go_at_call 19; refine (HT.out _).mono ?_; rintro q wa26 ⟨sa, rfl, ⟨aa, caa, rfl, hca⟩, hba⟩; have HHa26 := Lib.hid (HHa25.out.below hba); clear hba hca)
          go_ret
          exact ⟨rfl, HHa26.out.hb.alloc HHa26.out.hb.size _⟩
        | some r =>
          obtain ⟨re, rv, rids⟩ := r
          have HT := Lib.hid (show ∀ wx, Calls Try.prog 19 #[.string ⟨s.toArray⟩] wx fun q w' => ∃ sa, q = .returned (.tuple #[.agg #[.int .i64 re, .int .i64 rv, sa], .int .i64 0]) ∧ SlInt w' sa rids ∧ Below wx.heap.size wx w' from fun wx => by
              have h := HRS.out wx
              rw [hr] at h
              exact h)
          have hrp := HRP.out _ hr
          dsimp only at hrp
          have HD := Lib.hid (show ∀ (sa : Value) wx, SlInt wx sa rids → Calls Try.prog 17 #[.agg #[.int .i64 re, .int .i64 rv, sa]] wx fun q w' => q = .returned (.tuple #[.string ⟨s.toArray⟩, .int .i64 0]) ∧ Below wx.heap.size wx w' from fun sa wx hx => by
              have h3 : rids.length ≤ 300 := by have h4 := hrp.1; unfold putrOk at h4; rw [Bool.and_eq_true, decide_eq_true_eq] at h4; omega
              have h := putr_any re rv rids sa wx hx h3
              unfold putrV at h
              rw [hrp.1, hrp.2] at h
              exact h)
          clear hrp
          go_upto_region 24 with (go_at_call 19; refine (HT.out _).mono ?_; rintro q wa27 ⟨sa, rfl, ⟨aa, caa, rfl, hca⟩, hba⟩; have HHa27 := Lib.hid (HHa25.out.below hba); have HSA := Lib.hid (show SlInt wa27 (.slice aa rids.length caa) rids from ⟨aa, caa, rfl, hca⟩); clear hba hca)
          have HN := Lib.hid (rpAt_new 40 wa27 re rv (.slice aa rids.length caa))
          have HHb27 := Lib.hid (HHa27.out.below ((Below.refl _ _).alloc (Nat.le_refl _) (.cells #[.int .i64 re, .int .i64 rv, .slice aa rids.length caa] 40 (0, 0))))
          have HSB := Lib.hid (slInt_below HSA.out ((Below.refl _ _).alloc (Nat.le_refl _) (.cells #[.int .i64 re, .int .i64 rv, .slice aa rids.length caa] 40 (0, 0))))
          have y0 := HN.out.c0
          have y1 := HN.out.c1
          have y2 := HN.out.c2
          clear HN HSA
          generalize wa27.alloc (.cells #[.int .i64 re, .int .i64 rv, .slice aa rids.length caa] 40 (0, 0)) = wb27 at *
          generalize wa27.heap.size = zb27 at *
          go_wp2_with (go_at_call 17; refine (HD.out _ _ HSB.out).mono ?_; rintro q wc27 ⟨rfl, hbc⟩; have HHc27 := Lib.hid (HHb27.out.below hbc); clear hbc)
          go_ret
          exact ⟨rfl, HHc27.out.hb⟩
      · have HP := Lib.hid (show ∀ wx, SlInt wx (.slice ao ids.length ca) ids → Calls Try.prog 17 #[.agg #[.int .i64 e, .int .i64 v, .slice ao ids.length ca]] wx fun q w' => q = .returned (.tuple #[.string ⟨(putrB e v ids).toArray⟩, .int .i64 0]) ∧ Below wx.heap.size wx w' from fun wx hx => by
            have h := HPR1.out wx hx
            unfold putrV at h
            rw [ho] at h
            exact h)
        have HT := Lib.hid (show ∀ wx, Calls Try.prog 19 #[.string ⟨(putrB e v ids).toArray⟩] wx fun q w' => ∃ sa, q = .returned (.tuple #[.agg #[.int .i64 e, .int .i64 v, sa], .int .i64 0]) ∧ SlInt w' sa ids ∧ Below wx.heap.size wx w' from fun wx => by
            have h := HRT1.out wx
            rw [HRB.out ho] at h
            exact h)
        generalize putrB e v ids = B at HP HT
        go_upto_region 20 with (first | (go_at_call 17; refine (HP.out _ HHc24.out.hs).mono ?_; rintro q wa28 ⟨rfl, hba⟩; have HHa28 := Lib.hid (HHc24.out.below hba); clear hba x0 x1 x2) | (go_at_call 19; refine (HT.out _).mono ?_; rintro q wb28 ⟨sa, rfl, ⟨aa, caa, rfl, hca⟩, hbb⟩; have HHb28 := Lib.hid (HHa28.out.below hbb); have HSA := Lib.hid (show SlInt wb28 (.slice aa ids.length caa) ids from ⟨aa, caa, rfl, hca⟩); clear hbb hca))
        have HN := Lib.hid (rpAt_new 40 wb28 e v (.slice aa ids.length caa))
        have HHc28 := Lib.hid (HHb28.out.below ((Below.refl _ _).alloc (Nat.le_refl _) (.cells #[.int .i64 e, .int .i64 v, .slice aa ids.length caa] 40 (0, 0))))
        have HSB := Lib.hid (slInt_below HSA.out ((Below.refl _ _).alloc (Nat.le_refl _) (.cells #[.int .i64 e, .int .i64 v, .slice aa ids.length caa] 40 (0, 0))))
        have x0 := HHc28.out.hr.c0
        have x1 := HHc28.out.hr.c1
        have x2 := HHc28.out.hr.c2
        have y0 := HN.out.c0
        have y1 := HN.out.c1
        have y2 := HN.out.c2
        clear HN HSA
        generalize wb28.alloc (.cells #[.int .i64 e, .int .i64 v, .slice aa ids.length caa] 40 (0, 0)) = wc28 at *
        generalize wb28.heap.size = zc28 at *
        go_upto_region 22 with (go_at_call 21; refine (ints_any _ _ ids ids _ HSB.out HHc28.out.hs (by omega)).mono ?_; rintro q wd28 ⟨rfl, nq28, rfl⟩)
        have HHd28 := Lib.hid (HHc28.out.below (drewN_below' (Below.refl _ _) nq28))
        clear HP HT x0 x1 x2 y0 y1 y2 HSB
        generalize wc28.drewN nq28 = we28 at *
        cases hr : takeR s with
        | none =>
          have HT := Lib.hid (show ∀ wx, Calls Try.prog 19 #[.string ⟨s.toArray⟩] wx fun q w' => ∃ sa, q = .returned (.tuple #[.agg #[.int .i64 0, .int .i64 0, sa], .int .i64 2]) ∧ SlInt w' sa [] ∧ Below wx.heap.size wx w' from fun wx => by
              have h := HRS.out wx
              rw [hr] at h
              exact h)
          go_wp2_with (go_at_call 19; refine (HT.out _).mono ?_; rintro q wa29 ⟨sa, rfl, ⟨aa, caa, rfl, hca⟩, hba⟩; have HHa29 := Lib.hid (HHd28.out.below hba); clear hba hca)
          go_ret
          exact ⟨rfl, HHa29.out.hb.alloc HHa29.out.hb.size _⟩
        | some r =>
          obtain ⟨re, rv, rids⟩ := r
          have HT := Lib.hid (show ∀ wx, Calls Try.prog 19 #[.string ⟨s.toArray⟩] wx fun q w' => ∃ sa, q = .returned (.tuple #[.agg #[.int .i64 re, .int .i64 rv, sa], .int .i64 0]) ∧ SlInt w' sa rids ∧ Below wx.heap.size wx w' from fun wx => by
              have h := HRS.out wx
              rw [hr] at h
              exact h)
          have hrp := HRP.out _ hr
          dsimp only at hrp
          have HD := Lib.hid (show ∀ (sa : Value) wx, SlInt wx sa rids → Calls Try.prog 17 #[.agg #[.int .i64 re, .int .i64 rv, sa]] wx fun q w' => q = .returned (.tuple #[.string ⟨s.toArray⟩, .int .i64 0]) ∧ Below wx.heap.size wx w' from fun sa wx hx => by
              have h3 : rids.length ≤ 300 := by have h4 := hrp.1; unfold putrOk at h4; rw [Bool.and_eq_true, decide_eq_true_eq] at h4; omega
              have h := putr_any re rv rids sa wx hx h3
              unfold putrV at h
              rw [hrp.1, hrp.2] at h
              exact h)
          clear hrp
          go_upto_region 24 with (go_at_call 19; refine (HT.out _).mono ?_; rintro q wa30 ⟨sa, rfl, ⟨aa, caa, rfl, hca⟩, hba⟩; have HHa30 := Lib.hid (HHd28.out.below hba); have HSA := Lib.hid (show SlInt wa30 (.slice aa rids.length caa) rids from ⟨aa, caa, rfl, hca⟩); clear hba hca)
          have HN := Lib.hid (rpAt_new 40 wa30 re rv (.slice aa rids.length caa))
          have HHb30 := Lib.hid (HHa30.out.below ((Below.refl _ _).alloc (Nat.le_refl _) (.cells #[.int .i64 re, .int .i64 rv, .slice aa rids.length caa] 40 (0, 0))))
          have HSB := Lib.hid (slInt_below HSA.out ((Below.refl _ _).alloc (Nat.le_refl _) (.cells #[.int .i64 re, .int .i64 rv, .slice aa rids.length caa] 40 (0, 0))))
          have y0 := HN.out.c0
          have y1 := HN.out.c1
          have y2 := HN.out.c2
          clear HN HSA
          generalize wa30.alloc (.cells #[.int .i64 re, .int .i64 rv, .slice aa rids.length caa] 40 (0, 0)) = wb30 at *
          generalize wa30.heap.size = zb30 at *
          go_wp2_with (go_at_call 17; refine (HD.out _ _ HSB.out).mono ?_; rintro q wc30 ⟨rfl, hbc⟩; have HHc30 := Lib.hid (HHb30.out.below hbc); clear hbc)
          go_ret
          exact ⟨rfl, HHc30.out.hb⟩
set_option maxRecDepth 100000 in
theorem lifted (os : Os) (started : os.Started) (H : Type) (enc : TypeId × Value → H) :
    ReturnsInHanded {} Try.checked os 5 .any (Rows.wireBackSpec.pre6 enc Try.prog Try.f5 Rows.wireBackRow.domain false) (Rows.wireBackSpec.post enc Try.prog Try.f5 false true false false) := by
  refine returnsInHanded_of_change_sized (C := Try.checked) own_knob started (by kernel_rfl) Try.func5
    (ChangeSpec.witness6 (enc := enc) (C := Try.checked) false ⟨#[], #[.agg #[.int .i64 0, .int .i64 0, .int .i64 0, .int .i64 0, .int .i64 0, .int .i64 0, .int .i64 0, .int .i64 0], .agg #[.int .i64 0, .int .i64 0, .slice none 0 0], .string ByteArray.empty], []⟩ 8 (by kernel_rfl) (by kernel_rfl) (by kernel_rfl) (by kernel_rfl)) ?_
  intro W base args ds gs before hval0 hW hcnd hsz _
  have hval : ∀ (j : Nat) t v, Try.f5.params[j]? = some t → args[j]? = some v → Value.okWide Try.prog W .any base t v := hval0
  have hww : ∀ (j : Nat) (t : TypeId) (d : DataW H), Try.f5.params.toList[j]? = some t → ds[j]? = some d → ∀ n ∈ d.weights Try.prog t, n ≤ reachBytes := fun j t d h1 h2 => weights_of hsz j h1 h2
  have hW' := hW
  obtain ⟨p, q, hA0, hV, rfl, hfz, hnd⟩ := hW
  have hA : DataW.TrodAll enc Try.prog W 0 (fun _ => true) true Try.f5.params.toList args.toList ds p := hA0
  rw [Try.params5] at hA hval hww
  obtain ⟨v0, vs0, d0, ds0, p0, q0, hargs, rfl, rfl, h0, r0⟩ := trodAll_cons hA
  obtain ⟨v1, vs1, d1, ds1, p1, q1, rfl, rfl, rfl, h1, r1⟩ := trodAll_cons r0
  obtain ⟨v2, vs2, d2, ds2, p2, q2, rfl, rfl, rfl, h2, r2⟩ := trodAll_cons r1
  obtain ⟨rfl, rfl, rfl⟩ := trodAll_nil r2
  obtain rfl : args = #[v0, v1, v2] := by cases args; simp_all
  obtain ⟨c0, rfl, hin0⟩ := open_cmd (hval 0 23 v0 rfl rfl) h0 (hww 0 23 d0 rfl rfl)
  obtain ⟨rq1, sl1, rfl, hsl1, hin1⟩ := open_rep (hval 1 40 v1 rfl rfl) h1 (hww 1 40 d1 rfl rfl)
  have hr2 := hww 2 9 d2 rfl rfl
  obtain ⟨a2, rfl, hd2, _, _⟩ := open_string Try.underlying9 (hval 2 9 v2 rfl rfl) h2
  have hl2 : a2.size ≤ reachBytes := string_reach hd2 hr2
  clear hA0 hval0
  refine (walk c0 hin0 rq1 sl1 hin1 a2 hl2 W hsl1).mono fun e W' ⟨he, hb⟩ => ?_
  subst he
  exact ⟨_, rfl, law_post hW' (by kernel_rfl) rfl rfl (by
    intro t ht
    rw [Try.params5] at ht
    simp at ht
    rcases ht with rfl | rfl | rfl
    all_goals exact ⟨by kernel_rfl, of_decide_eq_true (by kernel_rfl)⟩) hb⟩
theorem over : Rows.wireBackRow.holds Try.pinned (OpenSpec.ofChange Rows.wireBackSpec) :=
  OpenClaim.holds_of_wide 5 Try.f5 rfl rfl rfl rfl rfl rfl rfl ⟨rfl, rfl, rfl, rfl, rfl⟩ rfl rfl rfl rfl rfl (by kernel_rfl) Try.func5 (by kernel_rfl)
    (of_decide_eq_true (by kernel_rfl)) (by unfold Func.isWrapper; first | (rw [if_pos (by decide +kernel)]; kernel_rfl) | (rw [if_neg (by decide +kernel)]; exact ⟨rfl, rfl⟩))
    (fun os started H enc _ => lifted os started H enc)
theorem proved : Rows.WireBackSaid := over
#print axioms proved
end Go.Proofs.Ytdpllkmbnphdgaa.wireBack
