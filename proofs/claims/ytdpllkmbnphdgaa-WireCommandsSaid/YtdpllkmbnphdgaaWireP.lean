/- Wire: the document's PutReply. -/
import Derived.Test.YtdpllkmbnphdgaaWireL
import Derived.Test.YtdpllkmbnphdgaaWireO
namespace Go.Proofs.Ytdpllkmbnphdgaa
open Go.RowKit

theorem convc {w : World} {g : Nat} {b : UInt8} (h : w.cell? ⟨g, 0, none⟩ = some (.int .u8 b.toNat)) : (convert 51 9 (.slice (some ⟨g, 0, none⟩) 1 1)).run Try.prog w = .ok (.string ⟨[b].toArray⟩) w := by
  refine run_convert_bytes_back (P := Try.prog) _ 51 9 5 ⟨g, 0, none⟩ 1 [b] Try.underlying51 Try.underlying5 Try.underlying9 ?_
  intro j hj
  obtain rfl : j = 0 := by simpa using hj
  simpa [Addr.add] using h
theorem new_one (w : World) (b : Value) (t : TypeId) : (w.alloc (.cells #[b] t (0, 0))).cell? ⟨w.heap.size, 0, none⟩ = some b :=
  (cell_of_row _ _ 0 _ _ _ (heap_alloc_new w (.cells #[b] t (0, 0)))).trans rfl
theorem new_ad (w : World) (b : Value) (t : TypeId) : (w.alloc (.cells #[b] t (0, 0))).drew.cell? ⟨w.heap.size, 0, none⟩ = some b := new_one w b t
theorem below_ad (w : World) (o : Obj) : Below w.heap.size w (w.alloc o).drew := ((Below.refl _ _).alloc (Nat.le_refl _) o).drew
theorem below_drew (w : World) : Below w.heap.size w w.drew := (Below.refl _ _).drew
theorem s4_below {w0 w w' : World} {g : Nat} {a b c : Value} (hb : Below w.heap.size w w') (h : w.cell? ⟨g, 0, none⟩ = some a ∧ w.cell? ⟨g, 1, none⟩ = some b ∧ w.cell? ⟨g, 2, none⟩ = some c ∧ Below w0.heap.size w0 w) :
    w'.cell? ⟨g, 0, none⟩ = some a ∧ w'.cell? ⟨g, 1, none⟩ = some b ∧ w'.cell? ⟨g, 2, none⟩ = some c ∧ Below w0.heap.size w0 w' :=
  ⟨kept_cell hb h.1, kept_cell hb h.2.1, kept_cell hb h.2.2.1, h.2.2.2.trans (hb.mono h.2.2.2.size)⟩
theorem u64_of (x : Int) : IntKind.u64.wrap x = (u64 x : Nat) := by rw [IntKind.wrap_u64]; unfold u64; omega
theorem lay4 (x : Int) (wx : World) : Calls Try.prog 31 #[.int .u64 (IntKind.u64.wrap x), .int .i64 4] wx fun q wy => q = .returned (.string ⟨(nbe (u64 x) 4).toArray⟩) ∧ Below wx.heap.size wx wy := by
  have h := rlay_any (u64 x) (by unfold u64; omega) 4 (by omega) wx
  rw [← u64_of] at h
  exact h
theorem u64_le (x : Int) : ((u64 x : Nat) : Int) ≤ 18446744073709551615 := by unfold u64; omega
set_option maxRecDepth 100000 in
set_option maxHeartbeats 8000000 in
theorem rputr_any (e v : Int) (ids : List Int) (sl : Value) (w : World) (h : SlInt w sl ids) (hlen : (ids.length : Int) ≤ 65535) :
    Calls Try.prog 18 #[.agg #[.int .i64 e, .int .i64 v, sl]] w fun q w' => q = .returned (putrV e v ids) ∧ Below w.heap.size w w' := by
  have HPV := Lib.hid (show putrV e v ids = if putrOk e ids then .tuple #[.string ⟨(putrB e v ids).toArray⟩, .int .i64 0] else .tuple #[.string ⟨#[]⟩, .int .i64 2] from rfl)
  generalize putrV e v ids = pv at *
  obtain ⟨a, ca, rfl, hcells⟩ := h
  have HC := Lib.hid hcells
  have hb1 := (Below.refl w.heap.size w).alloc (Nat.le_refl _) (.cells #[.int .i64 e, .int .i64 v, .slice a ids.length ca] 43 (0, 0))
  have hbx := heap_alloc_new w (.cells #[.int .i64 e, .int .i64 v, .slice a ids.length ca] 43 (0, 0))
  have HB1 := Lib.hid hb1
  have HBX := Lib.hid hbx
  clear hb1 hcells hbx
  have hli : (ids.length : Int) ≤ 65535 := hlen
  by_cases hbad : 0 ≤ e ∧ e ≤ 255 ∧ ids.length ≤ 200
  · have he0 : 0 ≤ e := hbad.1
    have he1 : e ≤ 255 := hbad.2.1
    have hl2 : (ids.length : Int) ≤ 200 := by have := hbad.2.2; omega
    have HPO := Lib.hid (show putrOk e ids = ids.all fun n => fits n 4 by unfold putrOk; rw [decide_eq_true hbad]; rfl)
    clear hbad hlen
    have hke : Value.int .u8 e = .int .u8 (kb e).toNat := by
      have := byte_val e
      rw [show e % 256 = e by omega] at this
      rw [show kb e = UInt8.ofNat e.toNat by unfold kb; rw [show e % 256 = e by omega]]
      exact this
    have HKE := Lib.hid hke
    clear hke
    go_enter Try.func18, Try.ntmps18
    go_upto_region 3 with (fail)
    have hnb := HBX.out
    have X : (w.alloc (.cells #[.int .i64 e, .int .i64 v, .slice a ids.length ca] 43 (0, 0))).cell? ⟨w.heap.size, 0, none⟩ = some (.int .i64 e) ∧ (w.alloc (.cells #[.int .i64 e, .int .i64 v, .slice a ids.length ca] 43 (0, 0))).cell? ⟨w.heap.size, 1, none⟩ = some (.int .i64 v) ∧ (w.alloc (.cells #[.int .i64 e, .int .i64 v, .slice a ids.length ca] 43 (0, 0))).cell? ⟨w.heap.size, 2, none⟩ = some (.slice a ids.length ca) ∧ Below w.heap.size w (w.alloc (.cells #[.int .i64 e, .int .i64 v, .slice a ids.length ca] 43 (0, 0))) :=
      ⟨(cell_of_row _ _ 0 _ _ _ hnb).trans rfl, (cell_of_row _ _ 1 _ _ _ hnb).trans rfl, (cell_of_row _ _ 2 _ _ _ hnb).trans rfl, HB1.out⟩
    have L8 := Lib.hid (show ∀ wx, Calls Try.prog 31 #[.int .u64 (IntKind.u64.wrap v), .int .i64 8] wx fun q wy => q = .returned (.string ⟨(nbe (u64 v) 8).toArray⟩) ∧ Below wx.heap.size wx wy by
      intro wx; rw [u64_of]; exact rlay_any (u64 v) (u64_le v) 8 (by omega) wx)
    have L2 := Lib.hid (show ∀ wx, Calls Try.prog 31 #[.int .u64 (IntKind.u64.wrap ids.length), .int .i64 2] wx fun q wy => q = .returned (.string ⟨(nbe (u64 ids.length) 2).toArray⟩) ∧ Below wx.heap.size wx wy by
      intro wx; rw [u64_of]; exact rlay_any (u64 ids.length) (u64_le _) 2 (by omega) wx)
    have hkw : Value.int .u8 (IntKind.u8.wrap e) = .int .u8 (kb e).toNat := by
      rw [← HKE.out]; congr 1; rw [IntKind.wrap_u8]; omega
    have hcv : ∀ (W : World) (g : Nat), W.cell? ⟨g, 0, none⟩ = some (.int .u8 (IntKind.u8.wrap e)) → (convert 51 9 (.slice (some ⟨g, 0, none⟩) 1 1)).run Try.prog W = .ok (.string ⟨[kb e].toArray⟩) W := by
      intro W g h; rw [hkw] at h; exact convc h
    have hcat1 := cat_run [kb e] (nbe (u64 v) 8) (by rw [nbe_len]; simp)
    have hcat2 := cat_run ([kb e] ++ nbe (u64 v) 8) (nbe (u64 ids.length) 2) (by rw [List.length_append, nbe_len, nbe_len]; simp)
    have HST := Lib.hid (show [kb e] ++ nbe (u64 v) 8 ++ nbe (u64 ids.length) 2 = kb e :: (be v 8 ++ be ids.length 2) by rw [be_nbe v 8 (by omega), be_nbe ids.length 2 (by omega)]; rfl)
    clear hkw hnb
    generalize nbe (u64 v) 8 = n8 at *
    generalize nbe (u64 ids.length) 2 = n2 at *
    generalize [kb e] ++ n8 ++ n2 = m2 at *
    generalize [kb e] ++ n8 = m1 at *
    have NB : ((w.alloc (.cells #[.int .i64 e, .int .i64 v, .slice a ids.length ca] 43 (0, 0))).alloc (.cells #[.int .u8 (IntKind.u8.wrap e)] 5 (0, 0))).drew.cell? ⟨w.heap.size + 1, 0, none⟩ = some (.int .u8 (IntKind.u8.wrap e)) := by
      have := new_ad (w.alloc (.cells #[.int .i64 e, .int .i64 v, .slice a ids.length ca] 43 (0, 0))) (.int .u8 (IntKind.u8.wrap e)) 5
      rwa [show (w.alloc (.cells #[.int .i64 e, .int .i64 v, .slice a ids.length ca] 43 (0, 0))).heap.size = w.heap.size + 1 by simp] at this
    go_cut [4] (fun s wx => s = .string ⟨(kb e :: (be v 8 ++ be ids.length 2)).toArray⟩ ∧ wx.cell? ⟨w.heap.size, 0, none⟩ = some (.int .i64 e) ∧ wx.cell? ⟨w.heap.size, 1, none⟩ = some (.int .i64 v) ∧ wx.cell? ⟨w.heap.size, 2, none⟩ = some (.slice a ids.length ca) ∧ Below w.heap.size w wx)
    case first =>
      go_region_held (fun wx => wx.cell? ⟨w.heap.size, 0, none⟩ = some (.int .i64 e) ∧ wx.cell? ⟨w.heap.size, 1, none⟩ = some (.int .i64 v) ∧ wx.cell? ⟨w.heap.size, 2, none⟩ = some (.slice a ids.length ca) ∧ Below w.heap.size w wx) (first | assumption | exact s4_below (below_drew _) X | exact s4_below (below_ad _ _) X | exact s4_below (below_ad _ _) (by assumption) | exact s4_below ((Below.refl _ _).alloc (Nat.le_refl _) _) (by assumption) | exact s4_below hb8 (by assumption) | exact s4_below hb2 (by assumption))
        (first
          | (go_at_call_of 31 (Value.int IntKind.u64 (IntKind.u64.wrap v)); refine (L8.out _).mono ?_; rintro q w8 ⟨rfl, hb8⟩; (try have clA := kept_cell hb8 NB); (try have clB := kept_cell hb8 (new_one _ _ _)); (try have clC := kept_cell hb8 clP); (try have clD := kept_cell hb8 clQ))
          | (go_at_call_of 31 (Value.int IntKind.u64 (IntKind.u64.wrap ids.length)); refine (L2.out _).mono ?_; rintro q w2 ⟨rfl, hb2⟩; (try have clP := kept_cell hb2 NB); (try have clQ := kept_cell hb2 (new_one _ _ _)); (try have clR := kept_cell hb2 clA); (try have clS := kept_cell hb2 clB)))
      all_goals
        go_wp2_with fail
        go_meet
        exact ⟨by rw [← HST.out], by assumption⟩
    case rest =>
      obtain ⟨rfl, hc0, hc1, hc2, hbel⟩ := hcut
      have HB := Lib.hid hbel
      clear hbel hc0 hc1 X NB hcv hcat1 hcat2 L8 L2 HST
      have HBX2 := Lib.hid hc2
      go_wp2_with fail
      clear hc2
      go_loopw [4, 5] (fun s i wr => ∃ (j : Nat) (acc : List UInt8), j ≤ ids.length ∧ i = .int .i64 j ∧ (ids.take j).all (fun n => fits n 4) = true ∧ kb e :: (be v 8 ++ be ids.length 2 ++ (ids.take j).flatMap fun n => be n 4) = acc ∧ s = .string ⟨acc.toArray⟩ ∧ wr.cell? ⟨w.heap.size, 2, none⟩ = some (.slice a ids.length ca) ∧ Below w.heap.size w wr) (fun _ i _ => ids.length - (intOf i).toNat)
      case atStart => exact ⟨0, _, by omega, rfl, rfl, rfl, by simp, HBX2.out, HB.out⟩
      case round =>
        obtain ⟨j, acc, hj, rfl, hall, hacc, rfl, hc2, hbel⟩ := hrel
        clear HBX2 HB
        have HA := Lib.hid hall
        have HACC := Lib.hid hacc
        have HB := Lib.hid hbel
        have hal : acc.length ≤ 4096 := by
          rw [← hacc]
          have h2 : (ids.take j).length ≤ 200 := by rw [List.length_take]; omega
          simp only [List.length_cons, List.length_append, be_len, ids_len]
          omega
        clear hall hacc
        by_cases hlt : j < ids.length
        · have hq1 : (j : Int) < ids.length := by omega
          obtain ⟨b, o, rfl, hcell⟩ := HC.out (by intro h; rw [h] at hlt; simp at hlt)
          have hp : ids[j]? = some ids[j] := by simp [hlt]
          have hx := kept_cell hbel (hcell j _ hp)
          have HLJ := Lib.hid hp
          have HTK := Lib.hid (show ids.take (j + 1) = ids.take j ++ [ids[j]] from List.take_succ_eq_append_getElem hlt)
          generalize ids[j] = x at *
          clear hcell hbel hp
          by_cases h0 : 0 ≤ x
          · by_cases h1 : x ≤ 2147483647
            · have HF := Lib.hid (show fits x 4 = true by simp [fits, h0, h1])
              have hcat := cat_run acc (nbe (Go.Proofs.Ytdpllkmbnphdgaa.u64 x) 4) (by rw [nbe_len]; omega)
              have HST := Lib.hid (show acc ++ nbe (Go.Proofs.Ytdpllkmbnphdgaa.u64 x) 4 = kb e :: (be v 8 ++ be ids.length 2 ++ (ids.take (j + 1)).flatMap fun n => be n 4) by rw [HTK.out, ← HACC.out, ← be_nbe x 4 (by omega)]; simp)
              have hux : IntKind.u64.wrap x = x := IntWalk.u64_in x (by omega)
              have hl4 := lay4 x
              rw [hux] at hl4
              have HL := Lib.hid hl4
              clear hl4 hux
              generalize nbe (Go.Proofs.Ytdpllkmbnphdgaa.u64 x) 4 = n4 at *
              generalize acc ++ n4 = acc2 at *
              go_wp2_with (go_at_call 31; refine (HL.out _).mono ?_; rintro q w5 ⟨rfl, hb5⟩; replace hb5 := Lib.hid hb5)
              have HB7 := Lib.hid (HB.out.trans (hb5.out.mono HB.out.size))
              have HC7 := Lib.hid (kept_cell hb5.out hc2)
              clear hb5 hx hc2
              go_roundw
              case rel => exact ⟨j + 1, acc2, by omega, by go_num, by rw [HTK.out, List.all_append, HA.out]; simp [HF.out], HST.out.symm, rfl, HC7.out, HB7.out⟩
              case measure => simp [intOf]; omega
            · have HF := Lib.hid (show fits x 4 = false by simp [fits, h0, h1])
              go_wp2
              go_ret2
              exact ⟨by rw [HPV.out, HPO.out, all_false' HLJ.out HF.out]; rfl, HB.out⟩
          · have HF := Lib.hid (show fits x 4 = false by simp [fits, h0])
            go_wp2
            go_ret2
            exact ⟨by rw [HPV.out, HPO.out, all_false' HLJ.out HF.out]; rfl, HB.out⟩
        · obtain rfl : j = ids.length := by omega
          rw [List.take_length] at HA HACC
          have HR := Lib.hid (show pv = .tuple #[.string ⟨acc.toArray⟩, .int .i64 0] by rw [HPV.out, HPO.out, HA.out, ← HACC.out]; rfl)
          generalize acc.toArray = res at *
          go_wp2
          go_ret2
          exact ⟨by rw [HR.out]; rfl, HB.out⟩
  · have HNO := Lib.hid (show putrOk e ids = false by unfold putrOk; rw [decide_eq_false hbad]; rfl)
    have hne : e < 0 ∨ 255 < e ∨ (200 : Int) < ids.length := by omega
    clear hbad hlen
    go_enter Try.func18, Try.ntmps18
    rcases hne with h | h | h
    · go_wp2
      go_ret2
      exact ⟨by rw [HPV.out, HNO.out]; rfl, HB1.out⟩
    · have h0 : 0 ≤ e := by omega
      go_wp2
      go_ret2
      exact ⟨by rw [HPV.out, HNO.out]; rfl, HB1.out⟩
    · go_wp2
      all_goals
        go_ret2
        exact ⟨by rw [HPV.out, HNO.out]; rfl, HB1.out⟩
end Go.Proofs.Ytdpllkmbnphdgaa
