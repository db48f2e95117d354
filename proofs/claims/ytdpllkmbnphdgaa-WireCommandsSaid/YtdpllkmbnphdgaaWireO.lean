/- Wire: the program's PutReply. -/
import Derived.Test.YtdpllkmbnphdgaaWireK
namespace Go.Proofs.Ytdpllkmbnphdgaa
open Go.RowKit

/-- a reply's bytes. -/
def putrB (e v : Int) (ids : List Int) : List UInt8 := kb e :: (be v 8 ++ be ids.length 2 ++ ids.flatMap fun n => be n 4)
def putrOk (e : Int) (ids : List Int) : Bool := decide (0 ≤ e ∧ e ≤ 255 ∧ ids.length ≤ 200) && ids.all fun n => fits n 4
def putrV (e v : Int) (ids : List Int) : Value := if putrOk e ids then .tuple #[.string ⟨(putrB e v ids).toArray⟩, .int .i64 0] else .tuple #[.string ⟨#[]⟩, .int .i64 2]
theorem ids_len (ids : List Int) : (ids.flatMap fun n => be n 4).length = 4 * ids.length := by
  induction ids with
  | nil => rfl
  | cons n ids ih => simp only [List.flatMap_cons, List.length_append, be_len, ih, List.length_cons]; omega
theorem slInt_below {w w' : World} {v : Value} {L : List Int} (h : SlInt w v L) (hb : Below w.heap.size w w') : SlInt w' v L := by
  obtain ⟨a, c, e, hc⟩ := h
  refine ⟨a, c, e, fun hne => ?_⟩
  obtain ⟨b, o, ea, hx⟩ := hc hne
  exact ⟨b, o, ea, fun j x hj => kept_cell hb (hx j x hj)⟩
theorem all_false' {L : List Int} {f : Int → Bool} {j : Nat} {p : Int} (h : L[j]? = some p) (hf : f p = false) : L.all f = false := by
  rw [List.all_eq_false]
  exact ⟨p, List.mem_of_getElem? h, by simp [hf]⟩
set_option maxRecDepth 100000 in
set_option maxHeartbeats 4000000 in
theorem putr_any (e v : Int) (ids : List Int) (sl : Value) (w : World) (h : SlInt w sl ids) (hlen : ids.length ≤ 300) :
    Calls Try.prog 17 #[.agg #[.int .i64 e, .int .i64 v, sl]] w fun q w' => q = .returned (putrV e v ids) ∧ Below w.heap.size w w' := by
  have HPV := Lib.hid (show putrV e v ids = if putrOk e ids then .tuple #[.string ⟨(putrB e v ids).toArray⟩, .int .i64 0] else .tuple #[.string ⟨#[]⟩, .int .i64 2] from rfl)
  generalize putrV e v ids = pv at *
  obtain ⟨a, ca, rfl, hcells⟩ := h
  have HC := Lib.hid hcells
  have hb1 := (Below.refl w.heap.size w).alloc (Nat.le_refl _) (.cells #[.int .i64 e, .int .i64 v, .slice a ids.length ca] 40 (0, 0))
  have HB1 := Lib.hid hb1
  clear hb1 hcells
  have hli : (ids.length : Int) ≤ 300 := by omega
  by_cases hbad : 0 ≤ e ∧ e ≤ 255 ∧ ids.length ≤ 200
  · have he0 : 0 ≤ e := hbad.1
    have he1 : e ≤ 255 := hbad.2.1
    have hl2 : (ids.length : Int) ≤ 200 := by have := hbad.2.2; omega
    have HPO := Lib.hid (show putrOk e ids = ids.all fun n => fits n 4 by unfold putrOk; rw [decide_eq_true hbad]; rfl)
    clear hbad hlen
    go_enter Try.func17, Try.ntmps17
    have hke : Value.int .u8 e = .int .u8 (kb e).toNat := by
      have := byte_val e
      rw [show e % 256 = e by omega] at this
      rw [show kb e = UInt8.ofNat e.toNat by unfold kb; rw [show e % 256 = e by omega]]
      exact this
    have HKE := Lib.hid hke
    clear hke
    go_wp2_with fail
    have hsz : (w.alloc (.cells #[.int .i64 e, .int .i64 v, .slice a ids.length ca] 40 (0, 0))).heap.size = w.heap.size + 1 := by simp
    have hnew := heap_alloc_new w (.cells #[.int .i64 e, .int .i64 v, .slice a ids.length ca] 40 (0, 0))
    have hb2 := (Below.refl (w.heap.size + 1) (w.alloc (.cells #[.int .i64 e, .int .i64 v, .slice a ids.length ca] 40 (0, 0)))).alloc (by rw [hsz]; omega) (.cells #[.int .u8 e] 5 (0, 0))
    have how : ((w.alloc (.cells #[.int .i64 e, .int .i64 v, .slice a ids.length ca] 40 (0, 0))).alloc (.cells #[.int .u8 e] 5 (0, 0))).ownsRow (w.heap.size + 1) 5 1 (.slice (some ⟨w.heap.size + 1, 0, none⟩) 1 1) [kb e].length (bytesV [kb e]) := by
      refine ⟨rfl, Or.inr ⟨w.heap.size + 1, 1, #[.int .u8 e], rfl, by omega, ?_, Nat.le_refl _, by decide, rfl, by rw [HKE.out]; rfl⟩⟩
      have := heap_alloc_new (w.alloc (.cells #[.int .i64 e, .int .i64 v, .slice a ids.length ca] 40 (0, 0))) (.cells #[.int .u8 e] 5 (0, 0))
      rwa [hsz] at this
    refine (lay64_any (w.heap.size + 1) _ [kb e] (by simp) v 8 (by omega) _ how (by simp)).mono ?_
    rintro q w1 ⟨v1, rfl, ho1, hb3, -⟩
    have hb4 := hb2.trans hb3
    have hs1 : w.heap.size + 1 ≤ w1.heap.size := Nat.le_trans (by simp) hb3.size
    have hbox : w1.heap[w.heap.size]? = some (.cells #[.int .i64 e, .int .i64 v, .slice a ids.length ca] 40 (0, 0)) := by
      rw [hb4.block _ (by omega)]; exact hnew
    have x2 := (cell_of_row _ _ 2 _ _ _ hbox).trans rfl
    have HOW := Lib.hid ho1
    have HBX := Lib.hid hbox
    have HB4 := Lib.hid (HB1.out.trans (hb4.mono (by omega)))
    clear hsz hnew hb2 how hb3 hb4 ho1 hbox HB1
    go_wp2_with fail
    refine (layInt_any (w.heap.size + 1) _ _ (by simp [be_len]) ids.length 2 (by omega) _ HOW.out hs1).mono ?_
    rintro q w2 ⟨v2, rfl, ho2, hb5, -⟩
    have hbox : w2.heap[w.heap.size]? = some (.cells #[.int .i64 e, .int .i64 v, .slice a ids.length ca] 40 (0, 0)) := by
      rw [hb5.block _ (by omega)]; exact HBX.out
    have x2 := (cell_of_row _ _ 2 _ _ _ hbox).trans rfl
    have hs2 : w.heap.size + 1 ≤ w2.heap.size := Nat.le_trans hs1 hb5.size
    have HOW2 := Lib.hid (show w2.ownsRow (w.heap.size + 1) 5 1 v2 (kb e :: (be v 8 ++ be ids.length 2)).length (bytesV (kb e :: (be v 8 ++ be ids.length 2))) by simpa using ho2)
    have HB6 := Lib.hid (HB4.out.trans (hb5.mono (by omega)))
    clear hb5 ho2 hbox HOW HBX HB4 hs1
    go_wp2_with fail
    clear x2
    go_loopw [4, 36] (fun b i wr => ∃ (j : Nat) (acc : List UInt8), j ≤ ids.length ∧ i = .int .i64 j ∧ (ids.take j).all (fun n => fits n 4) = true ∧ kb e :: (be v 8 ++ be ids.length 2 ++ (ids.take j).flatMap fun n => be n 4) = acc ∧ wr.ownsRow (w.heap.size + 1) 5 1 b acc.length (bytesV acc) ∧ Below w.heap.size w wr ∧ w.heap.size + 1 ≤ wr.heap.size) (fun _ i _ => ids.length - (intOf i).toNat)
    case atStart => exact ⟨0, _, by omega, rfl, rfl, rfl, by simpa using HOW2.out, HB6.out, hs2⟩
    case round =>
      obtain ⟨j, acc, hj, rfl, hall, hacc, how, hbel, hsr⟩ := hrel
      have HA := Lib.hid hall
      have HACC := Lib.hid hacc
      have HB := Lib.hid hbel
      have hal : acc.length ≤ 4096 := by
        rw [← hacc]
        have h2 : (ids.take j).length ≤ 200 := by rw [List.length_take]; omega
        simp only [List.length_cons, List.length_append, be_len, ids_len]
        omega
      have HAL := Lib.hid hal
      have HOW := Lib.hid how
      clear hall hacc HOW2 HB6 hal how
      by_cases hlt : j < ids.length
      · have hq1 : (j : Int) < ids.length := by omega
        obtain ⟨b, o, rfl, hcell⟩ := HC.out (by intro h; rw [h] at hlt; simp at hlt)
        have hp : ids[j]? = some ids[j] := by simp [hlt]
        have hx := kept_cell hbel (hcell j _ hp)
        have HLJ := Lib.hid hp
        have HTK := Lib.hid (show ids.take (j + 1) = ids.take j ++ [ids[j]] from List.take_succ_eq_append_getElem hlt)
        generalize ids[j] = x at *
        clear hcell hbel hp
        cases hfit : fits x 4
        · have HF := Lib.hid hfit
          go_wp2_with (go_at_call 35; refine (within_any x 4 _).mono ?_; rintro q w3 ⟨rfl, rfl⟩)
          go_ret2
          exact ⟨by rw [HPV.out, HPO.out, all_false' HLJ.out HF.out]; rfl, HB.out⟩
        · have HF := Lib.hid hfit
          go_wp2_with (first
            | (go_at_call 35; refine (within_any x 4 _).mono ?_; rintro q w3 ⟨rfl, rfl⟩)
            | (go_at_call 28; refine (layInt_any (w.heap.size + 1) _ _ HAL.out x 4 (by omega) _ HOW.out hsr).mono ?_; rintro q w4 ⟨v4, rfl, ho4, hb4, -⟩; replace ho4 := Lib.hid ho4; replace hb4 := Lib.hid hb4))
          have HB7 := Lib.hid (HB.out.trans (hb4.out.mono (by omega)))
          have HS7 := Lib.hid (Nat.le_trans hsr hb4.out.size)
          clear hb4 hx HOW
          go_roundw
          case rel => exact ⟨j + 1, _, by omega, by go_num, by rw [HTK.out, List.all_append, HA.out]; simp [HF.out], by rw [HTK.out, ← HACC.out]; simp, ho4.out, HB7.out, HS7.out⟩
          case measure => simp [intOf]; omega
      · obtain rfl : j = ids.length := by omega
        rw [List.take_length] at HA HACC
        have hcv := conv_own HOW.out (by rw [← HACC.out]; simp)
        clear HOW hbel
        have HR := Lib.hid (show pv = .tuple #[.string ⟨acc.toArray⟩, .int .i64 0] by rw [HPV.out, HPO.out, HA.out, ← HACC.out]; rfl)
        generalize acc.toArray = res at *
        go_wp2
        go_ret2
        exact ⟨by rw [HR.out]; rfl, HB.out⟩
  · have HNO := Lib.hid (show putrOk e ids = false by unfold putrOk; rw [decide_eq_false hbad]; rfl)
    have hne : e < 0 ∨ 255 < e ∨ (200 : Int) < ids.length := by omega
    clear hbad hlen
    go_enter Try.func17, Try.ntmps17
    rcases hne with h | h | h
    · go_wp2
      go_ret2
      exact ⟨by rw [HPV.out, HNO.out]; rfl, HB1.out⟩
    · have h0 : 0 ≤ e := by omega
      go_wp2
      go_ret2
      exact ⟨by rw [HPV.out, HNO.out]; rfl, HB1.out⟩
    · go_wp2
      all_goals
        go_ret2
        exact ⟨by rw [HPV.out, HNO.out]; rfl, HB1.out⟩
end Go.Proofs.Ytdpllkmbnphdgaa
