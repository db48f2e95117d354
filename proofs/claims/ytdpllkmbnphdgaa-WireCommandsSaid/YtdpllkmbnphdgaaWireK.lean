/- Wire: the program's Put. -/
import Derived.Test.YtdpllkmbnphdgaaWireI
namespace Go.Proofs.Ytdpllkmbnphdgaa
open Go.RowKit

/-- the first byte, and the fields' bytes. -/
def layAll (n : Nat → Int) (L : List (Nat × Nat)) : List UInt8 := L.flatMap fun p => be (n p.1) p.2
def kb (k : Int) : UInt8 := UInt8.ofNat (k % 256).toNat
theorem be_len (n : Int) : ∀ k, (be n k).length = k
  | 0 => rfl
  | k + 1 => by simp [be, be_len n k]
theorem layAll_len (n : Nat → Int) : ∀ (L : List (Nat × Nat)), (∀ p ∈ L, p.2 ≤ 8) → (layAll n L).length ≤ 8 * L.length
  | [], _ => by simp [layAll]
  | p :: L, h => by
    have h1 := layAll_len n L (fun q hq => h q (List.mem_cons_of_mem _ hq))
    have h2 := h p List.mem_cons_self
    unfold layAll at h1 ⊢
    simp only [List.flatMap_cons, List.length_append, be_len, List.length_cons]
    omega
theorem layAll_snoc (n : Nat → Int) (L : List (Nat × Nat)) (p : Nat × Nat) : layAll n (L ++ [p]) = layAll n L ++ be (n p.1) p.2 := by simp [layAll]
theorem conv_own {B : Nat} {v : Value} {acc : List UInt8} {w : World} (h : w.ownsRow B 5 1 v acc.length (bytesV acc)) (hne : acc ≠ []) :
    (convert 51 9 v).run Try.prog w = .ok (.string ⟨acc.toArray⟩) w := by
  have hpos : 0 < acc.length := List.length_pos_iff.2 hne
  rcases h.2 with ⟨_, h0⟩ | ⟨g, cap, cur, rfl, _, hc, _, _, _, ht⟩
  · omega
  · refine run_convert_bytes_back (P := Try.prog) _ 51 9 5 ⟨g, 0, none⟩ cap acc Try.underlying51 Try.underlying5 Try.underlying9 ?_
    intro j hj
    rw [Addr.add_mid, Nat.zero_add, cell_of_row _ _ _ _ _ _ hc]
    have : (bytesV acc)[j]? = some (.int .u8 acc[j].toNat) := by simp [bytesV, hj]
    rw [← ht, List.getElem?_take] at this
    split at this
    · simpa using this
    · cases this
theorem CmAt.kept8 {w w' : World} {g : Nat} {c : Cm} (h : CmAt w g c) (hk : Kept8 w w') : CmAt w' g c := hk _ _ _ _ h (by decide)
theorem fieldsAt_kept8 {w w' : World} {B g : Nat} {v : Value} {L : List (Nat × Nat)} (h : FieldsAt w B g v L) (hk : Kept8 w w') : FieldsAt w' B g v L := by
  obtain ⟨a, e, h2⟩ := h
  refine ⟨a, e, fun hne => ?_⟩
  obtain ⟨b, hB, ea, hc⟩ := h2 hne
  exact ⟨b, hB, ea, hk _ _ _ _ hc (by decide)⟩
structure PutR (w : World) (gc : Nat) (c : Cm) (L : List (Nat × Nat)) (b fs : Value) (acc : List UInt8) (wr : World) : Prop where
  hc : CmAt wr gc c
  ff : FieldsAt wr w.heap.size gc fs L
  ow : wr.ownsRow w.heap.size 5 1 b acc.length (bytesV acc)
  bel : Below w.heap.size w wr
theorem own_below {B B' n : Nat} {t : TypeId} {v : Value} {xs : List Value} {w w' : World} (h : w.ownsRow B t 1 v n xs) (hb : Below B' w w') (hB : B' = w.heap.size) : w'.ownsRow B t 1 v n xs := by
  subst hB
  refine ⟨h.1, ?_⟩
  rcases h.2 with hn | ⟨g, cap, cur, rfl, hb2, hgg, rest⟩
  · exact .inl hn
  · exact .inr ⟨g, cap, cur, rfl, hb2, by rw [hb.block g (Array.getElem?_eq_some_iff.1 hgg).1]; exact hgg, rest⟩
theorem PutR.below {w : World} {gc : Nat} {c : Cm} {L : List (Nat × Nat)} {b fs : Value} {acc : List UInt8} {wr w' : World} (h : PutR w gc c L b fs acc wr) (hb : Below wr.heap.size wr w') : PutR w gc c L b fs acc w' :=
  ⟨h.hc.below hb, fieldsAt_below h.ff hb, own_below h.ow hb rfl, h.bel.trans (hb.mono h.bel.size)⟩
/-- a command's bytes. -/
def putB (c : Cm) : List UInt8 := kb c.k :: layAll c.n (specs c.k)
def putV (c : Cm) : Value := if may c then .tuple #[.string ⟨(putB c).toArray⟩, .int .i64 0] else .tuple #[.string ⟨#[]⟩, .int .i64 2]
set_option maxRecDepth 100000 in
set_option maxHeartbeats 4000000 in
theorem put_any (c : Cm) (w : World) :
    Calls Try.prog 10 #[.agg c.cells] w fun e w' => e = .returned (putV c) ∧ Below w.heap.size w w' := by
  have hn0 := cmAt_new w c
  have hb0 := (Below.refl w.heap.size w).alloc (Nat.le_refl _) (.cells c.cells 23 (0, 0))
  have hsz : (w.alloc (.cells c.cells 23 (0, 0))).heap.size = w.heap.size + 1 := by simp
  have HMAY := Lib.hid (may_any c)
  have HPV := Lib.hid (show putV c = if may c then .tuple #[.string ⟨(putB c).toArray⟩, .int .i64 0] else .tuple #[.string ⟨#[]⟩, .int .i64 2] from rfl)
  generalize putV c = pv at *
  have HN0 := Lib.hid hn0
  have HB0 := Lib.hid hb0
  have HSZ := Lib.hid hsz
  clear hn0 hb0 hsz
  have hcells : c.cells = #[.int .i64 c.k, .int .i64 (c.n 1), .int .i64 (c.n 2), .int .i64 (c.n 3), .int .i64 (c.n 4), .int .i64 (c.n 5), .int .i64 (c.n 6), .int .i64 (c.n 7)] := rfl
  rw [hcells] at HN0 HB0 HSZ HMAY ⊢
  clear hcells
  go_enter Try.func10, Try.ntmps10
  go_wp2_with fail
  refine (HMAY.out _).mono ?_
  rintro e w1 ⟨rfl, hb1⟩
  have HC1 := Lib.hid (HN0.out.below hb1)
  have HB1 := Lib.hid (HB0.out.trans (hb1.mono (by rw [HSZ.out]; omega)))
  have hs1 := hb1.size
  rw [HSZ.out] at hs1
  have hk := HC1.out.kind
  clear HN0 HB0 HSZ HMAY hb1
  cases hm : may c
  · have HM := Lib.hid hm
    clear hm
    go_wp2
    go_ret2
    refine ⟨?_, HB1.out⟩
    rw [HPV.out, HM.out]; rfl
  · have HM := Lib.hid hm
    clear hm
    go_wp2_with fail
    have hb2 := (Below.refl w1.heap.size w1).alloc (Nat.le_refl _) (.cells #[.int .u8 (c.k % 256)] 5 (0, 0))
    have hs2 : (w1.alloc (.cells #[.int .u8 (c.k % 256)] 5 (0, 0))).heap.size = w1.heap.size + 1 := by simp
    refine (fields_any w.heap.size c.k _ (HC1.out.below hb2).kind).mono ?_
    rintro e w2 ⟨_, rfl, hf, hb3⟩
    have HR := Lib.hid (show PutR w w.heap.size c (specs c.k) (.slice (some ⟨w1.heap.size, 0, none⟩) 1 1) _ [kb c.k] w2 from
      ⟨(HC1.out.below hb2).below hb3, fieldsAt_mono hf (by rw [hs2]; omega),
       own_below ⟨rfl, Or.inr ⟨w1.heap.size, 1, #[.int .u8 (c.k % 256)], rfl, by omega, heap_alloc_new _ _, Nat.le_refl _, by decide, rfl, by rw [byte_val]; rfl⟩⟩ hb3 rfl,
       (HB1.out.trans (hb2.mono HB1.out.size)).trans (hb3.mono (by rw [hs2]; omega))⟩)
    obtain ⟨a4, rfl, -⟩ := hf
    clear hb2 hs2 hb3 HC1 hk hs1 HB1
    generalize w1.heap.size = z1 at *
    obtain ⟨L, hL⟩ : ∃ L, specs c.k = L := ⟨_, rfl⟩
    have HPV2 := Lib.hid (show pv = .tuple #[.string ⟨(kb c.k :: layAll c.n L).toArray⟩, .int .i64 0] by rw [HPV.out, HM.out, ← hL]; rfl)
    have hl7 : L.length ≤ 7 := by rw [← hL]; exact specs_len _
    have HP := Lib.hid (show ∀ p ∈ L, 1 ≤ p.1 ∧ p.1 ≤ 7 ∧ (p.1 ≤ 5 → p.2 = 1 ∨ p.2 = 4) ∧ (5 < p.1 → p.2 = 8) by intro p hp; rw [← hL] at hp; exact specs_mem hp)
    rw [hL] at HR ⊢
    clear hL HPV HM
    go_wp2_with fail
    go_loopw [4, 16] (fun b i wr => ∃ j : Nat, j ≤ L.length ∧ i = .int .i64 j ∧ PutR w w.heap.size c L b (.slice a4 L.length L.length) (kb c.k :: layAll c.n (L.take j)) wr) (fun _ i _ => L.length - (intOf i).toNat)
    case atStart => exact ⟨0, by omega, rfl, HR.out⟩
    case round =>
      obtain ⟨j, hj, rfl, hr⟩ := hrel
      clear HR
      have HR := Lib.hid hr
      by_cases hlt : j < L.length
      · have hq1 : (j : Int) < L.length := by omega
        have hp : L[j]? = some L[j] := by simp [hlt]
        obtain ⟨b4, hb4, e4, r4⟩ := fields_range hr.ff hp
        simp only [Value.slice.injEq] at e4
        obtain ⟨rfl, _, _⟩ := e4
        have htk := Lib.hid (show L.take (j + 1) = L.take j ++ [L[j]] from List.take_succ_eq_append_getElem hlt)
        have hpm := HP.out L[j] (List.getElem_mem hlt)
        have hlen : (kb c.k :: layAll c.n (L.take j)).length ≤ 4096 := by
          have := layAll_len c.n (L.take j) (fun p hp => by have := HP.out p (List.mem_of_mem_take hp); omega)
          simp at this ⊢
          omega
        have HLEN := Lib.hid hlen
        generalize L[j] = p at *
        obtain ⟨i, b⟩ := p
        clear hp hlen
        dsimp only at hpm
        have hb8 : b ≤ 8 := by omega
        by_cases hi : i ≤ 5
        · rw [show fieldCells (w.heap.size) (i, b) = [.pointer (some ⟨w.heap.size, i, none⟩), .pointer none, .int .i64 b] from if_pos hi] at r4
          have hbn := (Below.refl wr.heap.size wr).alloc (Nat.le_refl _) (.cells #[.pointer (some ⟨w.heap.size, i, none⟩), .pointer none, .int .i64 b] 66 (0, 0))
          obtain ⟨x0, x1, x2⟩ := three_new wr (.pointer (some ⟨w.heap.size, i, none⟩)) (.pointer none) (.int .i64 b) 66
          have hr5 := hr.below hbn
          have zc := hr5.hc.num hpm.1 hpm.2.1
          have H4 := Lib.hid r4
          have HR5 := Lib.hid (hr5.below ((Below.refl _ _).drew))
          clear r4 hr hr5 hbn HR hpm hi
          go_wp2_with (with_reducible refine wpList_load_mid rfl 66 (.tmp 18) rfl b4 (j * 3) rfl _ _ H4.out Try.underlying66 rfl (by kernel_rfl) ?_)
          generalize wr.alloc (.cells #[.pointer (some ⟨w.heap.size, i, none⟩), .pointer none, .int .i64 b] 66 (0, 0)) = w5 at *
          generalize wr.heap.size = z at *
          go_upto_region 9 with (fail)
          go_still_tail 7, (by kernel_rfl)
          change wpList _ _ _ _ _ w5.drew
          clear x0 x1 x2 zc
          generalize w5.drew = w6 at *
          go_wp2_with (go_at_call 28; refine (layInt_any w.heap.size _ _ HLEN.out (c.n i) b hb8 _ HR5.out.ow HR5.out.bel.size).mono ?_; rintro e w7 ⟨v7, rfl, how, hb7, hk7⟩; replace how := Lib.hid how; replace hb7 := Lib.hid hb7; replace hk7 := Lib.hid hk7)
          have HR7 := Lib.hid (show PutR w w.heap.size c L v7 (.slice (some ⟨b4, 0, none⟩) L.length L.length) (kb c.k :: layAll c.n (L.take (j + 1))) w7 from
            ⟨HR5.out.hc.kept8 hk7.out, fieldsAt_kept8 HR5.out.ff hk7.out, by rw [htk.out, layAll_snoc]; exact how.out, HR5.out.bel.trans hb7.out⟩)
          clear how hb7 hk7 HR5
          go_roundw
          case rel => exact ⟨j + 1, by omega, by go_num, HR7.out⟩
          case measure => simp [intOf]; omega
        · rw [show fieldCells (w.heap.size) (i, b) = [.pointer none, .pointer (some ⟨w.heap.size, i, none⟩), .int .i64 b] from if_neg hi] at r4
          have hbn := (Below.refl wr.heap.size wr).alloc (Nat.le_refl _) (.cells #[.pointer none, .pointer (some ⟨w.heap.size, i, none⟩), .int .i64 b] 66 (0, 0))
          obtain ⟨x0, x1, x2⟩ := three_new wr (.pointer none) (.pointer (some ⟨w.heap.size, i, none⟩)) (.int .i64 b) 66
          have hr5 := hr.below hbn
          have zc := hr5.hc.num hpm.1 hpm.2.1
          have H4 := Lib.hid r4
          have HR5 := Lib.hid (hr5.below ((Below.refl _ _).drew))
          clear r4 hr hr5 hbn HR hpm hi
          go_wp2_with (with_reducible refine wpList_load_mid rfl 66 (.tmp 18) rfl b4 (j * 3) rfl _ _ H4.out Try.underlying66 rfl (by kernel_rfl) ?_)
          generalize wr.alloc (.cells #[.pointer none, .pointer (some ⟨w.heap.size, i, none⟩), .int .i64 b] 66 (0, 0)) = w5 at *
          generalize wr.heap.size = z at *
          go_upto_region 8 with (fail)
          go_still_tail 7, (by kernel_rfl)
          change wpList _ _ _ _ _ w5.drew
          clear x0 x1 x2 zc
          generalize w5.drew = w6 at *
          go_wp2_with (go_at_call 27; refine (lay64_any w.heap.size _ _ HLEN.out (c.n i) b hb8 _ HR5.out.ow HR5.out.bel.size).mono ?_; rintro e w7 ⟨v7, rfl, how, hb7, hk7⟩; replace how := Lib.hid how; replace hb7 := Lib.hid hb7; replace hk7 := Lib.hid hk7)
          have HR7 := Lib.hid (show PutR w w.heap.size c L v7 (.slice (some ⟨b4, 0, none⟩) L.length L.length) (kb c.k :: layAll c.n (L.take (j + 1))) w7 from
            ⟨HR5.out.hc.kept8 hk7.out, fieldsAt_kept8 HR5.out.ff hk7.out, by rw [htk.out, layAll_snoc]; exact how.out, HR5.out.bel.trans hb7.out⟩)
          clear how hb7 hk7 HR5
          go_roundw
          case rel => exact ⟨j + 1, by omega, by go_num, HR7.out⟩
          case measure => simp [intOf]; omega
      · obtain rfl : j = L.length := by omega
        rw [List.take_length] at HR
        clear hr
        have hcv := conv_own HR.out.ow (by simp)
        have HB := Lib.hid HR.out.bel
        clear HR
        generalize (kb c.k :: layAll c.n L).toArray = res at *
        go_wp2
        go_ret2
        exact ⟨by rw [HPV2.out]; rfl, HB.out⟩
end Go.Proofs.Ytdpllkmbnphdgaa
