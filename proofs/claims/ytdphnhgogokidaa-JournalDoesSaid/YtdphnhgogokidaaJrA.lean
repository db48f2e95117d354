/- The document's journal: a number by eight bytes, and back; a file cut; what may be kept. -/
import Derived.Test.YtdphnhgogokidaaJourW
namespace Go.Proofs.Ytdphnhgogokidaa
open Go.RowKit

/-- so many more bytes of a number, ahead of what there is. -/
def eg : Nat → Nat → List UInt8 → List UInt8
  | 0, _, s => s
  | k + 1, m, s => eg k (m / 256) (UInt8.ofNat m :: s)
theorem eg_eight (n : Nat) : eg 8 n [] = eight n := by
  simp only [eg, eight, Nat.div_div_eq_div_mul]
theorem eg_len : ∀ (k m : Nat) (s : List UInt8), (eg k m s).length = k + s.length
  | 0, m, s => by simp [eg]
  | k + 1, m, s => by rw [eg, eg_len k, List.length_cons]; omega
set_option maxRecDepth 100000 in
set_option maxHeartbeats 2000000 in
theorem eight_ref (n : Nat) (hn : (n : Int) ≤ 9223372036854775807) (w : World) :
    Calls Try.prog 90 #[.int .i64 n] w fun e w' => e = .returned (.string ⟨(eight n).toArray⟩) ∧ Below w.heap.size w w' := by
  have HE := Lib.hid (eg_eight n)
  go_enter Try.func90, Try.ntmps90
  go_wp2_with fail
  go_loopw [0, 3, 4] (fun nv sv iv wr => ∃ (k m : Nat) (s : List UInt8), k ≤ 8 ∧ iv = .int .i64 k ∧ nv = .int .i64 m ∧ sv = .string ⟨s.toArray⟩ ∧ (m : Int) ≤ 9223372036854775807 ∧ s.length = k ∧ eg (8 - k) m s = eight n ∧ Below w.heap.size w wr) (fun _ _ iv _ => 8 - (intOf iv).toNat)
  case atStart => exact ⟨0, n, [], by omega, rfl, rfl, rfl, hn, rfl, HE.out, Below.refl _ _⟩
  case round =>
    obtain ⟨k, m, s, hk, rfl, rfl, rfl, hm, hs, he, hb⟩ := hrel
    have HQ := Lib.hid he
    have HB := Lib.hid hb
    have HS := Lib.hid hs
    clear he hb HE
    by_cases hlt : k < 8
    · have hki : (k : Int) < 8 := by omega
      have hb8 : Value.int .u8 ((m : Int) % 256) = .int .u8 ((UInt8.ofNat m).toNat : Nat) := by congr 1
      have hal := alloc_below wr (.cells #[.int .u8 ((m : Int) % 256)] 5 (0, 0))
      have hnew := heap_alloc_new wr (.cells #[.int .u8 ((m : Int) % 256)] 5 (0, 0))
      have hcv := run_convert_bytes_back (P := Try.prog) (wr.alloc (.cells #[.int .u8 ((m : Int) % 256)] 5 (0, 0))) 62 9 5 ⟨wr.heap.size, 0, none⟩ 1 [UInt8.ofNat m] Try.underlying62 Try.underlying5 Try.underlying9 (by
        intro j hj
        have hj1 : j < 1 := hj
        obtain rfl : j = 0 := by omega
        rw [WideShapes.add_plain, cell_of_row _ _ _ _ _ _ hnew, hb8]
        rfl)
      have hcv2 : (convert 62 9 (.slice (some ⟨wr.heap.size, 0, none⟩) 1 1)).run Try.prog (wr.alloc (.cells #[.int .u8 ((m : Int) % 256)] 5 (0, 0))) = .ok (.string ⟨[UInt8.ofNat m].toArray⟩) (wr.alloc (.cells #[.int .u8 ((m : Int) % 256)] 5 (0, 0))) := hcv
      have hcat := catj [UInt8.ofNat m] s (by show ((1 : Nat) : Int) + _ ≤ _; rw [HS.out]; omega)
      have HBN := Lib.hid (HB.out.trans (hal.mono HB.out.size))
      have HQN := Lib.hid (show eg (8 - (k + 1)) (m / 256) ([UInt8.ofNat m] ++ s) = eight n by
        have h := HQ.out
        rw [show 8 - k = (8 - (k + 1)) + 1 by omega] at h
        exact h)
      have HSN := Lib.hid (show ([UInt8.ofNat m] ++ s).length = k + 1 by simp [HS.out])
      clear hcv hnew hal hb8 HB HQ HS
      generalize hR : [UInt8.ofNat m] ++ s = r at *
      have HR := Lib.hid hR
      clear hR
      generalize hB : [UInt8.ofNat m] = bb at *
      have HBB := Lib.hid hB
      clear hB
      go_wp2
      go_roundw
      case rel => exact ⟨k + 1, m / 256, r, by omega, by go_num, by go_num, rfl, by omega, HSN.out, HQN.out, HBN.out⟩
      case measure => simp [intOf]; omega
    · obtain rfl : k = 8 := by omega
      go_wp2
      go_ret
      exact ⟨by rw [← HQ.out]; rfl, HB.out⟩
/-- the number of eight bytes; -1: there is none that may be. -/
def numV (s : List UInt8) : Int := match part s with
  | none => -1
  | some (n, _) => n
theorem numV_short {s : List UInt8} (h : s.length < 8) : numV s = -1 := by unfold numV part; rw [if_pos h]
theorem numV_big {s : List UInt8} (h : ¬ s.length < 8) (h2 : 18014398509481984 ≤ rd (s.take 7)) : numV s = -1 := by unfold numV part; rw [if_neg h, if_pos h2]
theorem numV_ok {s : List UInt8} (h : ¬ s.length < 8) (h2 : ¬ 18014398509481984 ≤ rd (s.take 7)) : numV s = (rd (s.take 8) : Nat) := by unfold numV part; rw [if_neg h, if_neg h2]
set_option maxRecDepth 100000 in
set_option maxHeartbeats 2000000 in
theorem number_ref (s : List UInt8) (hs : (s.length : Int) ≤ 140737488355328) (w : World) :
    Calls Try.prog 87 #[.string ⟨s.toArray⟩] w fun e w' => e = .returned (.int .i64 (numV s)) ∧ w = w' := by
  by_cases h8 : s.length < 8
  · have HP := Lib.hid (numV_short h8)
    generalize numV s = pv at *
    have h8i : (s.length : Int) < 8 := by omega
    clear h8
    go_enter Try.func87, Try.ntmps87
    go_wp2
    go_ret
    exact ⟨by rw [HP.out]; rfl, rfl⟩
  · have HBIG := Lib.hid (fun h => numV_big h8 h)
    have HOK := Lib.hid (fun h => numV_ok h8 h)
    generalize numV s = pv at *
    have h8i : ¬ (s.length : Int) < 8 := by omega
    have h8j : (8 : Int) ≤ s.length := by omega
    clear h8
    go_enter Try.func87, Try.ntmps87
    go_wp2_with fail
    go_loopw [3, 4] (fun n i wr => ∃ (j x : Nat), j ≤ 8 ∧ i = .int .i64 j ∧ n = .int .i64 x ∧ rd (s.take j) = x ∧ (x : Int) ≤ 4611686018427387903 ∧ (j = 8 → ¬ (18014398509481984 : Int) ≤ rd (s.take 7)) ∧ w = wr) (fun _ i _ => 8 - (intOf i).toNat)
    case atStart => exact ⟨0, 0, by omega, rfl, rfl, by simp [rd], by omega, fun h => absurd h (by omega), rfl⟩
    case round =>
      obtain ⟨j, x, hj, rfl, rfl, hx, hxb, hlast, rfl⟩ := hrel
      have HL := Lib.hid hlast
      have HX := Lib.hid hx
      clear hlast
      by_cases hlt : j < 8
      · by_cases hbig : (18014398509481984 : Int) ≤ x
        · have hj7 : j = 7 := by
            by_cases h7 : j = 7
            · exact h7
            · exfalso
              have := rd_small s (j := j) (by omega)
              rw [hx] at this
              omega
          subst hj7
          have HNO := Lib.hid (show pv = -1 from HBIG.out (by rw [hx]; omega))
          clear hx HBIG HOK
          go_wp2
          go_ret
          exact ⟨by rw [HNO.out]; rfl, rfl⟩
        · have hb := (s.getD j 0).toNat_lt
          have hjl : j < s.length := by omega
          have hg : s[j]'hjl = s.getD j 0 := by simp [List.getD, hjl]
          have hnx : rd (s.take (j + 1)) = x * 256 + (s.getD j 0).toNat := by
            rw [List.take_succ_eq_append_getElem hjl, rd_snoc, hx, hg]
          have HNX := Lib.hid hnx
          have HNL := Lib.hid (show j + 1 = 8 → ¬ (18014398509481984 : Int) ≤ rd (s.take 7) by
            intro h; obtain rfl : j = 7 := by omega
            rw [hx]; exact hbig)
          have hbi : ((s.getD j 0).toNat : Int) ≤ 255 := by omega
          have hw : wrap64 (((⟨s.toArray⟩ : ByteArray)[j]'hjl).toNat : Int) = ((s.getD j 0).toNat : Int) := by
            have h : ((⟨s.toArray⟩ : ByteArray)[j]'hjl) = s.getD j 0 := hg
            rw [h]
            unfold wrap64
            omega
          clear hx hnx hb
          generalize s.getD j 0 = q at *
          go_wp2
          go_roundw
          case rel => exact ⟨j + 1, x * 256 + q.toNat, by omega, by go_num, by go_num, HNX.out, by omega, HNL.out, by first | rfl | trivial⟩
          case measure => simp [intOf]; omega
      · obtain rfl : j = 8 := by omega
        have HYES := Lib.hid (HOK.out (by have := HL.out rfl; omega))
        rw [hx] at HYES
        clear hx HBIG HOK HL
        go_wp2
        go_ret
        exact ⟨by rw [HYES.out]; rfl, rfl⟩
set_option maxRecDepth 100000 in
set_option maxHeartbeats 1000000 in
theorem cut_ref6 (g : Nat) (d : Dk) (ho : d.Ok) (i n : Nat) (hi : i < 4) (w : World) (hd : RefAt w g d) :
    Calls Try.prog 88 #[.pointer (some ⟨g, 0, none⟩), .int .i64 i, .int .i64 n] w fun e w' => e = .returned (.int .i64 (cutx i n d).code) ∧ RefAt w' g (cutx i n d).dk ∧ Only g w w' := by
  have hc := hd.cellb hi
  have hii : (i : Int) < 4 := by omega
  have HC := Lib.hid (ref_cut g d ho i n w hd)
  by_cases he : (d.b i).length = n
  · have hX : cutx i n d = ⟨0, d⟩ := if_pos he
    have he1 : (((d.b i).length : Int) == (n : Int)) = true := by simp [he]
    have HX := Lib.hid hX
    have HD := Lib.hid hd
    clear hX he hd HC ho
    generalize d.b i = bb at *
    go_enter Try.func88, Try.ntmps88
    go_wp2
    go_ret
    exact ⟨by rw [HX.out]; rfl, by rw [HX.out]; exact HD.out, Only.refl _ _⟩
  · have hX : cutx i n d = d.cutto i n := if_neg he
    have he1 : (((d.b i).length : Int) == (n : Int)) = false := by simp; omega
    have HX := Lib.hid hX
    clear hX he hd ho
    generalize d.b i = bb at *
    go_enter Try.func88, Try.ntmps88
    go_wp2_with (go_at_call 54; refine (HC.out).mono ?_; rintro e w2 ⟨rfl, hd2, ho2⟩)
    go_ret
    exact ⟨by rw [HX.out]; rfl, by rw [HX.out]; exact hd2, ho2⟩
/-- the document's journal. -/
def RJAt (w : World) (jg g : Nat) (v : Value) (j : Jn) : Prop := w.heap[jg]? = some (.cells #[.pointer (some ⟨g, 0, none⟩), .string ⟨j.text.toArray⟩, .int .i64 j.base, v, .bool j.broken] 119 (0, 0))
section
variable {w w' : World} {jg g : Nat} {v : Value} {j : Jn} (h : RJAt w jg g v j)
include h
theorem RJAt.c0 : w.cell? ⟨jg, 0, none⟩ = some (.pointer (some ⟨g, 0, none⟩)) := (cell_of_row _ _ 0 _ _ _ h).trans rfl
theorem RJAt.c1 : w.cell? ⟨jg, 1, none⟩ = some (.string ⟨j.text.toArray⟩) := (cell_of_row _ _ 1 _ _ _ h).trans rfl
theorem RJAt.c2 : w.cell? ⟨jg, 2, none⟩ = some (.int .i64 j.base) := (cell_of_row _ _ 2 _ _ _ h).trans rfl
theorem RJAt.c3 : w.cell? ⟨jg, 3, none⟩ = some v := (cell_of_row _ _ 3 _ _ _ h).trans rfl
theorem RJAt.c4 : w.cell? ⟨jg, 4, none⟩ = some (.bool j.broken) := (cell_of_row _ _ 4 _ _ _ h).trans rfl
theorem RJAt.frozen (i : Nat) : w.frozen? ⟨jg, i, none⟩ = false := frozen_of_row _ _ _ _ _ h
theorem RJAt.lt : jg < w.heap.size := (Array.getElem?_eq_some_iff.1 h).1
theorem RJAt.below (hb : Below w.heap.size w w') : RJAt w' jg g v j := by
  unfold RJAt at h ⊢; rw [hb.block _ (Array.getElem?_eq_some_iff.1 h).1]; exact h
theorem RJAt.only (ho : Only g w w') (hne : jg ≠ g) : RJAt w' jg g v j := ho.heap h hne
theorem RJAt.set4 (b : Bool) : RJAt (w.setCell ⟨jg, 4, none⟩ (.bool b)) jg g v { j with broken := b } := by
  unfold RJAt at h ⊢
  rw [heap_setCell_same _ _ _ _ _ _ h]; rfl
theorem RJAt.set3 (u : Value) (rs : List (List UInt8)) : RJAt (w.setCell ⟨jg, 3, none⟩ u) jg g u { j with recs := rs } := by
  unfold RJAt at h ⊢
  rw [heap_setCell_same _ _ _ _ _ _ h]; rfl
theorem RJAt.set2 (n : Nat) : RJAt (w.setCell ⟨jg, 2, none⟩ (.int .i64 n)) jg g v { j with base := n } := by
  unfold RJAt at h ⊢
  rw [heap_setCell_same _ _ _ _ _ _ h]; rfl
theorem RJAt.set1 (b : List UInt8) : RJAt (w.setCell ⟨jg, 1, none⟩ (.string ⟨b.toArray⟩)) jg g v { j with text := b } := by
  unfold RJAt at h ⊢
  rw [heap_setCell_same _ _ _ _ _ _ h]; rfl
theorem RJAt.grown {row : Option Nat} (hg : w.grownBy w' row) (hne : some jg ≠ row) : RJAt w' jg g v j := by
  have h2 := h.lt
  unfold RJAt at h ⊢
  rw [hg.block jg h2 hne]; exact h
end
set_option maxRecDepth 100000 in
set_option maxHeartbeats 1000000 in
theorem may_ref (jg g : Nat) (v : Value) (j : Jn) (b : List UInt8) (hb : (b.length : Int) ≤ 140737488355328) (w : World) (h : RJAt w jg g v j) :
    Calls Try.prog 89 #[.pointer (some ⟨jg, 0, none⟩), .string ⟨b.toArray⟩] w fun e w' => e = .returned (.int .i64 (mayJ j b)) ∧ w' = w := by
  have c4 := h.c4
  have HM := Lib.hid (show mayJ j b = if 65528 < b.length then 4 else if j.broken then 9 else 0 from rfl)
  generalize mayJ j b = m at *
  by_cases h1 : 65528 < b.length
  · have h1i : (65528 : Int) < b.length := by omega
    have HR := Lib.hid (show m = 4 by rw [HM.out, if_pos h1])
    clear h1 HM h
    go_enter Try.func89, Try.ntmps89
    go_wp2
    go_ret
    exact ⟨by rw [HR.out]; rfl, rfl⟩
  · have h1i : ¬ (65528 : Int) < b.length := by omega
    cases hbr : j.broken
    · have HR := Lib.hid (show m = 0 by rw [HM.out, if_neg h1, hbr]; rfl)
      rw [hbr] at c4
      clear h1 HM h hbr
      go_enter Try.func89, Try.ntmps89
      go_wp2
      go_ret
      exact ⟨by rw [HR.out]; rfl, rfl⟩
    · have HR := Lib.hid (show m = 9 by rw [HM.out, if_neg h1, hbr]; rfl)
      rw [hbr] at c4
      clear h1 HM h hbr
      go_enter Try.func89, Try.ntmps89
      go_wp2
      go_ret
      exact ⟨by rw [HR.out]; rfl, rfl⟩
end Go.Proofs.Ytdphnhgogokidaa
