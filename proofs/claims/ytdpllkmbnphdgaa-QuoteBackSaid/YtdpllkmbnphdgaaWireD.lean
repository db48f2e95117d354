/- Wire: bytes are told as a number with a sign; two lists of numbers are compared. -/
import Derived.Test.YtdpllkmbnphdgaaWireC
import Derived.Lib.Strings
import Derived.Lib.IndexBytes
import Derived.Lib.ConvBytes
namespace Go.Proofs.Ytdpllkmbnphdgaa
open Go.RowKit

theorem or_take (V b : Nat) (hb : b < 256) : bits .or .i64 (wrap64 (IntKind.i64.wrap (V : Int) * 256)) (b : Int) = IntKind.i64.wrap ((V * 256 + b : Nat) : Int) := by
  have hA : (wrap64 (IntKind.i64.wrap (V : Int) * 256)) % 18446744073709551616 = ((V * 256 % 18446744073709551616 : Nat) : Int) := by
    rw [IntKind.wrap_i64]; unfold wrap64; omega
  generalize wrap64 (IntKind.i64.wrap (V : Int) * 256) = a at *
  have h1 : (BitVec.ofInt 64 a).toNat = V * 256 % 18446744073709551616 := by
    rw [BitVec.toNat_ofInt]
    show (a % 18446744073709551616).toNat = _
    rw [hA]; rfl
  have h2 : (BitVec.ofInt 64 (b : Int)).toNat = b := by
    rw [BitVec.ofInt_natCast, BitVec.toNat_ofNat]; exact Nat.mod_eq_of_lt (by omega)
  show IntKind.i64.wrap ((BitVec.ofInt 64 a ||| BitVec.ofInt 64 (b : Int)).toNat : Int) = _
  rw [BitVec.toNat_or, h1, h2, nat_join 8 _ b (by omega) (by omega), IntKind.wrap_i64, IntKind.wrap_i64]
  omega
theorem below_bytes {B : Nat} {w0 w : World} (hb : Below B w0 w) (hB : B ≤ w.heap.size) (s : ByteArray) : Below B w0 (Lib.bytesWorld w 5 s) :=
  hb.trans ⟨rfl, rfl, rfl, by rw [Lib.bytesWorld_size]; omega, fun k hk => Lib.bytesWorld_at_old _ _ _ _ (by omega)⟩
set_option maxRecDepth 100000 in
set_option maxHeartbeats 1000000 in
theorem take64_any (s : List UInt8) (hl : s.length ≤ 8) (w : World) :
    Calls Try.prog 32 #[.string ⟨s.toArray⟩] w fun e w' => e = .returned (.int .i64 (IntKind.i64.wrap (val s : Nat))) ∧ Below w.heap.size w w' := by
  have hli : (s.length : Int) ≤ 8 := by omega
  have hcv := Lib.run_convert_string_bytes (P := Try.prog) w 9 51 5 ⟨s.toArray⟩ Try.underlying9 Try.underlying51 Try.underlying5
  have hsz : (⟨s.toArray⟩ : ByteArray).size = s.length := by rw [ByteArray.size]; simp
  rw [hsz] at hcv
  have hcell := fun j hj => Lib.bytesWorld_cell w 5 ⟨s.toArray⟩ j hj
  have HC := Lib.hid hcell
  have HB := Lib.hid (below_bytes (Below.refl _ _) (Nat.le_refl _) (w := w) ⟨s.toArray⟩)
  clear hcell hsz
  generalize Lib.bytesWorld w 5 ⟨s.toArray⟩ = w1 at *
  go_enter Try.func32, Try.ntmps32
  go_wp2_with fail
  go_loopw [3, 9] (fun n i wr => ∃ (j : Nat) (y : Int), j ≤ s.length ∧ i = .int .i64 j ∧ IntKind.i64.wrap (val (s.take j) : Nat) = y ∧ n = .int .i64 y ∧ wr = w1) (fun _ i _ => s.length - (intOf i).toNat)
  case atStart => exact ⟨0, 0, by omega, rfl, by simp [val, IntKind.wrap_i64], rfl, rfl⟩
  case round =>
    obtain ⟨j, y, hj, rfl, hy, rfl, rfl⟩ := hrel
    have HY := Lib.hid hy
    by_cases hlt : j < s.length
    · have hcell := HC.out j (by rw [ByteArray.size]; simpa using hlt)
      have hyb : -9223372036854775808 ≤ y ∧ y ≤ 9223372036854775807 := by rw [← hy, IntKind.wrap_i64]; omega
      clear hy
      have hb := (s.getD j 0).toNat_lt
      generalize hbb : (s.getD j 0).toNat = b at *
      have HBB := Lib.hid hbb
      have hbi : (b : Int) ≤ 255 := by omega
      clear hbb hb
      go_wp2
      go_roundw
      case rel =>
        refine ⟨j + 1, _, by omega, by go_num, rfl, ?_, by first | rfl | trivial⟩
        rw [← HY.out, or_take _ _ (by omega), List.take_succ_eq_append_getElem hlt, val_snoc]
        rw [← HBB.out]
        simp [List.getD, hlt]
      case measure => simp [intOf]; omega
    · obtain rfl : j = s.length := by omega
      clear hy
      go_wp2
      go_ret
      refine ⟨?_, HB.out⟩
      rw [← HY.out, List.take_length]
      rfl
set_option maxRecDepth 100000 in
set_option maxHeartbeats 1000000 in
theorem takeInt_any (s : List UInt8) (hl : s.length ≤ 8) (w : World) :
    Calls Try.prog 33 #[.string ⟨s.toArray⟩] w fun e w' => e = .returned (.int .i64 (IntKind.i64.wrap (val s : Nat))) ∧ Below w.heap.size w w' := by
  have hli : (s.length : Int) ≤ 8 := by omega
  have hcv := Lib.run_convert_string_bytes (P := Try.prog) w 9 51 5 ⟨s.toArray⟩ Try.underlying9 Try.underlying51 Try.underlying5
  have hsz : (⟨s.toArray⟩ : ByteArray).size = s.length := by rw [ByteArray.size]; simp
  rw [hsz] at hcv
  have hcell := fun j hj => Lib.bytesWorld_cell w 5 ⟨s.toArray⟩ j hj
  have HC := Lib.hid hcell
  have HB := Lib.hid (below_bytes (Below.refl _ _) (Nat.le_refl _) (w := w) ⟨s.toArray⟩)
  clear hcell hsz
  generalize Lib.bytesWorld w 5 ⟨s.toArray⟩ = w1 at *
  go_enter Try.func33, Try.ntmps33
  go_wp2_with fail
  go_loopw [3, 9] (fun n i wr => ∃ (j : Nat) (y : Int), j ≤ s.length ∧ i = .int .i64 j ∧ IntKind.i64.wrap (val (s.take j) : Nat) = y ∧ n = .int .i64 y ∧ wr = w1) (fun _ i _ => s.length - (intOf i).toNat)
  case atStart => exact ⟨0, 0, by omega, rfl, by simp [val, IntKind.wrap_i64], rfl, rfl⟩
  case round =>
    obtain ⟨j, y, hj, rfl, hy, rfl, rfl⟩ := hrel
    have HY := Lib.hid hy
    by_cases hlt : j < s.length
    · have hcell := HC.out j (by rw [ByteArray.size]; simpa using hlt)
      have hyb : -9223372036854775808 ≤ y ∧ y ≤ 9223372036854775807 := by rw [← hy, IntKind.wrap_i64]; omega
      clear hy
      have hb := (s.getD j 0).toNat_lt
      generalize hbb : (s.getD j 0).toNat = b at *
      have HBB := Lib.hid hbb
      have hbi : (b : Int) ≤ 255 := by omega
      clear hbb hb
      go_wp2
      go_roundw
      case rel =>
        refine ⟨j + 1, _, by omega, by go_num, rfl, ?_, by first | rfl | trivial⟩
        rw [← HY.out, or_take _ _ (by omega), List.take_succ_eq_append_getElem hlt, val_snoc]
        rw [← HBB.out]
        simp [List.getD, hlt]
      case measure => simp [intOf]; omega
    · obtain rfl : j = s.length := by omega
      clear hy
      go_wp2
      go_ret
      refine ⟨?_, HB.out⟩
      rw [← HY.out, List.take_length]
      rfl
/-- a slice of numbers. -/
def SlInt (w : World) (v : Value) (rs : List Int) : Prop :=
  ∃ a c, v = .slice a rs.length c ∧ (rs ≠ [] → ∃ b o, a = some ⟨b, o, none⟩ ∧ ∀ j x, rs[j]? = some x → w.cell? ⟨b, o + j, none⟩ = some (.int .i64 x))
theorem ret_bool {a b : Bool} (h : a = b) : Ending.returned (.bool a) = .returned (.bool b) := by rw [h]
set_option maxRecDepth 100000 in
set_option maxHeartbeats 2000000 in
theorem ints_any (va vb : Value) (A B : List Int) (w : World) (ha : SlInt w va A) (hb : SlInt w vb B) (hA : A.length ≤ 9223372036854775807) :
    Calls Try.prog 21 #[va, vb] w fun e w' => e = .returned (.bool (decide (A = B))) ∧ ∃ n, w' = w.drewN n := by
  obtain ⟨a, ca, rfl, ha⟩ := ha
  obtain ⟨b, cb, rfl, hb⟩ := hb
  by_cases hl : A.length = B.length
  · have hl2 : ((A.length : Int) != (B.length : Int)) = false := by simp [hl]
    have HL := Lib.hid hl
    have HA := Lib.hid ha
    have HB := Lib.hid hb
    clear hl ha hb
    go_enter Try.func21, Try.ntmps21
    go_wp2
    go_loopw [5] (fun i wr => ∃ k : Nat, k ≤ A.length ∧ i = .int .i64 k ∧ A.take k = B.take k ∧ ∃ n, wr = w.drewN n) (fun i _ => A.length - (intOf i).toNat)
    case atStart => exact ⟨0, by omega, rfl, rfl, 0, rfl⟩
    case round =>
      obtain ⟨k, hk, rfl, ht, n, rfl⟩ := hrel
      have HT := Lib.hid ht
      clear ht
      by_cases hlt : k < A.length
      · have hne : A ≠ [] := by intro h; rw [h] at hlt; simp at hlt
        have hne2 : B ≠ [] := by intro h; have := HL.out; rw [h] at this; simp at this; exact hne this
        obtain ⟨ba, oa, ea, fa⟩ := HA.out hne
        obtain ⟨bb, ob, eb, fb⟩ := HB.out hne2
        subst ea
        subst eb
        have hltB : k < B.length := by have := HL.out; omega
        obtain ⟨x, hx⟩ : ∃ x, A[k]? = some x := ⟨A[k], by simp [hlt]⟩
        obtain ⟨y, hy⟩ : ∃ y, B[k]? = some y := ⟨B[k], by simp [hltB]⟩
        have ga : w.cell? ⟨ba, oa + k, none⟩ = some (.int .i64 x) := fa k x hx
        have gb : w.cell? ⟨bb, ob + k, none⟩ = some (.int .i64 y) := fb k y hy
        have HX := Lib.hid hx
        have HY := Lib.hid hy
        have q1 : (k : Int) < (A.length : Int) := by omega
        have q2 : (k : Int) < (B.length : Int) := by omega
        clear hx hy fa fb hne hne2
        go_wp2
        go_quiet (fail)
        go_wp2
        · have hne : x ≠ y := by
            have h : (!x == y) = true := by assumption
            intro e; rw [e] at h; simp at h
          go_ret
          refine ⟨ret_bool ?_, n + nq, World.drewN_drewN _ _ _⟩
          refine (decide_eq_false ?_).symm
          intro e
          have h1 := HX.out
          rw [e, HY.out] at h1
          exact hne (Option.some.inj h1).symm
        · have he : x = y := by
            have h : (!x == y) = false := by assumption
            simpa using h
          go_roundw
          case rel =>
            refine ⟨k + 1, by omega, by go_num, ?_, n + nq, rfl⟩
            rw [List.take_add_one, List.take_add_one, HT.out, HX.out, HY.out, he]
          case measure => simp [intOf]; omega
      · obtain rfl : k = A.length := by omega
        go_wp2
        go_ret
        refine ⟨ret_bool ?_, n, rfl⟩
        refine (decide_eq_true ?_).symm
        have := HT.out
        rwa [List.take_length, HL.out, List.take_length] at this
  · have hl2 : ((A.length : Int) != (B.length : Int)) = true := by rw [bne_iff_ne]; omega
    have HL := Lib.hid hl
    clear hl ha hb
    go_enter Try.func21, Try.ntmps21
    go_wp2
    go_ret
    refine ⟨ret_bool ?_, 0, rfl⟩
    refine (decide_eq_false ?_).symm
    intro e
    exact HL.out (by rw [e])
end Go.Proofs.Ytdpllkmbnphdgaa
