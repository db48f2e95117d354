/- Walks of the document's answer for frames (package nostroref04): the check, four bytes, a number, a frame. -/
import Derived.Test.YtdphnhgogokidaaFrameB
namespace Go.Proofs.Ytdphnhgogokidaa
open Go.RowKit

set_option maxRecDepth 100000 in
set_option maxHeartbeats 1000000 in
theorem rcheck_any (s : ByteArray) (hlen : s.size ≤ 9223372036854775807) (w : World) :
    Calls Try.prog 34 #[.string s] w fun e w' => e = .returned (.int .u32 (Crc.check s.data.toList : Nat)) ∧ w = w' := by
  go_enter Try.func34, Try.ntmps34
  go_wp2
  go_loop [3, 4] (fun c i => ∃ k : Nat, k ≤ s.size ∧ i = .int .i64 k ∧ ∃ x : Nat, x < 4294967296 ∧ Crc.run 4294967295 (s.data.toList.take k) = x ∧ c = .int .u32 x) (fun _ i => s.size - (intOf i).toNat)
  case atStart => exact ⟨0, by omega, rfl, 4294967295, by omega, rfl, rfl⟩
  case round =>
    obtain ⟨k, hk, rfl, x, hx, hr, rfl⟩ := hrel
    have hR := Lib.hid hr
    clear hr
    by_cases hlt : k < s.size
    · have hb := s[k].toNat_lt
      have hxx := u32_xor_nat x s[k].toNat hx (by omega)
      have hx2 : x ^^^ s[k].toNat < 4294967296 := Nat.xor_lt_two_pow (n := 32) hx (by omega)
      go_wp2
      go_loop [3, 5] (fun c i => ∃ j : Nat, j ≤ 8 ∧ i = .int .i64 j ∧ ∃ y : Nat, y < 4294967296 ∧ Crc.bitsN (8 - j) y = Crc.byte x s[k].toNat ∧ c = .int .u32 y) (fun _ i => 8 - (intOf i).toNat)
      case atStart => exact ⟨0, by omega, rfl, x ^^^ s[k].toNat, hx2, rfl, rfl⟩
      case round =>
        obtain ⟨j, hj, rfl, y, hy, hbb, rfl⟩ := hrel
        have hB := Lib.hid hbb
        clear hbb
        by_cases hlj : j < 8
        · have hnext : Crc.bitsN (8 - (j + 1)) (Crc.bit y) = Crc.byte x s[k].toNat := by
            rw [← hB.out, show 8 - j = (8 - (j + 1)) + 1 from by omega]; rfl
          have HN := Lib.hid hnext
          clear hnext
          by_cases hp : y % 2 = 1
          · have hp2 : ((y : Int) % 2 == 1) = true := by rw [beq_iff_eq]; omega
            have hx3 : bits .xor .u32 ((y : Int) / 2) 3988292384 = (Crc.bit y : Nat) := by
              unfold Crc.bit; rw [if_pos hp]
              exact u32_xor_nat (y / 2) 3988292384 (by omega) (by omega)
            have HP := Lib.hid hp
            clear hp
            go_wp2
            go_round
            case rel => exact ⟨j + 1, by omega, by go_num, Crc.bit y, Crc.bit_lt hy, HN.out, rfl⟩
            case measure => simp [intOf]; omega
          · have hp2 : ((y : Int) % 2 == 1) = false := by rw [beq_eq_false_iff_ne]; omega
            have HP := Lib.hid hp
            clear hp
            go_wp2
            go_round
            case rel => exact ⟨j + 1, by omega, by go_num, y / 2, by omega, by rw [← HN.out]; unfold Crc.bit; rw [if_neg HP.out], by go_num⟩
            case measure => simp [intOf]; omega
        · obtain rfl : j = 8 := by omega
          go_wp2
          go_round
          case rel =>
            refine ⟨k + 1, by omega, by go_num, y, hy, ?_, rfl⟩
            rw [List.take_succ_eq_append_getElem (by simpa using hlt), Crc.run_append, hR.out]
            exact hB.out.symm
          case measure => simp [intOf]; omega
    · obtain rfl : k = s.size := by omega
      have hr : Crc.run 4294967295 s.data.toList = x := by
        have := hR.out
        rwa [List.take_of_length_le (by simp)] at this
      have HR := Lib.hid hr
      clear hr
      have hx4 : bits .xor .u32 (x : Int) 4294967295 = (Crc.check s.data.toList : Nat) := by
        unfold Crc.check; rw [HR.out]
        exact u32_xor_nat x 4294967295 hx (by omega)
      go_wp2
      go_ret
      exact ⟨rfl, rfl⟩
set_option maxRecDepth 100000 in
set_option maxHeartbeats 400000 in
theorem four_any (n : Nat) (hn : n < 4294967296) (w : World) :
    Calls Try.prog 63 #[.int .i64 n] w fun e w' => e = .returned (.string ⟨(be4 n).toArray⟩) ∧ Below w.heap.size w w' := by
  have hc := conv4 w n hn
  go_enter Try.func63, Try.ntmps63
  go_wp2
  go_ret
  exact ⟨rfl, (Below.refl _ _).alloc (Nat.le_refl _) _⟩
set_option maxRecDepth 100000 in
set_option maxHeartbeats 400000 in
theorem rput_many (s : ByteArray) (h : 65536 < s.size) (hlen : s.size ≤ 9223372036854775807) (w : World) :
    Calls Try.prog 30 #[.string s] w fun e w' => e = .returned (.tuple #[.string ⟨#[]⟩, .int .i64 4]) ∧ w = w' := by
  go_enter Try.func30, Try.ntmps30
  go_wp2
  go_ret2
  exact ⟨rfl, rfl⟩
set_option maxRecDepth 100000 in
set_option maxHeartbeats 400000 in
theorem rput_ok (s : ByteArray) (h : s.size ≤ 65536) (w : World) :
    Calls Try.prog 30 #[.string s] w fun e w' => e = .returned (.tuple #[.string ⟨(frameOf s.data.toList).toArray⟩, .int .i64 0]) ∧ Below w.heap.size w w' := by
  have hk := Crc.check_lt s.data.toList
  go_enter Try.func30, Try.ntmps30
  go_wp2_with fail
  refine (four_any s.size (by omega) _).mono ?_
  rintro e w1 ⟨rfl, hb1⟩
  go_wp2_with fail
  refine (rcheck_any s (by omega) _).mono ?_
  rintro e w2 ⟨rfl, rfl⟩
  go_wp2_with fail
  refine (four_any _ (Crc.check_lt _) _).mono ?_
  rintro e w3 ⟨rfl, hb3⟩
  have l1 : (be4 s.size).length = 4 := rfl
  have l2 : (be4 (Crc.check s.data.toList)).length = 4 := rfl
  go_wp2
  go_ret2
  refine ⟨?_, hb1.trans (hb3.mono hb1.size)⟩
  exact ret_str_int (by rw [frame_bytes])
theorem ret_bool {a b : Bool} (h : a = b) : Ending.returned (.bool a) = .returned (.bool b) := by rw [h]
theorem ret_int {k : IntKind} {a b : Int} (h : a = b) : Ending.returned (.int k a) = .returned (.int k b) := by rw [h]
theorem rd4 (l : List UInt8) (at_ : Nat) (h : at_ + 4 ≤ l.length) : rd ((l.drop at_).take 4) = l[at_].toNat * 16777216 + l[at_ + 1].toNat * 65536 + l[at_ + 2].toNat * 256 + l[at_ + 3].toNat := by
  have e : (l.drop at_).take 4 = [l[at_], l[at_ + 1], l[at_ + 2], l[at_ + 3]] := by
    rw [List.drop_eq_getElem_cons (by omega), List.drop_eq_getElem_cons (by omega), List.drop_eq_getElem_cons (by omega), List.drop_eq_getElem_cons (by omega)]
    rfl
  rw [e]; simp [rd]; omega
set_option maxRecDepth 100000 in
set_option maxHeartbeats 400000 in
theorem rnumber_any (s : ByteArray) (at_ : Nat) (h : at_ + 4 ≤ s.size) (hs : s.size ≤ 1099511627776) (w : World) :
    Calls Try.prog 65 #[.string s, .int .i64 at_] w fun e w' => e = .returned (.int .i64 (rd ((s.data.toList.drop at_).take 4) : Nat)) ∧ ∃ n, w' = w.drewN n := by
  have h0 := s[at_].toNat_lt
  have h1 := s[at_ + 1].toNat_lt
  have h2 := s[at_ + 2].toNat_lt
  have h3 := s[at_ + 3].toNat_lt
  have hrd := rd4 s.data.toList at_ (by simpa using h)
  have HRD := Lib.hid hrd
  clear hrd
  go_enter Try.func65, Try.ntmps65
  have a1 : IntKind.i64.wrap ((at_ : Int) + 1) = (at_ : Int) + 1 := IntWalk.i64_in _ (by omega)
  have a2 : IntKind.i64.wrap ((at_ : Int) + 2) = (at_ : Int) + 2 := IntWalk.i64_in _ (by omega)
  have a3 : IntKind.i64.wrap ((at_ : Int) + 3) = (at_ : Int) + 3 := IntWalk.i64_in _ (by omega)
  have t1 : ((at_ : Int) + 1).toNat = at_ + 1 := by omega
  have t2 : ((at_ : Int) + 2).toNat = at_ + 2 := by omega
  have t3 : ((at_ : Int) + 3).toNat = at_ + 3 := by omega
  have p1 : (0 : Int) ≤ (at_ : Int) + 1 := by omega
  have p2 : (0 : Int) ≤ (at_ : Int) + 2 := by omega
  have p3 : (0 : Int) ≤ (at_ : Int) + 3 := by omega
  have q0 : (at_ : Int) < (s.size : Int) := by omega
  have q1 : (at_ : Int) + 1 < (s.size : Int) := by omega
  have q2 : (at_ : Int) + 2 < (s.size : Int) := by omega
  have q3 : (at_ : Int) + 3 < (s.size : Int) := by omega
  go_wp2
  go_quiet (fail)
  go_wp2
  go_ret
  refine ⟨ret_int ?_, nq, rfl⟩
  rw [HRD.out]
  show _ = ((s[at_].toNat * 16777216 + s[at_ + 1].toNat * 65536 + s[at_ + 2].toNat * 256 + s[at_ + 3].toNat : Nat) : Int)
  omega

/-- a value that is a slice of these texts, in a world. -/
def SlStr (w : World) (v : Value) (rs : List (List UInt8)) : Prop :=
  ∃ a c, v = .slice a rs.length c ∧ (rs ≠ [] → ∃ b o, a = some ⟨b, o, none⟩ ∧ ∀ j x, rs[j]? = some x → w.cell? ⟨b, o + j, none⟩ = some (.string ⟨x.toArray⟩))
theorem slStr_owns {w : World} {B : Nat} {v : Value} {rs : List (List UInt8)} (h : w.ownsRow B 9 1 v rs.length (strs rs)) : SlStr w v rs := by
  rcases h.2 with ⟨rfl, h0⟩ | ⟨g, cap, cur, rfl, hg, hh, _⟩
  · exact ⟨none, 0, by rw [h0], fun hne => by cases rs <;> simp_all⟩
  · refine ⟨some ⟨g, 0, none⟩, cap, rfl, fun _ => ⟨g, 0, rfl, fun j x hx => ?_⟩⟩
    have hj : j < rs.length := (List.getElem?_eq_some_iff.1 hx).1
    rw [Nat.zero_add, h.cellAt j (by omega)]
    simp [strs, hx]
theorem slStr_below {w w1 : World} {v : Value} {rs : List (List UInt8)} (h : SlStr w v rs) (hb : Below w.heap.size w w1) : SlStr w1 v rs := by
  obtain ⟨a, c, rfl, h⟩ := h
  refine ⟨a, c, rfl, fun hne => ?_⟩
  obtain ⟨b, o, ha, hc⟩ := h hne
  exact ⟨b, o, ha, fun j x hx => by rw [hb.cell (p := ⟨b, o + j, none⟩) (block_lt_of_cell (hc j x hx))]; exact hc j x hx⟩
theorem slStr_drewN {w : World} {v : Value} {rs : List (List UInt8)} (h : SlStr w v rs) (n : Nat) : SlStr (w.drewN n) v rs := h
set_option maxRecDepth 100000 in
set_option maxHeartbeats 1000000 in
theorem same_any (va vb : Value) (A B : List (List UInt8)) (w : World) (ha : SlStr w va A) (hb : SlStr w vb B) (hA : A.length ≤ 9223372036854775807) :
    Calls Try.prog 35 #[va, vb] w fun e w' => e = .returned (.bool (decide (A = B))) ∧ ∃ n, w' = w.drewN n := by
  obtain ⟨a, ca, rfl, ha⟩ := ha
  obtain ⟨b, cb, rfl, hb⟩ := hb
  by_cases hl : A.length = B.length
  · have hl2 : ((A.length : Int) != (B.length : Int)) = false := by simp [hl]
    have HL := Lib.hid hl
    have HA := Lib.hid ha
    have HB := Lib.hid hb
    clear hl ha hb
    go_enter Try.func35, Try.ntmps35
    go_wp2
    go_loopw [5] (fun i wr => ∃ k : Nat, k ≤ A.length ∧ i = .int .i64 k ∧ A.take k = B.take k ∧ ∃ n, wr = w.drewN n) (fun i _ => A.length - (intOf i).toNat)
    case atStart => exact ⟨0, by omega, rfl, rfl, 0, rfl⟩
    case round =>
      obtain ⟨k, hk, rfl, ht, n, rfl⟩ := hrel
      have HT := Lib.hid ht
      clear ht
      by_cases hlt : k < A.length
      · have hne : A ≠ [] := by intro h; rw [h] at hlt; simp at hlt
        have hne2 : B ≠ [] := by intro h; have := HL.out; rw [h] at this; simp at this; exact hne this
        obtain ⟨ba, oa, ea, fa⟩ := HA.out hne
        obtain ⟨bb, ob, eb, fb⟩ := HB.out hne2
        subst ea
        subst eb
        have hltB : k < B.length := by have := HL.out; omega
        obtain ⟨x, hx⟩ : ∃ x, A[k]? = some x := ⟨A[k], by simp [hlt]⟩
        obtain ⟨y, hy⟩ : ∃ y, B[k]? = some y := ⟨B[k], by simp [hltB]⟩
        have ga : w.cell? ⟨ba, oa + k, none⟩ = some (.string ⟨x.toArray⟩) := fa k x hx
        have gb : w.cell? ⟨bb, ob + k, none⟩ = some (.string ⟨y.toArray⟩) := fb k y hy
        have HX := Lib.hid hx
        have HY := Lib.hid hy
        have q1 : (k : Int) < (A.length : Int) := by omega
        have q2 : (k : Int) < (B.length : Int) := by omega
        clear hx hy fa fb hne hne2
        go_wp2
        go_quiet (fail)
        go_wp2
        · have hne : x ≠ y := by
            have h : (!x == y) = true := by assumption
            intro e; rw [e] at h; simp at h
          go_ret
          refine ⟨ret_bool ?_, n + nq, World.drewN_drewN _ _ _⟩
          refine (decide_eq_false ?_).symm
          intro e
          have h1 := HX.out
          rw [e, HY.out] at h1
          exact hne (Option.some.inj h1).symm
        · have he : x = y := by
            have h : (!x == y) = false := by assumption
            simpa using h
          go_roundw
          case rel =>
            refine ⟨k + 1, by omega, by go_num, ?_, n + nq, rfl⟩
            rw [List.take_add_one, List.take_add_one, HT.out, HX.out, HY.out, he]
          case measure => simp [intOf]; omega
      · obtain rfl : k = A.length := by omega
        go_wp2
        go_ret
        refine ⟨ret_bool ?_, n, rfl⟩
        refine (decide_eq_true ?_).symm
        have := HT.out
        rwa [List.take_length, HL.out, List.take_length] at this
  · have hl2 : ((A.length : Int) != (B.length : Int)) = true := by rw [bne_iff_ne]; omega
    have HL := Lib.hid hl
    clear hl ha hb
    go_enter Try.func35, Try.ntmps35
    go_wp2
    go_ret
    refine ⟨ret_bool ?_, 0, rfl⟩
    refine (decide_eq_false ?_).symm
    intro e
    exact HL.out (by rw [e])
/-- how many bytes there are together, as the document's text tells it. -/
def sz : List (List UInt8) → Nat → Nat
  | [], n => n
  | r :: rs, n => if n < 1000000 then sz rs (n + r.length + 1) else n
theorem sz_stop (rs : List (List UInt8)) (n : Nat) (h : ¬ n < 1000000) : sz rs n = n := by
  cases rs with
  | nil => rfl
  | cons r rs => simp [sz, h]
set_option maxRecDepth 100000 in
set_option maxHeartbeats 1000000 in
theorem size_any (v : Value) (A : List (List UInt8)) (w : World) (ha : SlStr w v A) (hA : A.length ≤ 9223372036854775807) (hx : ∀ x ∈ A, x.length ≤ 140737488355328) :
    Calls Try.prog 36 #[v] w fun e w' => e = .returned (.int .i64 (sz A 0 : Nat)) ∧ w = w' := by
  obtain ⟨a, ca, rfl, ha⟩ := ha
  have HA := Lib.hid ha
  have HX := Lib.hid hx
  clear ha hx
  go_enter Try.func36, Try.ntmps36
  go_wp2
  go_loop [3, 4] (fun c i => ∃ (k m : Nat), k ≤ A.length ∧ i = .int .i64 k ∧ c = .int .i64 m ∧ sz A 0 = sz (A.drop k) m ∧ m < 281474976710656) (fun _ i => A.length - (intOf i).toNat)
  case atStart => exact ⟨0, 0, by omega, rfl, rfl, rfl, by omega⟩
  case round =>
    obtain ⟨k, m, hk, rfl, rfl, hz, hm⟩ := hrel
    have HZ := Lib.hid hz
    clear hz
    by_cases hlt : k < A.length
    · by_cases hq : m < 1000000
      · have hne : A ≠ [] := by intro h; rw [h] at hlt; simp at hlt
        obtain ⟨ba, oa, ea, fa⟩ := HA.out hne
        subst ea
        obtain ⟨x, hx⟩ : ∃ x, A[k]? = some x := ⟨A[k], by simp [hlt]⟩
        have ga : w.cell? ⟨ba, oa + k, none⟩ = some (.string ⟨x.toArray⟩) := fa k x hx
        have hxl := HX.out x (List.mem_of_getElem? hx)
        have HXX := Lib.hid hx
        have q1 : (k : Int) < (A.length : Int) := by omega
        clear hx fa hne
        have hq2 : (m : Int) < 1000000 := by omega
        have HQ := Lib.hid hq
        clear hq
        go_wp2
        go_round
        case rel =>
          refine ⟨k + 1, m + x.length + 1, by omega, by go_num, ?_, ?_, by omega⟩
          · rfl
          · rw [HZ.out, List.drop_eq_getElem_cons hlt]
            have : A[k] = x := by have := HXX.out; rw [List.getElem?_eq_getElem hlt] at this; exact Option.some.inj this
            rw [this, sz, if_pos HQ.out]
        case measure => simp [intOf]; omega
      · have hq2 : ¬ (m : Int) < 1000000 := by omega
        have HQ := Lib.hid hq
        clear hq
        go_wp2
        go_ret
        exact ⟨ret_int (by rw [HZ.out, sz_stop _ _ HQ.out]), rfl⟩
    · obtain rfl : k = A.length := by omega
      go_wp2
      all_goals (go_ret; exact ⟨ret_int (by rw [HZ.out, List.drop_length]; rfl), rfl⟩)
end Go.Proofs.Ytdphnhgogokidaa
