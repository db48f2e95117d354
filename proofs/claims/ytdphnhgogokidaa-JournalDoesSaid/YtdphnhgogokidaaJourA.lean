/- The journal: a number by eight bytes; parted. -/
import Derived.Test.YtdphnhgogokidaaDiskC
import Derived.Test.YtdphnhgogokidaaFrameR
import Derived.Laws.Shifts
import Derived.Deep.LoopGhost
import Derived.Deep.DeepCutAuto
import Derived.Deep.RegionHeld3
import Derived.Laws.Concat
import Derived.OwnWalk
namespace Go.Proofs.Ytdphnhgogokidaa
open Go.RowKit

/-- eight bytes of a number, the highest first. -/
def eight (n : Nat) : List UInt8 := [UInt8.ofNat (n / 72057594037927936), UInt8.ofNat (n / 281474976710656), UInt8.ofNat (n / 1099511627776), UInt8.ofNat (n / 4294967296), UInt8.ofNat (n / 16777216), UInt8.ofNat (n / 65536), UInt8.ofNat (n / 256), UInt8.ofNat n]
def zero8 : List UInt8 := [0, 0, 0, 0, 0, 0, 0, 0]
def byteCells (l : List UInt8) : Array Value := (l.map fun b => Value.int .u8 b.toNat).toArray
theorem catj (x y : List UInt8) (h : ((x.length : Nat) : Int) + (y.length : Nat) ≤ 9223372036854775807) (w : World) : (Go.Op.stringOp .add ⟨x.toArray⟩ ⟨y.toArray⟩).run Try.prog w = Result.ok (.string ⟨(x ++ y).toArray⟩) w := by
  exact (run_string_add_sum w _ _ (by show x.length + y.length ≤ _; omega)).trans (by rw [ByteArray.mk_append_mk])
theorem infoU8j : (Try.prog.info? 5).map (fun i => (i.zero, i.size, i.bytes)) = some (some (.int .u8 0), 1, 1) := by kernel_rfl
theorem make8 (W : World) : (Instr.makeSlice 62 (.int .i64 8) (.int .i64 8)).run Try.prog W = .ok (.slice (some ⟨W.heap.size, 0, none⟩) 8 8) (W.alloc (.cells (byteCells zero8) 5)) := by
  obtain ⟨i0, hi, hz0, hz1, hz2⟩ := info_parts infoU8j
  have h := run_makeSlice (P := Try.prog) (w := W) 62 5 i0 (.int .u8 0) Try.underlying62 hi hz0 .i64 .i64 8 8 (by omega) (by omega) (by rw [hz1]; decide) (by rw [hz2]; decide) (by decide)
  have hm : madeCells (Value.int .u8 0).cells (Int.toNat 8 * 1) = byteCells zero8 := by kernel_rfl
  rw [h, hz1, hm]
  rfl
theorem set_byte {w : World} {g j : Nat} {L : List UInt8} (b : UInt8) (h : w.heap[g]? = some (.cells (byteCells L) 5 (0, 0))) : (w.setCell ⟨g, j, none⟩ (.int .u8 b.toNat)).heap[g]? = some (.cells (byteCells (L.set j b)) 5 (0, 0)) := by
  rw [heap_setCell_same _ _ _ _ _ _ h]
  unfold byteCells
  rw [List.map_set]
  simp [Array.setIfInBounds, List.set_toArray]
  intro hh
  rw [List.set_eq_of_length_le (by simpa using hh)]
set_option maxRecDepth 100000 in
set_option maxHeartbeats 2000000 in
theorem numbered_any (n : Nat) (hn : (n : Int) ≤ 9223372036854775807) (text : List UInt8) (ht : (text.length : Int) ≤ 140737488355328) (w : World) :
    Calls Try.prog 76 #[.int .i64 n, .string ⟨text.toArray⟩] w fun e w' => e = .returned (.string ⟨(eight n ++ text).toArray⟩) ∧ Below w.heap.size w w' := by
  go_enter Try.func76, Try.ntmps76
  go_wp2_with fail
  rw [make8]
  have hbel := (Below.refl w.heap.size w).alloc (Nat.le_refl _) (.cells (byteCells zero8) 5)
  have hnew := heap_alloc_new w (.cells (byteCells zero8) 5)
  have HB := Lib.hid hbel
  have HN := Lib.hid hnew
  clear hbel hnew
  generalize w.alloc (.cells (byteCells zero8) 5) = w1 at *
  go_wp2_with fail
  go_loopw [10] (fun i wr => ∃ j : Nat, j ≤ 8 ∧ i = .int .i64 j ∧ wr.heap[w.heap.size]? = some (.cells (byteCells ((eight n).take j ++ zero8.drop j)) 5 (0, 0)) ∧ Below w.heap.size w wr) (fun i _ => 8 - (intOf i).toNat)
  case atStart => exact ⟨0, by omega, rfl, HN.out, HB.out⟩
  case round =>
    obtain ⟨j, hj, rfl, hg, hbel⟩ := hrel
    clear HN HB
    have HB := Lib.hid hbel
    have HG := Lib.hid hg
    clear hbel
    by_cases hlt : j < 8
    · have hf := frozen_of_row _ _ j _ _ hg
      have hc := cell_of_row _ _ j _ _ _ hg
      clear hg
      have hj8 : j = 0 ∨ j = 1 ∨ j = 2 ∨ j = 3 ∨ j = 4 ∨ j = 5 ∨ j = 6 ∨ j = 7 := by omega
      clear hj hlt
      rcases hj8 with rfl | rfl | rfl | rfl | rfl | rfl | rfl | rfl
      · replace hc : wr.cell? ⟨w.heap.size, 0, none⟩ = some (.int .u8 0) := hc
        have he : Value.int .u8 ((n : Int) / 72057594037927936) = .int .u8 ((UInt8.ofNat (n / 72057594037927936)).toNat : Nat) := by congr 1; simp; omega
        have HE := Lib.hid he
        have HS := Lib.hid (set_byte (j := 0) (UInt8.ofNat (n / 72057594037927936)) HG.out)
        clear he
        go_wp2
        go_roundw
        case rel => exact ⟨1, by decide, rfl, by rw [HE.out]; exact HS.out, HB.out.setCell (Nat.le_refl _) _⟩
        case measure => simp [intOf]
      · replace hc : wr.cell? ⟨w.heap.size, 1, none⟩ = some (.int .u8 0) := hc
        have he : Value.int .u8 ((n : Int) / 281474976710656 % 256) = .int .u8 ((UInt8.ofNat (n / 281474976710656)).toNat : Nat) := by congr 1
        have HE := Lib.hid he
        have HS := Lib.hid (set_byte (j := 1) (UInt8.ofNat (n / 281474976710656)) HG.out)
        clear he
        go_wp2
        go_roundw
        case rel => exact ⟨2, by decide, rfl, by rw [HE.out]; exact HS.out, HB.out.setCell (Nat.le_refl _) _⟩
        case measure => simp [intOf]
      · replace hc : wr.cell? ⟨w.heap.size, 2, none⟩ = some (.int .u8 0) := hc
        have he : Value.int .u8 ((n : Int) / 1099511627776 % 256) = .int .u8 ((UInt8.ofNat (n / 1099511627776)).toNat : Nat) := by congr 1
        have HE := Lib.hid he
        have HS := Lib.hid (set_byte (j := 2) (UInt8.ofNat (n / 1099511627776)) HG.out)
        clear he
        go_wp2
        go_roundw
        case rel => exact ⟨3, by decide, rfl, by rw [HE.out]; exact HS.out, HB.out.setCell (Nat.le_refl _) _⟩
        case measure => simp [intOf]
      · replace hc : wr.cell? ⟨w.heap.size, 3, none⟩ = some (.int .u8 0) := hc
        have he : Value.int .u8 ((n : Int) / 4294967296 % 256) = .int .u8 ((UInt8.ofNat (n / 4294967296)).toNat : Nat) := by congr 1
        have HE := Lib.hid he
        have HS := Lib.hid (set_byte (j := 3) (UInt8.ofNat (n / 4294967296)) HG.out)
        clear he
        go_wp2
        go_roundw
        case rel => exact ⟨4, by decide, rfl, by rw [HE.out]; exact HS.out, HB.out.setCell (Nat.le_refl _) _⟩
        case measure => simp [intOf]
      · replace hc : wr.cell? ⟨w.heap.size, 4, none⟩ = some (.int .u8 0) := hc
        have he : Value.int .u8 ((n : Int) / 16777216 % 256) = .int .u8 ((UInt8.ofNat (n / 16777216)).toNat : Nat) := by congr 1
        have HE := Lib.hid he
        have HS := Lib.hid (set_byte (j := 4) (UInt8.ofNat (n / 16777216)) HG.out)
        clear he
        go_wp2
        go_roundw
        case rel => exact ⟨5, by decide, rfl, by rw [HE.out]; exact HS.out, HB.out.setCell (Nat.le_refl _) _⟩
        case measure => simp [intOf]
      · replace hc : wr.cell? ⟨w.heap.size, 5, none⟩ = some (.int .u8 0) := hc
        have he : Value.int .u8 ((n : Int) / 65536 % 256) = .int .u8 ((UInt8.ofNat (n / 65536)).toNat : Nat) := by congr 1
        have HE := Lib.hid he
        have HS := Lib.hid (set_byte (j := 5) (UInt8.ofNat (n / 65536)) HG.out)
        clear he
        go_wp2
        go_roundw
        case rel => exact ⟨6, by decide, rfl, by rw [HE.out]; exact HS.out, HB.out.setCell (Nat.le_refl _) _⟩
        case measure => simp [intOf]
      · replace hc : wr.cell? ⟨w.heap.size, 6, none⟩ = some (.int .u8 0) := hc
        have he : Value.int .u8 ((n : Int) / 256 % 256) = .int .u8 ((UInt8.ofNat (n / 256)).toNat : Nat) := by congr 1
        have HE := Lib.hid he
        have HS := Lib.hid (set_byte (j := 6) (UInt8.ofNat (n / 256)) HG.out)
        clear he
        go_wp2
        go_roundw
        case rel => exact ⟨7, by decide, rfl, by rw [HE.out]; exact HS.out, HB.out.setCell (Nat.le_refl _) _⟩
        case measure => simp [intOf]
      · replace hc : wr.cell? ⟨w.heap.size, 7, none⟩ = some (.int .u8 0) := hc
        have he : Value.int .u8 ((n : Int) % 256) = .int .u8 ((UInt8.ofNat (n)).toNat : Nat) := by congr 1
        have HE := Lib.hid he
        have HS := Lib.hid (set_byte (j := 7) (UInt8.ofNat (n)) HG.out)
        clear he
        go_wp2
        go_roundw
        case rel => exact ⟨8, by decide, rfl, by rw [HE.out]; exact HS.out, HB.out.setCell (Nat.le_refl _) _⟩
        case measure => simp [intOf]
    · obtain rfl : j = 8 := by omega
      have hcv := run_convert_bytes_back (P := Try.prog) wr 62 9 5 ⟨w.heap.size, 0, none⟩ 8 (eight n) Try.underlying62 Try.underlying5 Try.underlying9 (by
        intro j hj
        rw [WideShapes.add_plain, Nat.zero_add, cell_of_row _ _ _ _ _ _ hg]
        have hj8 : j < 8 := hj
        have : j = 0 ∨ j = 1 ∨ j = 2 ∨ j = 3 ∨ j = 4 ∨ j = 5 ∨ j = 6 ∨ j = 7 := by omega
        rcases this with rfl | rfl | rfl | rfl | rfl | rfl | rfl | rfl <;> rfl)
      have hcat := catj (eight n) text (by show ((8 : Nat) : Int) + _ ≤ _; omega)
      have hcv2 : (convert 62 9 (.slice (some ⟨w.heap.size, 0, none⟩) 8 8)).run Try.prog wr = .ok (.string ⟨(eight n).toArray⟩) wr := hcv
      clear hcv hg
      generalize hR : (eight n ++ text).toArray = R at *
      have HRR := Lib.hid hR
      clear hR
      generalize (eight n).toArray = E at *
      go_wp2
      go_ret
      exact ⟨by rw [HRR.out]; rfl, HB.out⟩
/-- a number and what is behind it, if there is one below 2^62. -/
def part (s : List UInt8) : Option (Nat × List UInt8) := if s.length < 8 then none else if 18014398509481984 ≤ rd (s.take 7) then none else some (rd (s.take 8), s.drop 8)
theorem or_byte (V b : Nat) (hV : V < 18014398509481984) (hb : b < 256) : bits .or .i64 (wrap64 ((V : Int) * 256)) (b : Int) = ((V * 256 + b : Nat) : Int) := by
  have hA : (wrap64 ((V : Int) * 256)) % 18446744073709551616 = ((V * 256 : Nat) : Int) := by
    unfold wrap64; omega
  generalize wrap64 ((V : Int) * 256) = a at *
  have h1 : (BitVec.ofInt 64 a).toNat = V * 256 := by
    rw [BitVec.toNat_ofInt]
    show (a % 18446744073709551616).toNat = _
    rw [hA]; rfl
  have h2 : (BitVec.ofInt 64 (b : Int)).toNat = b := by
    rw [BitVec.ofInt_natCast, BitVec.toNat_ofNat]; exact Nat.mod_eq_of_lt (by omega)
  show IntKind.i64.wrap ((BitVec.ofInt 64 a ||| BitVec.ofInt 64 (b : Int)).toNat : Int) = _
  rw [BitVec.toNat_or, h1, h2, nat_join 8 (V * 256) b (by omega) (by omega), IntKind.wrap_i64]
  omega
theorem rd_small (s : List UInt8) {j : Nat} (hj : j ≤ 6) : rd (s.take j) < 18014398509481984 := by
  have h1 := rd_lt (s.take j)
  have h2 : (s.take j).length ≤ 6 := by rw [List.length_take]; omega
  exact Nat.lt_of_lt_of_le h1 (Nat.le_trans (Nat.pow_le_pow_right (by omega) h2) (by decide))
def partV (s : List UInt8) : Value :=
  match part s with
  | none => .tuple #[.int .i64 0, .string ⟨#[]⟩, .bool false]
  | some (n, t) => .tuple #[.int .i64 n, .string ⟨t.toArray⟩, .bool true]
theorem partV_short {s : List UInt8} (h : s.length < 8) : partV s = .tuple #[.int .i64 0, .string ⟨#[]⟩, .bool false] := by unfold partV part; rw [if_pos h]
theorem partV_big {s : List UInt8} (h : ¬ s.length < 8) (h2 : 18014398509481984 ≤ rd (s.take 7)) : partV s = .tuple #[.int .i64 0, .string ⟨#[]⟩, .bool false] := by unfold partV part; rw [if_neg h, if_pos h2]
theorem partV_ok {s : List UInt8} (h : ¬ s.length < 8) (h2 : ¬ 18014398509481984 ≤ rd (s.take 7)) : partV s = .tuple #[.int .i64 (rd (s.take 8) : Nat), .string ⟨(s.drop 8).toArray⟩, .bool true] := by unfold partV part; rw [if_neg h, if_neg h2]
set_option maxRecDepth 100000 in
set_option maxHeartbeats 2000000 in
theorem parted_any (s : List UInt8) (hs : (s.length : Int) ≤ 140737488355328) (w : World) :
    Calls Try.prog 69 #[.string ⟨s.toArray⟩] w fun e w' => e = .returned (partV s) ∧ ∃ n, w' = w.drewN n := by
  by_cases h8 : s.length < 8
  · have HP := Lib.hid (partV_short h8)
    generalize partV s = pv at *
    have h8i : (s.length : Int) < 8 := by omega
    clear h8
    go_enter Try.func69, Try.ntmps69
    go_wp2
    exact bodyPost_ret (results_tmp3 rfl _ _ _) rfl ⟨by rw [HP.out]; rfl, 0, rfl⟩
  · have HBIG := Lib.hid (fun h => partV_big h8 h)
    have HOK := Lib.hid (fun h => partV_ok h8 h)
    generalize partV s = pv at *
    have h8i : ¬ (s.length : Int) < 8 := by omega
    have h8j : (8 : Int) ≤ s.length := by omega
    clear h8
    go_enter Try.func69, Try.ntmps69
    go_wp2_with fail
    go_loopw [5, 10] (fun n i wr => ∃ (j x : Nat), j ≤ 8 ∧ i = .int .i64 j ∧ n = .int .i64 x ∧ rd (s.take j) = x ∧ (j = 8 → ¬ (18014398509481984 : Int) ≤ rd (s.take 7)) ∧ wr = w) (fun _ i _ => 8 - (intOf i).toNat)
    case atStart => exact ⟨0, 0, by omega, rfl, rfl, by simp [rd], fun h => absurd h (by omega), rfl⟩
    case round =>
      obtain ⟨j, x, hj, rfl, rfl, hx, hlast, rfl⟩ := hrel
      have HL := Lib.hid hlast
      have HX := Lib.hid hx
      clear hlast
      by_cases hlt : j < 8
      · by_cases hbig : (18014398509481984 : Int) ≤ x
        · have hj7 : j = 7 := by
            by_cases h7 : j = 7
            · exact h7
            · exfalso
              have := rd_small s (j := j) (by omega)
              rw [hx] at this
              omega
          subst hj7
          have HNO := Lib.hid (show pv = .tuple #[.int .i64 0, .string ⟨#[]⟩, .bool false] from HBIG.out (by rw [hx]; omega))
          clear hx HBIG HOK
          go_wp2
          exact bodyPost_ret (results_tmp3 rfl _ _ _) rfl ⟨by rw [HNO.out]; rfl, 0, rfl⟩
        · have hb := (s.getD j 0).toNat_lt
          have hjl : j < s.length := by omega
          have hg : s[j]'hjl = s.getD j 0 := by simp [List.getD, hjl]
          have hnx : rd (s.take (j + 1)) = x * 256 + (s.getD j 0).toNat := by
            rw [List.take_succ_eq_append_getElem hjl, rd_snoc, hx, hg]
          have HNX := Lib.hid hnx
          have hor := or_byte x (s.getD j 0).toNat (by omega) hb
          have HNL := Lib.hid (show j + 1 = 8 → ¬ (18014398509481984 : Int) ≤ rd (s.take 7) by
            intro h; obtain rfl : j = 7 := by omega
            rw [hx]; exact hbig)
          have hbi : ((s.getD j 0).toNat : Int) ≤ 255 := by omega
          have hw : wrap64 (((⟨s.toArray⟩ : ByteArray)[j]'hjl).toNat : Int) = ((s.getD j 0).toNat : Int) := by
            have h : ((⟨s.toArray⟩ : ByteArray)[j]'hjl) = s.getD j 0 := hg
            rw [h]
            unfold wrap64
            omega
          have hwx : wrap64 ((x : Int) * 256) = (x : Int) * 256 := by unfold wrap64; omega
          rw [hwx] at hor
          clear hx hnx hb hwx
          generalize s.getD j 0 = q at *
          go_wp2
          go_roundw
          case rel => exact ⟨j + 1, x * 256 + q.toNat, by omega, by go_num, by go_num, HNX.out, HNL.out, by first | rfl | trivial⟩
          case measure => simp [intOf]; omega
      · obtain rfl : j = 8 := by omega
        have HYES := Lib.hid (HOK.out (by have := HL.out rfl; omega))
        rw [hx] at HYES
        have hext : (⟨s.toArray⟩ : ByteArray).extract 8 s.length = ⟨(s.drop 8).toArray⟩ := by rw [ByteArray.extract_mk]; simp; exact List.take_of_length_le (by simp)
        clear hx HBIG HOK HL
        go_wp2_with fail
        go_quiet (fail)
        go_wp2
        go_ret3
        exact ⟨by rw [HYES.out]; rfl, nq, rfl⟩
end Go.Proofs.Ytdphnhgogokidaa
