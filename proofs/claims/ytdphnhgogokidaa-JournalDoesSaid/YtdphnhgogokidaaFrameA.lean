/- Walks of the frame package's small functions: the table of checks, the check of bytes, a number's four bytes, a record's frame. -/
import Derived.Test.YtdphnhgogokidaaRows
import Derived.WalkKit
import Derived.WalkSpells
import Derived.WalkLawsBesides
import Derived.Lib.Hide
import Derived.Laws.CopyOwn
import Derived.Test.YtdphnhgogokidaaCrc
namespace Go.Proofs.Ytdphnhgogokidaa
open Go.RowKit

/-- the table of checks, as far as it is made. -/
def tabArr (k : Nat) : Array Value := ((List.range 256).map fun i => if i < k then Value.int .u32 (Crc.bitsN 8 i : Nat) else .int .u32 0).toArray
theorem tabArr_zero : Try.zeroCells99 = tabArr 0 := by kernel_rfl
theorem tabArr_size (k : Nat) : (tabArr k).size = 256 := by simp [tabArr]
theorem tabArr_get (k i : Nat) (hi : i < 256) : (tabArr k)[i]? = some (if i < k then Value.int .u32 (Crc.bitsN 8 i : Nat) else .int .u32 0) := by
  simp [tabArr, hi]
theorem tabArr_set (k : Nat) (hk : k < 256) : (tabArr k).setIfInBounds k (.int .u32 (Crc.bitsN 8 k : Nat)) = tabArr (k + 1) := by
  apply Array.ext_getElem?
  intro i
  rw [Array.getElem?_setIfInBounds, tabArr_size]
  by_cases hi : i < 256
  · rw [tabArr_get _ _ hi, tabArr_get _ _ hi]
    by_cases h : k = i
    · subst h; simp [hk]
    · rw [if_neg h]
      have : (i < k) = (i < k + 1) := by simp; omega
      simp [this]
  · rw [Array.getElem?_eq_none (by rw [tabArr_size]; omega), Array.getElem?_eq_none (by rw [tabArr_size]; omega)]
    rw [if_neg (by omega)]

theorem tabArr_cells (k : Nat) : (tabArr k).all (·.oneCell') = true := by
  rw [Array.all_eq_true_iff_forall_mem]
  intro x hx
  simp only [tabArr, List.mem_toArray, List.mem_map] at hx
  obtain ⟨i, _, rfl⟩ := hx
  split <;> rfl
theorem tab_info {k : Nat} : (Try.prog.info? 99).map (·.size) = some (tabArr k).size := by
  rw [tabArr_size]; kernel_rfl
theorem bit_walk (c : Nat) (hc : c < 4294967296) : bits .xor .u32 ((c : Int) / 2) (bits .and .u32 3988292384 ((-(bits .and .u32 c 1)) % 4294967296)) = (Crc.bit c : Nat) := by
  have h1 : bits .and .u32 (c : Int) 1 = ((c % 2 : Nat) : Int) := by
    have := u32_and_nat c 1 hc (by omega)
    rw [nat_mask1] at this
    exact this
  rw [h1]
  have hd : ((c : Int) / 2) = ((c / 2 : Nat) : Int) := by omega
  rw [hd]
  unfold Crc.bit
  rcases Nat.mod_two_eq_zero_or_one c with h | h
  · rw [h, if_neg (by omega)]
    have e : (-((0 : Nat) : Int)) % 4294967296 = ((0 : Nat) : Int) := by decide
    rw [e]
    have e2 := u32_and_nat 3988292384 0 (by omega) (by omega)
    rw [show ((3988292384 : Nat) : Int) = 3988292384 from rfl] at e2
    rw [e2, u32_xor_nat _ _ (by omega) (by decide)]
    simp
  · rw [h, if_pos rfl]
    have e : (-((1 : Nat) : Int)) % 4294967296 = ((4294967295 : Nat) : Int) := by decide
    rw [e]
    have e2 := u32_and_nat 3988292384 4294967295 (by omega) (by omega)
    rw [show ((3988292384 : Nat) : Int) = 3988292384 from rfl] at e2
    rw [e2, u32_xor_nat _ _ (by omega) (by decide)]
    rfl

set_option maxRecDepth 100000 in
set_option maxHeartbeats 1000000 in
theorem table_any (w : World) :
    Calls Try.prog 66 #[] w fun e w' => e = .returned (.agg (tabArr 256)) ∧ Below w.heap.size w w' := by
  have hz : Hid (Try.zeroCells99 = tabArr 0) := Lib.hid tabArr_zero
  go_enter Try.func66, Try.ntmps66
  go_wp2
  rw [hz.out]
  go_loopw [4] (fun i wr => ∃ k : Nat, k ≤ 256 ∧ i = .int .i64 k ∧ wr = (w.alloc (.cells (tabArr 0) 99)).alloc (.cells (tabArr k) 99)) (fun i _ => 256 - (intOf i).toNat)
  case atStart => exact ⟨0, by omega, rfl, rfl⟩
  case round =>
    obtain ⟨k, hk, rfl, rfl⟩ := hrel
    by_cases hlt : k < 256
    · have hg : (tabArr k)[k]? = some (.int .u32 0) := by rw [tabArr_get k k hlt, if_neg (by omega)]
      have hs := tabArr_set k hlt
      have hS := Lib.hid hs
      clear hs
      go_wp2
      go_loop [3, 9] (fun c i => ∃ j : Nat, j ≤ 8 ∧ i = .int .i64 j ∧ ∃ x : Nat, x < 4294967296 ∧ Crc.bitsN (8 - j) x = Crc.bitsN 8 k ∧ c = .int .u32 x) (fun _ i => 8 - (intOf i).toNat)
      case atStart => exact ⟨0, by omega, rfl, k, by omega, rfl, rfl⟩
      case round =>
        obtain ⟨j, hj, rfl, x, hx, hb, rfl⟩ := hrel
        have hB := Lib.hid hb
        clear hb
        by_cases hlj : j < 8
        · have hw := bit_walk x hx
          go_wp2
          go_round
          case rel =>
            refine ⟨j + 1, by omega, by go_num, Crc.bit x, Crc.bit_lt hx, ?_, ?_⟩
            · rw [← hB.out, show 8 - j = (8 - (j + 1)) + 1 from by omega]; rfl
            · rfl
          case measure => simp [intOf]; omega
        · obtain rfl : j = 8 := by omega
          go_wp2
          go_roundw
          case rel =>
            refine ⟨k + 1, by omega, by go_num, ?_⟩
            have hb : x = Crc.bitsN 8 k := hB.out
            rw [hb, hS.out]
          case measure => simp [intOf]; omega
    · obtain rfl : k = 256 := by omega
      have h1 := heap_alloc2_new w (.cells (tabArr 0) 99) (.cells (tabArr 256) 99)
      have h2 := heap_alloc2_old w (.cells (tabArr 0) 99) (.cells (tabArr 256) 99)
      have H1 := Lib.hid h1
      have H2 := Lib.hid h2
      clear h1 h2
      go_wp2_with (first
        | (with_reducible refine wpList_load_row rfl 99 (.tmp 1) rfl (w.heap.size + 1) rfl 99 (tabArr 256) (0, 0) _ H1.out Try.underlying99 rfl tab_info ?_)
        | (with_reducible refine wpList_store_row rfl 99 (.tmp 0) (.tmp 23) rfl w.heap.size (tabArr 256) rfl rfl 99 (tabArr 0) H2.out tab_info (by rw [tabArr_size, tabArr_size]) (tabArr_cells 256) ?_))
      refine bodyPost_ret (v := .agg (tabArr 256)) (results_cell_row rfl _ _ w.heap.size 99 (tabArr 256) (0, 0) _ rfl (setRow_heap _ _ _ _ _ _ H2.out) Try.underlying99 rfl tab_info) rfl ⟨rfl, ?_⟩
      exact below_setRow (((Below.refl _ _).alloc (Nat.le_refl _) _).alloc (by simp) _) (Nat.le_refl _) _

theorem setRow_below_new {w w1 : World} (hb : Below w.heap.size w w1) (o : Obj) (cs : Array Value) : Below w.heap.size w ((w1.alloc o).setRow w1.heap.size cs) :=
  below_setRow (hb.alloc hb.size _) hb.size _
theorem zero_tab_size : Try.zeroCells99.size = (tabArr 256).size := by rw [tabArr_zero, tabArr_size, tabArr_size]
theorem idx_byte (x y : Nat) (hy : y < 256) : bits .xor .u8 ((x : Int) % 256) (y : Int) = (((x % 256) ^^^ y : Nat) : Int) := by
  have := u8_xor_nat (x % 256) y (by omega) hy
  rw [← this]; rfl
theorem byte_walk (x y : Nat) (hx : x < 4294967296) (hy : y < 256) : bits .xor .u32 ((Crc.bitsN 8 ((x % 256) ^^^ y) : Nat) : Int) ((x : Int) / 256) = (Crc.byte x y : Nat) := by
  rw [Crc.byte_table x y hy]
  have h1 : (x % 256) ^^^ y < 2 ^ 8 := Nat.xor_lt_two_pow (by omega) (by omega)
  exact u32_xor_nat _ (x / 256) (Crc.bitsN_lt 8 (by omega)) (by omega)
theorem check_end (l : List UInt8) (x : Nat) (hr : Crc.run 4294967295 l = x) : Ending.returned (.int .u32 (bits .xor .u32 IntKind.u32.max (x : Int))) = .returned (.int .u32 (Crc.check l : Nat)) := by
  have hx : x < 4294967296 := by rw [← hr]; exact Crc.run_lt l (by decide)
  have hm : IntKind.u32.max = ((4294967295 : Nat) : Int) := rfl
  rw [hm, u32_xor_nat 4294967295 x (by omega) hx, Nat.xor_comm]
  unfold Crc.check
  rw [hr]
set_option maxRecDepth 100000 in
set_option maxHeartbeats 1000000 in
theorem check_any (s : ByteArray) (hlen : s.size ≤ 9223372036854775807) (w : World) :
    Calls Try.prog 33 #[.string s] w fun e w' => e = .returned (.int .u32 (Crc.check s.data.toList : Nat)) ∧ Below w.heap.size w w' := by
  go_enter Try.func33, Try.ntmps33
  go_wp2_with (first
    | (go_at_call 66; refine (table_any _).mono ?_; rintro e w1 ⟨rfl, hb1⟩)
    | (with_reducible refine wpList_store_row rfl 99 (.tmp 3) (.tmp 6) rfl w1.heap.size (tabArr 256) rfl rfl 99 Try.zeroCells99 (heap_alloc_new w1 _) tab_info zero_tab_size (tabArr_cells 256) ?_))
  have hb2 := setRow_below_new hb1 (.cells Try.zeroCells99 99) (tabArr 256)
  have hrow := setRow_heap _ _ _ (tabArr 256) _ _ (heap_alloc_new w1 (.cells Try.zeroCells99 99))
  generalize (w1.alloc (.cells Try.zeroCells99 99)).setRow w1.heap.size (tabArr 256) = W at *
  generalize w1.heap.size = g at *
  clear hb1
  go_loop [4, 9] (fun c i => ∃ k : Nat, k ≤ s.size ∧ i = .int .i64 k ∧ ∃ x : Nat, x < 4294967296 ∧ Crc.run 4294967295 (s.data.toList.take k) = x ∧ c = .int .u32 x) (fun _ i => s.size - (intOf i).toNat)
  case atStart => exact ⟨0, by omega, rfl, 4294967295, by omega, rfl, rfl⟩
  case round =>
    obtain ⟨k, hk, rfl, x, hx, hr, rfl⟩ := hrel
    have hR := Lib.hid hr
    clear hr
    by_cases hlt : k < s.size
    · have hi := idx_byte x s[k].toNat s[k].toNat_lt
      have hi2 := byte_walk x s[k].toNat hx s[k].toNat_lt
      have hx8 : (x % 256) ^^^ s[k].toNat < 256 := Nat.xor_lt_two_pow (n := 8) (by omega) (by have := s[k].toNat_lt; omega)
      have hc : W.cell? ⟨g, (x % 256) ^^^ s[k].toNat, none⟩ = some (.int .u32 (Crc.bitsN 8 ((x % 256) ^^^ s[k].toNat) : Nat)) := by
        rw [cell_of_row _ _ _ _ _ _ hrow, tabArr_get _ _ (by omega), if_pos (by omega)]
      go_wp2
      go_round
      case rel =>
        refine ⟨k + 1, by omega, by go_num, Crc.byte x s[k].toNat, Crc.byte_lt hx s[k].toNat_lt, ?_, rfl⟩
        rw [List.take_succ_eq_append_getElem (by simpa using hlt), Crc.run_append, hR.out]
        rfl
      case measure => simp [intOf]; omega
    · obtain rfl : k = s.size := by omega
      have hr : Crc.run 4294967295 s.data.toList = x := by
        have := hR.out
        rwa [List.take_of_length_le (by simp)] at this
      go_wp2
      go_ret
      exact ⟨check_end s.data.toList x hr, hb2⟩

/-- four bytes of a number, the greatest first. -/
def be4 (n : Nat) : List UInt8 := [UInt8.ofNat (n / 16777216), UInt8.ofNat (n / 65536), UInt8.ofNat (n / 256), UInt8.ofNat n]
theorem conv4 (w : World) (n : Nat) (hn : n < 4294967296) : (convert 62 9 (Value.slice (some ⟨w.heap.size, 0, none⟩) 4 4)).run Try.prog (w.alloc (.cells #[.int .u8 (↑n / 16777216), .int .u8 (↑n / 65536 % 256), .int .u8 (↑n / 256 % 256), .int .u8 (↑n % 256)] 5)) =
    .ok (.string ⟨(be4 n).toArray⟩) (w.alloc (.cells #[.int .u8 (↑n / 16777216), .int .u8 (↑n / 65536 % 256), .int .u8 (↑n / 256 % 256), .int .u8 (↑n % 256)] 5)) := by
  refine run_convert_bytes_back (P := Try.prog) _ 62 9 5 ⟨w.heap.size, 0, none⟩ 4 (be4 n) Try.underlying62 Try.underlying5 Try.underlying9 ?_
  intro j hj
  have : j = 0 ∨ j = 1 ∨ j = 2 ∨ j = 3 := by simp [be4] at hj; omega
  rcases this with rfl | rfl | rfl | rfl <;> simp [be4, Addr.add] <;> omega
set_option maxRecDepth 100000 in
set_option maxHeartbeats 400000 in
theorem number_any (n : Nat) (hn : n < 4294967296) (w : World) :
    Calls Try.prog 62 #[.int .u32 n] w fun e w' => e = .returned (.string ⟨(be4 n).toArray⟩) ∧ Below w.heap.size w w' := by
  have hc := conv4 w n hn
  go_enter Try.func62, Try.ntmps62
  go_wp2
  go_ret
  exact ⟨rfl, (Below.refl _ _).alloc (Nat.le_refl _) _⟩
/-- a record's frame. -/
def frameOf (l : List UInt8) : List UInt8 := be4 l.length ++ be4 (Crc.check l) ++ l
set_option maxRecDepth 100000 in
set_option maxHeartbeats 400000 in
theorem put_many (s : ByteArray) (h : 65536 < s.size) (hlen : s.size ≤ 9223372036854775807) (w : World) :
    Calls Try.prog 29 #[.string s] w fun e w' => e = .returned (.tuple #[.string ⟨#[]⟩, .int .i64 4]) ∧ w = w' := by
  go_enter Try.func29, Try.ntmps29
  go_wp2
  go_ret2
  exact ⟨rfl, rfl⟩
theorem frame_bytes (s : ByteArray) : (⟨(be4 s.size).toArray⟩ : ByteArray) ++ ⟨(be4 (Crc.check s.data.toList)).toArray⟩ ++ s = ⟨(frameOf s.data.toList).toArray⟩ := by
  apply ByteArray.ext
  apply Array.ext'
  simp only [frameOf, ByteArray.data_append, Array.toList_append, List.append_assoc, Array.length_toList, ByteArray.size_data]
theorem ret_str_int {a b : ByteArray} {n : Int} (h : a = b) : Ending.returned (.tuple #[.string a, .int .i64 n]) = .returned (.tuple #[.string b, .int .i64 n]) := by rw [h]
set_option maxRecDepth 100000 in
set_option maxHeartbeats 400000 in
theorem put_ok (s : ByteArray) (h : s.size ≤ 65536) (w : World) :
    Calls Try.prog 29 #[.string s] w fun e w' => e = .returned (.tuple #[.string ⟨(frameOf s.data.toList).toArray⟩, .int .i64 0]) ∧ Below w.heap.size w w' := by
  go_enter Try.func29, Try.ntmps29
  go_wp2_with fail
  refine (number_any s.size (by omega) _).mono ?_
  rintro e w1 ⟨rfl, hb1⟩
  go_wp2_with fail
  refine (check_any s (by omega) _).mono ?_
  rintro e w2 ⟨rfl, hb2⟩
  go_wp2_with fail
  refine (number_any _ (Crc.check_lt _) _).mono ?_
  rintro e w3 ⟨rfl, hb3⟩
  have l1 : (be4 s.size).length = 4 := rfl
  have l2 : (be4 (Crc.check s.data.toList)).length = 4 := rfl
  go_wp2
  go_ret2
  refine ⟨?_, hb1.trans ((hb2.mono hb1.size).trans (hb3.mono (Nat.le_trans hb1.size hb2.size)))⟩
  exact ret_str_int (by rw [frame_bytes])
end Go.Proofs.Ytdphnhgogokidaa
