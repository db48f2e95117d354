/- FrameAdds: for every three texts the law returns true, and they read afterwards as they read before. No condition. -/
import Derived.Test.YtdphnhgogokidaaFrameW
import Derived.Test.YtdphnhgogokidaaOpen
import Derived.Deep.OwnRows
namespace Go.Proofs.Ytdphnhgogokidaa.frameAdds
open Go.ChangeShapes Go.WideShapes Go.ChangeAt Go.RowKit
open Go.ChangeMaps (open_string shut_string)

theorem run_min4 (P : Program) (w : World) (ts : Array TypeId) (t : TypeId) (x y z u n : Int) (h : min (min (min x y) z) u = n) : (Builtin.min_ ts t #[.int .i64 x, .int .i64 y, .int .i64 z, .int .i64 u]).run P w = .ok (.int .i64 n) w := by
  simp [Builtin.min_, Builtin.min2]
  omega
def xor3 (a b c : List UInt8) : List UInt8 := List.zipWith (· ^^^ ·) (List.zipWith (· ^^^ ·) a b) c
def cellx (l : List UInt8) (k : Nat) (j : Nat) : Value := if j < k then .int .u8 ((l.getD j 0).toNat : Nat) else .int .u8 0
theorem xor3_length (a b c : List UInt8) (n : Nat) (ha : n ≤ a.length) (hb : n ≤ b.length) (hc : n ≤ c.length) : (xor3 (a.take n) (b.take n) (c.take n)).length = n := by
  simp [xor3]; omega
theorem xor3_at (a b c : ByteArray) (n k : Nat) (h : k < n) (ha : k < a.size) (hb : k < b.size) (hc : k < c.size) :
    (((xor3 (a.data.toList.take n) (b.data.toList.take n) (c.data.toList.take n)).getD k 0).toNat : Nat) = (a[k].toNat ^^^ b[k].toNat) ^^^ c[k].toNat := by
  have e1 : a.data.toList[k]? = some a[k] := by rw [List.getElem?_eq_getElem (by simpa using ha)]; rfl
  have e2 : b.data.toList[k]? = some b[k] := by rw [List.getElem?_eq_getElem (by simpa using hb)]; rfl
  have e3 : c.data.toList[k]? = some c[k] := by rw [List.getElem?_eq_getElem (by simpa using hc)]; rfl
  have e : (xor3 (a.data.toList.take n) (b.data.toList.take n) (c.data.toList.take n))[k]? = some ((a[k] ^^^ b[k]) ^^^ c[k]) := by
    simp only [xor3, List.getElem?_zipWith, List.getElem?_take, if_pos h, e1, e2, e3]
  rw [List.getD, e]
  simp [UInt8.toNat_xor]
set_option maxRecDepth 100000 in
set_option maxHeartbeats 2000000 in
theorem core (a b c : ByteArray) (n : Nat) (w : World) (ha : a.size ≤ 140737488355328) (hb : b.size ≤ 140737488355328) (hc : c.size ≤ 140737488355328) (hn : min (min (min (a.size : Int) b.size) c.size) 1000 = (n : Int)) :
    Calls Try.prog 10 #[.string a, .string b, .string c] w fun e w' => e = .returned (.bool true) ∧ Below w.heap.size w w' := by
  have na : n ≤ a.size := by omega
  have nb : n ≤ b.size := by omega
  have nc : n ≤ c.size := by omega
  have n1 : (n : Int) ≤ 1000 := by omega
  have hmin := fun W => run_min4 Try.prog W #[3, 3, 3, 3] 3 _ _ _ _ _ hn
  have hmk := run_make_row' (P := Try.prog) 62 5 (.int .u8 0) 1 Try.underlying62 infoByte rfl .i64 .i64 n (by omega) (by omega)
  clear hn
  go_enter Try.func10, Try.ntmps10
  go_wp2_with fail
  refine (awake_any _).mono ?_
  rintro e w1 ⟨rfl, hb1⟩
  go_wp2_with fail
  generalize hg : w1.heap.size = g at *
  have hbel : Below w.heap.size w (w1.alloc (.cells (madeCells #[Value.int .u8 0] n) 5)) := hb1.alloc hb1.size _
  have hrow := World.rowIs_made w1 (.int .u8 0) n 5
  have hB := hb1.size
  rw [hg] at hrow hB
  generalize w1.alloc (.cells (madeCells #[Value.int .u8 0] n) 5) = w2 at *
  clear hg hb1 hmin hmk
  obtain ⟨X, hX⟩ : ∃ X, xor3 (a.data.toList.take n) (b.data.toList.take n) (c.data.toList.take n) = X := ⟨_, rfl⟩
  have HX := Lib.hid hX
  have hXl : X.length = n := by rw [← hX]; exact xor3_length _ _ _ n (by simpa using na) (by simpa using nb) (by simpa using nc)
  go_loopw [23] (fun i wr => ∃ k : Nat, k ≤ n ∧ i = .int .i64 k ∧ wr.rowIs g 5 n (cellx X k) ∧ Below w.heap.size w wr) (fun i _ => n - (intOf i).toNat)
  case atStart => exact ⟨0, by omega, rfl, hrow.congr (by intro i hi; simp [cellx]), hbel⟩
  case round =>
    obtain ⟨k, hk, rfl, hr, hbl⟩ := hrel
    by_cases hlt : k < n
    · have ka : k < a.size := by omega
      have kb : k < b.size := by omega
      have kc : k < c.size := by omega
      have q0 : (k : Int) < (n : Int) := by omega
      have qa : (k : Int) < (a.size : Int) := by omega
      have qb : (k : Int) < (b.size : Int) := by omega
      have qc : (k : Int) < (c.size : Int) := by omega
      have x1 := u8_xor_nat a[k].toNat b[k].toNat a[k].toNat_lt b[k].toNat_lt
      have x2 := u8_xor_nat (a[k].toNat ^^^ b[k].toNat) c[k].toNat (Nat.xor_lt_two_pow (n := 8) a[k].toNat_lt b[k].toNat_lt) c[k].toNat_lt
      have hcell := hr.cell hlt
      have hfz := hr.frozen k
      have hxk := xor3_at a b c n k hlt ka kb kc
      rw [hX] at hxk
      have hrs0 := hr.set k (.int .u8 ((X.getD k 0).toNat : Nat))
      have hrs := hrs0.congr (g := cellx X (k + 1)) (by intro i hi; simp only [cellx]; split <;> split <;> (try split) <;> first | rfl | omega | (subst_vars; rfl) | skip)
      have hbs := hbl.setCell (p := ⟨g, k, none⟩) hB (.int .u8 ((X.getD k 0).toNat : Nat))
      rw [hxk] at hrs hbs
      simp only [cellx, Nat.lt_irrefl, if_false] at hcell
      clear hrs0 hxk
      have HRS := Lib.hid hrs
      have HBS := Lib.hid hbs
      clear hrs hbs hr hbl
      go_wp2
      go_region
      go_wp2
      go_roundw
      case rel => exact ⟨k + 1, by omega, by go_num, HRS.out, HBS.out.drew⟩
      case measure => simp [intOf]; omega
    · obtain rfl : n = k := by omega
      have hcv0 := run_convert_bytes_back (P := Try.prog) wr.drew 62 9 5 ⟨g, 0, none⟩ n X Try.underlying62 Try.underlying5 Try.underlying9 (by
        intro j hj
        rw [hXl] at hj
        have := hr.cell hj
        rw [add_plain, Nat.zero_add]
        show wr.cell? ⟨g, j, none⟩ = _
        rw [this, cellx, if_pos hj, List.getD, List.getElem?_eq_getElem (by omega)]
        rfl)
      rw [hXl] at hcv0
      obtain ⟨xs, hxs⟩ : ∃ xs : ByteArray, xs = ⟨X.toArray⟩ := ⟨_, rfl⟩
      rw [← hxs] at hcv0
      have hxl : xs.size ≤ 9223372036854775807 := by rw [hxs, ByteArray.size]; simp; omega
      have hal : (a.extract 0 n).size ≤ 9223372036854775807 := by simp; omega
      have hbl2 : (b.extract 0 n).size ≤ 9223372036854775807 := by simp; omega
      have hcl : (c.extract 0 n).size ≤ 9223372036854775807 := by simp; omega
      have h3 := Crc.check_xor3 (a.data.toList.take n) (b.data.toList.take n) (c.data.toList.take n) (by simp; omega) (by simp; omega)
      have e3 : Crc.check xs.data.toList = Crc.check (a.data.toList.take n) ^^^ Crc.check (b.data.toList.take n) ^^^ Crc.check (c.data.toList.take n) := by
        rw [← h3, hxs, ← hX]
        rfl
      have k1 := u32_xor_nat (Crc.check (a.data.toList.take n)) (Crc.check (b.data.toList.take n)) (Crc.check_lt _) (Crc.check_lt _)
      have k2 := u32_xor_nat (Crc.check (a.data.toList.take n) ^^^ Crc.check (b.data.toList.take n)) (Crc.check (c.data.toList.take n)) (Nat.xor_lt_two_pow (n := 32) (Crc.check_lt _) (Crc.check_lt _)) (Crc.check_lt _)
      have E3 := Lib.hid e3
      have hbx : Below w.heap.size w wr.drew := hbl.drew
      have qa : (n : Int) ≤ (a.size : Int) := by omega
      have qb : (n : Int) ≤ (b.size : Int) := by omega
      have qc : (n : Int) ≤ (c.size : Int) := by omega
      clear h3 e3 hX hxs hr
      go_wp2
      go_region_with (go_at_call 33; refine (check_any _ ?_ _).mono ?_; (assumption); rintro e w5 ⟨rfl, hb5⟩; replace hbx := hbx.trans (hb5.mono hbx.size); clear hb5)
      go_wp2
      go_ret
      refine ⟨ret_bool ?_, hbx⟩
      rw [E3.out]
      simp

theorem walk (a : ByteArray) (ha : a.size ≤ reachBytes) (b : ByteArray) (hb : b.size ≤ reachBytes) (c : ByteArray) (hc : c.size ≤ reachBytes) (w : World) :
    Calls Try.prog 10 #[.string a, .string b, .string c] w fun e w' => e = .returned (.bool true) ∧ Below w.heap.size w w' := by
  have hr : reachBytes = 140737488351232 := rfl
  rw [hr] at ha hb hc
  exact core a b c (min (min (min a.size b.size) c.size) 1000) w (by omega) (by omega) (by omega) (by omega)
end Go.Proofs.Ytdphnhgogokidaa.frameAdds
