/- Wire: the document's own laying and telling of numbers. -/
import Derived.Test.YtdpllkmbnphdgaaWireB
import Derived.Laws.Concat
namespace Go.Proofs.Ytdpllkmbnphdgaa
open Go.RowKit

/-- the last bytes of a number, the greatest first. -/
def nbe (N : Nat) : Nat → List UInt8
  | 0 => []
  | k + 1 => UInt8.ofNat (N / 256 ^ k % 256) :: nbe N k
theorem nbe_len (N : Nat) : ∀ k, (nbe N k).length = k
  | 0 => rfl
  | k + 1 => by simp [nbe, nbe_len N k]
theorem cat_run (x y : List UInt8) (h : ((x.length : Nat) : Int) + (y.length : Nat) ≤ 9223372036854775807) (w : World) : (Go.Op.stringOp .add ⟨x.toArray⟩ ⟨y.toArray⟩).run Try.prog w = Result.ok (.string ⟨(x ++ y).toArray⟩) w := by
  exact (run_string_add_sum w _ _ (by show x.length + y.length ≤ _; omega)).trans (by rw [ByteArray.mk_append_mk])
theorem conv1 (w : World) (b : UInt8) : (convert 51 9 (Value.slice (some ⟨w.heap.size, 0, none⟩) 1 1)).run Try.prog (w.alloc (.cells #[.int .u8 b.toNat] 5 (0, 0))) = .ok (.string ⟨[b].toArray⟩) (w.alloc (.cells #[.int .u8 b.toNat] 5 (0, 0))) := by
  refine run_convert_bytes_back (P := Try.prog) _ 51 9 5 ⟨w.heap.size, 0, none⟩ 1 [b] Try.underlying51 Try.underlying5 Try.underlying9 ?_
  intro j hj
  obtain rfl : j = 0 := by simpa using hj
  simp [Addr.add]
theorem byte_nat (N : Nat) : (((N : Int) % 256)) = ((UInt8.ofNat (N % 256)).toNat : Int) := by simp
set_option maxRecDepth 100000 in
set_option maxHeartbeats 1000000 in
theorem rlay_any (N : Nat) (hN : (N : Int) ≤ 18446744073709551615) (k : Nat) (hk : k ≤ 8) (w : World) :
    Calls Try.prog 31 #[.int .u64 N, .int .i64 k] w fun e w' => e = .returned (.string ⟨(nbe N k).toArray⟩) ∧ Below w.heap.size w w' := by
  have hki : (k : Int) ≤ 8 := by omega
  go_enter Try.func31, Try.ntmps31
  go_wp2
  go_loopw [0, 5, 6] (fun u s i wr => ∃ (j M : Nat), j ≤ k ∧ i = .int .i64 j ∧ M = N / 256 ^ j ∧ u = .int .u64 M ∧ s = .string ⟨(nbe N j).toArray⟩ ∧ Below w.heap.size w wr) (fun _ _ i _ => k - (intOf i).toNat)
  case atStart => exact ⟨0, N, by omega, rfl, by simp, rfl, rfl, Below.refl _ _⟩
  case round =>
    obtain ⟨j, M, hj, rfl, hM, rfl, rfl, hbel⟩ := hrel
    by_cases hlt : j < k
    · have hMN : M ≤ N := by rw [hM]; exact Nat.div_le_self _ _
      have hMi : (M : Int) ≤ 18446744073709551615 := by omega
      have hE := Lib.hid hM
      have hnx := Lib.hid (show nbe N (j + 1) = UInt8.ofNat (M % 256) :: nbe N j from by rw [hM]; rfl)
      have hln := nbe_len N j
      have hcat := cat_run [UInt8.ofNat (M % 256)] (nbe N j) (by rw [hln]; simp; omega)
      have HLN := Lib.hid hln
      clear hM hMN hln
      generalize nbe N j = S at *
      have hcv := conv1 wr (UInt8.ofNat (M % 256))
      rw [← byte_nat] at hcv
      go_wp2
      go_roundw
      case rel =>
        refine ⟨j + 1, M / 256, by omega, by go_num, ?_, by go_num, by rw [hnx.out], hbel.alloc hbel.size _⟩
        rw [hE.out, Nat.div_div_eq_div_mul, Nat.pow_succ]
      case measure => simp [intOf]; omega
    · obtain rfl : j = k := by omega
      have hE := Lib.hid hM
      clear hM
      generalize hS : nbe N j = S at *
      have HS := Lib.hid hS
      clear hS
      go_wp2
      go_ret
      rw [HS.out]
      exact ⟨rfl, hbel⟩
/-- the number of bytes, the greatest first. -/
def val (l : List UInt8) : Nat := l.foldl (fun n b => n * 256 + b.toNat) 0
theorem val_snoc (l : List UInt8) (b : UInt8) : val (l ++ [b]) = val l * 256 + b.toNat := by simp [val]
theorem val_lt (l : List UInt8) : val l < 256 ^ l.length := by
  have key : ∀ (l : List UInt8) (n : Nat), l.foldl (fun n b => n * 256 + b.toNat) n + 1 ≤ (n + 1) * 256 ^ l.length := by
    intro l
    induction l with
    | nil => intro n; simp
    | cons b l ih =>
      intro n
      have h := ih (n * 256 + b.toNat)
      have hb := b.toNat_lt
      simp only [List.foldl_cons, List.length_cons, Nat.pow_succ]
      refine Nat.le_trans h ?_
      have h2 : n * 256 + b.toNat + 1 ≤ (n + 1) * 256 := by omega
      calc (n * 256 + b.toNat + 1) * 256 ^ l.length ≤ ((n + 1) * 256) * 256 ^ l.length := Nat.mul_le_mul_right _ h2
        _ = (n + 1) * (256 ^ l.length * 256) := by rw [Nat.mul_assoc, Nat.mul_comm 256]
  have := key l 0
  unfold val
  omega
set_option maxRecDepth 100000 in
set_option maxHeartbeats 1000000 in
theorem number_any (s : List UInt8) (at_ many : Nat) (hs : at_ + many ≤ s.length) (hl : (s.length : Int) ≤ 1099511627776) (hm : many ≤ 8) (w : World) :
    Calls Try.prog 34 #[.string ⟨s.toArray⟩, .int .i64 at_, .int .i64 many] w fun e w' => e = .returned (.int .u64 (val ((s.drop at_).take many) : Nat)) ∧ w' = w := by
  have hmi : (many : Int) ≤ 8 := by omega
  have hsi : (at_ : Int) + many ≤ s.length := by omega
  go_enter Try.func34, Try.ntmps34
  go_wp2
  go_loopw [7, 8] (fun n i wr => ∃ (j x : Nat), j ≤ many ∧ i = .int .i64 ((at_ : Int) + j) ∧ val ((s.drop at_).take j) = x ∧ n = .int .u64 x ∧ wr = w) (fun _ i _ => at_ + many - (intOf i).toNat)
  case atStart => exact ⟨0, 0, by omega, by simp, by simp [val], rfl, rfl⟩
  case round =>
    obtain ⟨j, x, hj, rfl, hx, rfl, rfl⟩ := hrel
    have HX := Lib.hid hx
    by_cases hlt : j < many
    · have hxb : x < 256 ^ 7 := by
        rw [← hx]
        have h1 := val_lt ((s.drop at_).take j)
        have h2 : ((s.drop at_).take j).length ≤ 7 := by simp; omega
        exact Nat.lt_of_lt_of_le h1 (Nat.pow_le_pow_right (by omega) h2)
      have hxi : (x : Int) ≤ 72057594037927935 := by omega
      clear hx hxb
      have hi2 : at_ + j < s.length := by omega
      have hb := s[at_ + j].toNat_lt
      have hbi : (s[at_ + j].toNat : Int) ≤ 255 := by omega
      clear hb
      go_wp2
      go_roundw
      case rel =>
        refine ⟨j + 1, x * 256 + s[at_ + j].toNat, by omega, by go_num, ?_, ?_, by first | rfl | trivial⟩
        · rw [List.take_succ_eq_append_getElem (by simp; omega), val_snoc, HX.out]
          simp
        · show Value.int .u64 (IntKind.u64.wrap ((x : Int) * 256 + IntKind.u64.wrap (s[at_ + j].toNat : Int))) = _
          rw [IntWalk.u64_in (s[at_ + j].toNat : Int) (by omega), IntWalk.u64_in _ (by omega)]
          congr 1
      case measure => simp [intOf]; omega
    · obtain rfl : j = many := by omega
      clear hx
      go_wp2
      go_ret
      exact ⟨by rw [HX.out]; rfl, rfl⟩
end Go.Proofs.Ytdpllkmbnphdgaa
