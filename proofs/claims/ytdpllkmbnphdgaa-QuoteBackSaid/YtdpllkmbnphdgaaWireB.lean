/- Wire: a number is laid by bytes; bytes are told. -/
import Derived.Test.YtdpllkmbnphdgaaWireA
import Derived.Deep.LoopGhost
import Derived.Deep.DeepCutAuto
import Derived.Laws.ShiftsVar
import Derived.Laws.ShiftsVarLaws
import Derived.Laws.Shifts
import Derived.Laws.AppendOwn
import Derived.OwnWalk
namespace Go.Proofs.Ytdpllkmbnphdgaa
open Go.RowKit

/-- the bytes of a number, the greatest first. -/
def be (n : Int) : Nat → List UInt8
  | 0 => []
  | k + 1 => UInt8.ofNat (n / 2 ^ (8 * k) % 256).toNat :: be n k
def bytesV (l : List UInt8) : List Value := l.map fun b => .int .u8 b.toNat
theorem infoU8 : (Try.prog.info? 5).map (fun i => (i.zero, i.size, i.bytes)) = some (some (.int .u8 0), 1, 1) := by kernel_rfl
theorem byte_val (x : Int) : Value.int .u8 (x % 256) = .int .u8 (UInt8.ofNat (x % 256).toNat).toNat := by
  congr 1
  simp
  omega
theorem ownBlock_ge {B e size n : Nat} {v : Value} {xs : List Value} {w : World} (h : w.ownsRow B e size v n xs) {k : Nat} (hk : v.ownBlock = some k) : B ≤ k := by
  rcases h.2 with ⟨rfl, _⟩ | ⟨g, cap, cur, rfl, hg, _⟩
  · simp [Value.ownBlock] at hk
  · simp [Value.ownBlock] at hk; omega
/-- blocks that hold no bytes stand. -/
def Kept8 (w w' : World) : Prop := ∀ (k : Nat) (c : Array Value) (t : TypeId) (fr : Nat × Nat), w.heap[k]? = some (Obj.cells c t fr) → t ≠ 5 → w'.heap[k]? = some (Obj.cells c t fr)
theorem Kept8.refl (w : World) : Kept8 w w := fun _ _ _ _ h _ => h
theorem Kept8.trans {a b c : World} (h : Kept8 a b) (h2 : Kept8 b c) : Kept8 a c := fun k cs t fr e ne => h2 k cs t fr (h k cs t fr e ne) ne
theorem Kept8.below {a b c : World} (h : Kept8 a b) (h2 : Below b.heap.size b c) : Kept8 a c := fun k cs t fr e ne => by
  have := h k cs t fr e ne
  rw [h2.block k (Array.getElem?_eq_some_iff.1 this).1]; exact this
theorem Kept8.grown {a w w' : World} {B n : Nat} {v : Value} {xs : List Value} (h : Kept8 a w) (hg : w.grownBy w' v.ownBlock) (ho : w.ownsRow B 5 1 v n xs) : Kept8 a w' := fun k cs t fr e ne => by
  have h2 := h k cs t fr e ne
  rw [hg.block k (Array.getElem?_eq_some_iff.1 h2).1]
  · exact h2
  · intro hk
    rcases ho.2 with ⟨rfl, _⟩ | ⟨g, cap, cur, rfl, _, hc, _⟩
    · simp [Value.ownBlock] at hk
    · simp [Value.ownBlock] at hk
      subst hk
      rw [hc] at h2
      simp at h2
      exact ne h2.2.1.symm
set_option maxRecDepth 100000 in
set_option maxHeartbeats 1000000 in
theorem lay64_any (B : Nat) (v : Value) (acc : List UInt8) (hacc : acc.length ≤ 4096) (n : Int) (k : Nat) (hk : k ≤ 8) (w : World) (h : w.ownsRow B 5 1 v acc.length (bytesV acc)) (hB : B ≤ w.heap.size) :
    Calls Try.prog 27 #[v, .int .i64 n, .int .i64 k] w fun e w' => ∃ v', e = .returned v' ∧ w'.ownsRow B 5 1 v' (acc ++ be n k).length (bytesV (acc ++ be n k)) ∧ Below B w w' ∧ Kept8 w w' := by
  have hki : (k : Int) ≤ 8 := by omega
  go_enter Try.func27, Try.ntmps27
  go_wp2
  go_loopw [0, 7] (fun b i wr => ∃ (j : Nat) (a : List UInt8), j ≤ k ∧ i = .int .i64 ((j : Int) - 1) ∧ a.length + j ≤ 4104 ∧ acc ++ be n k = a ++ be n j ∧ wr.ownsRow B 5 1 b a.length (bytesV a) ∧ Below B w wr ∧ Kept8 w wr) (fun _ i _ => (intOf i + 1).toNat)
  case atStart => exact ⟨k, acc, by omega, rfl, by omega, rfl, h, Below.refl _ _, Kept8.refl _⟩
  case round =>
    obtain ⟨j, a, hj, rfl, hlen, he, hown, hbel, hkp⟩ := hrel
    have HE := Lib.hid he
    clear he
    cases j with
    | zero =>
      have e0 : (((0 : Nat) : Int) - 1) = -1 := by omega
      rw [e0]
      go_wp2
      go_ret
      exact ⟨_, rfl, by rw [HE.out]; simpa [be] using hown, hbel, hkp⟩
    | succ m =>
      have e0 : (((m + 1 : Nat) : Int) - 1) = (m : Int) := by omega
      rw [e0]
      have hm : (m : Int) ≤ 7 := by omega
      clear e0
      obtain ⟨i0, hi, hz0, hz1, hz2⟩ := info_parts infoU8
      have hsz := hbel.size
      go_wp2_with (at_builtin; with_reducible refine wpList_append_own _ rfl (.tmp 14) (.tmp 20) 51 rfl B 5 i0 (.int .u8 0) 1 1 Try.underlying51 hi hz0 hz1 hz2 rfl (by decide) _ _ _ rfl (hown.alloc _) ⟨wr.heap.size, 0, none⟩ 1 1 [.int .u8 (n / 2 ^ (8 * m) % 256)] rfl rfl ?c1 ?c2 ?c3 ?c4 ?c5 ?_)
      case c1 => exact cell_one_new _ _ _
      case c2 => intro u hu; simp at hu; subst hu; rfl
      case c3 => unfold maxLen; omega
      case c4 => omega
      case c5 => simp; omega
      intro v' w1 hown' hgrow _
      have hb3 := ((hbel.alloc (Nat.le_trans hB hbel.size) (.cells #[.int .u8 (n / 2 ^ (8 * m) % 256)] 5)).grown hgrow (by simp; omega) (fun k hk => ownBlock_ge hown hk))
      have hrow : w1.ownsRow B 5 1 v' (a ++ [UInt8.ofNat (n / 2 ^ (8 * m) % 256).toNat]).length (bytesV (a ++ [UInt8.ofNat (n / 2 ^ (8 * m) % 256).toNat])) := by
        rw [byte_val] at hown'
        simpa [bytesV] using hown'
      have hk3 := Lib.hid ((hkp.below ((Below.refl _ _).alloc (Nat.le_refl _) (.cells #[.int .u8 (n / 2 ^ (8 * m) % 256)] 5))).grown hgrow (hown.alloc _))
      clear hgrow hown' hown hbel hkp
      go_wp2
      go_roundw
      case rel => exact ⟨m, a ++ [UInt8.ofNat (n / 2 ^ (8 * m) % 256).toNat], by omega, by go_num, by simp; omega, by rw [HE.out]; simp [be], hrow, hb3, hk3.out⟩
      case measure => simp [intOf]
set_option maxRecDepth 100000 in
set_option maxHeartbeats 1000000 in
theorem layInt_any (B : Nat) (v : Value) (acc : List UInt8) (hacc : acc.length ≤ 4096) (n : Int) (k : Nat) (hk : k ≤ 8) (w : World) (h : w.ownsRow B 5 1 v acc.length (bytesV acc)) (hB : B ≤ w.heap.size) :
    Calls Try.prog 28 #[v, .int .i64 n, .int .i64 k] w fun e w' => ∃ v', e = .returned v' ∧ w'.ownsRow B 5 1 v' (acc ++ be n k).length (bytesV (acc ++ be n k)) ∧ Below B w w' ∧ Kept8 w w' := by
  have hki : (k : Int) ≤ 8 := by omega
  go_enter Try.func28, Try.ntmps28
  go_wp2
  go_loopw [0, 7] (fun b i wr => ∃ (j : Nat) (a : List UInt8), j ≤ k ∧ i = .int .i64 ((j : Int) - 1) ∧ a.length + j ≤ 4104 ∧ acc ++ be n k = a ++ be n j ∧ wr.ownsRow B 5 1 b a.length (bytesV a) ∧ Below B w wr ∧ Kept8 w wr) (fun _ i _ => (intOf i + 1).toNat)
  case atStart => exact ⟨k, acc, by omega, rfl, by omega, rfl, h, Below.refl _ _, Kept8.refl _⟩
  case round =>
    obtain ⟨j, a, hj, rfl, hlen, he, hown, hbel, hkp⟩ := hrel
    have HE := Lib.hid he
    clear he
    cases j with
    | zero =>
      have e0 : (((0 : Nat) : Int) - 1) = -1 := by omega
      rw [e0]
      go_wp2
      go_ret
      exact ⟨_, rfl, by rw [HE.out]; simpa [be] using hown, hbel, hkp⟩
    | succ m =>
      have e0 : (((m + 1 : Nat) : Int) - 1) = (m : Int) := by omega
      rw [e0]
      have hm : (m : Int) ≤ 7 := by omega
      clear e0
      obtain ⟨i0, hi, hz0, hz1, hz2⟩ := info_parts infoU8
      have hsz := hbel.size
      go_wp2_with (at_builtin; with_reducible refine wpList_append_own _ rfl (.tmp 14) (.tmp 20) 51 rfl B 5 i0 (.int .u8 0) 1 1 Try.underlying51 hi hz0 hz1 hz2 rfl (by decide) _ _ _ rfl (hown.alloc _) ⟨wr.heap.size, 0, none⟩ 1 1 [.int .u8 (n / 2 ^ (8 * m) % 256)] rfl rfl ?c1 ?c2 ?c3 ?c4 ?c5 ?_)
      case c1 => exact cell_one_new _ _ _
      case c2 => intro u hu; simp at hu; subst hu; rfl
      case c3 => unfold maxLen; omega
      case c4 => omega
      case c5 => simp; omega
      intro v' w1 hown' hgrow _
      have hb3 := ((hbel.alloc (Nat.le_trans hB hbel.size) (.cells #[.int .u8 (n / 2 ^ (8 * m) % 256)] 5)).grown hgrow (by simp; omega) (fun k hk => ownBlock_ge hown hk))
      have hrow : w1.ownsRow B 5 1 v' (a ++ [UInt8.ofNat (n / 2 ^ (8 * m) % 256).toNat]).length (bytesV (a ++ [UInt8.ofNat (n / 2 ^ (8 * m) % 256).toNat])) := by
        rw [byte_val] at hown'
        simpa [bytesV] using hown'
      have hk3 := Lib.hid ((hkp.below ((Below.refl _ _).alloc (Nat.le_refl _) (.cells #[.int .u8 (n / 2 ^ (8 * m) % 256)] 5))).grown hgrow (hown.alloc _))
      clear hgrow hown' hown hbel hkp
      go_wp2
      go_roundw
      case rel => exact ⟨m, a ++ [UInt8.ofNat (n / 2 ^ (8 * m) % 256).toNat], by omega, by go_num, by simp; omega, by rw [HE.out]; simp [be], hrow, hb3, hk3.out⟩
      case measure => simp [intOf]
end Go.Proofs.Ytdpllkmbnphdgaa
