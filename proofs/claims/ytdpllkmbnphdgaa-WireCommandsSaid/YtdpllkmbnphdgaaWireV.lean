/- Wire, in plain words: there and back. -/
import Derived.Test.YtdpllkmbnphdgaaWireL
import Derived.Test.YtdpllkmbnphdgaaWireM
import Derived.Test.YtdpllkmbnphdgaaWireQ
namespace Go.Proofs.Ytdpllkmbnphdgaa

theorem val_nbe (N : Nat) : ∀ k, val (nbe N k) = N % 256 ^ k := by
  have key : ∀ (k : Nat) (a : Nat), (nbe N k).foldl (fun n b => n * 256 + b.toNat) a = a * 256 ^ k + N % 256 ^ k := by
    intro k
    induction k with
    | zero => intro a; simp [nbe, Nat.mod_one]
    | succ k ih =>
      intro a
      simp only [nbe, List.foldl_cons]
      rw [ih]
      have h1 : (UInt8.ofNat (N / 256 ^ k % 256)).toNat = N / 256 ^ k % 256 := by simp
      rw [h1, Nat.pow_succ, Nat.mod_mul]
      rw [Nat.add_mul, Nat.mul_assoc a 256, Nat.mul_comm 256 (256 ^ k), Nat.mul_comm (N / 256 ^ k % 256) (256 ^ k)]
      omega
  intro k
  have := key k 0
  unfold val
  simpa using this
theorem val_be (n : Int) (k : Nat) (hk : k ≤ 8) : val (be n k) = u64 n % 256 ^ k := by rw [be_nbe n k hk, val_nbe]
/-- bytes, told and laid again. -/
theorem nbe_val : ∀ (l : List UInt8), nbe (val l) l.length = l := by
  have key : ∀ (k : Nat) (N M : Nat), N % 256 ^ k = M % 256 ^ k → nbe N k = nbe M k := by
    intro k
    induction k with
    | zero => intros; rfl
    | succ k ih =>
      intro N M h
      simp only [nbe]
      have h1 : N / 256 ^ k % 256 = M / 256 ^ k % 256 := by
        rw [Nat.pow_succ] at h
        have e1 := Nat.mod_mul_right_div_self N (256 ^ k) 256
        have e2 := Nat.mod_mul_right_div_self M (256 ^ k) 256
        rw [← e1, ← e2, h]
      have h2 : N % 256 ^ k = M % 256 ^ k := by
        have e1 := Nat.mod_mod_of_dvd N (show 256 ^ k ∣ 256 ^ (k + 1) from ⟨256, by rw [Nat.pow_succ]⟩)
        have e2 := Nat.mod_mod_of_dvd M (show 256 ^ k ∣ 256 ^ (k + 1) from ⟨256, by rw [Nat.pow_succ]⟩)
        rw [← e1, ← e2, h]
      rw [h1, ih N M h2]
  intro l
  have gen : ∀ (l : List UInt8) (a : Nat), nbe (l.foldl (fun n b => n * 256 + b.toNat) a) l.length = l := by
    intro l
    induction l with
    | nil => intro a; rfl
    | cons b l ih =>
      intro a
      simp only [List.foldl_cons, List.length_cons, nbe]
      rw [ih]
      congr 1
      have key2 : ∀ (l : List UInt8) (a : Nat), (l.foldl (fun n b => n * 256 + b.toNat) a) / 256 ^ l.length = a := by
        intro l
        induction l with
        | nil => intro a; simp
        | cons c l ih2 =>
          intro a
          simp only [List.foldl_cons, List.length_cons]
          rw [Nat.pow_succ, ← Nat.div_div_eq_div_mul, ih2]
          have := c.toNat_lt
          omega
      rw [key2]
      have := b.toNat_lt
      have e : (a * 256 + b.toNat) % 256 = b.toNat := by omega
      rw [e]
      simp
  exact gen l 0
theorem be_val (l : List UInt8) (h : l.length ≤ 8) (n : Int) (hn : u64 n % 256 ^ l.length = val l % 256 ^ l.length) : be n l.length = l := by
  have key : ∀ (k : Nat) (N M : Nat), N % 256 ^ k = M % 256 ^ k → nbe N k = nbe M k := by
    intro k
    induction k with
    | zero => intros; rfl
    | succ k ih =>
      intro N M h
      simp only [nbe]
      have h1 : N / 256 ^ k % 256 = M / 256 ^ k % 256 := by
        rw [Nat.pow_succ] at h
        have e1 := Nat.mod_mul_right_div_self N (256 ^ k) 256
        have e2 := Nat.mod_mul_right_div_self M (256 ^ k) 256
        rw [← e1, ← e2, h]
      have h2 : N % 256 ^ k = M % 256 ^ k := by
        have e1 := Nat.mod_mod_of_dvd N (show 256 ^ k ∣ 256 ^ (k + 1) from ⟨256, by rw [Nat.pow_succ]⟩)
        have e2 := Nat.mod_mod_of_dvd M (show 256 ^ k ∣ 256 ^ (k + 1) from ⟨256, by rw [Nat.pow_succ]⟩)
        rw [← e1, ← e2, h]
      rw [h1, ih N M h2]
  rw [be_nbe n _ h, key _ _ _ hn, nbe_val]
end Go.Proofs.Ytdpllkmbnphdgaa
