/- Plain law: the check of bytes (CRC-32, bit by bit and by a table of bytes), on natural numbers; no program in sight. -/
namespace Go.Proofs.Ytdphnhgogokidaa
namespace Crc
/-- one bit of the check. -/
def bit (c : Nat) : Nat := if c % 2 = 1 then (c / 2) ^^^ 0xedb88320 else c / 2
/-- so many bits. -/
def bitsN : Nat → Nat → Nat
  | 0, c => c
  | k + 1, c => bitsN k (bit c)
def byte (c b : Nat) : Nat := bitsN 8 (c ^^^ b)
def run (c : Nat) (l : List UInt8) : Nat := l.foldl (fun c b => byte c b.toNat) c
def check (l : List UInt8) : Nat := (run 4294967295 l) ^^^ 4294967295

theorem xor_mod2 (a b : Nat) : (a ^^^ b) % 2 = (a % 2 + b % 2) % 2 := by
  have := Nat.xor_mod_two_pow (a := a) (b := b) (n := 1)
  simp only [Nat.pow_one] at this
  rw [this]
  rcases Nat.mod_two_eq_zero_or_one a with h | h <;> rcases Nat.mod_two_eq_zero_or_one b with h' | h' <;> simp [h, h']
theorem xor_div2 (a b : Nat) : (a ^^^ b) / 2 = (a / 2) ^^^ (b / 2) := by
  have := Nat.shiftRight_xor_distrib (a := a) (b := b) (i := 1)
  simpa [Nat.shiftRight_eq_div_pow] using this

theorem bit_xor (a b : Nat) : bit (a ^^^ b) = bit a ^^^ bit b := by
  unfold bit
  rw [xor_mod2, xor_div2]
  rcases Nat.mod_two_eq_zero_or_one a with h | h <;> rcases Nat.mod_two_eq_zero_or_one b with h' | h' <;> simp [h, h']
  · rw [Nat.xor_assoc]
  · rw [Nat.xor_assoc, Nat.xor_assoc, Nat.xor_comm (b / 2)]
  · rw [Nat.xor_comm (b / 2), Nat.xor_assoc, ← Nat.xor_assoc 3988292384, Nat.xor_self, Nat.zero_xor]
theorem bitsN_xor (k : Nat) : ∀ a b : Nat, bitsN k (a ^^^ b) = bitsN k a ^^^ bitsN k b := by
  induction k with
  | zero => intro a b; rfl
  | succ k ih => intro a b; simp only [bitsN]; rw [bit_xor, ih]

theorem bit_lt {c : Nat} (h : c < 2 ^ 32) : bit c < 2 ^ 32 := by
  unfold bit
  split
  · exact Nat.xor_lt_two_pow (by omega) (by decide)
  · omega
theorem bitsN_lt (k : Nat) : ∀ {c : Nat}, c < 2 ^ 32 → bitsN k c < 2 ^ 32 := by
  induction k with
  | zero => intro c h; exact h
  | succ k ih => intro c h; exact ih (bit_lt h)
theorem byte_lt {c b : Nat} (h : c < 2 ^ 32) (hb : b < 256) : byte c b < 2 ^ 32 := bitsN_lt 8 (Nat.xor_lt_two_pow h (by omega))
theorem run_lt (l : List UInt8) : ∀ {c : Nat}, c < 2 ^ 32 → run c l < 2 ^ 32 := by
  induction l with
  | nil => intro c h; exact h
  | cons b l ih => intro c h; exact ih (c := byte c b.toNat) (byte_lt h b.toNat_lt)
theorem check_lt (l : List UInt8) : check l < 2 ^ 32 := Nat.xor_lt_two_pow (run_lt l (by decide)) (by decide)

theorem testBit31 {x : Nat} (h : x < 2 ^ 31) : x.testBit 31 = false := Nat.testBit_lt_two_pow h
theorem bit_top {c : Nat} (h : c < 2 ^ 32) : (bit c).testBit 31 = decide (c % 2 = 1) := by
  unfold bit
  split
  · rename_i h1
    rw [Nat.testBit_xor, testBit31 (by omega)]
    simp [h1]; decide
  · rename_i h1
    rw [testBit31 (by omega)]; simp [h1]
theorem bit_inj {a b : Nat} (ha : a < 2 ^ 32) (hb : b < 2 ^ 32) (h : bit a = bit b) : a = b := by
  have t := bit_top ha
  rw [h, bit_top hb] at t
  have hp : a % 2 = b % 2 := by
    rcases Nat.mod_two_eq_zero_or_one a with h | h <;> rcases Nat.mod_two_eq_zero_or_one b with h' | h' <;> simp_all
  have hd : a / 2 = b / 2 := by
    unfold bit at h
    rw [hp] at h
    split at h
    · have := congrArg (· ^^^ 0xedb88320) h
      simpa [Nat.xor_assoc] using this
    · exact h
  omega
theorem bitsN_inj (k : Nat) : ∀ {a b : Nat}, a < 2 ^ 32 → b < 2 ^ 32 → bitsN k a = bitsN k b → a = b := by
  induction k with
  | zero => intro a b _ _ h; exact h
  | succ k ih => intro a b ha hb h; exact bit_inj ha hb (ih (bit_lt ha) (bit_lt hb) h)
theorem xor_cancel_right {a b c : Nat} (h : a ^^^ c = b ^^^ c) : a = b := by
  have := congrArg (· ^^^ c) h
  simpa [Nat.xor_assoc] using this
theorem byte_inj_c {a b x : Nat} (ha : a < 2 ^ 32) (hb : b < 2 ^ 32) (hx : x < 256) (h : byte a x = byte b x) : a = b :=
  xor_cancel_right (bitsN_inj 8 (Nat.xor_lt_two_pow ha (by omega)) (Nat.xor_lt_two_pow hb (by omega)) h)
theorem byte_inj_b {c x y : Nat} (hc : c < 2 ^ 32) (hx : x < 256) (hy : y < 256) (h : byte c x = byte c y) : x = y := by
  have := bitsN_inj 8 (Nat.xor_lt_two_pow hc (by omega)) (Nat.xor_lt_two_pow hc (by omega)) h
  rw [Nat.xor_comm c x, Nat.xor_comm c y] at this
  exact xor_cancel_right this
theorem run_inj (l : List UInt8) : ∀ {a b : Nat}, a < 2 ^ 32 → b < 2 ^ 32 → run a l = run b l → a = b := by
  induction l with
  | nil => intro a b _ _ h; exact h
  | cons x l ih => intro a b ha hb h; exact byte_inj_c ha hb x.toNat_lt (ih (byte_lt ha x.toNat_lt) (byte_lt hb x.toNat_lt) h)
theorem run_append (c : Nat) (l m : List UInt8) : run c (l ++ m) = run (run c l) m := by simp [run]
/-- one byte that is another one gives another check. -/
theorem check_turned (l m : List UInt8) (x y : UInt8) (h : check (l ++ x :: m) = check (l ++ y :: m)) : x = y := by
  have h1 := xor_cancel_right h
  rw [run_append, run_append] at h1
  have hl := run_lt l (c := 4294967295) (by decide)
  have h2 : byte (run 4294967295 l) x.toNat = byte (run 4294967295 l) y.toNat :=
    run_inj m (byte_lt hl x.toNat_lt) (byte_lt hl y.toNat_lt) h1
  exact UInt8.toNat_inj.1 (byte_inj_b hl x.toNat_lt y.toNat_lt h2)

theorem bit_even (h : Nat) : bit (2 * h) = h := by unfold bit; rw [if_neg (by omega)]; omega
theorem bits8_hi (h : Nat) : bitsN 8 (256 * h) = h := by
  simp only [bitsN]
  rw [show 256 * h = 2 * (128 * h) from by omega, bit_even, show 128 * h = 2 * (64 * h) from by omega, bit_even, show 64 * h = 2 * (32 * h) from by omega, bit_even,
    show 32 * h = 2 * (16 * h) from by omega, bit_even, show 16 * h = 2 * (8 * h) from by omega, bit_even, show 8 * h = 2 * (4 * h) from by omega, bit_even,
    show 4 * h = 2 * (2 * h) from by omega, bit_even, bit_even]
theorem split256 (c : Nat) : c = (c % 256) ^^^ (256 * (c / 256)) := by
  apply Nat.eq_of_testBit_eq
  intro i
  rw [Nat.testBit_xor, show (256 : Nat) = 2 ^ 8 from rfl, Nat.testBit_mod_two_pow, Nat.testBit_two_pow_mul, Nat.testBit_div_two_pow]
  by_cases h : i < 8
  · have h' : ¬ 8 ≤ i := by omega
    simp [h, h']
  · have : 8 ≤ i := by omega
    simp [this, show ¬ i < 8 from h]
theorem bits8_table (c : Nat) : bitsN 8 c = bitsN 8 (c % 256) ^^^ (c / 256) := by
  conv => lhs; rw [split256 c, bitsN_xor, bits8_hi]
theorem xor_byte_mod (c b : Nat) (hb : b < 256) : (c ^^^ b) % 256 = (c % 256) ^^^ b := by
  have := Nat.xor_mod_two_pow (a := c) (b := b) (n := 8)
  rw [show (2 : Nat) ^ 8 = 256 from rfl, Nat.mod_eq_of_lt hb] at this
  exact this
theorem xor_byte_div (c b : Nat) (hb : b < 256) : (c ^^^ b) / 256 = c / 256 := by
  have := Nat.shiftRight_xor_distrib (a := c) (b := b) (i := 8)
  simp only [Nat.shiftRight_eq_div_pow] at this
  rw [show (2 : Nat) ^ 8 = 256 from rfl] at this
  rw [this, Nat.div_eq_of_lt hb, Nat.xor_zero]
/-- the table's way. -/
theorem byte_table (c b : Nat) (hb : b < 256) : byte c b = bitsN 8 ((c % 256) ^^^ b) ^^^ (c / 256) := by
  unfold byte
  rw [bits8_table, xor_byte_mod c b hb, xor_byte_div c b hb]
/-- the check is affine. -/
theorem run_xor3 : ∀ (l m n : List UInt8) (a b c : Nat), l.length = m.length → m.length = n.length →
    run (a ^^^ b ^^^ c) (List.zipWith (· ^^^ ·) (List.zipWith (· ^^^ ·) l m) n) = run a l ^^^ run b m ^^^ run c n := by
  intro l
  induction l with
  | nil => intro m n a b c h1 h2; cases m <;> cases n <;> simp_all [run]
  | cons x l ih =>
    intro m n a b c h1 h2
    cases m with
    | nil => simp at h1
    | cons y m =>
      cases n with
      | nil => simp at h2
      | cons z n =>
        simp only [List.zipWith_cons_cons]
        have e : byte (a ^^^ b ^^^ c) (x ^^^ y ^^^ z).toNat = byte a x.toNat ^^^ byte b y.toNat ^^^ byte c z.toNat := by
          unfold byte
          rw [UInt8.toNat_xor, UInt8.toNat_xor, ← bitsN_xor, ← bitsN_xor]
          congr 1
          ac_rfl
        have := ih m n (byte a x.toNat) (byte b y.toNat) (byte c z.toNat) (by simpa using h1) (by simpa using h2)
        simp only [run, List.foldl_cons] at this ⊢
        rw [e]; exact this
theorem check_xor3 (l m n : List UInt8) (h1 : l.length = m.length) (h2 : m.length = n.length) :
    check (List.zipWith (· ^^^ ·) (List.zipWith (· ^^^ ·) l m) n) = check l ^^^ check m ^^^ check n := by
  unfold check
  have := run_xor3 l m n 4294967295 4294967295 4294967295 h1 h2
  rw [show (4294967295 : Nat) ^^^ 4294967295 ^^^ 4294967295 = 4294967295 from by decide] at this
  rw [this]
  have e : ∀ p q r k : Nat, p ^^^ q ^^^ r ^^^ k = (p ^^^ k) ^^^ (q ^^^ k) ^^^ (r ^^^ k) := by
    intro p q r k
    rw [show (p ^^^ k) ^^^ (q ^^^ k) ^^^ (r ^^^ k) = p ^^^ q ^^^ r ^^^ k ^^^ (k ^^^ k) from by ac_rfl, Nat.xor_self, Nat.xor_zero]
  exact e _ _ _ _
end Crc
end Go.Proofs.Ytdphnhgogokidaa
