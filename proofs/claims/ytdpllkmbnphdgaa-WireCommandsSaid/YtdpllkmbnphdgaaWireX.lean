/- Wire, in plain words: a command and its bytes, there and back; one byte more or less. -/
import Derived.Test.YtdpllkmbnphdgaaWireV
namespace Go.Proofs.Ytdpllkmbnphdgaa

theorem specs_k {k : Int} (h : specs k ≠ []) : 1 ≤ k ∧ k ≤ 9 := by
  by_cases h1 : 1 ≤ k ∧ k ≤ 9
  · exact h1
  · exfalso
    apply h
    unfold specs
    repeat rw [if_neg (by omega)]
theorem specs_nodup (k : Int) : (specs k).Pairwise fun p q => p.1 ≠ q.1 := by
  refine kinds (fun S _ => S.Pairwise fun p q => p.1 ≠ q.1) ?_ ?_ ?_ ?_ ?_ ?_ ?_ ?_ k
  all_goals decide
theorem specs_pos {k : Int} {p : Nat × Nat} (h : p ∈ specs k) : 0 < p.2 ∧ p.2 ≤ 8 := by
  have := specs_mem h
  omega
theorem kb_k {k : Int} (h1 : 1 ≤ k) (h9 : k ≤ 9) : ((kb k).toNat : Int) = k := by
  unfold kb
  simp
  omega
theorem kb_x (x : UInt8) : kb (x.toNat : Int) = x := by
  unfold kb
  have := x.toNat_lt
  rw [show ((x.toNat : Int) % 256).toNat = x.toNat by omega]
  simp
theorem may_specs {c : Cm} (h : may c = true) : specs c.k ≠ [] := by
  unfold may at h
  rw [Bool.and_eq_true, decide_eq_true_eq] at h
  intro e
  rw [e] at h
  simp at h
/-- a field's number comes back from its bytes. -/
def good (n : Nat → Int) (p : Nat × Nat) : Prop := IntKind.i64.wrap (val (be (n p.1) p.2) : Nat) = n p.1
theorem good_field {c : Cm} (hin : ∀ i, -9223372036854775808 ≤ c.n i ∧ c.n i ≤ 9223372036854775807) {p : Nat × Nat} (hp : p ∈ specs c.k) (hok : okField c p = true) : good c.n p := by
  obtain ⟨h1, h7, hs, hl⟩ := specs_mem hp
  have hi := hin p.1
  unfold good
  rw [val_be _ _ (specs_pos hp).2]
  unfold okField at hok
  obtain ⟨i, b⟩ := p
  dsimp only at *
  generalize c.n i = x at *
  unfold u64
  by_cases h5 : 5 < i
  · rw [hl h5, IntKind.wrap_i64]
    omega
  · rw [decide_eq_false h5, Bool.false_or] at hok
    rcases hs (by omega) with rfl | rfl
    · unfold fits at hok
      rw [if_pos rfl, decide_eq_true_eq] at hok
      rw [IntKind.wrap_i64]
      omega
    · unfold fits at hok
      rw [if_neg (by omega), decide_eq_true_eq] at hok
      rw [IntKind.wrap_i64]
      omega
def updAll (n : Nat → Int) : List (Nat × Nat) → (Nat → Int) → (Nat → Int)
  | [], m => m
  | p :: L, m => updAll n L (upd m p.1 (n p.1))
theorem tk_lay (n : Nat → Int) (r : List UInt8) : ∀ (L : List (Nat × Nat)) (m : Nat → Int), (∀ p ∈ L, good n p) → tk L (layAll n L ++ r) m = some (updAll n L m, r)
  | [], m, _ => rfl
  | p :: L, m, h => by
    have e : layAll n (p :: L) ++ r = be (n p.1) p.2 ++ (layAll n L ++ r) := by simp [layAll]
    rw [e]
    unfold tk
    have hl := be_len (n p.1) p.2
    rw [if_neg (by rw [List.length_append, hl]; omega)]
    rw [show (be (n p.1) p.2 ++ (layAll n L ++ r)).drop p.2 = layAll n L ++ r by rw [List.drop_append_of_le_length (by omega), List.drop_of_length_le (by omega)]; rfl]
    rw [show (be (n p.1) p.2 ++ (layAll n L ++ r)).take p.2 = be (n p.1) p.2 by rw [List.take_append_of_le_length (by omega), List.take_of_length_le (by omega)]]
    have hg := h p List.mem_cons_self
    unfold good at hg
    rw [hg]
    exact tk_lay n r L _ (fun q hq => h q (List.mem_cons_of_mem _ hq))
theorem updAll_pn (c : Cm) : ∀ (L M : List (Nat × Nat)), updAll c.n L (pn c M) = pn c (M ++ L)
  | [], M => by simp [updAll]
  | p :: L, M => by
    unfold updAll
    rw [pn_snoc, updAll_pn c L (M ++ [p])]
    simp
theorem pn_idem (c : Cm) (L : List (Nat × Nat)) : pn ⟨c.k, pn c L⟩ L = pn c L := by
  funext i
  unfold pn
  by_cases h : L.any (fun p => p.1 == i) = true
  · rw [if_pos h]
  · rw [if_neg h, if_neg h]
theorem same_refl (n : Nat → Int) : same n n = true := by simp [same]
theorem pn_in (c : Cm) {L : List (Nat × Nat)} {p : Nat × Nat} (h : p ∈ L) : pn c L p.1 = c.n p.1 := by
  unfold pn
  rw [if_pos (List.any_eq_true.2 ⟨p, h, by simp⟩)]
theorem may_pn {c : Cm} (h : may c = true) : may ⟨c.k, pn c (specs c.k)⟩ = true := by
  unfold may at h ⊢
  rw [Bool.and_eq_true, Bool.and_eq_true] at h ⊢
  refine ⟨h.1, List.all_eq_true.2 fun p hp => ?_, by rw [pn_idem]; exact same_refl _⟩
  have := List.all_eq_true.1 h.2.1 p hp
  unfold okField at this ⊢
  dsimp only at hp ⊢
  rw [pn_in c hp]
  exact this
theorem cells_pn {c : Cm} (h : may c = true) : Cm.cells ⟨c.k, pn c (specs c.k)⟩ = c.cells := by
  unfold may at h
  rw [Bool.and_eq_true, Bool.and_eq_true] at h
  have := h.2.2
  unfold same at this
  rw [decide_eq_true_eq] at this
  obtain ⟨h1, h2, h3, h4, h5, h6, h7⟩ := this
  unfold Cm.cells
  dsimp only
  rw [h1, h2, h3, h4, h5, h6, h7]
/-- THERE AND BACK: the bytes of a command tell it. -/
theorem take_put {c : Cm} (h : may c = true) (hin : ∀ i, -9223372036854775808 ≤ c.n i ∧ c.n i ≤ 9223372036854775807) : takeV (take (putB c)) = .tuple #[.agg c.cells, .int .i64 0] := by
  have hk := specs_k (may_specs h)
  have hkb := kb_k hk.1 hk.2
  have hall : ∀ p ∈ specs c.k, good c.n p := fun p hp => by
    have h2 := h
    unfold may at h2
    rw [Bool.and_eq_true, Bool.and_eq_true] at h2
    exact good_field hin hp (List.all_eq_true.1 h2.2.1 p hp)
  have ht := tk_lay c.n [] (specs c.k) (fun _ => 0) hall
  rw [pn_nil c, updAll_pn, List.append_nil, List.nil_append, ← pn_nil c] at ht
  unfold putB take
  dsimp only
  rw [hkb, ht]
  dsimp only
  rw [if_pos ⟨rfl, may_pn h⟩]
  show Value.tuple #[.agg (Cm.cells ⟨c.k, pn c (specs c.k)⟩), .int .i64 0] = _
  rw [cells_pn h]
theorem tk_keep : ∀ (L : List (Nat × Nat)) (s : List UInt8) (m n : Nat → Int) (r : List UInt8), tk L s m = some (n, r) → ∀ i, (∀ p ∈ L, p.1 ≠ i) → n i = m i
  | [], s, m, n, r, h, i, _ => by simp [tk] at h; rw [h.1]
  | p :: L, s, m, n, r, h, i, hi => by
    unfold tk at h
    split at h
    · cases h
    · rw [tk_keep L _ _ n r h i (fun q hq => hi q (List.mem_cons_of_mem _ hq))]
      unfold upd
      rw [if_neg (fun e => hi p List.mem_cons_self e.symm)]
theorem u64_wrap (v k : Nat) (hk : k ≤ 8) : u64 (IntKind.i64.wrap (v : Nat)) % 256 ^ k = v % 256 ^ k := by
  have h : u64 (IntKind.i64.wrap (v : Nat)) = v % 18446744073709551616 := by
    unfold u64
    rw [IntKind.wrap_i64]
    omega
  rw [h]
  exact Nat.mod_mod_of_dvd v (show 256 ^ k ∣ 256 ^ 8 from Nat.pow_dvd_pow 256 hk)
theorem lay_tk : ∀ (L : List (Nat × Nat)) (s : List UInt8) (m n : Nat → Int) (r : List UInt8), (L.Pairwise fun p q => p.1 ≠ q.1) → (∀ p ∈ L, p.2 ≤ 8) → tk L s m = some (n, r) → layAll n L ++ r = s
  | [], s, m, n, r, _, _, h => by simp [tk] at h; simp [layAll, h.2]
  | p :: L, s, m, n, r, hd, h8, h => by
    unfold tk at h
    split at h
    · cases h
    · rename_i hs
      rw [List.pairwise_cons] at hd
      have ih := lay_tk L _ _ n r hd.2 (fun q hq => h8 q (List.mem_cons_of_mem _ hq)) h
      have hn := tk_keep L _ _ n r h p.1 (fun q hq => (hd.1 q hq).symm)
      unfold upd at hn
      rw [if_pos rfl] at hn
      have hlen : (s.take p.2).length = p.2 := by rw [List.length_take]; omega
      have hb : be (n p.1) p.2 = s.take p.2 := by
        rw [hn]
        have := be_val (s.take p.2) (by rw [hlen]; exact h8 p List.mem_cons_self) (IntKind.i64.wrap (val (s.take p.2) : Nat)) (by rw [hlen]; exact u64_wrap _ _ (h8 p List.mem_cons_self))
        rwa [hlen] at this
      have e : layAll n (p :: L) ++ r = be (n p.1) p.2 ++ (layAll n L ++ r) := by simp [layAll]
      rw [e, hb, ih, List.take_append_drop]
/-- what bytes tell has these bytes. -/
theorem put_take {s : List UInt8} {c : Cm} (h : take s = some c) : may c = true ∧ putB c = s := by
  unfold take at h
  split at h
  · cases h
  · rename_i x s'
    split at h
    · cases h
    · rename_i n r ht
      split at h
      · rename_i hc
        obtain ⟨hr, hm⟩ := hc
        subst hr
        simp at h
        subst h
        refine ⟨hm, ?_⟩
        have := lay_tk _ _ _ n [] (specs_nodup _) (fun p hp => (specs_pos hp).2) ht
        rw [List.append_nil] at this
        unfold putB
        dsimp only
        rw [this, kb_x]
      · cases h
theorem tk_length : ∀ (L : List (Nat × Nat)) (s : List UInt8) (m n : Nat → Int) (r : List UInt8), tk L s m = some (n, r) → s.length = (L.map (·.2)).sum + r.length
  | [], s, m, n, r, h => by simp [tk] at h; simp [h.2]
  | p :: L, s, m, n, r, h => by
    unfold tk at h
    split at h
    · cases h
    · rename_i hs
      have := tk_length L _ _ n r h
      rw [List.length_drop] at this
      simp only [List.map_cons, List.sum_cons]
      omega
theorem layAll_sum (n : Nat → Int) : ∀ (L : List (Nat × Nat)), (layAll n L).length = (L.map (·.2)).sum
  | [] => rfl
  | p :: L => by
    have := layAll_sum n L
    unfold layAll at this ⊢
    simp only [List.flatMap_cons, List.length_append, be_len, this, List.map_cons, List.sum_cons]
/-- bytes of another length are no command's. -/
theorem take_len {c : Cm} (h : may c = true) {t : List UInt8} (ht : t.length ≠ (layAll c.n (specs c.k)).length) : take (kb c.k :: t) = none := by
  have hk := specs_k (may_specs h)
  unfold take
  dsimp only
  rw [kb_k hk.1 hk.2]
  split
  · rfl
  · rename_i n r htk
    have h2 := tk_length _ _ _ n r htk
    rw [layAll_sum] at ht
    rw [if_neg]
    rintro ⟨rfl, _⟩
    simp at h2
    exact ht h2
theorem layAll_pos {c : Cm} (h : may c = true) : 0 < (layAll c.n (specs c.k)).length := by
  have hne := may_specs h
  cases hL : specs c.k with
  | nil => exact absurd hL hne
  | cons p L =>
    have hp := specs_pos (k := c.k) (p := p) (by rw [hL]; exact List.mem_cons_self)
    rw [layAll_sum]
    simp only [List.map_cons, List.sum_cons]
    omega
end Go.Proofs.Ytdpllkmbnphdgaa
