/- Wire, in plain words: a reply and its bytes, there and back; what the calls answer, as pairs. -/
import Derived.Test.YtdpllkmbnphdgaaWireX
import Derived.Test.YtdpllkmbnphdgaaWireO
namespace Go.Proofs.Ytdpllkmbnphdgaa

theorem flatMap_same {α β : Type} (f g : α → List β) : ∀ (l : List α), (∀ a ∈ l, f a = g a) → l.flatMap f = l.flatMap g
  | [], _ => rfl
  | a :: l, h => by
    rw [List.flatMap_cons, List.flatMap_cons, h a List.mem_cons_self, flatMap_same f g l (fun b hb => h b (List.mem_cons_of_mem _ hb))]
def pbOf (c : Cm) : List UInt8 := if may c then putB c else []
def pcOf (c : Cm) : Int := if may c then 0 else 2
theorem putV_pair (c : Cm) : putV c = .tuple #[.string ⟨(pbOf c).toArray⟩, .int .i64 (pcOf c)] := by
  unfold putV pbOf pcOf
  cases may c <;> rfl
def tcOf : Option Cm → Cm
  | none => ⟨0, fun _ => 0⟩
  | some c => c
def tkOf : Option Cm → Int
  | none => 2
  | some _ => 0
theorem takeV_pair (o : Option Cm) : takeV o = .tuple #[.agg (tcOf o).cells, .int .i64 (tkOf o)] := by cases o <;> rfl
def rbOf (e v : Int) (ids : List Int) : List UInt8 := if putrOk e ids then putrB e v ids else []
def rcOf (e : Int) (ids : List Int) : Int := if putrOk e ids then 0 else 2
theorem putrV_pair (e v : Int) (ids : List Int) : putrV e v ids = .tuple #[.string ⟨(rbOf e v ids).toArray⟩, .int .i64 (rcOf e ids)] := by
  unfold putrV rbOf rcOf
  cases putrOk e ids <;> rfl
theorem putr_drop (e v : Int) (ids : List Int) : (putrB e v ids).drop 9 = be ids.length 2 ++ ids.flatMap fun n => be n 4 := by
  unfold putrB
  rw [List.drop_succ_cons, List.append_assoc, List.drop_append_of_le_length (by rw [be_len]; omega), List.drop_of_length_le (by rw [be_len]; omega)]
  rfl
theorem putr_drop11 (e v : Int) (ids : List Int) : (putrB e v ids).drop 11 = ids.flatMap fun n => be n 4 := by
  have h : (putrB e v ids).drop 11 = ((putrB e v ids).drop 9).drop 2 := by rw [List.drop_drop]
  rw [h, putr_drop, List.drop_append_of_le_length (by rw [be_len]; omega), List.drop_of_length_le (by rw [be_len]; omega)]
  rfl
theorem flat_chunk : ∀ (ids : List Int) (i : Nat) (x : Int), ids[i]? = some x → ((ids.flatMap fun n => be n 4).drop (4 * i)).take 4 = be x 4
  | [], i, x, h => by simp at h
  | n :: ids, 0, x, h => by
    simp at h
    subst h
    simp only [List.flatMap_cons, Nat.mul_zero, List.drop_zero]
    rw [List.take_append_of_le_length (by rw [be_len]; omega), List.take_of_length_le (by rw [be_len]; omega)]
  | n :: ids, i + 1, x, h => by
    simp at h
    have ih := flat_chunk ids i x h
    simp only [List.flatMap_cons]
    have e : (be n 4 ++ ids.flatMap fun n => be n 4).drop (4 * (i + 1)) = (ids.flatMap fun n => be n 4).drop (4 * i) := by
      have e4 : (be n 4 ++ ids.flatMap fun n => be n 4).drop 4 = ids.flatMap fun n => be n 4 := by
        rw [List.drop_append_of_le_length (by rw [be_len]; omega), List.drop_of_length_le (by rw [be_len]; omega)]
        rfl
      rw [show 4 * (i + 1) = 4 + 4 * i by omega, ← List.drop_drop, e4]
    rw [e, ih]
theorem putr_length (e v : Int) (ids : List Int) : (putrB e v ids).length = 11 + 4 * ids.length := by
  unfold putrB
  simp only [List.length_cons, List.length_append, be_len, ids_len]
  omega
theorem many_putr (e v : Int) (ids : List Int) (h : ids.length ≤ 200) : many (putrB e v ids) = ids.length := by
  unfold many
  rw [putr_drop, List.take_append_of_le_length (by rw [be_len]; omega), List.take_of_length_le (by rw [be_len]; omega), val_be _ _ (by omega)]
  unfold u64
  omega
theorem val4 {x : Int} (h : fits x 4 = true) : ((val (be x 4) : Nat) : Int) = x := by
  rw [val_be _ _ (by omega)]
  unfold fits at h
  rw [if_neg (by omega), decide_eq_true_eq] at h
  unfold u64
  omega
/-- THERE AND BACK: the bytes of a reply tell it. -/
theorem takeR_putr {e v : Int} {ids : List Int} (h : putrOk e ids = true) (hv : -9223372036854775808 ≤ v ∧ v ≤ 9223372036854775807) : takeR (putrB e v ids) = some ⟨e, v, ids⟩ := by
  unfold putrOk at h
  rw [Bool.and_eq_true, decide_eq_true_eq] at h
  obtain ⟨⟨h0, h255, h200⟩, hall⟩ := h
  have hm := many_putr e v ids h200
  have hids : idsOf (putrB e v ids) ids.length = ids := by
    refine List.ext_getElem? fun i => ?_
    by_cases hi : i < ids.length
    · have hx : ids[i]? = some ids[i] := by simp [hi]
      rw [idsOf_at _ hi, hx]
      unfold idAt
      rw [← List.drop_drop, putr_drop11, flat_chunk ids i _ hx, val4 (List.all_eq_true.1 hall _ (List.getElem_mem hi))]
    · rw [List.getElem?_eq_none (by rw [idsOf_len]; omega), List.getElem?_eq_none (by omega)]
  have hv8 : IntKind.i64.wrap (val (((putrB e v ids).drop 1).take 8) : Nat) = v := by
    have e8 : ((putrB e v ids).drop 1).take 8 = be v 8 := by
      unfold putrB
      rw [List.drop_succ_cons, List.drop_zero, List.append_assoc, List.take_append_of_le_length (by rw [be_len]; omega), List.take_of_length_le (by rw [be_len]; omega)]
    rw [e8, val_be _ _ (by omega)]
    unfold u64
    rw [IntKind.wrap_i64]
    omega
  have h0' : (((putrB e v ids).getD 0 0).toNat : Int) = e := by
    show ((kb e).toNat : Int) = e
    unfold kb
    simp
    omega
  unfold takeR
  rw [if_neg (by rw [putr_length]; omega), hm, if_neg (by rw [putr_length]; omega), hids, if_pos hall, hv8, h0']
theorem chunks : ∀ (m : Nat) (t : List UInt8), t.length = 4 * m → ((List.range m).flatMap fun i => (t.drop (4 * i)).take 4) = t
  | 0, t, h => by
    have : t = [] := List.eq_nil_of_length_eq_zero (by omega)
    subst this; rfl
  | m + 1, t, h => by
    have ih := chunks m (t.drop 4) (by rw [List.length_drop]; omega)
    rw [List.range_succ_eq_map, List.flatMap_cons]
    have e : ((List.range m).map Nat.succ).flatMap (fun i => (t.drop (4 * i)).take 4) = t.drop 4 := by
      rw [List.flatMap_map]
      refine Eq.trans (flatMap_same _ _ _ fun i _ => ?_) ih
      rw [List.drop_drop, show 4 + 4 * i = 4 * (i + 1) by omega]
    rw [e]
    simp [List.take_append_drop]
/-- what bytes tell has these bytes. -/
theorem putr_takeR {s : List UInt8} {r : Rp} (h : takeR s = some r) : putrOk r.e r.ids = true ∧ putrB r.e r.v r.ids = s := by
  unfold takeR at h
  split at h
  · cases h
  · rename_i h11
    split at h
    · cases h
    · rename_i hm
      split at h
      · rename_i hall
        simp only [Option.some.injEq] at h
        subst h
        dsimp only
        have hsl : s.length = 11 + 4 * many s := by omega
        have hM : many s ≤ 200 := by omega
        have hb0 := (s.getD 0 0).toNat_lt
        refine ⟨?_, ?_⟩
        · unfold putrOk
          rw [Bool.and_eq_true, decide_eq_true_eq, idsOf_len]
          exact ⟨⟨by omega, by omega, hM⟩, hall⟩
        · unfold putrB
          rw [kb_x, idsOf_len]
          have l8 : ((s.drop 1).take 8).length = 8 := by rw [List.length_take, List.length_drop]; omega
          have l2 : ((s.drop 9).take 2).length = 2 := by rw [List.length_take, List.length_drop]; omega
          have b8 : be (IntKind.i64.wrap (val ((s.drop 1).take 8) : Nat)) 8 = (s.drop 1).take 8 := by
            have := be_val ((s.drop 1).take 8) (by omega) (IntKind.i64.wrap (val ((s.drop 1).take 8) : Nat)) (by rw [l8]; exact u64_wrap _ _ (by omega))
            rwa [l8] at this
          have b2 : be ((many s : Nat) : Int) 2 = (s.drop 9).take 2 := by
            have := be_val ((s.drop 9).take 2) (by omega) ((many s : Nat) : Int) (by
              have := many_lt s
              rw [l2]; unfold u64; show ((many s : Int) % _).toNat % _ = many s % _; omega)
            rwa [l2] at this
          have bi : (idsOf s (many s)).flatMap (fun n => be n 4) = s.drop 11 := by
            rw [← chunks (many s) (s.drop 11) (by rw [List.length_drop]; omega)]
            unfold idsOf
            rw [List.flatMap_map]
            refine flatMap_same _ _ _ fun i hi => ?_
            have hi2 := List.mem_range.1 hi
            have l4 : ((s.drop (11 + 4 * i)).take 4).length = 4 := by rw [List.length_take, List.length_drop]; omega
            rw [List.drop_drop]
            have hid := idAt_in s i
            have := be_val ((s.drop (11 + 4 * i)).take 4) (by omega) (idAt s i) (by
              rw [l4]
              unfold idAt at hid ⊢
              unfold u64
              omega)
            rwa [l4] at this
          rw [b8, b2, bi]
          cases s with
          | nil => simp at h11
          | cons x t =>
            show x :: ((t.take 8) ++ (t.drop 8).take 2 ++ t.drop 10) = x :: t
            rw [List.append_assoc, show t.drop 10 = (t.drop 8).drop 2 by rw [List.drop_drop], List.take_append_drop, List.take_append_drop]
      · cases h
end Go.Proofs.Ytdpllkmbnphdgaa
