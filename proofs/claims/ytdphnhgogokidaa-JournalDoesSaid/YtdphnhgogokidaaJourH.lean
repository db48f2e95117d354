/- The journal: what Open tells, by definition. -/
import Derived.Test.YtdphnhgogokidaaJourG
namespace Go.Proofs.Ytdphnhgogokidaa
open Go.RowKit

theorem scan_mem (l : List UInt8) : (∀ x ∈ (scan l).1, x.length ≤ l.length) ∧ (scan l).2.1 ≤ l.length := by
  suffices h : ∀ n (l : List UInt8), l.length ≤ n → (∀ x ∈ (scan l).1, x.length ≤ l.length) ∧ (scan l).2.1 ≤ l.length from h l.length l (Nat.le_refl _)
  intro n
  induction n with
  | zero => intro l hl; rw [scan_nil (by omega)]; simp
  | succ n ih =>
    intro l hl
    by_cases h0 : l.length = 0
    · rw [scan_nil h0]; simp
    by_cases h8 : l.length < 8
    · rw [scan_short (by omega) h8]; simp
    by_cases hn : 65536 < rd (l.take 4)
    · rw [scan_big (by omega) hn]; simp
    by_cases ht : l.length < 8 + rd (l.take 4)
    · rw [scan_torn (by omega) hn ht]; simp
    by_cases hc : Crc.check ((l.drop 8).take (rd (l.take 4))) = rd ((l.drop 4).take 4)
    · rw [scan_one (by omega) hn ht hc]
      have h := ih (l.drop (8 + rd (l.take 4))) (by rw [List.length_drop]; omega)
      rw [List.length_drop] at h
      refine ⟨fun x hx => ?_, by dsimp only; omega⟩
      rcases List.mem_cons.1 hx with rfl | hx
      · rw [List.length_take, List.length_drop]; omega
      · have := h.1 x hx; omega
    · rw [scan_bad (by omega) hn ht hc]
      split <;> simp
/-- a snapshot's number and text: of a file's bytes. -/
def snapOf (l : List UInt8) : Option (Nat × List UInt8) :=
  if l = [] then some (0, []) else if (scan l).1.length = 1 ∧ (scan l).2.2 = 0 then part ((scan l).1.getD 0 []) else none
def opS (e : Nat) (d : Dk) : Out := runF [fun d => cutx 0 e d, fun d => cutx 2 0 d] d
def openJ (d : Dk) : Int × Option Jn × Dk :=
  match snapOf (d.b 1) with
  | none => (8, none, d)
  | some (n, t) =>
    if (scan (d.b 0)).2.2 = 2 then (8, none, d)
    else match fol n true 0 (scan (d.b 0)).1 with
      | none => (8, none, d)
      | some rs => if (opS (scan (d.b 0)).2.1 d).code = 0 then (0, some ⟨n, t, rs, false⟩, (opS (scan (d.b 0)).2.1 d).dk) else ((opS (scan (d.b 0)).2.1 d).code, none, (opS (scan (d.b 0)).2.1 d).dk)
theorem snapOf_nil {l : List UInt8} (h : l = []) : snapOf l = some (0, []) := if_pos h
theorem snapOf_many {l : List UInt8} (h : l ≠ []) (h1 : ¬ ((scan l).1.length = 1 ∧ (scan l).2.2 = 0)) : snapOf l = none := by unfold snapOf; rw [if_neg h, if_neg h1]
theorem snapOf_one {l : List UInt8} (h : l ≠ []) (h1 : (scan l).1.length = 1 ∧ (scan l).2.2 = 0) : snapOf l = part ((scan l).1.getD 0 []) := by unfold snapOf; rw [if_neg h, if_pos h1]
theorem openJ_snap {d : Dk} (h : snapOf (d.b 1) = none) : openJ d = (8, none, d) := by unfold openJ; rw [h]
theorem openJ_two {d : Dk} {n : Nat} {t : List UInt8} (h : snapOf (d.b 1) = some (n, t)) (h2 : (scan (d.b 0)).2.2 = 2) : openJ d = (8, none, d) := by unfold openJ; rw [h]; simp only [if_pos h2]
theorem openJ_fol {d : Dk} {n : Nat} {t : List UInt8} (h : snapOf (d.b 1) = some (n, t)) (h2 : ¬ (scan (d.b 0)).2.2 = 2) (h3 : fol n true 0 (scan (d.b 0)).1 = none) : openJ d = (8, none, d) := by unfold openJ; rw [h]; simp only [if_neg h2, h3]
theorem openJ_bad {d : Dk} {n : Nat} {t : List UInt8} {rs : List (List UInt8)} (h : snapOf (d.b 1) = some (n, t)) (h2 : ¬ (scan (d.b 0)).2.2 = 2) (h3 : fol n true 0 (scan (d.b 0)).1 = some rs) (h4 : (opS (scan (d.b 0)).2.1 d).code ≠ 0) :
    openJ d = ((opS (scan (d.b 0)).2.1 d).code, none, (opS (scan (d.b 0)).2.1 d).dk) := by unfold openJ; rw [h]; simp only [if_neg h2, h3, if_neg h4]
theorem openJ_ok {d : Dk} {n : Nat} {t : List UInt8} {rs : List (List UInt8)} (h : snapOf (d.b 1) = some (n, t)) (h2 : ¬ (scan (d.b 0)).2.2 = 2) (h3 : fol n true 0 (scan (d.b 0)).1 = some rs) (h4 : (opS (scan (d.b 0)).2.1 d).code = 0) :
    openJ d = (0, some ⟨n, t, rs, false⟩, (opS (scan (d.b 0)).2.1 d).dk) := by unfold openJ; rw [h]; simp only [if_neg h2, h3, if_pos h4]
theorem snapOf_lt {l : List UInt8} {n : Nat} {t : List UInt8} (h : snapOf l = some (n, t)) : (n : Int) ≤ 4611686018427387903 := by
  by_cases h0 : l = []
  · rw [snapOf_nil h0] at h; simp only [Option.some.injEq, Prod.mk.injEq] at h; omega
  · by_cases h1 : (scan l).1.length = 1 ∧ (scan l).2.2 = 0
    · rw [snapOf_one h0 h1] at h; exact part_lt h
    · rw [snapOf_many h0 h1] at h; cases h
theorem Only.fresh {g jg : Nat} {a b c : World} (h : Only g a b) (k : Two g jg b c) (hj : a.heap.size ≤ jg) : Only g a c :=
  ⟨k.os.trans h.os, k.tape.trans h.tape, k.output.trans h.output, Nat.le_trans h.size k.size, fun i hi hne => (k.block i (Nat.lt_of_lt_of_le hi h.size) (fun e => hne (by rw [e])) (by omega)).trans (h.block i hi hne)⟩
/-- what Open leaves. -/
def OpenPost (g jg : Nat) (w w' : World) (e : Ending) (o : Int × Option Jn × Dk) : Prop :=
  Only g w w' ∧ DiskAt w' g o.2.2 ∧ o.2.2.Ok ∧ match o.2.1 with
    | none => e = .returned (.tuple #[.pointer none, .int .i64 o.1])
    | some j => e = .returned (.tuple #[.pointer (some ⟨jg, 0, none⟩), .int .i64 o.1]) ∧ ∃ v, Jour w' jg g (jg + 1) v j o.2.2
theorem open_nil (w : World) : Calls Try.prog 41 #[.pointer none] w fun e w' => e = .returned (.tuple #[.pointer none, .int .i64 1]) ∧ w = w' := by
  go_enter Try.func41, Try.ntmps41
  go_wp2
  go_ret2
  exact ⟨rfl, rfl⟩
theorem own_mono {w : World} {B B' n : Nat} {E : TypeId} {v : Value} {xs : List Value} (h : w.ownsRow B E 1 v n xs) (hb : B' ≤ B) : w.ownsRow B' E 1 v n xs := by
  refine ⟨h.1, ?_⟩
  rcases h.2 with hn | ⟨g', cap, cur, rfl, hb2, rest⟩
  · exact .inl hn
  · exact .inr ⟨g', cap, cur, rfl, by omega, rest⟩
theorem ne_empty_str {l : List UInt8} (h : l ≠ []) : l.isEmpty = false := by cases l with
  | nil => exact absurd rfl h
  | cons => rfl
theorem scan_l (s : List UInt8) (hs : (s.length : Int) ≤ 1099511627776) (w : World) :
    Calls Try.prog 31 #[.string ⟨s.toArray⟩] w fun e w' => ∃ v, e = .returned (.tuple #[v, .int .i64 (scan s).2.1, .int .i64 (scan s).2.2]) ∧
      w'.ownsRow w.heap.size 9 1 v (scan s).1.length (strs (scan s).1) ∧ Below w.heap.size w w' := scan_any ⟨s.toArray⟩ (by show s.toArray.size ≤ _; simp; omega) w
set_option maxRecDepth 100000 in
set_option maxHeartbeats 8000000 in
theorem open_j (g : Nat) (d : Dk) (ho : d.Ok) (w : World) (h : DiskAt w g d) :
    Calls Try.prog 41 #[.pointer (some ⟨g, 0, none⟩)] w fun e w' => OpenPost g w.heap.size w w' e (openJ d) := by
  have HD := Lib.hid h
  have HO := Lib.hid ho
  have hgl : g < w.heap.size := (Array.getElem?_eq_some_iff.1 h).1
  have hl0 := ho.len (i := 0) (by omega)
  have hl1 := ho.len (i := 1) (by omega)
  have HR0 := Lib.hid (show ∀ wx, DiskAt wx g d → Calls Try.prog 21 #[.pointer (some ⟨g, 0, none⟩), .int .i64 0] wx fun e w' => e = .returned (.tuple #[.string ⟨(d.b 0).toArray⟩, .int .i64 0]) ∧ wx = w' from fun wx hw => read_disk g d 0 (by omega) wx hw)
  have HR1 := Lib.hid (show ∀ wx, DiskAt wx g d → Calls Try.prog 21 #[.pointer (some ⟨g, 0, none⟩), .int .i64 1] wx fun e w' => e = .returned (.tuple #[.string ⟨(d.b 1).toArray⟩, .int .i64 0]) ∧ wx = w' from fun wx hw => read_disk g d 1 (by omega) wx hw)
  have hb1 := (Below.refl w.heap.size w).alloc (Nat.le_refl _) (.cells #[.pointer (some ⟨g, 0, none⟩), .string ⟨#[]⟩, .int .i64 0, .slice none 0 0, .bool false] 111 (0, 0))
  have hb2 := (Below.refl (w.alloc (.cells #[.pointer (some ⟨g, 0, none⟩), .string ⟨#[]⟩, .int .i64 0, .slice none 0 0, .bool false] 111 (0, 0))).heap.size (w.alloc (.cells #[.pointer (some ⟨g, 0, none⟩), .string ⟨#[]⟩, .int .i64 0, .slice none 0 0, .bool false] 111 (0, 0)))).alloc (Nat.le_refl _) (.cells #[.pointer (some ⟨w.heap.size, 0, none⟩)] 67 (0, 0))
  have hj1 : JAt (w.alloc (.cells #[.pointer (some ⟨g, 0, none⟩), .string ⟨#[]⟩, .int .i64 0, .slice none 0 0, .bool false] 111 (0, 0))) w.heap.size g (.slice none 0 0) ⟨0, [], [], false⟩ := heap_alloc_new _ _
  have HJ4 := Lib.hid (hj1.below hb2)
  have HD4 := Lib.hid ((DiskAt.below h hb1).below hb2)
  have hs1 : (w.alloc (.cells #[.pointer (some ⟨g, 0, none⟩), .string ⟨#[]⟩, .int .i64 0, .slice none 0 0, .bool false] 111 (0, 0))).heap.size = w.heap.size + 1 := by simp
  have HB4 := Lib.hid (show Box ((w.alloc (.cells #[.pointer (some ⟨g, 0, none⟩), .string ⟨#[]⟩, .int .i64 0, .slice none 0 0, .bool false] 111 (0, 0))).alloc (.cells #[.pointer (some ⟨w.heap.size, 0, none⟩)] 67 (0, 0))) (w.heap.size + 1) (.pointer (some ⟨w.heap.size, 0, none⟩)) by
    rw [← hs1]
    exact (cell_of_row _ _ 0 _ _ _ (heap_alloc_new _ _)).trans rfl)
  have HN4 := Lib.hid (show Only g w ((w.alloc (.cells #[.pointer (some ⟨g, 0, none⟩), .string ⟨#[]⟩, .int .i64 0, .slice none 0 0, .bool false] 111 (0, 0))).alloc (.cells #[.pointer (some ⟨w.heap.size, 0, none⟩)] 67 (0, 0))) from ((Only.refl g w).alloc _).alloc _)
  clear h ho hb1 hb2 hj1 hs1
  go_enter Try.func41, Try.ntmps41
  go_upto_region 4 with (fail)
  generalize ((w.alloc (.cells #[.pointer (some ⟨g, 0, none⟩), .string ⟨#[]⟩, .int .i64 0, .slice none 0 0, .bool false] 111 (0, 0))).alloc (.cells #[.pointer (some ⟨w.heap.size, 0, none⟩)] 67 (0, 0))) = w4 at *
  have HSZ := Lib.hid (Nat.le_refl w.heap.size)
  generalize hB : w.heap.size = jg at *
  have HJS := Lib.hid hB
  clear hB HSZ
  have HSN := Lib.hid (scan_mem (d.b 1))
  by_cases h1 : d.b 1 = []
  · have HSNAP := Lib.hid (snapOf_nil h1)
    have HJ5 := HJ4
    have HD5 := HD4
    have HB5 := HB4
    have HN5 := HN4
    rw [h1] at HR1
    clear h1 HSN HJ4 HB4 HD4 HN4
    go_upto_region 13 with (go_at_call 21; refine (HR1.out _ HD5.out).mono ?_; rintro e wx ⟨rfl, rfl⟩)
    clear HR1
    generalize w4 = wt at *
    have HTWO := Lib.hid (fun hh => openJ_two HSNAP.out hh)
    have HFOL := Lib.hid (fun h2 h3 => openJ_fol HSNAP.out h2 h3)
    have HBAD := Lib.hid (fun rs h2 h3 h4 => openJ_bad (rs := rs) HSNAP.out h2 h3 h4)
    have HOKK := Lib.hid (fun rs h2 h3 h4 => openJ_ok (rs := rs) HSNAP.out h2 h3 h4)
    have hbs := snapOf_lt HSNAP.out
    have HS0 := Lib.hid (And.intro (scan_len (d.b 0)) (scan_mem (d.b 0)))
    clear HSNAP
    generalize d.b 0 = s0 at *
    have HSC0 := Lib.hid (fun wx => scan_l s0 (by omega) wx)
    generalize scan s0 = q at *
    obtain ⟨L0, e0, b0⟩ := q
    dsimp only at HTWO HFOL HBAD HOKK HS0 HSC0
    go_upto_region 14 with (go_at_call 21; refine (HR0.out _ HD5.out).mono ?_; rintro e wx ⟨rfl, rfl⟩)
    go_upto_region 15 with (go_at_call 31; refine (HSC0.out _).mono ?_; rintro e w6 ⟨v6, rfl, how6, hb6⟩)
    have hkt : jg + 1 < wt.heap.size := block_lt_of_cell (show wt.cell? ⟨jg + 1, 0, none⟩ = some _ from HB5.out)
    have hb7 := (Below.refl w6.heap.size w6).alloc (Nat.le_refl _) (.cells #[.int .i64 e0] 3 (0, 0))
    have hn6 := Only.of_below (g := g) hb6
    have hn7 := Only.of_below (g := g) hb7
    have HN7 := Lib.hid ((HN5.out.trans hn6).trans hn7)
    have HJ7 := Lib.hid ((HJ5.out.below hb6).below hb7)
    have HD7 := Lib.hid ((HD5.out.below hb6).below hb7)
    have HB7 := Lib.hid (show Box (w6.alloc (.cells #[.int .i64 e0] 3 (0, 0))) (jg + 1) _ from kept_at hb7 (kept_at hb6 HB5.out))
    have HE7 := Lib.hid (show Box (w6.alloc (.cells #[.int .i64 e0] 3 (0, 0))) w6.heap.size (.int .i64 e0) from (cell_of_row _ _ 0 _ _ _ (heap_alloc_new _ _)).trans rfl)
    have HW7 := Lib.hid (show (w6.alloc (.cells #[.int .i64 e0] 3 (0, 0))).ownsRow wt.heap.size 9 1 v6 L0.length (strs L0) from how6.alloc _)
    have hks := hb6.size
    have HKE := Lib.hid (show jg + 1 < w6.heap.size by omega)
    have HK7 := Lib.hid (show jg + 1 ≤ (w6.alloc (.cells #[.int .i64 e0] 3 (0, 0))).heap.size by simp; omega)
    have hL0 := HS0.out.1
    clear hb6 hb7 hn6 hn7 how6 HN5 HJ5 HD5 HB5 hks
    generalize w6.alloc (.cells #[.int .i64 e0] 3 (0, 0)) = w7 at *
    generalize w6.heap.size = ke at *
    by_cases h2 : b0 = 2
    · have h2i : ((b0 : Int) == 2) = true := by simp [h2]
      have HNO := Lib.hid (HTWO.out h2)
      clear h2 HTWO HFOL HBAD HOKK
      go_wp2
      go_ret2
      rw [HNO.out]
      exact ⟨HN7.out, HD7.out, HO.out, rfl⟩
    · have h2i : ((b0 : Int) == 2) = false := by simp; omega
      cases hf : fol 0 true 0 L0 with
      | none =>
        have HNO := Lib.hid (HFOL.out h2 hf)
        have HFO := Lib.hid (show Calls Try.prog 70 #[.pointer (some ⟨jg, 0, none⟩), v6] w7 fun e w' => Only jg w7 w' ∧ e = .returned (.bool false) from
          (follow_j jg g wt.heap.size ⟨0, [], [], false⟩ v6 L0 _ hf (by omega) (fun x hx => by have := HS0.out.2.1 x hx; omega) hbs w7 HJ7.out HW7.out (by omega)).mono (fun e w' hp => ⟨hp.1, by
            rcases hp.2 with ⟨_, h⟩ | ⟨_, _, h, _⟩
            · exact h
            · cases h⟩))
        clear hf h2 HTWO HFOL HBAD HOKK
        have c7 := HB7.out
        unfold Box at c7
        go_wp2_with (go_at_call 70; refine (HFO.out).mono ?_; rintro e w8 ⟨ho8, rfl⟩)
        go_ret2
        rw [HNO.out]
        exact ⟨HN7.out.fresh (Two.of2 ho8) (Nat.le_of_eq HJS.out), DiskAt.grown HD7.out ho8 (fun e => by simp only [Option.some.injEq] at e; omega), HO.out, rfl⟩
      | some rs =>
        have HBD := Lib.hid (fun h4 => HBAD.out rs h2 hf h4)
        have HOK2 := Lib.hid (fun h4 => HOKK.out rs h2 hf h4)
        have HFO := Lib.hid (show Calls Try.prog 70 #[.pointer (some ⟨jg, 0, none⟩), v6] w7 fun e w' => Only jg w7 w' ∧ e = .returned (.bool true) ∧ ∃ v', JAt w' jg g v' ⟨0, [], rs, false⟩ ∧ w'.ownsRow w7.heap.size 9 1 v' rs.length (strs rs) from
          (follow_j jg g wt.heap.size ⟨0, [], [], false⟩ v6 L0 _ hf (by omega) (fun x hx => by have := HS0.out.2.1 x hx; omega) hbs w7 HJ7.out HW7.out (by omega)).mono (fun e w' hp => ⟨hp.1, by
            rcases hp.2 with ⟨h, _⟩ | ⟨rs2, v2, h, he, hj, hw⟩
            · cases h
            · cases h; exact ⟨he, v2, hj, hw⟩⟩))
        clear hf h2 HTWO HFOL HBAD HOKK
        have c7 := HB7.out
        unfold Box at c7
        go_upto_region 17 with (go_at_call 70; refine (HFO.out).mono ?_; rintro e w8 ⟨ho8, rfl, v8, hj8, hw8⟩)
        have HN8 := Lib.hid (HN7.out.fresh (Two.of2 ho8) (Nat.le_of_eq HJS.out))
        have HD8 := Lib.hid (DiskAt.grown HD7.out ho8 (fun e => by simp only [Option.some.injEq] at e; omega))
        have HB8 := Lib.hid (HB7.out.only ho8 (by omega))
        have HE8 := Lib.hid (HE7.out.only ho8 (by have := HKE.out; omega))
        have HW8 := Lib.hid (own_mono hw8 HK7.out)
        have hk8 : ke < w8.heap.size := block_lt_of_cell (show w8.cell? ⟨ke, 0, none⟩ = some _ from HE8.out)
        have hba := (Below.refl w8.heap.size w8).alloc (Nat.le_refl _) (.cells #[.func (.func 72) #[] #[.pointer (some ⟨jg + 1, 0, none⟩), .pointer (some ⟨ke, 0, none⟩)], .func (.func 74) #[] #[.pointer (some ⟨jg + 1, 0, none⟩)]] 95 (0, 0))
        have hc9 := heap_alloc_new w8 (.cells #[.func (.func 72) #[] #[.pointer (some ⟨jg + 1, 0, none⟩), .pointer (some ⟨ke, 0, none⟩)], .func (.func 74) #[] #[.pointer (some ⟨jg + 1, 0, none⟩)]] 95 (0, 0))
        have HN9 := Lib.hid (HN8.out.trans (Only.of_below hba))
        have HJ9 := Lib.hid (hj8.below hba)
        have HD9 := Lib.hid (HD8.out.below hba)
        have HB9 := Lib.hid (show Box (w8.alloc (.cells #[.func (.func 72) #[] #[.pointer (some ⟨jg + 1, 0, none⟩), .pointer (some ⟨ke, 0, none⟩)], .func (.func 74) #[] #[.pointer (some ⟨jg + 1, 0, none⟩)]] 95 (0, 0))) (jg + 1) _ from kept_at hba HB8.out)
        have HE9 := Lib.hid (show Box (w8.alloc (.cells #[.func (.func 72) #[] #[.pointer (some ⟨jg + 1, 0, none⟩), .pointer (some ⟨ke, 0, none⟩)], .func (.func 74) #[] #[.pointer (some ⟨jg + 1, 0, none⟩)]] 95 (0, 0))) ke _ from kept_at hba HE8.out)
        have HW9 := Lib.hid (show (w8.alloc (.cells #[.func (.func 72) #[] #[.pointer (some ⟨jg + 1, 0, none⟩), .pointer (some ⟨ke, 0, none⟩)], .func (.func 74) #[] #[.pointer (some ⟨jg + 1, 0, none⟩)]] 95 (0, 0))).ownsRow (jg + 1) 9 1 v8 rs.length (strs rs) from HW8.out.alloc _)
        have c8 := HB8.out
        unfold Box at c8
        clear c7 hba ho8 hj8 hw8 HN7 HJ7 HD7 HB7 HE7 HW7 HK7 HFO
        go_wp2_with fail
        have hstep := steps_any jg g w8.heap.size v8 ⟨0, [], rs, false⟩ d HO.out [⟨72, #[.pointer (some ⟨jg + 1, 0, none⟩), .pointer (some ⟨ke, 0, none⟩)], fun d => cutx 0 e0 d⟩, ⟨74, #[.pointer (some ⟨jg + 1, 0, none⟩)], fun d => cutx 2 0 d⟩] (by omega) (by have := HKE.out; omega) _ HJ9.out HD9.out hc9 (by simp) (by
          intro c hc
          simp only [List.mem_cons, List.not_mem_nil, or_false] at hc
          rcases hc with rfl | rfl
          · exact does_trim jg g (jg + 1) ke _ _ e0 _ HB9.out (by omega) HE9.out (by have := HKE.out; omega) HJ9.out (by omega)
          · exact does_clear2 jg g (jg + 1) _ _ _ HB9.out (by omega) HJ9.out (by omega))
        rw [show runSteps [⟨72, #[.pointer (some ⟨jg + 1, 0, none⟩), .pointer (some ⟨ke, 0, none⟩)], fun d => cutx 0 e0 d⟩, ⟨74, #[.pointer (some ⟨jg + 1, 0, none⟩)], fun d => cutx 2 0 d⟩] d = opS e0 d from runF_steps _ _] at hstep
        have HST := Lib.hid hstep
        clear hstep hc9 c8 HJ9 HD9 HE9 HN8 HD8 HB8 HE8 HW8
        generalize opS e0 d = o at *
        obtain ⟨code, dk⟩ := o
        dsimp only at HST HBD HOK2
        generalize w8.alloc (.cells #[.func (.func 72) #[] #[.pointer (some ⟨jg + 1, 0, none⟩), .pointer (some ⟨ke, 0, none⟩)], .func (.func 74) #[] #[.pointer (some ⟨jg + 1, 0, none⟩)]] 95 (0, 0)) = w9 at *
        refine (HST.out).mono ?_
        rintro e w10 ⟨rfl, hd10, hok10, hj10, ht10⟩
        have c10 : w10.cell? ⟨jg + 1, 0, none⟩ = some (.pointer (some ⟨jg, 0, none⟩)) := by
          have h := HB9.out
          unfold Box at h
          unfold World.cell? at h ⊢
          rw [ht10.block (jg + 1) (by exact block_lt_of_cell (show w9.cell? ⟨jg + 1, 0, none⟩ = some _ from HB9.out)) (by omega) (by omega)]
          exact h
        have HN10 := Lib.hid (HN9.out.fresh ht10 (Nat.le_of_eq HJS.out))
        have HW10 := Lib.hid (own_two HW9.out ht10 (by omega) (by omega))
        have HD10 := Lib.hid hd10
        have HO10 := Lib.hid hok10
        have HJ10 := Lib.hid hj10
        clear hd10 hok10 hj10 ht10 HB9 HN9 HW9 HST
        by_cases hz : code = 0
        · subst hz
          have HNO := Lib.hid (HOK2.out rfl)
          clear HOK2 HBD
          go_wp2
          go_ret2
          rw [HNO.out, HJS.out]
          exact ⟨HN10.out, HD10.out, HO10.out, rfl, v8, ⟨HJ10.out, HD10.out, HO10.out, HW10.out⟩⟩
        · have hz1 : (code != 0) = true := by simpa using hz
          have HNO := Lib.hid (HBD.out hz)
          clear HOK2 HBD hz
          go_wp2
          go_ret2
          rw [HNO.out]
          exact ⟨HN10.out, HD10.out, HO10.out, rfl⟩
  · have HSO := Lib.hid (fun hh => snapOf_one h1 hh)
    have HSM := Lib.hid (fun hh => openJ_snap (snapOf_many h1 hh))
    have h1a := ne_empty_str h1
    have HS1 := Lib.hid (fun hh => openJ_snap (d := d) hh)
    clear h1
    generalize hs1 : d.b 1 = s1 at *
    have HEQ1 := Lib.hid hs1
    clear hs1
    have HSC := Lib.hid (fun wx => scan_l s1 (by omega) wx)
    go_upto_region 5 with (go_at_call 21; refine (HR1.out _ HD4.out).mono ?_; rintro e wx ⟨rfl, rfl⟩)
    clear HR1
    generalize scan s1 = q at *
    obtain ⟨L1, e1, b1⟩ := q
    dsimp only at HSO HSM HSN HSC
    go_upto_region 7 with (go_at_call 31; refine (HSC.out _).mono ?_; rintro e w5 ⟨v5, rfl, how5, hb5⟩)
    have hn5 := Only.of_below (g := g) hb5
    have HN5 := Lib.hid (HN4.out.trans hn5)
    have HJ5 := Lib.hid (HJ4.out.below hb5)
    have HD5 := Lib.hid (HD4.out.below hb5)
    have HB5 := Lib.hid (show Box w5 (jg + 1) _ from kept_at hb5 HB4.out)
    obtain ⟨al, cl, rfl, hrw⟩ := own_rows how5
    have HRW := Lib.hid hrw
    clear hb5 hn5 HN4 HJ4 HD4 HB4 how5 hrw HSC
    by_cases hone : L1.length = 1 ∧ b1 = 0
    · obtain ⟨x, rfl⟩ : ∃ x, L1 = [x] := by
        match L1, hone.1 with
        | [y], _ => exact ⟨y, rfl⟩
      obtain ⟨gl, rfl, hgl2, hcx⟩ := HRW.out 0 x rfl
      have hxl := HSN.out.1 x (List.mem_singleton.2 rfl)
      have hso := HSO.out hone
      have hb1 : b1 = 0 := hone.2
      subst hb1
      have HP := Lib.hid (fun wx => parted_any x (by omega) wx)
      clear hone HSO HSM HRW hgl2
      cases hp : part x with
      | none =>
        have HNO := Lib.hid (HS1.out (hso.trans hp))
        have HPV := Lib.hid (partV_none hp)
        clear hp hso
        go_wp2_with (go_at_call 69; refine (HP.out _).mono ?_; rintro e w3 ⟨rfl, n3, rfl⟩; rw [HPV.out])
        go_ret2
        rw [HNO.out]
        exact ⟨HN5.out.drewN n3, HD5.out, HO.out, rfl⟩
      | some nt =>
        obtain ⟨nb, tx⟩ := nt
        have HSNAP0 := Lib.hid (hso.trans hp)
        have HPV := Lib.hid (partV_some hp)
        clear hp hso HS1
        go_upto_region 12 with (go_at_call 69; refine (HP.out _).mono ?_; rintro e w3 ⟨rfl, n3, rfl⟩; rw [HPV.out])
        have HNq := Lib.hid (HN5.out.drewN n3)
        have HJq := Lib.hid (show JAt (w5.drewN n3) jg g _ _ from HJ5.out)
        have HDq := Lib.hid (show DiskAt (w5.drewN n3) g _ from HD5.out)
        have hbx : (w5.drewN n3).cell? ⟨jg + 1, 0, none⟩ = some (.pointer (some ⟨jg, 0, none⟩)) := HB5.out
        have j1 := HJq.out.c1
        have j2 := HJq.out.c2
        have jf1 := HJq.out.frozen 1
        have jf2 := HJq.out.frozen 2
        clear HN5 HJ5 HD5 HB5 HP HPV hcx
        generalize w5.drewN n3 = wq at *
        have KB : ∀ (wx : World) (i : Nat) (v : Value), wx.cell? ⟨jg + 1, 0, none⟩ = some (.pointer (some ⟨jg, 0, none⟩)) → (wx.setCell ⟨jg, i, none⟩ v).cell? ⟨jg + 1, 0, none⟩ = some (.pointer (some ⟨jg, 0, none⟩)) := fun wx i v h => by
          rw [World.cell?_setCell_other _ _ _ _ (by intro e; simp only [Addr.mk.injEq] at e; omega)]; exact h
        go_region_held3 (fun wx => wx.cell? ⟨jg + 1, 0, none⟩ = some (.pointer (some ⟨jg, 0, none⟩))) (first | assumption | exact hbx | exact KB _ _ _ (by assumption))
          (first | fail)
        have HJ5 := Lib.hid (show JAt ((wq.setCell ⟨jg, 2, none⟩ (.int .i64 nb)).setCell ⟨jg, 1, none⟩ (.string ⟨tx.toArray⟩)).drew jg g (.slice none 0 0) ⟨nb, tx, [], false⟩ from (HJq.out.set2 nb).set1 tx)
        have HD5 := Lib.hid (show DiskAt ((wq.setCell ⟨jg, 2, none⟩ (.int .i64 nb)).setCell ⟨jg, 1, none⟩ (.string ⟨tx.toArray⟩)).drew g d from DiskAt.setj (DiskAt.setj HDq.out (by omega) 2 (.int .i64 nb)) (by omega) 1 (.string ⟨tx.toArray⟩))
        have HB5 := Lib.hid (show Box ((wq.setCell ⟨jg, 2, none⟩ (.int .i64 nb)).setCell ⟨jg, 1, none⟩ (.string ⟨tx.toArray⟩)).drew (jg + 1) (.pointer (some ⟨jg, 0, none⟩)) from KB _ 1 _ (KB _ 2 _ hbx))
        have hs2 : Two g jg wq ((wq.setCell ⟨jg, 2, none⟩ (.int .i64 nb)).setCell ⟨jg, 1, none⟩ (.string ⟨tx.toArray⟩)).drew := ((Two.of2 (((Only.refl jg wq).setCell 2 (.int .i64 nb)).setCell 1 (.string ⟨tx.toArray⟩))).drewN 1)
        have HN5 := Lib.hid (HNq.out.fresh hs2 (Nat.le_of_eq HJS.out))
        have HSNAP := Lib.hid (show snapOf (d.b 1) = some (nb, tx) by rw [HEQ1.out]; exact HSNAP0.out)
        clear HNq HJq HDq hbx j1 j2 jf1 jf2 KB hs2 HSNAP0
        generalize ((wq.setCell ⟨jg, 2, none⟩ (.int .i64 nb)).setCell ⟨jg, 1, none⟩ (.string ⟨tx.toArray⟩)).drew = wt at *
        have HTWO := Lib.hid (fun hh => openJ_two HSNAP.out hh)
        have HFOL := Lib.hid (fun h2 h3 => openJ_fol HSNAP.out h2 h3)
        have HBAD := Lib.hid (fun rs h2 h3 h4 => openJ_bad (rs := rs) HSNAP.out h2 h3 h4)
        have HOKK := Lib.hid (fun rs h2 h3 h4 => openJ_ok (rs := rs) HSNAP.out h2 h3 h4)
        have hbs := snapOf_lt HSNAP.out
        have HS0 := Lib.hid (And.intro (scan_len (d.b 0)) (scan_mem (d.b 0)))
        clear HSNAP
        generalize d.b 0 = s0 at *
        have HSC0 := Lib.hid (fun wx => scan_l s0 (by omega) wx)
        generalize scan s0 = q at *
        obtain ⟨L0, e0, b0⟩ := q
        dsimp only at HTWO HFOL HBAD HOKK HS0 HSC0
        go_upto_region 14 with (go_at_call 21; refine (HR0.out _ HD5.out).mono ?_; rintro e wx ⟨rfl, rfl⟩)
        go_upto_region 15 with (go_at_call 31; refine (HSC0.out _).mono ?_; rintro e w6 ⟨v6, rfl, how6, hb6⟩)
        have hkt : jg + 1 < wt.heap.size := block_lt_of_cell (show wt.cell? ⟨jg + 1, 0, none⟩ = some _ from HB5.out)
        have hb7 := (Below.refl w6.heap.size w6).alloc (Nat.le_refl _) (.cells #[.int .i64 e0] 3 (0, 0))
        have hn6 := Only.of_below (g := g) hb6
        have hn7 := Only.of_below (g := g) hb7
        have HN7 := Lib.hid ((HN5.out.trans hn6).trans hn7)
        have HJ7 := Lib.hid ((HJ5.out.below hb6).below hb7)
        have HD7 := Lib.hid ((HD5.out.below hb6).below hb7)
        have HB7 := Lib.hid (show Box (w6.alloc (.cells #[.int .i64 e0] 3 (0, 0))) (jg + 1) _ from kept_at hb7 (kept_at hb6 HB5.out))
        have HE7 := Lib.hid (show Box (w6.alloc (.cells #[.int .i64 e0] 3 (0, 0))) w6.heap.size (.int .i64 e0) from (cell_of_row _ _ 0 _ _ _ (heap_alloc_new _ _)).trans rfl)
        have HW7 := Lib.hid (show (w6.alloc (.cells #[.int .i64 e0] 3 (0, 0))).ownsRow wt.heap.size 9 1 v6 L0.length (strs L0) from how6.alloc _)
        have hks := hb6.size
        have HKE := Lib.hid (show jg + 1 < w6.heap.size by omega)
        have HK7 := Lib.hid (show jg + 1 ≤ (w6.alloc (.cells #[.int .i64 e0] 3 (0, 0))).heap.size by simp; omega)
        have hL0 := HS0.out.1
        clear hb6 hb7 hn6 hn7 how6 HN5 HJ5 HD5 HB5 hks
        generalize w6.alloc (.cells #[.int .i64 e0] 3 (0, 0)) = w7 at *
        generalize w6.heap.size = ke at *
        by_cases h2 : b0 = 2
        · have h2i : ((b0 : Int) == 2) = true := by simp [h2]
          have HNO := Lib.hid (HTWO.out h2)
          clear h2 HTWO HFOL HBAD HOKK
          go_wp2
          go_ret2
          rw [HNO.out]
          exact ⟨HN7.out, HD7.out, HO.out, rfl⟩
        · have h2i : ((b0 : Int) == 2) = false := by simp; omega
          cases hf : fol nb true 0 L0 with
          | none =>
            have HNO := Lib.hid (HFOL.out h2 hf)
            have HFO := Lib.hid (show Calls Try.prog 70 #[.pointer (some ⟨jg, 0, none⟩), v6] w7 fun e w' => Only jg w7 w' ∧ e = .returned (.bool false) from
              (follow_j jg g wt.heap.size ⟨nb, tx, [], false⟩ v6 L0 _ hf (by omega) (fun x hx => by have := HS0.out.2.1 x hx; omega) hbs w7 HJ7.out HW7.out (by omega)).mono (fun e w' hp => ⟨hp.1, by
                rcases hp.2 with ⟨_, h⟩ | ⟨_, _, h, _⟩
                · exact h
                · cases h⟩))
            clear hf h2 HTWO HFOL HBAD HOKK
            have c7 := HB7.out
            unfold Box at c7
            go_wp2_with (go_at_call 70; refine (HFO.out).mono ?_; rintro e w8 ⟨ho8, rfl⟩)
            go_ret2
            rw [HNO.out]
            exact ⟨HN7.out.fresh (Two.of2 ho8) (Nat.le_of_eq HJS.out), DiskAt.grown HD7.out ho8 (fun e => by simp only [Option.some.injEq] at e; omega), HO.out, rfl⟩
          | some rs =>
            have HBD := Lib.hid (fun h4 => HBAD.out rs h2 hf h4)
            have HOK2 := Lib.hid (fun h4 => HOKK.out rs h2 hf h4)
            have HFO := Lib.hid (show Calls Try.prog 70 #[.pointer (some ⟨jg, 0, none⟩), v6] w7 fun e w' => Only jg w7 w' ∧ e = .returned (.bool true) ∧ ∃ v', JAt w' jg g v' ⟨nb, tx, rs, false⟩ ∧ w'.ownsRow w7.heap.size 9 1 v' rs.length (strs rs) from
              (follow_j jg g wt.heap.size ⟨nb, tx, [], false⟩ v6 L0 _ hf (by omega) (fun x hx => by have := HS0.out.2.1 x hx; omega) hbs w7 HJ7.out HW7.out (by omega)).mono (fun e w' hp => ⟨hp.1, by
                rcases hp.2 with ⟨h, _⟩ | ⟨rs2, v2, h, he, hj, hw⟩
                · cases h
                · cases h; exact ⟨he, v2, hj, hw⟩⟩))
            clear hf h2 HTWO HFOL HBAD HOKK
            have c7 := HB7.out
            unfold Box at c7
            go_upto_region 17 with (go_at_call 70; refine (HFO.out).mono ?_; rintro e w8 ⟨ho8, rfl, v8, hj8, hw8⟩)
            have HN8 := Lib.hid (HN7.out.fresh (Two.of2 ho8) (Nat.le_of_eq HJS.out))
            have HD8 := Lib.hid (DiskAt.grown HD7.out ho8 (fun e => by simp only [Option.some.injEq] at e; omega))
            have HB8 := Lib.hid (HB7.out.only ho8 (by omega))
            have HE8 := Lib.hid (HE7.out.only ho8 (by have := HKE.out; omega))
            have HW8 := Lib.hid (own_mono hw8 HK7.out)
            have hk8 : ke < w8.heap.size := block_lt_of_cell (show w8.cell? ⟨ke, 0, none⟩ = some _ from HE8.out)
            have hba := (Below.refl w8.heap.size w8).alloc (Nat.le_refl _) (.cells #[.func (.func 72) #[] #[.pointer (some ⟨jg + 1, 0, none⟩), .pointer (some ⟨ke, 0, none⟩)], .func (.func 74) #[] #[.pointer (some ⟨jg + 1, 0, none⟩)]] 95 (0, 0))
            have hc9 := heap_alloc_new w8 (.cells #[.func (.func 72) #[] #[.pointer (some ⟨jg + 1, 0, none⟩), .pointer (some ⟨ke, 0, none⟩)], .func (.func 74) #[] #[.pointer (some ⟨jg + 1, 0, none⟩)]] 95 (0, 0))
            have HN9 := Lib.hid (HN8.out.trans (Only.of_below hba))
            have HJ9 := Lib.hid (hj8.below hba)
            have HD9 := Lib.hid (HD8.out.below hba)
            have HB9 := Lib.hid (show Box (w8.alloc (.cells #[.func (.func 72) #[] #[.pointer (some ⟨jg + 1, 0, none⟩), .pointer (some ⟨ke, 0, none⟩)], .func (.func 74) #[] #[.pointer (some ⟨jg + 1, 0, none⟩)]] 95 (0, 0))) (jg + 1) _ from kept_at hba HB8.out)
            have HE9 := Lib.hid (show Box (w8.alloc (.cells #[.func (.func 72) #[] #[.pointer (some ⟨jg + 1, 0, none⟩), .pointer (some ⟨ke, 0, none⟩)], .func (.func 74) #[] #[.pointer (some ⟨jg + 1, 0, none⟩)]] 95 (0, 0))) ke _ from kept_at hba HE8.out)
            have HW9 := Lib.hid (show (w8.alloc (.cells #[.func (.func 72) #[] #[.pointer (some ⟨jg + 1, 0, none⟩), .pointer (some ⟨ke, 0, none⟩)], .func (.func 74) #[] #[.pointer (some ⟨jg + 1, 0, none⟩)]] 95 (0, 0))).ownsRow (jg + 1) 9 1 v8 rs.length (strs rs) from HW8.out.alloc _)
            have c8 := HB8.out
            unfold Box at c8
            clear c7 hba ho8 hj8 hw8 HN7 HJ7 HD7 HB7 HE7 HW7 HK7 HFO
            go_wp2_with fail
            have hstep := steps_any jg g w8.heap.size v8 ⟨nb, tx, rs, false⟩ d HO.out [⟨72, #[.pointer (some ⟨jg + 1, 0, none⟩), .pointer (some ⟨ke, 0, none⟩)], fun d => cutx 0 e0 d⟩, ⟨74, #[.pointer (some ⟨jg + 1, 0, none⟩)], fun d => cutx 2 0 d⟩] (by omega) (by have := HKE.out; omega) _ HJ9.out HD9.out hc9 (by simp) (by
              intro c hc
              simp only [List.mem_cons, List.not_mem_nil, or_false] at hc
              rcases hc with rfl | rfl
              · exact does_trim jg g (jg + 1) ke _ _ e0 _ HB9.out (by omega) HE9.out (by have := HKE.out; omega) HJ9.out (by omega)
              · exact does_clear2 jg g (jg + 1) _ _ _ HB9.out (by omega) HJ9.out (by omega))
            rw [show runSteps [⟨72, #[.pointer (some ⟨jg + 1, 0, none⟩), .pointer (some ⟨ke, 0, none⟩)], fun d => cutx 0 e0 d⟩, ⟨74, #[.pointer (some ⟨jg + 1, 0, none⟩)], fun d => cutx 2 0 d⟩] d = opS e0 d from runF_steps _ _] at hstep
            have HST := Lib.hid hstep
            clear hstep hc9 c8 HJ9 HD9 HE9 HN8 HD8 HB8 HE8 HW8
            generalize opS e0 d = o at *
            obtain ⟨code, dk⟩ := o
            dsimp only at HST HBD HOK2
            generalize w8.alloc (.cells #[.func (.func 72) #[] #[.pointer (some ⟨jg + 1, 0, none⟩), .pointer (some ⟨ke, 0, none⟩)], .func (.func 74) #[] #[.pointer (some ⟨jg + 1, 0, none⟩)]] 95 (0, 0)) = w9 at *
            refine (HST.out).mono ?_
            rintro e w10 ⟨rfl, hd10, hok10, hj10, ht10⟩
            have c10 : w10.cell? ⟨jg + 1, 0, none⟩ = some (.pointer (some ⟨jg, 0, none⟩)) := by
              have h := HB9.out
              unfold Box at h
              unfold World.cell? at h ⊢
              rw [ht10.block (jg + 1) (by exact block_lt_of_cell (show w9.cell? ⟨jg + 1, 0, none⟩ = some _ from HB9.out)) (by omega) (by omega)]
              exact h
            have HN10 := Lib.hid (HN9.out.fresh ht10 (Nat.le_of_eq HJS.out))
            have HW10 := Lib.hid (own_two HW9.out ht10 (by omega) (by omega))
            have HD10 := Lib.hid hd10
            have HO10 := Lib.hid hok10
            have HJ10 := Lib.hid hj10
            clear hd10 hok10 hj10 ht10 HB9 HN9 HW9 HST
            by_cases hz : code = 0
            · subst hz
              have HNO := Lib.hid (HOK2.out rfl)
              clear HOK2 HBD
              go_wp2
              go_ret2
              rw [HNO.out, HJS.out]
              exact ⟨HN10.out, HD10.out, HO10.out, rfl, v8, ⟨HJ10.out, HD10.out, HO10.out, HW10.out⟩⟩
            · have hz1 : (code != 0) = true := by simpa using hz
              have HNO := Lib.hid (HBD.out hz)
              clear HOK2 HBD hz
              go_wp2
              go_ret2
              rw [HNO.out]
              exact ⟨HN10.out, HD10.out, HO10.out, rfl⟩
    · have HNO := Lib.hid (HSM.out hone)
      have h0 : ¬ ((L1.length : Int) != 1) = true ∨ ((L1.length : Int) != 1) = true := by
        cases ((L1.length : Int) != 1) <;> simp
      rcases h0 with h0 | h0
      · have h0f : ((L1.length : Int) != 1) = false := by simpa using h0
        have hb1 : ((b1 : Int) != 0) = true := by
          have : (L1.length : Int) = 1 := by simpa using h0f
          have h3 : b1 ≠ 0 := fun e => hone ⟨by omega, e⟩
          simpa using h3
        clear hone h0
        go_wp2
        go_ret2
        rw [HNO.out]
        exact ⟨HN5.out, HD5.out, HO.out, rfl⟩
      · clear hone
        go_wp2
        go_ret2
        rw [HNO.out]
        exact ⟨HN5.out, HD5.out, HO.out, rfl⟩
end Go.Proofs.Ytdphnhgogokidaa
