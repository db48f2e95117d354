/- The journal: a record is kept. -/
import Derived.Test.YtdphnhgogokidaaJourD
import Derived.Test.YtdphnhgogokidaaFrameV
import Derived.Deep.AppendLies
import Derived.Deep.RegionLaw
namespace Go.Proofs.Ytdphnhgogokidaa
open Go.RowKit

/-- a journal, its disk, its records' row. -/
structure Jour (w : World) (jg g B : Nat) (v : Value) (j : Jn) (d : Dk) : Prop where
  hj : JAt w jg g v j
  hd : DiskAt w g d
  ok : d.Ok
  ow : w.ownsRow B 9 1 v j.recs.length (strs j.recs)
/-- all stands but two blocks and a row. -/
structure Kp (g jg : Nat) (r : Option Nat) (w w' : World) : Prop where
  os : w'.os = w.os
  tape : w'.tape = w.tape
  output : w'.output = w.output
  size : w.heap.size ≤ w'.heap.size
  block : ∀ k, k < w.heap.size → k ≠ g → k ≠ jg → some k ≠ r → w'.heap[k]? = w.heap[k]?
theorem Kp.of_two {g jg : Nat} {r : Option Nat} {w w' : World} (h : Two g jg w w') : Kp g jg r w w' := ⟨h.os, h.tape, h.output, h.size, fun k hk h1 h2 _ => h.block k hk h1 h2⟩
theorem Kp.trans {g jg : Nat} {r r2 : Option Nat} {a b c : World} (h : Kp g jg r a b) (k : Kp g jg r2 b c) (hr : r2 = r ∨ ∀ x, r2 = some x → a.heap.size ≤ x) : Kp g jg r a c := by
  refine ⟨k.os.trans h.os, k.tape.trans h.tape, k.output.trans h.output, Nat.le_trans h.size k.size, fun x hx h1 h2 h3 => ?_⟩
  have e : some x ≠ r2 := by
    rcases hr with rfl | hr
    · exact h3
    · intro he; have := hr x he.symm; omega
  rw [k.block x (Nat.lt_of_lt_of_le hx h.size) h1 h2 e]
  exact h.block x hx h1 h2 h3
theorem own_two {w w' : World} {g jg B n : Nat} {v : Value} {xs : List Value} (h : w.ownsRow B 9 1 v n xs) (ht : Two g jg w w') (hg : g < B) (hj : jg < B) : w'.ownsRow B 9 1 v n xs := by
  refine ⟨h.1, ?_⟩
  rcases h.2 with hn | ⟨k, cap, cur, rfl, hb, hk, rest⟩
  · exact .inl hn
  · exact .inr ⟨k, cap, cur, rfl, hb, by rw [ht.block k (Array.getElem?_eq_some_iff.1 hk).1 (by omega) (by omega)]; exact hk, rest⟩
theorem own_form {w : World} {B n : Nat} {v : Value} {xs : List Value} (h : w.ownsRow B 9 1 v n xs) : ∃ a cap, v = .slice a n cap := by
  rcases h.2 with ⟨rfl, rfl⟩ | ⟨k, cap, cur, rfl, _⟩
  · exact ⟨_, _, rfl⟩
  · exact ⟨_, _, rfl⟩
theorem JAt.grown {w w' : World} {jg g : Nat} {v : Value} {j : Jn} {row : Option Nat} (h : JAt w jg g v j) (hg : w.grownBy w' row) (hne : some jg ≠ row) : JAt w' jg g v j := by
  have h2 := h.lt
  unfold JAt at h ⊢
  rw [hg.block jg h2 hne]; exact h
theorem JAt.set3 {w : World} {jg g : Nat} {v : Value} {j : Jn} (h : JAt w jg g v j) (u : Value) (rs : List (List UInt8)) : JAt (w.setCell ⟨jg, 3, none⟩ u) jg g u { j with recs := rs } := by
  unfold JAt at h ⊢
  rw [heap_setCell_same _ _ _ _ _ _ h]; rfl
theorem DiskAt.grown {w w' : World} {g : Nat} {d : Dk} {row : Option Nat} (h : DiskAt w g d) (hg : w.grownBy w' row) (hne : some g ≠ row) : DiskAt w' g d := by
  unfold DiskAt at h ⊢
  rw [hg.block g (Array.getElem?_eq_some_iff.1 h).1 hne]; exact h
theorem DiskAt.setj {w : World} {g jg : Nat} {d : Dk} (h : DiskAt w g d) (hne : g ≠ jg) (i : Nat) (u : Value) : DiskAt (w.setCell ⟨jg, i, none⟩ u) g d := by
  unfold DiskAt at h ⊢
  rw [heap_setCell_other _ _ _ _ hne]; exact h
theorem own_setj {w : World} {B n : Nat} {E : TypeId} {v : Value} {xs : List Value} {g : Nat} (h : w.ownsRow B E 1 v n xs) (hlt : g < B) (i : Nat) (x : Value) : (w.setCell ⟨g, i, none⟩ x).ownsRow B E 1 v n xs := by
  refine ⟨h.1, ?_⟩
  rcases h.2 with hn | ⟨g', cap, cur, rfl, hb2, hgg, rest⟩
  · exact .inl hn
  · exact .inr ⟨g', cap, cur, rfl, hb2, by rw [heap_setCell_other _ _ _ _ (by show g' ≠ g; omega)]; exact hgg, rest⟩
theorem Kp.grown {g jg : Nat} {r : Option Nat} {w w' : World} (h : w.grownBy w' r) : Kp g jg r w w' := ⟨h.os, h.tape, h.output, h.size, fun k hk _ _ h3 => h.block k hk h3⟩
theorem Kp.setj {g jg : Nat} {r : Option Nat} {a w : World} (h : Kp g jg r a w) (i : Nat) (u : Value) : Kp g jg r a (w.setCell ⟨jg, i, none⟩ u) := by
  refine ⟨h.os, h.tape, h.output, ?_, fun k hk h1 h2 h3 => ?_⟩
  · exact Nat.le_trans h.size (Nat.le_of_eq (by simp))
  · rw [heap_setCell_other _ _ _ _ h2]; exact h.block k hk h1 h2 h3
/-- what Append lays. -/
def recF (j : Jn) (b : List UInt8) : List UInt8 := frameOf (eight (j.base + j.recs.length + 1) ++ b)
def stA (f : List UInt8) (d : Dk) : Out := if (d.append 0 f).code = 0 then (if ((d.append 0 f).dk.sync 0).code = 0 then ⟨0, ((d.append 0 f).dk.sync 0).dk⟩ else (d.append 0 f).dk.sync 0) else d.append 0 f
def appJ (j : Jn) (d : Dk) (b : List UInt8) : Int × Jn × Dk :=
  if mayJ j b ≠ 0 then (mayJ j b, j, d)
  else if (stA (recF j b) d).code = 0 then (0, { j with recs := j.recs ++ [b] }, (stA (recF j b) d).dk) else ((stA (recF j b) d).code, { j with broken := brk j.broken (stA (recF j b) d).code }, (stA (recF j b) d).dk)
theorem appJ_no {j : Jn} {d : Dk} {b : List UInt8} (h : mayJ j b ≠ 0) : appJ j d b = (mayJ j b, j, d) := if_pos h
theorem appJ_ok {j : Jn} {d : Dk} {b : List UInt8} (h : mayJ j b = 0) (h2 : (stA (recF j b) d).code = 0) : appJ j d b = (0, { j with recs := j.recs ++ [b] }, (stA (recF j b) d).dk) := by
  unfold appJ; rw [if_neg (by simp [h]), if_pos h2]
theorem appJ_bad {j : Jn} {d : Dk} {b : List UInt8} (h : mayJ j b = 0) (h2 : (stA (recF j b) d).code ≠ 0) : appJ j d b = ((stA (recF j b) d).code, { j with broken := brk j.broken (stA (recF j b) d).code }, (stA (recF j b) d).dk) := by
  unfold appJ; rw [if_neg (by simp [h]), if_neg h2]
theorem mayJ_zero {j : Jn} {b : List UInt8} (h : mayJ j b = 0) : b.length ≤ 65528 ∧ j.broken = false := by
  unfold mayJ at h
  split at h
  · cases h
  · split at h
    · cases h
    · rename_i h1 h2
      exact ⟨by omega, by simpa using h2⟩
theorem Two.below' {g jg : Nat} {a w w' : World} (h : Two g jg a w) (hb : Below w.heap.size w w') : Two g jg a w' := h.trans (Two.of_below hb)
set_option maxRecDepth 100000 in
set_option maxHeartbeats 4000000 in
theorem append_j (jg g B : Nat) (v : Value) (j : Jn) (d : Dk) (b : List UInt8) (hb : (b.length : Int) ≤ 140737488355328) (hne : jg ≠ g) (hjB : jg < B) (hgB : g < B) (w : World) (hBw : B ≤ w.heap.size) (h : Jour w jg g B v j d) (hfit : (j.base : Int) + j.recs.length ≤ 9223372036854775806) (hrl : (j.recs.length : Int) ≤ 4000) :
    Calls Try.prog 43 #[.pointer (some ⟨jg, 0, none⟩), .string ⟨b.toArray⟩] w fun e w' => e = .returned (.int .i64 (appJ j d b).1) ∧ ∃ v', Jour w' jg g B v' (appJ j d b).2.1 (appJ j d b).2.2 ∧ Kp g jg v.ownBlock w w' ∧ (v'.ownBlock = v.ownBlock ∨ ∃ k, v'.ownBlock = some k ∧ w.heap.size ≤ k) := by
  have hbox := heap_alloc_new w (.cells #[.pointer (some ⟨jg, 0, none⟩)] 67 (0, 0))
  have hba := (Below.refl w.heap.size w).alloc (Nat.le_refl _) (.cells #[.pointer (some ⟨jg, 0, none⟩)] 67 (0, 0))
  have HH := Lib.hid h
  have HBX := Lib.hid (show Box (w.alloc (.cells #[.pointer (some ⟨jg, 0, none⟩)] 67 (0, 0))) w.heap.size (.pointer (some ⟨jg, 0, none⟩)) from (cell_of_row _ _ 0 _ _ _ hbox).trans rfl)
  have HJ1 := Lib.hid (h.hj.below hba)
  have HD1 := Lib.hid (h.hd.below hba)
  have HT1 := Lib.hid (show Two g jg w (w.alloc (.cells #[.pointer (some ⟨jg, 0, none⟩)] 67 (0, 0))) from Two.of_below hba)
  clear hbox hba h
  have hBw' : B ≤ w.heap.size := hBw
  go_enter Try.func43, Try.ntmps43
  go_wp2_with fail
  generalize w.alloc (.cells #[.pointer (some ⟨jg, 0, none⟩)] 67 (0, 0)) = w1 at *
  refine (mayj_any jg g v j b hb _ HJ1.out).mono ?_
  rintro e w2 ⟨rfl, rfl⟩
  by_cases hm : mayJ j b = 0
  · have hmz := mayJ_zero hm
    have HM := Lib.hid hm
    have HMZ := Lib.hid hmz
    have hc := HBX.out
    unfold Box at hc
    have hb2 : (b.length : Int) ≤ 65528 := by have := hmz.1; omega
    obtain ⟨va, vc, rfl⟩ := own_form HH.out.ow
    rw [hm]
    clear hm hmz
    go_wp2_with (go_at_call 45; refine (last_any jg g va vc j (by omega) _ HJ1.out).mono ?_; rintro e w3 ⟨rfl, n3, rfl⟩)
    have hw3 := drewN_below (Below.refl w2.heap.size w2) n3
    have HJ3 := Lib.hid (HJ1.out.below hw3)
    have HD3 := Lib.hid (HD1.out.below hw3)
    have HT3 := Lib.hid (HT1.out.below' hw3)
    have HB3 := Lib.hid (show Box (w2.drewN n3) w.heap.size _ from kept_at hw3 HBX.out)
    have HNB := Lib.hid (show ∀ wx, Calls Try.prog 76 #[.int .i64 ((j.base : Int) + j.recs.length + 1), .string ⟨b.toArray⟩] wx fun e w' => e = .returned (.string ⟨(eight (j.base + j.recs.length + 1) ++ b).toArray⟩) ∧ Below wx.heap.size wx w' from fun wx => by
      have h := numbered_any (j.base + j.recs.length + 1) (by omega) b hb wx
      rw [show ((j.base + j.recs.length + 1 : Nat) : Int) = (j.base : Int) + j.recs.length + 1 by omega] at h
      exact h)
    have HPT := Lib.hid (show ∀ wx, Calls Try.prog 29 #[.string ⟨(eight (j.base + j.recs.length + 1) ++ b).toArray⟩] wx fun e w' => e = .returned (.tuple #[.string ⟨(recF j b).toArray⟩, .int .i64 0]) ∧ Below wx.heap.size wx w' from fun wx => by
      have h := put_ok ⟨(eight (j.base + j.recs.length + 1) ++ b).toArray⟩ (by show (eight _ ++ b).length ≤ 65536; rw [List.length_append]; show 8 + b.length ≤ 65536; omega) wx
      exact h)
    have hFl : (recF j b).length ≤ 70000 := by
      unfold recF frameOf
      simp only [List.length_append]
      show 4 + 4 + (8 + b.length) ≤ 70000
      omega
    have HFL := Lib.hid hFl
    clear hFl hw3 HJ1 HD1 HT1 HBX hc
    generalize hF : recF j b = F at *
    have HF := Lib.hid hF
    clear hF
    generalize w2.drewN n3 = w3 at *
    refine (HNB.out _).mono ?_
    rintro e w4 ⟨rfl, hb4⟩
    go_wp2_with fail
    refine (HPT.out _).mono ?_
    rintro e w5 ⟨rfl, hb5⟩
    have HB5 := Lib.hid (show Box w5 w.heap.size _ from kept_at hb5 (kept_at hb4 HB3.out))
    have HJ5 := Lib.hid ((HJ3.out.below hb4).below hb5)
    have HD5 := Lib.hid ((HD3.out.below hb4).below hb5)
    have HT5 := Lib.hid ((HT3.out.below' hb4).below' hb5)
    clear hb4 hb5 HB3 HJ3 HD3 HT3 HNB HPT
    have c5 := HB5.out
    unfold Box at c5
    go_upto_region 5 with (fail)
    have hba := (Below.refl w5.heap.size w5).alloc (Nat.le_refl _) (.cells #[.string ⟨F.toArray⟩] 9 (0, 0))
    have HBF6 := Lib.hid (show Box (w5.alloc (.cells #[.string ⟨F.toArray⟩] 9 (0, 0))) w5.heap.size (.string ⟨F.toArray⟩) from (cell_of_row _ _ 0 _ _ _ (heap_alloc_new _ _)).trans rfl)
    have HB6 := Lib.hid (show Box (w5.alloc (.cells #[.string ⟨F.toArray⟩] 9 (0, 0))) w.heap.size _ from kept_at hba HB5.out)
    have HJ6 := Lib.hid (HJ5.out.below hba)
    have HD6 := Lib.hid (HD5.out.below hba)
    have HT6 := Lib.hid (HT5.out.below' hba)
    have hkf : w.heap.size < w5.heap.size := by have := HB5.out; unfold Box at this; exact block_lt_of_cell this
    have hs6 : (w5.alloc (.cells #[.string ⟨F.toArray⟩] 9 (0, 0))).heap.size = w5.heap.size + 1 := by simp
    have HS6 := Lib.hid hs6
    clear hba HB5 HJ5 HD5 HT5 c5 hs6
    generalize w5.alloc (.cells #[.string ⟨F.toArray⟩] 9 (0, 0)) = w6 at *
    generalize w5.heap.size = kf at *
    have c6 := HB6.out
    unfold Box at c6
    go_wp2_with fail
    have hba := (Below.refl w6.heap.size w6).alloc (Nat.le_refl _) (.cells #[.func (.func 82) #[] #[.pointer (some ⟨w.heap.size, 0, none⟩), .pointer (some ⟨kf, 0, none⟩)], .func (.func 83) #[] #[.pointer (some ⟨w.heap.size, 0, none⟩)]] 95 (0, 0))
    have HB7 := Lib.hid (show Box (w6.alloc (.cells #[.func (.func 82) #[] #[.pointer (some ⟨w.heap.size, 0, none⟩), .pointer (some ⟨kf, 0, none⟩)], .func (.func 83) #[] #[.pointer (some ⟨w.heap.size, 0, none⟩)]] 95 (0, 0))) w.heap.size _ from kept_at hba HB6.out)
    have HBF7 := Lib.hid (show Box (w6.alloc (.cells #[.func (.func 82) #[] #[.pointer (some ⟨w.heap.size, 0, none⟩), .pointer (some ⟨kf, 0, none⟩)], .func (.func 83) #[] #[.pointer (some ⟨w.heap.size, 0, none⟩)]] 95 (0, 0))) kf _ from kept_at hba HBF6.out)
    have HJ7 := Lib.hid (HJ6.out.below hba)
    have HD7 := Lib.hid (HD6.out.below hba)
    have HT7 := Lib.hid (HT6.out.below' hba)
    have hc7 := heap_alloc_new w6 (.cells #[.func (.func 82) #[] #[.pointer (some ⟨w.heap.size, 0, none⟩), .pointer (some ⟨kf, 0, none⟩)], .func (.func 83) #[] #[.pointer (some ⟨w.heap.size, 0, none⟩)]] 95 (0, 0))
    have HSZ := Lib.hid hkf
    clear hba HB6 HBF6 HJ6 HD6 HT6 c6
    generalize w6.alloc (.cells #[.func (.func 82) #[] #[.pointer (some ⟨w.heap.size, 0, none⟩), .pointer (some ⟨kf, 0, none⟩)], .func (.func 83) #[] #[.pointer (some ⟨w.heap.size, 0, none⟩)]] 95 (0, 0)) = w7 at *
    have hcb : w6.heap.size ≠ g := by have := HS6.out; omega
    have hstep := steps_any jg g w6.heap.size (.slice va j.recs.length vc) j d HH.out.ok [⟨82, #[.pointer (some ⟨w.heap.size, 0, none⟩), .pointer (some ⟨kf, 0, none⟩)], fun d => d.append 0 F⟩, ⟨83, #[.pointer (some ⟨w.heap.size, 0, none⟩)], fun d => d.sync 0⟩] hne hcb w7 HJ7.out HD7.out hc7 (by simp) (by
      intro c hc
      simp only [List.mem_cons, List.not_mem_nil, or_false] at hc
      rcases hc with rfl | rfl
      · exact does_append0 jg g w.heap.size kf _ j F (by have := HFL.out; omega) w7 HB7.out (by omega) HBF7.out (by omega) HJ7.out hne
      · exact does_sync0 jg g w.heap.size _ j w7 HB7.out (by omega) HJ7.out hne)
    rw [show runSteps [⟨82, #[.pointer (some ⟨w.heap.size, 0, none⟩), .pointer (some ⟨kf, 0, none⟩)], fun d => d.append 0 F⟩, ⟨83, #[.pointer (some ⟨w.heap.size, 0, none⟩)], fun d => d.sync 0⟩] d = stA F d from rfl] at hstep
    have HST := Lib.hid hstep
    clear hstep hc7 hcb
    generalize w6.heap.size = cb at *
    have HAB := Lib.hid (fun h2 => appJ_bad (d := d) HM.out (by rw [HF.out]; exact h2))
    have HAO := Lib.hid (fun h2 => appJ_ok (d := d) HM.out (by rw [HF.out]; exact h2))
    rw [HF.out] at HAB HAO
    generalize stA F d = o at *
    obtain ⟨code, dk⟩ := o
    dsimp only at HST HAB HAO
    refine (HST.out).mono ?_
    rintro e w8 ⟨rfl, hd8, hok8, hj8, ht8⟩
    have HT8 := Lib.hid (HT7.out.trans ht8)
    have HD8 := Lib.hid hd8
    have HO8 := Lib.hid hok8
    have HJ8 := Lib.hid hj8
    have HB8 := Lib.hid (show Box w8 w.heap.size _ by
      have h := HB7.out
      unfold Box at h ⊢
      unfold World.cell? at h ⊢
      rw [ht8.block w.heap.size (by have := block_lt_of_cell (show w7.cell? ⟨w.heap.size, 0, none⟩ = some _ from HB7.out); exact this) (by omega) (by omega)]
      exact h)
    clear hd8 hok8 hj8 ht8 HB7 HBF7 HJ7 HD7 HT7 HST
    by_cases hz : code = 0
    · subst hz
      have HA := Lib.hid (HAO.out rfl)
      clear HAB HAO
      have HBX8 := Lib.hid (show w8.cell? ⟨w.heap.size, 0, none⟩ = some (.pointer (some ⟨jg, 0, none⟩)) from HB8.out)
      have j3 := HJ8.out.c3
      have jf := HJ8.out.frozen 3
      have ho8 := own_two HH.out.ow HT8.out hgB hjB
      have hba := ((Below.refl w8.heap.size w8).alloc (Nat.le_refl _) (.cells #[.string ⟨b.toArray⟩] 9 (0, 0))).drew
      have HJa := Lib.hid (show JAt (w8.alloc (.cells #[.string ⟨b.toArray⟩] 9 (0, 0))).drew jg g _ _ from HJ8.out.below hba)
      have HOa := Lib.hid (show (w8.alloc (.cells #[.string ⟨b.toArray⟩] 9 (0, 0))).drew.ownsRow B 9 1 (.slice va j.recs.length vc) j.recs.length (strs j.recs) from ho8.alloc _)
      clear HM HMZ HFL HF HB8
      have hbx := HBX8.out
      go_upto_region 7 with (fail)
      obtain ⟨i0, hi, hz0, hz1, hz2⟩ := info_parts infoStr
      have HIS := Lib.hid (And.intro hi (And.intro hz0 (And.intro hz1 hz2)))
      have hgl := HJa.out.lt
      have hdl := (Array.getElem?_eq_some_iff.1 (HD8.out.below hba)).1
      have HDL := Lib.hid hdl
      have HGL := Lib.hid hgl
      have HBA := Lib.hid hba
      have HWS := Lib.hid HT8.out.size
      have j3a : (w8.alloc (.cells #[.string ⟨b.toArray⟩] 9 (0, 0))).cell? ⟨jg, 3, none⟩ = some (.slice va j.recs.length vc) := HJa.out.c3
      have hbxa : (w8.alloc (.cells #[.string ⟨b.toArray⟩] 9 (0, 0))).cell? ⟨w.heap.size, 0, none⟩ = some (.pointer (some ⟨jg, 0, none⟩)) := kept_at ((Below.refl w8.heap.size w8).alloc (Nat.le_refl _) (.cells #[.string ⟨b.toArray⟩] 9 (0, 0))) HBX8.out
      clear hi hz0 hz1 hz2 hgl hdl hba ho8
      go_region_law (first
        | (refine step_append_lies _ rfl (.tmp 35) (.tmp 37) 50 rfl B 9 i0 (.string ByteArray.empty) 1 16 Try.underlying50 HIS.out.1 HIS.out.2.1 HIS.out.2.2.1 HIS.out.2.2.2 rfl (by decide) (.slice va j.recs.length vc) j.recs.length (strs j.recs) ?_ HOa.out ⟨w8.heap.size, 0, none⟩ 1 1 [.string ⟨b.toArray⟩] ?_ rfl ?_ ?_ (by decide) ?_ ?_ (by have := HWS.out; have := HBA.out.size; omega) (w8.heap.size + 1) ?_ ?_
           · simp [Act.eval]
           · simp [Act.eval]
           · exact cell_one_new _ _ _
           · intro u hu; simp at hu; subst hu; rfl
           · unfold maxLen; omega
           · omega
           · simp
           intro g' cap' w1 hown' hgrow hgg hlt'
           have hjn : some jg ≠ (Value.slice va j.recs.length vc).ownBlock := fun e => by have := HOa.out.lt jg e.symm; omega
           have hgn : some g ≠ (Value.slice va j.recs.length vc).ownBlock := fun e => by have := HOa.out.lt g e.symm; omega
           have hj1 := HJa.out.grown hgrow hjn
           have hd1 := DiskAt.grown (HD8.out.below HBA.out) hgrow hgn
           have hbn : some w.heap.size ≠ (Value.slice va j.recs.length vc).ownBlock := fun e => by have := (HH.out.ow.lt w.heap.size e.symm).2; omega
           have yb := hgrow.cell (a := ⟨w.heap.size, 0, none⟩) (show (w8.alloc (.cells #[.string ⟨b.toArray⟩] 9 (0, 0))).drew.cell? ⟨w.heap.size, 0, none⟩ = _ from hbxa) hbn
           have y3 := hj1.c3
           have yf := hj1.frozen 3
           have HJ1 := Lib.hid hj1
           have HD1 := Lib.hid hd1
           have HK1 := Lib.hid (((Kp.of_two (r := (Value.slice va j.recs.length vc).ownBlock) (HT8.out.below' HBA.out)).trans (Kp.grown hgrow) (.inl rfl)))
           replace hown' := Lib.hid hown'
           replace hgg := Lib.hid hgg
           clear hj1 hd1 hgrow hjn hgn hbn hlt'))
      all_goals
        have HW1 := Lib.hid hown'.out
        have HJ9 := Lib.hid (HJ1.out.set3 (.slice (some ⟨g', 0, none⟩) (j.recs.length + 1) cap') (j.recs ++ [b]))
        have HD9 := Lib.hid (HD1.out.setj (jg := jg) (fun e => hne e.symm) 3 (.slice (some ⟨g', 0, none⟩) (j.recs.length + 1) cap'))
        have HO9 := Lib.hid (own_setj hown'.out hjB 3 (.slice (some ⟨g', 0, none⟩) (j.recs.length + 1) cap'))
        have HK9 := Lib.hid (HK1.out.setj 3 (.slice (some ⟨g', 0, none⟩) (j.recs.length + 1) cap'))
        clear HJ1 HD1 HK1 hown' HW1 yb y3 yf
        go_wp2
        go_ret
        rw [HA.out]
        refine ⟨rfl, .slice (some ⟨g', 0, none⟩) (j.recs.length + 1) cap', ⟨?_, HD9.out, HO8.out, ?_⟩, HK9.out, ?_⟩
        · have h := HJ9.out
          dsimp only at h ⊢
          rw [show brk j.broken 0 = j.broken by simp [brk]] at h
          exact h
        · have h := HO9.out
          dsimp only
          rw [List.length_append, show strs (j.recs ++ [b]) = strs j.recs ++ [Value.string ⟨b.toArray⟩] by simp [strs]]
          exact h
        · rcases hgg.out with h | h
          · exact .inl h.symm
          · exact .inr ⟨g', rfl, by have := HWS.out; omega⟩
    · have hz1 : (code == 0) = false := by simpa using hz
      have HA := Lib.hid (HAB.out hz)
      clear hz HAB HAO
      go_wp2
      go_ret
      rw [HA.out]
      exact ⟨rfl, _, ⟨HJ8.out, HD8.out, HO8.out, own_two HH.out.ow HT8.out hgB hjB⟩, Kp.of_two HT8.out, Or.inl rfl⟩
  · have hm2 : (mayJ j b != 0) = true := by simpa using hm
    have HA := Lib.hid (appJ_no (d := d) hm)
    clear hm
    generalize mayJ j b = m at *
    go_wp2
    go_ret
    rw [HA.out]
    exact ⟨rfl, v, ⟨HJ1.out, HD1.out, HH.out.ok, own_two HH.out.ow HT1.out hgB hjB⟩, Kp.of_two HT1.out, Or.inl rfl⟩
end Go.Proofs.Ytdphnhgogokidaa
