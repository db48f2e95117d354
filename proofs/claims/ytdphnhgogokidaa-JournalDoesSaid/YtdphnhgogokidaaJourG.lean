/- The journal: the records of a file behind a snapshot (follow). -/
import Derived.Test.YtdphnhgogokidaaJourF
import Derived.Deep.LoopGhost
namespace Go.Proofs.Ytdphnhgogokidaa
open Go.RowKit

theorem part_lt {s : List UInt8} {n : Nat} {t : List UInt8} (h : part s = some (n, t)) : (n : Int) ≤ 4611686018427387903 := by
  unfold part at h
  split at h
  · cases h
  · rename_i h8
    split at h
    · cases h
    · rename_i hb
      simp only [Option.some.injEq, Prod.mk.injEq] at h
      obtain ⟨rfl, _⟩ := h
      have e : s.take 8 = s.take 7 ++ [s[7]'(by omega)] := by rw [List.take_succ_eq_append_getElem (by omega)]
      rw [e, rd_snoc]
      have := (s[7]'(by omega)).toNat_lt
      omega
theorem partV_none {s : List UInt8} (h : part s = none) : partV s = .tuple #[.int .i64 0, .string ⟨#[]⟩, .bool false] := by unfold partV; rw [h]
theorem partV_some {s : List UInt8} {n : Nat} {t : List UInt8} (h : part s = some (n, t)) : partV s = .tuple #[.int .i64 n, .string ⟨t.toArray⟩, .bool true] := by unfold partV; rw [h]
/-- a number that may not stand there. -/
def badN (base : Nat) (f : Bool) (nx n : Nat) : Prop := n < 1 ∨ (f = true ∧ base + 1 < n) ∨ (f = false ∧ n ≠ nx)
instance (base : Nat) (f : Bool) (nx n : Nat) : Decidable (badN base f nx n) := by unfold badN; infer_instance
def fol (base : Nat) : Bool → Nat → List (List UInt8) → Option (List (List UInt8))
  | _, _, [] => some []
  | f, nx, b :: L =>
    match part b with
    | none => none
    | some (n, t) => if badN base f nx n then none else (fol base false (n + 1) L).map fun r => if base < n then t :: r else r
def folFrom (base : Nat) (L : List (List UInt8)) (k nx : Nat) : Option (List (List UInt8)) := fol base (k == 0) nx (L.drop k)
theorem fol_end {base : Nat} {L : List (List UInt8)} {nx : Nat} : folFrom base L L.length nx = some [] := by unfold folFrom; rw [List.drop_length]; rfl
theorem fol_at {base : Nat} {L : List (List UInt8)} {k nx : Nat} {x : List UInt8} (h : L[k]? = some x) : folFrom base L k nx = match part x with
    | none => none
    | some (n, t) => if badN base (k == 0) nx n then none else (folFrom base L (k + 1) (n + 1)).map fun r => if base < n then t :: r else r := by
  obtain ⟨hk, rfl⟩ := List.getElem?_eq_some_iff.1 h
  unfold folFrom
  rw [List.drop_eq_getElem_cons hk, fol]
  rfl
theorem fol_none {base : Nat} {L acc : List (List UInt8)} {k nx : Nat} {x : List UInt8} {R : Option (List (List UInt8))} (h : L[k]? = some x) (hR : R = (folFrom base L k nx).map (acc ++ ·)) (hp : part x = none) : R = none := by
  rw [hR, fol_at h, hp]; rfl
theorem fol_bad {base : Nat} {L acc : List (List UInt8)} {k nx n : Nat} {t x : List UInt8} {R : Option (List (List UInt8))} (h : L[k]? = some x) (hR : R = (folFrom base L k nx).map (acc ++ ·)) (hp : part x = some (n, t)) (hb : badN base (k == 0) nx n) : R = none := by
  rw [hR, fol_at h, hp]; simp only [if_pos hb]; rfl
theorem fol_more {base : Nat} {L acc : List (List UInt8)} {k nx n : Nat} {t x : List UInt8} {R : Option (List (List UInt8))} (h : L[k]? = some x) (hR : R = (folFrom base L k nx).map (acc ++ ·)) (hp : part x = some (n, t)) (hb : ¬ badN base (k == 0) nx n) (hn : base < n) :
    R = (folFrom base L (k + 1) (n + 1)).map ((acc ++ [t]) ++ ·) := by
  rw [hR, fol_at h, hp]; simp only [if_neg hb, if_pos hn, Option.map_map]
  congr 1
  funext r; simp
theorem fol_skip {base : Nat} {L acc : List (List UInt8)} {k nx n : Nat} {t x : List UInt8} {R : Option (List (List UInt8))} (h : L[k]? = some x) (hR : R = (folFrom base L k nx).map (acc ++ ·)) (hp : part x = some (n, t)) (hb : ¬ badN base (k == 0) nx n) (hn : ¬ base < n) :
    R = (folFrom base L (k + 1) (n + 1)).map (acc ++ ·) := by
  rw [hR, fol_at h, hp]; simp only [if_neg hb, if_neg hn, Option.map_map]
  rfl
theorem own_rows {w : World} {B : Nat} {v : Value} {L : List (List UInt8)} (h : w.ownsRow B 9 1 v L.length (strs L)) :
    ∃ al cl, v = .slice al L.length cl ∧ ∀ k x, L[k]? = some x → ∃ gl, al = some ⟨gl, 0, none⟩ ∧ B ≤ gl ∧ w.cell? ⟨gl, k, none⟩ = some (.string ⟨x.toArray⟩) := by
  rcases h.2 with ⟨rfl, h0⟩ | ⟨g, cap, cur, rfl, hg, hh, _⟩
  · exact ⟨none, 0, by rw [h0], fun k x hx => by have := (List.getElem?_eq_some_iff.1 hx).1; omega⟩
  · refine ⟨some ⟨g, 0, none⟩, cap, rfl, fun k x hx => ⟨g, rfl, hg, ?_⟩⟩
    have hk : k < L.length := (List.getElem?_eq_some_iff.1 hx).1
    rw [h.cellAt k (by omega)]
    simp [strs, hx]
theorem Only.grow {g : Nat} {a b c : World} {r : Option Nat} (h : Only g a b) (hg : b.grownBy c r) (hr : ∀ k, r = some k → a.heap.size ≤ k) : Only g a c :=
  ⟨hg.os.trans h.os, hg.tape.trans h.tape, hg.output.trans h.output, Nat.le_trans h.size hg.size, fun k hk hn => (hg.block k (Nat.lt_of_lt_of_le hk h.size) (fun e => by have := hr k e.symm; omega)).trans (h.block k hk hn)⟩
set_option maxRecDepth 100000 in
set_option maxHeartbeats 4000000 in
theorem follow_j (jg g Bl : Nat) (j : Jn) (lv : Value) (L : List (List UInt8)) (R : Option (List (List UInt8))) (hR : fol j.base true 0 L = R) (hL : (L.length : Int) ≤ 1099511627776) (hx : ∀ x ∈ L, (x.length : Int) ≤ 140737488355328) (hbase : (j.base : Int) ≤ 4611686018427387903)
    (w : World) (hj : JAt w jg g (.slice none 0 0) j) (hl : w.ownsRow Bl 9 1 lv L.length (strs L)) (hjl : jg < Bl) :
    Calls Try.prog 70 #[.pointer (some ⟨jg, 0, none⟩), lv] w fun e w' => Only jg w w' ∧ ((R = none ∧ e = .returned (.bool false)) ∨ ∃ rs v', R = some rs ∧ e = .returned (.bool true) ∧ JAt w' jg g v' { j with recs := rs } ∧ w'.ownsRow w.heap.size 9 1 v' rs.length (strs rs)) := by
  obtain ⟨al, cl, rfl, hc⟩ := own_rows hl
  have HC := Lib.hid hc
  have HX := Lib.hid hx
  have hlt0 := hj.lt
  have HJ0 := Lib.hid (show JAt w jg g (.slice none 0 0) { j with recs := [] } from hj)
  have HR0 := Lib.hid (show R = (folFrom j.base L 0 0).map ([] ++ ·) by rw [← hR]; unfold folFrom; simp)
  clear hc hx hj hl hR
  generalize hB : w.heap.size = B at *
  have HB := Lib.hid hB
  clear hB
  go_enter Try.func70, Try.ntmps70
  go_wp2_with fail
  go_loopw [5, 13] (fun nv iv wr => ∃ (k nx : Nat) (acc : List (List UInt8)) (v : Value), k ≤ L.length ∧ iv = .int .i64 k ∧ nv = .int .i64 nx ∧ (nx : Int) ≤ 4611686018427387904 ∧ acc.length ≤ k ∧ R = (folFrom j.base L k nx).map (acc ++ ·) ∧ JAt wr jg g v { j with recs := acc } ∧ wr.ownsRow B 9 1 v acc.length (strs acc) ∧ Only jg w wr) (fun _ iv _ => L.length - (intOf iv).toNat)
  case atStart => exact ⟨0, 0, [], .slice none 0 0, by omega, rfl, rfl, by omega, by simp, HR0.out, HJ0.out, World.ownsRow_nil _ _ _ _, Only.refl _ _⟩
  case round =>
    obtain ⟨k, nx, acc, v, hk, rfl, rfl, hnx, hac, hr, hj, how, hon⟩ := hrel
    have HR := Lib.hid hr
    have HJ := Lib.hid hj
    have HOW := Lib.hid how
    have HON := Lib.hid hon
    clear hr hj how hon HJ0 HR0
    by_cases hlt : k < L.length
    · have hki : (k : Int) < L.length := by omega
      obtain ⟨x, hx⟩ : ∃ x, L[k]? = some x := ⟨L[k], by simp [hlt]⟩
      have HK := Lib.hid hx
      obtain ⟨gl, rfl, hgl, hcl⟩ := HC.out k x hx
      have hxl := HX.out x (List.mem_of_getElem? hx)
      have hcr : wr.cell? ⟨gl, k, none⟩ = some (.string ⟨x.toArray⟩) := HON.out.cell hcl (by show gl ≠ jg; omega)
      have HP := Lib.hid (fun wx => parted_any x hxl wx)
      have c2 := HJ.out.c2
      dsimp only at c2
      clear hcl hx hxl
      cases hp : part x with
      | none =>
        have HNO := Lib.hid (fol_none HK.out HR.out hp)
        have HPV := Lib.hid (partV_none hp)
        clear hp
        go_wp2_with (go_at_call 69; refine (HP.out _).mono ?_; rintro e w3 ⟨rfl, n3, rfl⟩; rw [HPV.out])
        go_ret
        exact ⟨HON.out.drewN n3, .inl ⟨HNO.out, rfl⟩⟩
      | some q =>
        obtain ⟨n, t⟩ := q
        have HPT := Lib.hid hp
        have HPV := Lib.hid (partV_some hp)
        have hnl := part_lt hp
        have HBAD := Lib.hid (fun h => fol_bad HK.out HR.out HPT.out h)
        have HMORE := Lib.hid (fun h1 h2 => fol_more HK.out HR.out HPT.out h1 h2)
        have HSKIP := Lib.hid (fun h1 h2 => fol_skip HK.out HR.out HPT.out h1 h2)
        clear hp
        by_cases h1 : n < 1
        · have h1i : (n : Int) < 1 := by omega
          have HNO := Lib.hid (HBAD.out (Or.inl h1))
          clear HBAD HMORE HSKIP
          go_wp2_with (go_at_call 69; refine (HP.out _).mono ?_; rintro e w3 ⟨rfl, n3, rfl⟩; rw [HPV.out])
          go_ret
          exact ⟨HON.out.drewN n3, .inl ⟨HNO.out, rfl⟩⟩
        · have h1i : ¬ (n : Int) < 1 := by omega
          by_cases h0 : k = 0
          · subst h0
            by_cases h2 : j.base + 1 < n
            · have h2i : (j.base : Int) + 1 < n := by omega
              have HNO := Lib.hid (HBAD.out (Or.inr (Or.inl ⟨rfl, h2⟩)))
              clear HBAD HMORE HSKIP
              go_wp2_with (go_at_call 69; refine (HP.out _).mono ?_; rintro e w3 ⟨rfl, n3, rfl⟩; rw [HPV.out])
              go_ret
              exact ⟨HON.out.drewN n3, .inl ⟨HNO.out, rfl⟩⟩
            · have h2i : ¬ (j.base : Int) + 1 < n := by omega
              have hgood : ¬ badN j.base (0 == 0) nx n := fun hb => by rcases hb with h | ⟨_, h⟩ | ⟨h, _⟩; exact h1 h; exact h2 h; exact absurd h (by decide)
              by_cases hbn : j.base < n
              · have hbi : (j.base : Int) < n := by omega
                have HRN := Lib.hid (HMORE.out hgood hbn)
                have j3 := HJ.out.c3
                clear HBAD HMORE HSKIP hgood hbn
                go_upto_region 9 with (go_at_call 69; refine (HP.out _).mono ?_; rintro e w3 ⟨rfl, n3, rfl⟩; rw [HPV.out])
                obtain ⟨i0, hi, hz0, hz1, hz2⟩ := info_parts infoStr
                have hq := below_drewN (Below.refl wr.heap.size wr) n3
                have HJq := Lib.hid (HJ.out.below hq)
                have HOq := Lib.hid (show (wr.drewN n3).ownsRow B 9 1 v acc.length (strs acc) from HOW.out)
                have HONq := Lib.hid (HON.out.drewN n3)
                have j3q := HJq.out.c3
                clear hq j3 HJ HOW HON hcr c2 HP HPV
                generalize wr.drewN n3 = wq at *
                have HJa := Lib.hid (HJq.out.below ((Below.refl _ wq).alloc (Nat.le_refl _) (.cells #[.string ⟨t.toArray⟩] 9)))
                have HONa := Lib.hid (HONq.out.trans (Only.of_below ((Below.refl _ wq).alloc (Nat.le_refl _) (.cells #[.string ⟨t.toArray⟩] 9))))
                have hsz := HONq.out.size
                go_wp2_with (at_builtin; with_reducible refine wpList_append_lies _ rfl (.tmp 62) (.tmp 64) 50 rfl B 9 i0 (.string ByteArray.empty) 1 16 Try.underlying50 hi hz0 hz1 hz2 rfl (by decide) _ _ _ rfl (HOq.out.alloc _) ⟨wq.heap.size, 0, none⟩ 1 1 [.string ⟨t.toArray⟩] rfl rfl ?c1 ?c2 (by decide) ?c3 ?c4 ?c5 _ rfl ?_)
                case c1 => exact cell_one_new _ _ _
                case c2 => intro u hu; simp at hu; subst hu; rfl
                case c3 => unfold maxLen; omega
                case c4 => omega
                case c5 => have h1 := HB.out; simp; omega
                intro g' cap' w1 hown' hgrow _ _
                have hg1 := HJa.out.grown hgrow (fun e => by have h1 := HOq.out.lt jg e.symm; have h2 := HB.out; omega)
                have ho1 := HONa.out.grow hgrow (fun k hk => by have h1 := HOq.out.lt k hk; have h2 := HB.out; omega)
                have y3 := hg1.c3
                have yf := hg1.frozen 3
                have HJs := Lib.hid (hg1.set3 (.slice (some ⟨g', 0, none⟩) (acc.length + 1) cap') (acc ++ [t]))
                have HONs := Lib.hid (ho1.setCell 3 (.slice (some ⟨g', 0, none⟩) (acc.length + 1) cap'))
                have HOs := Lib.hid (own_setj hown' (by have h2 := HB.out; omega) 3 (.slice (some ⟨g', 0, none⟩) (acc.length + 1) cap'))
                clear hg1 ho1 hgrow hown' HJa HONa HJq HOq HONq j3q hi hz0 hz1 hz2
                go_wp2
                go_roundw
                case rel =>
                  refine ⟨0 + 1, n + 1, acc ++ [t], _, by omega, by go_num, by go_num, by omega, by rw [List.length_append]; exact Nat.succ_le_succ hac, HRN.out, HJs.out, ?_, HONs.out⟩
                  rw [List.length_append, show strs (acc ++ [t]) = strs acc ++ [Value.string ⟨t.toArray⟩] by simp [strs]]
                  exact HOs.out
                case measure => simp [intOf]; omega
              · have hbi : ¬ (j.base : Int) < n := by omega
                have HRN := Lib.hid (HSKIP.out hgood hbn)
                clear HBAD HMORE HSKIP hgood hbn
                go_wp2_with (go_at_call 69; refine (HP.out _).mono ?_; rintro e w3 ⟨rfl, n3, rfl⟩; rw [HPV.out])
                go_roundw
                case rel => exact ⟨0 + 1, n + 1, acc, v, by omega, by go_num, by go_num, by omega, by omega, HRN.out, HJ.out, HOW.out, HON.out.drewN n3⟩
                case measure => simp [intOf]; omega
          · have hk0 : ((k : Int) == 0) = false := by simpa using h0
            have hk1 : (0 : Int) < k := by omega
            have hkb : (k == 0) = false := by simpa using h0
            by_cases h2 : n = nx
            · have h2i : ((n : Int) != nx) = false := by simp [h2]
              have hgood : ¬ badN j.base (k == 0) nx n := fun hb => by rcases hb with h | ⟨h, _⟩ | ⟨_, h⟩; exact h1 h; exact absurd h (by rw [hkb]; decide); exact h h2
              by_cases hbn : j.base < n
              · have hbi : (j.base : Int) < n := by omega
                have HRN := Lib.hid (HMORE.out hgood hbn)
                have j3 := HJ.out.c3
                clear HBAD HMORE HSKIP hgood hbn
                go_upto_region 9 with (go_at_call 69; refine (HP.out _).mono ?_; rintro e w3 ⟨rfl, n3, rfl⟩; rw [HPV.out])
                obtain ⟨i0, hi, hz0, hz1, hz2⟩ := info_parts infoStr
                have hq := below_drewN (Below.refl wr.heap.size wr) n3
                have HJq := Lib.hid (HJ.out.below hq)
                have HOq := Lib.hid (show (wr.drewN n3).ownsRow B 9 1 v acc.length (strs acc) from HOW.out)
                have HONq := Lib.hid (HON.out.drewN n3)
                have j3q := HJq.out.c3
                clear hq j3 HJ HOW HON hcr c2 HP HPV
                generalize wr.drewN n3 = wq at *
                have HJa := Lib.hid (HJq.out.below ((Below.refl _ wq).alloc (Nat.le_refl _) (.cells #[.string ⟨t.toArray⟩] 9)))
                have HONa := Lib.hid (HONq.out.trans (Only.of_below ((Below.refl _ wq).alloc (Nat.le_refl _) (.cells #[.string ⟨t.toArray⟩] 9))))
                have hsz := HONq.out.size
                go_wp2_with (at_builtin; with_reducible refine wpList_append_lies _ rfl (.tmp 62) (.tmp 64) 50 rfl B 9 i0 (.string ByteArray.empty) 1 16 Try.underlying50 hi hz0 hz1 hz2 rfl (by decide) _ _ _ rfl (HOq.out.alloc _) ⟨wq.heap.size, 0, none⟩ 1 1 [.string ⟨t.toArray⟩] rfl rfl ?c1 ?c2 (by decide) ?c3 ?c4 ?c5 _ rfl ?_)
                case c1 => exact cell_one_new _ _ _
                case c2 => intro u hu; simp at hu; subst hu; rfl
                case c3 => unfold maxLen; omega
                case c4 => omega
                case c5 => have h1 := HB.out; simp; omega
                intro g' cap' w1 hown' hgrow _ _
                have hg1 := HJa.out.grown hgrow (fun e => by have h1 := HOq.out.lt jg e.symm; have h2 := HB.out; omega)
                have ho1 := HONa.out.grow hgrow (fun k hk => by have h1 := HOq.out.lt k hk; have h2 := HB.out; omega)
                have y3 := hg1.c3
                have yf := hg1.frozen 3
                have HJs := Lib.hid (hg1.set3 (.slice (some ⟨g', 0, none⟩) (acc.length + 1) cap') (acc ++ [t]))
                have HONs := Lib.hid (ho1.setCell 3 (.slice (some ⟨g', 0, none⟩) (acc.length + 1) cap'))
                have HOs := Lib.hid (own_setj hown' (by have h2 := HB.out; omega) 3 (.slice (some ⟨g', 0, none⟩) (acc.length + 1) cap'))
                clear hg1 ho1 hgrow hown' HJa HONa HJq HOq HONq j3q hi hz0 hz1 hz2
                go_wp2
                go_roundw
                case rel =>
                  refine ⟨k + 1, n + 1, acc ++ [t], _, by omega, by go_num, by go_num, by omega, by rw [List.length_append]; exact Nat.succ_le_succ hac, HRN.out, HJs.out, ?_, HONs.out⟩
                  rw [List.length_append, show strs (acc ++ [t]) = strs acc ++ [Value.string ⟨t.toArray⟩] by simp [strs]]
                  exact HOs.out
                case measure => simp [intOf]; omega
              · have hbi : ¬ (j.base : Int) < n := by omega
                have HRN := Lib.hid (HSKIP.out hgood hbn)
                clear HBAD HMORE HSKIP hgood hbn
                go_wp2_with (go_at_call 69; refine (HP.out _).mono ?_; rintro e w3 ⟨rfl, n3, rfl⟩; rw [HPV.out])
                go_roundw
                case rel => exact ⟨k + 1, n + 1, acc, v, by omega, by go_num, by go_num, by omega, by omega, HRN.out, HJ.out, HOW.out, HON.out.drewN n3⟩
                case measure => simp [intOf]; omega
            · have h2i : ((n : Int) != nx) = true := by simpa using (show ¬ (n : Int) = nx by omega)
              have HNO := Lib.hid (HBAD.out (Or.inr (Or.inr ⟨hkb, h2⟩)))
              clear HBAD HMORE HSKIP
              go_wp2_with (go_at_call 69; refine (HP.out _).mono ?_; rintro e w3 ⟨rfl, n3, rfl⟩; rw [HPV.out])
              go_ret
              exact ⟨HON.out.drewN n3, .inl ⟨HNO.out, rfl⟩⟩
    · obtain rfl : k = L.length := by omega
      have HRE := Lib.hid (show R = some acc by rw [HR.out, fol_end]; simp)
      go_wp2
      go_ret
      exact ⟨HON.out, .inr ⟨acc, v, HRE.out, rfl, HJ.out, HOW.out⟩⟩
end Go.Proofs.Ytdphnhgogokidaa
