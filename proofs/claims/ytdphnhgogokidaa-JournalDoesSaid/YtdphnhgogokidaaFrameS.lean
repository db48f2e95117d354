/- The walk of the document's scan (nostroref04.Scan): the same records, places and words as the program's. -/
import Derived.Test.YtdphnhgogokidaaFrameR
namespace Go.Proofs.Ytdphnhgogokidaa
open Go.RowKit

theorem rcheck_part (s : ByteArray) (k n : Nat) (hr : s.size ≤ 1099511627776) (w : World) :
    Calls Try.prog 34 #[.string (s.extract (k + 8) (k + 8 + n))] w fun e w' => e = .returned (.int .u32 (Crc.check (((s.data.toList.drop k).drop 8).take n) : Nat)) ∧ w = w' := by
  have h := rcheck_any (s.extract (k + 8) (k + 8 + n)) (by simp; omega) w
  rw [extract_part, List.drop_take, show k + 8 + n - (k + 8) = n from by omega] at h
  rw [List.drop_drop]
  exact h
theorem rnumber_part (s : ByteArray) (k : Nat) (h : k + 8 ≤ s.size) (hs : s.size ≤ 1099511627776) (w : World) :
    Calls Try.prog 65 #[.string s, .int .i64 ((k : Int) + 4)] w fun e w' => e = .returned (.int .i64 (rd (((s.data.toList.drop k).drop 4).take 4) : Nat)) ∧ ∃ n, w' = w.drewN n := by
  have h := rnumber_any s (k + 4) (by omega) hs w
  rw [List.drop_drop]
  exact h
theorem below_drewN {B : Nat} {a w : World} (h : Below B a w) (n : Nat) : Below B a (w.drewN n) := ⟨h.os, h.tape, h.output, h.size, h.block⟩
theorem rstr_part (s : ByteArray) (k n : Nat) : Value.string (s.extract (k + 8) (k + 8 + n)) = .string ⟨(((s.data.toList.drop k).drop 8).take n).toArray⟩ := by
  congr 1
  apply ByteArray.ext
  apply Array.ext'
  rw [extract_part, List.drop_take, show k + 8 + n - (k + 8) = n from by omega, List.drop_drop]
theorem rhown_next {B : Nat} {v : Value} {w : World} {acc : List (List UInt8)} {s : ByteArray} {k n : Nat} (h : w.ownsRow B 9 1 v (acc.length + 1) (strs acc ++ [.string (s.extract (k + 8) (k + 8 + n))])) :
    w.ownsRow B 9 1 v (acc ++ [((s.data.toList.drop k).drop 8).take n]).length (strs (acc ++ [((s.data.toList.drop k).drop 8).take n])) := by
  rw [rstr_part] at h
  simpa [strs] using h
set_option maxRecDepth 100000 in
set_option maxHeartbeats 1000000 in
theorem rscan_any (s : ByteArray) (hs : s.size ≤ 1099511627776) (w : World) :
    Calls Try.prog 32 #[.string s] w fun e w' => ∃ v, e = .returned (.tuple #[v, .int .i64 (scan s.data.toList).2.1, .int .i64 (scan s.data.toList).2.2]) ∧
      w'.ownsRow w.heap.size 9 1 v (scan s.data.toList).1.length (strs (scan s.data.toList).1) ∧ Below w.heap.size w w' := by
  go_enter Try.func32, Try.ntmps32
  go_wp2
  go_loopw [5, 6] (fun v i wr => ∃ (acc : List (List UInt8)) (k : Nat), i = .int .i64 k ∧ Scanned s.data.toList acc k ∧ wr.ownsRow w.heap.size 9 1 v acc.length (strs acc) ∧ Below w.heap.size w wr) (fun _ i _ => s.size - (intOf i).toNat)
  case atStart =>
    refine ⟨[], 0, rfl, ⟨by omega, by simp, by simp⟩, ⟨rfl, .inr ⟨w.heap.size, 0, #[], rfl, Nat.le_refl _, heap_alloc_new _ _, Nat.le_refl _, by unfold maxLen; omega, rfl, rfl⟩⟩, (Below.refl _ _).alloc (Nat.le_refl _) _⟩
  case round =>
    obtain ⟨acc, k, rfl, hsc, hown, hbel⟩ := hrel
    have hk := hsc.1
    have hn8 : 8 * acc.length ≤ k := hsc.2.1
    have HS := Lib.hid hsc
    clear hsc
    have hkk : k ≤ s.size := by simpa using hk
    clear hk
    have hdl : (s.data.toList.drop k).length = s.size - k := by simp
    have HDL := Lib.hid hdl
    clear hdl
    by_cases h0 : k < s.size
    · have e0 : ((s.size : Int) - (k : Int) == 0) = false := by rw [beq_eq_false_iff_ne]; omega
      by_cases h8 : s.size - k < 8
      · go_wp2
        go_ret3
        exact ret_scan (scan_exit HS.out (scan_short (by rw [HDL.out]; omega) (by rw [HDL.out]; omega))) hown hbel
      · have hk8 : k + 8 ≤ s.size := by omega
        have c1 := fun wx => rnumber_any s k (by omega) hs wx
        have c2 := fun n wx => rcheck_part s k n hs wx
        have c3 := fun wx => rnumber_part s k hk8 hs wx
        have f1 := fun h => scan_exit HS.out (scan_big (l := s.data.toList.drop k) (by rw [HDL.out]; omega) h)
        have f2 := fun h1 h2 => scan_exit HS.out (scan_torn (l := s.data.toList.drop k) (by rw [HDL.out]; omega) h1 h2)
        have f3 := fun h1 h2 h3 => scan_bad (l := s.data.toList.drop k) (by rw [HDL.out]; omega) h1 h2 h3
        have f4 := fun h1 h2 h3 => scanned_next HS.out (by rw [HDL.out]; omega) h1 h2 h3
        have f5 := fun (n : Nat) (B : Nat) (v : Value) (wx : World) h => rhown_next (B := B) (v := v) (w := wx) (acc := acc) (s := s) (k := k) (n := n) h
        have f6 := Crc.check_lt (((s.data.toList.drop k).drop 8).take (rd ((s.data.toList.drop k).take 4)))
        have c2' := c2 (rd ((s.data.toList.drop k).take 4))
        have f5' := f5 (rd ((s.data.toList.drop k).take 4))
        clear c2 f5
        rw [HDL.out] at f2 f3 f4
        generalize ((s.data.toList.drop k).drop 8).take (rd ((s.data.toList.drop k).take 4)) = rec at *
        generalize rd (((s.data.toList.drop k).drop 4).take 4) = D at *
        generalize rd ((s.data.toList.drop k).take 4) = n at *
        have hc := f6
        obtain ⟨C, hC⟩ : ∃ C, C = Crc.check rec := ⟨_, rfl⟩
        rw [← hC] at hc f3 f4 c2'
        have C1 := Lib.hid c1
        have C2 := Lib.hid c2'
        have C3 := Lib.hid c3
        have F1 := Lib.hid f1
        have F2 := Lib.hid f2
        have F3 := Lib.hid f3
        have F4 := Lib.hid f4
        have F5 := Lib.hid f5'
        clear c1 c2' c3 f1 f2 f3 f4 f5' f6 hC
        by_cases hn : 65536 < n
        · go_wp2_with (go_at_call 65; refine (C1.out _).mono ?_; rintro e w' ⟨rfl, n, rfl⟩)
          go_ret3
          exact ret_scan (F1.out hn) hown (below_drewN hbel _)
        · have hn2 : (n : Int) ≤ 65536 := by omega
          have HN := Lib.hid hn
          clear hn
          by_cases hl : s.size - k < 8 + n
          · go_wp2_with (go_at_call 65; refine (C1.out _).mono ?_; rintro e w' ⟨rfl, n, rfl⟩)
            go_ret3
            exact ret_scan (F2.out HN.out hl) hown (below_drewN hbel _)
          · go_wp2_with fail
            refine (C1.out _).mono ?_
            rintro e w' ⟨rfl, n1, rfl⟩
            go_wp2_with fail
            refine (C2.out _).mono ?_
            rintro e w' ⟨rfl, rfl⟩
            go_wp2_with fail
            refine (C3.out _).mono ?_
            rintro e w' ⟨rfl, n2, rfl⟩
            have hown2 : ((wr.drewN n1).drewN n2).ownsRow w.heap.size 9 1 u5 acc.length (strs acc) := hown
            have hbel2 : Below w.heap.size w ((wr.drewN n1).drewN n2) := below_drewN (below_drewN hbel _) _
            generalize (wr.drewN n1).drewN n2 = wq at *
            clear hown hbel
            by_cases hcd : C = D
            · have hcd2 : ((C : Int) != (D : Int)) = false := by simp [hcd]
              have HC := Lib.hid hcd
              clear hcd
              obtain ⟨i0, hi, hz0, hz1, hz2⟩ := info_parts infoStr
              have hb8 := hbel2.size
              go_wp2_with (at_builtin; refine wpList_append_own _ rfl (.tmp 60) (.tmp 62) 50 rfl w.heap.size 9 i0 (.string ByteArray.empty) 1 16 Try.underlying50 hi hz0 hz1 hz2 rfl (by decide) _ _ _ rfl (hown2.alloc _) ⟨wq.heap.size, 0, none⟩ 1 1 [.string (s.extract (k + 8) (k + 8 + n))] rfl rfl ?c1 ?c2 ?c3 ?c4 ?c5 ?_)
              case c1 => exact cell_one_new _ _ _
              case c2 => intro u hu; simp at hu; subst hu; rfl
              case c3 => unfold maxLen; omega
              case c4 => omega
              case c5 => have := hbel2.size; simp; omega
              intro v' w1 hown' hgrow _
              have hb3 := ((hbel2.alloc hbel2.size (.cells #[.string (s.extract (k + 8) (k + 8 + n))] 9)).grown hgrow (Nat.le_trans hbel2.size (by simp)) (fun k hk => ownBlock_ge hown2 hk))
              have hown3 := F5.out _ _ _ hown'
              clear hgrow hown' hown2 hbel2
              go_wp2
              go_roundw
              case rel => exact ⟨acc ++ [rec], k + (8 + n), by go_num, F4.out HN.out hl HC.out, hown3, hb3⟩
              case measure => simp [intOf]; omega
            · have hcd2 : ((C : Int) != (D : Int)) = true := by rw [bne_iff_ne]; omega
              have HC := Lib.hid hcd
              clear hcd
              have f3 := F3.out HN.out hl HC.out
              have G3 := Lib.hid f3
              clear f3
              by_cases hq : s.size - k = 8 + n
              · have hq2 : ((s.size : Int) - (k : Int) == 8 + (n : Int)) = true := by rw [beq_iff_eq]; omega
                have HQ := Lib.hid hq
                clear hq
                go_wp2
                go_ret3
                exact ret_scan (scan_exit HS.out (by rw [G3.out, if_pos HQ.out])) hown2 hbel2
              · have hq2 : ((s.size : Int) - (k : Int) == 8 + (n : Int)) = false := by rw [beq_eq_false_iff_ne]; omega
                have HQ := Lib.hid hq
                clear hq
                go_wp2
                go_ret3
                exact ret_scan (scan_exit HS.out (by rw [G3.out, if_neg HQ.out])) hown2 hbel2
    · obtain rfl : k = s.size := by omega
      have e0 : ((s.size : Int) - (s.size : Int) == 0) = true := by rw [beq_iff_eq]; omega
      go_wp2
      go_ret3
      exact ret_scan (scan_exit HS.out (by rw [List.drop_of_length_le (by simp)]; exact scan_nil rfl)) hown hbel
end Go.Proofs.Ytdphnhgogokidaa
