/- Walks of the frame package: a number of four bytes is read; the records of frames are told (Scan). -/
import Derived.Test.YtdphnhgogokidaaFrameA
import Derived.BigQuiet
import Derived.Deep.LoopGhost
import Derived.Deep.DeepCutAuto
import Derived.Deep.CutBlock
import Derived.Deep.RegionWith
import Derived.Lib.Strings
import Derived.Lib.IndexBytes
namespace Go.Proofs.Ytdphnhgogokidaa
open Go.RowKit

/-- the number of bytes, the greatest first. -/
def rd (l : List UInt8) : Nat := l.foldl (fun n b => n * 256 + b.toNat) 0
theorem rd_snoc (l : List UInt8) (b : UInt8) : rd (l ++ [b]) = rd l * 256 + b.toNat := by simp [rd]
theorem rd_from (l : List UInt8) : ∀ n : Nat, l.foldl (fun n b => n * 256 + b.toNat) n + 1 ≤ (n + 1) * 256 ^ l.length := by
  induction l with
  | nil => intro n; simp
  | cons b l ih =>
    intro n
    have h := ih (n * 256 + b.toNat)
    have hb := b.toNat_lt
    simp only [List.foldl_cons, List.length_cons, Nat.pow_succ]
    refine Nat.le_trans h ?_
    have h2 : n * 256 + b.toNat + 1 ≤ (n + 1) * 256 := by omega
    calc (n * 256 + b.toNat + 1) * 256 ^ l.length ≤ ((n + 1) * 256) * 256 ^ l.length := Nat.mul_le_mul_right _ h2
      _ = (n + 1) * (256 ^ l.length * 256) := by rw [Nat.mul_assoc, Nat.mul_comm 256]
theorem rd_lt (l : List UInt8) : rd l < 256 ^ l.length := by
  have := rd_from l 0
  unfold rd
  omega
theorem or_walk (n b : Nat) (hn : n < 16777216) (hb : b < 256) : bits .or .u32 ((n : Int) * 256) (b : Int) = ((n * 256 + b : Nat) : Int) := by
  have h := u32_or_nat (n * 256) b (by omega) (by omega)
  rw [nat_join 8 (n * 256) b (by omega) (by omega)] at h
  rw [← h]; simp
set_option maxRecDepth 100000 in
set_option maxHeartbeats 400000 in
theorem read_any (s : ByteArray) (hs : 4 ≤ s.size) (w : World) :
    Calls Try.prog 64 #[.string s] w fun e w' => e = .returned (.int .u32 (rd (s.data.toList.take 4) : Nat)) ∧ w = w' := by
  go_enter Try.func64, Try.ntmps64
  go_wp2
  go_loop [3, 5] (fun c i => ∃ k : Nat, k ≤ 4 ∧ i = .int .i64 k ∧ ∃ x : Nat, rd (s.data.toList.take k) = x ∧ c = .int .u32 x) (fun _ i => 4 - (intOf i).toNat)
  case atStart => exact ⟨0, by omega, rfl, 0, rfl, rfl⟩
  case round =>
    obtain ⟨k, hk, rfl, x, hr, rfl⟩ := hrel
    by_cases hlt : k < 4
    · have hx : x < 16777216 := by
        rw [← hr]
        have h1 := rd_lt (s.data.toList.take k)
        have h2 : (s.data.toList.take k).length ≤ 3 := by simp; omega
        have h3 : 256 ^ (s.data.toList.take k).length ≤ 256 ^ 3 := Nat.pow_le_pow_right (by omega) h2
        omega
      have hR := Lib.hid hr
      clear hr
      have hk2 : k < s.size := by omega
      have hb := s[k].toNat_lt
      have ho := or_walk x s[k].toNat hx s[k].toNat_lt
      go_wp2
      go_round
      case rel =>
        refine ⟨k + 1, by omega, by go_num, x * 256 + s[k].toNat, ?_, rfl⟩
        rw [List.take_succ_eq_append_getElem (by simpa using hk2), rd_snoc, hR.out]
        rfl
      case measure => simp [intOf]; omega
    · obtain rfl : k = 4 := by omega
      have hR := Lib.hid hr
      clear hr
      go_wp2
      go_ret
      exact ⟨by rw [hR.out]; rfl, rfl⟩

/-- what stands in bytes: the records, how many bytes they take, and what is behind. -/
def scan (l : List UInt8) : List (List UInt8) × Nat × Nat :=
  if l.length = 0 then ([], 0, 0)
  else if l.length < 8 then ([], 0, 1)
  else
    let n := rd (l.take 4)
    if 65536 < n then ([], 0, 2)
    else if l.length < 8 + n then ([], 0, 1)
    else
      let b := (l.drop 8).take n
      if Crc.check b ≠ rd ((l.drop 4).take 4) then (if l.length = 8 + n then ([], 0, 1) else ([], 0, 2))
      else
        let r := scan (l.drop (8 + n))
        (b :: r.1, 8 + n + r.2.1, r.2.2)
  termination_by l.length
  decreasing_by simp only [List.length_drop]; omega
/-- what a part of the scan has come to. -/
def Scanned (l : List UInt8) (acc : List (List UInt8)) (at_ : Nat) : Prop :=
  at_ ≤ l.length ∧ 8 * acc.length ≤ at_ ∧ scan l = (acc ++ (scan (l.drop at_)).1, at_ + (scan (l.drop at_)).2.1, (scan (l.drop at_)).2.2)
def strs (rs : List (List UInt8)) : List Value := rs.map fun r => .string ⟨r.toArray⟩

theorem scan_exit {l : List UInt8} {acc : List (List UInt8)} {k t : Nat} (h : Scanned l acc k) (he : scan (l.drop k) = ([], 0, t)) : scan l = (acc, k, t) := by
  rw [h.2.2, he]; simp
theorem scan_nil {l : List UInt8} (h : l.length = 0) : scan l = ([], 0, 0) := by rw [scan, if_pos h]
theorem scan_short {l : List UInt8} (h0 : 0 < l.length) (h : l.length < 8) : scan l = ([], 0, 1) := by rw [scan, if_neg (by omega), if_pos h]
theorem scan_big {l : List UInt8} (h : 8 ≤ l.length) (hn : 65536 < rd (l.take 4)) : scan l = ([], 0, 2) := by
  rw [scan, if_neg (by omega), if_neg (by omega)]; simp only [if_pos hn]
theorem scan_torn {l : List UInt8} (h : 8 ≤ l.length) (hn : ¬ 65536 < rd (l.take 4)) (hl : l.length < 8 + rd (l.take 4)) : scan l = ([], 0, 1) := by
  rw [scan, if_neg (by omega), if_neg (by omega)]; simp only [if_neg hn, if_pos hl]
theorem scan_bad {l : List UInt8} (h : 8 ≤ l.length) (hn : ¬ 65536 < rd (l.take 4)) (hl : ¬ l.length < 8 + rd (l.take 4)) (hc : Crc.check ((l.drop 8).take (rd (l.take 4))) ≠ rd ((l.drop 4).take 4)) :
    scan l = if l.length = 8 + rd (l.take 4) then ([], 0, 1) else ([], 0, 2) := by
  rw [scan, if_neg (by omega), if_neg (by omega)]; simp only [if_neg hn, if_neg hl, if_pos hc]
theorem scan_one {l : List UInt8} (h : 8 ≤ l.length) (hn : ¬ 65536 < rd (l.take 4)) (hl : ¬ l.length < 8 + rd (l.take 4)) (hc : Crc.check ((l.drop 8).take (rd (l.take 4))) = rd ((l.drop 4).take 4)) :
    scan l = ((l.drop 8).take (rd (l.take 4)) :: (scan (l.drop (8 + rd (l.take 4)))).1, 8 + rd (l.take 4) + (scan (l.drop (8 + rd (l.take 4)))).2.1, (scan (l.drop (8 + rd (l.take 4)))).2.2) := by
  conv => lhs; rw [scan]
  rw [if_neg (by omega), if_neg (by omega)]; simp only [if_neg hn, if_neg hl, if_neg (show ¬ Crc.check ((l.drop 8).take (rd (l.take 4))) ≠ rd ((l.drop 4).take 4) from fun h => h hc)]
theorem scanned_next {l : List UInt8} {acc : List (List UInt8)} {k : Nat} (h : Scanned l acc k) (h8 : 8 ≤ (l.drop k).length) (hn : ¬ 65536 < rd ((l.drop k).take 4)) (hl : ¬ (l.drop k).length < 8 + rd ((l.drop k).take 4))
    (hc : Crc.check (((l.drop k).drop 8).take (rd ((l.drop k).take 4))) = rd (((l.drop k).drop 4).take 4)) :
    Scanned l (acc ++ [((l.drop k).drop 8).take (rd ((l.drop k).take 4))]) (k + (8 + rd ((l.drop k).take 4))) := by
  refine ⟨?_, ?_, ?_⟩
  · have := h.1; simp only [List.length_drop] at hl h8; omega
  · have := h.2.1; simp; omega
  · rw [h.2.2, scan_one h8 hn hl hc, List.drop_drop]
    simp [Nat.add_assoc]
theorem ret_scan {l : List UInt8} {acc : List (List UInt8)} {k t : Nat} {v : Value} {B : Nat} {w w' : World} (he : scan l = (acc, k, t)) (ho : w'.ownsRow B 9 1 v acc.length (strs acc)) (hb : Below B w w') :
    ∃ v', Ending.returned (.tuple #[v, .int .i64 k, .int .i64 t]) = .returned (.tuple #[v', .int .i64 (scan l).2.1, .int .i64 (scan l).2.2]) ∧ w'.ownsRow B 9 1 v' (scan l).1.length (strs (scan l).1) ∧ Below B w w' := by
  rw [he]; exact ⟨v, rfl, ho, hb⟩
theorem extract_tail (s : ByteArray) (k : Nat) : (s.extract k s.size).size = s.size - k ∧ (s.extract k s.size).data.toList = s.data.toList.drop k := by
  constructor
  · simp
  · simp [ByteArray.data_extract, Array.toList_extract, List.extract_eq_drop_take']
    rw [List.take_of_length_le (by simp)]
theorem extract_part (s : ByteArray) (i j : Nat) : (s.extract i j).data.toList = (s.data.toList.take j).drop i := by
  simp [ByteArray.data_extract, Array.toList_extract, List.extract_eq_drop_take']

theorem infoStr : (Try.prog.info? 9).map (fun i => (i.zero, i.size, i.bytes)) = some (some (.string ByteArray.empty), 1, 16) := by kernel_rfl
theorem ownBlock_ge {B e size n : Nat} {v : Value} {xs : List Value} {w : World} (h : w.ownsRow B e size v n xs) {k : Nat} (hk : v.ownBlock = some k) : B ≤ k := by
  rcases h.2 with ⟨rfl, _⟩ | ⟨g, cap, cur, rfl, hg, _⟩
  · simp [Value.ownBlock] at hk
  · simp [Value.ownBlock] at hk; omega
theorem str_part (r : ByteArray) (n : Nat) : Value.string (r.extract 8 (8 + n)) = .string ⟨((r.data.toList.drop 8).take n).toArray⟩ := by
  congr 1
  apply ByteArray.ext
  apply Array.ext'
  rw [extract_part, List.drop_take, show 8 + n - 8 = n from by omega]
theorem hown_next {B : Nat} {v : Value} {w : World} {acc : List (List UInt8)} {r : ByteArray} {n : Nat} (h : w.ownsRow B 9 1 v (acc.length + 1) (strs acc ++ [.string (r.extract 8 (8 + n))])) :
    w.ownsRow B 9 1 v (acc ++ [(r.data.toList.drop 8).take n]).length (strs (acc ++ [(r.data.toList.drop 8).take n])) := by
  rw [str_part] at h
  simpa [strs] using h
theorem check_part (r : ByteArray) (n : Nat) (hr : r.size ≤ 1099511627776) (w : World) :
    Calls Try.prog 33 #[.string (r.extract 8 (8 + n))] w fun e w' => e = .returned (.int .u32 (Crc.check ((r.data.toList.drop 8).take n) : Nat)) ∧ Below w.heap.size w w' := by
  have h := check_any (r.extract 8 (8 + n)) (by simp; omega) w
  rw [extract_part, List.drop_take, show 8 + n - 8 = n from by omega] at h
  exact h
theorem read_part (r : ByteArray) (hr : 8 ≤ r.size) (w : World) :
    Calls Try.prog 64 #[.string (r.extract 4 r.size)] w fun e w' => e = .returned (.int .u32 (rd ((r.data.toList.drop 4).take 4) : Nat)) ∧ w = w' := by
  have h := read_any (r.extract 4 r.size) (by simp; omega) w
  rw [(extract_tail r 4).2] at h
  exact h
theorem ownsRow_below {B e size n : Nat} {v : Value} {xs : List Value} {w w1 : World} (h : w.ownsRow B e size v n xs) (hb : Below w.heap.size w w1) : w1.ownsRow B e size v n xs := by
  refine ⟨h.1, ?_⟩
  rcases h.2 with h2 | ⟨g, cap, cur, hv, hg, hh, r⟩
  · exact .inl h2
  · exact .inr ⟨g, cap, cur, hv, hg, by rw [hb.block g (Array.getElem?_eq_some_iff.1 hh).1]; exact hh, r⟩
set_option maxRecDepth 100000 in
set_option maxHeartbeats 1000000 in
theorem scan_any (s : ByteArray) (hs : s.size ≤ 1099511627776) (w : World) :
    Calls Try.prog 31 #[.string s] w fun e w' => ∃ v, e = .returned (.tuple #[v, .int .i64 (scan s.data.toList).2.1, .int .i64 (scan s.data.toList).2.2]) ∧
      w'.ownsRow w.heap.size 9 1 v (scan s.data.toList).1.length (strs (scan s.data.toList).1) ∧ Below w.heap.size w w' := by
  go_enter Try.func31, Try.ntmps31
  go_wp2
  go_step3
  go_wp2
  go_step3
  go_wp2
  go_loopw [5, 6, 7] (fun v i t wr => ∃ (acc : List (List UInt8)) (k : Nat), i = .int .i64 k ∧ t = .int .i64 0 ∧ Scanned s.data.toList acc k ∧ wr.ownsRow w.heap.size 9 1 v acc.length (strs acc) ∧ Below w.heap.size w wr) (fun _ i _ _ => s.size - (intOf i).toNat)
  case atStart => exact ⟨[], 0, rfl, rfl, ⟨by omega, by simp, by simp⟩, ⟨rfl, .inl ⟨rfl, rfl⟩⟩, Below.refl _ _⟩
  case round =>
    obtain ⟨acc, k, rfl, rfl, hsc, hown, hbel⟩ := hrel
    have hk := hsc.1
    have HS := Lib.hid hsc
    clear hsc
    have hkk : k ≤ s.size := by simpa using hk
    clear hk
    by_cases h0 : k < s.size
    · go_upto_region 5 with (fail)
      have hx := extract_tail s k
      generalize s.extract k s.size = r at *
      have hr1 := Lib.hid hx.1
      have hr2 := Lib.hid hx.2
      have hr3 : r.size ≤ 1099511627776 := by omega
      have hr4 : 0 < r.size := by omega
      clear hx
      by_cases h8 : r.size < 8
      · go_wp2
        rw [Exit.noGoto_ret]
        go_ret3
        exact ret_scan (scan_exit HS.out (by rw [← hr2.out]; exact scan_short (by simpa using hr4) (by simpa using h8))) hown hbel
      · have hlen : r.data.toList.length = r.size := by simp
        have HLEN := Lib.hid hlen
        clear hlen
        have hn0 : rd (r.data.toList.take 4) < 4294967296 := Nat.lt_of_lt_of_le (rd_lt _) (Nat.le_trans (Nat.pow_le_pow_right (by omega) (show _ ≤ 4 by simp; omega)) (by omega))
        by_cases hn : 65536 < rd (r.data.toList.take 4)
        · go_wp2_with (go_at_call 64; refine (read_any _ (by omega) _).mono ?_; rintro e w' ⟨rfl, rfl⟩)
          rw [Exit.noGoto_ret]
          go_ret3
          exact ret_scan (scan_exit HS.out (by rw [← hr2.out]; exact scan_big (by rw [HLEN.out]; omega) hn)) hown hbel
        · by_cases hl : r.size < 8 + rd (r.data.toList.take 4)
          · go_wp2_with (go_at_call 64; refine (read_any _ (by omega) _).mono ?_; rintro e w' ⟨rfl, rfl⟩)
            rw [Exit.noGoto_ret]
            go_ret3
            exact ret_scan (scan_exit HS.out (by rw [← hr2.out]; exact scan_torn (by rw [HLEN.out]; omega) hn (by rw [HLEN.out]; omega))) hown hbel
          · go_upto_region 12 with (go_at_call 64; refine (read_any _ (by omega) _).mono ?_; rintro e w' ⟨rfl, rfl⟩)
            go_cut [34] (fun t wx => t = .bool (((Crc.check ((r.data.toList.drop 8).take (rd (r.data.toList.take 4))) : Nat) : Int) != ((rd ((r.data.toList.drop 4).take 4) : Nat) : Int)) ∧ wx.ownsRow w.heap.size 9 1 u5 acc.length (strs acc) ∧ Below w.heap.size w wx)
            case first =>
              go_region_with (first
                | (go_at_call 33; refine (check_part _ _ hr3 _).mono ?_; rintro e w1 ⟨rfl, hb1⟩)
                | (go_at_call 64; refine (read_part _ ?_ _).mono ?_; (omega); rintro e w' ⟨rfl, rfl⟩))
              all_goals (go_wp2_with fail; go_meet; exact ⟨rfl, ownsRow_below hown.drew hb1, (hbel.drew).trans (hb1.mono hbel.drew.size)⟩)
            case rest =>
              obtain ⟨rfl, ho2, hb2⟩ := hcut
              by_cases hc : Crc.check ((r.data.toList.drop 8).take (rd (r.data.toList.take 4))) = rd ((r.data.toList.drop 4).take 4)
              · have hd : (((Crc.check ((r.data.toList.drop 8).take (rd (r.data.toList.take 4))) : Nat) : Int) != ((rd ((r.data.toList.drop 4).take 4) : Nat) : Int)) = false := by simp [hc]
                have HC := Lib.hid hc
                clear hc
                rw [hd]
                clear hd
                obtain ⟨i0, hi, hz0, hz1, hz2⟩ := info_parts infoStr
                have hb8 := hbel.size
                have hn8 : 8 * acc.length ≤ k := HS.out.2.1
                go_wp2_with (at_builtin; with_reducible refine wpList_append_own _ rfl (.tmp 47) (.tmp 51) 50 rfl w.heap.size 9 i0 (.string ByteArray.empty) 1 16 Try.underlying50 hi hz0 hz1 hz2 rfl (by decide) _ _ _ rfl (ho2.alloc _) ⟨wc.heap.size, 0, none⟩ 1 1 [.string (r.extract 8 (8 + rd (r.data.toList.take 4)))] rfl rfl ?c1 ?c2 ?c3 ?c4 ?c5 ?_)
                case c1 => exact cell_one_new _ _ _
                case c2 => intro u hu; simp at hu; subst hu; rfl
                case c3 => unfold maxLen; omega
                case c4 => omega
                case c5 => have := hb2.size; simp; omega
                intro v' w1 hown' hgrow _
                have hb3 := ((hb2.alloc hb2.size (.cells #[.string (r.extract 8 (8 + rd (r.data.toList.take 4)))] 9)).grown hgrow (Nat.le_trans hb2.size (by simp)) (fun k hk => ownBlock_ge ho2 hk))
                have hown2 := hown_next hown'
                clear hgrow hown' hown ho2 hbel hb2
                go_wp2
                go_roundw
                case rel =>
                  refine ⟨acc ++ [(r.data.toList.drop 8).take (rd (r.data.toList.take 4))], k + (8 + rd (r.data.toList.take 4)), by go_num, rfl, ?_, hown2, hb3⟩
                  have := scanned_next HS.out
                  rw [← hr2.out, HLEN.out] at this
                  exact this (by omega) hn hl HC.out
                case measure => simp [intOf]; omega
              · have hd : (((Crc.check ((r.data.toList.drop 8).take (rd (r.data.toList.take 4))) : Nat) : Int) != ((rd ((r.data.toList.drop 4).take 4) : Nat) : Int)) = true := by rw [bne_iff_ne]; omega
                have HC := Lib.hid hc
                clear hc
                rw [hd]
                clear hd
                have hbad := scan_bad (l := r.data.toList) (by rw [HLEN.out]; omega) hn (by rw [HLEN.out]; omega) HC.out
                have HBAD := Lib.hid hbad
                clear hbad
                by_cases hq : r.size = 8 + rd (r.data.toList.take 4)
                · have hq2 : ((r.size : Int) == 8 + (rd (r.data.toList.take 4) : Int)) = true := by rw [beq_iff_eq]; omega
                  have HQ := Lib.hid hq
                  clear hq
                  go_wp2
                  rw [Exit.noGoto_ret]
                  go_ret3
                  exact ret_scan (scan_exit HS.out (by rw [← hr2.out, HBAD.out]; first | rw [if_pos (by rw [HLEN.out]; exact HQ.out)] | rw [if_neg (by rw [HLEN.out]; exact HQ.out)])) ho2 hb2
                · have hq2 : ((r.size : Int) == 8 + (rd (r.data.toList.take 4) : Int)) = false := by rw [beq_eq_false_iff_ne]; omega
                  have HQ := Lib.hid hq
                  clear hq
                  go_wp2
                  rw [Exit.noGoto_ret]
                  go_ret3
                  exact ret_scan (scan_exit HS.out (by rw [← hr2.out, HBAD.out]; first | rw [if_pos (by rw [HLEN.out]; exact HQ.out)] | rw [if_neg (by rw [HLEN.out]; exact HQ.out)])) ho2 hb2
    · obtain rfl : k = s.size := by omega
      go_wp2
      rw [Exit.noGoto_ret]
      go_ret3
      exact ret_scan (scan_exit HS.out (by rw [List.drop_of_length_le (by simp)]; exact scan_nil rfl)) hown hbel
end Go.Proofs.Ytdphnhgogokidaa
