/- The walk of FrameTurned: a byte of a record that is turned is found. -/
import Derived.Test.YtdphnhgogokidaaFrameBackW
import Derived.Lib.ConvBytes
namespace Go.Proofs.Ytdphnhgogokidaa.frameTurned
open Go.RowKit
open Go.Proofs.Ytdphnhgogokidaa.frameBack (slStr_take same_yes)

theorem u8_toNat (y : Nat) (h : y < 256) : ((UInt8.ofNat y).toNat) = y := by simp; omega
theorem turned_get (l : List UInt8) (p : Nat) (y : UInt8) (hp : p < l.length) (j : Nat) : (turned l p y)[j]? = if j = p then some (l.getD p 0 ^^^ y) else l[j]? := by
  unfold turned
  by_cases h1 : j < p
  · rw [List.getElem?_append_left (by simp; omega), List.getElem?_take, if_pos h1, if_neg (by omega)]
  · rw [List.getElem?_append_right (by simp; omega), List.length_take, Nat.min_eq_left (by omega)]
    by_cases h2 : j = p
    · subst h2; simp
    · rw [if_neg h2, show j - p = (j - p - 1) + 1 from by omega, List.getElem?_cons_succ, List.getElem?_drop]
      congr 1; omega
theorem store_bytes (w : World) (l : List UInt8) (p : Nat) (y : UInt8) (hp : p < l.length) :
    let W := (Lib.bytesWorld w 5 ⟨l.toArray⟩).setCell ⟨w.heap.size, p, none⟩ (.int .u8 ((l.getD p 0).toNat ^^^ y.toNat : Nat))
    (convert 62 9 (.slice (some ⟨w.heap.size, 0, none⟩) l.length (grownCap w l.length 0 5))).run Try.prog W = .ok (.string ⟨(turned l p y).toArray⟩) W := by
  intro W
  have hl := turned_length l p y hp
  have h := run_convert_bytes_back (P := Try.prog) W 62 9 5 ⟨w.heap.size, 0, none⟩ (grownCap w l.length 0 5) (turned l p y) Try.underlying62 Try.underlying5 Try.underlying9 (by
    intro j hj
    rw [WideShapes.add_plain, Nat.zero_add]
    have hc := fun j (hj : j < l.length) => Lib.bytesWorld_cell w 5 ⟨l.toArray⟩ j (by rw [ByteArray.size]; simpa using hj)
    have hg := turned_get l p y hp j
    rw [List.getElem?_eq_getElem hj] at hg
    by_cases h2 : j = p
    · subst h2
      rw [if_pos rfl] at hg
      rw [Option.some.inj hg, World.cell?_setCell_same _ _ _ (hc j hp), UInt8.toNat_xor]
    · rw [if_neg h2, List.getElem?_eq_getElem (by omega)] at hg
      rw [World.cell?_setCell_other _ _ _ _ (fun e => h2 (congrArg Addr.off e).symm), hc j (by omega), Option.some.inj hg]
      simp [List.getD, show j < l.length from by omega])
  rw [hl] at h
  exact h
theorem frozen_bytes (w : World) (l : List UInt8) (p : Nat) (hp : p < l.length) : (Lib.bytesWorld w 5 ⟨l.toArray⟩).frozen? ⟨w.heap.size, p, none⟩ = false := by
  have h := Lib.bytesWorld_at_new w 5 ⟨l.toArray⟩
  have hsz : l.length ≤ (Lib.bytesCells w 5 ⟨l.toArray⟩).size := by simp [Lib.bytesCells]
  simp only [World.frozen?, h]
  simp; omega
theorem below_bytes {B : Nat} {w0 w : World} (hb : Below B w0 w) (hB : B ≤ w.heap.size) (s : ByteArray) : Below B w0 (Lib.bytesWorld w 5 s) :=
  hb.trans ⟨rfl, rfl, rfl, by rw [Lib.bytesWorld_size]; omega, fun k hk => Lib.bytesWorld_at_old _ _ _ _ (by omega)⟩
set_option maxRecDepth 100000 in
set_option maxHeartbeats 4000000 in
theorem core (a : Option Addr) (n c : Nat) (A : List (List UInt8)) (u y : Nat) (w : World) (ha : SlStr w (.slice a n c) A) (hnc : n ≤ c) (hn : A.length ≤ 8796093022208) (hx : ∀ x ∈ A, x.length ≤ 140737488355328) (hu : u < 65536) (hy : y < 256) :
    Calls Try.prog 9 #[.slice a n c, .int .u16 u, .int .u8 y] w fun e w' => e = .returned (.bool true) ∧ Below w.heap.size w w' := by
  have hz := sz_le 140737488355328 A hx 0 (by omega)
  have hsm := fun h => sz_small A 0 4000 h (by omega)
  have hsize := fun w1 h => size_any (.slice a n c) A w1 h (by omega) hx
  generalize hZ : sz A 0 = Z at *
  have HSM := Lib.hid hsm
  have HSIZE := Lib.hid hsize
  have hna : A.length = n := by
    obtain ⟨a', c', e, _⟩ := ha
    simp only [Value.slice.injEq] at e
    exact e.2.1.symm
  have HNA := Lib.hid hna
  clear hsm hsize hZ hx hna
  by_cases hlt : (4000 : Int) < (Z : Int)
  · go_enter Try.func9, Try.ntmps9
    go_wp2_with fail
    refine (awake_any _).mono ?_
    rintro e w1 ⟨rfl, hb1⟩
    have HA1 := Lib.hid (slStr_below ha hb1)
    clear ha
    go_wp2_with fail
    refine (HSIZE.out _ HA1.out).mono ?_
    rintro e w2 ⟨rfl, rfl⟩
    go_wp2
    go_ret
    exact ⟨rfl, hb1⟩
  · by_cases hn0 : n = 0
    · have en : ((n : Int) == 0) = true := by rw [beq_iff_eq]; omega
      have HN := Lib.hid hn0
      clear hn0
      go_enter Try.func9, Try.ntmps9
      go_wp2_with fail
      refine (awake_any _).mono ?_
      rintro e w1 ⟨rfl, hb1⟩
      have HA1 := Lib.hid (slStr_below ha hb1)
      clear ha
      go_wp2_with fail
      refine (HSIZE.out _ HA1.out).mono ?_
      rintro e w2 ⟨rfl, rfl⟩
      go_wp2
      go_ret
      exact ⟨rfl, hb1⟩
    · have en : ((n : Int) == 0) = false := by rw [beq_eq_false_iff_ne]; omega
      have hnp : (0 : Int) < (n : Int) := by omega
      have HN := Lib.hid hn0
      clear hn0
      by_cases hy0 : y = 0
      · have ey : ((y : Int) == 0) = true := by rw [beq_iff_eq]; omega
        have HY := Lib.hid hy0
        clear hy0
        go_enter Try.func9, Try.ntmps9
        go_wp2_with fail
        refine (awake_any _).mono ?_
        rintro e w1 ⟨rfl, hb1⟩
        have HA1 := Lib.hid (slStr_below ha hb1)
        clear ha
        go_wp2_with fail
        refine (HSIZE.out _ HA1.out).mono ?_
        rintro e w2 ⟨rfl, rfl⟩
        go_wp2
        go_ret
        exact ⟨rfl, hb1⟩
      · have ey : ((y : Int) == 0) = false := by rw [beq_eq_false_iff_ne]; omega
        have HY := Lib.hid hy0
        clear hy0
        obtain ⟨k, hk⟩ : ∃ k : Nat, (u : Int) % (n : Int) = (k : Int) := ⟨u % n, by rw [Int.natCast_emod]⟩
        have hkn : (k : Int) < (n : Int) := by
          have := Int.emod_lt_of_pos (u : Int) hnp
          omega
        have hkl : k < A.length := by have := HNA.out; omega
        obtain ⟨r, hr⟩ : ∃ r, A[k]? = some r := ⟨A[k], by simp [hkl]⟩
        have hcell : ∃ b oo, a = some ⟨b, oo, none⟩ ∧ w.cell? ⟨b, oo + k, none⟩ = some (.string ⟨r.toArray⟩) := by
          obtain ⟨a', c', e, h⟩ := ha
          simp only [Value.slice.injEq] at e
          obtain ⟨rfl, _, rfl⟩ := e
          obtain ⟨b, oo, ha, hc⟩ := h (by intro e; rw [e] at hr; simp at hr)
          exact ⟨b, oo, ha, hc k r hr⟩
        obtain ⟨b, oo, rfl, hcell⟩ := hcell
        have hz4 : Z ≤ 4000 := by omega
        obtain ⟨g1, g2, g3⟩ := HSM.out hz4
        have hrl : r.length ≤ 4000 := g2 r (List.mem_of_getElem? hr)
        by_cases hr0 : r.length = 0
        · have er : ((r.length : Int) == 0) = true := by rw [beq_iff_eq]; omega
          have HR0 := Lib.hid hr0
          have HR := Lib.hid hr
          clear hr0 hr
          go_enter Try.func9, Try.ntmps9
          go_wp2_with fail
          refine (awake_any _).mono ?_
          rintro e w1 ⟨rfl, hb1⟩
          have HA1 := Lib.hid (slStr_below ha hb1)
          have hcell1 : w1.cell? ⟨b, oo + k, none⟩ = some (.string ⟨r.toArray⟩) := by rw [hb1.cell (p := ⟨b, oo + k, none⟩) (block_lt_of_cell hcell)]; exact hcell
          clear ha hcell
          go_wp2_with fail
          refine (HSIZE.out _ HA1.out).mono ?_
          rintro e w2 ⟨rfl, rfl⟩
          clear g1 g2 g3
          go_wp2
          go_ret
          exact ⟨rfl, hb1⟩
        · have er : ((r.length : Int) == 0) = false := by rw [beq_eq_false_iff_ne]; omega
          have hrp : (0 : Int) < (r.length : Int) := by omega
          obtain ⟨i, hi⟩ : ∃ i : Nat, (u : Int) / 7 % (r.length : Int) = (i : Int) := ⟨u / 7 % r.length, by rw [Int.natCast_emod, Int.natCast_ediv]; rfl⟩
          have hir : i < r.length := by
            have := Int.emod_lt_of_pos ((u : Int) / 7) hrp
            omega
          have hx2 : ∀ x ∈ A, x.length ≤ 65536 := fun x hx => by have := g2 x hx; omega
          have hF : (framesOf A).length ≤ 36000 := by omega
          have hsp := congrArg List.length (frames_split A k r hr)
          rw [List.length_append, List.length_append, frameOf_length] at hsp
          have hyb : UInt8.ofNat y ≠ 0 := by
            intro e
            have := congrArg UInt8.toNat e
            rw [u8_toNat y hy] at this
            exact HY.out this
          have hst := scan_turned A k i r (UInt8.ofNat y) hx2 hr hir hyb
          have hall := fun w1 h => all_any (.slice (some ⟨b, oo, none⟩) n c) A w1 h (by omega) hx2 (by omega)
          have hlk : (A.take k).length = k := by rw [List.length_take, Nat.min_eq_left (by omega)]
          have hft : (framesOf (A.take k)).length ≤ (framesOf A).length := framesOf_take_le A k
          have hall2 := fun w1 h => all_any (.slice (some ⟨b, oo, none⟩) k c) (A.take k) w1 h (by omega) (fun x hx => hx2 x (List.mem_of_mem_take hx)) (by omega)
          have hpl : (framesOf (A.take k)).length + 8 + i < (framesOf A).length := by omega
          have hsc := fun w1 => scan_any ⟨(turned (framesOf A) ((framesOf (A.take k)).length + 8 + i) (UInt8.ofNat y)).toArray⟩ (by rw [ByteArray.size]; simp [turned_length _ _ _ hpl]; omega) w1
          simp only [hst, hlk] at hsc
          have hstore := fun w1 => store_bytes w1 (framesOf A) ((framesOf (A.take k)).length + 8 + i) (UInt8.ofNat y) hpl
          rw [u8_toNat y hy] at hstore
          have hsz9 : ((framesOf (A.take k)).length : Int) + 9 ≤ ((framesOf A).length : Int) := by omega
          have hoL : ((framesOf (A.take k)).length : Int) ≤ 36000 := by omega
          generalize turned (framesOf A) ((framesOf (A.take k)).length + 8 + i) (UInt8.ofNat y) = TR at *
          generalize framesOf (A.take k) = FA at *
          generalize framesOf A = FR at *
          have hxor := u8_xor_nat (FR.getD (FA.length + 8 + i) 0).toNat y (UInt8.toNat_lt _) hy
          have HALL := Lib.hid hall
          have HALL2 := Lib.hid hall2
          have HSC := Lib.hid hsc
          have HST := Lib.hid hstore
          have HR := Lib.hid hr
          have HLK := Lib.hid hlk
          have HR0 := Lib.hid hr0
          clear hall hall2 hsc hstore hst hsp g1 g2 g3 HSM hx2 hr hlk hr0 hyb hft
          go_enter Try.func9, Try.ntmps9
          go_wp2_with fail
          refine (awake_any _).mono ?_
          rintro e w1 ⟨rfl, hb1⟩
          have HA1 := Lib.hid (slStr_below ha hb1)
          have hcell1 : w1.cell? ⟨b, oo + k, none⟩ = some (.string ⟨r.toArray⟩) := by rw [hb1.cell (p := ⟨b, oo + k, none⟩) (block_lt_of_cell hcell)]; exact hcell
          clear ha hcell
          go_wp2_with fail
          refine (HSIZE.out _ HA1.out).mono ?_
          rintro e w2 ⟨rfl, rfl⟩
          go_wp2_with fail
          refine (HALL.out _ HA1.out).mono ?_
          rintro e w2 ⟨rfl, hb2⟩
          have HA2 := Lib.hid (slStr_below HA1.out hb2)
          have hcell2 : w2.cell? ⟨b, oo + k, none⟩ = some (.string ⟨r.toArray⟩) := by rw [hb2.cell (p := ⟨b, oo + k, none⟩) (block_lt_of_cell hcell1)]; exact hcell1
          have hc2 := hb1.trans (hb2.mono hb1.size)
          clear hb1 hb2 HALL HA1 hcell1
          go_wp2_with fail
          refine (HALL2.out _ (slStr_take HA2.out k (by omega))).mono ?_
          rintro e w3 ⟨rfl, hb3⟩
          have hc3 := hc2.trans (hb3.mono hc2.size)
          have HA3 := Lib.hid (slStr_below HA2.out hb3)
          have hcell3 : w3.cell? ⟨b, oo + k, none⟩ = some (.string ⟨r.toArray⟩) := by rw [hb3.cell (p := ⟨b, oo + k, none⟩) (block_lt_of_cell hcell2)]; exact hcell2
          have hs1 := HST.out w3
          have hcv := Lib.run_convert_string_bytes (P := Try.prog) w3 9 62 5 ⟨FR.toArray⟩ Try.underlying9 Try.underlying62 Try.underlying5
          have hcl := Lib.bytesWorld_cell w3 5 ⟨FR.toArray⟩ (FA.length + 8 + i) (by rw [ByteArray.size]; simpa using hpl)
          have hco := Lib.bytesWorld_old w3 5 ⟨FR.toArray⟩ ⟨b, oo + k, none⟩ (block_lt_of_cell hcell3)
          rw [hcell3] at hco
          have hfz := frozen_bytes w3 FR (FA.length + 8 + i) hpl
          have hbb := (below_bytes hc3 hc3.size ⟨FR.toArray⟩).setCell (p := ⟨w3.heap.size, FA.length + 8 + i, none⟩) hc3.size (.int .u8 ((FR.getD (FA.length + 8 + i) 0).toNat ^^^ y : Nat))
          have hA4 : SlStr ((Lib.bytesWorld w3 5 ⟨FR.toArray⟩).setCell ⟨w3.heap.size, FA.length + 8 + i, none⟩ (.int .u8 ((FR.getD (FA.length + 8 + i) 0).toNat ^^^ y : Nat))) (.slice (some ⟨b, oo, none⟩) n c) A :=
            slStr_below HA3.out ((below_bytes (Below.refl _ _) (Nat.le_refl _) ⟨FR.toArray⟩).setCell (p := ⟨w3.heap.size, FA.length + 8 + i, none⟩) (Nat.le_refl _) _)
          have hsz2 : (⟨FR.toArray⟩ : ByteArray).size = FR.length := by rw [ByteArray.size]; simp
          rw [hsz2] at hcv
          have HA4 := Lib.hid hA4
          have HBB := Lib.hid hbb
          clear hc2 hc3 hb3 HALL2 HA2 HA3 hcell2 hcell3 HST hA4 hbb
          generalize Lib.bytesWorld w3 5 ⟨FR.toArray⟩ = W1 at *
          generalize grownCap w3 FR.length 0 5 = cap at *
          generalize w3.heap.size = g at *
          have hB0 : (FR.getD (FA.length + 8 + i) 0).toNat < 256 := UInt8.toNat_lt _
          generalize (FR.getD (FA.length + 8 + i) 0).toNat = B0 at *
          have hpi : ((FA.length : Int) + 8 + (i : Int)) < (FR.length : Int) := by omega
          have hkc : (k : Int) ≤ (c : Int) := by omega
          by_cases hlast : k + 1 = n
          · have hla : k + 1 = A.length := hlast.trans HNA.out.symm
            simp only [if_pos hla] at HSC
            have hnb : (n : Int) ≤ 8796093022208 := by have := HNA.out; omega
            have hl1 : (n : Int) ≤ (k : Int) + 1 := by omega
            have HL := Lib.hid hlast
            clear hlast hla
            go_wp2_with fail
            refine (HSC.out _).mono ?_
            rintro e w6 ⟨v6, rfl, ho6, hb6⟩
            have hv6 : SlStr w6 v6 (A.take k) := slStr_owns (by rw [HLK.out]; exact ho6)
            have hA6 := slStr_below HA4.out hb6
            have hbf := HBB.out.trans (hb6.mono HBB.out.size)
            have hsame := same_yes _ _ _ w6 hv6 (slStr_take hA6 k (by omega)) (by rw [HLK.out]; omega)
            have HSAME := Lib.hid hsame
            clear hv6 hA6 hsame hb6 ho6
            go_wp2_with (go_at_call 35; refine HSAME.out.mono ?_; rintro e w7 ⟨rfl, m2, rfl⟩)
            go_ret
            exact ⟨rfl, below_drewN hbf _⟩
          · have hla : ¬ k + 1 = A.length := fun h => hlast (h.trans HNA.out)
            simp only [if_neg hla] at HSC
            have hnb : (n : Int) ≤ 8796093022208 := by have := HNA.out; omega
            have hl1 : (k : Int) + 1 < (n : Int) := by omega
            have HL := Lib.hid hlast
            clear hlast hla
            go_wp2_with fail
            refine (HSC.out _).mono ?_
            rintro e w6 ⟨v6, rfl, ho6, hb6⟩
            have hv6 : SlStr w6 v6 (A.take k) := slStr_owns (by rw [HLK.out]; exact ho6)
            have hA6 := slStr_below HA4.out hb6
            have hbf := HBB.out.trans (hb6.mono HBB.out.size)
            have hsame := same_yes _ _ _ w6 hv6 (slStr_take hA6 k (by omega)) (by rw [HLK.out]; omega)
            have HSAME := Lib.hid hsame
            clear hv6 hA6 hsame hb6 ho6
            go_wp2_with (go_at_call 35; refine HSAME.out.mono ?_; rintro e w7 ⟨rfl, m2, rfl⟩)
            go_ret
            exact ⟨rfl, below_drewN hbf _⟩
end Go.Proofs.Ytdphnhgogokidaa.frameTurned
