/- The walk of FrameBack: what was laid is told, of a part just the whole records. -/
import Derived.Test.YtdphnhgogokidaaFrameW
import Derived.Test.YtdphnhgogokidaaFrameV
import Derived.BigQuiet
namespace Go.Proofs.Ytdphnhgogokidaa.frameBack
open Go.RowKit

theorem slStr_take {w : World} {a : Option Addr} {n c : Nat} {A : List (List UInt8)} (h : SlStr w (.slice a n c) A) (j : Nat) (hj : j ≤ A.length) : SlStr w (.slice a j c) (A.take j) := by
  obtain ⟨a', c', e, h⟩ := h
  simp only [Value.slice.injEq] at e
  obtain ⟨rfl, rfl, rfl⟩ := e
  refine ⟨a, c, by rw [List.length_take, Nat.min_eq_left hj], fun hne => ?_⟩
  obtain ⟨b, o, ha, hc⟩ := h (fun e => hne (by rw [e]; simp))
  refine ⟨b, o, ha, fun i x hx => hc i x ?_⟩
  rw [List.getElem?_take] at hx
  split at hx
  · exact hx
  · exact absurd hx (by simp)
theorem same_yes (va vb : Value) (A : List (List UInt8)) (w : World) (ha : SlStr w va A) (hb : SlStr w vb A) (hA : A.length ≤ 9223372036854775807) :
    Calls Try.prog 35 #[va, vb] w fun e w' => e = .returned (.bool true) ∧ ∃ n, w' = w.drewN n := by
  have := same_any va vb A A w ha hb hA
  simpa using this
set_option maxRecDepth 100000 in
set_option maxHeartbeats 2000000 in
theorem core (a : Option Addr) (n c : Nat) (A : List (List UInt8)) (u : Nat) (w : World) (ha : SlStr w (.slice a n c) A) (hnc : n ≤ c) (hn : A.length ≤ 8796093022208) (hx : ∀ x ∈ A, x.length ≤ 140737488355328) (hu : u < 65536) :
    Calls Try.prog 8 #[.slice a n c, .int .u16 u] w fun e w' => e = .returned (.bool true) ∧ Below w.heap.size w w' := by
  have hz := sz_le 140737488355328 A hx 0 (by omega)
  have hsm := fun h => sz_small A 0 4000 h (by omega)
  have hsize := fun w1 h => size_any (.slice a n c) A w1 h (by omega) hx
  generalize hZ : sz A 0 = Z at *
  have HSM := Lib.hid hsm
  have HSIZE := Lib.hid hsize
  clear hsm hsize hZ hx
  by_cases hlt : (4000 : Int) < (Z : Int)
  · go_enter Try.func8, Try.ntmps8
    go_wp2_with fail
    refine (awake_any _).mono ?_
    rintro e w1 ⟨rfl, hb1⟩
    have HA1 := Lib.hid (slStr_below ha hb1)
    clear ha
    go_wp2_with fail
    refine (HSIZE.out _ HA1.out).mono ?_
    rintro e w2 ⟨rfl, rfl⟩
    go_wp2
    go_ret
    exact ⟨rfl, hb1⟩
  · have hz4 : Z ≤ 4000 := by omega
    obtain ⟨g1, g2, g3⟩ := HSM.out hz4
    have hx2 : ∀ x ∈ A, x.length ≤ 65536 := fun x hx => by have := g2 x hx; omega
    have hF : (framesOf A).length ≤ 36000 := by omega
    have hna : A.length = n := by
      obtain ⟨a', c', e, _⟩ := ha
      simp only [Value.slice.injEq] at e
      exact e.2.1.symm
    have hall := fun w1 h => all_any (.slice a n c) A w1 h (by omega) hx2 (by omega)
    have hsc := fun w1 => scan_any ⟨(framesOf A).toArray⟩ (by rw [ByteArray.size]; simp; omega) w1
    have hs0 := scan_frames A [] hx2
    rw [scan_nil (l := []) rfl] at hs0
    simp only [List.append_nil, Nat.add_zero] at hs0
    simp only [hs0] at hsc
    obtain ⟨k, hk⟩ : ∃ k : Nat, (u : Int) % ((framesOf A).length + 1 : Int) = (k : Int) := ⟨u % ((framesOf A).length + 1), by rw [Int.natCast_emod]; rfl⟩
    have hkl : k ≤ (framesOf A).length := by
      have := Int.emod_lt_of_pos (u : Int) (show (0 : Int) < (framesOf A).length + 1 by omega)
      omega
    obtain ⟨j, hj, hst, ho, hd⟩ := scan_take A k hx2 hkl
    have hsc2 := fun w1 => scan_any ((⟨(framesOf A).toArray⟩ : ByteArray).extract 0 k) (by simp; omega) w1
    rw [extract_part] at hsc2
    simp only [List.drop_zero, hst] at hsc2
    have hlj : (A.take j).length = j := by rw [List.length_take, Nat.min_eq_left hj]
    rw [hlj] at hsc2
    have hL : (framesOf A).length = (framesOf A).length := rfl
    generalize (framesOf (A.take j)).length = o at *
    generalize framesOf A = FR at *
    have HX2 := Lib.hid hx2
    have HALL := Lib.hid hall
    have HSC := Lib.hid hsc
    have HSC2 := Lib.hid hsc2
    have HD := Lib.hid hd
    have HNA := Lib.hid hna
    clear hx2 hall hsc hsc2 hs0 hst hd g1 g2 g3 HSM hL hna
    go_enter Try.func8, Try.ntmps8
    go_wp2_with fail
    refine (awake_any _).mono ?_
    rintro e w1 ⟨rfl, hb1⟩
    have HA1 := Lib.hid (slStr_below ha hb1)
    clear ha
    go_wp2_with fail
    refine (HSIZE.out _ HA1.out).mono ?_
    rintro e w2 ⟨rfl, rfl⟩
    clear HSIZE
    go_wp2_with fail
    refine (HALL.out _ HA1.out).mono ?_
    rintro e w2 ⟨rfl, hb2⟩
    have HA2 := Lib.hid (slStr_below HA1.out hb2)
    have hc2 := hb1.trans (hb2.mono hb1.size)
    clear hb1 hb2 HALL HA1
    go_wp2_with fail
    refine (HSC.out _).mono ?_
    rintro e w4 ⟨v4, rfl, ho4, hb4⟩
    have HA3 := Lib.hid (slStr_below HA2.out hb4)
    have HV := Lib.hid (slStr_owns ho4)
    have hc4 := hc2.trans (hb4.mono hc2.size)
    clear hc2 hb4 ho4 HSC HA2
    go_wp2_with fail
    refine (same_any _ _ _ _ _ HV.out HA3.out (by omega)).mono ?_
    rintro e w8 ⟨rfl, m, rfl⟩
    have hc5 := below_drewN hc4 m
    have HA4 := Lib.hid (slStr_drewN HA3.out m)
    generalize w4.drewN m = w5 at *
    clear hc4 HA3 HV
    go_wp2_with fail
    rw [hk]
    refine (HSC2.out _).mono ?_
    rintro e w6 ⟨v6, rfl, ho6, hb6⟩
    have hv6 : SlStr w6 v6 (A.take j) := slStr_owns (by rw [hlj]; exact ho6)
    have HA5 := Lib.hid (slStr_below HA4.out hb6)
    have hc6 := hc5.trans (hb6.mono hc5.size)
    obtain ⟨pa, pc, rfl, hp⟩ := hv6
    rw [hlj]
    have hv7 : SlStr w6 (.slice pa j pc) (A.take j) := ⟨pa, pc, by rw [hlj], hp⟩
    have HV7 := Lib.hid hv7
    have hjn : (j : Int) ≤ (n : Int) := by have := HNA.out; omega
    have hjc : (j : Int) ≤ (c : Int) := by omega
    have hsame := same_yes _ _ _ w6 HV7.out (slStr_take HA5.out j hj) (by rw [hlj]; omega)
    have HSAME := Lib.hid hsame
    clear hc5 hb6 ho6 HSC2 HA4 hp hv7 hsame hj
    have e0 : ((k : Int) == (k : Int)) = true := by simp
    by_cases hjn2 : j = n
    · have ej : ((j : Int) == (n : Int)) = true := by rw [beq_iff_eq]; omega
      have HJ := Lib.hid hjn2
      clear hjn2
      by_cases heq : o = k
      · subst heq
        simp only [if_true]
        go_wp2_with (go_at_call 35; refine HSAME.out.mono ?_; rintro e w7 ⟨rfl, m2, rfl⟩)
        go_ret
        exact ⟨rfl, below_drewN hc6 _⟩
      · simp only [if_neg heq]
        have e1 : ((o : Int) == (k : Int)) = false := by rw [beq_eq_false_iff_ne]; omega
        have hok : (o : Int) ≤ (k : Int) := by omega
        have HEQ := Lib.hid heq
        clear heq ho
        go_wp2_with (go_at_call 35; refine HSAME.out.mono ?_; rintro e w7 ⟨rfl, m2, rfl⟩)
        go_ret
        exact ⟨rfl, below_drewN hc6 _⟩
    · have ej : ((j : Int) == (n : Int)) = false := by rw [beq_eq_false_iff_ne]; omega
      have hd2 : ∃ r, A[j]? = some r ∧ k < o + 8 + r.length := by
        rcases HD.out with h | h
        · exact absurd (h.trans HNA.out) hjn2
        · exact h
      obtain ⟨r, hr, hrk⟩ := hd2
      have hgt : (k : Int) < (o : Int) + 8 + (r.length : Int) := by omega
      have hrl : r.length ≤ 65536 := HX2.out r (List.mem_of_getElem? hr)
      have hjlt : (j : Int) < (n : Int) := by omega
      have hcell : ∃ b oo, a = some ⟨b, oo, none⟩ ∧ w6.cell? ⟨b, oo + j, none⟩ = some (.string ⟨r.toArray⟩) := by
        obtain ⟨a', c', e, h⟩ := HA5.out
        simp only [Value.slice.injEq] at e
        obtain ⟨rfl, _, rfl⟩ := e
        obtain ⟨b, oo, ha, hc⟩ := h (by intro e; rw [e] at hr; simp at hr)
        exact ⟨b, oo, ha, hc j r hr⟩
      obtain ⟨b, oo, rfl, hcell⟩ := hcell
      have HJ := Lib.hid hjn2
      have HR := Lib.hid hr
      clear hjn2 hr hrk
      by_cases heq : o = k
      · subst heq
        simp only [if_true]
        go_wp2_with (go_at_call 35; refine HSAME.out.mono ?_; rintro e w7 ⟨rfl, m2, rfl⟩)
        go_ret
        exact ⟨rfl, below_drewN hc6 _⟩
      · simp only [if_neg heq]
        have e1 : ((o : Int) == (k : Int)) = false := by rw [beq_eq_false_iff_ne]; omega
        have hok : (o : Int) ≤ (k : Int) := by omega
        have HEQ := Lib.hid heq
        clear heq ho
        go_wp2_with (go_at_call 35; refine HSAME.out.mono ?_; rintro e w7 ⟨rfl, m2, rfl⟩)
        go_ret
        exact ⟨rfl, below_drewN hc6 _⟩
end Go.Proofs.Ytdphnhgogokidaa.frameBack
