/- The journal: steps that are done till one fails. -/
import Derived.Test.YtdphnhgogokidaaJourB
namespace Go.Proofs.Ytdphnhgogokidaa
open Go.RowKit

/-- a step: what is called, what it holds, what it does to a disk. -/
structure Clo where
  K : FuncId
  caps : Array Value
  F : Dk → Out
def Clo.val (c : Clo) : Value := .func (.func c.K) #[] c.caps
/-- what steps do, and their answer. -/
def runSteps : List Clo → Dk → Out
  | [], d => ⟨0, d⟩
  | c :: L, d => if (c.F d).code = 0 then runSteps L (c.F d).dk else c.F d
theorem runSteps_cons (c : Clo) (L : List Clo) (d : Dk) : runSteps (c :: L) d = if (c.F d).code = 0 then runSteps L (c.F d).dk else c.F d := rfl
theorem runSteps_app (L M : List Clo) : ∀ d, (runSteps L d).code = 0 → runSteps (L ++ M) d = runSteps M (runSteps L d).dk := by
  induction L with
  | nil => intro d _; rfl
  | cons c L ih =>
    intro d h
    rw [runSteps_cons] at h
    rw [List.cons_append, runSteps_cons, runSteps_cons]
    by_cases h0 : (c.F d).code = 0
    · rw [if_pos h0] at h ⊢
      rw [if_pos h0]
      exact ih _ h
    · rw [if_neg h0] at h
      exact absurd h h0
/-- a step does what it is said to, wherever all but the disk stands. -/
def Does (g : Nat) (w0 : World) (c : Clo) : Prop := (∀ args w, (callFunc c.K args).run Try.prog w = .ok (.enter c.K args) w) ∧ ∀ w1 d1, Only g w0 w1 → DiskAt w1 g d1 → d1.Ok →
  Calls Try.prog c.K c.caps w1 fun e w' => e = .returned (.int .i64 (c.F d1).code) ∧ DiskAt w' g (c.F d1).dk ∧ (c.F d1).dk.Ok ∧ Only g w1 w'
def brk (b : Bool) (code : Int) : Bool := b || (decide (code ≠ 0) && decide (code ≠ 4))
theorem JAt.set4 {w : World} {jg g : Nat} {v : Value} {j : Jn} (h : JAt w jg g v j) (b : Bool) : JAt (w.setCell ⟨jg, 4, none⟩ (.bool b)) jg g v { j with broken := b } := by
  unfold JAt at h ⊢
  rw [heap_setCell_same _ _ _ _ _ _ h]; rfl
theorem JAt.only {w w' : World} {jg g : Nat} {v : Value} {j : Jn} (h : JAt w jg g v j) (ho : Only g w w') (hne : jg ≠ g) : JAt w' jg g v j := ho.heap h hne
set_option maxRecDepth 100000 in
set_option maxHeartbeats 2000000 in
theorem steps_any (jg g cb : Nat) (v : Value) (j : Jn) (d : Dk) (ho : d.Ok) (L : List Clo) (hne : jg ≠ g) (hcg : cb ≠ g) (w : World) (hj : JAt w jg g v j) (hd : DiskAt w g d)
    (hc : w.heap[cb]? = some (.cells (L.map Clo.val).toArray 95 (0, 0))) (hl : L.length ≤ 100) (hdo : ∀ c ∈ L, Does g w c) :
    Calls Try.prog 71 #[.pointer (some ⟨jg, 0, none⟩), .slice (some ⟨cb, 0, none⟩) L.length L.length] w fun e w' => e = .returned (.int .i64 (runSteps L d).code) ∧ DiskAt w' g (runSteps L d).dk ∧ (runSteps L d).dk.Ok ∧
      JAt w' jg g v { j with broken := brk j.broken (runSteps L d).code } ∧ Two g jg w w' := by
  have hli : (L.length : Int) ≤ 100 := by omega
  have HD := Lib.hid hd
  have HJ := Lib.hid hj
  have HC := Lib.hid hc
  have HO := Lib.hid ho
  have HDO := Lib.hid hdo
  clear hd hj hc ho hdo hl
  go_enter Try.func71, Try.ntmps71
  go_wp2_with fail
  go_loopw [10] (fun i wr => ∃ k : Nat, k ≤ L.length ∧ i = .int .i64 k ∧ (runSteps (L.take k) d).code = 0 ∧ DiskAt wr g (runSteps (L.take k) d).dk ∧ (runSteps (L.take k) d).dk.Ok ∧ Only g w wr) (fun i _ => L.length - (intOf i).toNat)
  case atStart => exact ⟨0, by omega, rfl, rfl, HD.out, HO.out, Only.refl _ _⟩
  case round =>
    obtain ⟨k, hk, rfl, h0, hd, hok, hon⟩ := hrel
    have H0 := Lib.hid h0
    have HDr := Lib.hid hd
    have HOr := Lib.hid hok
    have HON := Lib.hid hon
    clear h0 hd hok
    by_cases hlt : k < L.length
    · have hki : (k : Int) < L.length := by omega
      have hb := hon.heap HC.out hcg
      have hcell : wr.cell? ⟨cb, k, none⟩ = some (L[k].val) := by
        rw [cell_of_row _ _ _ _ _ _ hb]
        simp [hlt]
      have hdo := HDO.out L[k] (List.getElem_mem hlt)
      have HCALL := Lib.hid (hdo.2 wr _ hon HDr.out HOr.out)
      have hK := hdo.1
      have HNX := Lib.hid (show (L[k].F (runSteps (L.take k) d).dk).code = 0 → runSteps (L.take (k + 1)) d = ⟨0, (L[k].F (runSteps (L.take k) d).dk).dk⟩ by
        intro hz
        rw [List.take_succ_eq_append_getElem hlt, runSteps_app _ _ _ H0.out, runSteps_cons, if_pos hz]; rfl)
      have HST := Lib.hid (show (L[k].F (runSteps (L.take k) d).dk).code ≠ 0 → runSteps L d = L[k].F (runSteps (L.take k) d).dk by
        intro hne0
        conv => lhs; rw [← List.take_append_drop k L]
        rw [runSteps_app _ _ _ H0.out, List.drop_eq_getElem_cons hlt]
        rw [runSteps_cons, if_neg hne0])
      unfold Clo.val at hcell
      clear hon hb hdo
      generalize L[k] = c at *
      generalize (runSteps (L.take k) d).dk = dk at *
      obtain ⟨K, caps, F⟩ := c
      dsimp only at hcell hK HCALL HNX HST
      obtain ⟨o, hFo⟩ : ∃ o, F dk = o := ⟨_, rfl⟩
      rw [hFo] at HNX HST HCALL
      clear hFo
      obtain ⟨code, dk2⟩ := o
      dsimp only at HNX HST HCALL
      go_upto_region 4 with (fail)
      go_wp2_with fail
      refine HCALL.out.mono ?_
      rintro e w2 ⟨rfl, hd2, ho2, hon2⟩
      have HD2 := Lib.hid hd2
      have HO2 := Lib.hid ho2
      have HN2 := Lib.hid (HON.out.trans hon2)
      clear hd2 ho2 hon2 hK hcell HDr HOr HCALL
      by_cases hz : code = 0
      · subst hz
        have HQ := Lib.hid (show runSteps (L.take (k + 1)) d = ⟨0, dk2⟩ from HNX.out rfl)
        go_wp2
        go_roundw
        case rel => exact ⟨k + 1, by omega, by go_num, by rw [HQ.out], by rw [HQ.out]; exact HD2.out, by rw [HQ.out]; exact HO2.out, HN2.out⟩
        case measure => simp [intOf]; omega
      · have HR := Lib.hid (HST.out hz)
        have hj2 := HJ.out.only HN2.out hne
        have hc4 := hj2.c4
        have hf4 := hj2.frozen 4
        have hz1 : (code != 0) = true := by simpa using hz
        have HJ2 := Lib.hid hj2
        have HZ := Lib.hid hz
        clear hj2 hz
        generalize hbb : j.broken = bb at *
        have HBB := Lib.hid hbb
        clear hbb
        by_cases h4 : code = 4
        · have h41 : (code != 4) = false := by simpa using h4
          have HE := Lib.hid (show brk bb code = bb by unfold brk; simp [h4])
          clear h4
          cases bb
          all_goals
            go_wp2
            go_ret
            refine ⟨by rw [HR.out]; rfl, by rw [HR.out]; show DiskAt _ g dk2; unfold DiskAt; rw [heap_setCell_other _ _ _ _ (by show g ≠ jg; omega)]; exact HD2.out, by rw [HR.out]; exact HO2.out, ?_, (Two.of1 HN2.out).trans ((Two.of2 ((Only.refl jg _).setCell _ _)))⟩
            rw [HR.out, HBB.out]
            show JAt _ jg g v { j with broken := brk _ code }
            rw [HE.out]
            exact HJ2.out.set4 _
        · have h41 : (code != 4) = true := by simpa using h4
          have HE := Lib.hid (show brk bb code = true by unfold brk; simp [h4, HZ.out])
          clear h4
          cases bb
          all_goals
            go_wp2
            go_ret
            refine ⟨by rw [HR.out]; rfl, by rw [HR.out]; show DiskAt _ g dk2; unfold DiskAt; rw [heap_setCell_other _ _ _ _ (by show g ≠ jg; omega)]; exact HD2.out, by rw [HR.out]; exact HO2.out, ?_, (Two.of1 HN2.out).trans ((Two.of2 ((Only.refl jg _).setCell _ _)))⟩
            rw [HR.out, HBB.out]
            show JAt _ jg g v { j with broken := brk _ code }
            rw [HE.out]
            exact HJ2.out.set4 _
    · obtain rfl : k = L.length := by omega
      rw [List.take_length] at H0 HDr HOr
      go_wp2
      go_ret
      refine ⟨by rw [H0.out]; rfl, HDr.out, HOr.out, ?_, Two.of1 HON.out⟩
      have e : brk j.broken (runSteps L d).code = j.broken := by rw [H0.out]; unfold brk; simp
      rw [e]
      exact HJ.out.only HON.out hne
end Go.Proofs.Ytdphnhgogokidaa
