/- Wire: the calls whose answers the document fixes. -/
import Derived.Test.YtdpllkmbnphdgaaWireN
import Derived.Test.YtdpllkmbnphdgaaWireS
namespace Go.Proofs.Ytdpllkmbnphdgaa
open Go.RowKit

def aw1 : Cm := ⟨3, fun i => if i = 1 then 2 else if i = 4 then 1 else if i = 6 then 258 else 0⟩
def aw4 : Cm := ⟨4, fun i => if i = 4 then 1 else 0⟩
def aw2 : Cm := ⟨4, fun i => if i = 2 then 256 else 0⟩
theorem aw_put1 (w : World) : Calls Try.prog 10 #[.agg #[.int .i64 3, .int .i64 2, .int .i64 0, .int .i64 0, .int .i64 1, .int .i64 0, .int .i64 258, .int .i64 0]] w fun e w' => e = .returned (.tuple #[.string ⟨#[3, 2, 1, 0, 0, 0, 0, 0, 0, 1, 2]⟩, .int .i64 0]) ∧ Below w.heap.size w w' := by
  have h := put_any aw1 w
  rw [show putV aw1 = .tuple #[.string ⟨#[3, 2, 1, 0, 0, 0, 0, 0, 0, 1, 2]⟩, .int .i64 0] from by kernel_rfl] at h
  exact h
theorem aw_put4 (w : World) : Calls Try.prog 10 #[.agg #[.int .i64 4, .int .i64 0, .int .i64 0, .int .i64 0, .int .i64 1, .int .i64 0, .int .i64 0, .int .i64 0]] w fun e w' => e = .returned (.tuple #[.string ⟨#[]⟩, .int .i64 2]) ∧ Below w.heap.size w w' := by
  have h := put_any aw4 w
  rw [show putV aw4 = .tuple #[.string ⟨#[]⟩, .int .i64 2] from by kernel_rfl] at h
  exact h
theorem aw_take2 (w : World) : Calls Try.prog 13 #[.string ⟨#[4, 0, 0, 1, 0]⟩] w fun e w' => e = .returned (.tuple #[.agg #[.int .i64 4, .int .i64 0, .int .i64 256, .int .i64 0, .int .i64 0, .int .i64 0, .int .i64 0, .int .i64 0], .int .i64 0]) ∧ Below w.heap.size w w' := by
  have h := take_any [4, 0, 0, 1, 0] (by decide) w
  rw [show takeV (take [4, 0, 0, 1, 0]) = .tuple #[.agg #[.int .i64 4, .int .i64 0, .int .i64 256, .int .i64 0, .int .i64 0, .int .i64 0, .int .i64 0, .int .i64 0], .int .i64 0] from by kernel_rfl] at h
  exact h
theorem aw_take3 (w : World) : Calls Try.prog 13 #[.string ⟨#[4, 0, 0, 1]⟩] w fun e w' => e = .returned (.tuple #[.agg #[.int .i64 0, .int .i64 0, .int .i64 0, .int .i64 0, .int .i64 0, .int .i64 0, .int .i64 0, .int .i64 0], .int .i64 2]) ∧ Below w.heap.size w w' := by
  have h := take_any [4, 0, 0, 1] (by decide) w
  rw [show takeV (take [4, 0, 0, 1]) = .tuple #[.agg #[.int .i64 0, .int .i64 0, .int .i64 0, .int .i64 0, .int .i64 0, .int .i64 0, .int .i64 0, .int .i64 0], .int .i64 2] from by kernel_rfl] at h
  exact h
theorem aw_may (w : World) : Calls Try.prog 15 #[.agg #[.int .i64 4, .int .i64 0, .int .i64 256, .int .i64 0, .int .i64 0, .int .i64 0, .int .i64 0, .int .i64 0]] w fun e w' => e = .returned (.bool true) ∧ Below w.heap.size w w' := by
  have h := may_any aw2 w
  rw [show may aw2 = true from by kernel_rfl] at h
  exact h
theorem aw_putr (sl : Value) (w : World) (hs : SlInt w sl [7]) : Calls Try.prog 17 #[.agg #[.int .i64 5, .int .i64 (-1), sl]] w fun e w' => e = .returned (.tuple #[.string ⟨#[5, 255, 255, 255, 255, 255, 255, 255, 255, 0, 1, 0, 0, 0, 7]⟩, .int .i64 0]) ∧ Below w.heap.size w w' := by
  have h := putr_any 5 (-1) [7] sl w hs (by decide)
  rw [show putrV 5 (-1) [7] = .tuple #[.string ⟨#[5, 255, 255, 255, 255, 255, 255, 255, 255, 0, 1, 0, 0, 0, 7]⟩, .int .i64 0] from by kernel_rfl] at h
  exact h
theorem aw_taker (w : World) : Calls Try.prog 19 #[.string ⟨#[5, 255, 255, 255, 255, 255, 255, 255, 255, 0, 1, 0, 0, 0, 7]⟩] w fun q w' => ∃ sl, q = .returned (.tuple #[.agg #[.int .i64 5, .int .i64 (-1), sl], .int .i64 0]) ∧ SlInt w' sl [7] ∧ Below w.heap.size w w' := by
  have h := taker_any [5, 255, 255, 255, 255, 255, 255, 255, 255, 0, 1, 0, 0, 0, 7] (by decide) w
  rw [show rpCode (takeR [5, 255, 255, 255, 255, 255, 255, 255, 255, 0, 1, 0, 0, 0, 7]) = 0 from by kernel_rfl, show rpOf (takeR [5, 255, 255, 255, 255, 255, 255, 255, 255, 0, 1, 0, 0, 0, 7]) = ⟨5, -1, [7]⟩ from by kernel_rfl] at h
  exact h
theorem sl7 (w : World) : SlInt (w.alloc (.cells #[.int .i64 7] 3 (0, 0))) (.slice (some ⟨w.heap.size, 0, none⟩) 1 1) [7] := slInt_row [7] 1 (t := 3) (heap_alloc_new _ _)
set_option maxRecDepth 100000 in
set_option maxHeartbeats 4000000 in
theorem awake_any (w : World) :
    Calls Try.prog 9 #[] w fun e w' => e = .returned (.bool true) ∧ Below w.heap.size w w' := by
  go_enter Try.func9, Try.ntmps9
  go_wp2_with fail
  refine (aw_put1 _).mono ?_
  rintro e w1 ⟨rfl, hb1⟩
  go_wp2_with fail
  refine (aw_take2 _).mono ?_
  rintro e w2 ⟨rfl, hb2⟩
  have HB2 := Lib.hid (hb1.trans (hb2.mono hb1.size))
  clear hb1 hb2
  go_wp2_with fail
  have HC := Lib.hid (show CmAt (w2.alloc (.cells #[.int .i64 4, .int .i64 0, .int .i64 256, .int .i64 0, .int .i64 0, .int .i64 0, .int .i64 0, .int .i64 0] 23 (0, 0))) w2.heap.size aw2 from heap_alloc_new _ _)
  have HB3 := Lib.hid (HB2.out.alloc HB2.out.size (.cells #[.int .i64 4, .int .i64 0, .int .i64 256, .int .i64 0, .int .i64 0, .int .i64 0, .int .i64 0, .int .i64 0] 23 (0, 0)))
  clear HB2
  generalize w2.alloc (.cells #[.int .i64 4, .int .i64 0, .int .i64 256, .int .i64 0, .int .i64 0, .int .i64 0, .int .i64 0, .int .i64 0] 23 (0, 0)) = w3 at *
  generalize w2.heap.size = z at *
  refine (aw_take3 _).mono ?_
  rintro e w4 ⟨rfl, hb4⟩
  go_wp2_with fail
  have hba := (Below.refl w4.heap.size w4).alloc (Nat.le_refl _) (.cells #[.int .i64 0, .int .i64 0, .int .i64 0, .int .i64 0, .int .i64 0, .int .i64 0, .int .i64 0, .int .i64 0] 23 (0, 0))
  have HC5 := Lib.hid ((HC.out.below hb4).below hba)
  have HB5 := Lib.hid ((HB3.out.trans (hb4.mono HB3.out.size)).trans (hba.mono (HB3.out.trans (hb4.mono HB3.out.size)).size))
  clear HC HB3 hb4 hba
  generalize w4.alloc (.cells #[.int .i64 0, .int .i64 0, .int .i64 0, .int .i64 0, .int .i64 0, .int .i64 0, .int .i64 0, .int .i64 0] 23 (0, 0)) = w5 at *
  refine (aw_put4 _).mono ?_
  rintro e w6 ⟨rfl, hb6⟩
  go_wp2_with fail
  have hba := (Below.refl w6.heap.size w6).alloc (Nat.le_refl _) (.cells #[.int .i64 7] 3 (0, 0))
  have HC7 := Lib.hid ((HC5.out.below hb6).below hba)
  have HB7 := Lib.hid ((HB5.out.trans (hb6.mono HB5.out.size)).trans (hba.mono (HB5.out.trans (hb6.mono HB5.out.size)).size))
  have hs7 := sl7 w6
  clear HC5 HB5 hb6 hba
  generalize w6.alloc (.cells #[.int .i64 7] 3 (0, 0)) = w7 at *
  refine (aw_putr _ _ hs7).mono ?_
  rintro e w8 ⟨rfl, hb8⟩
  have HC8 := Lib.hid (HC7.out.below hb8)
  have HB8 := Lib.hid (HB7.out.trans (hb8.mono HB7.out.size))
  clear HC7 HB7 hs7 hb8
  go_wp2_with fail
  refine (aw_taker _).mono ?_
  rintro e w9 ⟨sl, rfl, ⟨ao, ca, rfl, hcells⟩, hb9⟩
  have HS9 := Lib.hid (show SlInt w9 (.slice ao 1 ca) [7] from ⟨ao, ca, rfl, hcells⟩)
  have HC9 := Lib.hid (HC8.out.below hb9)
  have HB9 := Lib.hid (HB8.out.trans (hb9.mono HB8.out.size))
  clear HC8 HB8 hcells hb9
  go_upto_region 7 with (fail)
  have hba := (Below.refl w9.heap.size w9).alloc (Nat.le_refl _) (.cells #[.int .i64 5, .int .i64 (-1), .slice ao 1 ca] 40 (0, 0))
  have HCa := Lib.hid (HC9.out.below hba)
  have HSa := Lib.hid (slInt_below HS9.out hba)
  have HBa := Lib.hid (HB9.out.trans (hba.mono HB9.out.size))
  have hrp := rpAt_new 40 w9 5 (-1) (.slice ao 1 ca)
  have c0 := HCa.out.kind
  have c1 := HCa.out.num (i := 1) (by omega) (by omega)
  have c2 := HCa.out.num (i := 2) (by omega) (by omega)
  have c3 := HCa.out.num (i := 3) (by omega) (by omega)
  have c4 := HCa.out.num (i := 4) (by omega) (by omega)
  have c5 := HCa.out.num (i := 5) (by omega) (by omega)
  have c6 := HCa.out.num (i := 6) (by omega) (by omega)
  have c7 := HCa.out.num (i := 7) (by omega) (by omega)
  rw [show aw2.k = 4 from rfl] at c0
  rw [show aw2.n 1 = 0 from rfl] at c1
  rw [show aw2.n 2 = 256 from rfl] at c2
  rw [show aw2.n 3 = 0 from rfl] at c3
  rw [show aw2.n 4 = 0 from rfl] at c4
  rw [show aw2.n 5 = 0 from rfl] at c5
  rw [show aw2.n 6 = 0 from rfl] at c6
  rw [show aw2.n 7 = 0 from rfl] at c7
  have r0 := hrp.c0
  have r1 := hrp.c1
  have r2 := hrp.c2
  clear HS9 HC9 HB9 hba hrp
  generalize w9.alloc (.cells #[.int .i64 5, .int .i64 (-1), .slice ao 1 ca] 40 (0, 0)) = wa at *
  generalize w9.heap.size = za at *
  have hb8 := (Below.refl wa.heap.size wa).alloc (Nat.le_refl _) (.cells #[.int .i64 7] 3 (0, 0))
  have HCb := Lib.hid (HCa.out.below hb8)
  have HSb := Lib.hid (slInt_below HSa.out hb8)
  have HBb := Lib.hid (HBa.out.trans (hb8.mono HBa.out.size))
  have HSc := Lib.hid (sl7 wa)
  clear hb8
  have d0 := HCb.out.kind
  have d1 := HCb.out.num (i := 1) (by omega) (by omega)
  have d2 := HCb.out.num (i := 2) (by omega) (by omega)
  have d3 := HCb.out.num (i := 3) (by omega) (by omega)
  have d4 := HCb.out.num (i := 4) (by omega) (by omega)
  have d5 := HCb.out.num (i := 5) (by omega) (by omega)
  have d6 := HCb.out.num (i := 6) (by omega) (by omega)
  have d7 := HCb.out.num (i := 7) (by omega) (by omega)
  rw [show aw2.k = 4 from rfl] at d0
  rw [show aw2.n 1 = 0 from rfl] at d1
  rw [show aw2.n 2 = 256 from rfl] at d2
  rw [show aw2.n 3 = 0 from rfl] at d3
  rw [show aw2.n 4 = 0 from rfl] at d4
  rw [show aw2.n 5 = 0 from rfl] at d5
  rw [show aw2.n 6 = 0 from rfl] at d6
  rw [show aw2.n 7 = 0 from rfl] at d7
  go_wp2_with (first
    | (go_at_call 21; refine (ints_any _ _ [7] [7] _ HSb.out HSc.out (by decide)).mono ?_; rintro e w5 ⟨rfl, nq, rfl⟩)
    | (go_at_call 15; refine (aw_may _).mono ?_; rintro e wf ⟨rfl, hbf⟩; replace hbf := Lib.hid hbf))
  go_ret
  exact ⟨by simp, (drewN_below' HBb.out nq).trans (hbf.out.mono (drewN_below' HBb.out nq).size)⟩
end Go.Proofs.Ytdpllkmbnphdgaa
