/- The walk of the journal's awake. -/
import Derived.Test.YtdphnhgogokidaaJourT
namespace Go.Proofs.Ytdphnhgogokidaa
open Go.RowKit

def rawB : List UInt8 := [0, 0, 0, 1, 97, 97, 97, 97, 98, 99, 100]
theorem raw_bad : (scan rawB).2.2 = 2 := by
  have hc : Crc.check ((rawB.drop 8).take (rd (rawB.take 4))) ≠ rd ((rawB.drop 4).take 4) := by
    have e1 : rd (rawB.take 4) = 1 := by decide
    rw [e1]
    have e2 : Crc.check ((rawB.drop 8).take 1) ≠ 1633771873 := by decide +kernel
    have e3 : rd ((rawB.drop 4).take 4) = 1633771873 := by decide
    rw [e3]; exact e2
  rw [scan_bad (by decide) (by decide) (by decide) hc, if_neg (by decide)]
theorem awake_plan : ∃ d1 d2 d3 d4 : Dk, appJ ⟨0, [], [], false⟩ (Dk.new 1000) [97] = (0, ⟨0, [], [[97]], false⟩, d1) ∧ snapJ ⟨0, [], [[97]], false⟩ d1 [111, 110, 101] = (0, ⟨1, [111, 110, 101], [], false⟩, d2) ∧
    appJ ⟨1, [111, 110, 101], [], false⟩ d2 [98] = (0, ⟨1, [111, 110, 101], [[98]], false⟩, d3) ∧ d3.Ok ∧ openJ d3 = (0, some ⟨1, [111, 110, 101], [[98]], false⟩, d3) ∧ (d3.append 0 rawB).dk = d4 ∧ d4.Ok ∧ openJ d4 = (8, none, d4) := by
  have F0 := fine_new (R := 1000) (by omega) (by omega) 3
  obtain ⟨d1, e1, F1⟩ : ∃ d1, appJ ⟨0, [], [], false⟩ (Dk.new 1000) [97] = (0, ⟨0, [], [[97]], false⟩, d1) ∧ Fine 1000 3 ⟨0, [], [[97]], false⟩ d1 17 1 := F0.app2 [97] (by decide) (by decide) (by omega)
  obtain ⟨d2, e2, F2⟩ : ∃ d2, snapJ ⟨0, [], [[97]], false⟩ d1 [111, 110, 101] = (0, ⟨1, [111, 110, 101], [], false⟩, d2) ∧ Fine 1000 3 ⟨1, [111, 110, 101], [], false⟩ d2 36 2 := F1.snap2 [111, 110, 101] (by decide) (by decide) (by decide)
  obtain ⟨d3, e3, F3⟩ : ∃ d3, appJ ⟨1, [111, 110, 101], [], false⟩ d2 [98] = (0, ⟨1, [111, 110, 101], [[98]], false⟩, d3) ∧ Fine 1000 3 ⟨1, [111, 110, 101], [[98]], false⟩ d3 53 3 := F2.app2 [98] (by decide) (by decide) (by omega)
  refine ⟨d1, d2, d3, _, e1, e2, e3, F3.ok, F3.opened, rfl, append_ok F3.ok 0 rawB, ?_⟩
  have hl : ¬ d3.left < (rawB.length : Int) := by
    obtain ⟨all, n, t, hl, h1, h2, h3⟩ := F3.live
    have := live_left hl F3.calm
    show ¬ d3.left < (11 : Int)
    omega
  have ea : (d3.append (0 : Nat) rawB).dk = { d3 with b := upd d3.b 0 (d3.b 0 ++ rawB) } := by
    rw [append_step d3 0 (by omega), step_pow F3.calm.fuse F3.calm.down]
    unfold Dk.app
    rw [if_neg hl]
  refine F3.spoilt rawB raw_bad _ ?_ ?_
  · show (d3.append (0 : Nat) rawB).dk.b 0 = _
    rw [ea]; exact upd0 d3.b (d3.b 0 ++ rawB)
  · show (d3.append (0 : Nat) rawB).dk.b 1 = _
    rw [ea]; exact upd1 d3.b (d3.b 0 ++ rawB)
set_option maxRecDepth 100000 in
set_option maxHeartbeats 4000000 in
theorem awake06_any (w : World) : Calls Try.prog 39 #[] w fun e w' => e = .returned (.bool true) ∧ Below w.heap.size w w' := by
  obtain ⟨d1, d2, d3, d4, e1, e2, e3, o3, p3, e4, o4, p4⟩ := awake_plan
  have N0 := Lib.hid (new_disk 1000 (by omega) (by omega))
  have P0 := Lib.hid (live_new 1000).opened
  have O0 := Lib.hid (new_ok (room := 1000) (by omega) (by omega))
  have A4 := Lib.hid (fun g w h => append_disk g d3 o3 0 rawB (by decide) w h)
  rw [e4] at A4
  generalize (d3.append 0 rawB).code = c4 at *
  have E1 := Lib.hid e1
  have E2 := Lib.hid e2
  have E3 := Lib.hid e3
  have O3 := Lib.hid o3
  have P3 := Lib.hid p3
  have O4 := Lib.hid o4
  have P4 := Lib.hid p4
  clear e1 e2 e3 o3 p3 e4 o4 p4
  generalize Dk.new 1000 = d0 at *
  go_enter Try.func39, Try.ntmps39
  go_wp2_with fail
  go_at_call 16
  refine (N0.out _).mono ?_
  rintro e w1 ⟨rfl, hd1, hb1, hl1⟩
  have HB1 := Lib.hid (show Below w.heap.size w w1 from hb1)
  generalize hG : w.heap.size = G at *
  have HGE := Lib.hid (Nat.le_of_eq hG.symm)
  have HGQ := Lib.hid (Nat.le_of_eq hG)
  clear hG
  have HD1 := Lib.hid hd1
  clear hd1 hb1
  go_wp2_with fail
  go_at_call 41
  refine (open_l G G d0 _ d0 O0.out (Nat.le_refl _) P0.out _ HD1.out).mono ?_
  rintro e w2 ⟨rfl, v2, hj2, ho2⟩
  have HB2 := Lib.hid (HB1.out.trans (ho2.onb (Nat.le_refl _) (Nat.le_trans HGE.out HB1.out.size)))
  have HJ2 := Lib.hid hj2
  clear hj2 ho2 hl1
  generalize w1.heap.size = J at *
  go_wp2_with fail
  go_at_call 41
  refine (open_nil _).mono ?_
  rintro e w3 ⟨rfl, rfl⟩
  go_wp2_with fail
  go_at_call 43
  refine (append_e HJ2.out [97] E1.out (by decide) (by decide) (by decide)).mono ?_
  rintro e w3 ⟨rfl, v3, hj3, hk3, hv3⟩
  have HB3 := Lib.hid (HB2.out.trans (HJ2.out.kpb hk3 (Nat.le_trans HGE.out HB2.out.size)))
  have HJ3 := Lib.hid hj3
  clear hj3 hk3 hv3
  go_wp2_with fail
  go_at_call 42
  refine (snap_e HJ3.out [111, 110, 101] E2.out (by decide) (by decide)).mono ?_
  rintro e w4 ⟨rfl, v4, hj4, hk4, hv4⟩
  have HB4 := Lib.hid (HB3.out.trans (HJ3.out.kpb hk4 (Nat.le_trans HGE.out HB3.out.size)))
  have HJ4 := Lib.hid hj4
  clear hj4 hk4 hv4
  go_wp2_with fail
  go_at_call 43
  refine (append_e HJ4.out [98] E3.out (by decide) (by decide) (by decide)).mono ?_
  rintro e w5 ⟨rfl, v5, hj5, hk5, hv5⟩
  have HB5 := Lib.hid (HB4.out.trans (HJ4.out.kpb hk5 (Nat.le_trans HGE.out HB4.out.size)))
  have HJ5 := Lib.hid hj5
  clear hj5 hk5 hv5
  go_wp2_with fail
  go_at_call 41
  refine (open_l G G d3 _ d3 O3.out (Nat.le_refl _) P3.out _ HJ5.out.jour.hd).mono ?_
  rintro e w6 ⟨rfl, v6, hj6, ho6⟩
  have HB6 := Lib.hid (HB5.out.trans (ho6.onb (Nat.le_refl _) (Nat.le_trans HGE.out HB5.out.size)))
  have HJ6 := Lib.hid hj6
  clear hj6 ho6
  generalize w5.heap.size = K at *
  go_wp2_with fail
  go_at_call 46
  refine (text_l HJ6.out).mono ?_
  rintro e w7 ⟨rfl, n7, rfl⟩
  have HB7 := Lib.hid (drewN_below HB6.out n7)
  have HJ7 := Lib.hid (HJ6.out.below (drewN_below (Below.refl _ _) n7))
  generalize w6.drewN n7 = w7 at *
  go_wp2_with fail
  go_at_call 23
  refine (A4.out G _ HJ7.out.jour.hd).mono ?_
  rintro e w8 ⟨rfl, hd8, ho8⟩
  have HB8 := Lib.hid (HB7.out.trans (ho8.onb (Nat.le_refl _) (Nat.le_trans HGE.out HB7.out.size)))
  have HJ8 := Lib.hid (HJ7.out.turn ho8 hd8 O4.out)
  clear hd8 ho8
  go_wp2_with fail
  go_at_call 41
  refine (open_n G d4 8 d4 O4.out P4.out _ HJ8.out.jour.hd).mono ?_
  rintro e w9 ⟨rfl, hd9, _, ho9⟩
  have HB9 := Lib.hid (HB8.out.trans (ho9.onb (Nat.le_refl _) (Nat.le_trans HGE.out HB8.out.size)))
  have HJ9 := Lib.hid (HJ8.out.turn ho9 hd9 O4.out)
  clear hd9 ho9 HB1 HB2 HB3 HB4 HB5 HB6 HB7 HB8 HJ2 HJ3 HJ4 HJ5 HJ6 HJ7 HJ8
  go_wp2_with fail
  go_at_call 44
  refine (records_l HJ9.out (by decide)).mono ?_
  rintro e w10 ⟨u, rfl, hu, hb10⟩
  have HB10 := Lib.hid (HB9.out.trans (hb10.mono (Nat.le_trans HGE.out HB9.out.size)))
  have HJ10 := Lib.hid (HJ9.out.below hb10)
  have hba := alloc_below w10 (.cells #[.string ⟨#[98]⟩] 9 (0, 0))
  have HU := Lib.hid (slStr_below hu hba)
  have HB11 := Lib.hid (HB10.out.trans (hba.mono (Nat.le_trans HGE.out HB10.out.size)))
  have HJ11 := Lib.hid (HJ10.out.below hba)
  have HV := Lib.hid (show SlStr (w10.alloc (.cells #[.string ⟨#[98]⟩] 9 (0, 0))) (.slice (some ⟨w10.heap.size, 0, none⟩) 1 1) [[98]] from
    ⟨some ⟨w10.heap.size, 0, none⟩, 1, rfl, fun _ => ⟨w10.heap.size, 0, rfl, fun i x hx => by
      match i, hx with
      | 0, hx => cases hx; exact (cell_of_row _ _ 0 _ _ _ (heap_alloc_new _ _)).trans rfl⟩⟩)
  clear hu hb10 hba
  go_wp2_with fail
  generalize w10.alloc (.cells #[.string ⟨#[98]⟩] 9 (0, 0)) = w11 at *
  generalize w10.heap.size = Q at *
  go_at_call 35
  refine (same_any _ _ _ _ _ HU.out HV.out (by decide)).mono ?_
  rintro e w12 ⟨rfl, n12, rfl⟩
  have HB12 := Lib.hid (drewN_below HB11.out n12)
  have HJ12 := Lib.hid (HJ11.out.below (drewN_below (Below.refl _ _) n12))
  generalize w11.drewN n12 = w12 at *
  go_wp2_with fail
  go_at_call 45
  refine (last_l HJ12.out (by decide)).mono ?_
  rintro e w13 ⟨rfl, n13, rfl⟩
  go_wp2
  go_ret
  exact ⟨rfl, drewN_below (HB12.out.mono HGQ.out) n13⟩
end Go.Proofs.Ytdphnhgogokidaa
