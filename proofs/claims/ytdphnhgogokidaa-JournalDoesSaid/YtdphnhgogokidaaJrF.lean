/- The law's own question: is a journal the document's? -/
import Derived.Test.YtdphnhgogokidaaJrE
namespace Go.Proofs.Ytdphnhgogokidaa
open Go.RowKit

set_option maxRecDepth 100000 in
set_option maxHeartbeats 2000000 in
theorem same_none (v : Value) (w : World) : Calls Try.prog 50 #[.pointer none, .pointer none, v] w fun e w' => e = .returned (.bool true) ∧ w = w' := by
  go_enter Try.func50, Try.ntmps50
  go_wp2_with fail
  refine wp_loop_rounds 1 ?_
  rw [rounds_succ]
  go_wp2
  go_ret
  exact ⟨rfl, rfl⟩
set_option maxRecDepth 100000 in
set_option maxHeartbeats 4000000 in
theorem same_some {B : Nat} {w : World} {J g rj rg : Nat} {v rv : Value} {j : Jn} {d : Dk} (h1 : JL B w J g v j d) (h2 : RL B w rj rg rv j d) (hb : (j.base : Int) ≤ 9223372036854000000) (hl : j.recs.length ≤ 100000) :
    Calls Try.prog 50 #[.pointer (some ⟨J, 0, none⟩), .pointer (some ⟨rj, 0, none⟩), .pointer (some ⟨g, 0, none⟩)] w fun e w' => e = .returned (.bool true) ∧ Below w.heap.size w w' := by
  have H1 := Lib.hid h1
  have H2 := Lib.hid h2
  have c0 := h2.hj.c0
  obtain ⟨ra, rc, rfl⟩ := h2.ow.form
  clear h1 h2
  go_enter Try.func50, Try.ntmps50
  go_wp2_with fail
  go_loopw [7] (fun i wx => ∃ (k : Nat), k ≤ 4 ∧ i = .int .i64 k ∧ w = wx) (fun i _ => 4 - (intOf i).toNat)
  case atStart => exact ⟨0, by omega, rfl, rfl⟩
  case round =>
    obtain ⟨k, hk, rfl, rfl⟩ := hrel
    by_cases hk4 : k < 4
    · have hcr := H2.out.hd.cellb hk4
      have hki : (k : Int) < 4 := by omega
      go_wp2_with (go_at_call 21; refine (read_disk g _ k hk4 _ H1.out.jour.hd).mono ?_; rintro e w8 ⟨rfl, rfl⟩)
      go_roundw
      case rel => exact ⟨k + 1, by omega, by go_num, by first | rfl | trivial⟩
      case measure => simp [intOf]; omega
    · obtain rfl : k = 4 := by omega
      clear c0
      go_upto_region 12 with (go_at_call 46; refine (text_l H1.out).mono ?_; rintro e w5 ⟨rfl, n5, rfl⟩)
      have hd := (drewN_below (Below.refl w.heap.size w) n5)
      have HD1 := Lib.hid ((H1.out.below hd).below (Below.refl _ _).drew)
      have HD2 := Lib.hid ((H2.out.below hd).below (Below.refl _ _).drew)
      have HBD := Lib.hid (show Below w.heap.size w (w.drewN n5).drew from hd.drew)
      have r1 := (H2.out.below hd).hj.c1
      have r2 := (H2.out.below hd).hj.c2
      have r3 := (H2.out.below hd).hj.c3
      have R0 := Lib.hid (And.intro r1 (And.intro r2 r3))
      have RD := Lib.hid (show (w.drewN n5).drew.cell? ⟨rj, 1, none⟩ = _ ∧ (w.drewN n5).drew.cell? ⟨rj, 2, none⟩ = _ ∧ (w.drewN n5).drew.cell? ⟨rj, 3, none⟩ = _ from And.intro HD2.out.hj.c1 (And.intro HD2.out.hj.c2 HD2.out.hj.c3))
      have s1 := IntWalk.i64_in ((j.base : Int) + j.recs.length) (by omega)
      have hrn : j.recs.length ≤ 1000000 := by omega
      have hrm : j.recs.length ≤ 9223372036854775807 := by omega
      have hfi : (j.base : Int) + j.recs.length ≤ 9223372036854775806 := by omega
      clear hd
      generalize w.drewN n5 = w5 at *
      go_region_held (fun wx => wx.cell? ⟨rj, 1, none⟩ = some (.string ⟨j.text.toArray⟩) ∧ wx.cell? ⟨rj, 2, none⟩ = some (.int .i64 j.base) ∧ wx.cell? ⟨rj, 3, none⟩ = some (.slice ra j.recs.length rc)) (first | assumption | exact R0.out | exact RD.out | exact ⟨kept_at hb13 RD.out.1, kept_at hb13 RD.out.2.1, kept_at hb13 RD.out.2.2⟩)
        (first
          | (go_at_call 44; refine (records_l HD1.out hrn).mono ?_; rintro e w13 ⟨u13, rfl, hu13, hb13⟩)
          | (go_at_call 35; refine (same_same hu13 (HD2.out.ow.below hb13).sl hrm).mono ?_; rintro e w14 ⟨rfl, n14, rfl⟩)
          | (go_at_call 45; refine (last_l ((HD1.out.below hb13).below (drewN_below (Below.refl _ _) n14)) hfi).mono ?_; rintro e w15 ⟨rfl, n15, rfl⟩))
      have HB14 := Lib.hid (drewN_below (HBD.out.trans (hb13.mono HBD.out.size)) (n14 + n15))
      go_wp2
      go_ret
      exact ⟨rfl, HB14.out⟩
end Go.Proofs.Ytdphnhgogokidaa
