/- The walk of the law's 'awake'. -/
import Derived.Test.YtdphnhgogokidaaDiskJ
namespace Go.Proofs.Ytdphnhgogokidaa
open Go.RowKit

theorem Only.below_at {g : Nat} {w w' : World} (h : Only g w w') (hg : w.heap.size ≤ g) : Below w.heap.size w w' := ⟨h.os, h.tape, h.output, h.size, fun k hk => h.block k hk (fun e => by simp at e; omega)⟩
def aw0 : Dk := Dk.new 10
def aw1 : Dk := (aw0.append 0 [120, 121]).dk
def aw2 : Dk := (aw1.sync 0).dk
def aw3 : Dk := (aw2.append 0 [122]).dk
def aw4 : Dk := (aw3.append 1 [49, 50, 51, 52, 53, 54, 55, 56]).dk
def aw5 : Dk := (aw4.append 4 []).dk
def aw6 : Dk := aw5.crash (fun _ => 0)
def aw7 : Dk := (aw6.move 0 2).dk
def aw8 : Dk := (aw7.cutto 2 1).dk
def aw9 : Dk := { aw8 with fuse := max 0 (-1) }
def aw10 : Dk := (aw9.sync 2).dk
theorem aw0_ok : aw0.Ok := new_ok (by omega) (by omega)
theorem aw1_ok : aw1.Ok := append_ok aw0_ok _ _
theorem aw2_ok : aw2.Ok := sync_ok aw1_ok _
theorem aw3_ok : aw3.Ok := append_ok aw2_ok _ _
theorem aw4_ok : aw4.Ok := append_ok aw3_ok _ _
theorem aw5_ok : aw5.Ok := append_ok aw4_ok _ _
theorem aw6_ok : aw6.Ok := crash_ok aw5_ok _
theorem aw7_ok : aw7.Ok := move_ok aw6_ok _ _
theorem aw8_ok : aw8.Ok := cutto_ok aw7_ok _ _
theorem aw9_ok : aw9.Ok := fuse_ok aw8_ok _ (by omega)
theorem aw10_ok : aw10.Ok := sync_ok aw9_ok _
set_option maxRecDepth 100000 in
set_option maxHeartbeats 2000000 in
theorem awake05_any (w : World) : Calls Try.prog 15 #[] w fun e w' => e = .returned (.bool true) ∧ Below w.heap.size w w' := by
  have N0 := Lib.hid (new_disk 10 (by omega) (by omega))
  rw [show Dk.new 10 = aw0 from rfl] at N0
  have N1 := Lib.hid (new_none (-1) (by omega))
  have A1 := Lib.hid (fun g w h => append_disk g aw0 aw0_ok 0 [120, 121] (by simp) w h)
  have A2 := Lib.hid (fun g w h => sync_disk g aw1 aw1_ok 0 w h)
  have A3 := Lib.hid (fun g w h => append_disk g aw2 aw2_ok 0 [122] (by simp) w h)
  have A4 := Lib.hid (fun g w h => append_disk g aw3 aw3_ok 1 [49, 50, 51, 52, 53, 54, 55, 56] (by simp) w h)
  have A5 := Lib.hid (fun g w h => append_disk g aw4 aw4_ok 4 [] (by simp) w h)
  have A6 := Lib.hid (fun g w h => crash_disk g aw5 aw5_ok (fun _ => 0) (by intro; omega) w h)
  have R6 := Lib.hid (fun g w h => read_disk g aw6 0 (by omega) w h)
  have A7 := Lib.hid (fun g w h => move_disk g aw6 aw6_ok 0 2 w h)
  have R7 := Lib.hid (fun g w h => read_disk g aw7 2 (by omega) w h)
  have A8 := Lib.hid (fun g w h => cut_disk g aw7 aw7_ok 2 1 w h)
  have A9 := Lib.hid (fun g w h => fuse_disk g aw8 0 w h)
  have A10 := Lib.hid (fun g w h => sync_disk g aw9 aw9_ok 2 w h)
  have A11 := Lib.hid (fun g w h => left_disk g aw10 w h aw10_ok)
  rw [show (aw0.append 0 [120, 121]).code = 0 by kernel_rfl] at A1
  rw [show (aw1.sync 0).code = 0 by kernel_rfl] at A2
  rw [show (aw2.append 0 [122]).code = 0 by kernel_rfl] at A3
  rw [show (aw3.append 1 [49, 50, 51, 52, 53, 54, 55, 56]).code = 4 by kernel_rfl] at A4
  rw [show (aw4.append 4 []).code = 1 by kernel_rfl] at A5
  rw [show (aw6.move 0 2).code = 0 by kernel_rfl] at A7
  rw [show (aw7.cutto 2 1).code = 0 by kernel_rfl] at A8
  rw [show (aw9.sync 2).code = 9 by kernel_rfl] at A10
  rw [show aw10.left = 9 by kernel_rfl] at A11
  rw [show aw6.b 0 = [120, 121] by kernel_rfl] at R6
  rw [show aw7.b 2 = [120, 121] by kernel_rfl] at R7
  rw [show (aw0.append 0 [120, 121]).dk = aw1 from rfl] at A1
  rw [show (aw1.sync 0).dk = aw2 from rfl] at A2
  rw [show (aw2.append 0 [122]).dk = aw3 from rfl] at A3
  rw [show (aw3.append 1 [49, 50, 51, 52, 53, 54, 55, 56]).dk = aw4 from rfl] at A4
  rw [show (aw4.append 4 []).dk = aw5 from rfl] at A5
  rw [show aw5.crash (fun _ => 0) = aw6 from rfl, show kept4 (fun _ => 0) = #[.int .i64 0, .int .i64 0, .int .i64 0, .int .i64 0] from rfl] at A6
  rw [show (aw6.move 0 2).dk = aw7 from rfl] at A7
  rw [show (aw7.cutto 2 1).dk = aw8 from rfl] at A8
  rw [show ({ aw8 with fuse := max 0 (-1) } : Dk) = aw9 from rfl] at A9
  rw [show (aw9.sync 2).dk = aw10 from rfl] at A10
  rw [show ((0 : Nat) : Int) = 0 from rfl] at R6
  rw [show ((2 : Nat) : Int) = 2 from rfl] at R7
  generalize aw0 = d0 at *
  generalize aw1 = d1 at *
  generalize aw2 = d2 at *
  generalize aw3 = d3 at *
  generalize aw4 = d4 at *
  generalize aw5 = d5 at *
  generalize aw6 = d6 at *
  generalize aw7 = d7 at *
  generalize aw8 = d8 at *
  generalize aw9 = d9 at *
  generalize aw10 = d10 at *
  go_enter Try.func15, Try.ntmps15
  go_wp2_with fail
  go_at_call 16
  refine (N0.out _).mono ?_
  rintro e w1 ⟨rfl, hd, hb, hl⟩
  generalize hG : w.heap.size = G at *
  have h0 := Lib.hid (show DiskAt w1 G d0 from hd)
  have o0 : Only G w w1 := Only.of_below (by rw [hG]; exact hb)
  clear hd
  go_wp2_with (first
    | (go_at_call 16; refine (N1.out _).mono ?_; rintro e wn ⟨rfl, rfl⟩)
    | (go_at_call_of 23 (Value.string ⟨#[120, 121]⟩); refine (A1.out _ _ h0.out).mono ?_; rintro e w2 ⟨rfl, h1, o1⟩; replace h1 := Lib.hid h1)
    | (go_at_call_of 26 (Value.int IntKind.i64 0); refine (A2.out _ _ h1.out).mono ?_; rintro e w3 ⟨rfl, h2, o2⟩; replace h2 := Lib.hid h2)
    | (go_at_call_of 23 (Value.string ⟨#[122]⟩); refine (A3.out _ _ h2.out).mono ?_; rintro e w4 ⟨rfl, h3, o3⟩; replace h3 := Lib.hid h3)
    | (go_at_call_of 23 (Value.int IntKind.i64 1); refine (A4.out _ _ h3.out).mono ?_; rintro e w5 ⟨rfl, h4, o4⟩; replace h4 := Lib.hid h4)
    | (go_at_call_of 23 (Value.int IntKind.i64 4); refine (A5.out _ _ h4.out).mono ?_; rintro e w6 ⟨rfl, h5, o5⟩; replace h5 := Lib.hid h5)
    | (go_at_call 22; refine (A6.out _ _ h5.out).mono ?_; rintro e w7 ⟨rfl, h6, o6⟩; replace h6 := Lib.hid h6)
    | (go_at_call_of 21 (Value.int IntKind.i64 0); refine (R6.out _ _ h6.out).mono ?_; rintro e w7' ⟨rfl, rfl⟩)
    | (go_at_call 24; refine (A7.out _ _ h6.out).mono ?_; rintro e w8 ⟨rfl, h7, o7⟩; replace h7 := Lib.hid h7)
    | (go_at_call_of 21 (Value.int IntKind.i64 2); refine (R7.out _ _ h7.out).mono ?_; rintro e w8' ⟨rfl, rfl⟩)
    | (go_at_call 27; refine (A8.out _ _ h7.out).mono ?_; rintro e w9 ⟨rfl, h8, o8⟩; replace h8 := Lib.hid h8)
    | (go_at_call 25; refine (A9.out _ _ h8.out).mono ?_; rintro e w10 ⟨rfl, h9, o9⟩; replace h9 := Lib.hid h9)
    | (go_at_call_of 26 (Value.int IntKind.i64 2); refine (A10.out _ _ h9.out).mono ?_; rintro e w11 ⟨rfl, h10, o10⟩; replace h10 := Lib.hid h10)
    | (go_at_call 19; refine (A11.out _ _ h10.out).mono ?_; rintro e w12 ⟨rfl, b12⟩))
  go_ret
  have hO := (((((((((((o0.trans o1).trans o2).trans o3).trans o4).trans o5).trans o6).trans o7).trans o8).trans o9).trans o10).trans (Only.of_below b12))
  exact ⟨rfl, Only.below_at hO (by omega)⟩
end Go.Proofs.Ytdphnhgogokidaa
