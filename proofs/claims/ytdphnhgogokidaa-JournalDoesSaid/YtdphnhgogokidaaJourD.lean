/- The journal: a file cut; what each step does. -/
import Derived.Test.YtdphnhgogokidaaJourC
import Derived.StillTailTactics
namespace Go.Proofs.Ytdphnhgogokidaa
open Go.RowKit

/-- a file is cut, if it has more. -/
def cutx (i n : Nat) (d : Dk) : Out := if (d.b i).length = n then ⟨0, d⟩ else d.cutto i n
theorem cutx_ok {d : Dk} (h : d.Ok) (i n : Nat) : (cutx i n d).dk.Ok := by
  unfold cutx
  split
  · exact h
  · exact cutto_ok h _ _
theorem Box.only {w w' : World} {k g : Nat} {v : Value} (h : Box w k v) (ho : Only g w w') (hne : k ≠ g) : Box w' k v := ho.cell h hne
set_option maxRecDepth 100000 in
set_option maxHeartbeats 1000000 in
theorem jcut_any (jg g : Nat) (v : Value) (j : Jn) (d : Dk) (ho : d.Ok) (i n : Nat) (hi : i < 4) (w : World) (hj : JAt w jg g v j) (hd : DiskAt w g d) :
    Calls Try.prog 73 #[.pointer (some ⟨jg, 0, none⟩), .int .i64 i, .int .i64 n] w fun e w' => e = .returned (.int .i64 (cutx i n d).code) ∧ DiskAt w' g (cutx i n d).dk ∧ Only g w w' := by
  have c0 := hj.c0
  have HR := Lib.hid (read_disk g d i hi w hd)
  have HC := Lib.hid (cut_disk g d ho i n w hd)
  by_cases he : (d.b i).length = n
  · have hX : cutx i n d = ⟨0, d⟩ := if_pos he
    have he1 : (((d.b i).length : Int) == (n : Int)) = true := by simp [he]
    have HX := Lib.hid hX
    have HD := Lib.hid hd
    clear hX he hj hd HC ho
    generalize d.b i = bb at *
    go_enter Try.func73, Try.ntmps73
    go_wp2_with (go_at_call 21; refine (HR.out).mono ?_; rintro e w1 ⟨rfl, rfl⟩)
    go_ret
    exact ⟨by rw [HX.out]; rfl, by rw [HX.out]; exact HD.out, Only.refl _ _⟩
  · have hX : cutx i n d = d.cutto i n := if_neg he
    have he1 : (((d.b i).length : Int) == (n : Int)) = false := by simp; omega
    have HX := Lib.hid hX
    clear hX he hj hd ho
    generalize d.b i = bb at *
    go_enter Try.func73, Try.ntmps73
    go_wp2_with (first | (go_at_call 21; refine (HR.out).mono ?_; rintro e w1 ⟨rfl, rfl⟩) | (go_at_call 27; refine (HC.out).mono ?_; rintro e w2 ⟨rfl, hd2, ho2⟩))
    go_ret
    exact ⟨by rw [HX.out]; rfl, by rw [HX.out]; exact hd2, ho2⟩
set_option maxRecDepth 100000 in
set_option maxHeartbeats 1000000 in
theorem does_append0 (jg g kj kf : Nat) (v : Value) (j : Jn) (f : List UInt8) (hf : f.length ≤ 140737488355328) (w0 : World) (hb : Box w0 kj (.pointer (some ⟨jg, 0, none⟩))) (hk : kj ≠ g) (hbf : Box w0 kf (.string ⟨f.toArray⟩)) (hkf : kf ≠ g) (hj : JAt w0 jg g v j) (hne : jg ≠ g) :
    Does g w0 ⟨82, #[.pointer (some ⟨kj, 0, none⟩), .pointer (some ⟨kf, 0, none⟩)], fun d => d.append 0 f⟩ := by
  refine ⟨fun _ _ => rfl, fun w1 d1 hon hd ho => ?_⟩
  have c1 := hb.only hon hk
  have c2 := hbf.only hon hkf
  have hj1 := hj.only hon hne
  have c0 := hj1.c0
  have HC := Lib.hid (append_disk g d1 ho 0 f hf w1.drew hd)
  have HOK := Lib.hid (append_ok ho 0 f)
  unfold Box at c1 c2
  clear hb hj hj1 hon hd ho hbf hf
  dsimp only
  go_enter Try.func82, Try.ntmps82
  go_upto_region 1 with (fail)
  go_still_tail 5, (by kernel_rfl)
  change wpList _ _ _ _ _ w1.drew
  go_wp2_with (go_at_call 23; refine (HC.out).mono ?_; rintro e w2 ⟨rfl, hd2, ho2⟩)
  go_ret
  exact ⟨rfl, hd2, HOK.out, Only.undrew ho2⟩
set_option maxRecDepth 100000 in
set_option maxHeartbeats 1000000 in
theorem does_append2 (jg g kj kf : Nat) (v : Value) (j : Jn) (f : List UInt8) (hf : f.length ≤ 140737488355328) (w0 : World) (hb : Box w0 kj (.pointer (some ⟨jg, 0, none⟩))) (hk : kj ≠ g) (hbf : Box w0 kf (.string ⟨f.toArray⟩)) (hkf : kf ≠ g) (hj : JAt w0 jg g v j) (hne : jg ≠ g) :
    Does g w0 ⟨78, #[.pointer (some ⟨kj, 0, none⟩), .pointer (some ⟨kf, 0, none⟩)], fun d => d.append 2 f⟩ := by
  refine ⟨fun _ _ => rfl, fun w1 d1 hon hd ho => ?_⟩
  have c1 := hb.only hon hk
  have c2 := hbf.only hon hkf
  have hj1 := hj.only hon hne
  have c0 := hj1.c0
  have HC := Lib.hid (append_disk g d1 ho 2 f hf w1.drew hd)
  have HOK := Lib.hid (append_ok ho 2 f)
  unfold Box at c1 c2
  clear hb hj hj1 hon hd ho hbf hf
  dsimp only
  go_enter Try.func78, Try.ntmps78
  go_upto_region 1 with (fail)
  go_still_tail 5, (by kernel_rfl)
  change wpList _ _ _ _ _ w1.drew
  go_wp2_with (go_at_call 23; refine (HC.out).mono ?_; rintro e w2 ⟨rfl, hd2, ho2⟩)
  go_ret
  exact ⟨rfl, hd2, HOK.out, Only.undrew ho2⟩
set_option maxRecDepth 100000 in
set_option maxHeartbeats 1000000 in
theorem does_sync0 (jg g kj : Nat) (v : Value) (j : Jn) (w0 : World) (hb : Box w0 kj (.pointer (some ⟨jg, 0, none⟩))) (hk : kj ≠ g) (hj : JAt w0 jg g v j) (hne : jg ≠ g) :
    Does g w0 ⟨83, #[.pointer (some ⟨kj, 0, none⟩)], fun d => d.sync 0⟩ := by
  refine ⟨fun _ _ => rfl, fun w1 d1 hon hd ho => ?_⟩
  have c1 := hb.only hon hk
  have hj1 := hj.only hon hne
  have c0 := hj1.c0
  have HC := Lib.hid (sync_disk g d1 ho 0 w1 hd)
  have HOK := Lib.hid (sync_ok ho 0)
  unfold Box at c1
  clear hb hj hj1 hon hd ho
  dsimp only
  go_enter Try.func83, Try.ntmps83
  go_wp2_with (go_at_call 26; refine (HC.out).mono ?_; rintro e w2 ⟨rfl, hd2, ho2⟩)
  go_ret
  exact ⟨rfl, hd2, HOK.out, ho2⟩
set_option maxRecDepth 100000 in
set_option maxHeartbeats 1000000 in
theorem does_sync2 (jg g kj : Nat) (v : Value) (j : Jn) (w0 : World) (hb : Box w0 kj (.pointer (some ⟨jg, 0, none⟩))) (hk : kj ≠ g) (hj : JAt w0 jg g v j) (hne : jg ≠ g) :
    Does g w0 ⟨79, #[.pointer (some ⟨kj, 0, none⟩)], fun d => d.sync 2⟩ := by
  refine ⟨fun _ _ => rfl, fun w1 d1 hon hd ho => ?_⟩
  have c1 := hb.only hon hk
  have hj1 := hj.only hon hne
  have c0 := hj1.c0
  have HC := Lib.hid (sync_disk g d1 ho 2 w1 hd)
  have HOK := Lib.hid (sync_ok ho 2)
  unfold Box at c1
  clear hb hj hj1 hon hd ho
  dsimp only
  go_enter Try.func79, Try.ntmps79
  go_wp2_with (go_at_call 26; refine (HC.out).mono ?_; rintro e w2 ⟨rfl, hd2, ho2⟩)
  go_ret
  exact ⟨rfl, hd2, HOK.out, ho2⟩
set_option maxRecDepth 100000 in
set_option maxHeartbeats 1000000 in
theorem does_move (jg g kj : Nat) (v : Value) (j : Jn) (w0 : World) (hb : Box w0 kj (.pointer (some ⟨jg, 0, none⟩))) (hk : kj ≠ g) (hj : JAt w0 jg g v j) (hne : jg ≠ g) :
    Does g w0 ⟨80, #[.pointer (some ⟨kj, 0, none⟩)], fun d => d.move 2 1⟩ := by
  refine ⟨fun _ _ => rfl, fun w1 d1 hon hd ho => ?_⟩
  have c1 := hb.only hon hk
  have hj1 := hj.only hon hne
  have c0 := hj1.c0
  have HC := Lib.hid (move_disk g d1 ho 2 1 w1 hd)
  have HOK := Lib.hid (move_ok ho 2 1)
  unfold Box at c1
  clear hb hj hj1 hon hd ho
  dsimp only
  go_enter Try.func80, Try.ntmps80
  go_wp2_with (go_at_call 24; refine (HC.out).mono ?_; rintro e w2 ⟨rfl, hd2, ho2⟩)
  go_ret
  exact ⟨rfl, hd2, HOK.out, ho2⟩
set_option maxRecDepth 100000 in
set_option maxHeartbeats 1000000 in
theorem does_cut0 (jg g kj : Nat) (v : Value) (j : Jn) (w0 : World) (hb : Box w0 kj (.pointer (some ⟨jg, 0, none⟩))) (hk : kj ≠ g) (hj : JAt w0 jg g v j) (hne : jg ≠ g) :
    Does g w0 ⟨81, #[.pointer (some ⟨kj, 0, none⟩)], fun d => d.cutto 0 0⟩ := by
  refine ⟨fun _ _ => rfl, fun w1 d1 hon hd ho => ?_⟩
  have c1 := hb.only hon hk
  have hj1 := hj.only hon hne
  have c0 := hj1.c0
  have HC := Lib.hid (cut_disk g d1 ho 0 0 w1 hd)
  have HOK := Lib.hid (cutto_ok ho 0 0)
  unfold Box at c1
  clear hb hj hj1 hon hd ho
  dsimp only
  go_enter Try.func81, Try.ntmps81
  go_wp2_with (go_at_call 27; refine (HC.out).mono ?_; rintro e w2 ⟨rfl, hd2, ho2⟩)
  go_ret
  exact ⟨rfl, hd2, HOK.out, ho2⟩
set_option maxRecDepth 100000 in
set_option maxHeartbeats 1000000 in
theorem does_clear (jg g kj : Nat) (v : Value) (j : Jn) (w0 : World) (hb : Box w0 kj (.pointer (some ⟨jg, 0, none⟩))) (hk : kj ≠ g) (hj : JAt w0 jg g v j) (hne : jg ≠ g) :
    Does g w0 ⟨77, #[.pointer (some ⟨kj, 0, none⟩)], fun d => cutx 2 0 d⟩ := by
  refine ⟨fun _ _ => rfl, fun w1 d1 hon hd ho => ?_⟩
  have c1 := hb.only hon hk
  have hj1 := hj.only hon hne
  have c0 := hj1.c0
  have HC := Lib.hid (jcut_any jg g v j d1 ho 2 0 (by omega) w1 hj1 hd)
  have HOK := Lib.hid (cutx_ok ho 2 0)
  unfold Box at c1
  clear hb hj hj1 hon hd ho
  dsimp only
  go_enter Try.func77, Try.ntmps77
  go_wp2_with (go_at_call 73; refine (HC.out).mono ?_; rintro e w2 ⟨rfl, hd2, ho2⟩)
  go_ret
  exact ⟨rfl, hd2, HOK.out, ho2⟩
set_option maxRecDepth 100000 in
set_option maxHeartbeats 1000000 in
theorem does_clear2 (jg g kj : Nat) (v : Value) (j : Jn) (w0 : World) (hb : Box w0 kj (.pointer (some ⟨jg, 0, none⟩))) (hk : kj ≠ g) (hj : JAt w0 jg g v j) (hne : jg ≠ g) :
    Does g w0 ⟨74, #[.pointer (some ⟨kj, 0, none⟩)], fun d => cutx 2 0 d⟩ := by
  refine ⟨fun _ _ => rfl, fun w1 d1 hon hd ho => ?_⟩
  have c1 := hb.only hon hk
  have hj1 := hj.only hon hne
  have c0 := hj1.c0
  have HC := Lib.hid (jcut_any jg g v j d1 ho 2 0 (by omega) w1 hj1 hd)
  have HOK := Lib.hid (cutx_ok ho 2 0)
  unfold Box at c1
  clear hb hj hj1 hon hd ho
  dsimp only
  go_enter Try.func74, Try.ntmps74
  go_wp2_with (go_at_call 73; refine (HC.out).mono ?_; rintro e w2 ⟨rfl, hd2, ho2⟩)
  go_ret
  exact ⟨rfl, hd2, HOK.out, ho2⟩
set_option maxRecDepth 100000 in
set_option maxHeartbeats 1000000 in
theorem does_trim (jg g kj ke : Nat) (v : Value) (j : Jn) (n : Nat) (w0 : World) (hb : Box w0 kj (.pointer (some ⟨jg, 0, none⟩))) (hk : kj ≠ g) (hbe : Box w0 ke (.int .i64 n)) (hke : ke ≠ g) (hj : JAt w0 jg g v j) (hne : jg ≠ g) :
    Does g w0 ⟨72, #[.pointer (some ⟨kj, 0, none⟩), .pointer (some ⟨ke, 0, none⟩)], fun d => cutx 0 n d⟩ := by
  refine ⟨fun _ _ => rfl, fun w1 d1 hon hd ho => ?_⟩
  have c1 := hb.only hon hk
  have c2 := hbe.only hon hke
  have hj1 := hj.only hon hne
  have HC := Lib.hid (jcut_any jg g v j d1 ho 0 n (by omega) w1 hj1 hd)
  have HOK := Lib.hid (cutx_ok ho 0 n)
  unfold Box at c1 c2
  clear hb hj hj1 hon hd ho hbe
  dsimp only
  go_enter Try.func72, Try.ntmps72
  go_wp2_with (go_at_call 73; refine (HC.out).mono ?_; rintro e w2 ⟨rfl, hd2, ho2⟩)
  go_ret
  exact ⟨rfl, hd2, HOK.out, ho2⟩
end Go.Proofs.Ytdphnhgogokidaa
