/- The walk of DiskMoves. -/
import Derived.Test.YtdphnhgogokidaaDiskN
namespace Go.Proofs.Ytdphnhgogokidaa
open Go.RowKit

theorem Only.below_from {g B : Nat} {w w' : World} (h : Only g w w') (hs : B ≤ w.heap.size) (hg : B ≤ g) : Below B w w' := ⟨h.os, h.tape, h.output, h.size, fun k hk => h.block k (by omega) (fun e => by simp at e; omega)⟩
theorem step_pow {c : Dk} (hf : c.fuse = -1) (hd : c.down = false) (f : Dk → Out) : c.step f = f c := by
  unfold Dk.step
  have hb : c.burnt = c := by simp [Dk.burnt, hf]
  rw [if_neg (by rw [hf, hd]; simp), hb]
theorem step_none {c : Dk} (hf : c.fuse = 0) (f : Dk → Out) : c.step f = ⟨9, { c with down := true }⟩ := if_pos (.inl hf)
theorem move_pow {c : Dk} (hf : c.fuse = -1) (hd : c.down = false) {i j : Nat} (hi : i < 4) (hj : j < 4) : c.move i j = c.mov i j := by
  have h : c.move (i : Int) (j : Int) = c.step (·.mov i j) := if_pos ⟨hasB_yes hi, hasB_yes hj⟩
  rw [h, step_pow hf hd]
theorem mov_code (c : Dk) (i j : Nat) : (c.mov i j).code = 0 := by unfold Dk.mov; split <;> rfl
theorem mov_fuse (c : Dk) (i j : Nat) : (c.mov i j).dk.fuse = c.fuse := by unfold Dk.mov; split <;> rfl
theorem mov_down (c : Dk) (i j : Nat) : (c.mov i j).dk.down = c.down := by unfold Dk.mov; split <;> rfl
theorem mov_back (c : Dk) (i j : Nat) : ((c.mov i j).dk.mov j i).dk.b i = c.b i := by
  by_cases h : i = j
  · subst h; simp [Dk.mov]
  · have h' : ¬ j = i := fun e => h e.symm
    simp [Dk.mov, h, h', upd]
/-- what the last calls of DiskMoves find. -/
structure Tail (G : Nat) (A B : Nat) (s : List UInt8) (d c c1 c2 c3 c4 : Dk) : Prop where
  cr : ∀ w, DiskAt w G d → Calls Try.prog 22 #[.pointer (some ⟨G, 0, none⟩), .agg #[.int .i64 1048576, .int .i64 1048576, .int .i64 1048576, .int .i64 1048576]] w fun e w' => e = .returned (.tuple #[]) ∧ DiskAt w' G c ∧ Only G w w'
  r0 : ∀ w, DiskAt w G c → Calls Try.prog 21 #[.pointer (some ⟨G, 0, none⟩), .int .i64 A] w fun e w' => e = .returned (.tuple #[.string ⟨s.toArray⟩, .int .i64 0]) ∧ w = w'
  m1 : ∀ w, DiskAt w G c → Calls Try.prog 24 #[.pointer (some ⟨G, 0, none⟩), .int .i64 A, .int .i64 B] w fun e w' => e = .returned (.int .i64 0) ∧ DiskAt w' G c1 ∧ Only G w w'
  m2 : ∀ w, DiskAt w G c1 → Calls Try.prog 24 #[.pointer (some ⟨G, 0, none⟩), .int .i64 B, .int .i64 A] w fun e w' => e = .returned (.int .i64 0) ∧ DiskAt w' G c2 ∧ Only G w w'
  r2 : ∀ w, DiskAt w G c2 → Calls Try.prog 21 #[.pointer (some ⟨G, 0, none⟩), .int .i64 A] w fun e w' => e = .returned (.tuple #[.string ⟨s.toArray⟩, .int .i64 0]) ∧ w = w'
  fu : ∀ w, DiskAt w G c2 → Calls Try.prog 25 #[.pointer (some ⟨G, 0, none⟩), .int .i64 0] w fun e w' => e = .returned (.tuple #[]) ∧ DiskAt w' G c3 ∧ Only G w w'
  ap : ∀ w, DiskAt w G c3 → Calls Try.prog 23 #[.pointer (some ⟨G, 0, none⟩), .int .i64 A, .string ⟨#[120]⟩] w fun e w' => e = .returned (.int .i64 9) ∧ DiskAt w' G c4 ∧ Only G w w'
  sy : ∀ w, DiskAt w G c4 → Calls Try.prog 26 #[.pointer (some ⟨G, 0, none⟩), .int .i64 A] w fun e w' => e = .returned (.int .i64 9) ∧ DiskAt w' G c4 ∧ Only G w w'
  cu : ∀ w, DiskAt w G c4 → Calls Try.prog 27 #[.pointer (some ⟨G, 0, none⟩), .int .i64 A, .int .i64 0] w fun e w' => e = .returned (.int .i64 9) ∧ DiskAt w' G c4 ∧ Only G w w'
  mv : ∀ w, DiskAt w G c4 → Calls Try.prog 24 #[.pointer (some ⟨G, 0, none⟩), .int .i64 A, .int .i64 B] w fun e w' => e = .returned (.int .i64 9) ∧ DiskAt w' G c4 ∧ Only G w w'
  r4 : ∀ w, DiskAt w G c4 → Calls Try.prog 21 #[.pointer (some ⟨G, 0, none⟩), .int .i64 A] w fun e w' => e = .returned (.tuple #[.string ⟨s.toArray⟩, .int .i64 0]) ∧ w = w'
set_option maxRecDepth 100000 in
theorem tail_any (G : Nat) (d : Dk) (ho : d.Ok) (A B : Nat) (hA : A < 4) (hB : B < 4) : ∃ s c c1 c2 c3 c4, Tail G A B s d c c1 c2 c3 c4 := by
  obtain ⟨c, hc⟩ : ∃ c, c = d.crash (fun _ => 1048576) := ⟨_, rfl⟩
  have oc : c.Ok := by rw [hc]; exact crash_ok ho _
  have fc : c.fuse = -1 := by rw [hc]; rfl
  have dc : c.down = false := by rw [hc]; rfl
  obtain ⟨c1, h1⟩ : ∃ c1, c1 = (c.mov A B).dk := ⟨_, rfl⟩
  have o1 : c1.Ok := by rw [h1]; exact mov_ok oc hA hB
  have f1 : c1.fuse = -1 := by rw [h1, mov_fuse]; exact fc
  have d1 : c1.down = false := by rw [h1, mov_down]; exact dc
  obtain ⟨c2, h2⟩ : ∃ c2, c2 = (c1.mov B A).dk := ⟨_, rfl⟩
  have o2 : c2.Ok := by rw [h2]; exact mov_ok o1 hB hA
  have b2 : c2.b A = c.b A := by rw [h2, h1]; exact mov_back c A B
  obtain ⟨c3, h3⟩ : ∃ c3, c3 = { c2 with fuse := max 0 (-1) } := ⟨_, rfl⟩
  have o3 : c3.Ok := by rw [h3]; exact fuse_ok o2 0 (by omega)
  have f3 : c3.fuse = 0 := by rw [h3]; rfl
  have b3 : c3.b A = c.b A := by rw [h3]; exact b2
  obtain ⟨c4, h4⟩ : ∃ c4, c4 = { c3 with down := true } := ⟨_, rfl⟩
  have o4 : c4.Ok := by rw [h4]; exact ⟨o3.room0, o3.room1, o3.fuse, o3.fuse1, o3.left, o3.sure⟩
  have f4 : c4.fuse = 0 := by rw [h4]; exact f3
  have e4 : { c4 with down := true } = c4 := by rw [h4]
  have b4 : c4.b A = c.b A := by rw [h4]; exact b3
  have m1 : c.move A B = ⟨0, c1⟩ := by rw [move_pow fc dc hA hB, h1, ← mov_code c A B]
  have m2 : c1.move B A = ⟨0, c2⟩ := by rw [move_pow f1 d1 hB hA, h2, ← mov_code c1 B A]
  have ap : c3.append A [120] = ⟨9, c4⟩ := by rw [show c3.append A [120] = c3.step _ from if_pos (hasB_yes hA), step_none f3, h4]
  have sy : c4.sync A = ⟨9, c4⟩ := by rw [show c4.sync A = c4.step _ from if_pos (hasB_yes hA), step_none f4, e4]
  have cu : c4.cutto A 0 = ⟨9, c4⟩ := by rw [show c4.cutto A 0 = c4.step _ from if_pos ⟨hasB_yes hA, by omega, by omega⟩, step_none f4, e4]
  have mv : c4.move A B = ⟨9, c4⟩ := by rw [show c4.move A B = c4.step _ from if_pos ⟨hasB_yes hA, hasB_yes hB⟩, step_none f4, e4]
  refine ⟨c.b A, c, c1, c2, c3, c4, ?_, ?_, ?_, ?_, ?_, ?_, ?_, ?_, ?_, ?_, ?_⟩
  · intro w h; have := crash_disk G d ho (fun _ => 1048576) (by intro; omega) w h; rw [← hc] at this; exact this
  · intro w h; exact read_disk G c A hA w h
  · intro w h; have := move_disk G c oc A B w h; rw [m1] at this; exact this
  · intro w h; have := move_disk G c1 o1 B A w h; rw [m2] at this; exact this
  · intro w h; have := read_disk G c2 A hA w h; rw [b2] at this; exact this
  · intro w h; have := fuse_disk G c2 0 w h; rw [← h3] at this; exact this
  · intro w h; have := append_disk G c3 o3 A [120] (by simp) w h; rw [ap] at this; exact this
  · intro w h; have := sync_disk G c4 o4 A w h; rw [sy] at this; exact this
  · intro w h; have := cut_disk G c4 o4 A 0 w h; rw [cu] at this; exact this
  · intro w h; have := move_disk G c4 o4 A B w h; rw [mv] at this; exact this
  · intro w h; have := read_disk G c4 A hA w h; rw [b4] at this; exact this
namespace DiskMovesW
set_option maxRecDepth 100000 in
set_option maxHeartbeats 4000000 in
theorem walk (v : Value) (L : List DOp) (p q : Nat) (hp : (p : Int) ≤ 255) (hq : (q : Int) ≤ 255) (w : World) (hs : SlOp w v L) (hn : L.length ≤ 140737488355328) (hx : ∀ x ∈ L, x.Ok) :
    Calls Try.prog 5 #[v, .int .u8 p, .int .u8 q] w fun e w' => e = .returned (.bool true) ∧ Below w.heap.size w w' := by
  have N1 := Lib.hid (new_disk 1048576 (by omega) (by omega))
  have N2 := Lib.hid (ref_new 1048576 (by omega) (by omega))
  have HOK := Lib.hid (new_ok (room := 1048576) (by omega) (by omega))
  have HS := Lib.hid hs
  obtain ⟨a, c, rfl, _⟩ := hs
  have HX := Lib.hid hx
  clear hx
  go_enter Try.func5, Try.ntmps5
  go_upto_region 3 with (go_at_call 15; refine (awake05_any _).mono ?_; rintro e w1 ⟨rfl, hb1⟩)
  go_wp2_with fail
  go_at_call 16
  refine (N1.out _).mono ?_
  rintro e w2 ⟨rfl, hd2, hb2, hl2⟩
  go_wp2_with fail
  go_at_call 17
  refine (N2.out _).mono ?_
  rintro e w3 ⟨rfl, hd3, hb3, hl3⟩
  generalize hG1 : w1.heap.size = G1 at *
  generalize hG2 : w2.heap.size = G2 at *
  have hsz := hb1.size
  have hne : G1 ≠ G2 := by omega
  have HD := Lib.hid (hd2.below (by rw [hG2]; exact hb3))
  have HR := Lib.hid hd3
  have HB3 := Lib.hid (((hb1.trans (hb2.mono (by omega))).trans (hb3.mono (by omega))) : Below w.heap.size w w3)
  have HSL := Lib.hid (HS.out.below HB3.out (Nat.le_refl _))
  have hg1 : w.heap.size ≤ G1 := by omega
  have hg2 : w.heap.size ≤ G2 := by omega
  have hg3 : w.heap.size ≤ w3.heap.size := HB3.out.size
  have HZ := Lib.hid (And.intro hg1 (And.intro hg2 hg3))
  clear hd2 hd3 hb1 hb2 hb3 hl2 hl3 hsz hG1 hG2 hg1 hg2 hg3 N1 N2
  have HNE := Lib.hid hne
  clear hne
  generalize Dk.new 1048576 = D0 at *
  go_wp2_with fail
  go_loopw [11, 12] (fun s i wr => ∃ (k sz : Nat), k ≤ L.length ∧ k ≤ 40 ∧ i = .int .i64 k ∧ s = .int .i64 sz ∧ (sz : Int) ≤ 4000 ∧ DiskAt wr G1 (runs D0 (L.take k)) ∧ RefAt wr G2 (runs D0 (L.take k)) ∧ Below w.heap.size w wr ∧ SlOp wr (.slice a L.length c) L) (fun _ i _ => 40 - (intOf i).toNat)
  case atStart => exact ⟨0, 0, by omega, by omega, rfl, rfl, by omega, HD.out, HR.out, HB3.out, HSL.out⟩
  case round =>
    obtain ⟨k, sz, hk, hk40, rfl, rfl, hsz, hd, hr, hb, hsl⟩ := hrel
    clear HD HR HB3 HSL
    have HD := Lib.hid hd
    have HR := Lib.hid hr
    have HB := Lib.hid hb
    have HSL := Lib.hid hsl
    clear hd hr hb
    by_cases hlt : k < L.length
    · by_cases h40 : k < 40
      · obtain ⟨_, _, he, hc0⟩ := hsl
        simp only [Value.slice.injEq] at he
        obtain ⟨rfl, _, rfl⟩ := he
        obtain ⟨b, o, rfl, hc⟩ := hc0 (by intro h; subst h; simp at hlt)
        have hrg := hc k L[k] (by simp [hlt])
        clear hc hc0
        have hxo := HX.out L[k] (List.getElem_mem hlt)
        have HXO := Lib.hid hxo
        have hok : (runs D0 (L.take k)).Ok := runs_ok HOK.out _ (fun y hy => HX.out y (List.mem_of_mem_take hy))
        have HN := Lib.hid (runs_next D0 L hlt)
        have HOKd := Lib.hid hok
        have HOKn := Lib.hid (run_ok hok hxo)
        clear hok
        generalize L[k] = x at *
        generalize runs D0 (L.take k) = d at *
        have hcb := hrg 4 _ (opcells_b x)
        have hc0 : wr.cell? ⟨b, o + k * 9, none⟩ = some (.int .i64 x.k) := hrg 0 _ rfl
        have hc1 : wr.cell? ⟨b, o + k * 9 + 1, none⟩ = some (.int .i64 x.f) := hrg 1 _ rfl
        have hc2 : wr.cell? ⟨b, o + k * 9 + 2, none⟩ = some (.int .i64 x.n) := hrg 2 _ rfl
        have hc3 : wr.cell? ⟨b, o + k * 9 + 3, none⟩ = some (.int .i64 x.t) := hrg 3 _ rfl
        have hc5 : wr.cell? ⟨b, o + k * 9 + 5, none⟩ = some (.int .i64 (x.kept 0)) := hrg 5 _ rfl
        have hc6 : wr.cell? ⟨b, o + k * 9 + 6, none⟩ = some (.int .i64 (x.kept 1)) := hrg 6 _ rfl
        have hc7 : wr.cell? ⟨b, o + k * 9 + 7, none⟩ = some (.int .i64 (x.kept 2)) := hrg 7 _ rfl
        have hc8 : wr.cell? ⟨b, o + k * 9 + 8, none⟩ = some (.int .i64 (x.kept 3)) := hrg 8 _ rfl
        have hbl := hxo.b0
        clear hxo
        have HRG := Lib.hid hrg
        clear hrg
        by_cases hbig : (4000 : Int) < sz + x.b.length
        · go_wp2
          go_ret
          exact ⟨rfl, HB.out⟩
        · go_wp2_with (first
            | (go_at_call 18; refine (do_any G1 G2 HNE.out d HOKd.out x HXO.out _ HD.out HR.out).mono ?_; rintro e w5 ⟨rfl, hd5, hr5, hT⟩; replace hd5 := Lib.hid hd5; replace hr5 := Lib.hid hr5))
          have hb5 : Below w.heap.size w w5 := HB.out.trans (hT.below HB.out.size HZ.out.1 HZ.out.2.1)
          have hsl5 : SlOp w5 (.slice (some ⟨b, o, none⟩) L.length c) L := HS.out.below hb5 (Nat.le_refl _)
          have HB5 := Lib.hid hb5
          have HSL5 := Lib.hid hsl5
          clear hb5 hsl5 hT HB HD HR hcb HRG HSL hc0 hc1 hc2 hc3 hc5 hc6 hc7 hc8
          go_roundw
          case rel =>
            refine ⟨k + 1, sz + x.b.length, by omega, by omega, by go_num, by go_num, by omega, ?_, ?_, HB5.out, HSL5.out⟩
            · rw [← HN.out]; exact hd5.out
            · rw [← HN.out]; exact hr5.out
          case measure => simp [intOf]; omega
      · obtain rfl : k = 40 := by omega
        have hok : (runs D0 (L.take 40)).Ok := runs_ok HOK.out _ (fun y hy => HX.out y (List.mem_of_mem_take hy))
        clear hsl
        generalize runs D0 (L.take 40) = d at *
        obtain ⟨s, c0, c1, c2, c3, c4, ht⟩ := tail_any G1 d hok (p % 4) (q % 4) (by omega) (by omega)
        have HT := Lib.hid ht
        clear ht hok
        go_upto_region 15 with (fail)
        rw [show ((p : Int) % 4) = ((p % 4 : Nat) : Int) from by omega, show ((q : Int) % 4) = ((q % 4 : Nat) : Int) from by omega]
        generalize p % 4 = A at *
        generalize q % 4 = B at *
        go_upto_region 18 with (first
          | (go_at_call 22; refine (HT.out.cr _ HD.out).mono ?_; rintro e x1 ⟨rfl, y1, z1⟩; replace y1 := Lib.hid y1)
          | (go_at_call 21; refine (HT.out.r0 _ y1.out).mono ?_; rintro e x2 ⟨rfl, rfl⟩)
          | (go_at_call 24; refine (HT.out.m1 _ y1.out).mono ?_; rintro e x3 ⟨rfl, y3, z3⟩; replace y3 := Lib.hid y3))
        go_upto_region 21 with (first
          | (go_at_call 24; refine (HT.out.m2 _ y3.out).mono ?_; rintro e x4 ⟨rfl, y4, z4⟩; replace y4 := Lib.hid y4)
          | (go_at_call 21; refine (HT.out.r2 _ y4.out).mono ?_; rintro e x5 ⟨rfl, rfl⟩)
          | (go_at_call 25; refine (HT.out.fu _ y4.out).mono ?_; rintro e x6 ⟨rfl, y6, z6⟩; replace y6 := Lib.hid y6))
        go_wp2_with (first
          | (go_at_call 23; refine (HT.out.ap _ y6.out).mono ?_; rintro e x7 ⟨rfl, y7, z7⟩; replace y7 := Lib.hid y7)
          | (go_at_call 26; refine (HT.out.sy _ y7.out).mono ?_; rintro e x8 ⟨rfl, y8, z8⟩; replace y8 := Lib.hid y8)
          | (go_at_call 27; refine (HT.out.cu _ y8.out).mono ?_; rintro e x9 ⟨rfl, y9, z9⟩; replace y9 := Lib.hid y9)
          | (go_at_call 24; refine (HT.out.mv _ y9.out).mono ?_; rintro e x10 ⟨rfl, y10, z10⟩; replace y10 := Lib.hid y10)
          | (go_at_call 21; refine (HT.out.r4 _ y10.out).mono ?_; rintro e x11 ⟨rfl, rfl⟩))
        go_ret
        have hO := (((((((z1.trans z3).trans z4).trans z6).trans z7).trans z8).trans z9).trans z10)
        exact ⟨by simp, HB.out.trans (Only.below_from hO HB.out.size HZ.out.1)⟩
    · obtain rfl : k = L.length := by omega
      have hok : (runs D0 (L.take L.length)).Ok := runs_ok HOK.out _ (fun y hy => HX.out y (List.mem_of_mem_take hy))
      clear hsl
      generalize runs D0 (L.take L.length) = d at *
      obtain ⟨s, c0, c1, c2, c3, c4, ht⟩ := tail_any G1 d hok (p % 4) (q % 4) (by omega) (by omega)
      have HT := Lib.hid ht
      clear ht hok
      go_upto_region 15 with (fail)
      rw [show ((p : Int) % 4) = ((p % 4 : Nat) : Int) from by omega, show ((q : Int) % 4) = ((q % 4 : Nat) : Int) from by omega]
      generalize p % 4 = A at *
      generalize q % 4 = B at *
      go_upto_region 18 with (first
        | (go_at_call 22; refine (HT.out.cr _ HD.out).mono ?_; rintro e x1 ⟨rfl, y1, z1⟩; replace y1 := Lib.hid y1)
        | (go_at_call 21; refine (HT.out.r0 _ y1.out).mono ?_; rintro e x2 ⟨rfl, rfl⟩)
        | (go_at_call 24; refine (HT.out.m1 _ y1.out).mono ?_; rintro e x3 ⟨rfl, y3, z3⟩; replace y3 := Lib.hid y3))
      go_upto_region 21 with (first
        | (go_at_call 24; refine (HT.out.m2 _ y3.out).mono ?_; rintro e x4 ⟨rfl, y4, z4⟩; replace y4 := Lib.hid y4)
        | (go_at_call 21; refine (HT.out.r2 _ y4.out).mono ?_; rintro e x5 ⟨rfl, rfl⟩)
        | (go_at_call 25; refine (HT.out.fu _ y4.out).mono ?_; rintro e x6 ⟨rfl, y6, z6⟩; replace y6 := Lib.hid y6))
      go_wp2_with (first
        | (go_at_call 23; refine (HT.out.ap _ y6.out).mono ?_; rintro e x7 ⟨rfl, y7, z7⟩; replace y7 := Lib.hid y7)
        | (go_at_call 26; refine (HT.out.sy _ y7.out).mono ?_; rintro e x8 ⟨rfl, y8, z8⟩; replace y8 := Lib.hid y8)
        | (go_at_call 27; refine (HT.out.cu _ y8.out).mono ?_; rintro e x9 ⟨rfl, y9, z9⟩; replace y9 := Lib.hid y9)
        | (go_at_call 24; refine (HT.out.mv _ y9.out).mono ?_; rintro e x10 ⟨rfl, y10, z10⟩; replace y10 := Lib.hid y10)
        | (go_at_call 21; refine (HT.out.r4 _ y10.out).mono ?_; rintro e x11 ⟨rfl, rfl⟩))
      go_ret
      have hO := (((((((z1.trans z3).trans z4).trans z6).trans z7).trans z8).trans z9).trans z10)
      exact ⟨by simp, HB.out.trans (Only.below_from hO HB.out.size HZ.out.1)⟩
end DiskMovesW
end Go.Proofs.Ytdphnhgogokidaa
