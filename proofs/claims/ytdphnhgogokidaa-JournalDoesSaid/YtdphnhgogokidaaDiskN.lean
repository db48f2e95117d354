/- The walk of DiskDoes. -/
import Derived.Test.YtdphnhgogokidaaDiskK
import Derived.Test.YtdphnhgogokidaaDiskL
import Derived.Test.YtdphnhgogokidaaDiskM
namespace Go.Proofs.Ytdphnhgogokidaa
open Go.RowKit

theorem Two.cell {g1 g2 : Nat} {a b : World} (h : Two g1 g2 a b) {p : Addr} {v : Value} (hp : a.cell? p = some v) (h1 : p.block ≠ g1) (h2 : p.block ≠ g2) : b.cell? p = some v := by
  rw [World.cell?_of_block (w := a) (h.block p.block (block_lt_of_cell hp) h1 h2)]; exact hp
theorem Two.below {g1 g2 : Nat} {a b : World} (h : Two g1 g2 a b) {B : Nat} (hB : B ≤ a.heap.size) (h1 : B ≤ g1) (h2 : B ≤ g2) : Below B a b :=
  ⟨h.os, h.tape, h.output, h.size, fun k hk => h.block k (by omega) (by omega) (by omega)⟩
theorem range_below {B : Nat} {a b : World} (h : Below B a b) (hB : a.heap.size ≤ B) {k o : Nat} {cs : List Value} (hr : a.rangeAt k o cs) : b.rangeAt k o cs := fun j v hv => by
  have h1 := hr j v hv
  have h2 := block_lt_of_cell h1
  rw [h.cell (by omega)]; exact h1
theorem SlOp.below {B : Nat} {w w' : World} {v : Value} {L : List DOp} (h : SlOp w v L) (hb : Below B w w') (hB : w.heap.size ≤ B) : SlOp w' v L := by
  obtain ⟨a, c, hv, hc⟩ := h
  refine ⟨a, c, hv, fun hne => ?_⟩
  obtain ⟨b, o, ha, hx⟩ := hc hne
  exact ⟨b, o, ha, fun j x hj => range_below hb hB (hx j x hj)⟩
theorem opcells_b (x : DOp) : x.cells.toList[4]? = some (.string ⟨x.b.toArray⟩) := rfl
/-- the disk behind the first operations. -/
def runs (d : Dk) (L : List DOp) : Dk := L.foldl Dk.run d
theorem runs_next (d : Dk) (L : List DOp) {k : Nat} (h : k < L.length) : (runs d (L.take k)).run L[k] = runs d (L.take (k + 1)) := by
  unfold runs
  rw [List.take_succ_eq_append_getElem h, List.foldl_append]; rfl
theorem runs_ok {d : Dk} (h : d.Ok) : ∀ (L : List DOp), (∀ x ∈ L, x.Ok) → (runs d L).Ok := by
  intro L
  induction L generalizing d with
  | nil => intro _; exact h
  | cons x L ih => intro hx; exact ih (run_ok h (hx x (by simp))) (fun y hy => hx y (by simp [hy]))
namespace DiskDoesW
set_option maxRecDepth 100000 in
set_option maxHeartbeats 4000000 in
theorem walk (room : Int) (hl : -9223372036854775808 ≤ room ∧ room ≤ 9223372036854775807) (v : Value) (L : List DOp) (w : World) (hs : SlOp w v L) (hn : L.length ≤ 140737488355328) (hx : ∀ x ∈ L, x.Ok) :
    Calls Try.prog 3 #[.int .i64 room, v] w fun e w' => e = .returned (.bool true) ∧ Below w.heap.size w w' := by
  by_cases hroom : 0 ≤ room ∧ room ≤ 16777216
  · have N1 := Lib.hid (new_disk room hroom.1 hroom.2)
    have N2 := Lib.hid (ref_new room hroom.1 hroom.2)
    have HOK := Lib.hid (new_ok hroom.1 hroom.2)
    have HS := Lib.hid hs
    obtain ⟨a, c, rfl, _⟩ := hs
    have HX := Lib.hid hx
    clear hx
    go_enter Try.func3, Try.ntmps3
    go_upto_region 3 with (go_at_call 15; refine (awake05_any _).mono ?_; rintro e w1 ⟨rfl, hb1⟩)
    go_wp2_with fail
    go_at_call 16
    refine (N1.out _).mono ?_
    rintro e w2 ⟨rfl, hd2, hb2, hl2⟩
    go_wp2_with fail
    go_at_call 17
    refine (N2.out _).mono ?_
    rintro e w3 ⟨rfl, hd3, hb3, hl3⟩
    generalize hG1 : w1.heap.size = G1 at *
    generalize hG2 : w2.heap.size = G2 at *
    have hsz := hb1.size
    have hne : G1 ≠ G2 := by omega
    have HD := Lib.hid (hd2.below (by rw [hG2]; exact hb3))
    have HR := Lib.hid hd3
    have HB3 := Lib.hid (((hb1.trans (hb2.mono (by omega))).trans (hb3.mono (by omega))) : Below w.heap.size w w3)
    have HSL := Lib.hid (HS.out.below HB3.out (Nat.le_refl _))
    have hg1 : w.heap.size ≤ G1 := by omega
    have hg2 : w.heap.size ≤ G2 := by omega
    have hg3 : w.heap.size ≤ w3.heap.size := HB3.out.size
    have HZ := Lib.hid (And.intro hg1 (And.intro hg2 hg3))
    clear hd2 hd3 hb1 hb2 hb3 hl2 hl3 hsz hG1 hG2 hg1 hg2 hg3 N1 N2
    have HNE := Lib.hid hne
    clear hne
    generalize Dk.new room = D0 at *
    go_wp2_with fail
    go_loopw [9, 10] (fun s i wr => ∃ (k sz : Nat), k ≤ L.length ∧ k ≤ 40 ∧ i = .int .i64 k ∧ s = .int .i64 sz ∧ (sz : Int) ≤ 4000 ∧ DiskAt wr G1 (runs D0 (L.take k)) ∧ RefAt wr G2 (runs D0 (L.take k)) ∧ Below w.heap.size w wr ∧ SlOp wr (.slice a L.length c) L) (fun _ i _ => 40 - (intOf i).toNat)
    case atStart => exact ⟨0, 0, by omega, by omega, rfl, rfl, by omega, HD.out, HR.out, HB3.out, HSL.out⟩
    case round =>
      obtain ⟨k, sz, hk, hk40, rfl, rfl, hsz, hd, hr, hb, hsl⟩ := hrel
      clear HD HR HB3 HSL
      have HD := Lib.hid hd
      have HR := Lib.hid hr
      have HB := Lib.hid hb
      have HSL := Lib.hid hsl
      clear hd hr hb
      by_cases hlt : k < L.length
      · by_cases h40 : k < 40
        · obtain ⟨_, _, he, hc0⟩ := hsl
          simp only [Value.slice.injEq] at he
          obtain ⟨rfl, _, rfl⟩ := he
          obtain ⟨b, o, rfl, hc⟩ := hc0 (by intro h; subst h; simp at hlt)
          have hrg := hc k L[k] (by simp [hlt])
          clear hc hc0
          have hxo := HX.out L[k] (List.getElem_mem hlt)
          have HXO := Lib.hid hxo
          have hok : (runs D0 (L.take k)).Ok := runs_ok HOK.out _ (fun y hy => HX.out y (List.mem_of_mem_take hy))
          have HN := Lib.hid (runs_next D0 L hlt)
          have HOKd := Lib.hid hok
          have HOKn := Lib.hid (run_ok hok hxo)
          clear hok
          generalize L[k] = x at *
          generalize runs D0 (L.take k) = d at *
          have hcb := hrg 4 _ (opcells_b x)
          have hbl := hxo.b0
          clear hxo
          have HRG := Lib.hid hrg
          clear hrg
          by_cases hbig : (4000 : Int) < sz + x.b.length
          · go_wp2
            go_ret
            exact ⟨rfl, HB.out⟩
          · go_wp2_with (first
              | (with_reducible refine wpList_load_mid rfl 33 (.tmp 64) rfl b (o + k * 9) rfl _ _ HRG.out Try.underlying33 rfl (by kernel_rfl) ?_)
              | (go_at_call 18; refine (do_any G1 G2 HNE.out d HOKd.out x HXO.out _ HD.out HR.out).mono ?_; rintro e w5 ⟨rfl, hd5, hr5, hT⟩; replace hd5 := Lib.hid hd5; replace hr5 := Lib.hid hr5)
              | (go_at_call 19; refine (left_disk G1 _ _ hd5.out HOKn.out).mono ?_; rintro e w6 ⟨rfl, hb6⟩)
              | (go_at_call 20; refine (ref_left G2 _ _ (RefAt.below hr5.out hb6) HOKn.out).mono ?_; rintro e w7 ⟨rfl, nq, rfl⟩))
            have hb7 : Below w.heap.size w (w6.drewN nq) := drewN_below ((HB.out.trans (hT.below (Nat.le_trans HB.out.size (Nat.le_refl _)) HZ.out.1 HZ.out.2.1)).trans (hb6.mono (Nat.le_trans HB.out.size hT.size))) nq
            have hsl7 : SlOp (w6.drewN nq) (.slice (some ⟨b, o, none⟩) L.length c) L := HS.out.below hb7 (Nat.le_refl _)
            have hd7 : DiskAt (w6.drewN nq) G1 (d.run x) := hd5.out.below (drewN_below hb6 nq)
            have hr7 : RefAt (w6.drewN nq) G2 (d.run x) := hr5.out.below (drewN_below hb6 nq)
            clear hd5 hr5 hT hb6 HB HD HR hcb HRG HSL
            generalize w6.drewN nq = w7 at *
            have HB7 := Lib.hid hb7
            have HSL7 := Lib.hid hsl7
            have HD7 := Lib.hid hd7
            have HR7 := Lib.hid hr7
            clear hb7 hsl7 hd7 hr7
            go_loopw [11] (fun i wx => ∃ (j : Nat), j ≤ 4 ∧ i = .int .i64 j ∧ wx = w7) (fun i _ => 4 - (intOf i).toNat)
            case atStart => exact ⟨0, by omega, rfl, rfl⟩
            case round =>
              obtain ⟨j, hj, rfl, rfl⟩ := hrel
              by_cases hj4 : j < 4
              · have hcr := HR7.out.cellb hj4
                have hji : (j : Int) < 4 := by omega
                go_wp2_with (go_at_call 21; refine (read_disk G1 _ j hj4 _ HD7.out).mono ?_; rintro e w8 ⟨rfl, rfl⟩)
                go_roundw
                case rel => exact ⟨j + 1, by omega, by go_num, by first | rfl | trivial⟩
                case measure => simp [intOf]; omega
              · obtain rfl : j = 4 := by omega
                go_wp2
                go_roundw
                case rel =>
                  refine ⟨k + 1, sz + x.b.length, by omega, by omega, by go_num, by go_num, by omega, ?_, ?_, HB7.out, HSL7.out⟩
                  · rw [← HN.out]; exact HD7.out
                  · rw [← HN.out]; exact HR7.out
                case measure => simp [intOf]; omega
        · obtain rfl : k = 40 := by omega
          clear hsl
          go_wp2
          go_ret
          exact ⟨rfl, HB.out⟩
      · obtain rfl : k = L.length := by omega
        clear hsl
        go_wp2
        go_ret
        exact ⟨rfl, HB.out⟩
  · have hr : room < 0 ∨ 16777216 < room := by omega
    have N1 := Lib.hid (new_none room hr)
    have N2 := Lib.hid (ref_none room hr)
    clear hs hx hr hroom
    go_enter Try.func3, Try.ntmps3
    go_wp2_with (first
      | (go_at_call 15; refine (awake05_any _).mono ?_; rintro e w1 ⟨rfl, hb1⟩)
      | (go_at_call 16; refine (N1.out _).mono ?_; rintro e w2 ⟨rfl, rfl⟩)
      | (go_at_call 17; refine (N2.out _).mono ?_; rintro e w3 ⟨rfl, rfl⟩))
    refine wp_loop_rounds 1 ?_
    rw [rounds_succ]
    go_wp2
    go_ret
    exact ⟨rfl, hb1⟩
end DiskDoesW
end Go.Proofs.Ytdphnhgogokidaa
