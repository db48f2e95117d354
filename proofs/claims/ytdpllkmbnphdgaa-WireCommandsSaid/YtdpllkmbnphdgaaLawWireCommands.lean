/- Whether any command may be, its bytes, and the command of any bytes, or that there is none, are as the document says. -/
import Derived.Test.YtdpllkmbnphdgaaWireU
import Derived.Test.YtdpllkmbnphdgaaWireY
import Derived.Deep.RegionHeld3
namespace Go.Proofs.Ytdpllkmbnphdgaa.wireCommands
open Go.ChangeShapes Go.WideShapes Go.ChangeAt Go.RowKit Go.Deep
open Go.ChangeMaps (open_string shut_string)

theorem string_reach {H : Type} {P : Program} {t : TypeId} {s : ByteArray} {R : Nat} {d : DataW H} (hd : d = .lit (.string s.data.toList)) (h : ∀ n ∈ d.weights P t, n ≤ R) : s.size ≤ R := by
  subst hd
  have := h s.data.toList.length (by simp [DataW.weights])
  simpa using this
theorem RAt.below {w w' : World} {g : Nat} {c : Cm} (h : RAt w g c) (hb : Below w.heap.size w w') : RAt w' g c := by
  unfold RAt at h ⊢
  rw [hb.block g (Array.getElem?_eq_some_iff.1 h).1]; exact h
/-- what the boxes hold. -/
structure Held (w0 : World) (g h k : Nat) (c x : Cm) (w : World) : Prop where
  hc : CmAt w g c
  hx : CmAt w h x
  hy : RAt w k x
  hb : Below w0.heap.size w0 w
theorem Held.below {w0 : World} {g h k : Nat} {c x : Cm} {w w' : World} (H : Held w0 g h k c x w) (hb : Below w.heap.size w w') : Held w0 g h k c x w' :=
  ⟨H.hc.below hb, H.hx.below hb, RAt.below H.hy hb, H.hb.trans (hb.mono H.hb.size)⟩
theorem s_bel {w0 wx : World} {a0 a1 a2 a3 a4 a5 a6 a7 a8 a9 a10 a11 a12 a13 a14 a15 a16 a17 a18 a19 a20 a21 a22 a23 : Value} {p0 p1 p2 p3 p4 p5 p6 p7 p8 p9 p10 p11 p12 p13 p14 p15 p16 p17 p18 p19 p20 p21 p22 p23 : Addr} (H : wx.cell? p0 = some a0 ∧ wx.cell? p1 = some a1 ∧ wx.cell? p2 = some a2 ∧ wx.cell? p3 = some a3 ∧ wx.cell? p4 = some a4 ∧ wx.cell? p5 = some a5 ∧ wx.cell? p6 = some a6 ∧ wx.cell? p7 = some a7 ∧ wx.cell? p8 = some a8 ∧ wx.cell? p9 = some a9 ∧ wx.cell? p10 = some a10 ∧ wx.cell? p11 = some a11 ∧ wx.cell? p12 = some a12 ∧ wx.cell? p13 = some a13 ∧ wx.cell? p14 = some a14 ∧ wx.cell? p15 = some a15 ∧ wx.cell? p16 = some a16 ∧ wx.cell? p17 = some a17 ∧ wx.cell? p18 = some a18 ∧ wx.cell? p19 = some a19 ∧ wx.cell? p20 = some a20 ∧ wx.cell? p21 = some a21 ∧ wx.cell? p22 = some a22 ∧ wx.cell? p23 = some a23 ∧ Below w0.heap.size w0 wx) : Below w0.heap.size w0 wx := H.2.2.2.2.2.2.2.2.2.2.2.2.2.2.2.2.2.2.2.2.2.2.2.2
theorem s_below {w0 w w' : World} {a0 a1 a2 a3 a4 a5 a6 a7 a8 a9 a10 a11 a12 a13 a14 a15 a16 a17 a18 a19 a20 a21 a22 a23 : Value} {p0 p1 p2 p3 p4 p5 p6 p7 p8 p9 p10 p11 p12 p13 p14 p15 p16 p17 p18 p19 p20 p21 p22 p23 : Addr} (hb : Below w.heap.size w w') (H : w.cell? p0 = some a0 ∧ w.cell? p1 = some a1 ∧ w.cell? p2 = some a2 ∧ w.cell? p3 = some a3 ∧ w.cell? p4 = some a4 ∧ w.cell? p5 = some a5 ∧ w.cell? p6 = some a6 ∧ w.cell? p7 = some a7 ∧ w.cell? p8 = some a8 ∧ w.cell? p9 = some a9 ∧ w.cell? p10 = some a10 ∧ w.cell? p11 = some a11 ∧ w.cell? p12 = some a12 ∧ w.cell? p13 = some a13 ∧ w.cell? p14 = some a14 ∧ w.cell? p15 = some a15 ∧ w.cell? p16 = some a16 ∧ w.cell? p17 = some a17 ∧ w.cell? p18 = some a18 ∧ w.cell? p19 = some a19 ∧ w.cell? p20 = some a20 ∧ w.cell? p21 = some a21 ∧ w.cell? p22 = some a22 ∧ w.cell? p23 = some a23 ∧ Below w0.heap.size w0 w) : w'.cell? p0 = some a0 ∧ w'.cell? p1 = some a1 ∧ w'.cell? p2 = some a2 ∧ w'.cell? p3 = some a3 ∧ w'.cell? p4 = some a4 ∧ w'.cell? p5 = some a5 ∧ w'.cell? p6 = some a6 ∧ w'.cell? p7 = some a7 ∧ w'.cell? p8 = some a8 ∧ w'.cell? p9 = some a9 ∧ w'.cell? p10 = some a10 ∧ w'.cell? p11 = some a11 ∧ w'.cell? p12 = some a12 ∧ w'.cell? p13 = some a13 ∧ w'.cell? p14 = some a14 ∧ w'.cell? p15 = some a15 ∧ w'.cell? p16 = some a16 ∧ w'.cell? p17 = some a17 ∧ w'.cell? p18 = some a18 ∧ w'.cell? p19 = some a19 ∧ w'.cell? p20 = some a20 ∧ w'.cell? p21 = some a21 ∧ w'.cell? p22 = some a22 ∧ w'.cell? p23 = some a23 ∧ Below w0.heap.size w0 w' :=
  ⟨kept_cell hb H.1, kept_cell hb H.2.1, kept_cell hb H.2.2.1, kept_cell hb H.2.2.2.1, kept_cell hb H.2.2.2.2.1, kept_cell hb H.2.2.2.2.2.1, kept_cell hb H.2.2.2.2.2.2.1, kept_cell hb H.2.2.2.2.2.2.2.1, kept_cell hb H.2.2.2.2.2.2.2.2.1, kept_cell hb H.2.2.2.2.2.2.2.2.2.1, kept_cell hb H.2.2.2.2.2.2.2.2.2.2.1, kept_cell hb H.2.2.2.2.2.2.2.2.2.2.2.1, kept_cell hb H.2.2.2.2.2.2.2.2.2.2.2.2.1, kept_cell hb H.2.2.2.2.2.2.2.2.2.2.2.2.2.1, kept_cell hb H.2.2.2.2.2.2.2.2.2.2.2.2.2.2.1, kept_cell hb H.2.2.2.2.2.2.2.2.2.2.2.2.2.2.2.1, kept_cell hb H.2.2.2.2.2.2.2.2.2.2.2.2.2.2.2.2.1, kept_cell hb H.2.2.2.2.2.2.2.2.2.2.2.2.2.2.2.2.2.1, kept_cell hb H.2.2.2.2.2.2.2.2.2.2.2.2.2.2.2.2.2.2.1, kept_cell hb H.2.2.2.2.2.2.2.2.2.2.2.2.2.2.2.2.2.2.2.1, kept_cell hb H.2.2.2.2.2.2.2.2.2.2.2.2.2.2.2.2.2.2.2.2.1, kept_cell hb H.2.2.2.2.2.2.2.2.2.2.2.2.2.2.2.2.2.2.2.2.2.1, kept_cell hb H.2.2.2.2.2.2.2.2.2.2.2.2.2.2.2.2.2.2.2.2.2.2.1, kept_cell hb H.2.2.2.2.2.2.2.2.2.2.2.2.2.2.2.2.2.2.2.2.2.2.2.1, H.2.2.2.2.2.2.2.2.2.2.2.2.2.2.2.2.2.2.2.2.2.2.2.2.trans (hb.mono H.2.2.2.2.2.2.2.2.2.2.2.2.2.2.2.2.2.2.2.2.2.2.2.2.size)⟩
set_option maxRecDepth 100000 in
set_option maxHeartbeats 4000000 in
theorem walk (c : Cm) (s : ByteArray) (hs : s.size ≤ reachBytes) (w : World) :
    Calls Try.prog 3 #[.agg c.cells, .string s] w fun e w' => e = .returned (.bool true) ∧ Below w.heap.size w w' := by
  obtain ⟨s, rfl⟩ : ∃ l : List UInt8, s = ⟨l.toArray⟩ := ⟨s.data.toList, by simp⟩
  have hs2 : (s.length : Int) ≤ 281474976710656 := by
    have h1 : reachBytes ≤ 281474976710656 := by decide +kernel
    have h2 : (⟨s.toArray⟩ : ByteArray).size = s.length := by rw [ByteArray.size]; simp
    omega
  clear hs
  have hb0 := (Below.refl w.heap.size w).alloc (Nat.le_refl _) (.cells c.cells 23 (0, 0))
  have HN := Lib.hid (cmAt_new w c)
  have HB := Lib.hid hb0
  have HPUT := Lib.hid (put_any c)
  have HQUT := Lib.hid (rput_any c)
  have HOWN := Lib.hid (own_any c)
  have HMAY := Lib.hid (may_any c)
  have HRAY := Lib.hid (rmay_any c)
  have HTK0 := Lib.hid (fun hh => take_any s hh)
  have HRK0 := Lib.hid (fun hh => rtake_any s hh)
  rw [putV_pair] at HPUT HQUT
  rw [takeV_pair] at HTK0 HRK0
  clear hb0
  generalize hx : tcOf (take s) = x at *
  generalize tkOf (take s) = xk at *
  generalize pbOf c = pb at *
  generalize pcOf c = pk at *
  generalize may c = m at *
  have HOWX := Lib.hid (own_any x)
  clear hx
  have hcc : c.cells = #[.int .i64 c.k, .int .i64 (c.n 1), .int .i64 (c.n 2), .int .i64 (c.n 3), .int .i64 (c.n 4), .int .i64 (c.n 5), .int .i64 (c.n 6), .int .i64 (c.n 7)] := rfl
  have hxc : x.cells = #[.int .i64 x.k, .int .i64 (x.n 1), .int .i64 (x.n 2), .int .i64 (x.n 3), .int .i64 (x.n 4), .int .i64 (x.n 5), .int .i64 (x.n 6), .int .i64 (x.n 7)] := rfl
  rw [hcc] at HN HB HPUT HQUT HOWN HMAY HRAY ⊢
  rw [hxc] at HTK0 HRK0 HOWX
  clear hcc hxc
  go_enter Try.func3, Try.ntmps3
  go_wp2_with fail
  refine (awake_any _).mono ?_
  rintro q w1 ⟨rfl, hb1⟩
  have HN1 := Lib.hid (HN.out.below hb1)
  have HB1 := Lib.hid (HB.out.trans (hb1.mono HB.out.size))
  clear hb1 HN HB
  by_cases h2 : (100 : Int) < s.length
  · go_wp2
    go_ret
    exact ⟨rfl, HB1.out⟩
  have HTK := Lib.hid (HTK0.out (by omega))
  have HRK := Lib.hid (HRK0.out (by omega))
  clear hs2 HTK0 HRK0
  have c0 := HN1.out.kind
  have c1 := HN1.out.num (i := 1) (by omega) (by omega)
  have c2 := HN1.out.num (i := 2) (by omega) (by omega)
  have c3 := HN1.out.num (i := 3) (by omega) (by omega)
  have c4 := HN1.out.num (i := 4) (by omega) (by omega)
  have c5 := HN1.out.num (i := 5) (by omega) (by omega)
  have c6 := HN1.out.num (i := 6) (by omega) (by omega)
  have c7 := HN1.out.num (i := 7) (by omega) (by omega)
  go_wp2_with fail
  refine (HPUT.out _).mono ?_
  rintro q w2 ⟨rfl, hb2⟩
  have HN2 := Lib.hid (HN1.out.below hb2)
  have HB2 := Lib.hid (HB1.out.trans (hb2.mono HB1.out.size))
  clear hb2 HN1 HB1 c0 c1 c2 c3 c4 c5 c6 c7
  have c0 := HN2.out.kind
  have c1 := HN2.out.num (i := 1) (by omega) (by omega)
  have c2 := HN2.out.num (i := 2) (by omega) (by omega)
  have c3 := HN2.out.num (i := 3) (by omega) (by omega)
  have c4 := HN2.out.num (i := 4) (by omega) (by omega)
  have c5 := HN2.out.num (i := 5) (by omega) (by omega)
  have c6 := HN2.out.num (i := 6) (by omega) (by omega)
  have c7 := HN2.out.num (i := 7) (by omega) (by omega)
  go_wp2_with fail
  refine (HOWN.out _).mono ?_
  rintro q w3 ⟨rfl, hb3⟩
  have HN3 := Lib.hid (HN2.out.below hb3)
  have HB3 := Lib.hid (HB2.out.trans (hb3.mono HB2.out.size))
  clear hb3 HN2 HB2 c0 c1 c2 c3 c4 c5 c6 c7
  go_wp2_with fail
  refine (HQUT.out _).mono ?_
  rintro q w4 ⟨rfl, hb4⟩
  have HN4 := Lib.hid (HN3.out.below hb4)
  have HB4 := Lib.hid (HB3.out.trans (hb4.mono HB3.out.size))
  clear hb4 HN3 HB3
  go_wp2_with fail
  refine (HTK.out _).mono ?_
  rintro q w5 ⟨rfl, hb5⟩
  have HN5 := Lib.hid (HN4.out.below hb5)
  have HB5 := Lib.hid (HB4.out.trans (hb5.mono HB4.out.size))
  clear hb5 HN4 HB4
  go_wp2_with fail
  have hba := (Below.refl w5.heap.size w5).alloc (Nat.le_refl _) (.cells #[.int .i64 x.k, .int .i64 (x.n 1), .int .i64 (x.n 2), .int .i64 (x.n 3), .int .i64 (x.n 4), .int .i64 (x.n 5), .int .i64 (x.n 6), .int .i64 (x.n 7)] 23 (0, 0))
  have HX6 := Lib.hid (show CmAt (w5.alloc (.cells #[.int .i64 x.k, .int .i64 (x.n 1), .int .i64 (x.n 2), .int .i64 (x.n 3), .int .i64 (x.n 4), .int .i64 (x.n 5), .int .i64 (x.n 6), .int .i64 (x.n 7)] 23 (0, 0))) w5.heap.size x from heap_alloc_new _ _)
  have HN6 := Lib.hid (HN5.out.below hba)
  have HB6 := Lib.hid (HB5.out.trans (hba.mono HB5.out.size))
  clear hba HN5 HB5
  generalize w5.alloc (.cells #[.int .i64 x.k, .int .i64 (x.n 1), .int .i64 (x.n 2), .int .i64 (x.n 3), .int .i64 (x.n 4), .int .i64 (x.n 5), .int .i64 (x.n 6), .int .i64 (x.n 7)] 23 (0, 0)) = w6 at *
  generalize w5.heap.size = zx at *
  refine (HRK.out _).mono ?_
  rintro q w7 ⟨rfl, hb7⟩
  have hba := (Below.refl w7.heap.size w7).alloc (Nat.le_refl _) (.cells #[.int .i64 x.k, .int .i64 (x.n 1), .int .i64 (x.n 2), .int .i64 (x.n 3), .int .i64 (x.n 4), .int .i64 (x.n 5), .int .i64 (x.n 6), .int .i64 (x.n 7)] 29 (0, 0))
  have HY8 := Lib.hid (show RAt (w7.alloc (.cells #[.int .i64 x.k, .int .i64 (x.n 1), .int .i64 (x.n 2), .int .i64 (x.n 3), .int .i64 (x.n 4), .int .i64 (x.n 5), .int .i64 (x.n 6), .int .i64 (x.n 7)] 29 (0, 0))) w7.heap.size x from heap_alloc_new _ _)
  have HX8 := Lib.hid ((HX6.out.below hb7).below hba)
  have HN8 := Lib.hid ((HN6.out.below hb7).below hba)
  have HB8 := Lib.hid ((HB6.out.trans (hb7.mono HB6.out.size)).trans (hba.mono (HB6.out.trans (hb7.mono HB6.out.size)).size))
  clear hba hb7 HX6 HN6 HB6
  go_upto_region 9 with (fail)
  generalize w7.alloc (.cells #[.int .i64 x.k, .int .i64 (x.n 1), .int .i64 (x.n 2), .int .i64 (x.n 3), .int .i64 (x.n 4), .int .i64 (x.n 5), .int .i64 (x.n 6), .int .i64 (x.n 7)] 29 (0, 0)) = w8 at *
  generalize w7.heap.size = zy at *
  have X : w8.cell? ⟨w.heap.size, 0, none⟩ = some (.int .i64 c.k) ∧ w8.cell? ⟨w.heap.size, 1, none⟩ = some (.int .i64 (c.n 1)) ∧ w8.cell? ⟨w.heap.size, 2, none⟩ = some (.int .i64 (c.n 2)) ∧ w8.cell? ⟨w.heap.size, 3, none⟩ = some (.int .i64 (c.n 3)) ∧ w8.cell? ⟨w.heap.size, 4, none⟩ = some (.int .i64 (c.n 4)) ∧ w8.cell? ⟨w.heap.size, 5, none⟩ = some (.int .i64 (c.n 5)) ∧ w8.cell? ⟨w.heap.size, 6, none⟩ = some (.int .i64 (c.n 6)) ∧ w8.cell? ⟨w.heap.size, 7, none⟩ = some (.int .i64 (c.n 7)) ∧ w8.cell? ⟨zx, 0, none⟩ = some (.int .i64 x.k) ∧ w8.cell? ⟨zx, 1, none⟩ = some (.int .i64 (x.n 1)) ∧ w8.cell? ⟨zx, 2, none⟩ = some (.int .i64 (x.n 2)) ∧ w8.cell? ⟨zx, 3, none⟩ = some (.int .i64 (x.n 3)) ∧ w8.cell? ⟨zx, 4, none⟩ = some (.int .i64 (x.n 4)) ∧ w8.cell? ⟨zx, 5, none⟩ = some (.int .i64 (x.n 5)) ∧ w8.cell? ⟨zx, 6, none⟩ = some (.int .i64 (x.n 6)) ∧ w8.cell? ⟨zx, 7, none⟩ = some (.int .i64 (x.n 7)) ∧ w8.cell? ⟨zy, 0, none⟩ = some (.int .i64 x.k) ∧ w8.cell? ⟨zy, 1, none⟩ = some (.int .i64 (x.n 1)) ∧ w8.cell? ⟨zy, 2, none⟩ = some (.int .i64 (x.n 2)) ∧ w8.cell? ⟨zy, 3, none⟩ = some (.int .i64 (x.n 3)) ∧ w8.cell? ⟨zy, 4, none⟩ = some (.int .i64 (x.n 4)) ∧ w8.cell? ⟨zy, 5, none⟩ = some (.int .i64 (x.n 5)) ∧ w8.cell? ⟨zy, 6, none⟩ = some (.int .i64 (x.n 6)) ∧ w8.cell? ⟨zy, 7, none⟩ = some (.int .i64 (x.n 7)) ∧ Below w.heap.size w w8 :=
    ⟨HN8.out.kind, HN8.out.num (i := 1) (by omega) (by omega), HN8.out.num (i := 2) (by omega) (by omega), HN8.out.num (i := 3) (by omega) (by omega), HN8.out.num (i := 4) (by omega) (by omega), HN8.out.num (i := 5) (by omega) (by omega), HN8.out.num (i := 6) (by omega) (by omega), HN8.out.num (i := 7) (by omega) (by omega), HX8.out.kind, HX8.out.num (i := 1) (by omega) (by omega), HX8.out.num (i := 2) (by omega) (by omega), HX8.out.num (i := 3) (by omega) (by omega), HX8.out.num (i := 4) (by omega) (by omega), HX8.out.num (i := 5) (by omega) (by omega), HX8.out.num (i := 6) (by omega) (by omega), HX8.out.num (i := 7) (by omega) (by omega), (cell_of_row _ _ 0 _ _ _ HY8.out).trans rfl, (cell_of_row _ _ 1 _ _ _ HY8.out).trans rfl, (cell_of_row _ _ 2 _ _ _ HY8.out).trans rfl, (cell_of_row _ _ 3 _ _ _ HY8.out).trans rfl, (cell_of_row _ _ 4 _ _ _ HY8.out).trans rfl, (cell_of_row _ _ 5 _ _ _ HY8.out).trans rfl, (cell_of_row _ _ 6 _ _ _ HY8.out).trans rfl, (cell_of_row _ _ 7 _ _ _ HY8.out).trans rfl, HB8.out⟩
  go_region_held (fun wx => wx.cell? ⟨w.heap.size, 0, none⟩ = some (.int .i64 c.k) ∧ wx.cell? ⟨w.heap.size, 1, none⟩ = some (.int .i64 (c.n 1)) ∧ wx.cell? ⟨w.heap.size, 2, none⟩ = some (.int .i64 (c.n 2)) ∧ wx.cell? ⟨w.heap.size, 3, none⟩ = some (.int .i64 (c.n 3)) ∧ wx.cell? ⟨w.heap.size, 4, none⟩ = some (.int .i64 (c.n 4)) ∧ wx.cell? ⟨w.heap.size, 5, none⟩ = some (.int .i64 (c.n 5)) ∧ wx.cell? ⟨w.heap.size, 6, none⟩ = some (.int .i64 (c.n 6)) ∧ wx.cell? ⟨w.heap.size, 7, none⟩ = some (.int .i64 (c.n 7)) ∧ wx.cell? ⟨zx, 0, none⟩ = some (.int .i64 x.k) ∧ wx.cell? ⟨zx, 1, none⟩ = some (.int .i64 (x.n 1)) ∧ wx.cell? ⟨zx, 2, none⟩ = some (.int .i64 (x.n 2)) ∧ wx.cell? ⟨zx, 3, none⟩ = some (.int .i64 (x.n 3)) ∧ wx.cell? ⟨zx, 4, none⟩ = some (.int .i64 (x.n 4)) ∧ wx.cell? ⟨zx, 5, none⟩ = some (.int .i64 (x.n 5)) ∧ wx.cell? ⟨zx, 6, none⟩ = some (.int .i64 (x.n 6)) ∧ wx.cell? ⟨zx, 7, none⟩ = some (.int .i64 (x.n 7)) ∧ wx.cell? ⟨zy, 0, none⟩ = some (.int .i64 x.k) ∧ wx.cell? ⟨zy, 1, none⟩ = some (.int .i64 (x.n 1)) ∧ wx.cell? ⟨zy, 2, none⟩ = some (.int .i64 (x.n 2)) ∧ wx.cell? ⟨zy, 3, none⟩ = some (.int .i64 (x.n 3)) ∧ wx.cell? ⟨zy, 4, none⟩ = some (.int .i64 (x.n 4)) ∧ wx.cell? ⟨zy, 5, none⟩ = some (.int .i64 (x.n 5)) ∧ wx.cell? ⟨zy, 6, none⟩ = some (.int .i64 (x.n 6)) ∧ wx.cell? ⟨zy, 7, none⟩ = some (.int .i64 (x.n 7)) ∧ Below w.heap.size w wx) (first | assumption | exact s_below (Below.refl _ _).drew X | exact s_below hbm (by assumption) | exact s_below hbo (by assumption) | exact s_below hbr (by assumption) | exact s_below hbx (by assumption))
    (first
      | (go_at_call 15; refine (HMAY.out _).mono ?_; rintro q wm ⟨rfl, hbm⟩)
      | (go_at_call 16; refine (HRAY.out _).mono ?_; rintro q wn ⟨rfl, hbr⟩)
      | (go_at_call_of 12 (Value.agg #[Value.int IntKind.i64 c.k, Value.int IntKind.i64 (c.n 1), Value.int IntKind.i64 (c.n 2), Value.int IntKind.i64 (c.n 3), Value.int IntKind.i64 (c.n 4), Value.int IntKind.i64 (c.n 5), Value.int IntKind.i64 (c.n 6), Value.int IntKind.i64 (c.n 7)]); refine (HOWN.out _).mono ?_; rintro q wo ⟨rfl, hbo⟩)
      | (go_at_call_of 12 (Value.agg #[Value.int IntKind.i64 x.k, Value.int IntKind.i64 (x.n 1), Value.int IntKind.i64 (x.n 2), Value.int IntKind.i64 (x.n 3), Value.int IntKind.i64 (x.n 4), Value.int IntKind.i64 (x.n 5), Value.int IntKind.i64 (x.n 6), Value.int IntKind.i64 (x.n 7)]); refine (HOWX.out _).mono ?_; rintro q wp ⟨rfl, hbx⟩))
  all_goals
    go_wp2
    go_ret
    exact ⟨by simp, s_bel (by assumption)⟩
set_option maxRecDepth 100000 in
theorem lifted (os : Os) (started : os.Started) (H : Type) (enc : TypeId × Value → H) :
    ReturnsInHanded {} Try.checked os 3 .any (Rows.wireCommandsSpec.pre6 enc Try.prog Try.f3 Rows.wireCommandsRow.domain false) (Rows.wireCommandsSpec.post enc Try.prog Try.f3 false true false false) := by
  refine returnsInHanded_of_change_sized (C := Try.checked) own_knob started (by kernel_rfl) Try.func3
    (ChangeSpec.witness6 (enc := enc) (C := Try.checked) false ⟨#[], #[.agg #[.int .i64 0, .int .i64 0, .int .i64 0, .int .i64 0, .int .i64 0, .int .i64 0, .int .i64 0, .int .i64 0], .string ByteArray.empty], []⟩ 8 (by kernel_rfl) (by kernel_rfl) (by kernel_rfl) (by kernel_rfl)) ?_
  intro W base args ds gs before hval0 hW hcnd hsz _
  have hval : ∀ (j : Nat) t v, Try.f3.params[j]? = some t → args[j]? = some v → Value.okWide Try.prog W .any base t v := hval0
  have hww : ∀ (j : Nat) (t : TypeId) (d : DataW H), Try.f3.params.toList[j]? = some t → ds[j]? = some d → ∀ n ∈ d.weights Try.prog t, n ≤ reachBytes := fun j t d h1 h2 => weights_of hsz j h1 h2
  have hW' := hW
  obtain ⟨p, q, hA0, hV, rfl, hfz, hnd⟩ := hW
  have hA : DataW.TrodAll enc Try.prog W 0 (fun _ => true) true Try.f3.params.toList args.toList ds p := hA0
  rw [Try.params3] at hA hval hww
  obtain ⟨v0, vs0, d0, ds0, p0, q0, hargs, rfl, rfl, h0, r0⟩ := trodAll_cons hA
  obtain ⟨v1, vs1, d1, ds1, p1, q1, rfl, rfl, rfl, h1, r1⟩ := trodAll_cons r0
  obtain ⟨rfl, rfl, rfl⟩ := trodAll_nil r1
  obtain rfl : args = #[v0, v1] := by cases args; simp_all
  obtain ⟨c0, rfl, hin0⟩ := open_cmd (hval 0 23 v0 rfl rfl) h0 (hww 0 23 d0 rfl rfl)
  have hr1 := hww 1 9 d1 rfl rfl
  obtain ⟨a1, rfl, hd1, _, _⟩ := open_string Try.underlying9 (hval 1 9 v1 rfl rfl) h1
  have hl1 : a1.size ≤ reachBytes := string_reach hd1 hr1
  clear hA0 hval0
  refine (walk c0 a1 hl1 W).mono fun e W' ⟨he, hb⟩ => ?_
  subst he
  exact ⟨_, rfl, law_post hW' (by kernel_rfl) rfl rfl (by
    intro t ht
    rw [Try.params3] at ht
    simp at ht
    rcases ht with rfl | rfl
    all_goals exact ⟨by kernel_rfl, of_decide_eq_true (by kernel_rfl)⟩) hb⟩
theorem over : Rows.wireCommandsRow.holds Try.pinned (OpenSpec.ofChange Rows.wireCommandsSpec) :=
  OpenClaim.holds_of_wide 3 Try.f3 rfl rfl rfl rfl rfl rfl rfl ⟨rfl, rfl, rfl, rfl, rfl⟩ rfl rfl rfl rfl rfl (by kernel_rfl) Try.func3 (by kernel_rfl)
    (of_decide_eq_true (by kernel_rfl)) (by unfold Func.isWrapper; first | (rw [if_pos (by decide +kernel)]; kernel_rfl) | (rw [if_neg (by decide +kernel)]; exact ⟨rfl, rfl⟩))
    (fun os started H enc _ => lifted os started H enc)
theorem proved : Rows.WireCommandsSaid := over
#print axioms proved
end Go.Proofs.Ytdpllkmbnphdgaa.wireCommands
