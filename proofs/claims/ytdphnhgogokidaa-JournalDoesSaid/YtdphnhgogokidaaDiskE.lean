/- Walks of package disk's closures: Move. -/
import Derived.Test.YtdphnhgogokidaaDiskC
import Derived.StillTailTactics
namespace Go.Proofs.Ytdphnhgogokidaa
open Go.RowKit

set_option maxRecDepth 100000 in
set_option maxHeartbeats 2000000 in
theorem move_in (g : Nat) (d : Dk) (i j : Nat) (hi : i < 4) (hj : j < 4) (kf kt kd : Nat) (w : World) (h : DiskAt w g d)
    (F : Box w kf (.int .i64 i)) (T : Box w kt (.int .i64 j)) (D : Box w kd (.pointer (some ⟨g, 0, none⟩))) (nf : kf ≠ g) (nt : kt ≠ g) (nd : kd ≠ g) :
    Calls Try.prog 59 #[.pointer (some ⟨kf, 0, none⟩), .pointer (some ⟨kt, 0, none⟩), .pointer (some ⟨kd, 0, none⟩)] w fun e w' => e = .returned (.int .i64 (d.mov i j).code) ∧ DiskAt w' g (d.mov i j).dk ∧ Only g w w' := by
  unfold Box at F T D
  have nf' : g ≠ kf := fun e => nf e.symm
  have nt' : g ≠ kt := fun e => nt e.symm
  have nd' : g ≠ kd := fun e => nd e.symm
  by_cases hij : i = j
  · subst hij
    have e0 : ((i : Int) != (i : Int)) = false := by simp
    have HQ := Lib.hid (show d.mov i i = ⟨0, d⟩ from if_pos rfl)
    have HD := Lib.hid h
    clear h
    go_enter Try.func59, Try.ntmps59
    go_wp2
    go_ret
    rw [HQ.out]
    exact ⟨rfl, HD.out, Only.refl _ _⟩
  · have e0 : ((i : Int) != (j : Int)) = true := by simp; omega
    have HQ := Lib.hid (show d.mov i j = _ from if_neg hij)
    have hi4 : (i : Int) < 4 := by omega
    have hj4 : (j : Int) < 4 := by omega
    have hf0 := h.frozen (i * 2)
    have hf1 := h.frozen (i * 2 + 1)
    have hg0 := h.frozen (j * 2)
    have hg1 := h.frozen (j * 2 + 1)
    have hc2 := h.cellb hj
    have hs2 := h.cells hj
    have k1 : ¬ (i * 2 = j * 2 + 1) := by omega
    have k2 : ¬ (i * 2 + 1 = j * 2) := by omega
    have HS := Lib.hid ((((h.setb hj (d.b i)).sets hj (d.s i)).setb hi []).sets hi 0)
    have hc := h.cellb hi
    have hs := h.cells hi
    clear h
    go_enter Try.func59, Try.ntmps59
    go_upto_region 2 with (fail)
    go_region
    go_wp2
    go_ret
    rw [HQ.out]
    exact ⟨rfl, HS.out, (((((Only.refl _ _).setCell _ _).setCell _ _).setCell _ _).setCell _ _).drew⟩
end Go.Proofs.Ytdphnhgogokidaa
