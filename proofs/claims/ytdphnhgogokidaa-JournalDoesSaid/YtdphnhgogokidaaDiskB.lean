/- Walks of package disk's inner functions: power (done), and what each operation does. -/
import Derived.Test.YtdphnhgogokidaaDiskA
namespace Go.Proofs.Ytdphnhgogokidaa
open Go.RowKit

set_option maxRecDepth 100000 in
set_option maxHeartbeats 1000000 in
theorem done_off (g : Nat) (d : Dk) (v : Value) (w : World) (h : DiskAt w g d) (hp : d.fuse = 0 ∨ d.down = true) :
    Calls Try.prog 57 #[.pointer (some ⟨g, 0, none⟩), v] w fun e w' => e = .returned (.int .i64 9) ∧ DiskAt w' g { d with down := true } ∧ Only g w w' := by
  have hf := h.cellf
  have hz := h.frozen 10
  by_cases h0 : d.fuse = 0
  · have hd := h.celld
    have hs := Lib.hid (h.setd true)
    rw [h0] at hf
    clear h h0 hp
    go_enter Try.func57, Try.ntmps57
    go_wp2
    go_ret
    exact ⟨rfl, hs.out, (Only.refl _ _).setCell _ _⟩
  · have hdn : d.down = true := hp.resolve_left h0
    have hd := h.celld
    rw [hdn] at hd
    have e0 : (d.fuse == 0) = false := by simp [h0]
    have hs : DiskAt w g { d with down := true } := by rw [← hdn]; exact h
    have HS := Lib.hid hs
    clear h h0 hp hs hdn
    go_enter Try.func57, Try.ntmps57
    go_wp2
    go_ret
    exact ⟨rfl, HS.out, Only.refl _ _⟩
/-- what a disk is behind one call's power. -/
def Dk.burnt (d : Dk) : Dk := if d.fuse = -1 then d else { d with fuse := d.fuse - 1 }
set_option maxRecDepth 100000 in
set_option maxHeartbeats 1000000 in
theorem done_on (g : Nat) (d : Dk) (K : FuncId) (caps : Array Value) (hK : ∀ args w, (callFunc K args).run Try.prog w = .ok (.enter K args) w) (Q : Int → World → Prop) (w : World) (h : DiskAt w g d) (h0 : d.fuse ≠ 0) (hdn : d.down = false)
    (hlo : -1 ≤ d.fuse) (hhi : d.fuse ≤ 9223372036854775807) (hc : ∀ w1, DiskAt w1 g d.burnt → Only g w w1 → Calls Try.prog K caps w1 fun e w' => ∃ n, e = .returned (.int .i64 n) ∧ Q n w') :
    Calls Try.prog 57 #[.pointer (some ⟨g, 0, none⟩), .func (.func K) #[] caps] w fun e w' => ∃ n, e = .returned (.int .i64 n) ∧ Q n w' := by
  have hf := h.cellf
  have hz := h.frozen 9
  have hd := h.celld
  rw [hdn] at hd
  have e0 : (d.fuse == 0) = false := by simp [h0]
  by_cases h1 : d.fuse = -1
  · have hb : d.burnt = d := by simp [Dk.burnt, h1]
    rw [hb] at hc
    have HC := Lib.hid (hc w h (Only.refl _ _))
    rw [h1] at hf
    clear h h0 hc hb hdn
    go_enter Try.func57, Try.ntmps57
    go_wp2_with fail
    refine HC.out.mono ?_
    rintro e w' ⟨n, rfl, hq⟩
    go_wp2
    go_ret
    exact ⟨n, rfl, hq⟩
  · have hb : d.burnt = { d with fuse := d.fuse - 1 } := by simp [Dk.burnt, h1]
    rw [hb] at hc
    have HC := Lib.hid (hc _ (h.setf (d.fuse - 1)) ((Only.refl _ _).setCell _ _))
    have e1 : (d.fuse != -1) = true := by simp [h1]
    have h2 : 0 ≤ d.fuse - 1 := by omega
    have h3 : d.fuse - 1 ≤ 9223372036854775807 := by omega
    clear h hc hb hdn
    generalize d.fuse = fu at *
    go_enter Try.func57, Try.ntmps57
    go_wp2_with fail
    refine HC.out.mono ?_
    rintro e w' ⟨n, rfl, hq⟩
    go_wp2
    go_ret
    exact ⟨n, rfl, hq⟩
end Go.Proofs.Ytdphnhgogokidaa
