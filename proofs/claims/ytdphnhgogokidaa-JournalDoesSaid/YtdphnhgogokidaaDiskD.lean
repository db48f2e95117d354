/- Walks of package disk's closures: Cut. -/
import Derived.Test.YtdphnhgogokidaaDiskC
import Derived.StillTailTactics
namespace Go.Proofs.Ytdphnhgogokidaa
open Go.RowKit

set_option maxRecDepth 100000 in
set_option maxHeartbeats 2000000 in
theorem cut_in (g : Nat) (d : Dk) (ho : d.Ok) (i : Nat) (hi : i < 4) (n : Nat) (hn : (n : Int) ≤ (d.b i).length) (kd ka kn : Nat) (w : World) (h : DiskAt w g d)
    (D : Box w kd (.pointer (some ⟨g, 0, none⟩))) (A : Box w ka (.int .i64 i)) (N : Box w kn (.int .i64 n)) :
    Calls Try.prog 61 #[.pointer (some ⟨kd, 0, none⟩), .pointer (some ⟨ka, 0, none⟩), .pointer (some ⟨kn, 0, none⟩)] w fun e w' => e = .returned (.int .i64 (d.cut i n).code) ∧ DiskAt w' g (d.cut i n).dk ∧ Only g w w' := by
  unfold Box at D A N
  have hlen := ho.len hi
  have hc := h.cellb hi
  have hs := h.cells hi
  have hi4 : (i : Int) < 4 := by omega
  have hf0 := h.frozen (i * 2)
  have hf1 := h.frozen (i * 2 + 1)
  have HD := Lib.hid h
  clear ho h
  go_enter Try.func61, Try.ntmps61
  go_upto_region 1 with (fail)
  go_still_tail 24, (by kernel_rfl)
  have e1 : (⟨(d.b i).toArray⟩ : ByteArray).extract 0 n = ⟨((d.b i).take n).toArray⟩ := by rw [ByteArray.extract_mk]; simp
  have e2 : (if n < d.s i then (n : Int) else (d.s i : Int)) = ((min (d.s i) n : Nat) : Int) := by split <;> omega
  change wpList _ _ _ _ _ w.drew
  have hd : DiskAt w.drew g d := HD.out
  have HS := Lib.hid (hd.setrow hi ((d.b i).take n) (min (d.s i) n))
  refine wpList_store_mid rfl 89 (.tmp 27) (.tmp 24) rfl g (i * 2) #[.string ⟨((d.b i).take n).toArray⟩, .int .i64 (min (d.s i) n : Nat)] rfl ?_ (hd.there hi) (by kernel_rfl) (by simp [Value.oneCell']) ?_
  · show Value.agg #[_, _] = _
    rw [e1, e2]
  clear hd e1 e2 hc hs hf0 hf1 A D N
  go_wp2
  all_goals
    go_ret
    exact ⟨rfl, HS.out, ((Only.refl _ _).drew.setCells _ _ _)⟩
end Go.Proofs.Ytdphnhgogokidaa
