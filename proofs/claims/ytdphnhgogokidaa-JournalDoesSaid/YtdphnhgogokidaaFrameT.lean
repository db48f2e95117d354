/- The walk of the document's frames of many records (nostroref04.All). -/
import Derived.Test.YtdphnhgogokidaaFrameS
namespace Go.Proofs.Ytdphnhgogokidaa
open Go.RowKit

/-- the frames of many records. -/
def framesOf (rs : List (List UInt8)) : List UInt8 := (rs.map frameOf).flatten
theorem framesOf_snoc (rs : List (List UInt8)) (r : List UInt8) : framesOf (rs ++ [r]) = framesOf rs ++ frameOf r := by simp [framesOf]
theorem frameOf_length (r : List UInt8) : (frameOf r).length = r.length + 8 := by simp [frameOf, be4]
theorem framesOf_take_le (rs : List (List UInt8)) (k : Nat) : (framesOf (rs.take k)).length ≤ (framesOf rs).length := by
  conv => rhs; rw [← List.take_append_drop k rs]
  simp only [framesOf, List.map_append, List.flatten_append, List.length_append]
  omega
theorem bytes_app (a b : List UInt8) : (⟨a.toArray⟩ : ByteArray) ++ ⟨b.toArray⟩ = ⟨(a ++ b).toArray⟩ := by
  apply ByteArray.ext
  simp
set_option maxRecDepth 100000 in
set_option maxHeartbeats 1000000 in
theorem rall_any (v : Value) (A : List (List UInt8)) (w : World) (ha : SlStr w v A) (hA : A.length ≤ 1099511627776) (hx : ∀ x ∈ A, x.length ≤ 65536) (hF : (framesOf A).length ≤ 1099511627776) :
    Calls Try.prog 38 #[v] w fun e w' => e = .returned (.tuple #[.string ⟨(framesOf A).toArray⟩, .int .i64 0]) ∧ Below w.heap.size w w' := by
  obtain ⟨a, ca, rfl, ha⟩ := ha
  have HA := Lib.hid ha
  have HX := Lib.hid hx
  clear ha hx
  go_enter Try.func38, Try.ntmps38
  go_wp2
  go_loopw [4, 5] (fun c i wr => ∃ (k : Nat), k ≤ A.length ∧ i = .int .i64 k ∧ c = .string ⟨(framesOf (A.take k)).toArray⟩ ∧ Below w.heap.size w wr) (fun _ i _ => A.length - (intOf i).toNat)
  case atStart => exact ⟨0, by omega, rfl, rfl, Below.refl _ _⟩
  case round =>
    obtain ⟨k, hk, rfl, rfl, hbel⟩ := hrel
    by_cases hlt : k < A.length
    · have hne : A ≠ [] := by intro h; rw [h] at hlt; simp at hlt
      obtain ⟨ba, oa, ea, fa⟩ := HA.out hne
      subst ea
      obtain ⟨x, hx⟩ : ∃ x, A[k]? = some x := ⟨A[k], by simp [hlt]⟩
      have ga0 : w.cell? ⟨ba, oa + k, none⟩ = some (.string ⟨x.toArray⟩) := fa k x hx
      have ga : wr.cell? ⟨ba, oa + k, none⟩ = some (.string ⟨x.toArray⟩) := by rw [hbel.cell (p := ⟨ba, oa + k, none⟩) (block_lt_of_cell ga0)]; exact ga0
      have hxl := HX.out x (List.mem_of_getElem? hx)
      have htk : A.take (k + 1) = A.take k ++ [x] := by rw [List.take_add_one, hx]; rfl
      have hfr : framesOf (A.take (k + 1)) = framesOf (A.take k) ++ frameOf x := by rw [htk, framesOf_snoc]
      have hle := framesOf_take_le A (k + 1)
      rw [hfr, List.length_append] at hle
      have HFR := Lib.hid hfr
      have HXX := Lib.hid hx
      have q1 : (k : Int) < (A.length : Int) := by omega
      clear hx fa hne ga0 htk hfr
      have c1 := fun wx => rput_ok ⟨x.toArray⟩ (by rw [ByteArray.size]; simpa using hxl) wx
      have C1 := Lib.hid c1
      clear c1
      go_wp2_with fail
      refine (C1.out _).mono ?_
      rintro e w1 ⟨rfl, hb1⟩
      have hbel2 := hbel.trans (hb1.mono hbel.size)
      clear hb1 hbel ga
      go_wp2
      go_roundw
      case rel => exact ⟨k + 1, by omega, by go_num, by rw [HFR.out, bytes_app], hbel2⟩
      case measure => simp [intOf]; omega
    · obtain rfl : k = A.length := by omega
      go_wp2
      go_ret2
      exact ⟨ret_str_int (by rw [List.take_length]), hbel⟩
end Go.Proofs.Ytdphnhgogokidaa
