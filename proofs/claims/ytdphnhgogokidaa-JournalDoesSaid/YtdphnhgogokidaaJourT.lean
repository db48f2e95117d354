/- The walks of the journal's laws: their sizes; journals that are new. -/
import Derived.Test.YtdphnhgogokidaaJourM
import Derived.Test.YtdphnhgogokidaaJourS
import Derived.Test.YtdphnhgogokidaaJourI
namespace Go.Proofs.Ytdphnhgogokidaa
open Go.RowKit

theorem jopcells_b (x : JOp) : x.cells.toList[2]? = some (.string ⟨x.b.toArray⟩) := rfl
set_option maxRecDepth 100000 in
set_option maxHeartbeats 1000000 in
theorem size06_any (v : Value) (L : List JOp) (w : World) (hs : SlJ w v L) (hn : L.length ≤ 140737488355328) (hx : ∀ x ∈ L, x.Ok) :
    Calls Try.prog 40 #[v] w fun e w' => e = .returned (.int .i64 (szo L 0 : Nat)) ∧ w = w' := by
  obtain ⟨a, c, rfl, hc⟩ := hs
  have HC := Lib.hid hc
  have HX := Lib.hid hx
  clear hc hx
  go_enter Try.func40, Try.ntmps40
  go_wp2
  go_loop [3, 4] (fun c i => ∃ (k m : Nat), k ≤ L.length ∧ i = .int .i64 k ∧ c = .int .i64 m ∧ szo L 0 = szo (L.drop k) m ∧ m < 281474976710656) (fun _ i => L.length - (intOf i).toNat)
  case atStart => exact ⟨0, 0, by omega, rfl, rfl, rfl, by omega⟩
  case round =>
    obtain ⟨k, m, hk, rfl, rfl, hz, hm⟩ := hrel
    have HZ := Lib.hid hz
    clear hz
    by_cases hlt : k < L.length
    · by_cases hq : m < 100000
      · obtain ⟨b, o, rfl, hc⟩ := HC.out (by intro h; subst h; simp at hlt)
        have hcb := hc k L[k] (by simp [hlt]) 2 _ (jopcells_b _)
        have hxl := (HX.out L[k] (List.getElem_mem hlt)).b0
        have HN := Lib.hid (show szo (L.drop k) m = szo (L.drop (k + 1)) (m + L[k].b.length + 1) by rw [List.drop_eq_getElem_cons hlt, szo, if_pos hq])
        have q1 : (k : Int) < (L.length : Int) := by omega
        have hq2 : (m : Int) < 100000 := by omega
        clear hc hq
        generalize L[k] = x at *
        go_wp2
        go_round
        case rel => exact ⟨k + 1, m + x.b.length + 1, by omega, by go_num, by go_num, by rw [HZ.out, HN.out], by omega⟩
        case measure => simp [intOf]; omega
      · have hq2 : ¬ (m : Int) < 100000 := by omega
        have HQ := Lib.hid hq
        clear hq
        go_wp2
        go_ret
        exact ⟨ret_int (by rw [HZ.out, szo_stop _ _ HQ.out]), rfl⟩
    · obtain rfl : k = L.length := by omega
      go_wp2
      all_goals (go_ret; exact ⟨ret_int (by rw [HZ.out, List.drop_length]; rfl), rfl⟩)
/-- a law's journal: its disk lies below it, all of it from B on. -/
structure JL (B : Nat) (w : World) (jg g : Nat) (v : Value) (j : Jn) (d : Dk) : Prop where
  jour : Jour w jg g (jg + 1) v j d
  lt : g < jg
  ge : B ≤ g
theorem ownsRow_belowJ {B n : Nat} {v : Value} {xs : List Value} {w w' : World} {E : TypeId} (h : w.ownsRow B E 1 v n xs) (hb : Below w.heap.size w w') : w'.ownsRow B E 1 v n xs := by
  refine ⟨h.1, ?_⟩
  rcases h.2 with hn | ⟨k, cap, cur, rfl, hB, hk, rest⟩
  · exact .inl hn
  · exact .inr ⟨k, cap, cur, rfl, hB, by rw [hb.block k (Array.getElem?_eq_some_iff.1 hk).1]; exact hk, rest⟩
theorem JL.below {B : Nat} {w w' : World} {jg g : Nat} {v : Value} {j : Jn} {d : Dk} (h : JL B w jg g v j d) (hb : Below w.heap.size w w') : JL B w' jg g v j d :=
  ⟨⟨h.jour.hj.below hb, h.jour.hd.below hb, h.jour.ok, ownsRow_belowJ h.jour.ow hb⟩, h.lt, h.ge⟩
theorem JL.jlt {B : Nat} {w : World} {jg g : Nat} {v : Value} {j : Jn} {d : Dk} (h : JL B w jg g v j d) : jg < w.heap.size := h.jour.hj.lt
theorem Kp.below {B g jg : Nat} {r : Option Nat} {w w' : World} (h : Kp g jg r w w') (hs : B ≤ w.heap.size) (h1 : B ≤ g) (h2 : B ≤ jg) (h3 : ∀ k, r = some k → B ≤ k) : Below B w w' :=
  ⟨h.os, h.tape, h.output, h.size, fun k hk => h.block k (by omega) (by omega) (by omega) (fun e => by have := h3 k e.symm; omega)⟩
theorem JL.row {B : Nat} {w : World} {jg g : Nat} {v : Value} {j : Jn} {d : Dk} (h : JL B w jg g v j d) : ∀ k, v.ownBlock = some k → jg + 1 ≤ k ∧ k < w.heap.size := fun k hk => h.jour.ow.lt k hk
theorem JL.kpb {B : Nat} {w w' : World} {jg g : Nat} {v : Value} {j : Jn} {d : Dk} (h : JL B w jg g v j d) (k : Kp g jg v.ownBlock w w') (hs : B ≤ w.heap.size) : Below B w w' := by
  have h1 := h.lt
  have h2 := h.ge
  exact k.below hs h2 (by omega) (fun x hx => by have := (h.row x hx).1; omega)
theorem Only.onb {B : Nat} {w w' : World} {g : Nat} (k : Only g w w') (hg : B ≤ g) (hs : B ≤ w.heap.size) : Below B w w' := k.below_from hs hg
/-- Append at a law's journal. -/
theorem append_l {B : Nat} {w : World} {jg g : Nat} {v : Value} {j : Jn} {d : Dk} (h : JL B w jg g v j d) (b : List UInt8) (hb : (b.length : Int) ≤ 140737488355328) (hfit : (j.base : Int) + j.recs.length ≤ 9223372036854775806) (hrl : (j.recs.length : Int) ≤ 4000) :
    Calls Try.prog 43 #[.pointer (some ⟨jg, 0, none⟩), .string ⟨b.toArray⟩] w fun e w' => e = .returned (.int .i64 (appJ j d b).1) ∧ ∃ v', JL B w' jg g v' (appJ j d b).2.1 (appJ j d b).2.2 ∧ Kp g jg v.ownBlock w w' ∧ (v'.ownBlock = v.ownBlock ∨ ∀ k, v'.ownBlock = some k → w.heap.size ≤ k) := by
  have hlt := h.lt
  have hjl := h.jlt
  refine (append_j jg g (jg + 1) v j d b hb (by omega) (by omega) (by omega) w (by omega) h.jour hfit hrl).mono ?_
  rintro e w' ⟨he, v', hj, hk, hv⟩
  refine ⟨he, v', ⟨hj, h.lt, h.ge⟩, hk, ?_⟩
  rcases hv with hv | ⟨k, hv, hk2⟩
  · exact .inl hv
  · exact .inr fun x hx => by rw [hv] at hx; cases hx; exact hk2
theorem snap_l {B : Nat} {w : World} {jg g : Nat} {v : Value} {j : Jn} {d : Dk} (h : JL B w jg g v j d) (b : List UInt8) (hb : (b.length : Int) ≤ 140737488355328) (hfit : (j.base : Int) + j.recs.length ≤ 9223372036854775806) :
    Calls Try.prog 42 #[.pointer (some ⟨jg, 0, none⟩), .string ⟨b.toArray⟩] w fun e w' => e = .returned (.int .i64 (snapJ j d b).1) ∧ ∃ v', JL B w' jg g v' (snapJ j d b).2.1 (snapJ j d b).2.2 ∧ Kp g jg v.ownBlock w w' ∧ (v'.ownBlock = v.ownBlock ∨ ∀ k, v'.ownBlock = some k → w.heap.size ≤ k) := by
  have hlt := h.lt
  have hjl := h.jlt
  refine (snap_j jg g (jg + 1) v j d b hb (by omega) (by omega) (by omega) w (by omega) h.jour hfit).mono ?_
  rintro e w' ⟨he, v', hj, hk, hv⟩
  exact ⟨he, v', ⟨hj, h.lt, h.ge⟩, hk, hv⟩
/-- Open that tells a journal. -/
theorem open_l (B g : Nat) (d : Dk) (j : Jn) (d' : Dk) (ho : d.Ok) (hB : B ≤ g) (e0 : openJ d = (0, some j, d')) (w : World) (h : DiskAt w g d) :
    Calls Try.prog 41 #[.pointer (some ⟨g, 0, none⟩)] w fun e w' => e = .returned (.tuple #[.pointer (some ⟨w.heap.size, 0, none⟩), .int .i64 0]) ∧ ∃ v, JL B w' w.heap.size g v j d' ∧ Only g w w' := by
  have hgl : g < w.heap.size := (Array.getElem?_eq_some_iff.1 h).1
  refine (open_j g d ho w h).mono ?_
  rintro e w' ⟨h1, h2, h3, h4⟩
  rw [e0] at h2 h3 h4
  obtain ⟨h5, v, h6⟩ := h4
  exact ⟨h5, v, ⟨h6, hgl, hB⟩, h1⟩
/-- .. that tells none. -/
theorem open_n (g : Nat) (d : Dk) (c : Int) (d' : Dk) (ho : d.Ok) (e0 : openJ d = (c, none, d')) (w : World) (h : DiskAt w g d) :
    Calls Try.prog 41 #[.pointer (some ⟨g, 0, none⟩)] w fun e w' => e = .returned (.tuple #[.pointer none, .int .i64 c]) ∧ DiskAt w' g d' ∧ d'.Ok ∧ Only g w w' := by
  refine (open_j g d ho w h).mono ?_
  rintro e w' ⟨h1, h2, h3, h4⟩
  rw [e0] at h2 h3 h4
  exact ⟨h4, h2, h3, h1⟩
/-- Last, Text, Records at a law's journal. -/
theorem last_l {B : Nat} {w : World} {jg g : Nat} {v : Value} {j : Jn} {d : Dk} (h : JL B w jg g v j d) (hfit : (j.base : Int) + j.recs.length ≤ 9223372036854775806) :
    Calls Try.prog 45 #[.pointer (some ⟨jg, 0, none⟩)] w fun e w' => e = .returned (.int .i64 ((j.base + j.recs.length : Nat) : Int)) ∧ ∃ n, w' = w.drewN n := by
  obtain ⟨a, c, rfl⟩ := own_form h.jour.ow
  exact last_any jg g a c j (by omega) w h.jour.hj
theorem text_l {B : Nat} {w : World} {jg g : Nat} {v : Value} {j : Jn} {d : Dk} (h : JL B w jg g v j d) :
    Calls Try.prog 46 #[.pointer (some ⟨jg, 0, none⟩)] w fun e w' => e = .returned (.tuple #[.string ⟨j.text.toArray⟩, .int .i64 j.base]) ∧ ∃ n, w' = w.drewN n := text_j jg g v j w h.jour.hj
theorem records_l {B : Nat} {w : World} {jg g : Nat} {v : Value} {j : Jn} {d : Dk} (h : JL B w jg g v j d) (hl : j.recs.length ≤ 1000000) :
    Calls Try.prog 44 #[.pointer (some ⟨jg, 0, none⟩)] w fun e w' => ∃ u, e = .returned u ∧ SlStr w' u j.recs ∧ Below w.heap.size w w' := records_j jg g (jg + 1) v j w h.jour.hj h.jour.ow hl
theorem JL.turn {B : Nat} {w w' : World} {jg g : Nat} {v : Value} {j : Jn} {d d' : Dk} (h : JL B w jg g v j d) (ho : Only g w w') (hd : DiskAt w' g d') (hk : d'.Ok) : JL B w' jg g v j d' := by
  have hlt := h.lt
  refine ⟨⟨h.jour.hj.only ho (by omega), hd, hk, ?_⟩, h.lt, h.ge⟩
  refine ⟨h.jour.ow.1, ?_⟩
  rcases h.jour.ow.2 with hn | ⟨k, cap, cur, rfl, hB, hk, rest⟩
  · exact .inl hn
  · exact .inr ⟨k, cap, cur, rfl, hB, ho.heap hk (by omega), rest⟩
/-- .. by what they come to. -/
theorem append_e {B : Nat} {w : World} {jg g : Nat} {v : Value} {j j' : Jn} {d d' : Dk} {c : Int} (h : JL B w jg g v j d) (b : List UInt8) (e0 : appJ j d b = (c, j', d')) (hb : (b.length : Int) ≤ 140737488355328) (hfit : (j.base : Int) + j.recs.length ≤ 9223372036854775806) (hrl : (j.recs.length : Int) ≤ 4000) :
    Calls Try.prog 43 #[.pointer (some ⟨jg, 0, none⟩), .string ⟨b.toArray⟩] w fun e w' => e = .returned (.int .i64 c) ∧ ∃ v', JL B w' jg g v' j' d' ∧ Kp g jg v.ownBlock w w' ∧ (v'.ownBlock = v.ownBlock ∨ ∀ k, v'.ownBlock = some k → w.heap.size ≤ k) := by
  have := append_l h b hb hfit hrl
  rw [e0] at this
  exact this
theorem snap_e {B : Nat} {w : World} {jg g : Nat} {v : Value} {j j' : Jn} {d d' : Dk} {c : Int} (h : JL B w jg g v j d) (b : List UInt8) (e0 : snapJ j d b = (c, j', d')) (hb : (b.length : Int) ≤ 140737488355328) (hfit : (j.base : Int) + j.recs.length ≤ 9223372036854775806) :
    Calls Try.prog 42 #[.pointer (some ⟨jg, 0, none⟩), .string ⟨b.toArray⟩] w fun e w' => e = .returned (.int .i64 c) ∧ ∃ v', JL B w' jg g v' j' d' ∧ Kp g jg v.ownBlock w w' ∧ (v'.ownBlock = v.ownBlock ∨ ∀ k, v'.ownBlock = some k → w.heap.size ≤ k) := by
  have := snap_l h b hb hfit
  rw [e0] at this
  exact this
end Go.Proofs.Ytdphnhgogokidaa
