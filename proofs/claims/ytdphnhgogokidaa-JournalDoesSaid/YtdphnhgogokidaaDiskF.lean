/- Walks of package disk's methods. -/
import Derived.Test.YtdphnhgogokidaaDiskD
import Derived.Test.YtdphnhgogokidaaDiskE
import Derived.Test.YtdphnhgogokidaaDiskG
namespace Go.Proofs.Ytdphnhgogokidaa
open Go.RowKit

theorem done_any (g : Nat) (d : Dk) (ho : d.Ok) (f : Dk → Out) (K : FuncId) (caps : Array Value) (hK : ∀ args w, (callFunc K args).run Try.prog w = .ok (.enter K args) w) (w : World) (h : DiskAt w g d)
    (hc : ∀ w1, DiskAt w1 g d.burnt → Only g w w1 → d.burnt.Ok → Calls Try.prog K caps w1 fun e w' => e = .returned (.int .i64 (f d.burnt).code) ∧ DiskAt w' g (f d.burnt).dk ∧ Only g w1 w') :
    Calls Try.prog 57 #[.pointer (some ⟨g, 0, none⟩), .func (.func K) #[] caps] w fun e w' => e = .returned (.int .i64 (d.step f).code) ∧ DiskAt w' g (d.step f).dk ∧ Only g w w' := by
  by_cases hp : d.fuse = 0 ∨ d.down = true
  · have e : d.step f = ⟨9, { d with down := true }⟩ := if_pos hp
    rw [e]
    exact done_off g d _ w h hp
  · have e : d.step f = f d.burnt := if_neg hp
    rw [e]
    have h0 : d.fuse ≠ 0 := fun h => hp (.inl h)
    have h1 : d.down = false := by cases hd : d.down with
      | false => rfl
      | true => exact absurd (.inr hd) hp
    refine (done_on g d K caps hK (fun n w' => n = (f d.burnt).code ∧ DiskAt w' g (f d.burnt).dk ∧ Only g w w') w h h0 h1 ho.fuse ho.fuse1 ?_).mono ?_
    · intro w1 hd1 ho1
      refine (hc w1 hd1 ho1 (burnt_ok ho h0)).mono ?_
      rintro e w' ⟨rfl, hd2, ho2⟩
      exact ⟨_, rfl, rfl, hd2, ho1.trans ho2⟩
    · rintro e w' ⟨n, rfl, rfl, hd2, ho2⟩
      exact ⟨rfl, hd2, ho2⟩
theorem kept_only {w w' : World} {g k : Nat} {v : Value} (h : Only g w w') (hb : Box w k v) (hne : k ≠ g) : Box w' k v := h.cell hb hne
theorem box_new (w : World) (v : Value) (t : TypeId) : Box (w.alloc (.cells #[v] t (0, 0))) w.heap.size v := by
  unfold Box; rw [cell_of_row _ _ _ _ _ _ (heap_alloc_new _ _)]; rfl
theorem alloc_below (w : World) (o : Obj) : Below w.heap.size w (w.alloc o) := (Below.refl _ _).alloc (Nat.le_refl _) o
abbrev W2 (w : World) (a b : Value) (ta tb : TypeId) : World := (w.alloc (.cells #[a] ta (0, 0))).alloc (.cells #[b] tb (0, 0))
abbrev W3 (w : World) (a b c : Value) (ta tb tc : TypeId) : World := (W2 w a b ta tb).alloc (.cells #[c] tc (0, 0))
theorem boxes2 (w : World) (a b : Value) (ta tb : TypeId) : Box (W2 w a b ta tb) w.heap.size a ∧ Box (W2 w a b ta tb) (w.heap.size + 1) b ∧ Below w.heap.size w (W2 w a b ta tb) := by
  have h1 := box_new w a ta
  have h2 := box_new (w.alloc (.cells #[a] ta (0, 0))) b tb
  rw [show (w.alloc (.cells #[a] ta (0, 0))).heap.size = w.heap.size + 1 by simp] at h2
  exact ⟨kept (alloc_below _ _) h1, h2, (alloc_below _ _).trans ((alloc_below _ _).mono (by simp))⟩
theorem boxes3 (w : World) (a b c : Value) (ta tb tc : TypeId) : Box (W3 w a b c ta tb tc) w.heap.size a ∧ Box (W3 w a b c ta tb tc) (w.heap.size + 1) b ∧ Box (W3 w a b c ta tb tc) (w.heap.size + 1 + 1) c ∧ Below w.heap.size w (W3 w a b c ta tb tc) := by
  obtain ⟨h1, h2, h3⟩ := boxes2 w a b ta tb
  have h4 := box_new (W2 w a b ta tb) c tc
  rw [show (W2 w a b ta tb).heap.size = w.heap.size + 1 + 1 by simp] at h4
  exact ⟨kept (alloc_below _ _) h1, kept (alloc_below _ _) h2, h4, h3.trans ((alloc_below _ _).mono (by simp; omega))⟩
set_option maxRecDepth 100000 in
set_option maxHeartbeats 1000000 in
theorem append_disk (g : Nat) (d : Dk) (ho : d.Ok) (i : Int) (b : List UInt8) (hbl : b.length ≤ 140737488355328) (w : World) (h : DiskAt w g d) :
    Calls Try.prog 23 #[.pointer (some ⟨g, 0, none⟩), .int .i64 i, .string ⟨b.toArray⟩] w fun e w' => e = .returned (.int .i64 (d.append i b).code) ∧ DiskAt w' g (d.append i b).dk ∧ Only g w w' := by
  have hb := boxes3 w (.pointer (some ⟨g, 0, none⟩)) (.int .i64 i) (.string ⟨b.toArray⟩) 24 3 9
  have hw := h.lt
  by_cases hi : hasB i = true
  · have e : d.append i b = d.step (·.app i.toNat b) := if_pos hi
    rw [e]
    obtain ⟨k, hk, rfl⟩ := hasB_nat hi
    have hc := done_any g d ho (·.app k b) 58 #[.pointer (some ⟨w.heap.size + 1 + 1, 0, none⟩), .pointer (some ⟨w.heap.size, 0, none⟩), .pointer (some ⟨w.heap.size + 1, 0, none⟩)] (fun _ _ => by kernel_rfl) _ (h.below hb.2.2.2)
      (fun w1 h1 o1 k1 => append_in g d.burnt k1 k hk b hbl _ _ _ w1 h1 (kept_only o1 hb.2.2.1 (by omega)) (kept_only o1 hb.1 (by omega)) (kept_only o1 hb.2.1 (by omega)))
    have HC := Lib.hid hc
    have HI := Lib.hid hi
    have HB := Lib.hid hb.2.2.2
    clear hi e h hb hc hw ho
    go_enter Try.func23, Try.ntmps23
    go_wp2_with (first
      | (go_at_call 56; refine (has_yes _ HI.out _).mono ?_; rintro e w1 ⟨rfl, rfl⟩)
      | (go_at_call 57; refine HC.out.mono ?_; rintro e w1 ⟨rfl, hd1, ho1⟩))
    go_ret
    exact ⟨rfl, hd1, (Only.of_below HB.out).trans ho1⟩
  · have e : d.append i b = ⟨1, d⟩ := if_neg hi
    rw [e]
    have HI := Lib.hid (Bool.eq_false_iff.2 hi)
    have HD := Lib.hid (h.below hb.2.2.2)
    have HB := Lib.hid hb.2.2.2
    clear hi e h hb hw ho
    go_enter Try.func23, Try.ntmps23
    go_wp2_with (go_at_call 56; refine (has_no _ HI.out _).mono ?_; rintro e w1 ⟨rfl, rfl⟩)
    go_ret
    exact ⟨rfl, HD.out, Only.of_below HB.out⟩
set_option maxRecDepth 100000 in
set_option maxHeartbeats 1000000 in
theorem sync_disk (g : Nat) (d : Dk) (ho : d.Ok) (i : Int) (w : World) (h : DiskAt w g d) :
    Calls Try.prog 26 #[.pointer (some ⟨g, 0, none⟩), .int .i64 i] w fun e w' => e = .returned (.int .i64 (d.sync i).code) ∧ DiskAt w' g (d.sync i).dk ∧ Only g w w' := by
  have hb := boxes2 w (.pointer (some ⟨g, 0, none⟩)) (.int .i64 i) 24 3
  have hw := h.lt
  by_cases hi : hasB i = true
  · have e : d.sync i = d.step (·.syn i.toNat) := if_pos hi
    rw [e]
    obtain ⟨k, hk, rfl⟩ := hasB_nat hi
    have hc := done_any g d ho (·.syn k) 60 #[.pointer (some ⟨w.heap.size, 0, none⟩), .pointer (some ⟨w.heap.size + 1, 0, none⟩)] (fun _ _ => by kernel_rfl) _ (h.below hb.2.2)
      (fun w1 h1 o1 k1 => sync_in g d.burnt k1 k hk _ _ w1 h1 (kept_only o1 hb.1 (by omega)) (kept_only o1 hb.2.1 (by omega)))
    have HC := Lib.hid hc
    have HI := Lib.hid hi
    have HB := Lib.hid hb.2.2
    clear hi e h hb hc hw ho
    go_enter Try.func26, Try.ntmps26
    go_wp2_with (first
      | (go_at_call 56; refine (has_yes _ HI.out _).mono ?_; rintro e w1 ⟨rfl, rfl⟩)
      | (go_at_call 57; refine HC.out.mono ?_; rintro e w1 ⟨rfl, hd1, ho1⟩))
    go_ret
    exact ⟨rfl, hd1, (Only.of_below HB.out).trans ho1⟩
  · have e : d.sync i = ⟨1, d⟩ := if_neg hi
    rw [e]
    have HI := Lib.hid (Bool.eq_false_iff.2 hi)
    have HD := Lib.hid (h.below hb.2.2)
    have HB := Lib.hid hb.2.2
    clear hi e h hb hw ho
    go_enter Try.func26, Try.ntmps26
    go_wp2_with (go_at_call 56; refine (has_no _ HI.out _).mono ?_; rintro e w1 ⟨rfl, rfl⟩)
    go_ret
    exact ⟨rfl, HD.out, Only.of_below HB.out⟩
theorem has_q (i : Int) (b : Bool) (h : hasB i = b) (w : World) : Calls Try.prog 56 #[.int .i64 i] w fun e w' => e = .returned (.bool b) ∧ w' = w :=
  (has_any i w).mono fun e w' h2 => ⟨by rw [h2.1, h], h2.2.symm⟩
theorem DiskAt.drewN {w : World} {g : Nat} {d : Dk} (h : DiskAt w g d) (n : Nat) : DiskAt (w.drewN n) g d := h
set_option maxRecDepth 100000 in
set_option maxHeartbeats 1000000 in
theorem cut_disk (g : Nat) (d : Dk) (ho : d.Ok) (i n : Int) (w : World) (h : DiskAt w g d) :
    Calls Try.prog 27 #[.pointer (some ⟨g, 0, none⟩), .int .i64 i, .int .i64 n] w fun e w' => e = .returned (.int .i64 (d.cutto i n).code) ∧ DiskAt w' g (d.cutto i n).dk ∧ Only g w w' := by
  have hb := boxes3 w (.pointer (some ⟨g, 0, none⟩)) (.int .i64 i) (.int .i64 n) 24 3 3
  have hw := h.lt
  have HB := Lib.hid hb.2.2.2
  have HD := Lib.hid (h.below hb.2.2.2)
  by_cases hi : hasB i = true
  · obtain ⟨k, hk, rfl⟩ := hasB_nat hi
    have HI := Lib.hid hi
    have hlen := ho.len hk
    have hk4 : (k : Int) < 4 := by omega
    have hcell := (h.below hb.2.2.2).cellb hk
    by_cases h0 : 0 ≤ n
    · obtain ⟨m, rfl⟩ := Int.eq_ofNat_of_zero_le h0
      have hd0 : decide ((m : Int) < 0) = false := decide_eq_false (by omega)
      by_cases hm : (m : Int) ≤ (d.b k).length
      · have e : d.cutto k m = d.step (·.cut k m) := if_pos ⟨hi, h0, hm⟩
        rw [e]
        have HC := Lib.hid (fun (nq : Nat) => done_any g d ho (·.cut k m) 61 #[.pointer (some ⟨w.heap.size, 0, none⟩), .pointer (some ⟨w.heap.size + 1, 0, none⟩), .pointer (some ⟨w.heap.size + 1 + 1, 0, none⟩)] (fun _ _ => by kernel_rfl) ((W3 w (.pointer (some ⟨g, 0, none⟩)) (.int .i64 k) (.int .i64 m) 24 3 3).drewN nq) ((h.below hb.2.2.2).drewN nq)
          (fun w1 h1 o1 k1 => cut_in g d.burnt k1 k hk m (by rw [burnt_b]; exact hm) _ _ _ w1 h1 (kept_only o1 hb.1 (by omega)) (kept_only o1 hb.2.1 (by omega)) (kept_only o1 hb.2.2.1 (by omega))))
        clear hi e h hb hw ho
        go_enter Try.func27, Try.ntmps27
        go_upto_region 1 with (fail)
        go_quiet (first | (go_at_call 56; exact Calls.quiet_of_same (has_q _ _ HI.out _)))
        go_wp2_with (go_at_call 57; refine (HC.out _).mono ?_; rintro e w1 ⟨rfl, hd1, ho1⟩)
        go_ret
        exact ⟨rfl, hd1, ((Only.of_below HB.out).drewN _).trans ho1⟩
      · have e : d.cutto k m = ⟨1, d⟩ := if_neg (fun h => hm h.2.2)
        rw [e]
        clear hi e h hb hw ho
        go_enter Try.func27, Try.ntmps27
        go_upto_region 1 with (fail)
        go_quiet (first | (go_at_call 56; exact Calls.quiet_of_same (has_q _ _ HI.out _)))
        go_wp2
        go_ret
        exact ⟨rfl, HD.out, (Only.of_below HB.out).drewN _⟩
    · have e : d.cutto k n = ⟨1, d⟩ := if_neg (fun h => h0 h.2.1)
      rw [e]
      have hd0 : decide (n < 0) = true := decide_eq_true (by omega)
      clear hi e h hb hw ho
      go_enter Try.func27, Try.ntmps27
      go_upto_region 1 with (fail)
      go_quiet (first | (go_at_call 56; exact Calls.quiet_of_same (has_q _ _ HI.out _)))
      go_wp2
      go_ret
      exact ⟨rfl, HD.out, (Only.of_below HB.out).drewN _⟩
  · have e : d.cutto i n = ⟨1, d⟩ := if_neg (fun h => hi h.1)
    rw [e]
    have HI := Lib.hid (Bool.eq_false_iff.2 hi)
    clear hi e h hb hw ho
    go_enter Try.func27, Try.ntmps27
    go_upto_region 1 with (fail)
    go_quiet (first | (go_at_call 56; exact Calls.quiet_of_same (has_q _ _ HI.out _)))
    go_wp2
    go_ret
    exact ⟨rfl, HD.out, (Only.of_below HB.out).drewN _⟩
set_option maxRecDepth 100000 in
set_option maxHeartbeats 1000000 in
theorem move_disk (g : Nat) (d : Dk) (ho : d.Ok) (i j : Int) (w : World) (h : DiskAt w g d) :
    Calls Try.prog 24 #[.pointer (some ⟨g, 0, none⟩), .int .i64 i, .int .i64 j] w fun e w' => e = .returned (.int .i64 (d.move i j).code) ∧ DiskAt w' g (d.move i j).dk ∧ Only g w w' := by
  have hb := boxes3 w (.pointer (some ⟨g, 0, none⟩)) (.int .i64 i) (.int .i64 j) 24 3 3
  have hw := h.lt
  have HB := Lib.hid hb.2.2.2
  have HD := Lib.hid (h.below hb.2.2.2)
  by_cases hi : hasB i = true
  · have HI := Lib.hid (has_yes i hi)
    by_cases hj : hasB j = true
    · have e : d.move i j = d.step (·.mov i.toNat j.toNat) := if_pos ⟨hi, hj⟩
      rw [e]
      have HJ := Lib.hid (has_yes j hj)
      obtain ⟨k, hk, rfl⟩ := hasB_nat hi
      obtain ⟨m, hm, rfl⟩ := hasB_nat hj
      have HC := Lib.hid (done_any g d ho (·.mov k m) 59 #[.pointer (some ⟨w.heap.size + 1, 0, none⟩), .pointer (some ⟨w.heap.size + 1 + 1, 0, none⟩), .pointer (some ⟨w.heap.size, 0, none⟩)] (fun _ _ => by kernel_rfl) _ (h.below hb.2.2.2)
          (fun w1 h1 o1 k1 => move_in g d.burnt k m hk hm _ _ _ w1 h1 (kept_only o1 hb.2.1 (by omega)) (kept_only o1 hb.2.2.1 (by omega)) (kept_only o1 hb.1 (by omega)) (by omega) (by omega) (by omega)))
      clear hi hj e h hb hw ho
      go_enter Try.func24, Try.ntmps24
      go_wp2_with (first
        | (go_at_call_of 56 (Value.int IntKind.i64 (k : Int)); refine (HI.out _).mono ?_; rintro e w1 ⟨rfl, rfl⟩)
        | (go_at_call_of 56 (Value.int IntKind.i64 (m : Int)); refine (HJ.out _).mono ?_; rintro e w1 ⟨rfl, rfl⟩)
        | (go_at_call 57; refine HC.out.mono ?_; rintro e w1 ⟨rfl, hd1, ho1⟩))
      go_ret
      exact ⟨rfl, hd1, (Only.of_below HB.out).trans ho1⟩
    · have e : d.move i j = ⟨1, d⟩ := if_neg (fun h => hj h.2)
      rw [e]
      have HJ := Lib.hid (has_no j (Bool.eq_false_iff.2 hj))
      clear hi hj e h hb hw ho
      go_enter Try.func24, Try.ntmps24
      go_wp2_with (first
        | (go_at_call_of 56 (Value.int IntKind.i64 i); refine (HI.out _).mono ?_; rintro e w1 ⟨rfl, rfl⟩)
        | (go_at_call_of 56 (Value.int IntKind.i64 j); refine (HJ.out _).mono ?_; rintro e w1 ⟨rfl, rfl⟩))
      go_ret
      exact ⟨rfl, HD.out, Only.of_below HB.out⟩
  · have e : d.move i j = ⟨1, d⟩ := if_neg (fun h => hi h.1)
    rw [e]
    have HI := Lib.hid (has_no i (Bool.eq_false_iff.2 hi))
    clear hi e h hb hw ho
    go_enter Try.func24, Try.ntmps24
    go_wp2_with (go_at_call 56; refine (HI.out _).mono ?_; rintro e w1 ⟨rfl, rfl⟩)
    go_ret
    exact ⟨rfl, HD.out, Only.of_below HB.out⟩
end Go.Proofs.Ytdphnhgogokidaa
