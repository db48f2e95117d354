/- The document's journal: a record is kept. -/
import Derived.Test.YtdphnhgogokidaaJrA
import Derived.Deep.RegionHeld3
import Derived.IntWalk
namespace Go.Proofs.Ytdphnhgogokidaa
open Go.RowKit

/-- the document's journal in a law. -/
structure RL (B : Nat) (w : World) (jg g : Nat) (v : Value) (j : Jn) (d : Dk) : Prop where
  hj : RJAt w jg g v j
  hd : RefAt w g d
  ok : d.Ok
  ow : Row (jg + 1) w v j.recs
  lt : g < jg
  ge : B ≤ g
section
variable {B : Nat} {w w' : World} {jg g : Nat} {v : Value} {j : Jn} {d : Dk} (h : RL B w jg g v j d)
include h
theorem RL.below (hb : Below w.heap.size w w') : RL B w' jg g v j d := ⟨h.hj.below hb, h.hd.below hb, h.ok, h.ow.below hb, h.lt, h.ge⟩
theorem RL.jlt : jg < w.heap.size := h.hj.lt
/-- behind a call that turned the disk alone. -/
theorem RL.turn {d' : Dk} (ho : Only g w w') (hd : RefAt w' g d') (hk : d'.Ok) : RL B w' jg g v j d' := by
  have hlt := h.lt
  exact ⟨h.hj.only ho (by omega), hd, hk, h.ow.only ho (fun k hk e => by have := (h.ow.blk k hk).1; omega), h.lt, h.ge⟩
theorem RL.set (hjn : RJAt w' jg g v { j with broken := true }) (i : Nat) (u : Value) (hw : w' = w.setCell ⟨jg, i, none⟩ u) : RL B w' jg g v { j with broken := true } d := by
  have hlt := h.lt
  subst hw
  refine ⟨hjn, ?_, h.ok, own_setj h.ow (Nat.lt_succ_self _) _ _, h.lt, h.ge⟩
  have := h.hd
  unfold RefAt at this ⊢
  rw [heap_setCell_other _ _ _ _ (by show g ≠ jg; omega)]; exact this
end
/-- the document's journal turns, with its disk; all else stands. -/
theorem Two.kp0 {g jg : Nat} {w w' : World} (h : Two g jg w w') : Kp g jg none w w' := Kp.of_two h
theorem wpList_append_run {P : Program} {ops : Array Oper} {rest : List Oper} {o : Oper} {a : Act} {w w' : World} {Q : Exit → Act → World → Prop} (hgd : o.guard = none) (s x : Operand) (t : TypeId)
    (ho : o.op = .call { callee := .builtin .append, args := #[s, x], argTypes := #[t, t] }) (v y r : Value) (hs : a.eval s = v) (hx : a.eval x = y) (hr : (Builtin.append_ #[t, t] o.type #[v, y]).run P w = .ok r w')
    (h : wpList P ops Q rest (a.put o.dst r) w') : wpList P ops Q (o :: rest) a w := by
  refine wpList_plain hgd fun _ hK => ?_
  unfold Oper.wp execOp
  simp only [ho, resolve, invoke, builtin, Sem.run_bind, Sem.run_pure, Result.andThen_ok, List.map_toArray, List.map_cons, List.map_nil, hs, hx, hr]
  exact hK _ _ h
theorem append_row (ty : TypeId) {B B' : Nat} {w : World} {vE v : Value} {E A : List (List UInt8)} (hE : Row B w vE E) (hA : Row B' w v A) (hB : B ≤ w.heap.size) (hl : E.length + A.length ≤ 100000) :
    ∃ v' w', (Builtin.append_ #[50, 50] ty #[vE, v]).run Try.prog w = .ok v' w' ∧ Row B w' v' (E ++ A) ∧ w.grownBy w' vE.ownBlock ∧ (v'.ownBlock = vE.ownBlock ∨ v'.ownBlock = some w.heap.size) := by
  obtain ⟨i0, hi, hz0, hz1, hz2⟩ := info_parts infoStr
  rcases hA.2 with ⟨rfl, h0⟩ | ⟨g, cap, cur, rfl, _, hh, _⟩
  · have hA0 : A = [] := List.length_eq_zero_iff.1 h0
    subst hA0
    refine ⟨vE, w, ?_, by rw [List.append_nil]; exact hE, ⟨rfl, rfl, rfl, Nat.le_refl _, fun _ _ _ => rfl⟩, .inl rfl⟩
    rcases hE.2 with ⟨rfl, h1⟩ | ⟨g, cap, cur, rfl, _, hg, hnc, hcm, hcs, htk⟩
    · simp [Builtin.append_, run_underlying Try.underlying50, sizeOf, typeInfo, hi, Builtin.lenOf, Builtin.firstCells]
    · have hm : E.length ≤ cap := hnc
      simp [Builtin.append_, run_underlying Try.underlying50, sizeOf, typeInfo, hi, Builtin.lenOf, Builtin.firstCells, loadCells, hm]
      rfl
  · obtain ⟨v', w', hr, h2, h3, _, h5⟩ := run_append_own_at (P := Try.prog) w B 50 ty 9 i0 (.string ByteArray.empty) 1 16 Try.underlying50 hi hz0 hz1 hz2 rfl (by decide)
      vE E.length (strs E) hE ⟨g, 0, none⟩ A.length cap (strs A) (by simp [strs]) (fun j u hu => by
        have hj : j < A.length := by have := (List.getElem?_eq_some_iff.1 hu).1; simpa [strs] using this
        rw [WideShapes.add_plain, Nat.zero_add, World.ownsRow.cellAt hA j (by omega)]
        exact hu) (fun u hu => by
        simp only [strs, List.mem_map] at hu
        obtain ⟨x, _, rfl⟩ := hu
        rfl) (by unfold maxLen; omega) (by omega) hB
    refine ⟨v', w', hr, ?_, h3, h5⟩
    unfold Row
    rw [List.length_append, show strs (E ++ A) = strs E ++ strs A by simp [strs]]
    exact h2
theorem row_empty {B : Nat} (w : World) (hB : B ≤ w.heap.size) : Row B (w.alloc (.cells #[] 9 (0, 0))) (.slice (some ⟨w.heap.size, 0, none⟩) 0 0) [] :=
  ⟨rfl, .inr ⟨w.heap.size, 0, #[], rfl, hB, heap_alloc_new _ _, Nat.le_refl _, by unfold maxLen; omega, rfl, rfl⟩⟩
theorem row_single {B : Nat} (w : World) (hB : B ≤ w.heap.size) (b : List UInt8) : Row B (w.alloc (.cells #[.string ⟨b.toArray⟩] 9 (0, 0))) (.slice (some ⟨w.heap.size, 0, none⟩) 1 1) [b] :=
  ⟨rfl, .inr ⟨w.heap.size, 1, #[.string ⟨b.toArray⟩], rfl, hB, heap_alloc_new _ _, Nat.le_refl _, by unfold maxLen; omega, rfl, rfl⟩⟩
theorem code_step {d : Dk} {f : Dk → Out} (h : ∀ c, (f c).code = 0) : (d.step f).code = 0 ∨ (d.step f).code = 9 := by
  rcases step_cases d f with e | e
  · rw [e]; exact .inr rfl
  · rw [e]; exact .inl (h _)
theorem code_sync (d : Dk) (i : Nat) (hi : i < 4) : (d.sync i).code = 0 ∨ (d.sync i).code = 9 := by
  rw [sync_step d i hi]; exact code_step (fun _ => rfl)
theorem code_cut (d : Dk) (n : Nat) : (d.cutto 0 n).code = 0 ∨ (d.cutto 0 n).code = 9 ∨ (d.cutto 0 n).code = 1 := by
  unfold Dk.cutto
  split
  · rcases code_step (d := d) (f := (·.cut (Int.toNat 0) (Int.toNat n))) (fun _ => rfl) with h | h
    · exact .inl h
    · exact .inr (.inl h)
  · exact .inr (.inr rfl)
theorem code_move (d : Dk) : (d.move 2 1).code = 0 ∨ (d.move 2 1).code = 9 := by
  rw [move21]; exact code_step (fun c => mov_code c 2 1)
set_option maxRecDepth 100000 in
set_option maxHeartbeats 8000000 in
theorem append_ref {B : Nat} {w : World} {jg g : Nat} {v : Value} {j : Jn} {d : Dk} (h : RL B w jg g v j d) (b : List UInt8) (hb : (b.length : Int) ≤ 140737488355328) (hfit : (j.base : Int) + j.recs.length ≤ 9223372036854775806) (hrl : (j.recs.length : Int) ≤ 4000) :
    Calls Try.prog 52 #[.pointer (some ⟨jg, 0, none⟩), .string ⟨b.toArray⟩] w fun e w' => e = .returned (.int .i64 (appJ j d b).1) ∧ ∃ v', RL B w' jg g v' (appJ j d b).2.1 (appJ j d b).2.2 ∧ Kp g jg none w w' ∧ (v'.ownBlock = v.ownBlock ∨ ∀ k, v'.ownBlock = some k → w.heap.size ≤ k) := by
  obtain ⟨va, vc, rfl⟩ := h.ow.form
  have HL := Lib.hid h
  have HM := Lib.hid (may_ref jg g _ j b hb w h.hj)
  clear h
  by_cases hm : mayJ j b = 0
  · have hmz := mayJ_zero hm
    have HMM := Lib.hid hm
    have HBR := Lib.hid hmz.2
    have hb2 : (b.length : Int) ≤ 65528 := by have := hmz.1; omega
    rw [hm] at HM
    have hl8 : (eight (j.base + j.recs.length + 1)).length = 8 := rfl
    have HE := Lib.hid (show ∀ wx, Calls Try.prog 90 #[.int .i64 ((j.base : Int) + j.recs.length + 1)] wx fun e w' => e = .returned (.string ⟨(eight (j.base + j.recs.length + 1)).toArray⟩) ∧ Below wx.heap.size wx w' from fun wx => by
      have h := eight_ref (j.base + j.recs.length + 1) (by omega) wx
      rw [show ((j.base + j.recs.length + 1 : Nat) : Int) = (j.base : Int) + j.recs.length + 1 by omega] at h
      exact h)
    have hcat := catj (eight (j.base + j.recs.length + 1)) b (by rw [hl8]; omega)
    have HP := Lib.hid (show ∀ wx, Calls Try.prog 30 #[.string ⟨(eight (j.base + j.recs.length + 1) ++ b).toArray⟩] wx fun e w' => e = .returned (.tuple #[.string ⟨(recF j b).toArray⟩, .int .i64 0]) ∧ Below wx.heap.size wx w' from fun wx => by
      have h := rput_ok ⟨(eight (j.base + j.recs.length + 1) ++ b).toArray⟩ (by show (eight _ ++ b).length ≤ 65536; rw [List.length_append]; show 8 + b.length ≤ 65536; omega) wx
      exact h)
    have hF : (recF j b).length ≤ 140737488355328 := by
      unfold recF; rw [frame_len]; omega
    have HAA := Lib.hid (fun h2 => appJ_bad (d := d) hm h2)
    have HAO := Lib.hid (fun h2 => appJ_ok (d := d) hm h2)
    have hsd : stA (recF j b) d = if (d.append 0 (recF j b)).code = 0 then (if ((d.append 0 (recF j b)).dk.sync 0).code = 0 then ⟨0, ((d.append 0 (recF j b)).dk.sync 0).dk⟩ else (d.append 0 (recF j b)).dk.sync 0) else d.append 0 (recF j b) := rfl
    have HSD := Lib.hid hsd
    have HF := Lib.hid hF
    have s1 := IntWalk.i64_in ((j.base : Int) + j.recs.length) (by omega)
    have s2 := IntWalk.i64_in ((j.base : Int) + j.recs.length + 1) (by omega)
    clear hsd hF hm hl8 hmz
    generalize eight (j.base + j.recs.length + 1) = E8 at *
    generalize hEB : E8 ++ b = EB at *
    have HEB := Lib.hid hEB
    clear hEB
    generalize recF j b = F at *
    have k2 := HL.out.hj.c2
    have k3 := HL.out.hj.c3
    have HLD := Lib.hid (HL.out.below (Below.refl w.heap.size w).drew)
    have e2 := HLD.out.hj.c2
    have e3 := HLD.out.hj.c3
    go_enter Try.func52, Try.ntmps52
    go_upto_region 4 with (go_at_call 89; refine (HM.out).mono ?_; rintro e w2 ⟨rfl, rfl⟩)
    go_region_held (fun wx => wx.cell? ⟨jg, 2, none⟩ = some (.int .i64 j.base) ∧ wx.cell? ⟨jg, 3, none⟩ = some (.slice va j.recs.length vc)) (first | assumption | exact ⟨k2, k3⟩ | exact ⟨e2, e3⟩ | exact ⟨kept_at hbe e2, kept_at hbe e3⟩ | exact ⟨kept_at hbp (kept_at hbe e2), kept_at hbp (kept_at hbe e3)⟩)
      (first
        | (go_at_call 90; refine (HE.out _).mono ?_; rintro e w5 ⟨rfl, hbe⟩)
        | (go_at_call 30; refine (HP.out _).mono ?_; rintro e w6 ⟨rfl, hbp⟩))
    have HL6 := Lib.hid ((HLD.out.below hbe).below hbp)
    have HB6 := Lib.hid (((Below.refl w2.heap.size w2).drew.trans hbe).trans (hbp.mono ((Below.refl w2.heap.size w2).drew.trans hbe).size))
    clear hbe hbp k2 k3 e2 e3 HLD HE HP hcat HEB HM
    rename_i hHeld
    clear hHeld
    have c0 := HL6.out.hj.c0
    go_wp2_with fail
    go_at_call 47
    refine (ref_append g d HL6.out.ok 0 F HF.out _ HL6.out.hd).mono ?_
    rintro e w7 ⟨rfl, hd7, ho7⟩
    have HL7 := Lib.hid (HL6.out.turn ho7 hd7 (append_ok HL6.out.ok 0 F))
    have HK7 := Lib.hid ((Two.of_below HB6.out : Two g jg _ _).trans (Two.of1 ho7))
    clear hd7 ho7 HL6 HB6 c0
    obtain ⟨o1, ho1⟩ : ∃ o, d.append 0 F = o := ⟨_, rfl⟩
    rw [ho1] at HL7 HSD ⊢
    clear ho1
    obtain ⟨cA, dA⟩ := o1
    dsimp only at HL7 HSD ⊢
    by_cases h4 : cA = 4
    · subst h4
      have HA := Lib.hid (show appJ j d b = (4, j, dA) by
        have h1 : stA F d = ⟨4, dA⟩ := by rw [HSD.out]; rfl
        rw [HAA.out (by rw [h1]; exact (by decide : (4 : Int) ≠ 0)), h1]
        show ((4 : Int), ({ j with broken := brk j.broken 4 } : Jn), dA) = _
        have h2 : brk j.broken 4 = j.broken := by rw [HBR.out]; rfl
        rw [h2])
      clear HAA HAO HSD
      go_wp2
      go_ret
      rw [HA.out]
      exact ⟨rfl, _, HL7.out, Kp.of_two HK7.out, Or.inl rfl⟩
    · have h4b : (cA == 4) = false := by simpa using h4
      by_cases hz : cA = 0
      · subst hz
        have c0 := HL7.out.hj.c0
        have hcs := code_sync dA 0 (by omega)
        have HSD2 := Lib.hid (HSD.out.trans (if_pos rfl))
        clear HSD
        go_wp2_with fail
        go_at_call 48
        refine (ref_sync g dA HL7.out.ok 0 _ HL7.out.hd).mono ?_
        rintro e w8 ⟨rfl, hd8, ho8⟩
        have HL8 := Lib.hid (HL7.out.turn ho8 hd8 (sync_ok HL7.out.ok 0))
        have HK8 := Lib.hid (HK7.out.trans (Two.of1 ho8))
        clear hd8 ho8 HL7 HK7 c0
        replace hcs : (dA.sync 0).code = 0 ∨ (dA.sync 0).code = 9 := hcs
        obtain ⟨o2, ho2⟩ : ∃ o, dA.sync 0 = o := ⟨_, rfl⟩
        rw [ho2] at HL8 HSD2 hcs ⊢
        clear ho2
        obtain ⟨cS, dS⟩ := o2
        dsimp only at HL8 HSD2 hcs ⊢
        rcases hcs with rfl | rfl
        · have HA := Lib.hid (show appJ j d b = (0, { j with recs := j.recs ++ [b] }, dS) by
            have h1 : stA F d = ⟨0, dS⟩ := by rw [HSD2.out]; rfl
            rw [HAO.out (by rw [h1]), h1])
          clear HAA HAO HSD2
          have f3 := HL8.out.hj.frozen 3
          have hsz := HL8.out.jlt
          have hlt := HL8.out.lt
          -- the copy
          have hal1 := alloc_below w8 (.cells #[] 9 (0, 0))
          have hE := row_empty (B := jg + 1) w8 (by omega)
          have HL9 := Lib.hid (HL8.out.below hal1)
          have c3 := HL9.out.hj.c3
          have hs9 : (w8.alloc (.cells #[] 9 (0, 0))).heap.size = w8.heap.size + 1 := by simp
          obtain ⟨v1, w10, hap1, hr1, hg1, hat1⟩ := append_row 50 hE HL9.out.ow (by rw [hs9]; omega) (by show 0 + _ ≤ _; omega)
          have hb1 : ∀ k, v1.ownBlock = some k → w8.heap.size ≤ k := by
            intro k hk
            rcases hat1 with e | e
            · rw [e] at hk
              have : w8.heap.size = k := by simpa [Value.ownBlock] using hk
              omega
            · rw [e] at hk
              simp only [Option.some.injEq] at hk
              omega
          have hgb1 : Below w8.heap.size w8 w10 := hal1.trans (grown_below hg1 (by rw [hs9]; omega) (fun k hk => by
            have : w8.heap.size = k := by simpa [Value.ownBlock] using hk
            omega))
          rw [List.nil_append] at hr1
          have hal2 := alloc_below w10 (.cells #[.string ⟨b.toArray⟩] 9 (0, 0))
          have hS := row_single (B := jg + 1) w10 (by have := hgb1.size; omega) b
          have hs11 : (w10.alloc (.cells #[.string ⟨b.toArray⟩] 9 (0, 0))).heap.size = w10.heap.size + 1 := by simp
          have hr2 := Row.below hr1 hal2
          obtain ⟨v2, w12, hap2, hr3, hg2, hat2⟩ := append_row 50 hr2 hS (by rw [hs11]; have := hgb1.size; omega) (by show _ + 1 ≤ _; omega)
          have hgb2 : Below w8.heap.size w8 w12 := (hgb1.trans (hal2.mono hgb1.size)).trans (grown_below hg2 (by rw [hs11]; have := hgb1.size; omega) hb1)
          obtain ⟨xa, xc, rfl⟩ := Row.form hr3
          have HNB := Lib.hid (show ∀ k, (Value.slice xa (j.recs.length + 1) xc).ownBlock = some k → w2.heap.size ≤ k from fun k hk => by
            have hw := HK8.out.size
            have hk' : (Value.slice xa (j.recs ++ [b]).length xc).ownBlock = some k := by rw [List.length_append]; exact hk
            rcases hat2 with e | e
            · rw [e] at hk'; have := hb1 k hk'; omega
            · rw [e, hs11] at hk'
              simp only [Option.some.injEq] at hk'
              have := hgb1.size
              omega)
          have HL12 := Lib.hid (HL8.out.below hgb2)
          have HK12 := Lib.hid (HK8.out.trans (Two.of_below hgb2))
          have HR12 := Lib.hid hr3
          have f312 := HL12.out.hj.frozen 3
          have c312 := HL12.out.hj.c3
          clear hal1 hE HL9 hr1 hal2 hS hr2 hr3 hg1 hg2 hat1 hat2 hb1 hgb1 hgb2 hs9 hs11 HK8 HL8 f3
          go_wp2_with (at_builtin; first
            | (refine wpList_append_run rfl (.tmp 55) (.tmp 59) 50 rfl _ _ _ rfl rfl hap1 ?_)
            | (refine wpList_append_run rfl (.tmp 60) (.tmp 62) 50 rfl _ _ _ rfl rfl hap2 ?_))
          go_ret
          rw [HA.out]
          refine ⟨rfl, _, ⟨HL12.out.hj.set3 _ (j.recs ++ [b]), ?_, HL12.out.ok, ?_, HL12.out.lt, HL12.out.ge⟩, (Kp.of_two HK12.out).setj 3 _, Or.inr HNB.out⟩
          · have := HL12.out.hd
            unfold RefAt at this ⊢
            rw [heap_setCell_other _ _ _ _ (by show g ≠ jg; omega)]; exact this
          · have hl : (j.recs ++ [b]).length = j.recs.length + 1 := by simp
            have h1 := own_setj HR12.out (Nat.lt_succ_self _) 3 (.slice xa (j.recs ++ [b]).length xc)
            show World.ownsRow _ _ _ _ _ (j.recs ++ [b]).length (strs (j.recs ++ [b]))
            rw [hl] at h1 ⊢
            exact h1
        · have HA := Lib.hid (show appJ j d b = (9, { j with broken := true }, dS) by
            have h1 : stA F d = ⟨9, dS⟩ := by rw [HSD2.out]; rfl
            rw [HAA.out (by rw [h1]; exact (by decide : (9 : Int) ≠ 0)), h1]
            show ((9 : Int), ({ j with broken := brk j.broken 9 } : Jn), dS) = _
            have h2 : brk j.broken 9 = true := by rw [HBR.out]; rfl
            rw [h2])
          clear HAA HAO HSD2
          have c4 := HL8.out.hj.c4
          have f4 := HL8.out.hj.frozen 4
          go_wp2
          go_ret
          rw [HA.out]
          exact ⟨rfl, _, HL8.out.set (HL8.out.hj.set4 true) 4 _ rfl, (Kp.of_two HK8.out).setj 4 _, Or.inl rfl⟩
      · have hz1 : (cA == 0) = false := by simpa using hz
        have hz2 : (cA != 0) = true := by simpa using hz
        have HA := Lib.hid (show appJ j d b = (cA, { j with broken := true }, dA) by
          have h1 : stA F d = ⟨cA, dA⟩ := by rw [HSD.out, if_neg hz]
          rw [HAA.out (by rw [h1]; exact hz), h1]
          show (cA, ({ j with broken := brk j.broken cA } : Jn), dA) = _
          have h2 : brk j.broken cA = true := by rw [HBR.out]; simp [brk, hz, h4]
          rw [h2])
        have c4 := HL7.out.hj.c4
        have f4 := HL7.out.hj.frozen 4
        clear HAA HAO HSD hz h4
        go_wp2
        go_ret
        rw [HA.out]
        exact ⟨rfl, _, HL7.out.set (HL7.out.hj.set4 true) 4 _ rfl, (Kp.of_two HK7.out).setj 4 _, Or.inl rfl⟩
  · have hm2 : (mayJ j b != 0) = true := by simpa using hm
    have HA := Lib.hid (appJ_no (d := d) hm)
    clear hm
    generalize mayJ j b = m at *
    go_enter Try.func52, Try.ntmps52
    go_wp2_with (go_at_call 89; refine (HM.out).mono ?_; rintro e w2 ⟨rfl, rfl⟩)
    go_ret
    rw [HA.out]
    exact ⟨rfl, _, HL.out, Kp.of_two (Two.refl _ _ _), Or.inl rfl⟩
end Go.Proofs.Ytdphnhgogokidaa
