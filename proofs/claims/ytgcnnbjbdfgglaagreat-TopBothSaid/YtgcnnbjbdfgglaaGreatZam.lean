/- LAW TopBoth: of every configuration of a bank and every list of byte strings the given function TopBoth returns true and leaves its arguments as they were; no condition. A part of what it needs. -/
import Derived.Test.YtgcnnbjbdfgglaaGreatZal
namespace Go.Proofs.YtgcnnbjbdfgglaaGreat
open Go.RowKit
def PassB (d:Gd) (m:Nat) (ps:List Pst):Prop:=inB d.t.n ps = true∧∃ row,rowOf m (d.L.bal m) ps = some row∧Passes d.t (d.lim m) row
def FailsPost (d:Gd) (m:Nat) (ps:List Pst) (w:World) (e:Ending) (w':World):Prop:=∃ v:Int,e = .returned (.int .i64 v)∧Below w.heap.size w w'∧(v = 0 ↔ PassB d m ps)
theorem FailsPost.seven {d:Gd} {m:Nat} {ps:List Pst} {w w':World} (hb:Below w.heap.size w w') (h:¬ PassB d m ps):FailsPost d m ps w (.returned (.int .i64 7)) w':=⟨7,rfl,hb,fun h0 => by omega,fun hp => absurd hp h⟩
theorem RowK.cell1 {w:World} {g n:Nat} {f:Nat→Nat→Value} (h:RowK w g 1 n f) {i:Nat} (hi:i < n):w.cell? ⟨g,i,none⟩ = some (f i 0):=by
  have:=h.cell hi (show 0 < 1 by omega)
  have e:i * 1 + 0 = i:=by omega
  rw [e] at this
  exact this
theorem RowK.set1 {w:World} {g n:Nat} {f:Nat→Nat→Value} (h:RowK w g 1 n f) {a:Nat} (ha:a < n) (v:Value):RowK (w.setCell ⟨g,a,none⟩ v) g 1 n (fun i _ => if i = a then v else f i 0):=by
  have:=h.set ha (show 0 < 1 by omega) v
  have e:a * 1 + 0 = a:=by omega
  rw [e] at this
  refine this.ext fun i j _ hj => ?_
  obtain rfl:j = 0:=by omega
  simp
theorem made_row (w:World) (n:Nat):RowK (w.alloc (.cells (madeCells #[.int .i64 0] n) 2)) w.heap.size 1 n (fun _ _ => .int .i64 0):=by
  refine ⟨_,_,heap_alloc_new _ _,fun i j hi hj => ?_⟩
  obtain rfl:j = 0:=by omega
  have:i * 1 + 0 < n:=by omega
  have hi':i < n:=by omega
  simp [madeCells,hi',Nat.mod_one]
theorem Bk.make64 (n:Nat) (hn:n≤8) (w:World):(Instr.makeSlice 70 (.int .i64 n) (.int .i64 n)).run Tryz.prog w = .ok (.slice (some ⟨w.heap.size,0,none⟩) n n) (w.alloc (.cells (madeCells #[.int .i64 0] n) 2)):=by
  obtain ⟨i0,hi,hz0,hz1,hz2⟩:=info_parts Bk.info64
  have:=run_make (P:=Tryz.prog) w 70 2 i0 (.int .i64 0) Tryz.underlying70 hi hz0 .i64 .i64 n n (by omega) (Int.le_refl _) (by rw [hz2]; omega) (by omega)
  rw [hz1] at this
  simp only [Int.toNat_natCast,Nat.mul_one] at this
  exact this
set_option maxRecDepth 100000 in
set_option maxHeartbeats 4000000 in
theorem Bk.fails {w:World} {h:Gh} {d:Gd} (a:GuAt w h d) (m:Nat) (hm:m < d.L.n) (v:Value) (ps:List Pst) (hp:SlP w v ps) (hn:(ps.length:Int)≤4000) (ha:∀ p ∈ ps,In64 p.a) :
    Calls Tryz.prog 22 #[.pointer (some ⟨h.g,0,none⟩),.int .i64 m,v] w (FailsPost d m ps w):=by
  have hh:=Lib.hid (Bk.gu_has a m)
  rw [hasN_yes hm] at hh
  have HA:=Lib.hid a
  have HP:=Lib.hid hp
  have HPA:=Lib.hid ha
  have HM:=Lib.hid hm
  obtain ⟨pa,pc,rfl,hpc⟩:=id hp
  have HPC:=Lib.hid hpc
  have n1:=a.ok.tok.pos
  have n8:=a.ok.tok.le
  have n16:=a.ok.lok.n16
  have g0:=(a.gu.cell 0).trans rfl
  have g2:=(a.gu.cell 2).trans rfl
  have gl:=a.gu.lt
  have l0:=a.lims.cell hm (show 0 < 2 by omega)
  have l1:=a.lims.cell hm (show 1 < 2 by omega)
  rw [Nat.add_zero] at l0
  simp only [if_true,show ¬ (1:Nat) = 0 by omega,if_false] at l0 l1
  have q1:(m:Int) < (d.L.n:Int):=by omega
  have q2:(d.L.n:Int)≤16:=by omega
  have q3:(d.t.n:Int)≤8:=by omega
  have HAL:=Lib.hid (a.ok.a64 m hm)
  generalize hall:(d.lim m).all = all at *
  have EALL:=Lib.hid hall
  have HS64:=Lib.hid (fun i hi => a.ok.s64 m i hm hi)
  have HX:=Lib.hid (Blk.new w 84 #[.slice (some ⟨h.sb m,0,none⟩) d.t.n (h.sc m),.int .i64 all])
  have HB0:=Lib.hid ((Below.refl w.heap.size w).alloc (Nat.le_refl _) (.cells #[.slice (some ⟨h.sb m,0,none⟩) d.t.n (h.sc m),.int .i64 all] 84))
  have hmk:=Bk.make64 d.t.n n8 (w.alloc (.cells #[.slice (some ⟨h.sb m,0,none⟩) d.t.n (h.sc m),.int .i64 all] 84))
  have HRM:=made_row (w.alloc (.cells #[.slice (some ⟨h.sb m,0,none⟩) d.t.n (h.sc m),.int .i64 all] 84)) d.t.n
  rw [World.size_alloc] at HRM hmk
  have HRM:=Lib.hid HRM
  have HXB:=Lib.hid (HX.out.alloc (.cells (madeCells #[.int .i64 0] d.t.n) 2))
  clear HX
  have HB1:=Lib.hid (HB0.out.alloc (by simp) (.cells (madeCells #[.int .i64 0] d.t.n) 2))
  clear a hp ha hpc hm hall
  go_enter Tryz.func22,Tryz.ntmps22
  go_wp2_with fail
  refine hh.out.mono ?_
  rintro e w0 ⟨rfl,rfl⟩
  go_upto_region 5 with (fail)
  have g0':=g0
  generalize (w0.alloc (.cells #[.slice (some ⟨h.sb m,0,none⟩) d.t.n (h.sc m),.int .i64 all] 84)).alloc (.cells (madeCells #[.int .i64 0] d.t.n) 2) = W1 at *
  have HX1:=Lib.hid HXB.out
  clear hmk l0 l1 g0' g2 HXB
  generalize hH:w0.heap.size = H at *
  have HH:=Lib.hid hH
  clear hH
  have HB1':=Lib.hid (show Below w0.heap.size w0 W1 by rw [HH.out]; exact HB1.out)
  go_wp2
  go_loopw [36] (fun i wr => ∃ k:Nat,k≤d.t.n∧i = .int .i64 k∧RowK wr (H + 1) 1 d.t.n (fun i _ => .int .i64 (if i < k then d.L.bal m i else 0))∧Blk wr H 84 #[.slice (some ⟨h.sb m,0,none⟩) d.t.n (h.sc m),.int .i64 all]∧Below H w0 wr) (fun i _ => d.t.n - (intOf i).toNat)
  case atStart => exact ⟨0,by omega,rfl,HRM.out.ext (fun i j _ _ => by simp),HX1.out,HB1.out⟩
  case round =>
    obtain ⟨k,hk,rfl,hr,hx,hb⟩:=hrel
    have HR:=Lib.hid hr
    have HX:=Lib.hid hx
    have hb':Below w0.heap.size w0 wr:=by rw [HH.out]; exact hb
    have HB:=Lib.hid hb
    have HB':=Lib.hid hb'
    clear hr hx hb hb'
    have g0:=Bk.kept HB'.out g0
    have lx:=HX.out.lt
    have lr:=HR.out.lt
    by_cases hlt:k < d.t.n
    · have w1:(k:Int) < (d.t.n:Int):=by omega
      have hget:=Lib.hid (Bk.get (HA.out.led.below HB'.out) HA.out.ok.lok m k)
      have hgk:d.L.get m k = d.L.bal m k:=by
        unfold Led.get
        rw [if_pos (Led.has_iff.2 (by have:=HA.out.ok.c; omega))]
        simp
      rw [hgk] at hget
      have cb:=HR.out.cell1 hlt
      have fb:=HR.out.frozen k
      have HS:=Lib.hid ((HR.out.set1 hlt (.int .i64 (d.L.bal m k))).ext (f':=fun i _ => .int .i64 (if i < k + 1 then d.L.bal m i else 0)) (fun i j hi hj => by
        by_cases e:i = k
        · subst e; simp
        · have:(i < k + 1) ↔ (i < k):=by omega
          simp [e,this]))
      clear hgk
      generalize d.L.bal m k = x at *
      go_wp2_with fail
      refine hget.out.mono ?_
      rintro e w2 ⟨rfl,rfl⟩
      go_wp2
      go_roundw
      case rel => exact ⟨k + 1,by omega,by go_num,HS.out,HX.out.far (by omega) _ _,HB.out.setCell (p:=⟨H + 1,k,none⟩) (Nat.le_succ H) _⟩
      case measure => simp [intOf]; omega
    · obtain rfl:k = d.t.n:=by omega
      have HR:=Lib.hid (HR.out.ext (f':=fun i _ => .int .i64 (d.L.bal m i)) (fun i j hi _ => by simp [hi]))
      clear hlt hk g0 lx lr
      go_wp2
      go_loopw [52] (fun i wx => ∃ j:Nat,j≤ps.length∧i = .int .i64 j∧(∀ p ∈ ps.take j,hasN d.t.n p.c = true)∧Below wr.heap.size wr wx) (fun i _ => ps.length - (intOf i).toNat)
      case atStart => exact ⟨0,by omega,rfl,by simp,Below.refl _ _⟩
      case round =>
        obtain ⟨j,hj,rfl,hin,hb⟩:=hrel
        have HIN:=Lib.hid hin
        have HBX:=Lib.hid hb
        clear hin hb
        by_cases hlt:j < ps.length
        · have w2:(j:Int) < (ps.length:Int):=by omega
          obtain ⟨b',o,rfl,hc⟩:=HPC.out (by omega)
          obtain ⟨h3,h4,h5⟩:=hc j ps[j] (by simp [hlt])
          have hst:=Lib.hid (show ps.take (j + 1) = ps.take j ++ [ps[j]] by simp)
          have hmem:=Lib.hid (List.getElem_mem hlt)
          generalize ps[j] = p at *
          have g3:=Bk.kept HBX.out (Bk.kept HB'.out h3)
          have g4:=Bk.kept HBX.out (Bk.kept HB'.out h4)
          have g5:=Bk.kept HBX.out (Bk.kept HB'.out h5)
          have HBX2:=Lib.hid (HBX.out.alloc HBX.out.size (.cells #[.int .i64 p.m,.int .i64 p.c,.int .i64 p.a] 69))
          clear hc h3 h4 h5
          by_cases hc0:p.c < 0
          · have HNO:=Lib.hid (show ¬ PassB d m ps from fun hp => by
              have:=hasN_iff.1 (List.all_eq_true.1 hp.1 p hmem.out); omega)
            go_wp2
            go_ret
            exact FailsPost.seven (HB'.out.trans (HBX2.out.mono HB'.out.size)) HNO.out
          · by_cases hc1:(d.t.n:Int)≤p.c
            · have HNO:=Lib.hid (show ¬ PassB d m ps from fun hp => by
                have:=hasN_iff.1 (List.all_eq_true.1 hp.1 p hmem.out); omega)
              go_wp2
              go_ret
              exact FailsPost.seven (HB'.out.trans (HBX2.out.mono HB'.out.size)) HNO.out
            · have HN:=Lib.hid (show hasN d.t.n p.c = true from hasN_iff.2 ⟨by omega,by omega⟩)
              go_wp2
              go_roundw
              case rel => exact ⟨j + 1,by omega,by go_num,by rw [hst.out]; intro q hq; rcases List.mem_append.1 hq with h | h; exact HIN.out q h; simp at h; subst h; exact HN.out,HBX2.out⟩
              case measure => simp [intOf]; omega
        · obtain rfl:j = ps.length:=by omega
          rw [List.take_length] at HIN
          have HIB:=Lib.hid (show inB d.t.n ps = true from List.all_eq_true.2 HIN.out)
          have HBR:=Lib.hid (HB'.out.trans (HBX.out.mono HB'.out.size))
          have HR5:=Lib.hid (HR.out.below HBX.out)
          have HX5:=Lib.hid (HX.out.below HBX.out)
          have HB5:=Lib.hid (show Below H w0 wr by rw [← HH.out]; exact HBR.out)
          have HF0:=Lib.hid (fun i (hi:i < d.t.n) => HA.out.ok.lok.b64 m i HM.out (by omega))
          have HPA':=HPA
          clear hlt hj
          go_wp2
          go_loopw [69] (fun i wy => ∃ (j:Nat) (f:Nat→Int),j≤ps.length∧i = .int .i64 j∧RowK wy (H + 1) 1 d.t.n (fun i _ => .int .i64 (f i))∧rowOf m f (ps.drop j) = rowOf m (d.L.bal m) ps∧(∀ i,i < d.t.n→In64 (f i))∧Below (H + 1) wr wy) (fun i _ => ps.length - (intOf i).toNat)
          case atStart => exact ⟨0,d.L.bal m,by omega,rfl,HR5.out,rfl,HF0.out,Below.refl _ _⟩
          case round =>
            obtain ⟨j,f,hj,rfl,hr,hro,hf64,hb⟩:=hrel
            have HR6:=Lib.hid hr
            have HRO:=Lib.hid hro
            have HF6:=Lib.hid hf64
            have HB6:=Lib.hid hb
            have lr:=hr.lt
            have HBW:=Lib.hid (show Below H w0 wr from HB5.out.trans (hb.mono (Nat.le_succ H)))
            have HBW':=Lib.hid (show Below w0.heap.size w0 wr by rw [HH.out]; exact HBW.out)
            have HX6:=Lib.hid (show Blk wr H _ _ from (hb.block H (Nat.lt_succ_self H)).trans HX5.out)
            clear hr hro hf64 hb
            by_cases hlt:j < ps.length
            · have w2:(j:Int) < (ps.length:Int):=by omega
              obtain ⟨b',o,rfl,hc⟩:=HPC.out (by omega)
              obtain ⟨h3,h4,h5⟩:=hc j ps[j] (by simp [hlt])
              have hst:=Lib.hid (show ps.drop j = ps[j] :: ps.drop (j + 1) from List.drop_eq_getElem_cons hlt)
              have ha64:=HPA.out ps[j] (List.getElem_mem hlt)
              have hin:=HIN.out ps[j] (List.getElem_mem hlt)
              generalize ps[j] = p at *
              have g3:=Bk.kept HBW'.out h3
              have g4:=Bk.kept HBW'.out h4
              have g5:=Bk.kept HBW'.out h5
              clear hc h3 h4 h5
              have HBA2:=Lib.hid (HB6.out.alloc (by have:=HB6.out.size; have:=HX5.out.lt; omega) (.cells #[.int .i64 p.m,.int .i64 p.c,.int .i64 p.a] 69))
              have HRA:=Lib.hid (HR6.out.below ((Below.refl _ _).alloc (Nat.le_refl _) (.cells #[.int .i64 p.m,.int .i64 p.c,.int .i64 p.a] 69)))
              have HBW2:=Lib.hid (HBW'.out.alloc HBW'.out.size (.cells #[.int .i64 p.m,.int .i64 p.c,.int .i64 p.a] 69))
              obtain ⟨pm,pc',pa'⟩:=p
              simp only at g3 g4 g5 ha64 hin
              have hin2:=hasN_iff.1 hin
              obtain ⟨c,rfl⟩:∃ c:Nat,pc' = c:=⟨pc'.toNat,by omega⟩
              have hcn:c < d.t.n:=by omega
              have w1:(c:Int) < (d.t.n:Int):=hin2.2
              clear hin hin2
              by_cases hpm:pm = (m:Int)
              · subst hpm
                have hme:((m:Int) != (m:Int)) = false:=by simp
                have cg1:=HR6.out.cell1 hcn
                have fg1:=HR6.out.frozen c
                have hx64:=HF6.out c hcn
                by_cases hin:In64 (f c + pa')
                · have hadd:=Lib.hid (fun w => Bk.add_eq w hx64 ha64 rfl hin)
                  have HNX:=Lib.hid (show rowOf m (fun i => if i = c then f c + pa' else f i) (ps.drop (j + 1)) = rowOf m (d.L.bal m) ps by rw [← HRO.out,hst.out]; exact (rowOf_step (p:=⟨(m:Int),(c:Int),pa'⟩) rfl rfl rfl hin).symm)
                  have HIN2:=Lib.hid hin
                  have HJ:=Lib.hid hcn
                  clear hin hx64 ha64 hcn
                  generalize f c + pa' = x' at *
                  generalize f c = x at *
                  go_wp2_with fail
                  go_quiet ((go_at_call 45; exact Calls.quiet_of_same (hadd.out _)))
                  go_wp2
                  go_roundw
                  case rel =>
                    have hdr:Below (wr.alloc (.cells #[.int .i64 m,.int .i64 c,.int .i64 pa'] 69)).heap.size (wr.alloc (.cells #[.int .i64 m,.int .i64 c,.int .i64 pa'] 69)) ((wr.alloc (.cells #[.int .i64 m,.int .i64 c,.int .i64 pa'] 69)).drewN nq):=Bk.bdrew (Below.refl _ _) nq
                    have hs:=(HRA.out.below hdr).set1 HJ.out (.int .i64 x')
                    refine ⟨j + 1,fun i => if i = c then x' else f i,by omega,by go_num,hs.ext (fun i j' _ hj' => ?_),HNX.out,fun i hi => ?_,(Bk.bdrew HBA2.out nq).setCell (p:=⟨H + 1,c,none⟩) (Nat.le_refl _) _⟩
                    · by_cases e:i = c
                      · subst e; simp
                      · simp [e]
                    · show In64 (if i = c then x' else f i)
                      split
                      · exact HIN2.out
                      · exact HF6.out i hi
                  case measure => simp [intOf]; omega
                · have hadd:=Lib.hid (fun w => Bk.add_no w hx64 ha64 hin)
                  have HNX:=Lib.hid (show rowOf m (d.L.bal m) ps = none by rw [← HRO.out,hst.out]; exact rowOf_no (p:=⟨(m:Int),(c:Int),pa'⟩) rfl (by simpa using hin))
                  clear hin hx64 ha64 hcn
                  generalize f c = x at *
                  go_wp2_with fail
                  go_quiet ((go_at_call 45; exact Calls.quiet_of_same (hadd.out _)))
                  go_wp2
                  go_ret
                  exact FailsPost.seven (Bk.bdrew HBW2.out _) (fun ⟨_,r,hr,_⟩ => by rw [HNX.out] at hr; cases hr)
              · have hme:(pm != (m:Int)) = true:=by simp [hpm]
                have HNX:=Lib.hid (show rowOf m f (ps.drop (j + 1)) = rowOf m (d.L.bal m) ps by rw [← HRO.out,hst.out,rowOf_skip hpm])
                clear hpm ha64 hcn
                go_wp2
                go_roundw
                case rel => exact ⟨j + 1,f,by omega,by go_num,HRA.out,HNX.out,HF6.out,HBA2.out⟩
                case measure => simp [intOf]; omega
            · obtain rfl:j = ps.length:=by omega
              have hro:=HRO.out
              rw [List.drop_length] at hro
              have HRW:=Lib.hid (show rowOf m (d.L.bal m) ps = some f from hro.symm)
              have y0:=(HX6.out.cell 0).trans rfl
              have y1:=(HX6.out.cell 1).trans rfl
              clear hro hlt hj
              have HSH:=Lib.hid ((HA.out.sho m HM.out).below HBW'.out)
              go_wp2
              go_loopw [16,98] (fun bi i wz => ∃ (k:Nat) (bt:Int),k≤d.t.n∧i = .int .i64 k∧bi = .int .i64 bt∧wz = wr∧((bt = 0∧∀ c,c < k→¬ f c < - (d.lim m).short c)∨(bt = 2∧∃ c,c < d.t.n∧f c < - (d.lim m).short c))) (fun _ i _ => d.t.n - (intOf i).toNat)
              case atStart => exact ⟨0,0,by omega,rfl,rfl,rfl,.inl ⟨rfl,fun c hc => by omega⟩⟩
              case round =>
                obtain ⟨k,bt,hk,rfl,rfl,rfl,hbt⟩:=hrel
                have HBT:=Lib.hid hbt
                clear hbt
                by_cases hlt:k < d.t.n
                · have w1:(k:Int) < (d.t.n:Int):=by omega
                  have cb:=HR6.out.cell1 hlt
                  have cs:=HSH.out.cell1 hlt
                  have hsv:=HS64.out k hlt
                  have hneg:-(d.lim m).short k = IntKind.i64.wrap (-(d.lim m).short k):=by rw [IntKind.wrap_i64]; unfold In64 at hsv; omega
                  by_cases hv:f k < -(d.lim m).short k
                  · have HNX:=Lib.hid (show ∃ c,c < d.t.n∧f c < - (d.lim m).short c from ⟨k,hlt,hv⟩)
                    unfold In64 at hsv
                    generalize f k = x at *
                    generalize (d.lim m).short k = s at *
                    rcases HBT.out with ⟨rfl,_⟩ | ⟨rfl,_⟩
                    all_goals
                      clear hneg
                      go_wp2
                      go_roundw
                      case rel => exact ⟨k + 1,2,by omega,by go_num,rfl,trivial,.inr ⟨rfl,HNX.out⟩⟩
                      case measure => simp [intOf]; omega
                  · have HNX:=Lib.hid (show ((bt = 0∧∀ c,c < k + 1→¬ f c < - (d.lim m).short c)∨(bt = 2∧∃ c,c < d.t.n∧f c < - (d.lim m).short c)) from by
                      rcases HBT.out with ⟨h1,h2⟩ | h2
                      · exact .inl ⟨h1,fun c hc => by by_cases e:c = k; subst e; exact hv; exact h2 c (by omega)⟩
                      · exact .inr h2)
                    unfold In64 at hsv
                    generalize f k = x at *
                    generalize (d.lim m).short k = s at *
                    clear hneg
                    go_wp2
                    go_roundw
                    case rel => exact ⟨k + 1,bt,by omega,by go_num,rfl,trivial,HNX.out⟩
                    case measure => simp [intOf]; omega
                · obtain rfl:k = d.t.n:=by omega
                  have HSUM:=Lib.hid (Bk.sums (HA.out.below HBW'.out) m HM.out _ ps (HP.out.below HBW'.out) hn HPA.out all HAL.out)
                  clear hlt hk
                  go_wp2_with fail
                  refine HSUM.out.mono ?_
                  rintro e w9 ⟨v,rfl,hv,hb9,_,hiff⟩
                  have HB9:=Lib.hid (HBW'.out.trans (hb9.mono HBW'.out.size))
                  have HIF:=Lib.hid (hiff HIB.out)
                  clear hiff hb9
                  have fin:∀ u:Int,(u = 0 ↔ bt = 0∧v = 0)→FailsPost d m ps w0 (.returned (.int .i64 u)) w9:=fun u hu => ⟨u,rfl,HB9.out,by
                    rw [hu,HIF.out]
                    constructor
                    · rintro ⟨h0,n,s,h5,h6,h7⟩
                      refine ⟨HIB.out,f,HRW.out,?_⟩
                      rcases HBT.out with ⟨_,h2⟩ | ⟨h1,_⟩
                      · unfold ifRes at h5
                        rw [HRW.out] at h5
                        cases hnn:d.t.net f with
                        | none => simp [hnn] at h5
                        | some n' =>
                          cases hss:d.t.short f with
                          | none => simp [hnn,hss] at h5
                          | some s' =>
                            simp [hnn,hss] at h5
                            obtain ⟨rfl,rfl⟩:=h5
                            exact ⟨fun c hc => by have:=h2 c hc; omega,n',s',hnn,hss,h6,by rw [EALL.out]; exact h7⟩
                      · omega
                    · rintro ⟨_,row,hrow,hp⟩
                      rw [HRW.out] at hrow
                      cases hrow
                      obtain ⟨h2,n,s,h5,h6,h7,h8⟩:=hp
                      refine ⟨?_,n,s,?_,h7,by rw [EALL.out] at h8; exact h8⟩
                      · rcases HBT.out with ⟨h1,_⟩ | ⟨_,c,hc,hlt⟩
                        · exact h1
                        · exact absurd hlt (h2 c hc)
                      · unfold ifRes
                        rw [HRW.out]
                        simp [h5,h6]⟩
                  have FIN:=Lib.hid fin
                  have HBB:=Lib.hid (show bt = 0∨bt = 2 by rcases HBT.out with ⟨h,_⟩ | ⟨h,_⟩ <;> omega)
                  clear fin
                  rcases HBB.out with rfl | rfl
                  all_goals
                    rcases hv with rfl | rfl | rfl | rfl | rfl
                    all_goals
                      go_wp2
                      go_ret
                      exact FIN.out _ (by decide)
end Go.Proofs.YtgcnnbjbdfgglaaGreat
namespace Go.Proofs.YtgcnnbjbdfgglaaGreat
open Go.RowKit
structure GuS (w:World) (h:Gh) (d:Gd) (S:Nat→Prop):Prop where
  gu:Blk w h.g 139 #[.pointer (some ⟨h.l,0,none⟩),.pointer (some ⟨h.wb,0,none⟩),.slice (some ⟨h.lb,0,none⟩) d.L.n h.lc,.slice (some ⟨h.fb,0,none⟩) d.L.n h.fc]
  led:LedAt w h.l h.r h.cap d.L
  wor:WorAt w h.wb h.tv h.l (.slice (some ⟨h.ab,0,none⟩) d.L.n h.ca)
  tab:SlT w h.tv d.t d.code
  tty:∃ b o c,h.tv = .slice (some ⟨b,o,none⟩) d.t.n c∧Ty w b 82
  acc:RowK w h.ab 7 d.L.n h.A
  aty:Ty w h.ab 243
  acs:∀ m,m < d.L.n→¬ S m→AccOK w d.t (d.L.bal m) (h.A m) (h.bm m) (h.gw m) (h.gs m)
  told:∀ m,m < d.L.n→Ty w (h.bm m) 2∧Ty w (h.gw m) 241∧Ty w (h.gs m) 241
  inj:∀ m k,m < d.L.n→k < d.L.n→(h.gw m = h.gw k→m = k)∧(h.gs m = h.gs k→m = k)∧h.gw m ≠ h.gs k
  lims:RowK w h.lb 2 d.L.n (fun m j => if j = 0 then .slice (some ⟨h.sb m,0,none⟩) d.t.n (h.sc m) else .int .i64 (d.lim m).all)
  lty:Ty w h.lb 84
  sho:∀ m,m < d.L.n→RowK w (h.sb m) 1 d.t.n (fun i _ => .int .i64 ((d.lim m).short i))
  sty:∀ m,m < d.L.n→Ty w (h.sb m) 2
  flags:RowK w h.fb 1 d.L.n (fun m _ => .bool (d.flag m))
  fty:Ty w h.fb 4
  ok:d.Ok
abbrev NoneS:Nat→Prop:=fun _ => False
theorem GuS.gu' {w:World} {h:Gh} {d:Gd} {S:Nat→Prop} (a:GuS w h d S) (hS:∀ m,m < d.L.n→¬ S m):GuAt w h d :=
  ⟨a.gu,a.led,a.wor,a.tab,a.acc,a.aty,fun m hm => a.acs m hm (hS m hm),a.lims,a.sho,a.flags,a.fty,a.ok⟩
theorem GuS.at {w:World} {h:Gh} {d:Gd} (a:GuS w h d NoneS):GuAt w h d:=a.gu' fun _ _ => id
theorem GuS.less {w:World} {h:Gh} {d:Gd} {S T:Nat→Prop} (a:GuS w h d S) (hS:∀ m,m < d.L.n→S m→T m):GuS w h d T :=
  ⟨a.gu,a.led,a.wor,a.tab,a.tty,a.acc,a.aty,fun m hm hn => a.acs m hm (fun hs => hn (hS m hm hs)),a.told,a.inj,a.lims,a.lty,a.sho,a.sty,a.flags,a.fty,a.ok⟩
def Gh.own (h:Gh) (n:Nat) (k:Nat):Prop:=k = h.g∨k = h.l∨k = h.r∨k = h.wb∨k = h.ab∨k = h.lb∨k = h.fb∨(∃ o c m,h.tv = .slice (some ⟨k,o,none⟩) m c)∨∃ m,m < n∧(k = h.bm m∨k = h.gw m∨k = h.gs m∨k = h.sb m)
theorem GuS.frame {w w1:World} {h:Gh} {d:Gd} {S:Nat→Prop} (a:GuS w h d S) (hs:∀ k,h.own d.L.n k→w1.heap[k]? = w.heap[k]?):GuS w1 h d S:=by
  obtain ⟨tb,tof,tc,htv,htt⟩:=a.tty
  have h1:∀ m,m < d.L.n→w1.heap[h.bm m]? = w.heap[h.bm m]?:=fun m hm => hs _ (by unfold Gh.own; exact .inr (.inr (.inr (.inr (.inr (.inr (.inr (.inr ⟨m,hm,.inl rfl⟩))))))))
  have h2:∀ m,m < d.L.n→w1.heap[h.gw m]? = w.heap[h.gw m]?:=fun m hm => hs _ (by unfold Gh.own; exact .inr (.inr (.inr (.inr (.inr (.inr (.inr (.inr ⟨m,hm,.inr (.inl rfl)⟩))))))))
  have h3:∀ m,m < d.L.n→w1.heap[h.gs m]? = w.heap[h.gs m]?:=fun m hm => hs _ (by unfold Gh.own; exact .inr (.inr (.inr (.inr (.inr (.inr (.inr (.inr ⟨m,hm,.inr (.inr (.inl rfl))⟩))))))))
  have h4:∀ m,m < d.L.n→w1.heap[h.sb m]? = w.heap[h.sb m]?:=fun m hm => hs _ (by unfold Gh.own; exact .inr (.inr (.inr (.inr (.inr (.inr (.inr (.inr ⟨m,hm,.inr (.inr (.inr rfl))⟩))))))))
  have ht:w1.heap[tb]? = w.heap[tb]?:=hs _ (by unfold Gh.own; exact .inr (.inr (.inr (.inr (.inr (.inr (.inr (.inl ⟨_,_,_,htv⟩))))))))
  have s1:w1.heap[h.g]? = w.heap[h.g]?:=hs _ (by simp [Gh.own])
  have s2:w1.heap[h.l]? = w.heap[h.l]?:=hs _ (by simp [Gh.own])
  have s3:w1.heap[h.r]? = w.heap[h.r]?:=hs _ (by simp [Gh.own])
  have s4:w1.heap[h.wb]? = w.heap[h.wb]?:=hs _ (by simp [Gh.own])
  have s5:w1.heap[h.ab]? = w.heap[h.ab]?:=hs _ (by simp [Gh.own])
  have s6:w1.heap[h.lb]? = w.heap[h.lb]?:=hs _ (by simp [Gh.own])
  have s7:w1.heap[h.fb]? = w.heap[h.fb]?:=hs _ (by simp [Gh.own])
  refine ⟨s1.trans a.gu,a.led.same s2 s3,s4.trans a.wor,?_,⟨tb,tof,tc,htv,htt.same ht⟩,a.acc.same s5,a.aty.same s5,fun m hm hn => (a.acs m hm hn).same (h1 m hm) (h2 m hm) (h3 m hm),fun m hm => ⟨(a.told m hm).1.same (h1 m hm),(a.told m hm).2.1.same (h2 m hm),(a.told m hm).2.2.same (h3 m hm)⟩,a.inj,a.lims.same s6,a.lty.same s6,fun m hm => (a.sho m hm).same (h4 m hm),fun m hm => (a.sty m hm).same (h4 m hm),a.flags.same s7,a.fty.same s7,a.ok⟩
  obtain ⟨b,o,c,he,hc⟩:=a.tab
  rw [htv] at he
  simp only [Value.slice.injEq,Option.some.injEq,Addr.mk.injEq] at he
  obtain ⟨⟨rfl,rfl,_⟩,_,rfl⟩:=he
  refine ⟨tb,tof,tc,htv,fun i hi => ?_⟩
  obtain ⟨c1,c2,c3⟩:=hc i hi
  exact ⟨Bk.cell_heap ht c1,Bk.cell_heap ht c2,Bk.cell_heap ht c3⟩
theorem GuS.ownlt {w:World} {h:Gh} {d:Gd} {S:Nat→Prop} (a:GuS w h d S) {k:Nat} (hk:h.own d.L.n k):k < w.heap.size:=by
  obtain ⟨tb,tof,tc,htv,htt⟩:=a.tty
  rcases hk with rfl | rfl | rfl | rfl | rfl | rfl | rfl | ⟨o,c,m,he⟩ | ⟨m,hm,rfl | rfl | rfl | rfl⟩
  · exact a.gu.lt
  · exact a.led.llt
  · exact a.led.rlt
  · exact a.wor.lt
  · exact a.aty.lt
  · exact a.lty.lt
  · exact a.fty.lt
  · rw [htv] at he
    simp only [Value.slice.injEq,Option.some.injEq,Addr.mk.injEq] at he
    obtain ⟨⟨rfl,_⟩,_⟩:=he
    exact htt.lt
  · exact (a.told m hm).1.lt
  · exact (a.told m hm).2.1.lt
  · exact (a.told m hm).2.2.lt
  · exact (a.sty m hm).lt
theorem GuS.below {w w1:World} {h:Gh} {d:Gd} {S:Nat→Prop} (a:GuS w h d S) (hb:Below w.heap.size w w1):GuS w1 h d S:=a.frame fun k hk => hb.block k (a.ownlt hk)
theorem Gh.pg {a b:Gh} (h:(a.g,a.l) = (b.g,b.l)):a.g = b.g:=congrArg Prod.fst h
theorem Gh.pl {a b:Gh} (h:(a.g,a.l) = (b.g,b.l)):a.l = b.l:=congrArg Prod.snd h
structure Step (w:World) (h:Gh) (w':World) (h':Gh) (n:Nat):Prop where
  g:(h'.g,h'.l) = (h.g,h.l)
  kept:Kept (h.own n) w w'
  own:∀ k,h'.own n k→h.own n k∨w.heap.size≤k
theorem Step.refl (w:World) (h:Gh) (n:Nat):Step w h w h n:=⟨rfl,Kept.refl _ _,fun _ hk => .inl hk⟩
theorem Step.of_below {w w':World} (hb:Below w.heap.size w w') (h:Gh) (n:Nat):Step w h w' h n:=⟨rfl,Kept.of_below hb,fun _ hk => .inl hk⟩
theorem Step.trans {a b c:World} {h h1 h2:Gh} {n:Nat} (x:Step a h b h1 n) (y:Step b h1 c h2 n):Step a h c h2 n :=
  ⟨y.g.trans x.g,⟨y.kept.os.trans x.kept.os,y.kept.tape.trans x.kept.tape,y.kept.output.trans x.kept.output,Nat.le_trans x.kept.size y.kept.size,fun k hk hn => (y.kept.block k (Nat.lt_of_lt_of_le hk x.kept.size) (fun h' => by rcases x.own k h' with h | h; exact hn h; omega)).trans (x.kept.block k hk hn)⟩,
    fun k hk => by
      rcases y.own k hk with h | h
      · exact x.own k h
      · exact .inr (Nat.le_trans x.kept.size h)⟩
theorem Step.below {w w':World} {h h':Gh} {n:Nat} (x:Step w h w' h' n) {w2:World} (hb:Below w'.heap.size w' w2):Step w h w2 h' n:=x.trans (Step.of_below hb h' n)
theorem GuS.setflag {w:World} {h:Gh} {d:Gd} {S:Nat→Prop} (a:GuS w h d S) {m:Nat} (hm:m < d.L.n) (b:Bool):GuS (w.setCell ⟨h.fb,m,none⟩ (.bool b)) h { d with flag:=fun i => if i = m then b else d.flag i } S:=by
  have hs:∀ k T',Ty w k T'→T' ≠ 4→(w.setCell ⟨h.fb,m,none⟩ (.bool b)).heap[k]? = w.heap[k]?:=fun k T' hk hT => Below.heap_setCell _ _ _ _ (hk.ne a.fty hT)
  have htab:SlT (w.setCell ⟨h.fb,m,none⟩ (.bool b)) h.tv d.t d.code:=by
    obtain ⟨tb,tof,tc,htv,htt⟩:=a.tty
    obtain ⟨b',o,c,he,hc⟩:=a.tab
    rw [htv] at he
    simp only [Value.slice.injEq,Option.some.injEq,Addr.mk.injEq] at he
    obtain ⟨⟨rfl,rfl,_⟩,_,rfl⟩:=he
    refine ⟨tb,tof,tc,htv,fun i hi => ?_⟩
    obtain ⟨c1,c2,c3⟩:=hc i hi
    have ht:=hs tb _ htt (by decide)
    exact ⟨Bk.cell_heap ht c1,Bk.cell_heap ht c2,Bk.cell_heap ht c3⟩
  obtain ⟨tb,tof,tc,htv,htt⟩:=a.tty
  refine ⟨(hs _ _ ⟨_,a.gu⟩ (by decide)).trans a.gu,a.led.same (hs _ _ ⟨_,a.led.hl⟩ (by decide)) (hs _ _ a.led.ty (by decide)),(hs _ _ a.wor.ty (by decide)).trans a.wor,htab,⟨tb,tof,tc,htv,htt.same (hs _ _ htt (by decide))⟩,a.acc.same (hs _ _ a.aty (by decide)),a.aty.same (hs _ _ a.aty (by decide)),fun k hk hn => ?_,fun k hk => ?_,a.inj,a.lims.same (hs _ _ a.lty (by decide)),a.lty.same (hs _ _ a.lty (by decide)),fun k hk => (a.sho k hk).same (hs _ _ (a.sty k hk) (by decide)),fun k hk => (a.sty k hk).same (hs _ _ (a.sty k hk) (by decide)),?_,a.fty.set _ _ _,⟨a.ok.lok,a.ok.tok,a.ok.c,a.ok.s64,a.ok.a64⟩⟩
  · obtain ⟨t1,t2,t3⟩:=a.told k hk
    exact (a.acs k hk hn).same (hs _ _ t1 (by decide)) (hs _ _ t2 (by decide)) (hs _ _ t3 (by decide))
  · obtain ⟨t1,t2,t3⟩:=a.told k hk
    exact ⟨t1.same (hs _ _ t1 (by decide)),t2.same (hs _ _ t2 (by decide)),t3.same (hs _ _ t3 (by decide))⟩
  · exact (a.flags.set1 hm (.bool b)).ext fun i j _ _ => by
      by_cases e:i = m
      · simp [e]
      · simp [e]
theorem Step.setflag {w:World} {h:Gh} {n:Nat} (o:Nat) (v:Value):Step w h (w.setCell ⟨h.fb,o,none⟩ v) h n:=⟨rfl,(Kept.refl _ _).setCell (.inl (by simp [Gh.own])) _ _,fun _ hk => .inl hk⟩
end Go.Proofs.YtgcnnbjbdfgglaaGreat
namespace Go.Proofs.YtgcnnbjbdfgglaaGreat
open Go.RowKit
section
variable {w:World} {h:Gh} {d:Gd} {S:Nat→Prop} (a:GuS w h d S)
include a
theorem GuS.c0:w.cell? ⟨h.g,0,none⟩ = some (.pointer (some ⟨h.l,0,none⟩)):=(a.gu.cell 0).trans rfl
theorem GuS.c1:w.cell? ⟨h.g,1,none⟩ = some (.pointer (some ⟨h.wb,0,none⟩)):=(a.gu.cell 1).trans rfl
theorem GuS.c3:w.cell? ⟨h.g,3,none⟩ = some (.slice (some ⟨h.fb,0,none⟩) d.L.n h.fc):=(a.gu.cell 3).trans rfl
theorem GuS.gfb:h.g ≠ h.fb:=Ty.ne ⟨_,a.gu⟩ a.fty (by decide)
end
def MvPost (h:Gh) (d:Gd) (S:Nat→Prop) (m:Nat) (w:World) (e:Ending) (w':World):Prop:=∃ h',e = .returned (.tuple #[])∧GuS w' h' d (fun k => S k∧k ≠ m)∧Step w h w' h' d.L.n
theorem Bk.gmoved {w:World} {h:Gh} {d:Gd} {S:Nat→Prop} (a:GuS w h d S) (m:Nat) (hm:m < d.L.n) :
    Calls Tryz.prog 139 #[.pointer (some ⟨h.wb,0,none⟩),.int .i64 m] w (MvPost h d S m w):=by
  refine (Bk.moved a.wor a.tab a.ok.tok a.led a.ok.lok a.ok.c a.acc a.aty m hm rfl).mono ?_
  rintro e w' ⟨A',bm,gw,gs,rfl,hac,h1,h2,h3,hrow,haty,hk⟩
  have hs:∀ k T',Ty w k T'→T' ≠ 243→w'.heap[k]? = w.heap[k]?:=fun k T' hk' hT => hk.block k hk'.lt (fun e => hk'.ne a.aty hT e)
  have htab:SlT w' h.tv d.t d.code:=by
    obtain ⟨tb,tof,tc,htv,htt⟩:=a.tty
    obtain ⟨b',o,c,he,hc⟩:=a.tab
    rw [htv] at he
    simp only [Value.slice.injEq,Option.some.injEq,Addr.mk.injEq] at he
    obtain ⟨⟨rfl,rfl,_⟩,_,rfl⟩:=he
    refine ⟨tb,tof,tc,htv,fun i hi => ?_⟩
    obtain ⟨c1,c2,c3⟩:=hc i hi
    have ht:=hs tb _ htt (by decide)
    exact ⟨Bk.cell_heap ht c1,Bk.cell_heap ht c2,Bk.cell_heap ht c3⟩
  obtain ⟨tb,tof,tc,htv,htt⟩:=a.tty
  refine ⟨{ h with A:=fun i j => if i = m then A' j else h.A i j,bm:=fun i => if i = m then bm else h.bm i,gw:=fun i => if i = m then gw else h.gw i,gs:=fun i => if i = m then gs else h.gs i },rfl,?_,rfl,hk.mono (fun k _ hk' => by subst hk'; simp [Gh.own]),?_⟩
  · refine ⟨(hs _ _ ⟨_,a.gu⟩ (by decide)).trans a.gu,a.led.same (hs _ _ ⟨_,a.led.hl⟩ (by decide)) (hs _ _ a.led.ty (by decide)),(hs _ _ a.wor.ty (by decide)).trans a.wor,htab,⟨tb,tof,tc,htv,htt.same (hs _ _ htt (by decide))⟩,hrow,haty,fun k hk' hn => ?_,fun k hk' => ?_,fun i k hi hk' => ?_,a.lims.same (hs _ _ a.lty (by decide)),a.lty.same (hs _ _ a.lty (by decide)),fun k hk' => (a.sho k hk').same (hs _ _ (a.sty k hk') (by decide)),fun k hk' => (a.sty k hk').same (hs _ _ (a.sty k hk') (by decide)),a.flags.same (hs _ _ a.fty (by decide)),a.fty.same (hs _ _ a.fty (by decide)),a.ok⟩
    · show AccOK w' d.t (d.L.bal k) (fun j => if k = m then A' j else h.A k j) (if k = m then bm else h.bm k) (if k = m then gw else h.gw k) (if k = m then gs else h.gs k)
      by_cases e:k = m
      · subst e
        simp only [if_true]
        exact hac
      · simp only [e,if_false]
        obtain ⟨t1,t2,t3⟩:=a.told k hk'
        exact (a.acs k hk' (fun hs' => hn ⟨hs',e⟩)).same (hs _ _ t1 (by decide)) (hs _ _ t2 (by decide)) (hs _ _ t3 (by decide))
    · show Ty w' (if k = m then bm else h.bm k) _∧Ty w' (if k = m then gw else h.gw k) _∧Ty w' (if k = m then gs else h.gs k) _
      by_cases e:k = m
      · simp only [e,if_true]
        exact ⟨hac.tb,hac.tw,hac.ts⟩
      · simp only [e,if_false]
        obtain ⟨t1,t2,t3⟩:=a.told k hk'
        exact ⟨t1.same (hs _ _ t1 (by decide)),t2.same (hs _ _ t2 (by decide)),t3.same (hs _ _ t3 (by decide))⟩
    · show ((if i = m then gw else h.gw i) = (if k = m then gw else h.gw k)→i = k)∧((if i = m then gs else h.gs i) = (if k = m then gs else h.gs k)→i = k)∧(if i = m then gw else h.gw i) ≠ (if k = m then gs else h.gs k)
      have li:=a.told i hi
      have lk:=a.told k hk'
      have w1:=li.2.1.lt
      have w2:=li.2.2.lt
      have w3:=lk.2.1.lt
      have w4:=lk.2.2.lt
      have hj:=a.inj i k hi hk'
      by_cases e:i = m
      · by_cases e2:k = m
        · simp only [e,e2,if_true]
          exact ⟨fun _ => trivial,fun _ => trivial,hac.ne⟩
        · simp only [e,e2,if_true,if_false]
          exact ⟨fun h => by omega,fun h => by omega,by omega⟩
      · by_cases e2:k = m
        · simp only [e,e2,if_true,if_false]
          exact ⟨fun h => by omega,fun h => by omega,by omega⟩
        · simp only [e,e2,if_false]
          exact hj
  · intro k hk'
    show _∨_
    rcases hk' with h | h | h | h | h | h | h | h | ⟨i,hi,h⟩
    · exact .inl (.inl h)
    · exact .inl (.inr (.inl h))
    · exact .inl (.inr (.inr (.inl h)))
    · exact .inl (.inr (.inr (.inr (.inl h))))
    · exact .inl (.inr (.inr (.inr (.inr (.inl h)))))
    · exact .inl (.inr (.inr (.inr (.inr (.inr (.inl h))))))
    · exact .inl (.inr (.inr (.inr (.inr (.inr (.inr (.inl h)))))))
    · exact .inl (.inr (.inr (.inr (.inr (.inr (.inr (.inr (.inl h))))))))
    · by_cases e:i = m
      · subst e
        simp only [if_true] at h
        rcases h with rfl | rfl | rfl | rfl
        · exact .inr h1
        · exact .inr h2
        · exact .inr h3
        · exact .inl (.inr (.inr (.inr (.inr (.inr (.inr (.inr (.inr ⟨i,hi,.inr (.inr (.inr rfl))⟩))))))))
      · simp only [e,if_false] at h
        exact .inl (.inr (.inr (.inr (.inr (.inr (.inr (.inr (.inr ⟨i,hi,h⟩))))))))
def Judged (d:Gd) (k:Nat):Prop:=∀ m,m < k→(d.flag m = false ↔ PassB d m [])
def JudgePost (h:Gh) (d:Gd) (w:World) (e:Ending) (w':World):Prop:=∃ fl,e = .returned (.tuple #[])∧GuS w' h { d with flag:=fl } NoneS∧Judged { d with flag:=fl } d.L.n∧Step w h w' h d.L.n
theorem SlP.nil (w:World):SlP w (.slice none 0 0) []:=⟨none,0,rfl,fun h => absurd h (by simp)⟩
set_option maxRecDepth 100000 in
set_option maxHeartbeats 2000000 in
theorem Bk.judge {w:World} {h:Gh} {d:Gd} (a:GuS w h d NoneS) :
    Calls Tryz.prog 96 #[.pointer (some ⟨h.g,0,none⟩)] w (JudgePost h d w):=by
  have h3:=a.c3
  have hn:=a.ok.lok.n16
  have HA:=Lib.hid a
  clear a
  have q2:(d.L.n:Int)≤16:=by omega
  go_enter Tryz.func96,Tryz.ntmps96
  go_wp2
  go_loopw [8] (fun i wr => ∃ (k:Nat) (fl:Nat→Bool),k≤d.L.n∧i = .int .i64 k∧GuS wr h { d with flag:=fl } NoneS∧Judged { d with flag:=fl } k∧Step w h wr h d.L.n) (fun i _ => d.L.n - (intOf i).toNat)
  case atStart => exact ⟨0,d.flag,by omega,rfl,HA.out,fun m hm => by omega,Step.refl _ _ _⟩
  case round =>
    obtain ⟨k,fl,hk,rfl,hg,hj,hst⟩:=hrel
    have HG:=Lib.hid hg
    have HJ:=Lib.hid hj
    have HST:=Lib.hid hst
    have h3:wr.cell? ⟨h.g,3,none⟩ = some (.slice (some ⟨h.fb,0,none⟩) d.L.n h.fc):=hg.c3
    clear hg hj hst
    by_cases hlt:k < d.L.n
    · have q1:(k:Int) < (d.L.n:Int):=by omega
      have hgd:Below wr.heap.size wr wr.drew:=(Below.refl _ _).drew
      have HF:=Lib.hid (Bk.fails (HG.out.below hgd).at k hlt _ [] (SlP.nil _) (by simp) (by simp))
      have g3:wr.drew.cell? ⟨h.g,3,none⟩ = some (.slice (some ⟨h.fb,0,none⟩) d.L.n h.fc):=h3
      have HNE:=Lib.hid HG.out.gfb
      have HD:=Lib.hid hgd
      clear hgd
      go_wp2_with fail
      go_region_held3 (fun wx => wx.cell? ⟨h.g,3,none⟩ = some (.slice (some ⟨h.fb,0,none⟩) d.L.n h.fc)) (first | (with_reducible assumption) | (with_reducible exact g3) | (with_reducible exact g5) | (with_reducible exact Bk.cell_heap (Below.heap_setCell _ _ _ _ HNE.out) g5))
        (first | (go_at_call 22; ((with_reducible refine HF.out.mono ?_); rintro e w5 ⟨v,rfl,hb,hiff⟩; have g5:=Bk.kept hb g3; have hG5:=(HG.out.below HD.out).below hb; have p0:=hG5.flags.cell1 hlt; have v0:=hG5.flags.frozen k; replace hG5:=Lib.hid hG5; replace hiff:=Lib.hid hiff; replace hb:=Lib.hid hb)))
      have HS:=Lib.hid (hG5.out.setflag hlt (v != 0))
      have HJ2:=Lib.hid (show Judged { d with flag:=fun i => if i = k then (v != 0) else fl i } (k + 1) from fun m hm => by
        show (if m = k then (v != 0) else fl m) = false ↔ PassB d m []
        by_cases e:m = k
        · subst e
          rw [if_pos rfl]
          have:=hiff.out
          rw [show PassB d m [] ↔ v = 0 from this.symm]
          simp
        · rw [if_neg e]
          exact HJ.out m (by omega))
      have HST2:=Lib.hid ((HST.out.below (HD.out.trans (hb.out.mono HD.out.size))).trans (Step.setflag (w:=w5) (h:=h) (n:=d.L.n) k (.bool (v != 0))))
      clear p0 v0 g5 g3 h3
      go_wp2
      go_roundw
      case rel => exact ⟨k + 1,fun i => if i = k then (v != 0) else fl i,by omega,by go_num,HS.out,HJ2.out,HST2.out⟩
      case measure => simp [intOf]; omega
    · obtain rfl:k = d.L.n:=by omega
      go_wp2
      go_end0
      exact ⟨fl,rfl,HG.out,HJ.out,HST.out⟩
end Go.Proofs.YtgcnnbjbdfgglaaGreat
namespace Go.Proofs.YtgcnnbjbdfgglaaGreat
open Go.RowKit
theorem AccOK.congr {w:World} {t:Rates} {f g:Nat→Int} {A:Nat→Value} {bm gw gs:Nat} (h:AccOK w t f A bm gw gs) (he:∀ i,i < t.n→f i = g i):AccOK w t g A bm gw gs:=by
  obtain ⟨e1,e2⟩:=worths_congr (t:=t) he
  refine ⟨h.ex,by rw [← e1]; exact h.a3,by rw [← e1]; exact h.a4,by rw [← e2]; exact h.a5,by rw [← e2]; exact h.a6,h.rb.ext fun i _ hi _ => by rw [he i hi],h.rw_.ext fun i j hi _ => ?_,h.rs.ext fun i j hi _ => ?_,h.ne,h.tb,h.tw,h.ts⟩
  · simp only [tcell,he i hi]
  · simp only [tcell,he i hi]
theorem GuS.ledger {w w':World} {h:Gh} {d:Gd} {S T:Nat→Prop} (a:GuS w h d S) {r cap:Nat} {L:Led} (hl:LedAt w' h.l r cap L) (hk:Kept (Pair h.l h.r) w w') (hr:r = h.r∨w.heap.size≤r) (hn:L.n = d.L.n) (hc:L.c = d.L.c) (hok:L.Ok) (hT:∀ m,m < d.L.n→¬ T m→∀ k,k < d.t.n→L.bal m k = d.L.bal m k) :
    GuS w' { h with r:=r,cap:=cap } { d with L:=L } (fun k => S k∨T k)∧Step w h w' { h with r:=r,cap:=cap } d.L.n:=by
  have hs:∀ k T',Ty w k T'→T' ≠ 146→T' ≠ 144→w'.heap[k]? = w.heap[k]?:=fun k T' hk' h1 h2 => hk.block k hk'.lt (fun e => by
    rcases e with e | e
    · exact hk'.ne ⟨_,a.led.hl⟩ h1 e
    · exact hk'.ne a.led.ty h2 e)
  obtain ⟨tb,tof,tc,htv,htt⟩:=a.tty
  have htab:SlT w' h.tv d.t d.code:=by
    obtain ⟨b',o,c,he,hcc⟩:=a.tab
    rw [htv] at he
    simp only [Value.slice.injEq,Option.some.injEq,Addr.mk.injEq] at he
    obtain ⟨⟨rfl,rfl,_⟩,_,rfl⟩:=he
    refine ⟨tb,tof,tc,htv,fun i hi => ?_⟩
    obtain ⟨c1,c2,c3⟩:=hcc i hi
    have ht:=hs tb _ htt (by decide) (by decide)
    exact ⟨Bk.cell_heap ht c1,Bk.cell_heap ht c2,Bk.cell_heap ht c3⟩
  refine ⟨⟨?_,hl,?_,htab,⟨tb,tof,tc,htv,htt.same (hs _ _ htt (by decide) (by decide))⟩,?_,a.aty.same (hs _ _ a.aty (by decide) (by decide)),fun k hk' hn' => ?_,fun k hk' => ?_,fun i k hi hk' => a.inj i k (hn ▸ hi) (hn ▸ hk'),?_,a.lty.same (hs _ _ a.lty (by decide) (by decide)),fun k hk' => (a.sho k (hn ▸ hk')).same (hs _ _ (a.sty k (hn ▸ hk')) (by decide) (by decide)),fun k hk' => (a.sty k (hn ▸ hk')).same (hs _ _ (a.sty k (hn ▸ hk')) (by decide) (by decide)),?_,a.fty.same (hs _ _ a.fty (by decide) (by decide)),⟨hok,a.ok.tok,hc.trans a.ok.c,fun m i hm hi => a.ok.s64 m i (hn ▸ hm) hi,fun m hm => a.ok.a64 m (hn ▸ hm)⟩⟩,rfl,hk.mono (fun k _ hp => by rcases hp with rfl | rfl <;> simp [Gh.own]),?_⟩
  · show Blk w' h.g _ #[_,_,.slice (some ⟨h.lb,0,none⟩) L.n h.lc,.slice (some ⟨h.fb,0,none⟩) L.n h.fc]
    rw [hn]
    exact (hs _ _ ⟨_,a.gu⟩ (by decide) (by decide)).trans a.gu
  · show WorAt w' h.wb h.tv h.l (.slice (some ⟨h.ab,0,none⟩) L.n h.ca)
    rw [hn]
    exact (hs _ _ a.wor.ty (by decide) (by decide)).trans a.wor
  · show RowK w' h.ab 7 L.n h.A
    rw [hn]
    exact a.acc.same (hs _ _ a.aty (by decide) (by decide))
  · have hk2:k < d.L.n:=hn ▸ hk'
    obtain ⟨t1,t2,t3⟩:=a.told k hk2
    refine ((a.acs k hk2 (fun hs' => hn' (.inl hs'))).same (hs _ _ t1 (by decide) (by decide)) (hs _ _ t2 (by decide) (by decide)) (hs _ _ t3 (by decide) (by decide))).congr fun i hi => ?_
    exact (hT k hk2 (fun ht => hn' (.inr ht)) i hi).symm
  · obtain ⟨t1,t2,t3⟩:=a.told k (hn ▸ hk')
    exact ⟨t1.same (hs _ _ t1 (by decide) (by decide)),t2.same (hs _ _ t2 (by decide) (by decide)),t3.same (hs _ _ t3 (by decide) (by decide))⟩
  · show RowK w' h.lb 2 L.n _
    rw [hn]
    exact a.lims.same (hs _ _ a.lty (by decide) (by decide))
  · show RowK w' h.fb 1 L.n _
    rw [hn]
    exact a.flags.same (hs _ _ a.fty (by decide) (by decide))
  · intro k hk'
    rcases hk' with h | h | h | h
    · exact .inl (.inl h)
    · exact .inl (.inr (.inl h))
    · rcases hr with hr | hr
      · exact .inl (.inr (.inr (.inl (h.trans hr))))
      · exact .inr (by rw [h]; exact hr)
    · exact .inl (.inr (.inr (.inr h)))
structure Good (d:Gd):Prop where
  fl:∀ m,m < d.L.n→d.flag m = false→PassB d m []
  no:∀ c,c < d.L.c→0≤d.L.nos c
theorem passB_nil {d:Gd} {m:Nat}:PassB d m [] ↔ Passes d.t (d.lim m) (d.L.bal m):=by
  constructor
  · rintro ⟨_,row,hr,hp⟩
    cases hr
    exact hp
  · exact fun hp => ⟨rfl,_,rfl,hp⟩
theorem passes_congr {t:Rates} {l:Lim} {f g:Nat→Int} (he:∀ i,i < t.n→f i = g i) (h:Passes t l f):Passes t l g:=by
  obtain ⟨e1,e2⟩:=worths_congr (t:=t) he
  obtain ⟨h1,n,s,h2,h3,h4⟩:=h
  exact ⟨fun c hc => by rw [← he c hc]; exact h1 c hc,n,s,by rw [← e1]; exact h2,by rw [← e2]; exact h3,h4⟩
def GPost (h:Gh) (d:Gd) (Q:Int→Gd→Prop) (w:World) (e:Ending) (w':World):Prop:=∃ c d' h',e = .returned (.int .i64 c)∧(0≤c∧c≤12)∧GuS w' h' d' NoneS∧Step w h w' h' d.L.n∧(d'.L.n = d.L.n∧d'.t.n = d.t.n)∧(Good d→Good d')∧Q c d'
def AnPost (h:Gh) (d:Gd) (c:Int) (w:World) (e:Ending) (w':World):Prop:=∃ fl h',e = .returned (.int .i64 c)∧GuS w' h' { d with flag:=fl } NoneS∧Judged { d with flag:=fl } d.L.n∧Step w h w' h' d.L.n
set_option maxRecDepth 100000 in
set_option maxHeartbeats 2000000 in
theorem Bk.anew0 {w:World} {h:Gh} {d:Gd} {S:Nat→Prop} (a:GuS w h d S) :
    Calls Tryz.prog 221 #[.pointer (some ⟨h.g,0,none⟩),.int .i64 0] w (AnPost h d 0 w):=by
  have h3:=a.c3
  have hn:=a.ok.lok.n16
  have HA:=Lib.hid a
  clear a
  have q2:(d.L.n:Int)≤16:=by omega
  go_enter Tryz.func221,Tryz.ntmps221
  go_wp2
  go_loopw [13] (fun i wr => ∃ (k:Nat) (h':Gh),k≤d.L.n∧i = .int .i64 k∧GuS wr h' d (fun m => S m∧¬ m < k)∧Step w h wr h' d.L.n) (fun i _ => d.L.n - (intOf i).toNat)
  case atStart => exact ⟨0,h,by omega,rfl,HA.out.less (fun m _ hs => ⟨hs,by omega⟩),Step.refl _ _ _⟩
  case round =>
    obtain ⟨k,h',hk,rfl,hg,hst⟩:=hrel
    have HG:=Lib.hid hg
    have HST:=Lib.hid hst
    have g1:wr.cell? ⟨h.g,1,none⟩ = some (.pointer (some ⟨h'.wb,0,none⟩)):=Gh.pg hst.g ▸ hg.c1
    have hgg:=Gh.pg hst.g
    clear hg hst
    by_cases hlt:k < d.L.n
    · have q1:(k:Int) < (d.L.n:Int):=by omega
      have HMV:=Lib.hid (Bk.gmoved HG.out k hlt)
      clear hgg
      go_wp2_with fail
      refine HMV.out.mono ?_
      rintro e w5 ⟨h5,rfl,hg5,hst5⟩
      have HG5:=Lib.hid (hg5.less (T:=fun m => S m∧¬ m < k + 1) (fun m _ hs => ⟨hs.1.1,by omega⟩))
      have HST5:=Lib.hid (HST.out.trans hst5)
      clear hg5 hst5 g1
      go_wp2
      go_roundw
      case rel => exact ⟨k + 1,h5,by omega,by go_num,HG5.out,HST5.out⟩
      case measure => simp [intOf]; omega
    · obtain rfl:k = d.L.n:=by omega
      have HJ:=Bk.judge (HG.out.less (T:=NoneS) (fun m hm hs => hs.2 hm))
      rw [hgg] at HJ
      have HJ:=Lib.hid HJ
      clear hgg
      go_wp2_with fail
      refine HJ.out.mono ?_
      rintro e w5 ⟨fl,rfl,hg5,hj,hst5⟩
      have HG5:=Lib.hid hg5
      have HJ5:=Lib.hid hj
      have HST5:=Lib.hid (HST.out.trans hst5)
      clear hg5 hj hst5 g1
      go_wp2
      go_ret
      exact ⟨fl,h',rfl,HG5.out,HJ5.out,HST5.out⟩
theorem Bk.anewN {w:World} {g:Nat} {c:Int} (hc:c ≠ 0) :
    Calls Tryz.prog 221 #[.pointer (some ⟨g,0,none⟩),.int .i64 c] w fun e w' => e = .returned (.int .i64 c)∧w' = w:=by
  have h1:(c == 0) = false:=by simp [hc]
  clear hc
  go_enter Tryz.func221,Tryz.ntmps221
  go_wp2
  go_ret
  exact ⟨rfl,rfl⟩
end Go.Proofs.YtgcnnbjbdfgglaaGreat
