/- LAW TopBoth: of every configuration of a bank and every list of byte strings the given function TopBoth returns true and leaves its arguments as they were; no condition. The law. -/
import Derived.Test.YtgcnnbjbdfgglaaGreatZbs
namespace Go.Proofs.YtgcnnbjbdfgglaaGreat.topBoth
open Go.ChangeShapes Go.WideShapes Go.ChangeAt Go.RowKit
set_option maxRecDepth 100000 in
theorem lifted (os:Os) (started:os.Started) (H:Type) (enc:TypeId × Value→H) :
    ReturnsInHanded {} Tryz.checked os 3 .any (Rows.topBothSpec.pre6 enc Tryz.prog Tryz.f3 Rows.topBothRow.domain false) (Rows.topBothSpec.post enc Tryz.prog Tryz.f3 false true false false):=by
  refine returnsInHanded_of_change_sized (C:=Tryz.checked) own_knob started (by kernel_rfl) Tryz.func3
    (ChangeSpec.witness6 (enc:=enc) (C:=Tryz.checked) false ⟨#[],#[.agg #[.slice none 0 0,.slice none 0 0,.slice none 0 0,.int .i64 0,.int .i64 0,.slice none 0 0],.slice none 0 0],[]⟩ 8 (by kernel_rfl) (by kernel_rfl) (by kernel_rfl) (by kernel_rfl)) ?_
  intro W base args ds gs before hval0 hW hcnd hsz _
  have hval:∀ (j:Nat) t v,Tryz.f3.params[j]? = some t→args[j]? = some v→Value.okWide Tryz.prog W .any base t v:=hval0
  have hww:∀ (j:Nat) (t:TypeId) (d:DataW H),Tryz.f3.params.toList[j]? = some t→ds[j]? = some d→∀ n ∈ d.weights Tryz.prog t,n≤reachBytes:=fun j t d h1 h2 => weights_of hsz j h1 h2
  have hW':=hW
  obtain ⟨p,q,hA0,hV,rfl,hfz,hnd⟩:=hW
  have hA:DataW.TrodAll enc Tryz.prog W 0 (fun _ => true) true Tryz.f3.params.toList args.toList ds p:=hA0
  rw [Tryz.params3] at hA hval hww
  obtain ⟨v0,vs0,d0,ds0,p0,q0,hargs,rfl,rfl,h0,r0⟩:=trodAll_cons hA
  obtain ⟨v1,vs1,d1,ds1,p1,q1,rfl,rfl,rfl,h1,r1⟩:=trodAll_cons r0
  obtain ⟨rfl,rfl,rfl⟩:=trodAll_nil r1
  obtain rfl:args = #[v0,v1]:=by cases args; simp_all
  obtain ⟨c0,rfl,hc0,hl0⟩:=open_config (hval 0 29 v0 rfl rfl) h0
  obtain ⟨n1,f1,hs1,hn1,hf1⟩:=open_list (hval 1 30 v1 rfl rfl) h1 (hww 1 30 d1 rfl rfl)
  clear hA0 hval0
  have hsv:=hs1
  obtain ⟨a1,cp1,rfl,_⟩:=hsv
  refine (Bk.top hc0 hl0 hs1 hn1 hf1).mono fun e W' ⟨he,hb⟩ => ?_
  subst he
  exact ⟨_,rfl,law_post hW' (by kernel_rfl) rfl rfl (by
    intro t ht
    rw [Tryz.params3] at ht
    simp at ht
    rcases ht with rfl | rfl
    all_goals exact ⟨by kernel_rfl,of_decide_eq_true (by kernel_rfl)⟩) hb⟩
theorem over:Rows.topBothRow.holds Tryz.pinned (OpenSpec.ofChange Rows.topBothSpec) :=
  OpenClaim.holds_of_wide 3 Tryz.f3 rfl rfl rfl rfl rfl rfl rfl ⟨rfl,rfl,rfl,rfl,rfl⟩ rfl rfl rfl rfl rfl (by kernel_rfl) Tryz.func3 (by kernel_rfl)
    (of_decide_eq_true (by kernel_rfl)) (by unfold Func.isWrapper; first | (rw [if_pos (by decide +kernel)]; kernel_rfl) | (rw [if_neg (by decide +kernel)]; exact ⟨rfl,rfl⟩))
    (fun os started H enc _ => lifted os started H enc)
theorem proved:Rows.TopBothSaid:=over
#print axioms proved
end Go.Proofs.YtgcnnbjbdfgglaaGreat.topBoth
