/- LAW TopBoth: of every configuration of a bank and every list of byte strings the given function TopBoth returns true and leaves its arguments as they were; no condition. A part of what it needs. -/
import Derived.Test.YtgcnnbjbdfgglaaGreatRows
import Derived.WalkKit
import Derived.ProofKit
import Derived.OpenShut
import Derived.ShutString
import Derived.SizedLaws
namespace Go.Proofs.YtgcnnbjbdfgglaaGreat
open Go.ChangeShapes Go.WideShapes Go.ChangeAt Go.RowKit
theorem own_knob:ownKnob Tryz.prog.godebug = none:=by kernel_rfl
theorem laid_out:laidOutB Tryz.prog = true:=by kernel_rfl
section
variable {H:Type} {enc:TypeId × Value→H}
theorem trodAll_below {W W':World} (hb:Below W.heap.size W W'):∀ (ts:List TypeId) (vs:List Value) (ds:List (DataW H)) (ps:List MemPlace),
    (∀ t ∈ ts,Tryz.prog.readableRec t = true∧t < Tryz.prog.types.size)→DataW.TrodAll enc Tryz.prog W 0 (fun _ => true) true ts vs ds ps→(∀ x ∈ ps,x.block < W.heap.size) →
    DataW.TrodAll enc Tryz.prog W' 0 (fun b => decide (b < W.heap.size)) true ts vs ds ps:=by
  intro ts
  induction ts with
  | nil =>
    intro vs ds ps _ h _
    obtain ⟨rfl,rfl,rfl⟩:=trodAll_nil h
    exact trodAll_mk0
  | cons t ts ih =>
    intro vs ds ps hr h hlt
    obtain ⟨v,vs',d,ds',p,q,rfl,rfl,rfl,h0,h1⟩:=trodAll_cons h
    have ht:=hr t (by simp)
    exact trodAll_cons_mk (Below.trod laid_out ht.1 ht.2 h0 hb (fun x hx => hlt x (by simp [hx]))) (ih vs' ds' q (fun t h => hr t (by simp [h])) h1 (fun x hx => hlt x (by simp [hx])))
theorem weights_of {ts us:List TypeId} {ds gs:List (DataW H)} (h:(DataW.weightsEach Tryz.prog (ts ++ us) (ds ++ gs)).all (·≤reachBytes) = true) (j:Nat) {t:TypeId} {d:DataW H} (ht:ts[j]? = some t) (hd:ds[j]? = some d) :
    ∀ n ∈ d.weights Tryz.prog t,n≤reachBytes:=by
  intro n hn
  have h1:(ts ++ us)[j]? = some t:=by rw [List.getElem?_append_left (List.getElem?_eq_some_iff.1 ht).1]; exact ht
  have h2:(ds ++ gs)[j]? = some d:=by rw [List.getElem?_append_left (List.getElem?_eq_some_iff.1 hd).1]; exact hd
  have:=List.all_eq_true.1 h n (DataW.weights_mem_each h1 h2 n hn)
  simpa using this
theorem law_post {f:Func} {s:ChangeSpec} {W W':World} {args:Array Value} {ds gs:List (DataW H)} {before:List MemPlace}
    (hW:DataW.Whole enc Tryz.prog f.params.toList s.vars false W args.toList ds gs before) (hf:f.resultTypes = #[4]) (hv:s.vars = [])
    (hs:s.fn H ds = { results:=[.lit (.bool true)],args:=ds }) (ht:∀ t ∈ f.params.toList,Tryz.prog.readableRec t = true∧t < Tryz.prog.types.size)
    (hb:Below W.heap.size W W'):s.post enc Tryz.prog f false true false false W args (.bool true) W':=by
  have hW':=hW
  have hlt:∀ x ∈ before,x.block < W.heap.size:=fun x hx => hW.lt x hx
  obtain ⟨p,q,hA,hV,rfl,_,_⟩:=hW
  rw [hv] at hV
  obtain ⟨rfl,rfl⟩:=trodVars_none hV
  have e:s.fn H (ds ++ []) = { results:=[.lit (.bool true)],args:=ds }:=by rw [List.append_nil]; exact hs
  refine ⟨ds,[],_,[],p,[],hW',?_,?_,?_,hb.frame _,fun h => by cases h⟩
  · rw [e,hf]
    exact trodAll_cons_mk (shut_bool Tryz.underlying4 _) trodAll_mk0
  · rw [e]
    exact trodAll_below hb _ _ _ _ ht hA (fun x hx => hlt x (by simp [hx]))
  · rw [e,hv]
    rfl
end
end Go.Proofs.YtgcnnbjbdfgglaaGreat
