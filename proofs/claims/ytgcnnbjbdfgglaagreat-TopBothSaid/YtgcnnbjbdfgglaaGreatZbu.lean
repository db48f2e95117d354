/- LAW TopBoth: of every configuration of a bank and every list of byte strings the given function TopBoth returns true and leaves its arguments as they were; no condition. A part of what it needs. -/
import Derived.Test.YtgcnnbjbdfgglaaGreatZbr
import Derived.Maps.RangeWalk
import Derived.Maps.AppendAt
namespace Go.Proofs.YtgcnnbjbdfgglaaGreat
open Go.RowKit
open Go.Maps (Keyed keyOf_int_mk)
theorem GMap.made (w:World):GMap (w.alloc (.map #[] 0)) w.heap.size 0 (w.heap.size + 1) (fun _=>none) (fun _=>[]) :=
  ⟨IMap.made w _,Nat.lt_succ_self _,fun _ _ h=>(by cases h),fun _ _=>rfl,fun _ _ _ _ _ h=>(by cases h)⟩
theorem GMap.get {w:World} {mb n base:Nat} {F:Int→Option Value} {L:Int→List Int} (h:GMap w mb n base F L) (k:Int):w.ownsRow base 2 1 ((F k).getD (.slice none 0 0)) (L k).length (ints (L k)):=by
  cases hf:F k with
  | none=>rw [h.no k hf]; exact World.ownsRow_nil _ _ _ _
  | some v=>exact h.own k v hf
theorem GMap.below {w w':World} {mb n base:Nat} {F:Int→Option Value} {L:Int→List Int} (h:GMap w mb n base F L) (hb:Below w.heap.size w w'):GMap w' mb n base F L :=
  ⟨h.map.below hb,h.lt,fun k v hk=>own_below (h.own k v hk) hb,h.no,h.ap⟩
theorem GMap.kept {w w':World} {mb n base:Nat} {F:Int→Option Value} {L:Int→List Int} (h:GMap w mb n base F L) {row:Option Nat} (hg:w.grownBy w' row) (hr:∀ k,row=some k→w.heap.size≤k):GMap w' mb n base F L :=
  h.below ⟨hg.os,hg.tape,hg.output,hg.size,fun k hk=>hg.block k hk (fun e=>by have:=hr k e.symm; omega)⟩
theorem GMap.put {w w1:World} {mb n base:Nat} {F:Int→Option Value} {L:Int→List Int} (h:GMap w mb n base F L) (hn:n < maxLen) (k:Int) (hk:In64 k) {v':Value} {x:Int} (hg:w.grownBy w1 ((F k).getD (.slice none 0 0)).ownBlock)
    (ho:w1.ownsRow base 2 1 v' ((L k).length + 1) (ints (L k) ++ [.int .i64 x])) (hloc:v'.ownBlock=((F k).getD (.slice none 0 0)).ownBlock∨∃ g,v'.ownBlock=some g∧w.heap.size≤g) {t e:TypeId} (ht:Tryz.prog.underlying t=some (.map 3 e)) :
    ∃ w2,(Instr.mapUpdate t (.map (some mb)) (.int .i64 k) v').run Tryz.prog w1=.ok () w2∧GMap w2 mb (n + 1) base (fun i=>if i=k then some v' else F i) (fun i=>if i=k then L k ++ [x] else L i)∧w1.grownBy w2 (some mb):=by
  have hge:∀ {wx:World} {v:Value} {m:Nat} {xs:List Value},wx.ownsRow base 2 1 v m xs→v.ownBlock ≠ some mb:=fun hx e=>by
    have:=own_ge hx e
    have:=h.lt
    omega
  have hm1:IMap w1 mb n (.slice none 0 0) F:=h.map.same (hg.block mb h.map.lt (fun e=>hge (h.get k) e.symm))
  obtain ⟨w2,hrun,hm2,hg2⟩:=hm1.put ht hn k hk v'
  have hk1:∀ k' v,k' ≠ k→F k'=some v→w1.ownsRow base 2 1 v (L k').length (ints (L k')):=fun k' v hne hv=>by
    refine (h.own k' v hv).kept hg ?_
    cases hf:F k with
    | none =>
      cases hu2:v.ownBlock with
      | none=>exact .inl rfl
      | some q=>exact .inr (by simp [Value.ownBlock])
    | some u=>exact h.ap k' k v u hne hv hf
  refine ⟨w2,hrun,⟨hm2,h.lt,fun k' v hv=>?_,fun k' hv=>?_,fun a b u v hne hu hv=>?_⟩,hg2⟩
  · by_cases hkk:k'=k
    · subst hkk
      try dsimp only at hv
      rw [if_pos rfl] at hv
      injection hv with hv
      subst hv
      try dsimp only
      rw [if_pos rfl]
      have:w1.ownsRow base 2 1 v' (L k' ++ [x]).length (ints (L k' ++ [x])):=by simpa [ints] using ho
      exact this.kept hg2 (.inr (hge this))
    · try dsimp only at hv ⊢
      rw [if_neg hkk] at hv ⊢
      have h1:=hk1 k' v hkk hv
      exact h1.kept hg2 (.inr (hge h1))
  · by_cases hkk:k'=k
    · subst hkk
      try dsimp only at hv
      rw [if_pos rfl] at hv
      cases hv
    · try dsimp only at hv ⊢
      rw [if_neg hkk] at hv ⊢
      exact h.no k' hv
  ·
    have new_old:∀ c u,c ≠ k→F c=some u→u.ownBlock=none∨u.ownBlock ≠ v'.ownBlock:=fun c u hc hu=>by
      rcases hloc with e | ⟨g,e,hgl⟩
      · rw [e]
        cases hf:F k with
        | none =>
          cases hu2:u.ownBlock with
          | none=>exact .inl rfl
          | some q=>exact .inr (by simp [Value.ownBlock])
        | some y=>exact h.ap c k u y hc hu hf
      · cases hu2:u.ownBlock with
        | none=>exact .inl rfl
        | some q =>
          refine .inr fun e2=>?_
          rw [e] at e2
          injection e2 with e2
          have:=((h.own c u hu).lt q hu2).2
          omega
    by_cases ha:a=k
    · subst ha
      have hb:b ≠ a:=fun e=>hne e.symm
      try dsimp only at hu hv
      rw [if_pos rfl] at hu
      rw [if_neg hb] at hv
      injection hu with hu
      subst hu
      rcases new_old b v hb hv with e | e
      · cases hu2:v'.ownBlock with
        | none=>exact .inl rfl
        | some q=>exact .inr (by rw [e]; simp)
      · exact .inr (fun e2=>e e2.symm)
    · by_cases hb:b=k
      · subst hb
        try dsimp only at hu hv
        rw [if_neg ha] at hu
        rw [if_pos rfl] at hv
        injection hv with hv
        subst hv
        exact new_old a u ha hu
      · try dsimp only at hu hv
        rw [if_neg ha] at hu
        rw [if_neg hb] at hv
        exact h.ap a b u v hne hu hv
theorem IRan.left {w:World} {mb r n:Nat} {z:Value} {F:Int→Option Value} {cnt:Nat} (h:IRan w mb r n z F cnt):w.rangeLeft mb r=cnt:=by
  obtain ⟨D,l,h1,_⟩:=h
  exact h1.left_eq
theorem IRan.lt {w:World} {mb r n:Nat} {z:Value} {F:Int→Option Value} {cnt:Nat} (h:IRan w mb r n z F cnt):r < w.heap.size:=by
  obtain ⟨D,l,h1,_⟩:=h
  exact h1.lt
theorem IRan.owns {w:World} {mb r n:Nat} {z:Value} {F:Int→Option Value} {cnt:Nat} (h:IRan w mb r n z F cnt):IMap w mb n z F:=by
  obtain ⟨D,l,h1,h2,_⟩:=h
  exact ⟨D,h1.owns,h2⟩
theorem IRan.kept {w w':World} {mb r n:Nat} {z:Value} {F:Int→Option Value} {cnt:Nat} (h:IRan w mb r n z F cnt) {row:Option Nat} (hg:w.grownBy w' row) (h1:some mb ≠ row) (h2:some r ≠ row):IRan w' mb r n z F cnt:=by
  obtain ⟨D,l,h3,h4,h5⟩:=h
  exact ⟨D,l,h3.kept hg h1 h2,h4,h5⟩
theorem IRan.below {w w':World} {mb r n:Nat} {z:Value} {F:Int→Option Value} {cnt:Nat} (h:IRan w mb r n z F cnt) (hb:Below w.heap.size w w'):IRan w' mb r n z F cnt :=
  h.kept (row:=none) ⟨hb.os,hb.tape,hb.output,hb.size,fun k hk _=>hb.block k hk⟩ (by simp) (by simp)
theorem legL_zero (x:Ent) (c:Int):legL x 0 c=[]:=rfl
theorem Bk.info64':(Tryz.prog.info? 2).map (fun i=>(i.zero,i.size,i.bytes))=some (some (.int .i64 0),1,8):=by kernel_rfl
end Go.Proofs.YtgcnnbjbdfgglaaGreat

