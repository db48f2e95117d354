/- A map from numbers to lists of texts, and the rows beside it: for the walk of JournalSure. -/
import Derived.Test.YtdphnhgogokidaaJourV
import Derived.Maps.OwnOps
import Derived.Maps.Views
namespace Go.Proofs.Ytdphnhgogokidaa
open Go.RowKit Go.ChangeShapes Go.WideShapes
open Go.Maps (Keyed int_keyed keyOf_int_mk)

noncomputable def heldElem (v : Value) : Option (DataW Value × List MemPlace) := some (.held v, [])
theorem keyInt : Keyed Try.prog 3 := int_keyed Try.underlying3
theorem zeroRow (w : World) : (zeroValue 50).run Try.prog w = .ok (.slice none 0 0) w := by kernel_rfl
/-- block mb is a map of at most n entries; at number k it holds F k (nil where it holds none). -/
def MapAt (w : World) (mb n : Nat) (F : Nat → Value) : Prop :=
  ∃ D, w.ownsMap Try.prog 3 heldElem mb n D ∧ ∀ k : Nat, D.atKey (.int .i64 k) (.held (.slice none 0 0)) = .held (F k)
theorem MapAt.lt {w : World} {mb n : Nat} {F : Nat → Value} (h : MapAt w mb n F) : mb < w.heap.size := by
  obtain ⟨D, h1, _⟩ := h
  exact h1.lt
theorem MapAt.block {w w' : World} {mb n : Nat} {F : Nat → Value} (h : MapAt w mb n F) (he : w'.heap[mb]? = w.heap[mb]?) : MapAt w' mb n F := by
  obtain ⟨D, ⟨es, clock, hb, h1⟩, h2⟩ := h
  exact ⟨D, ⟨es, clock, he.trans hb, h1⟩, h2⟩
theorem mapAt_made (w : World) : MapAt (w.alloc (.map #[] 0)) w.heap.size 0 (fun _ => .slice none 0 0) :=
  ⟨.map [], World.ownsMap_made _ _ _ _, fun _ => rfl⟩
theorem wf_key {k : Nat} (h : (k : Int) ≤ 9223372036854775807) : (Lit.int .i64 k).wf = true := by
  have h1 : IntKind.i64.min ≤ (k : Int) := Int.le_trans (show IntKind.i64.min ≤ 0 by decide) (by omega)
  have h3 : (k : Int) ≤ 9223372036854775807 := h
  simp [Lit.wf, h1]
  omega
theorem MapAt.look {w : World} {mb n : Nat} {F : Nat → Value} (h : MapAt w mb n F) (k : Nat) (hk : (k : Int) ≤ 9223372036854775807) : (Instr.lookup 83 (.map (some mb)) (.int .i64 k) false).run Try.prog w = .ok (F k) w := by
  obtain ⟨D, h1, h2⟩ := h
  obtain ⟨v, ps, hrun, hv⟩ := h1.lookup keyInt Try.underlying83 (zeroRow w) (zd := .held (.slice none 0 0)) (zp := []) rfl (keyOf_int_mk Try.underlying3 (wf_key hk))
  rw [h2 k] at hv
  simp only [heldElem, Option.some.injEq, Prod.mk.injEq, DataW.held.injEq] at hv
  rw [hrun, hv.1]
theorem MapAt.put {w : World} {mb n : Nat} {F : Nat → Value} (h : MapAt w mb n F) (k : Nat) (hk : (k : Int) ≤ 9223372036854775807) (hn : n < maxLen) (v : Value) :
    ∃ w', (Instr.mapUpdate 83 (.map (some mb)) (.int .i64 k) v).run Try.prog w = .ok () w' ∧ MapAt w' mb (n + 1) (fun i => if i = k then v else F i) ∧ w.grownBy w' (some mb) := by
  obtain ⟨D, h1, h2⟩ := h
  obtain ⟨w', hrun, h3, h4⟩ := h1.update keyInt Try.underlying83 hn (keyOf_int_mk Try.underlying3 (wf_key hk)) (show heldElem v = some (.held v, []) from rfl)
  refine ⟨w', hrun, ⟨_, h3, fun i => ?_⟩, h4⟩
  have hm : Maps.IsMap D := by
    obtain ⟨es, clock, _, _, _, rfl⟩ := h1
    exact ⟨_, rfl⟩
  by_cases hi : i = k
  · subst hi
    dsimp only
    rw [if_pos rfl]
    exact Maps.atKey_put_same hm (by trivial) _ _
  · dsimp only
    rw [if_neg hi, Maps.atKey_put_other (by intro e; simp only [Lit.int.injEq] at e; omega)]
    exact h2 i
theorem JL.grownR {B : Nat} {w w' : World} {jg g : Nat} {v : Value} {j : Jn} {d : Dk} {r : Option Nat} (h : JL B w jg g v j d) (hg : w.grownBy w' r) (hr : ∀ k, r = some k → k ≠ g ∧ k ≠ jg ∧ v.ownBlock ≠ some k) : JL B w' jg g v j d := by
  refine ⟨⟨h.jour.hj.grown hg (fun e => (hr jg e.symm).2.1 rfl), h.jour.hd.grown hg (fun e => (hr g e.symm).1 rfl), h.jour.ok, h.jour.ow.kept hg ?_⟩, h.lt, h.ge⟩
  cases hv : v.ownBlock with
  | none => exact .inl rfl
  | some k => exact .inr fun e => (hr k e.symm).2.2 hv
theorem Row.grownR {B : Nat} {w w' : World} {u : Value} {A : List (List UInt8)} {r : Option Nat} (h : Row B w u A) (hg : w.grownBy w' r) (hr : ∀ k, r = some k → u.ownBlock ≠ some k) : Row B w' u A := by
  refine World.ownsRow.kept h hg ?_
  cases hu : u.ownBlock with
  | none => exact .inl rfl
  | some k => exact .inr fun e => hr k e.symm hu
/-- a law's journal, the row of all records, a row of texts, a map's block: all apart. -/
structure SV (B : Nat) (w : World) (J g mb : Nat) (v u tv : Value) (j : Jn) (d : Dk) (all ts : List (List UInt8)) : Prop where
  hj : JL B w J g v j d
  ru : Row B w u all
  au : Apart u v g J
  rt : Row B w tv ts
  at' : Apart tv v g J
  ut : ∀ k, u.ownBlock = some k → tv.ownBlock ≠ some k
  mlt : mb < w.heap.size
  mB : B ≤ mb
  mg : mb ≠ g
  mj : mb ≠ J
  mv : v.ownBlock ≠ some mb
  mu : u.ownBlock ≠ some mb
  mt : tv.ownBlock ≠ some mb
section
variable {B J g mb : Nat} {w w' : World} {v u tv : Value} {j : Jn} {d : Dk} {all ts : List (List UInt8)} (h : SV B w J g mb v u tv j d all ts)
include h
theorem SV.below (hb : Below w.heap.size w w') : SV B w' J g mb v u tv j d all ts :=
  ⟨h.hj.below hb, h.ru.below hb, h.au, h.rt.below hb, h.at', h.ut, Nat.lt_of_lt_of_le h.mlt hb.size, h.mB, h.mg, h.mj, h.mv, h.mu, h.mt⟩
theorem SV.kp {v' : Value} {j' : Jn} {d' : Dk} (hj : JL B w' J g v' j' d') (hk : Kp g J v.ownBlock w w') (hv : v'.ownBlock = v.ownBlock ∨ ∀ k, v'.ownBlock = some k → w.heap.size ≤ k) : SV B w' J g mb v' u tv j' d' all ts :=
  ⟨hj, h.ru.kp hk h.au, h.au.kp h.ru hv, h.rt.kp hk h.at', h.at'.kp h.rt hv, h.ut, Nat.lt_of_lt_of_le h.mlt hk.size, h.mB, h.mg, h.mj, by
    rcases hv with e | e
    · rw [e]; exact h.mv
    · intro e2; have := e mb e2; have := h.mlt; omega, h.mu, h.mt⟩
theorem SV.mapKp {n : Nat} {F : Nat → Value} (hm : MapAt w mb n F) (hk : Kp g J v.ownBlock w w') : MapAt w' mb n F :=
  hm.block (hk.block mb h.mlt h.mg h.mj (fun e => h.mv e.symm))
/-- an append to the row of all. -/
theorem SV.appU {g' cap : Nat} {t : List UInt8} (ho : w'.ownsRow B 9 1 (.slice (some ⟨g', 0, none⟩) (all.length + 1) cap) (all.length + 1) (strs all ++ [.string ⟨t.toArray⟩])) (hg : w.grownBy w' u.ownBlock) (hat : u.ownBlock = some g' ∨ g' = w.heap.size) :
    SV B w' J g mb v (.slice (some ⟨g', 0, none⟩) (all.length + 1) cap) tv j d (all ++ [t]) ts := by
  refine ⟨h.hj.grown hg h.au, Row.snoc ho, h.au.appended h.hj hat, h.rt.grownR hg (fun k hk => h.ut k hk), h.at', ?_, Nat.lt_of_lt_of_le h.mlt hg.size, h.mB, h.mg, h.mj, h.mv, ?_, h.mt⟩
  · intro k hk
    have hk' : g' = k := by simpa [Value.ownBlock] using hk
    subst hk'
    rcases hat with e | e
    · exact h.ut g' e
    · intro e2; have := (h.rt.blk g' e2).2; omega
  · intro e
    have e' : g' = mb := by simpa [Value.ownBlock] using e
    subst e'
    rcases hat with e | e
    · exact h.mu e
    · have := h.mlt; omega
theorem SV.mapU {n : Nat} {F : Nat → Value} (hm : MapAt w mb n F) (hg : w.grownBy w' u.ownBlock) : MapAt w' mb n F :=
  hm.block (hg.block mb h.mlt (fun e => h.mu e.symm))
/-- an append to the row of texts. -/
theorem SV.appT {g' cap : Nat} {t : List UInt8} (ho : w'.ownsRow B 9 1 (.slice (some ⟨g', 0, none⟩) (ts.length + 1) cap) (ts.length + 1) (strs ts ++ [.string ⟨t.toArray⟩])) (hg : w.grownBy w' tv.ownBlock) (hat : tv.ownBlock = some g' ∨ g' = w.heap.size) :
    SV B w' J g mb v u (.slice (some ⟨g', 0, none⟩) (ts.length + 1) cap) j d all (ts ++ [t]) := by
  refine ⟨h.hj.grown hg h.at', h.ru.grownR hg (fun k hk e => h.ut k e hk), h.au, Row.snoc ho, h.at'.appended h.hj hat, ?_, Nat.lt_of_lt_of_le h.mlt hg.size, h.mB, h.mg, h.mj, h.mv, h.mu, ?_⟩
  · intro k hk e
    have e' : g' = k := by simpa [Value.ownBlock] using e
    subst e'
    rcases hat with e | e
    · exact h.ut g' hk e
    · have := (h.ru.blk g' hk).2; omega
  · intro e
    have e' : g' = mb := by simpa [Value.ownBlock] using e
    subst e'
    rcases hat with e | e
    · exact h.mt e
    · have := h.mlt; omega
theorem SV.mapT {n : Nat} {F : Nat → Value} (hm : MapAt w mb n F) (hg : w.grownBy w' tv.ownBlock) : MapAt w' mb n F :=
  hm.block (hg.block mb h.mlt (fun e => h.mt e.symm))
/-- a store into the map. -/
theorem SV.put (hg : w.grownBy w' (some mb)) : SV B w' J g mb v u tv j d all ts :=
  ⟨h.hj.grownR hg (fun k e => by cases e; exact ⟨h.mg, h.mj, h.mv⟩), h.ru.grownR hg (fun k e => by cases e; exact h.mu), h.au, h.rt.grownR hg (fun k e => by cases e; exact h.mt), h.at', h.ut, Nat.lt_of_lt_of_le h.mlt hg.size, h.mB, h.mg, h.mj, h.mv, h.mu, h.mt⟩
/-- no texts yet. -/
theorem SV.bare : SV B w J g mb v u (.slice none 0 0) j d all [] :=
  ⟨h.hj, h.ru, h.au, row_nil _ _, apart_nil _ _ _, fun _ _ e => (by cases e), h.mlt, h.mB, h.mg, h.mj, h.mv, h.mu, fun e => (by cases e)⟩
end
theorem grown_below {B : Nat} {w w' : World} {r : Option Nat} (hg : w.grownBy w' r) (hs : B ≤ w.heap.size) (hr : ∀ k, r = some k → B ≤ k) : Below B w w' :=
  ⟨hg.os, hg.tape, hg.output, hg.size, fun k hk => hg.block k (by omega) (fun e => by have := hr k e.symm; omega)⟩
end Go.Proofs.Ytdphnhgogokidaa
