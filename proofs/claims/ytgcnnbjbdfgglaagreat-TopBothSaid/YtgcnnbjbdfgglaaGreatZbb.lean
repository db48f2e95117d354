/- LAW TopBoth: of every configuration of a bank and every list of byte strings the given function TopBoth returns true and leaves its arguments as they were; no condition. A part of what it needs. -/
import Derived.Test.YtgcnnbjbdfgglaaGreatRows
import Derived.WalkKit
import Derived.WalkSpells
import Derived.WalkLawsBesides
import Derived.Lib.Hide
import Derived.BigQuiet
import Derived.BigRegion
import Derived.Lib.Strings
import Derived.Deep.LoopGhost
import Derived.Deep.DeepCutAuto
import Derived.Laws.ShiftsVar
import Derived.Laws.ShiftsVarLaws
import Derived.Laws.Shifts
import Derived.Laws.AppendOwn
import Derived.OwnWalk
import Derived.Laws.Concat
import Derived.Lib.IndexBytes
import Derived.Lib.ConvBytes
import Derived.Deep.MidRow
import Derived.StillTailTactics
namespace Go.Proofs.YtgcnnbjbdfgglaaGreat.W
open Go.RowKit
section
def specs (k:Int):List (Nat × Nat) :=
  if k = 1 then [(1,1),(2,4),(3,1),(4,1),(5,1),(6,8),(7,8)]
  else if k = 2 then [(1,1),(2,4)]
  else if k = 3 then [(1,1),(4,1),(6,8)]
  else if k = 4∨k = 8 then [(2,4)]
  else if k = 5∨k = 6 then [(4,1),(6,8)]
  else if k = 7 then [(1,1)]
  else if k = 9 then [(1,1),(4,1)]
  else []
def fits (n:Int) (bytes:Nat):Bool:=if bytes = 1 then decide (0≤n∧n≤255) else decide (0≤n∧n≤2147483647)
set_option maxRecDepth 100000 in
set_option maxHeartbeats 1000000 in
theorem within_any (n:Int) (k:Nat) (w:World):Calls Tryz.prog 35 #[.int .i64 n,.int .i64 k] w fun e w' => e = .returned (.bool (fits n k))∧w' = w:=by
  by_cases hk:k = 1
  · subst hk
    by_cases h0:0≤n
    · have e:fits n 1 = decide (n≤255):=by simp [fits,h0]
      rw [e]
      clear e
      go_enter Tryz.func35,Tryz.ntmps35
      go_wp2
      go_ret
      exact ⟨rfl,rfl⟩
    · have e:fits n 1 = false:=by simp [fits,h0]
      rw [e]
      clear e
      go_enter Tryz.func35,Tryz.ntmps35
      go_wp2
      go_ret
      exact ⟨rfl,rfl⟩
  · have e1:((k:Int) == 1) = false:=by simp; omega
    by_cases h0:0≤n
    · have e:fits n k = decide (n≤2147483647):=by simp [fits,h0,hk]
      rw [e]
      clear e hk
      go_enter Tryz.func35,Tryz.ntmps35
      go_wp2
      go_ret
      exact ⟨rfl,rfl⟩
    · have e:fits n k = false:=by simp [fits,h0,hk]
      rw [e]
      clear e hk
      go_enter Tryz.func35,Tryz.ntmps35
      go_wp2
      go_ret
      exact ⟨rfl,rfl⟩
end
section
def be (n:Int):Nat→List UInt8
  | 0 => []
  | k + 1 => UInt8.ofNat (n / 2 ^ (8 * k) % 256).toNat :: be n k
def bytesV (l:List UInt8):List Value:=l.map fun b => .int .u8 b.toNat
theorem infoU8:(Tryz.prog.info? 5).map (fun i => (i.zero,i.size,i.bytes)) = some (some (.int .u8 0),1,1):=by kernel_rfl
theorem byte_val (x:Int):Value.int .u8 (x % 256) = .int .u8 (UInt8.ofNat (x % 256).toNat).toNat:=by
  congr 1
  simp
  omega
theorem ownBlock_ge {B e size n:Nat} {v:Value} {xs:List Value} {w:World} (h:w.ownsRow B e size v n xs) {k:Nat} (hk:v.ownBlock = some k):B≤k:=by
  rcases h.2 with ⟨rfl,_⟩ | ⟨g,cap,cur,rfl,hg,_⟩
  · simp [Value.ownBlock] at hk
  · simp [Value.ownBlock] at hk; omega
def Kept8 (w w':World):Prop:=∀ (k:Nat) (c:Array Value) (t:TypeId) (fr:Nat × Nat),w.heap[k]? = some (Obj.cells c t fr)→t ≠ 5→w'.heap[k]? = some (Obj.cells c t fr)
theorem Kept8.refl (w:World):Kept8 w w:=fun _ _ _ _ h _ => h
theorem Kept8.below {a b c:World} (h:Kept8 a b) (h2:Below b.heap.size b c):Kept8 a c:=fun k cs t fr e ne => by
  have:=h k cs t fr e ne
  rw [h2.block k (Array.getElem?_eq_some_iff.1 this).1]; exact this
theorem Kept8.grown {a w w':World} {B n:Nat} {v:Value} {xs:List Value} (h:Kept8 a w) (hg:w.grownBy w' v.ownBlock) (ho:w.ownsRow B 5 1 v n xs):Kept8 a w':=fun k cs t fr e ne => by
  have h2:=h k cs t fr e ne
  rw [hg.block k (Array.getElem?_eq_some_iff.1 h2).1]
  · exact h2
  · intro hk
    rcases ho.2 with ⟨rfl,_⟩ | ⟨g,cap,cur,rfl,_,hc,_⟩
    · simp [Value.ownBlock] at hk
    · simp [Value.ownBlock] at hk
      subst hk
      rw [hc] at h2
      simp at h2
      exact ne h2.2.1.symm
set_option maxRecDepth 100000 in
set_option maxHeartbeats 1000000 in
theorem lay64_any (B:Nat) (v:Value) (acc:List UInt8) (hacc:acc.length≤4096) (n:Int) (k:Nat) (hk:k≤8) (w:World) (h:w.ownsRow B 5 1 v acc.length (bytesV acc)) (hB:B≤w.heap.size) :
    Calls Tryz.prog 60 #[v,.int .i64 n,.int .i64 k] w fun e w' => ∃ v',e = .returned v'∧w'.ownsRow B 5 1 v' (acc ++ be n k).length (bytesV (acc ++ be n k))∧Below B w w'∧Kept8 w w':=by
  have hki:(k:Int)≤8:=by omega
  go_enter Tryz.func60,Tryz.ntmps60
  go_wp2
  go_loopw [0,7] (fun b i wr => ∃ (j:Nat) (a:List UInt8),j≤k∧i = .int .i64 ((j:Int) - 1)∧a.length + j≤4104∧acc ++ be n k = a ++ be n j∧wr.ownsRow B 5 1 b a.length (bytesV a)∧Below B w wr∧Kept8 w wr) (fun _ i _ => (intOf i + 1).toNat)
  case atStart => exact ⟨k,acc,by omega,rfl,by omega,rfl,h,Below.refl _ _,Kept8.refl _⟩
  case round =>
    obtain ⟨j,a,hj,rfl,hlen,he,hown,hbel,hkp⟩:=hrel
    have HE:=Lib.hid he
    clear he
    cases j with
    | zero =>
      have e0:(((0:Nat):Int) - 1) = -1:=by omega
      rw [e0]
      go_wp2
      go_ret
      exact ⟨_,rfl,by rw [HE.out]; simpa [be] using hown,hbel,hkp⟩
    | succ m =>
      have e0:(((m + 1:Nat):Int) - 1) = (m:Int):=by omega
      rw [e0]
      have hm:(m:Int)≤7:=by omega
      clear e0
      obtain ⟨i0,hi,hz0,hz1,hz2⟩:=info_parts infoU8
      have hsz:=hbel.size
      go_wp2_with (at_builtin; with_reducible refine wpList_append_own _ rfl (.tmp 14) (.tmp 20) 162 rfl B 5 i0 (.int .u8 0) 1 1 Tryz.underlying162 hi hz0 hz1 hz2 rfl (by decide) _ _ _ rfl (hown.alloc _) ⟨wr.heap.size,0,none⟩ 1 1 [.int .u8 (n / 2 ^ (8 * m) % 256)] rfl rfl ?c1 ?c2 ?c3 ?c4 ?c5 ?_)
      case c1 => exact cell_one_new _ _ _
      case c2 => intro u hu; simp at hu; subst hu; rfl
      case c3 => unfold maxLen; omega
      case c4 => omega
      case c5 => simp; omega
      intro v' w1 hown' hgrow _
      have hb3:=((hbel.alloc (Nat.le_trans hB hbel.size) (.cells #[.int .u8 (n / 2 ^ (8 * m) % 256)] 5)).grown hgrow (by simp; omega) (fun k hk => ownBlock_ge hown hk))
      have hrow:w1.ownsRow B 5 1 v' (a ++ [UInt8.ofNat (n / 2 ^ (8 * m) % 256).toNat]).length (bytesV (a ++ [UInt8.ofNat (n / 2 ^ (8 * m) % 256).toNat])):=by
        rw [byte_val] at hown'
        simpa [bytesV] using hown'
      have hk3:=Lib.hid ((hkp.below ((Below.refl _ _).alloc (Nat.le_refl _) (.cells #[.int .u8 (n / 2 ^ (8 * m) % 256)] 5))).grown hgrow (hown.alloc _))
      clear hgrow hown' hown hbel hkp
      go_wp2
      go_roundw
      case rel => exact ⟨m,a ++ [UInt8.ofNat (n / 2 ^ (8 * m) % 256).toNat],by omega,by go_num,by simp; omega,by rw [HE.out]; simp [be],hrow,hb3,hk3.out⟩
      case measure => simp [intOf]
set_option maxRecDepth 100000 in
set_option maxHeartbeats 1000000 in
theorem layInt_any (B:Nat) (v:Value) (acc:List UInt8) (hacc:acc.length≤4096) (n:Int) (k:Nat) (hk:k≤8) (w:World) (h:w.ownsRow B 5 1 v acc.length (bytesV acc)) (hB:B≤w.heap.size) :
    Calls Tryz.prog 61 #[v,.int .i64 n,.int .i64 k] w fun e w' => ∃ v',e = .returned v'∧w'.ownsRow B 5 1 v' (acc ++ be n k).length (bytesV (acc ++ be n k))∧Below B w w'∧Kept8 w w':=by
  have hki:(k:Int)≤8:=by omega
  go_enter Tryz.func61,Tryz.ntmps61
  go_wp2
  go_loopw [0,7] (fun b i wr => ∃ (j:Nat) (a:List UInt8),j≤k∧i = .int .i64 ((j:Int) - 1)∧a.length + j≤4104∧acc ++ be n k = a ++ be n j∧wr.ownsRow B 5 1 b a.length (bytesV a)∧Below B w wr∧Kept8 w wr) (fun _ i _ => (intOf i + 1).toNat)
  case atStart => exact ⟨k,acc,by omega,rfl,by omega,rfl,h,Below.refl _ _,Kept8.refl _⟩
  case round =>
    obtain ⟨j,a,hj,rfl,hlen,he,hown,hbel,hkp⟩:=hrel
    have HE:=Lib.hid he
    clear he
    cases j with
    | zero =>
      have e0:(((0:Nat):Int) - 1) = -1:=by omega
      rw [e0]
      go_wp2
      go_ret
      exact ⟨_,rfl,by rw [HE.out]; simpa [be] using hown,hbel,hkp⟩
    | succ m =>
      have e0:(((m + 1:Nat):Int) - 1) = (m:Int):=by omega
      rw [e0]
      have hm:(m:Int)≤7:=by omega
      clear e0
      obtain ⟨i0,hi,hz0,hz1,hz2⟩:=info_parts infoU8
      have hsz:=hbel.size
      go_wp2_with (at_builtin; with_reducible refine wpList_append_own _ rfl (.tmp 14) (.tmp 20) 162 rfl B 5 i0 (.int .u8 0) 1 1 Tryz.underlying162 hi hz0 hz1 hz2 rfl (by decide) _ _ _ rfl (hown.alloc _) ⟨wr.heap.size,0,none⟩ 1 1 [.int .u8 (n / 2 ^ (8 * m) % 256)] rfl rfl ?c1 ?c2 ?c3 ?c4 ?c5 ?_)
      case c1 => exact cell_one_new _ _ _
      case c2 => intro u hu; simp at hu; subst hu; rfl
      case c3 => unfold maxLen; omega
      case c4 => omega
      case c5 => simp; omega
      intro v' w1 hown' hgrow _
      have hb3:=((hbel.alloc (Nat.le_trans hB hbel.size) (.cells #[.int .u8 (n / 2 ^ (8 * m) % 256)] 5)).grown hgrow (by simp; omega) (fun k hk => ownBlock_ge hown hk))
      have hrow:w1.ownsRow B 5 1 v' (a ++ [UInt8.ofNat (n / 2 ^ (8 * m) % 256).toNat]).length (bytesV (a ++ [UInt8.ofNat (n / 2 ^ (8 * m) % 256).toNat])):=by
        rw [byte_val] at hown'
        simpa [bytesV] using hown'
      have hk3:=Lib.hid ((hkp.below ((Below.refl _ _).alloc (Nat.le_refl _) (.cells #[.int .u8 (n / 2 ^ (8 * m) % 256)] 5))).grown hgrow (hown.alloc _))
      clear hgrow hown' hown hbel hkp
      go_wp2
      go_roundw
      case rel => exact ⟨m,a ++ [UInt8.ofNat (n / 2 ^ (8 * m) % 256).toNat],by omega,by go_num,by simp; omega,by rw [HE.out]; simp [be],hrow,hb3,hk3.out⟩
      case measure => simp [intOf]
end
section
def nbe (N:Nat):Nat→List UInt8
  | 0 => []
  | k + 1 => UInt8.ofNat (N / 256 ^ k % 256) :: nbe N k
def val (l:List UInt8):Nat:=l.foldl (fun n b => n * 256 + b.toNat) 0
theorem val_snoc (l:List UInt8) (b:UInt8):val (l ++ [b]) = val l * 256 + b.toNat:=by simp [val]
theorem val_lt (l:List UInt8):val l < 256 ^ l.length:=by
  have key:∀ (l:List UInt8) (n:Nat),l.foldl (fun n b => n * 256 + b.toNat) n + 1≤(n + 1) * 256 ^ l.length:=by
    intro l
    induction l with
    | nil => intro n; simp
    | cons b l ih =>
      intro n
      have h:=ih (n * 256 + b.toNat)
      have hb:=b.toNat_lt
      simp only [List.foldl_cons,List.length_cons,Nat.pow_succ]
      refine Nat.le_trans h ?_
      have h2:n * 256 + b.toNat + 1≤(n + 1) * 256:=by omega
      calc (n * 256 + b.toNat + 1) * 256 ^ l.length≤((n + 1) * 256) * 256 ^ l.length:=Nat.mul_le_mul_right _ h2
        _ = (n + 1) * (256 ^ l.length * 256):=by rw [Nat.mul_assoc,Nat.mul_comm 256]
  have:=key l 0
  unfold val
  omega
end
section
theorem or_take (V b:Nat) (hb:b < 256):bits .or .i64 (wrap64 (IntKind.i64.wrap (V:Int) * 256)) (b:Int) = IntKind.i64.wrap ((V * 256 + b:Nat):Int):=by
  have hA:(wrap64 (IntKind.i64.wrap (V:Int) * 256)) % 18446744073709551616 = ((V * 256 % 18446744073709551616:Nat):Int):=by
    rw [IntKind.wrap_i64]; unfold wrap64; omega
  generalize wrap64 (IntKind.i64.wrap (V:Int) * 256) = a at *
  have h1:(BitVec.ofInt 64 a).toNat = V * 256 % 18446744073709551616:=by
    rw [BitVec.toNat_ofInt]
    show (a % 18446744073709551616).toNat = _
    rw [hA]; rfl
  have h2:(BitVec.ofInt 64 (b:Int)).toNat = b:=by
    rw [BitVec.ofInt_natCast,BitVec.toNat_ofNat]; exact Nat.mod_eq_of_lt (by omega)
  show IntKind.i64.wrap ((BitVec.ofInt 64 a ||| BitVec.ofInt 64 (b:Int)).toNat:Int) = _
  rw [BitVec.toNat_or,h1,h2,nat_join 8 _ b (by omega) (by omega),IntKind.wrap_i64,IntKind.wrap_i64]
  omega
theorem below_bytes {B:Nat} {w0 w:World} (hb:Below B w0 w) (hB:B≤w.heap.size) (s:ByteArray):Below B w0 (Lib.bytesWorld w 5 s) :=
  hb.trans ⟨rfl,rfl,rfl,by rw [Lib.bytesWorld_size]; omega,fun k hk => Lib.bytesWorld_at_old _ _ _ _ (by omega)⟩
set_option maxRecDepth 100000 in
set_option maxHeartbeats 1000000 in
theorem take64_any (s:List UInt8) (hl:s.length≤8) (w:World) :
    Calls Tryz.prog 33 #[.string ⟨s.toArray⟩] w fun e w' => e = .returned (.int .i64 (IntKind.i64.wrap (val s:Nat)))∧Below w.heap.size w w':=by
  have hli:(s.length:Int)≤8:=by omega
  have hcv:=Lib.run_convert_string_bytes (P:=Tryz.prog) w 9 162 5 ⟨s.toArray⟩ Tryz.underlying9 Tryz.underlying162 Tryz.underlying5
  have hsz:(⟨s.toArray⟩:ByteArray).size = s.length:=by rw [ByteArray.size]; simp
  rw [hsz] at hcv
  have hcell:=fun j hj => Lib.bytesWorld_cell w 5 ⟨s.toArray⟩ j hj
  have HC:=Lib.hid hcell
  have HB:=Lib.hid (below_bytes (Below.refl _ _) (Nat.le_refl _) (w:=w) ⟨s.toArray⟩)
  clear hcell hsz
  generalize Lib.bytesWorld w 5 ⟨s.toArray⟩ = w1 at *
  go_enter Tryz.func33,Tryz.ntmps33
  go_wp2_with fail
  go_loopw [3,9] (fun n i wr => ∃ (j:Nat) (y:Int),j≤s.length∧i = .int .i64 j∧IntKind.i64.wrap (val (s.take j):Nat) = y∧n = .int .i64 y∧wr = w1) (fun _ i _ => s.length - (intOf i).toNat)
  case atStart => exact ⟨0,0,by omega,rfl,by simp [val,IntKind.wrap_i64],rfl,rfl⟩
  case round =>
    obtain ⟨j,y,hj,rfl,hy,rfl,rfl⟩:=hrel
    have HY:=Lib.hid hy
    by_cases hlt:j < s.length
    · have hcell:=HC.out j (by rw [ByteArray.size]; simpa using hlt)
      have hyb:-9223372036854775808≤y∧y≤9223372036854775807:=by rw [← hy,IntKind.wrap_i64]; omega
      clear hy
      have hb:=(s.getD j 0).toNat_lt
      generalize hbb:(s.getD j 0).toNat = b at *
      have HBB:=Lib.hid hbb
      have hbi:(b:Int)≤255:=by omega
      clear hbb hb
      go_wp2
      go_roundw
      case rel =>
        refine ⟨j + 1,_,by omega,by go_num,rfl,?_,by first | rfl | trivial⟩
        rw [← HY.out,or_take _ _ (by omega),List.take_succ_eq_append_getElem hlt,val_snoc]
        rw [← HBB.out]
        simp [List.getD,hlt]
      case measure => simp [intOf]; omega
    · obtain rfl:j = s.length:=by omega
      clear hy
      go_wp2
      go_ret
      refine ⟨?_,HB.out⟩
      rw [← HY.out,List.take_length]
      rfl
set_option maxRecDepth 100000 in
set_option maxHeartbeats 1000000 in
theorem takeInt_any (s:List UInt8) (hl:s.length≤8) (w:World) :
    Calls Tryz.prog 34 #[.string ⟨s.toArray⟩] w fun e w' => e = .returned (.int .i64 (IntKind.i64.wrap (val s:Nat)))∧Below w.heap.size w w':=by
  have hli:(s.length:Int)≤8:=by omega
  have hcv:=Lib.run_convert_string_bytes (P:=Tryz.prog) w 9 162 5 ⟨s.toArray⟩ Tryz.underlying9 Tryz.underlying162 Tryz.underlying5
  have hsz:(⟨s.toArray⟩:ByteArray).size = s.length:=by rw [ByteArray.size]; simp
  rw [hsz] at hcv
  have hcell:=fun j hj => Lib.bytesWorld_cell w 5 ⟨s.toArray⟩ j hj
  have HC:=Lib.hid hcell
  have HB:=Lib.hid (below_bytes (Below.refl _ _) (Nat.le_refl _) (w:=w) ⟨s.toArray⟩)
  clear hcell hsz
  generalize Lib.bytesWorld w 5 ⟨s.toArray⟩ = w1 at *
  go_enter Tryz.func34,Tryz.ntmps34
  go_wp2_with fail
  go_loopw [3,9] (fun n i wr => ∃ (j:Nat) (y:Int),j≤s.length∧i = .int .i64 j∧IntKind.i64.wrap (val (s.take j):Nat) = y∧n = .int .i64 y∧wr = w1) (fun _ i _ => s.length - (intOf i).toNat)
  case atStart => exact ⟨0,0,by omega,rfl,by simp [val,IntKind.wrap_i64],rfl,rfl⟩
  case round =>
    obtain ⟨j,y,hj,rfl,hy,rfl,rfl⟩:=hrel
    have HY:=Lib.hid hy
    by_cases hlt:j < s.length
    · have hcell:=HC.out j (by rw [ByteArray.size]; simpa using hlt)
      have hyb:-9223372036854775808≤y∧y≤9223372036854775807:=by rw [← hy,IntKind.wrap_i64]; omega
      clear hy
      have hb:=(s.getD j 0).toNat_lt
      generalize hbb:(s.getD j 0).toNat = b at *
      have HBB:=Lib.hid hbb
      have hbi:(b:Int)≤255:=by omega
      clear hbb hb
      go_wp2
      go_roundw
      case rel =>
        refine ⟨j + 1,_,by omega,by go_num,rfl,?_,by first | rfl | trivial⟩
        rw [← HY.out,or_take _ _ (by omega),List.take_succ_eq_append_getElem hlt,val_snoc]
        rw [← HBB.out]
        simp [List.getD,hlt]
      case measure => simp [intOf]; omega
    · obtain rfl:j = s.length:=by omega
      clear hy
      go_wp2
      go_ret
      refine ⟨?_,HB.out⟩
      rw [← HY.out,List.take_length]
      rfl
def SlInt (w:World) (v:Value) (rs:List Int):Prop :=
  ∃ a c,v = .slice a rs.length c∧(rs ≠ []→∃ b o,a = some ⟨b,o,none⟩∧∀ j x,rs[j]? = some x→w.cell? ⟨b,o + j,none⟩ = some (.int .i64 x))
theorem ret_bool {a b:Bool} (h:a = b):Ending.returned (.bool a) = .returned (.bool b):=by rw [h]
end
section
structure Cm where
  k:Int
  n:Nat→Int
def Cm.cells (c:Cm):Array Value:=#[.int .i64 c.k,.int .i64 (c.n 1),.int .i64 (c.n 2),.int .i64 (c.n 3),.int .i64 (c.n 4),.int .i64 (c.n 5),.int .i64 (c.n 6),.int .i64 (c.n 7)]
end
section
def fieldCells (g:Nat) (p:Nat × Nat):List Value :=
  if p.1≤5 then [.pointer (some ⟨g,p.1,none⟩),.pointer none,.int .i64 p.2] else [.pointer none,.pointer (some ⟨g,p.1,none⟩),.int .i64 p.2]
def FieldAt (w:World) (b g:Nat) (p:Nat × Nat):Prop:=w.heap[b]? = some (.cells (fieldCells g p).toArray 118 (0,0))
theorem FieldAt.below {w w':World} {b g:Nat} {p:Nat × Nat} (h:FieldAt w b g p) (hb:Below w.heap.size w w'):FieldAt w' b g p:=by
  unfold FieldAt at h ⊢
  rw [hb.block b (Array.getElem?_eq_some_iff.1 h).1]; exact h
theorem FieldAt.near {w:World} {b g i n:Nat} (h:FieldAt w b g (i,n)) (hi:i≤5):w.cell? ⟨b,0,none⟩ = some (.pointer (some ⟨g,i,none⟩))∧w.cell? ⟨b,1,none⟩ = some (.pointer none)∧w.cell? ⟨b,2,none⟩ = some (.int .i64 n):=by
  unfold FieldAt fieldCells at h
  rw [if_pos hi] at h
  refine ⟨?_,?_,?_⟩ <;> rw [cell_of_row _ _ _ _ _ _ h] <;> rfl
theorem FieldAt.far {w:World} {b g i n:Nat} (h:FieldAt w b g (i,n)) (hi:¬ i≤5):w.cell? ⟨b,0,none⟩ = some (.pointer none)∧w.cell? ⟨b,1,none⟩ = some (.pointer (some ⟨g,i,none⟩))∧w.cell? ⟨b,2,none⟩ = some (.int .i64 n):=by
  unfold FieldAt fieldCells at h
  rw [if_neg hi] at h
  refine ⟨?_,?_,?_⟩ <;> rw [cell_of_row _ _ _ _ _ _ h] <;> rfl
def FieldsAt (w:World) (B g:Nat) (v:Value) (L:List (Nat × Nat)):Prop :=
  ∃ a,v = .slice a L.length L.length∧(L ≠ []→∃ b,B≤b∧a = some ⟨b,0,none⟩∧w.heap[b]? = some (.cells (L.flatMap (fieldCells g)).toArray 118 (0,0)))
theorem fieldsAt_new {w:World} {B g:Nat} (L:List (Nat × Nat)) (hB:B≤w.heap.size) (n:Nat) (hn:n = L.length) {cs:Array Value} (hc:cs = (L.flatMap (fieldCells g)).toArray) :
    FieldsAt (w.alloc (.cells cs 118 (0,0))) B g (.slice (some ⟨w.heap.size,0,none⟩) n n) L:=by
  subst hn; subst hc
  exact ⟨_,rfl,fun _ => ⟨w.heap.size,hB,rfl,heap_alloc_new _ _⟩⟩
theorem kept_cell {w w':World} {p:Addr} {v:Value} (h:Below w.heap.size w w') (hp:w.cell? p = some v):w'.cell? p = some v:=(h.cell (block_lt_of_cell hp)).trans hp
theorem heap3 (w:World) (o1 o2 o3:Obj):(((w.alloc o1).alloc o2).alloc o3).heap[w.heap.size]? = some o1∧(((w.alloc o1).alloc o2).alloc o3).heap[w.heap.size + 1]? = some o2∧(((w.alloc o1).alloc o2).alloc o3).heap[w.heap.size + 1 + 1]? = some o3:=by
  have hb:=(Below.refl ((w.alloc o1).alloc o2).heap.size ((w.alloc o1).alloc o2)).alloc (Nat.le_refl _) o3
  refine ⟨?_,?_,?_⟩
  · rw [hb.block _ (by simp; omega)]; exact heap_alloc2_old w o1 o2
  · rw [hb.block _ (by simp)]; exact heap_alloc2_new w o1 o2
  · have:=heap_alloc_new ((w.alloc o1).alloc o2) o3
    rwa [show ((w.alloc o1).alloc o2).heap.size = w.heap.size + 1 + 1 by simp] at this
set_option maxRecDepth 100000 in
set_option maxHeartbeats 4000000 in
theorem fields_any (g:Nat) (k:Int) (w:World) (h:w.cell? ⟨g,0,none⟩ = some (.int .i64 k)) :
    Calls Tryz.prog 38 #[.pointer (some ⟨g,0,none⟩)] w fun e w' => ∃ v,e = .returned v∧FieldsAt w' w.heap.size g v (specs k)∧Below w.heap.size w w':=by
  go_enter Tryz.func38,Tryz.ntmps38
  go_upto_region 1 with (fail)
  go_cut [3,4] (fun u v wx => ∃ a b,u = .pointer (some ⟨a,0,none⟩)∧v = .pointer (some ⟨b,0,none⟩)∧FieldAt wx a g (1,1)∧FieldAt wx b g (2,4)∧w.heap.size≤a∧w.heap.size≤b∧Below w.heap.size w wx)
  case first =>
    have B2:=fun o1 o2 => (((Below.refl w.heap.size w).alloc (Nat.le_refl _) o1).alloc (by simp) o2).drew
    have N1:=fun o1 o2 => heap_alloc2_old w o1 o2
    have N2:=fun o1 o2 => heap_alloc2_new w o1 o2
    have B2':=Lib.hid B2
    have N1':=Lib.hid N1
    have N2':=Lib.hid N2
    clear B2 N1 N2
    go_region
    · go_wp2_with fail
      go_meet
      exact ⟨_,_,rfl,rfl,N1'.out _ _,N2'.out _ _,by omega,by omega,B2'.out _ _⟩
    · go_wp2_with fail
      go_meet
      exact ⟨_,_,rfl,rfl,N2'.out _ _,N1'.out _ _,by omega,by omega,B2'.out _ _⟩
  case rest =>
    obtain ⟨a1,a2,rfl,rfl,f1,f2,l1,l2,hb⟩:=hcut
    have F1:=Lib.hid f1
    have F2:=Lib.hid f2
    have HB:=Lib.hid hb
    have hsz:=hb.size
    clear f1 f2 hb
    go_upto_region 2 with (fail)
    go_cut [5,6,7] (fun u v x wx => ∃ a b c,u = .pointer (some ⟨a,0,none⟩)∧v = .pointer (some ⟨b,0,none⟩)∧x = .pointer (some ⟨c,0,none⟩)∧FieldAt wx a g (3,1)∧FieldAt wx b g (4,1)∧FieldAt wx c g (5,1)∧w.heap.size≤a∧w.heap.size≤b∧w.heap.size≤c∧Below wc.heap.size wc wx)
    case first =>
      have B3:=Lib.hid (fun o1 o2 o3 => ((((Below.refl wc.heap.size wc).alloc (Nat.le_refl _) o1).alloc (by simp) o2).alloc (by simp; omega) o3).drew)
      have N3:=Lib.hid (heap3 wc)
      go_region
      all_goals
        go_wp2_with fail
        go_meet
        first
          | exact ⟨_,_,_,rfl,rfl,rfl,(N3.out _ _ _).1,(N3.out _ _ _).2.1,(N3.out _ _ _).2.2,by omega,by omega,by omega,B3.out _ _ _⟩
          | exact ⟨_,_,_,rfl,rfl,rfl,(N3.out _ _ _).1,(N3.out _ _ _).2.2,(N3.out _ _ _).2.1,by omega,by omega,by omega,B3.out _ _ _⟩
          | exact ⟨_,_,_,rfl,rfl,rfl,(N3.out _ _ _).2.1,(N3.out _ _ _).1,(N3.out _ _ _).2.2,by omega,by omega,by omega,B3.out _ _ _⟩
          | exact ⟨_,_,_,rfl,rfl,rfl,(N3.out _ _ _).2.1,(N3.out _ _ _).2.2,(N3.out _ _ _).1,by omega,by omega,by omega,B3.out _ _ _⟩
          | exact ⟨_,_,_,rfl,rfl,rfl,(N3.out _ _ _).2.2,(N3.out _ _ _).1,(N3.out _ _ _).2.1,by omega,by omega,by omega,B3.out _ _ _⟩
          | exact ⟨_,_,_,rfl,rfl,rfl,(N3.out _ _ _).2.2,(N3.out _ _ _).2.1,(N3.out _ _ _).1,by omega,by omega,by omega,B3.out _ _ _⟩
    case rest =>
      obtain ⟨a3,a4,a5,rfl,rfl,rfl,f3,f4,f5,l3,l4,l5,hb2⟩:=hcut
      have F1':=Lib.hid (F1.out.below hb2)
      have F2':=Lib.hid (F2.out.below hb2)
      have F3:=Lib.hid f3
      have F4:=Lib.hid f4
      have F5:=Lib.hid f5
      have HB2:=Lib.hid (HB.out.trans (hb2.mono hsz))
      have hsz2:=hb2.size
      clear f3 f4 f5 hb2 F1 F2 HB
      rename_i wc2
      generalize wc.heap.size = z2 at hsz2
      go_upto_region 3 with (fail)
      go_cut [8,9] (fun u v wx => ∃ a b,u = .pointer (some ⟨a,0,none⟩)∧v = .pointer (some ⟨b,0,none⟩)∧FieldAt wx a g (6,8)∧FieldAt wx b g (7,8)∧w.heap.size≤a∧w.heap.size≤b∧Below wc.heap.size wc wx)
      case first =>
        have B2:=Lib.hid (fun o1 o2 => (((Below.refl wc.heap.size wc).alloc (Nat.le_refl _) o1).alloc (by simp) o2).drew)
        have N1:=Lib.hid (fun o1 o2 => heap_alloc2_old wc o1 o2)
        have N2:=Lib.hid (fun o1 o2 => heap_alloc2_new wc o1 o2)
        have hge:w.heap.size≤wc.heap.size:=HB2.out.size
        go_region
        · go_wp2_with fail
          go_meet
          exact ⟨_,_,rfl,rfl,N1.out _ _,N2.out _ _,by omega,by omega,B2.out _ _⟩
        · go_wp2_with fail
          go_meet
          exact ⟨_,_,rfl,rfl,N2.out _ _,N1.out _ _,by omega,by omega,B2.out _ _⟩
      case rest =>
        obtain ⟨a6,a7,rfl,rfl,f6,f7,l6,l7,hb3⟩:=hcut
        obtain ⟨x10,x11,x12⟩:=(F1'.out.below hb3).near (by omega)
        obtain ⟨x20,x21,x22⟩:=(F2'.out.below hb3).near (by omega)
        obtain ⟨x30,x31,x32⟩:=(F3.out.below hb3).near (by omega)
        obtain ⟨x40,x41,x42⟩:=(F4.out.below hb3).near (by omega)
        obtain ⟨x50,x51,x52⟩:=(F5.out.below hb3).near (by omega)
        obtain ⟨x60,x61,x62⟩:=f6.far (by omega)
        obtain ⟨x70,x71,x72⟩:=f7.far (by omega)
        have hb4:=HB2.out.trans (hb3.mono HB2.out.size)
        have hkc:=kept_cell hb4 h
        have HB4:=Lib.hid hb4
        clear F1' F2' F3 F4 F5 f6 f7 HB2 hsz hsz2 hb3 hb4 h l1 l2 l3 l4 l5 l6 l7
        by_cases hk:k = 1∨k = 2∨k = 3∨k = 4∨k = 5∨k = 6∨k = 7∨k = 8∨k = 9
        · have HK:=Lib.hid hkc
          clear hkc
          rcases hk with rfl | rfl | rfl | rfl | rfl | rfl | rfl | rfl | rfl
          all_goals
            have hkc2:=HK.out
            go_wp2
            go_ret
            refine ⟨_,rfl,?_,HB4.out.alloc HB4.out.size _⟩
            refine fieldsAt_new _ HB4.out.size _ ?_ ?_
            · rfl
            · rfl
        · have e:specs k = []:=by
            unfold specs
            repeat rw [if_neg (by omega)]
          have e1:(k == 1) = false:=by simp; omega
          have e2:(k == 2) = false:=by simp; omega
          have e3:(k == 3) = false:=by simp; omega
          have e4:(k == 4) = false:=by simp; omega
          have e5:(k == 5) = false:=by simp; omega
          have e6:(k == 6) = false:=by simp; omega
          have e7:(k == 7) = false:=by simp; omega
          have e8:(k == 8) = false:=by simp; omega
          have e9:(k == 9) = false:=by simp; omega
          have HE:=Lib.hid e
          clear e hk
          go_wp2
          go_ret
          rw [HE.out]
          exact ⟨_,rfl,⟨none,rfl,fun h => absurd rfl h⟩,HB4.out⟩
end
section
def CmAt (w:World) (g:Nat) (c:Cm):Prop:=w.heap[g]? = some (.cells c.cells 54 (0,0))
def upd (n:Nat→Int) (i:Nat) (x:Int):Nat→Int:=fun k => if k = i then x else n k
theorem CmAt.below {w w':World} {g:Nat} {c:Cm} (h:CmAt w g c) (hb:Below w.heap.size w w'):CmAt w' g c:=by
  unfold CmAt at h ⊢
  rw [hb.block g (Array.getElem?_eq_some_iff.1 h).1]; exact h
theorem CmAt.lt {w:World} {g:Nat} {c:Cm} (h:CmAt w g c):g < w.heap.size:=(Array.getElem?_eq_some_iff.1 h).1
theorem CmAt.kind {w:World} {g:Nat} {c:Cm} (h:CmAt w g c):w.cell? ⟨g,0,none⟩ = some (.int .i64 c.k):=by
  rw [cell_of_row _ _ _ _ _ _ h]; rfl
theorem CmAt.num {w:World} {g:Nat} {c:Cm} (h:CmAt w g c) {i:Nat} (h1:1≤i) (h7:i≤7):w.cell? ⟨g,i,none⟩ = some (.int .i64 (c.n i)):=by
  rw [cell_of_row _ _ _ _ _ _ h]
  obtain rfl | rfl | rfl | rfl | rfl | rfl | rfl:i = 1∨i = 2∨i = 3∨i = 4∨i = 5∨i = 6∨i = 7:=by omega
  all_goals rfl
theorem CmAt.frozen {w:World} {g:Nat} {c:Cm} (h:CmAt w g c) (i:Nat):w.frozen? ⟨g,i,none⟩ = false:=frozen_of_row _ _ _ _ _ h
theorem CmAt.range {w:World} {g:Nat} {c:Cm} (h:CmAt w g c):w.rangeAt g 0 c.cells.toList:=fun j v hv => by
  rw [cell_of_row _ _ _ _ _ _ h,Nat.zero_add]; simpa using hv
theorem CmAt.set {w:World} {g:Nat} {c:Cm} (h:CmAt w g c) {i:Nat} (h1:1≤i) (h7:i≤7) (x:Int):CmAt (w.setCell ⟨g,i,none⟩ (.int .i64 x)) g ⟨c.k,upd c.n i x⟩:=by
  unfold CmAt at h ⊢
  rw [heap_setCell_same _ _ _ _ _ _ h]
  obtain rfl | rfl | rfl | rfl | rfl | rfl | rfl:i = 1∨i = 2∨i = 3∨i = 4∨i = 5∨i = 6∨i = 7:=by omega
  all_goals rfl
theorem CmAt.apart {w:World} {g g':Nat} {c:Cm} (h:CmAt w g c) (hne:g ≠ g') (i:Nat) (v:Value):CmAt (w.setCell ⟨g',i,none⟩ v) g c:=by
  unfold CmAt at h ⊢
  rw [heap_setCell_other _ _ _ _ hne]; exact h
theorem cmAt_new (w:World) (c:Cm):CmAt (w.alloc (.cells c.cells 54 (0,0))) w.heap.size c:=heap_alloc_new _ _
theorem fieldsAt_below {w w':World} {B g:Nat} {v:Value} {L:List (Nat × Nat)} (h:FieldsAt w B g v L) (hb:Below w.heap.size w w'):FieldsAt w' B g v L:=by
  obtain ⟨a,e,h2⟩:=h
  refine ⟨a,e,fun hne => ?_⟩
  obtain ⟨b,hB,ea,hc⟩:=h2 hne
  exact ⟨b,hB,ea,by rw [hb.block b (Array.getElem?_eq_some_iff.1 hc).1]; exact hc⟩
theorem fieldsAt_apart {w:World} {B g g':Nat} {v:Value} {L:List (Nat × Nat)} (h:FieldsAt w B g v L) (hlt:g' < B) (i:Nat) (x:Value):FieldsAt (w.setCell ⟨g',i,none⟩ x) B g v L:=by
  obtain ⟨a,e,h2⟩:=h
  refine ⟨a,e,fun hne => ?_⟩
  obtain ⟨b,hB,ea,hc⟩:=h2 hne
  exact ⟨b,hB,ea,by rw [heap_setCell_other _ _ _ _ (by show b ≠ g'; omega)]; exact hc⟩
theorem fieldsAt_mono {w:World} {B B' g:Nat} {v:Value} {L:List (Nat × Nat)} (h:FieldsAt w B g v L) (hle:B'≤B):FieldsAt w B' g v L:=by
  obtain ⟨a,e,h2⟩:=h
  refine ⟨a,e,fun hne => ?_⟩
  obtain ⟨b,hB,ea,hc⟩:=h2 hne
  exact ⟨b,by omega,ea,hc⟩
theorem fieldCells_len (g:Nat) (p:Nat × Nat):(fieldCells g p).length = 3:=by unfold fieldCells; split <;> rfl
theorem flat_at (g:Nat):∀ (L:List (Nat × Nat)) (j:Nat) (p:Nat × Nat),L[j]? = some p→∀ i v,(fieldCells g p)[i]? = some v→(L.flatMap (fieldCells g))[j * 3 + i]? = some v
  | [],j,p,h,_,_,_ => by simp at h
  | q :: L,0,p,h,i,v,hv => by
    simp at h; subst h
    have hi:=(List.getElem?_eq_some_iff.1 hv).1
    simp only [List.flatMap_cons]
    rw [List.getElem?_append_left (by omega)]
    simpa using hv
  | q :: L,j + 1,p,h,i,v,hv => by
    simp at h
    simp only [List.flatMap_cons]
    rw [List.getElem?_append_right (by rw [fieldCells_len]; omega),fieldCells_len,show (j + 1) * 3 + i - 3 = j * 3 + i by omega]
    exact flat_at g L j p h i v hv
theorem fields_range {w:World} {B g:Nat} {v:Value} {L:List (Nat × Nat)} (h:FieldsAt w B g v L) {j:Nat} {p:Nat × Nat} (hj:L[j]? = some p) :
    ∃ b,B≤b∧v = .slice (some ⟨b,0,none⟩) L.length L.length∧w.rangeAt b (j * 3) (fieldCells g p):=by
  obtain ⟨a,e,h2⟩:=h
  obtain ⟨b,hB,ea,hc⟩:=h2 (by intro h; subst h; simp at hj)
  subst ea
  refine ⟨b,hB,e,fun i u hu => ?_⟩
  rw [cell_of_row _ _ _ _ _ _ hc]
  simpa using flat_at g L j p hj i u hu
theorem specs_mem {k:Int} {p:Nat × Nat} (h:p ∈ specs k):1≤p.1∧p.1≤7∧(p.1≤5→p.2 = 1∨p.2 = 4)∧(5 < p.1→p.2 = 8):=by
  unfold specs at h
  repeat' split at h
  all_goals
    simp at h
    try rcases h with rfl | rfl | rfl | rfl | rfl | rfl | rfl
    try rcases h with rfl | rfl | rfl
    try rcases h with rfl | rfl
    try subst h
    try simp
  all_goals simp
theorem specs_len (k:Int):(specs k).length≤7:=by
  unfold specs
  repeat' split
  all_goals simp
def pn (c:Cm) (L:List (Nat × Nat)):Nat→Int:=fun i => if L.any (fun p => p.1 == i) then c.n i else 0
theorem pn_snoc (c:Cm) (L:List (Nat × Nat)) (p:Nat × Nat):upd (pn c L) p.1 (c.n p.1) = pn c (L ++ [p]):=by
  funext i
  unfold upd pn
  simp only [List.any_append,List.any_cons,List.any_nil,Bool.or_false,Bool.or_eq_true,beq_iff_eq]
  by_cases h:i = p.1
  · subst h; simp
  · rw [if_neg h]
    by_cases h2:L.any (fun p => p.1 == i) = true
    · rw [if_pos h2,if_pos (Or.inl h2)]
    · rw [if_neg h2,if_neg]
      rintro (h3 | h3)
      · exact h2 h3
      · exact h h3.symm
def okField (c:Cm) (p:Nat × Nat):Bool:=decide (5 < p.1) || fits (c.n p.1) p.2
def same (n m:Nat→Int):Bool:=decide (n 1 = m 1∧n 2 = m 2∧n 3 = m 3∧n 4 = m 4∧n 5 = m 5∧n 6 = m 6∧n 7 = m 7)
def may (c:Cm):Bool:=decide (0 < (specs c.k).length) && ((specs c.k).all (okField c) && same (pn c (specs c.k)) c.n)
end
end Go.Proofs.YtgcnnbjbdfgglaaGreat.W
