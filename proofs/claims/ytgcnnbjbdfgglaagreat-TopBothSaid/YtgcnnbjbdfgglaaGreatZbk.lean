/- LAW TopBoth: of every configuration of a bank and every list of byte strings the given function TopBoth returns true and leaves its arguments as they were; no condition. A part of what it needs. -/
import Derived.Test.YtgcnnbjbdfgglaaGreatRows
import Derived.WalkKit
import Derived.WalkSpells
import Derived.WalkLawsBesides
import Derived.Lib.Hide
import Derived.Laws.CopyOwn
import Derived.BigQuiet
import Derived.Deep.LoopGhost
import Derived.Deep.DeepCutAuto
import Derived.Deep.CutBlock
import Derived.Deep.RegionWith
import Derived.Lib.Strings
import Derived.Lib.IndexBytes
namespace Go.Proofs.YtgcnnbjbdfgglaaGreat.J
open Go.RowKit
section
namespace Crc
def bit (c:Nat):Nat:=if c % 2=1 then (c / 2) ^^^ 0xedb88320 else c / 2
def bitsN:Nat→Nat→Nat
  | 0,c=>c
  | k + 1,c=>bitsN k (bit c)
def byte (c b:Nat):Nat:=bitsN 8 (c ^^^ b)
def run (c:Nat) (l:List UInt8):Nat:=l.foldl (fun c b=>byte c b.toNat) c
def check (l:List UInt8):Nat:=(run 4294967295 l) ^^^ 4294967295
theorem xor_mod2 (a b:Nat):(a ^^^ b) % 2=(a % 2 + b % 2) % 2:=by
 have:=Nat.xor_mod_two_pow (a:=a) (b:=b) (n:=1)
 simp only [Nat.pow_one] at this
 rw [this]
 rcases Nat.mod_two_eq_zero_or_one a with h | h <;> rcases Nat.mod_two_eq_zero_or_one b with h' | h' <;> simp [h,h']
theorem xor_div2 (a b:Nat):(a ^^^ b) / 2=(a / 2) ^^^ (b / 2):=by
 have:=Nat.shiftRight_xor_distrib (a:=a) (b:=b) (i:=1)
 simpa [Nat.shiftRight_eq_div_pow] using this
theorem bit_xor (a b:Nat):bit (a ^^^ b)=bit a ^^^ bit b:=by
 unfold bit
 rw [xor_mod2,xor_div2]
 rcases Nat.mod_two_eq_zero_or_one a with h | h <;> rcases Nat.mod_two_eq_zero_or_one b with h' | h' <;> simp [h,h']
 · rw [Nat.xor_assoc]
 · rw [Nat.xor_assoc,Nat.xor_assoc,Nat.xor_comm (b / 2)]
 · rw [Nat.xor_comm (b / 2),Nat.xor_assoc,← Nat.xor_assoc 3988292384,Nat.xor_self,Nat.zero_xor]
theorem bitsN_xor (k:Nat):∀ a b:Nat,bitsN k (a ^^^ b)=bitsN k a ^^^ bitsN k b:=by
 induction k with
 | zero=>intro a b; rfl
 | succ k ih=>intro a b; simp only [bitsN]; rw [bit_xor,ih]
theorem bit_lt {c:Nat} (h:c < 2 ^ 32):bit c < 2 ^ 32:=by
 unfold bit
 split
 · exact Nat.xor_lt_two_pow (by omega) (by decide)
 · omega
theorem bitsN_lt (k:Nat):∀ {c:Nat},c < 2 ^ 32→bitsN k c < 2 ^ 32:=by
 induction k with
 | zero=>intro c h; exact h
 | succ k ih=>intro c h; exact ih (bit_lt h)
theorem byte_lt {c b:Nat} (h:c < 2 ^ 32) (hb:b < 256):byte c b < 2 ^ 32:=bitsN_lt 8 (Nat.xor_lt_two_pow h (by omega))
theorem run_lt (l:List UInt8):∀ {c:Nat},c < 2 ^ 32→run c l < 2 ^ 32:=by
 induction l with
 | nil=>intro c h; exact h
 | cons b l ih=>intro c h; exact ih (c:=byte c b.toNat) (byte_lt h b.toNat_lt)
theorem check_lt (l:List UInt8):check l < 2 ^ 32:=Nat.xor_lt_two_pow (run_lt l (by decide)) (by decide)
theorem run_append (c:Nat) (l m:List UInt8):run c (l ++ m)=run (run c l) m:=by simp [run]
theorem bit_even (h:Nat):bit (2 * h)=h:=by unfold bit; rw [if_neg (by omega)]; omega
theorem bits8_hi (h:Nat):bitsN 8 (256 * h)=h:=by
 simp only [bitsN]
 rw [show 256 * h=2 * (128 * h) from by omega,bit_even,show 128 * h=2 * (64 * h) from by omega,bit_even,show 64 * h=2 * (32 * h) from by omega,bit_even,
   show 32 * h=2 * (16 * h) from by omega,bit_even,show 16 * h=2 * (8 * h) from by omega,bit_even,show 8 * h=2 * (4 * h) from by omega,bit_even,
   show 4 * h=2 * (2 * h) from by omega,bit_even,bit_even]
theorem split256 (c:Nat):c=(c % 256) ^^^ (256 * (c / 256)):=by
 apply Nat.eq_of_testBit_eq
 intro i
 rw [Nat.testBit_xor,show (256:Nat)=2 ^ 8 from rfl,Nat.testBit_mod_two_pow,Nat.testBit_two_pow_mul,Nat.testBit_div_two_pow]
 by_cases h:i < 8
 · have h':¬ 8≤i:=by omega
   simp [h,h']
 · have:8≤i:=by omega
   simp [this,show ¬ i < 8 from h]
theorem bits8_table (c:Nat):bitsN 8 c=bitsN 8 (c % 256) ^^^ (c / 256):=by
 conv=>lhs; rw [split256 c,bitsN_xor,bits8_hi]
theorem xor_byte_mod (c b:Nat) (hb:b < 256):(c ^^^ b) % 256=(c % 256) ^^^ b:=by
 have:=Nat.xor_mod_two_pow (a:=c) (b:=b) (n:=8)
 rw [show (2:Nat) ^ 8=256 from rfl,Nat.mod_eq_of_lt hb] at this
 exact this
theorem xor_byte_div (c b:Nat) (hb:b < 256):(c ^^^ b) / 256=c / 256:=by
 have:=Nat.shiftRight_xor_distrib (a:=c) (b:=b) (i:=8)
 simp only [Nat.shiftRight_eq_div_pow] at this
 rw [show (2:Nat) ^ 8=256 from rfl] at this
 rw [this,Nat.div_eq_of_lt hb,Nat.xor_zero]
theorem byte_table (c b:Nat) (hb:b < 256):byte c b=bitsN 8 ((c % 256) ^^^ b) ^^^ (c / 256):=by
 unfold byte
 rw [bits8_table,xor_byte_mod c b hb,xor_byte_div c b hb]
end Crc
end
section
def tabArr (k:Nat):Array Value:=((List.range 256).map fun i=>if i < k then Value.int .u32 (Crc.bitsN 8 i:Nat) else .int .u32 0).toArray
theorem tabArr_zero:Tryz.zeroCells270=tabArr 0:=by kernel_rfl
theorem tabArr_size (k:Nat):(tabArr k).size=256:=by simp [tabArr]
theorem tabArr_get (k i:Nat) (hi:i < 256):(tabArr k)[i]?=some (if i < k then Value.int .u32 (Crc.bitsN 8 i:Nat) else .int .u32 0):=by
 simp [tabArr,hi]
theorem tabArr_set (k:Nat) (hk:k < 256):(tabArr k).setIfInBounds k (.int .u32 (Crc.bitsN 8 k:Nat))=tabArr (k + 1):=by
 apply Array.ext_getElem?
 intro i
 rw [Array.getElem?_setIfInBounds,tabArr_size]
 by_cases hi:i < 256
 · rw [tabArr_get _ _ hi,tabArr_get _ _ hi]
   by_cases h:k=i
   · subst h; simp [hk]
   · rw [if_neg h]
     have:(i < k)=(i < k + 1):=by simp; omega
     simp [this]
 · rw [Array.getElem?_eq_none (by rw [tabArr_size]; omega),Array.getElem?_eq_none (by rw [tabArr_size]; omega)]
   rw [if_neg (by omega)]
theorem tabArr_cells (k:Nat):(tabArr k).all (·.oneCell')=true:=by
 rw [Array.all_eq_true_iff_forall_mem]
 intro x hx
 simp only [tabArr,List.mem_toArray,List.mem_map] at hx
 obtain ⟨i,_,rfl⟩:=hx
 split <;> rfl
theorem tab_info {k:Nat}:(Tryz.prog.info? 270).map (·.size)=some (tabArr k).size:=by
 rw [tabArr_size]; kernel_rfl
theorem bit_walk (c:Nat) (hc:c < 4294967296):bits .xor .u32 ((c:Int) / 2) (bits .and .u32 3988292384 ((-(bits .and .u32 c 1)) % 4294967296))=(Crc.bit c:Nat):=by
 have h1:bits .and .u32 (c:Int) 1=((c % 2:Nat):Int):=by
  have:=u32_and_nat c 1 hc (by omega)
  rw [nat_mask1] at this
  exact this
 rw [h1]
 have hd:((c:Int) / 2)=((c / 2:Nat):Int):=by omega
 rw [hd]
 unfold Crc.bit
 rcases Nat.mod_two_eq_zero_or_one c with h | h
 · rw [h,if_neg (by omega)]
   have e:(-((0:Nat):Int)) % 4294967296=((0:Nat):Int):=by decide
   rw [e]
   have e2:=u32_and_nat 3988292384 0 (by omega) (by omega)
   rw [show ((3988292384:Nat):Int)=3988292384 from rfl] at e2
   rw [e2,u32_xor_nat _ _ (by omega) (by decide)]
   simp
 · rw [h,if_pos rfl]
   have e:(-((1:Nat):Int)) % 4294967296=((4294967295:Nat):Int):=by decide
   rw [e]
   have e2:=u32_and_nat 3988292384 4294967295 (by omega) (by omega)
   rw [show ((3988292384:Nat):Int)=3988292384 from rfl] at e2
   rw [e2,u32_xor_nat _ _ (by omega) (by decide)]
   rfl
set_option maxRecDepth 100000 in
set_option maxHeartbeats 1000000 in
theorem table_any (w:World) :
    Calls Tryz.prog 154 #[] w fun e w'=>e=.returned (.agg (tabArr 256))∧Below w.heap.size w w':=by
 have hz:Hid (Tryz.zeroCells270=tabArr 0):=Lib.hid tabArr_zero
 go_enter Tryz.func154,Tryz.ntmps154
 go_wp2
 rw [hz.out]
 go_loopw [4] (fun i wr=>∃ k:Nat,k≤256∧i=.int .i64 k∧wr=(w.alloc (.cells (tabArr 0) 270)).alloc (.cells (tabArr k) 270)) (fun i _=>256 - (intOf i).toNat)
 case atStart=>exact ⟨0,by omega,rfl,rfl⟩
 case round =>
  obtain ⟨k,hk,rfl,rfl⟩:=hrel
  by_cases hlt:k < 256
  · have hg:(tabArr k)[k]?=some (.int .u32 0):=by rw [tabArr_get k k hlt,if_neg (by omega)]
    have hs:=tabArr_set k hlt
    have hS:=Lib.hid hs
    clear hs
    go_wp2
    go_loop [3,9] (fun c i=>∃ j:Nat,j≤8∧i=.int .i64 j∧∃ x:Nat,x < 4294967296∧Crc.bitsN (8 - j) x=Crc.bitsN 8 k∧c=.int .u32 x) (fun _ i=>8 - (intOf i).toNat)
    case atStart=>exact ⟨0,by omega,rfl,k,by omega,rfl,rfl⟩
    case round =>
     obtain ⟨j,hj,rfl,x,hx,hb,rfl⟩:=hrel
     have hB:=Lib.hid hb
     clear hb
     by_cases hlj:j < 8
     · have hw:=bit_walk x hx
       go_wp2
       go_round
       case rel =>
        refine ⟨j + 1,by omega,by go_num,Crc.bit x,Crc.bit_lt hx,?_,?_⟩
        · rw [← hB.out,show 8 - j=(8 - (j + 1)) + 1 from by omega]; rfl
        · rfl
       case measure=>simp [intOf]; omega
     · obtain rfl:j=8:=by omega
       go_wp2
       go_roundw
       case rel =>
        refine ⟨k + 1,by omega,by go_num,?_⟩
        have hb:x=Crc.bitsN 8 k:=hB.out
        rw [hb,hS.out]
       case measure=>simp [intOf]; omega
  · obtain rfl:k=256:=by omega
    have h1:=heap_alloc2_new w (.cells (tabArr 0) 270) (.cells (tabArr 256) 270)
    have h2:=heap_alloc2_old w (.cells (tabArr 0) 270) (.cells (tabArr 256) 270)
    have H1:=Lib.hid h1
    have H2:=Lib.hid h2
    clear h1 h2
    go_wp2_with (first
      | (with_reducible refine wpList_load_row rfl 270 (.tmp 1) rfl (w.heap.size + 1) rfl 270 (tabArr 256) (0,0) _ H1.out Tryz.underlying270 rfl tab_info ?_)
      | (with_reducible refine wpList_store_row rfl 270 (.tmp 0) (.tmp 23) rfl w.heap.size (tabArr 256) rfl rfl 270 (tabArr 0) H2.out tab_info (by rw [tabArr_size,tabArr_size]) (tabArr_cells 256) ?_))
    refine bodyPost_ret (v:=.agg (tabArr 256)) (results_cell_row rfl _ _ w.heap.size 270 (tabArr 256) (0,0) _ rfl (setRow_heap _ _ _ _ _ _ H2.out) Tryz.underlying270 rfl tab_info) rfl ⟨rfl,?_⟩
    exact below_setRow (((Below.refl _ _).alloc (Nat.le_refl _) _).alloc (by simp) _) (Nat.le_refl _) _
theorem setRow_below_new {w w1:World} (hb:Below w.heap.size w w1) (o:Obj) (cs:Array Value):Below w.heap.size w ((w1.alloc o).setRow w1.heap.size cs) :=
 below_setRow (hb.alloc hb.size _) hb.size _
theorem zero_tab_size:Tryz.zeroCells270.size=(tabArr 256).size:=by rw [tabArr_zero,tabArr_size,tabArr_size]
theorem idx_byte (x y:Nat) (hy:y < 256):bits .xor .u8 ((x:Int) % 256) (y:Int)=(((x % 256) ^^^ y:Nat):Int):=by
 have:=u8_xor_nat (x % 256) y (by omega) hy
 rw [← this]; rfl
theorem byte_walk (x y:Nat) (hx:x < 4294967296) (hy:y < 256):bits .xor .u32 ((Crc.bitsN 8 ((x % 256) ^^^ y):Nat):Int) ((x:Int) / 256)=(Crc.byte x y:Nat):=by
 rw [Crc.byte_table x y hy]
 have h1:(x % 256) ^^^ y < 2 ^ 8:=Nat.xor_lt_two_pow (by omega) (by omega)
 exact u32_xor_nat _ (x / 256) (Crc.bitsN_lt 8 (by omega)) (by omega)
theorem check_end (l:List UInt8) (x:Nat) (hr:Crc.run 4294967295 l=x):Ending.returned (.int .u32 (bits .xor .u32 IntKind.u32.max (x:Int)))=.returned (.int .u32 (Crc.check l:Nat)):=by
 have hx:x < 4294967296:=by rw [← hr]; exact Crc.run_lt l (by decide)
 have hm:IntKind.u32.max=((4294967295:Nat):Int):=rfl
 rw [hm,u32_xor_nat 4294967295 x (by omega) hx,Nat.xor_comm]
 unfold Crc.check
 rw [hr]
set_option maxRecDepth 100000 in
set_option maxHeartbeats 1000000 in
theorem check_any (s:ByteArray) (hlen:s.size≤9223372036854775807) (w:World) :
    Calls Tryz.prog 112 #[.string s] w fun e w'=>e=.returned (.int .u32 (Crc.check s.data.toList:Nat))∧Below w.heap.size w w':=by
 go_enter Tryz.func112,Tryz.ntmps112
 go_wp2_with (first
   | (go_at_call 154; refine (table_any _).mono ?_; rintro e w1 ⟨rfl,hb1⟩)
   | (with_reducible refine wpList_store_row rfl 270 (.tmp 3) (.tmp 6) rfl w1.heap.size (tabArr 256) rfl rfl 270 Tryz.zeroCells270 (heap_alloc_new w1 _) tab_info zero_tab_size (tabArr_cells 256) ?_))
 have hb2:=setRow_below_new hb1 (.cells Tryz.zeroCells270 270) (tabArr 256)
 have hrow:=setRow_heap _ _ _ (tabArr 256) _ _ (heap_alloc_new w1 (.cells Tryz.zeroCells270 270))
 generalize (w1.alloc (.cells Tryz.zeroCells270 270)).setRow w1.heap.size (tabArr 256)=W at *
 generalize w1.heap.size=g at *
 clear hb1
 go_loop [4,9] (fun c i=>∃ k:Nat,k≤s.size∧i=.int .i64 k∧∃ x:Nat,x < 4294967296∧Crc.run 4294967295 (s.data.toList.take k)=x∧c=.int .u32 x) (fun _ i=>s.size - (intOf i).toNat)
 case atStart=>exact ⟨0,by omega,rfl,4294967295,by omega,rfl,rfl⟩
 case round =>
  obtain ⟨k,hk,rfl,x,hx,hr,rfl⟩:=hrel
  have hR:=Lib.hid hr
  clear hr
  by_cases hlt:k < s.size
  · have hi:=idx_byte x s[k].toNat s[k].toNat_lt
    have hi2:=byte_walk x s[k].toNat hx s[k].toNat_lt
    have hx8:(x % 256) ^^^ s[k].toNat < 256:=Nat.xor_lt_two_pow (n:=8) (by omega) (by have:=s[k].toNat_lt; omega)
    have hc:W.cell? ⟨g,(x % 256) ^^^ s[k].toNat,none⟩=some (.int .u32 (Crc.bitsN 8 ((x % 256) ^^^ s[k].toNat):Nat)):=by
     rw [cell_of_row _ _ _ _ _ _ hrow,tabArr_get _ _ (by omega),if_pos (by omega)]
    go_wp2
    go_round
    case rel =>
     refine ⟨k + 1,by omega,by go_num,Crc.byte x s[k].toNat,Crc.byte_lt hx s[k].toNat_lt,?_,rfl⟩
     rw [List.take_succ_eq_append_getElem (by simpa using hlt),Crc.run_append,hR.out]
     rfl
    case measure=>simp [intOf]; omega
  · obtain rfl:k=s.size:=by omega
    have hr:Crc.run 4294967295 s.data.toList=x:=by
     have:=hR.out
     rwa [List.take_of_length_le (by simp)] at this
    go_wp2
    go_ret
    exact ⟨check_end s.data.toList x hr,hb2⟩
def be4 (n:Nat):List UInt8:=[UInt8.ofNat (n / 16777216),UInt8.ofNat (n / 65536),UInt8.ofNat (n / 256),UInt8.ofNat n]
theorem conv4 (w:World) (n:Nat) (hn:n < 4294967296):(convert 162 9 (Value.slice (some ⟨w.heap.size,0,none⟩) 4 4)).run Tryz.prog (w.alloc (.cells #[.int .u8 (↑n / 16777216),.int .u8 (↑n / 65536 % 256),.int .u8 (↑n / 256 % 256),.int .u8 (↑n % 256)] 5)) =
    .ok (.string ⟨(be4 n).toArray⟩) (w.alloc (.cells #[.int .u8 (↑n / 16777216),.int .u8 (↑n / 65536 % 256),.int .u8 (↑n / 256 % 256),.int .u8 (↑n % 256)] 5)):=by
 refine run_convert_bytes_back (P:=Tryz.prog) _ 162 9 5 ⟨w.heap.size,0,none⟩ 4 (be4 n) Tryz.underlying162 Tryz.underlying5 Tryz.underlying9 ?_
 intro j hj
 have:j=0∨j=1∨j=2∨j=3:=by simp [be4] at hj; omega
 rcases this with rfl | rfl | rfl | rfl <;> simp [be4,Addr.add] <;> omega
set_option maxRecDepth 100000 in
set_option maxHeartbeats 400000 in
theorem number_any (n:Nat) (hn:n < 4294967296) (w:World) :
    Calls Tryz.prog 117 #[.int .u32 n] w fun e w'=>e=.returned (.string ⟨(be4 n).toArray⟩)∧Below w.heap.size w w':=by
 have hc:=conv4 w n hn
 go_enter Tryz.func117,Tryz.ntmps117
 go_wp2
 go_ret
 exact ⟨rfl,(Below.refl _ _).alloc (Nat.le_refl _) _⟩
def frameOf (l:List UInt8):List UInt8:=be4 l.length ++ be4 (Crc.check l) ++ l
theorem frame_bytes (s:ByteArray):(⟨(be4 s.size).toArray⟩:ByteArray) ++ ⟨(be4 (Crc.check s.data.toList)).toArray⟩ ++ s=⟨(frameOf s.data.toList).toArray⟩:=by
 apply ByteArray.ext
 apply Array.ext'
 simp only [frameOf,ByteArray.data_append,Array.toList_append,List.append_assoc,Array.length_toList,ByteArray.size_data]
theorem ret_str_int {a b:ByteArray} {n:Int} (h:a=b):Ending.returned (.tuple #[.string a,.int .i64 n])=.returned (.tuple #[.string b,.int .i64 n]):=by rw [h]
set_option maxRecDepth 100000 in
set_option maxHeartbeats 400000 in
theorem put_ok (s:ByteArray) (h:s.size≤65536) (w:World) :
    Calls Tryz.prog 76 #[.string s] w fun e w'=>e=.returned (.tuple #[.string ⟨(frameOf s.data.toList).toArray⟩,.int .i64 0])∧Below w.heap.size w w':=by
 go_enter Tryz.func76,Tryz.ntmps76
 go_wp2_with fail
 refine (number_any s.size (by omega) _).mono ?_
 rintro e w1 ⟨rfl,hb1⟩
 go_wp2_with fail
 refine (check_any s (by omega) _).mono ?_
 rintro e w2 ⟨rfl,hb2⟩
 go_wp2_with fail
 refine (number_any _ (Crc.check_lt _) _).mono ?_
 rintro e w3 ⟨rfl,hb3⟩
 have l1:(be4 s.size).length=4:=rfl
 have l2:(be4 (Crc.check s.data.toList)).length=4:=rfl
 go_wp2
 go_ret2
 refine ⟨?_,hb1.trans ((hb2.mono hb1.size).trans (hb3.mono (Nat.le_trans hb1.size hb2.size)))⟩
 exact ret_str_int (by rw [frame_bytes])
end
section
def strs (rs:List (List UInt8)):List Value:=rs.map fun r=>.string ⟨r.toArray⟩
theorem infoStr:(Tryz.prog.info? 9).map (fun i=>(i.zero,i.size,i.bytes))=some (some (.string ByteArray.empty),1,16):=by kernel_rfl
end
end Go.Proofs.YtgcnnbjbdfgglaaGreat.J
