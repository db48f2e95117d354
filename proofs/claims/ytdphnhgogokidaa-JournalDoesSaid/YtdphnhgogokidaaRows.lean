/-
  No cell of these rows narrows 'for every input' (looked for: loops, veiled, ifaces, maps, wideKeys, modest, calm, conditions, laid).
  DERIVED. THE GIVEN ROWS OF THIS SEAT. 12 by the template 'for every input the law returns true; each argument reads behind the call as it read before'; 0 by the template 'total and deterministic' (their statements: YtdphnhgogokidaaTotals.lean).
  GIVEN WITH THE SEED: the statements are not yours to turn. If you find one false, say at which input.
  Laid BY PROGRAM, IN A SANDBOX (cutbox-rows.mjs): the forced cells as the released guide's own fill.sh prints them over the translation 92585b1f7c7332ba… (all of the seat's roots in one cut). By AI agents, Wed Nov 11 2026. No macro, syntax, notation, axiom, sorry.
-/
import Derived.Test.YtdphnhgogokidaaChecked
import GoSem.Claim
import GoSem.ClaimJoined
import GoSem.ClaimMapViews
import Derived.JoinedTies
import Derived.KernelRfl
namespace Go.Proofs.Ytdphnhgogokidaa
/- THE CELL 'sum', in the pinned program and in every row, IS THE sha256 OF THE DUMP (.gsa) THAT YtdphnhgogokidaaProg.lean LOADS. Nothing in Lean hashes anything: it is a label: what it is worth is what the hold of that sum in a sandbox is worth. -/
noncomputable def Try.pinned : Pinned := { name := "ytdphnhgogokidaa", sum := "92585b1f7c7332ba9b5f9865f810d0cfb998cc07e5359a90d03dfc25b6ba0bcb", checked := Try.checked }
namespace Rows
def none {H : Type} : Left H := { results := [], args := [] }

/-- 'nostrolaw05.DiskDoes': WHATEVER THE INPUT: true; the input reads as it did. -/
def diskDoesSpec : ChangeSpec := { name := "diskDoes", fn := fun _ => fun
  | [d1, d2] => { results := [.lit (.bool true)], args := [d1, d2] }
  | _ => none }
def diskDoesRow : OpenClaim := { program := "ytdphnhgogokidaa", sum := "92585b1f7c7332ba9b5f9865f810d0cfb998cc07e5359a90d03dfc25b6ba0bcb", func := "nostro/nostrolaw05.DiskDoes", spec := "diskDoes", unfollowed := true, recurses := true, apart := false }
def DiskDoesSaid : Prop := diskDoesRow.holds Try.pinned (OpenSpec.ofChange diskDoesSpec)

/-- ITS FALSE NEIGHBOUR: 'it returns false'. Refute it at one input. -/
def diskDoesWrong : ChangeSpec := { name := "diskDoes", fn := fun _ => fun
  | [d1, d2] => { results := [.lit (.bool false)], args := [d1, d2] }
  | _ => none }
def DiskDoesWrongFalsely : Prop := diskDoesRow.holds Try.pinned (OpenSpec.ofChange diskDoesWrong)

/-- 'nostrolaw05.DiskSure': WHATEVER THE INPUT: true; the input reads as it did. -/
def diskSureSpec : ChangeSpec := { name := "diskSure", fn := fun _ => fun
  | [d1, d2] => { results := [.lit (.bool true)], args := [d1, d2] }
  | _ => none }
def diskSureRow : OpenClaim := { program := "ytdphnhgogokidaa", sum := "92585b1f7c7332ba9b5f9865f810d0cfb998cc07e5359a90d03dfc25b6ba0bcb", func := "nostro/nostrolaw05.DiskSure", spec := "diskSure", unfollowed := true, recurses := true, apart := false }
def DiskSureSaid : Prop := diskSureRow.holds Try.pinned (OpenSpec.ofChange diskSureSpec)

/-- ITS FALSE NEIGHBOUR: 'it returns false'. Refute it at one input. -/
def diskSureWrong : ChangeSpec := { name := "diskSure", fn := fun _ => fun
  | [d1, d2] => { results := [.lit (.bool false)], args := [d1, d2] }
  | _ => none }
def DiskSureWrongFalsely : Prop := diskSureRow.holds Try.pinned (OpenSpec.ofChange diskSureWrong)

/-- 'nostrolaw05.DiskMoves': WHATEVER THE INPUT: true; the input reads as it did. -/
def diskMovesSpec : ChangeSpec := { name := "diskMoves", fn := fun _ => fun
  | [d1, d2, d3] => { results := [.lit (.bool true)], args := [d1, d2, d3] }
  | _ => none }
def diskMovesRow : OpenClaim := { program := "ytdphnhgogokidaa", sum := "92585b1f7c7332ba9b5f9865f810d0cfb998cc07e5359a90d03dfc25b6ba0bcb", func := "nostro/nostrolaw05.DiskMoves", spec := "diskMoves", unfollowed := true, recurses := true, apart := false }
def DiskMovesSaid : Prop := diskMovesRow.holds Try.pinned (OpenSpec.ofChange diskMovesSpec)

/-- ITS FALSE NEIGHBOUR: 'it returns false'. Refute it at one input. -/
def diskMovesWrong : ChangeSpec := { name := "diskMoves", fn := fun _ => fun
  | [d1, d2, d3] => { results := [.lit (.bool false)], args := [d1, d2, d3] }
  | _ => none }
def DiskMovesWrongFalsely : Prop := diskMovesRow.holds Try.pinned (OpenSpec.ofChange diskMovesWrong)

/-- 'nostrolaw04.FrameTells': WHATEVER THE INPUT: true; the input reads as it did. -/
def frameTellsSpec : ChangeSpec := { name := "frameTells", fn := fun _ => fun
  | [d] => { results := [.lit (.bool true)], args := [d] }
  | _ => none }
def frameTellsRow : OpenClaim := { program := "ytdphnhgogokidaa", sum := "92585b1f7c7332ba9b5f9865f810d0cfb998cc07e5359a90d03dfc25b6ba0bcb", func := "nostro/nostrolaw04.FrameTells", spec := "frameTells", inPlace := ["internal/abi.NoEscape"], apart := false }
def FrameTellsSaid : Prop := frameTellsRow.holds Try.pinned (OpenSpec.ofChange frameTellsSpec)

/-- ITS FALSE NEIGHBOUR: 'it returns false'. Refute it at one input. -/
def frameTellsWrong : ChangeSpec := { name := "frameTells", fn := fun _ => fun
  | [d] => { results := [.lit (.bool false)], args := [d] }
  | _ => none }
def FrameTellsWrongFalsely : Prop := frameTellsRow.holds Try.pinned (OpenSpec.ofChange frameTellsWrong)

/-- 'nostrolaw04.FrameLays': WHATEVER THE INPUT: true; the input reads as it did. -/
def frameLaysSpec : ChangeSpec := { name := "frameLays", fn := fun _ => fun
  | [d1, d2] => { results := [.lit (.bool true)], args := [d1, d2] }
  | _ => none }
def frameLaysRow : OpenClaim := { program := "ytdphnhgogokidaa", sum := "92585b1f7c7332ba9b5f9865f810d0cfb998cc07e5359a90d03dfc25b6ba0bcb", func := "nostro/nostrolaw04.FrameLays", spec := "frameLays", inPlace := ["internal/abi.NoEscape"], apart := false }
def FrameLaysSaid : Prop := frameLaysRow.holds Try.pinned (OpenSpec.ofChange frameLaysSpec)

/-- ITS FALSE NEIGHBOUR: 'it returns false'. Refute it at one input. -/
def frameLaysWrong : ChangeSpec := { name := "frameLays", fn := fun _ => fun
  | [d1, d2] => { results := [.lit (.bool false)], args := [d1, d2] }
  | _ => none }
def FrameLaysWrongFalsely : Prop := frameLaysRow.holds Try.pinned (OpenSpec.ofChange frameLaysWrong)

/-- 'nostrolaw04.FrameBack': WHATEVER THE INPUT: true; the input reads as it did. -/
def frameBackSpec : ChangeSpec := { name := "frameBack", fn := fun _ => fun
  | [d1, d2] => { results := [.lit (.bool true)], args := [d1, d2] }
  | _ => none }
def frameBackRow : OpenClaim := { program := "ytdphnhgogokidaa", sum := "92585b1f7c7332ba9b5f9865f810d0cfb998cc07e5359a90d03dfc25b6ba0bcb", func := "nostro/nostrolaw04.FrameBack", spec := "frameBack", inPlace := ["internal/abi.NoEscape"], apart := false }
def FrameBackSaid : Prop := frameBackRow.holds Try.pinned (OpenSpec.ofChange frameBackSpec)

/-- ITS FALSE NEIGHBOUR: 'it returns false'. Refute it at one input. -/
def frameBackWrong : ChangeSpec := { name := "frameBack", fn := fun _ => fun
  | [d1, d2] => { results := [.lit (.bool false)], args := [d1, d2] }
  | _ => none }
def FrameBackWrongFalsely : Prop := frameBackRow.holds Try.pinned (OpenSpec.ofChange frameBackWrong)

/-- 'nostrolaw04.FrameTurned': WHATEVER THE INPUT: true; the input reads as it did. -/
def frameTurnedSpec : ChangeSpec := { name := "frameTurned", fn := fun _ => fun
  | [d1, d2, d3] => { results := [.lit (.bool true)], args := [d1, d2, d3] }
  | _ => none }
def frameTurnedRow : OpenClaim := { program := "ytdphnhgogokidaa", sum := "92585b1f7c7332ba9b5f9865f810d0cfb998cc07e5359a90d03dfc25b6ba0bcb", func := "nostro/nostrolaw04.FrameTurned", spec := "frameTurned", inPlace := ["internal/abi.NoEscape"], apart := false }
def FrameTurnedSaid : Prop := frameTurnedRow.holds Try.pinned (OpenSpec.ofChange frameTurnedSpec)

/-- ITS FALSE NEIGHBOUR: 'it returns false'. Refute it at one input. -/
def frameTurnedWrong : ChangeSpec := { name := "frameTurned", fn := fun _ => fun
  | [d1, d2, d3] => { results := [.lit (.bool false)], args := [d1, d2, d3] }
  | _ => none }
def FrameTurnedWrongFalsely : Prop := frameTurnedRow.holds Try.pinned (OpenSpec.ofChange frameTurnedWrong)

/-- 'nostrolaw04.FrameAdds': WHATEVER THE INPUT: true; the input reads as it did. -/
def frameAddsSpec : ChangeSpec := { name := "frameAdds", fn := fun _ => fun
  | [d1, d2, d3] => { results := [.lit (.bool true)], args := [d1, d2, d3] }
  | _ => none }
def frameAddsRow : OpenClaim := { program := "ytdphnhgogokidaa", sum := "92585b1f7c7332ba9b5f9865f810d0cfb998cc07e5359a90d03dfc25b6ba0bcb", func := "nostro/nostrolaw04.FrameAdds", spec := "frameAdds", inPlace := ["internal/abi.NoEscape"], apart := false }
def FrameAddsSaid : Prop := frameAddsRow.holds Try.pinned (OpenSpec.ofChange frameAddsSpec)

/-- ITS FALSE NEIGHBOUR: 'it returns false'. Refute it at one input. -/
def frameAddsWrong : ChangeSpec := { name := "frameAdds", fn := fun _ => fun
  | [d1, d2, d3] => { results := [.lit (.bool false)], args := [d1, d2, d3] }
  | _ => none }
def FrameAddsWrongFalsely : Prop := frameAddsRow.holds Try.pinned (OpenSpec.ofChange frameAddsWrong)

/-- 'nostrolaw06.JournalOnce': WHATEVER THE INPUT: true; the input reads as it did. -/
def journalOnceSpec : ChangeSpec := { name := "journalOnce", fn := fun _ => fun
  | [d1, d2] => { results := [.lit (.bool true)], args := [d1, d2] }
  | _ => none }
def journalOnceRow : OpenClaim := { program := "ytdphnhgogokidaa", sum := "92585b1f7c7332ba9b5f9865f810d0cfb998cc07e5359a90d03dfc25b6ba0bcb", func := "nostro/nostrolaw06.JournalOnce", spec := "journalOnce", unfollowed := true, recurses := true, apart := false }
def JournalOnceSaid : Prop := journalOnceRow.holds Try.pinned (OpenSpec.ofChange journalOnceSpec)

/-- ITS FALSE NEIGHBOUR: 'it returns false'. Refute it at one input. -/
def journalOnceWrong : ChangeSpec := { name := "journalOnce", fn := fun _ => fun
  | [d1, d2] => { results := [.lit (.bool false)], args := [d1, d2] }
  | _ => none }
def JournalOnceWrongFalsely : Prop := journalOnceRow.holds Try.pinned (OpenSpec.ofChange journalOnceWrong)

/-- 'nostrolaw06.JournalDoes': WHATEVER THE INPUT: true; the input reads as it did. -/
def journalDoesSpec : ChangeSpec := { name := "journalDoes", fn := fun _ => fun
  | [d1, d2, d3] => { results := [.lit (.bool true)], args := [d1, d2, d3] }
  | _ => none }
def journalDoesRow : OpenClaim := { program := "ytdphnhgogokidaa", sum := "92585b1f7c7332ba9b5f9865f810d0cfb998cc07e5359a90d03dfc25b6ba0bcb", func := "nostro/nostrolaw06.JournalDoes", spec := "journalDoes", unfollowed := true, recurses := true, apart := false }
def JournalDoesSaid : Prop := journalDoesRow.holds Try.pinned (OpenSpec.ofChange journalDoesSpec)

/-- ITS FALSE NEIGHBOUR: 'it returns false'. Refute it at one input. -/
def journalDoesWrong : ChangeSpec := { name := "journalDoes", fn := fun _ => fun
  | [d1, d2, d3] => { results := [.lit (.bool false)], args := [d1, d2, d3] }
  | _ => none }
def JournalDoesWrongFalsely : Prop := journalDoesRow.holds Try.pinned (OpenSpec.ofChange journalDoesWrong)

/-- 'nostrolaw06.JournalSure': WHATEVER THE INPUT: true; the input reads as it did. -/
def journalSureSpec : ChangeSpec := { name := "journalSure", fn := fun _ => fun
  | [d1, d2, d3] => { results := [.lit (.bool true)], args := [d1, d2, d3] }
  | _ => none }
def journalSureRow : OpenClaim := { program := "ytdphnhgogokidaa", sum := "92585b1f7c7332ba9b5f9865f810d0cfb998cc07e5359a90d03dfc25b6ba0bcb", func := "nostro/nostrolaw06.JournalSure", spec := "journalSure", unfollowed := true, recurses := true, apart := false }
def JournalSureSaid : Prop := journalSureRow.holds Try.pinned (OpenSpec.ofChange journalSureSpec)

/-- ITS FALSE NEIGHBOUR: 'it returns false'. Refute it at one input. -/
def journalSureWrong : ChangeSpec := { name := "journalSure", fn := fun _ => fun
  | [d1, d2, d3] => { results := [.lit (.bool false)], args := [d1, d2, d3] }
  | _ => none }
def JournalSureWrongFalsely : Prop := journalSureRow.holds Try.pinned (OpenSpec.ofChange journalSureWrong)

/-- 'nostrolaw06.JournalTwice': WHATEVER THE INPUT: true; the input reads as it did. -/
def journalTwiceSpec : ChangeSpec := { name := "journalTwice", fn := fun _ => fun
  | [d1, d2, d3] => { results := [.lit (.bool true)], args := [d1, d2, d3] }
  | _ => none }
def journalTwiceRow : OpenClaim := { program := "ytdphnhgogokidaa", sum := "92585b1f7c7332ba9b5f9865f810d0cfb998cc07e5359a90d03dfc25b6ba0bcb", func := "nostro/nostrolaw06.JournalTwice", spec := "journalTwice", unfollowed := true, recurses := true, apart := false }
def JournalTwiceSaid : Prop := journalTwiceRow.holds Try.pinned (OpenSpec.ofChange journalTwiceSpec)

/-- ITS FALSE NEIGHBOUR: 'it returns false'. Refute it at one input. -/
def journalTwiceWrong : ChangeSpec := { name := "journalTwice", fn := fun _ => fun
  | [d1, d2, d3] => { results := [.lit (.bool false)], args := [d1, d2, d3] }
  | _ => none }
def JournalTwiceWrongFalsely : Prop := journalTwiceRow.holds Try.pinned (OpenSpec.ofChange journalTwiceWrong)

/- THE SECOND FORM. 'bulk': how many values and letters a reading holds, each counted each time it is reached (what is shared counts as often as it is met; a slice's spare places count too). A statement '..UptoSaid' is the law's where the arguments, and the package variables that the reading takes, are together of bulk at most 1048576: NARROWER than '..Said'. Prove '..Said' where nothing that the law and all that it calls make is longer than what came in: it says more and counts as full. Else prove '..UptoSaid'. A law counts once. -/
mutual
def uptoBulk {H : Type} : DataW H → Nat
  | .lit (.string bytes) => bytes.length + 1
  | .lit _ => 1
  | .nil => 1
  | .ptr d => uptoBulk d + 1
  | .slice elems spare => uptoBulkAll elems + uptoBulkAll spare + 1
  | .agg parts => uptoBulkAll parts + 1
  | .iface _ d => uptoBulk d + 1
  | .map entries => uptoBulkEntries entries + 1
  | .held _ => 1
def uptoBulkAll {H : Type} : List (DataW H) → Nat
  | [] => 0
  | d :: r => uptoBulk d + uptoBulkAll r
def uptoBulkEntries {H : Type} : List (Lit × DataW H) → Nat
  | [] => 0
  | x :: r => uptoBulkEntry x + uptoBulkEntries r
def uptoBulkEntry {H : Type} : Lit × DataW H → Nat
  | (.string bytes, d) => bytes.length + uptoBulk d + 1
  | (_, d) => uptoBulk d + 1
 end
def uptoSmall : (H : Type) → List (DataW H) → Bool := fun _ ds => decide (uptoBulkAll ds ≤ 1048576)
def OpenSpec.upto (s : _root_.Go.ChangeSpec) : _root_.Go.OpenSpec := { _root_.Go.OpenSpec.ofChange s with cond := some uptoSmall }

/-- 'nostrolaw05.DiskDoes', WHERE WHAT IT READS IS OF BULK AT MOST 1048576: true; the input reads as it did. -/
def diskDoesUptoRow : OpenClaim := { program := "ytdphnhgogokidaa", sum := "92585b1f7c7332ba9b5f9865f810d0cfb998cc07e5359a90d03dfc25b6ba0bcb", func := "nostro/nostrolaw05.DiskDoes", spec := "diskDoes", unfollowed := true, recurses := true, apart := false, narrowed := true }
def DiskDoesUptoSaid : Prop := diskDoesUptoRow.holds Try.pinned (OpenSpec.upto diskDoesSpec)

/-- 'nostrolaw05.DiskSure', WHERE WHAT IT READS IS OF BULK AT MOST 1048576: true; the input reads as it did. -/
def diskSureUptoRow : OpenClaim := { program := "ytdphnhgogokidaa", sum := "92585b1f7c7332ba9b5f9865f810d0cfb998cc07e5359a90d03dfc25b6ba0bcb", func := "nostro/nostrolaw05.DiskSure", spec := "diskSure", unfollowed := true, recurses := true, apart := false, narrowed := true }
def DiskSureUptoSaid : Prop := diskSureUptoRow.holds Try.pinned (OpenSpec.upto diskSureSpec)

/-- 'nostrolaw05.DiskMoves', WHERE WHAT IT READS IS OF BULK AT MOST 1048576: true; the input reads as it did. -/
def diskMovesUptoRow : OpenClaim := { program := "ytdphnhgogokidaa", sum := "92585b1f7c7332ba9b5f9865f810d0cfb998cc07e5359a90d03dfc25b6ba0bcb", func := "nostro/nostrolaw05.DiskMoves", spec := "diskMoves", unfollowed := true, recurses := true, apart := false, narrowed := true }
def DiskMovesUptoSaid : Prop := diskMovesUptoRow.holds Try.pinned (OpenSpec.upto diskMovesSpec)

/-- 'nostrolaw04.FrameTells', WHERE WHAT IT READS IS OF BULK AT MOST 1048576: true; the input reads as it did. -/
def frameTellsUptoRow : OpenClaim := { program := "ytdphnhgogokidaa", sum := "92585b1f7c7332ba9b5f9865f810d0cfb998cc07e5359a90d03dfc25b6ba0bcb", func := "nostro/nostrolaw04.FrameTells", spec := "frameTells", inPlace := ["internal/abi.NoEscape"], apart := false, narrowed := true }
def FrameTellsUptoSaid : Prop := frameTellsUptoRow.holds Try.pinned (OpenSpec.upto frameTellsSpec)

/-- 'nostrolaw04.FrameLays', WHERE WHAT IT READS IS OF BULK AT MOST 1048576: true; the input reads as it did. -/
def frameLaysUptoRow : OpenClaim := { program := "ytdphnhgogokidaa", sum := "92585b1f7c7332ba9b5f9865f810d0cfb998cc07e5359a90d03dfc25b6ba0bcb", func := "nostro/nostrolaw04.FrameLays", spec := "frameLays", inPlace := ["internal/abi.NoEscape"], apart := false, narrowed := true }
def FrameLaysUptoSaid : Prop := frameLaysUptoRow.holds Try.pinned (OpenSpec.upto frameLaysSpec)

/-- 'nostrolaw04.FrameBack', WHERE WHAT IT READS IS OF BULK AT MOST 1048576: true; the input reads as it did. -/
def frameBackUptoRow : OpenClaim := { program := "ytdphnhgogokidaa", sum := "92585b1f7c7332ba9b5f9865f810d0cfb998cc07e5359a90d03dfc25b6ba0bcb", func := "nostro/nostrolaw04.FrameBack", spec := "frameBack", inPlace := ["internal/abi.NoEscape"], apart := false, narrowed := true }
def FrameBackUptoSaid : Prop := frameBackUptoRow.holds Try.pinned (OpenSpec.upto frameBackSpec)

/-- 'nostrolaw04.FrameTurned', WHERE WHAT IT READS IS OF BULK AT MOST 1048576: true; the input reads as it did. -/
def frameTurnedUptoRow : OpenClaim := { program := "ytdphnhgogokidaa", sum := "92585b1f7c7332ba9b5f9865f810d0cfb998cc07e5359a90d03dfc25b6ba0bcb", func := "nostro/nostrolaw04.FrameTurned", spec := "frameTurned", inPlace := ["internal/abi.NoEscape"], apart := false, narrowed := true }
def FrameTurnedUptoSaid : Prop := frameTurnedUptoRow.holds Try.pinned (OpenSpec.upto frameTurnedSpec)

/-- 'nostrolaw04.FrameAdds', WHERE WHAT IT READS IS OF BULK AT MOST 1048576: true; the input reads as it did. -/
def frameAddsUptoRow : OpenClaim := { program := "ytdphnhgogokidaa", sum := "92585b1f7c7332ba9b5f9865f810d0cfb998cc07e5359a90d03dfc25b6ba0bcb", func := "nostro/nostrolaw04.FrameAdds", spec := "frameAdds", inPlace := ["internal/abi.NoEscape"], apart := false, narrowed := true }
def FrameAddsUptoSaid : Prop := frameAddsUptoRow.holds Try.pinned (OpenSpec.upto frameAddsSpec)

/-- 'nostrolaw06.JournalOnce', WHERE WHAT IT READS IS OF BULK AT MOST 1048576: true; the input reads as it did. -/
def journalOnceUptoRow : OpenClaim := { program := "ytdphnhgogokidaa", sum := "92585b1f7c7332ba9b5f9865f810d0cfb998cc07e5359a90d03dfc25b6ba0bcb", func := "nostro/nostrolaw06.JournalOnce", spec := "journalOnce", unfollowed := true, recurses := true, apart := false, narrowed := true }
def JournalOnceUptoSaid : Prop := journalOnceUptoRow.holds Try.pinned (OpenSpec.upto journalOnceSpec)

/-- 'nostrolaw06.JournalDoes', WHERE WHAT IT READS IS OF BULK AT MOST 1048576: true; the input reads as it did. -/
def journalDoesUptoRow : OpenClaim := { program := "ytdphnhgogokidaa", sum := "92585b1f7c7332ba9b5f9865f810d0cfb998cc07e5359a90d03dfc25b6ba0bcb", func := "nostro/nostrolaw06.JournalDoes", spec := "journalDoes", unfollowed := true, recurses := true, apart := false, narrowed := true }
def JournalDoesUptoSaid : Prop := journalDoesUptoRow.holds Try.pinned (OpenSpec.upto journalDoesSpec)

/-- 'nostrolaw06.JournalSure', WHERE WHAT IT READS IS OF BULK AT MOST 1048576: true; the input reads as it did. -/
def journalSureUptoRow : OpenClaim := { program := "ytdphnhgogokidaa", sum := "92585b1f7c7332ba9b5f9865f810d0cfb998cc07e5359a90d03dfc25b6ba0bcb", func := "nostro/nostrolaw06.JournalSure", spec := "journalSure", unfollowed := true, recurses := true, apart := false, narrowed := true }
def JournalSureUptoSaid : Prop := journalSureUptoRow.holds Try.pinned (OpenSpec.upto journalSureSpec)

/-- 'nostrolaw06.JournalTwice', WHERE WHAT IT READS IS OF BULK AT MOST 1048576: true; the input reads as it did. -/
def journalTwiceUptoRow : OpenClaim := { program := "ytdphnhgogokidaa", sum := "92585b1f7c7332ba9b5f9865f810d0cfb998cc07e5359a90d03dfc25b6ba0bcb", func := "nostro/nostrolaw06.JournalTwice", spec := "journalTwice", unfollowed := true, recurses := true, apart := false, narrowed := true }
def JournalTwiceUptoSaid : Prop := journalTwiceUptoRow.holds Try.pinned (OpenSpec.upto journalTwiceSpec)

end Rows
end Go.Proofs.Ytdphnhgogokidaa
