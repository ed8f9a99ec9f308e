/-
  No cell of these rows narrows 'for every input' (looked for: loops, veiled, ifaces, maps, wideKeys, modest, calm, conditions, laid).
  DERIVED. THE GIVEN ROWS OF THIS SEAT. 14 by the template 'for every input the law returns true; each argument reads behind the call as it read before'; 0 by the template 'total and deterministic' (their statements: YtddaiihhhajieaaTotals.lean).
  GIVEN WITH THE SEED: the statements are not yours to turn. If you find one false, say at which input.
  Laid BY PROGRAM, IN A SANDBOX (cutbox-rows.mjs): the forced cells as the released guide's own fill.sh prints them over the translation 1f02223c8eaadb50… (all of the seat's roots in one cut). By AI agents, Wed Nov 11 2026. No macro, syntax, notation, axiom, sorry.
-/
import Derived.Test.YtddaiihhhajieaaChecked
import GoSem.Claim
import GoSem.ClaimJoined
import GoSem.ClaimMapViews
import Derived.JoinedTies
import Derived.KernelRfl
namespace Go.Proofs.Ytddaiihhhajieaa
/- THE CELL 'sum', in the pinned program and in every row, IS THE sha256 OF THE DUMP (.gsa) THAT YtddaiihhhajieaaProg.lean LOADS. Nothing in Lean hashes anything: it is a label: what it is worth is what the hold of that sum in a sandbox is worth. -/
noncomputable def Try.pinned : Pinned := { name := "ytddaiihhhajieaa", sum := "1f02223c8eaadb5055c833072204e96682ab150a4e3392903b9dfd2f51326ba7", checked := Try.checked }
namespace Rows
def none {H : Type} : Left H := { results := [], args := [] }

/-- 'carlinglaw18.DiskFirst': WHATEVER THE INPUT: true; the input reads as it did. -/
def diskFirstSpec : ChangeSpec := { name := "diskFirst", fn := fun _ => fun
  | [d1, d2, d3] => { results := [.lit (.bool true)], args := [d1, d2, d3] }
  | _ => none }
def diskFirstRow : OpenClaim := { program := "ytddaiihhhajieaa", sum := "1f02223c8eaadb5055c833072204e96682ab150a4e3392903b9dfd2f51326ba7", func := "carling/carlinglaw18.DiskFirst", spec := "diskFirst", inPlace := ["internal/abi.NoEscape", "internal/bytealg.MakeNoZero"], apart := false }
def DiskFirstSaid : Prop := diskFirstRow.holds Try.pinned (OpenSpec.ofChange diskFirstSpec)

/-- ITS FALSE NEIGHBOUR: 'it returns false'. Refute it at one input. -/
def diskFirstWrong : ChangeSpec := { name := "diskFirst", fn := fun _ => fun
  | [d1, d2, d3] => { results := [.lit (.bool false)], args := [d1, d2, d3] }
  | _ => none }
def DiskFirstWrongFalsely : Prop := diskFirstRow.holds Try.pinned (OpenSpec.ofChange diskFirstWrong)

/-- 'carlinglaw18.DiskFresh': WHATEVER THE INPUT: true; the input reads as it did. -/
def diskFreshSpec : ChangeSpec := { name := "diskFresh", fn := fun _ => fun
  | [d1, d2, d3] => { results := [.lit (.bool true)], args := [d1, d2, d3] }
  | _ => none }
def diskFreshRow : OpenClaim := { program := "ytddaiihhhajieaa", sum := "1f02223c8eaadb5055c833072204e96682ab150a4e3392903b9dfd2f51326ba7", func := "carling/carlinglaw18.DiskFresh", spec := "diskFresh", inPlace := ["internal/abi.NoEscape", "internal/bytealg.MakeNoZero"], apart := false }
def DiskFreshSaid : Prop := diskFreshRow.holds Try.pinned (OpenSpec.ofChange diskFreshSpec)

/-- ITS FALSE NEIGHBOUR: 'it returns false'. Refute it at one input. -/
def diskFreshWrong : ChangeSpec := { name := "diskFresh", fn := fun _ => fun
  | [d1, d2, d3] => { results := [.lit (.bool false)], args := [d1, d2, d3] }
  | _ => none }
def DiskFreshWrongFalsely : Prop := diskFreshRow.holds Try.pinned (OpenSpec.ofChange diskFreshWrong)

/-- 'carlinglaw18.DiskLasts': WHATEVER THE INPUT: true; the input reads as it did. -/
def diskLastsSpec : ChangeSpec := { name := "diskLasts", fn := fun _ => fun
  | [d1, d2, d3] => { results := [.lit (.bool true)], args := [d1, d2, d3] }
  | _ => none }
def diskLastsRow : OpenClaim := { program := "ytddaiihhhajieaa", sum := "1f02223c8eaadb5055c833072204e96682ab150a4e3392903b9dfd2f51326ba7", func := "carling/carlinglaw18.DiskLasts", spec := "diskLasts", inPlace := ["internal/abi.NoEscape", "internal/bytealg.MakeNoZero"], apart := false }
def DiskLastsSaid : Prop := diskLastsRow.holds Try.pinned (OpenSpec.ofChange diskLastsSpec)

/-- ITS FALSE NEIGHBOUR: 'it returns false'. Refute it at one input. -/
def diskLastsWrong : ChangeSpec := { name := "diskLasts", fn := fun _ => fun
  | [d1, d2, d3] => { results := [.lit (.bool false)], args := [d1, d2, d3] }
  | _ => none }
def DiskLastsWrongFalsely : Prop := diskLastsRow.holds Try.pinned (OpenSpec.ofChange diskLastsWrong)

/-- 'carlinglaw18.DiskArmed': WHATEVER THE INPUT: true; the input reads as it did. -/
def diskArmedSpec : ChangeSpec := { name := "diskArmed", fn := fun _ => fun
  | [d1, d2] => { results := [.lit (.bool true)], args := [d1, d2] }
  | _ => none }
def diskArmedRow : OpenClaim := { program := "ytddaiihhhajieaa", sum := "1f02223c8eaadb5055c833072204e96682ab150a4e3392903b9dfd2f51326ba7", func := "carling/carlinglaw18.DiskArmed", spec := "diskArmed", inPlace := ["internal/abi.NoEscape", "internal/bytealg.MakeNoZero"], apart := false }
def DiskArmedSaid : Prop := diskArmedRow.holds Try.pinned (OpenSpec.ofChange diskArmedSpec)

/-- ITS FALSE NEIGHBOUR: 'it returns false'. Refute it at one input. -/
def diskArmedWrong : ChangeSpec := { name := "diskArmed", fn := fun _ => fun
  | [d1, d2] => { results := [.lit (.bool false)], args := [d1, d2] }
  | _ => none }
def DiskArmedWrongFalsely : Prop := diskArmedRow.holds Try.pinned (OpenSpec.ofChange diskArmedWrong)

/-- 'carlinglaw18.DiskPlays': WHATEVER THE INPUT: true; the input reads as it did. -/
def diskPlaysSpec : ChangeSpec := { name := "diskPlays", fn := fun _ => fun
  | [d] => { results := [.lit (.bool true)], args := [d] }
  | _ => none }
def diskPlaysRow : OpenClaim := { program := "ytddaiihhhajieaa", sum := "1f02223c8eaadb5055c833072204e96682ab150a4e3392903b9dfd2f51326ba7", func := "carling/carlinglaw18.DiskPlays", spec := "diskPlays", inPlace := ["internal/abi.NoEscape", "internal/bytealg.MakeNoZero"], apart := false }
def DiskPlaysSaid : Prop := diskPlaysRow.holds Try.pinned (OpenSpec.ofChange diskPlaysSpec)

/-- ITS FALSE NEIGHBOUR: 'it returns false'. Refute it at one input. -/
def diskPlaysWrong : ChangeSpec := { name := "diskPlays", fn := fun _ => fun
  | [d] => { results := [.lit (.bool false)], args := [d] }
  | _ => none }
def DiskPlaysWrongFalsely : Prop := diskPlaysRow.holds Try.pinned (OpenSpec.ofChange diskPlaysWrong)

/-- 'carlinglaw19.LogAgain': WHATEVER THE INPUT: true; the input reads as it did. -/
def logAgainSpec : ChangeSpec := { name := "logAgain", fn := fun _ => fun
  | [d1, d2] => { results := [.lit (.bool true)], args := [d1, d2] }
  | _ => none }
def logAgainRow : OpenClaim := { program := "ytddaiihhhajieaa", sum := "1f02223c8eaadb5055c833072204e96682ab150a4e3392903b9dfd2f51326ba7", func := "carling/carlinglaw19.LogAgain", spec := "logAgain", inPlace := ["internal/abi.NoEscape", "internal/bytealg.MakeNoZero"], apart := false }
def LogAgainSaid : Prop := logAgainRow.holds Try.pinned (OpenSpec.ofChange logAgainSpec)

/-- ITS FALSE NEIGHBOUR: 'it returns false'. Refute it at one input. -/
def logAgainWrong : ChangeSpec := { name := "logAgain", fn := fun _ => fun
  | [d1, d2] => { results := [.lit (.bool false)], args := [d1, d2] }
  | _ => none }
def LogAgainWrongFalsely : Prop := logAgainRow.holds Try.pinned (OpenSpec.ofChange logAgainWrong)

/-- 'carlinglaw19.LogRoom': WHATEVER THE INPUT: true; the input reads as it did. -/
def logRoomSpec : ChangeSpec := { name := "logRoom", fn := fun _ => fun
  | [d1, d2] => { results := [.lit (.bool true)], args := [d1, d2] }
  | _ => none }
def logRoomRow : OpenClaim := { program := "ytddaiihhhajieaa", sum := "1f02223c8eaadb5055c833072204e96682ab150a4e3392903b9dfd2f51326ba7", func := "carling/carlinglaw19.LogRoom", spec := "logRoom", inPlace := ["internal/abi.NoEscape", "internal/bytealg.MakeNoZero"], apart := false }
def LogRoomSaid : Prop := logRoomRow.holds Try.pinned (OpenSpec.ofChange logRoomSpec)

/-- ITS FALSE NEIGHBOUR: 'it returns false'. Refute it at one input. -/
def logRoomWrong : ChangeSpec := { name := "logRoom", fn := fun _ => fun
  | [d1, d2] => { results := [.lit (.bool false)], args := [d1, d2] }
  | _ => none }
def LogRoomWrongFalsely : Prop := logRoomRow.holds Try.pinned (OpenSpec.ofChange logRoomWrong)

/-- 'carlinglaw19.LogRenews': WHATEVER THE INPUT: true; the input reads as it did. -/
def logRenewsSpec : ChangeSpec := { name := "logRenews", fn := fun _ => fun
  | [d1, d2] => { results := [.lit (.bool true)], args := [d1, d2] }
  | _ => none }
def logRenewsRow : OpenClaim := { program := "ytddaiihhhajieaa", sum := "1f02223c8eaadb5055c833072204e96682ab150a4e3392903b9dfd2f51326ba7", func := "carling/carlinglaw19.LogRenews", spec := "logRenews", inPlace := ["internal/abi.NoEscape", "internal/bytealg.MakeNoZero"], apart := false }
def LogRenewsSaid : Prop := logRenewsRow.holds Try.pinned (OpenSpec.ofChange logRenewsSpec)

/-- ITS FALSE NEIGHBOUR: 'it returns false'. Refute it at one input. -/
def logRenewsWrong : ChangeSpec := { name := "logRenews", fn := fun _ => fun
  | [d1, d2] => { results := [.lit (.bool false)], args := [d1, d2] }
  | _ => none }
def LogRenewsWrongFalsely : Prop := logRenewsRow.holds Try.pinned (OpenSpec.ofChange logRenewsWrong)

/-- 'carlinglaw19.LogPlays': WHATEVER THE INPUT: true; the input reads as it did. -/
def logPlaysSpec : ChangeSpec := { name := "logPlays", fn := fun _ => fun
  | [d] => { results := [.lit (.bool true)], args := [d] }
  | _ => none }
def logPlaysRow : OpenClaim := { program := "ytddaiihhhajieaa", sum := "1f02223c8eaadb5055c833072204e96682ab150a4e3392903b9dfd2f51326ba7", func := "carling/carlinglaw19.LogPlays", spec := "logPlays", inPlace := ["internal/abi.NoEscape", "internal/bytealg.MakeNoZero"], apart := false }
def LogPlaysSaid : Prop := logPlaysRow.holds Try.pinned (OpenSpec.ofChange logPlaysSpec)

/-- ITS FALSE NEIGHBOUR: 'it returns false'. Refute it at one input. -/
def logPlaysWrong : ChangeSpec := { name := "logPlays", fn := fun _ => fun
  | [d] => { results := [.lit (.bool false)], args := [d] }
  | _ => none }
def LogPlaysWrongFalsely : Prop := logPlaysRow.holds Try.pinned (OpenSpec.ofChange logPlaysWrong)

/-- 'carlinglaw19.LogLasts': WHATEVER THE INPUT: true; the input reads as it did. -/
def logLastsSpec : ChangeSpec := { name := "logLasts", fn := fun _ => fun
  | [d1, d2, d3] => { results := [.lit (.bool true)], args := [d1, d2, d3] }
  | _ => none }
def logLastsRow : OpenClaim := { program := "ytddaiihhhajieaa", sum := "1f02223c8eaadb5055c833072204e96682ab150a4e3392903b9dfd2f51326ba7", func := "carling/carlinglaw19.LogLasts", spec := "logLasts", inPlace := ["internal/abi.NoEscape", "internal/bytealg.MakeNoZero"], apart := false }
def LogLastsSaid : Prop := logLastsRow.holds Try.pinned (OpenSpec.ofChange logLastsSpec)

/-- ITS FALSE NEIGHBOUR: 'it returns false'. Refute it at one input. -/
def logLastsWrong : ChangeSpec := { name := "logLasts", fn := fun _ => fun
  | [d1, d2, d3] => { results := [.lit (.bool false)], args := [d1, d2, d3] }
  | _ => none }
def LogLastsWrongFalsely : Prop := logLastsRow.holds Try.pinned (OpenSpec.ofChange logLastsWrong)

/-- 'carlinglaw20.CacheKeys': WHATEVER THE INPUT: true; the input reads as it did. -/
def cacheKeysSpec : ChangeSpec := { name := "cacheKeys", fn := fun _ => fun
  | [d1, d2, d3] => { results := [.lit (.bool true)], args := [d1, d2, d3] }
  | _ => none }
def cacheKeysRow : OpenClaim := { program := "ytddaiihhhajieaa", sum := "1f02223c8eaadb5055c833072204e96682ab150a4e3392903b9dfd2f51326ba7", func := "carling/carlinglaw20.CacheKeys", spec := "cacheKeys", inPlace := ["internal/abi.NoEscape", "internal/bytealg.MakeNoZero"], recurses := true, apart := false }
def CacheKeysSaid : Prop := cacheKeysRow.holds Try.pinned (OpenSpec.ofChange cacheKeysSpec)

/-- ITS FALSE NEIGHBOUR: 'it returns false'. Refute it at one input. -/
def cacheKeysWrong : ChangeSpec := { name := "cacheKeys", fn := fun _ => fun
  | [d1, d2, d3] => { results := [.lit (.bool false)], args := [d1, d2, d3] }
  | _ => none }
def CacheKeysWrongFalsely : Prop := cacheKeysRow.holds Try.pinned (OpenSpec.ofChange cacheKeysWrong)

/-- 'carlinglaw20.CacheFull': WHATEVER THE INPUT: true; the input reads as it did. -/
def cacheFullSpec : ChangeSpec := { name := "cacheFull", fn := fun _ => fun
  | [d1, d2] => { results := [.lit (.bool true)], args := [d1, d2] }
  | _ => none }
def cacheFullRow : OpenClaim := { program := "ytddaiihhhajieaa", sum := "1f02223c8eaadb5055c833072204e96682ab150a4e3392903b9dfd2f51326ba7", func := "carling/carlinglaw20.CacheFull", spec := "cacheFull", inPlace := ["internal/abi.NoEscape", "internal/bytealg.MakeNoZero"], recurses := true, apart := false }
def CacheFullSaid : Prop := cacheFullRow.holds Try.pinned (OpenSpec.ofChange cacheFullSpec)

/-- ITS FALSE NEIGHBOUR: 'it returns false'. Refute it at one input. -/
def cacheFullWrong : ChangeSpec := { name := "cacheFull", fn := fun _ => fun
  | [d1, d2] => { results := [.lit (.bool false)], args := [d1, d2] }
  | _ => none }
def CacheFullWrongFalsely : Prop := cacheFullRow.holds Try.pinned (OpenSpec.ofChange cacheFullWrong)

/-- 'carlinglaw20.CacheTwice': WHATEVER THE INPUT: true; the input reads as it did. -/
def cacheTwiceSpec : ChangeSpec := { name := "cacheTwice", fn := fun _ => fun
  | [d1, d2] => { results := [.lit (.bool true)], args := [d1, d2] }
  | _ => none }
def cacheTwiceRow : OpenClaim := { program := "ytddaiihhhajieaa", sum := "1f02223c8eaadb5055c833072204e96682ab150a4e3392903b9dfd2f51326ba7", func := "carling/carlinglaw20.CacheTwice", spec := "cacheTwice", inPlace := ["internal/abi.NoEscape", "internal/bytealg.MakeNoZero"], recurses := true, apart := false }
def CacheTwiceSaid : Prop := cacheTwiceRow.holds Try.pinned (OpenSpec.ofChange cacheTwiceSpec)

/-- ITS FALSE NEIGHBOUR: 'it returns false'. Refute it at one input. -/
def cacheTwiceWrong : ChangeSpec := { name := "cacheTwice", fn := fun _ => fun
  | [d1, d2] => { results := [.lit (.bool false)], args := [d1, d2] }
  | _ => none }
def CacheTwiceWrongFalsely : Prop := cacheTwiceRow.holds Try.pinned (OpenSpec.ofChange cacheTwiceWrong)

/-- 'carlinglaw20.CacheLasts': WHATEVER THE INPUT: true; the input reads as it did. -/
def cacheLastsSpec : ChangeSpec := { name := "cacheLasts", fn := fun _ => fun
  | [d1, d2, d3] => { results := [.lit (.bool true)], args := [d1, d2, d3] }
  | _ => none }
def cacheLastsRow : OpenClaim := { program := "ytddaiihhhajieaa", sum := "1f02223c8eaadb5055c833072204e96682ab150a4e3392903b9dfd2f51326ba7", func := "carling/carlinglaw20.CacheLasts", spec := "cacheLasts", inPlace := ["internal/abi.NoEscape", "internal/bytealg.MakeNoZero"], recurses := true, apart := false }
def CacheLastsSaid : Prop := cacheLastsRow.holds Try.pinned (OpenSpec.ofChange cacheLastsSpec)

/-- ITS FALSE NEIGHBOUR: 'it returns false'. Refute it at one input. -/
def cacheLastsWrong : ChangeSpec := { name := "cacheLasts", fn := fun _ => fun
  | [d1, d2, d3] => { results := [.lit (.bool false)], args := [d1, d2, d3] }
  | _ => none }
def CacheLastsWrongFalsely : Prop := cacheLastsRow.holds Try.pinned (OpenSpec.ofChange cacheLastsWrong)

/- THE SECOND FORM. 'bulk': how many values and letters a reading holds, each counted each time it is reached (what is shared counts as often as it is met; a slice's spare places count too). A statement '..UptoSaid' is the law's where the arguments, and the package variables that the reading takes, are together of bulk at most 1048576: NARROWER than '..Said'. Prove '..Said' where nothing that the law and all that it calls make is longer than what came in: it says more and counts as full. Else prove '..UptoSaid'. A law counts once. -/
mutual
def uptoBulk {H : Type} : DataW H → Nat
  | .lit (.string bytes) => bytes.length + 1
  | .lit _ => 1
  | .nil => 1
  | .ptr d => uptoBulk d + 1
  | .slice elems spare => uptoBulkAll elems + uptoBulkAll spare + 1
  | .agg parts => uptoBulkAll parts + 1
  | .iface _ d => uptoBulk d + 1
  | .map entries => uptoBulkEntries entries + 1
  | .held _ => 1
def uptoBulkAll {H : Type} : List (DataW H) → Nat
  | [] => 0
  | d :: r => uptoBulk d + uptoBulkAll r
def uptoBulkEntries {H : Type} : List (Lit × DataW H) → Nat
  | [] => 0
  | x :: r => uptoBulkEntry x + uptoBulkEntries r
def uptoBulkEntry {H : Type} : Lit × DataW H → Nat
  | (.string bytes, d) => bytes.length + uptoBulk d + 1
  | (_, d) => uptoBulk d + 1
 end
def uptoSmall : (H : Type) → List (DataW H) → Bool := fun _ ds => decide (uptoBulkAll ds ≤ 1048576)
def OpenSpec.upto (s : _root_.Go.ChangeSpec) : _root_.Go.OpenSpec := { _root_.Go.OpenSpec.ofChange s with cond := some uptoSmall }

/-- 'carlinglaw18.DiskFirst', WHERE WHAT IT READS IS OF BULK AT MOST 1048576: true; the input reads as it did. -/
def diskFirstUptoRow : OpenClaim := { program := "ytddaiihhhajieaa", sum := "1f02223c8eaadb5055c833072204e96682ab150a4e3392903b9dfd2f51326ba7", func := "carling/carlinglaw18.DiskFirst", spec := "diskFirst", inPlace := ["internal/abi.NoEscape", "internal/bytealg.MakeNoZero"], apart := false, narrowed := true }
def DiskFirstUptoSaid : Prop := diskFirstUptoRow.holds Try.pinned (OpenSpec.upto diskFirstSpec)

/-- 'carlinglaw18.DiskFresh', WHERE WHAT IT READS IS OF BULK AT MOST 1048576: true; the input reads as it did. -/
def diskFreshUptoRow : OpenClaim := { program := "ytddaiihhhajieaa", sum := "1f02223c8eaadb5055c833072204e96682ab150a4e3392903b9dfd2f51326ba7", func := "carling/carlinglaw18.DiskFresh", spec := "diskFresh", inPlace := ["internal/abi.NoEscape", "internal/bytealg.MakeNoZero"], apart := false, narrowed := true }
def DiskFreshUptoSaid : Prop := diskFreshUptoRow.holds Try.pinned (OpenSpec.upto diskFreshSpec)

/-- 'carlinglaw18.DiskLasts', WHERE WHAT IT READS IS OF BULK AT MOST 1048576: true; the input reads as it did. -/
def diskLastsUptoRow : OpenClaim := { program := "ytddaiihhhajieaa", sum := "1f02223c8eaadb5055c833072204e96682ab150a4e3392903b9dfd2f51326ba7", func := "carling/carlinglaw18.DiskLasts", spec := "diskLasts", inPlace := ["internal/abi.NoEscape", "internal/bytealg.MakeNoZero"], apart := false, narrowed := true }
def DiskLastsUptoSaid : Prop := diskLastsUptoRow.holds Try.pinned (OpenSpec.upto diskLastsSpec)

/-- 'carlinglaw18.DiskArmed', WHERE WHAT IT READS IS OF BULK AT MOST 1048576: true; the input reads as it did. -/
def diskArmedUptoRow : OpenClaim := { program := "ytddaiihhhajieaa", sum := "1f02223c8eaadb5055c833072204e96682ab150a4e3392903b9dfd2f51326ba7", func := "carling/carlinglaw18.DiskArmed", spec := "diskArmed", inPlace := ["internal/abi.NoEscape", "internal/bytealg.MakeNoZero"], apart := false, narrowed := true }
def DiskArmedUptoSaid : Prop := diskArmedUptoRow.holds Try.pinned (OpenSpec.upto diskArmedSpec)

/-- 'carlinglaw18.DiskPlays', WHERE WHAT IT READS IS OF BULK AT MOST 1048576: true; the input reads as it did. -/
def diskPlaysUptoRow : OpenClaim := { program := "ytddaiihhhajieaa", sum := "1f02223c8eaadb5055c833072204e96682ab150a4e3392903b9dfd2f51326ba7", func := "carling/carlinglaw18.DiskPlays", spec := "diskPlays", inPlace := ["internal/abi.NoEscape", "internal/bytealg.MakeNoZero"], apart := false, narrowed := true }
def DiskPlaysUptoSaid : Prop := diskPlaysUptoRow.holds Try.pinned (OpenSpec.upto diskPlaysSpec)

/-- 'carlinglaw19.LogAgain', WHERE WHAT IT READS IS OF BULK AT MOST 1048576: true; the input reads as it did. -/
def logAgainUptoRow : OpenClaim := { program := "ytddaiihhhajieaa", sum := "1f02223c8eaadb5055c833072204e96682ab150a4e3392903b9dfd2f51326ba7", func := "carling/carlinglaw19.LogAgain", spec := "logAgain", inPlace := ["internal/abi.NoEscape", "internal/bytealg.MakeNoZero"], apart := false, narrowed := true }
def LogAgainUptoSaid : Prop := logAgainUptoRow.holds Try.pinned (OpenSpec.upto logAgainSpec)

/-- 'carlinglaw19.LogRoom', WHERE WHAT IT READS IS OF BULK AT MOST 1048576: true; the input reads as it did. -/
def logRoomUptoRow : OpenClaim := { program := "ytddaiihhhajieaa", sum := "1f02223c8eaadb5055c833072204e96682ab150a4e3392903b9dfd2f51326ba7", func := "carling/carlinglaw19.LogRoom", spec := "logRoom", inPlace := ["internal/abi.NoEscape", "internal/bytealg.MakeNoZero"], apart := false, narrowed := true }
def LogRoomUptoSaid : Prop := logRoomUptoRow.holds Try.pinned (OpenSpec.upto logRoomSpec)

/-- 'carlinglaw19.LogRenews', WHERE WHAT IT READS IS OF BULK AT MOST 1048576: true; the input reads as it did. -/
def logRenewsUptoRow : OpenClaim := { program := "ytddaiihhhajieaa", sum := "1f02223c8eaadb5055c833072204e96682ab150a4e3392903b9dfd2f51326ba7", func := "carling/carlinglaw19.LogRenews", spec := "logRenews", inPlace := ["internal/abi.NoEscape", "internal/bytealg.MakeNoZero"], apart := false, narrowed := true }
def LogRenewsUptoSaid : Prop := logRenewsUptoRow.holds Try.pinned (OpenSpec.upto logRenewsSpec)

/-- 'carlinglaw19.LogPlays', WHERE WHAT IT READS IS OF BULK AT MOST 1048576: true; the input reads as it did. -/
def logPlaysUptoRow : OpenClaim := { program := "ytddaiihhhajieaa", sum := "1f02223c8eaadb5055c833072204e96682ab150a4e3392903b9dfd2f51326ba7", func := "carling/carlinglaw19.LogPlays", spec := "logPlays", inPlace := ["internal/abi.NoEscape", "internal/bytealg.MakeNoZero"], apart := false, narrowed := true }
def LogPlaysUptoSaid : Prop := logPlaysUptoRow.holds Try.pinned (OpenSpec.upto logPlaysSpec)

/-- 'carlinglaw19.LogLasts', WHERE WHAT IT READS IS OF BULK AT MOST 1048576: true; the input reads as it did. -/
def logLastsUptoRow : OpenClaim := { program := "ytddaiihhhajieaa", sum := "1f02223c8eaadb5055c833072204e96682ab150a4e3392903b9dfd2f51326ba7", func := "carling/carlinglaw19.LogLasts", spec := "logLasts", inPlace := ["internal/abi.NoEscape", "internal/bytealg.MakeNoZero"], apart := false, narrowed := true }
def LogLastsUptoSaid : Prop := logLastsUptoRow.holds Try.pinned (OpenSpec.upto logLastsSpec)

/-- 'carlinglaw20.CacheKeys', WHERE WHAT IT READS IS OF BULK AT MOST 1048576: true; the input reads as it did. -/
def cacheKeysUptoRow : OpenClaim := { program := "ytddaiihhhajieaa", sum := "1f02223c8eaadb5055c833072204e96682ab150a4e3392903b9dfd2f51326ba7", func := "carling/carlinglaw20.CacheKeys", spec := "cacheKeys", inPlace := ["internal/abi.NoEscape", "internal/bytealg.MakeNoZero"], recurses := true, apart := false, narrowed := true }
def CacheKeysUptoSaid : Prop := cacheKeysUptoRow.holds Try.pinned (OpenSpec.upto cacheKeysSpec)

/-- 'carlinglaw20.CacheFull', WHERE WHAT IT READS IS OF BULK AT MOST 1048576: true; the input reads as it did. -/
def cacheFullUptoRow : OpenClaim := { program := "ytddaiihhhajieaa", sum := "1f02223c8eaadb5055c833072204e96682ab150a4e3392903b9dfd2f51326ba7", func := "carling/carlinglaw20.CacheFull", spec := "cacheFull", inPlace := ["internal/abi.NoEscape", "internal/bytealg.MakeNoZero"], recurses := true, apart := false, narrowed := true }
def CacheFullUptoSaid : Prop := cacheFullUptoRow.holds Try.pinned (OpenSpec.upto cacheFullSpec)

/-- 'carlinglaw20.CacheTwice', WHERE WHAT IT READS IS OF BULK AT MOST 1048576: true; the input reads as it did. -/
def cacheTwiceUptoRow : OpenClaim := { program := "ytddaiihhhajieaa", sum := "1f02223c8eaadb5055c833072204e96682ab150a4e3392903b9dfd2f51326ba7", func := "carling/carlinglaw20.CacheTwice", spec := "cacheTwice", inPlace := ["internal/abi.NoEscape", "internal/bytealg.MakeNoZero"], recurses := true, apart := false, narrowed := true }
def CacheTwiceUptoSaid : Prop := cacheTwiceUptoRow.holds Try.pinned (OpenSpec.upto cacheTwiceSpec)

/-- 'carlinglaw20.CacheLasts', WHERE WHAT IT READS IS OF BULK AT MOST 1048576: true; the input reads as it did. -/
def cacheLastsUptoRow : OpenClaim := { program := "ytddaiihhhajieaa", sum := "1f02223c8eaadb5055c833072204e96682ab150a4e3392903b9dfd2f51326ba7", func := "carling/carlinglaw20.CacheLasts", spec := "cacheLasts", inPlace := ["internal/abi.NoEscape", "internal/bytealg.MakeNoZero"], recurses := true, apart := false, narrowed := true }
def CacheLastsUptoSaid : Prop := cacheLastsUptoRow.holds Try.pinned (OpenSpec.upto cacheLastsSpec)

end Rows
end Go.Proofs.Ytddaiihhhajieaa
