/-
  No cell of these rows narrows 'for every input' (looked for: loops, veiled, ifaces, maps, wideKeys, modest, calm, conditions, laid).
  DERIVED. THE GIVEN ROWS OF THIS SEAT. 16 by the template 'for every input the law returns true; each argument reads behind the call as it read before'; 0 by the template 'total and deterministic' (their statements: YtbddllklagiajaaTotals.lean).
  GIVEN WITH THE SEED: the statements are not yours to turn. If you find one false, say at which input.
  Laid BY PROGRAM, IN A SANDBOX (cutbox-rows.mjs): the forced cells as the released guide's own fill.sh prints them over the translation 6ca14060fa20b714… (all of the seat's roots in one cut). By AI agents, Wed Nov 11 2026. No macro, syntax, notation, axiom, sorry.
-/
import Derived.Test.YtbddllklagiajaaChecked
import GoSem.Claim
import GoSem.ClaimJoined
import GoSem.ClaimMapViews
import Derived.JoinedTies
import Derived.KernelRfl
namespace Go.Proofs.Ytbddllklagiajaa
/- THE CELL 'sum', in the pinned program and in every row, IS THE sha256 OF THE DUMP (.gsa) THAT YtbddllklagiajaaProg.lean LOADS. Nothing in Lean hashes anything: it is a label: what it is worth is what the hold of that sum in a sandbox is worth. -/
noncomputable def Try.pinned : Pinned := { name := "ytbddllklagiajaa", sum := "6ca14060fa20b7146cf5db285c43609b2a2e404ea89e165d5ba7cdcfc8808db7", checked := Try.checked }
namespace Rows
def none {H : Type} : Left H := { results := [], args := [] }

/-- 'replevinlaw01.CodecParses': WHATEVER THE INPUT: true; the input reads as it did. -/
def codecParsesSpec : ChangeSpec := { name := "codecParses", fn := fun _ => fun
  | [d] => { results := [.lit (.bool true)], args := [d] }
  | _ => none }
def codecParsesRow : OpenClaim := { program := "ytbddllklagiajaa", sum := "6ca14060fa20b7146cf5db285c43609b2a2e404ea89e165d5ba7cdcfc8808db7", func := "replevin/replevinlaw01.CodecParses", spec := "codecParses", apart := false }
def CodecParsesSaid : Prop := codecParsesRow.holds Try.pinned (OpenSpec.ofChange codecParsesSpec)

/-- ITS FALSE NEIGHBOUR: 'it returns false'. Refute it at one input. -/
def codecParsesWrong : ChangeSpec := { name := "codecParses", fn := fun _ => fun
  | [d] => { results := [.lit (.bool false)], args := [d] }
  | _ => none }
def CodecParsesWrongFalsely : Prop := codecParsesRow.holds Try.pinned (OpenSpec.ofChange codecParsesWrong)

/-- 'replevinlaw01.CodecNumbers': WHATEVER THE INPUT: true; the input reads as it did. -/
def codecNumbersSpec : ChangeSpec := { name := "codecNumbers", fn := fun _ => fun
  | [d1, d2, d3] => { results := [.lit (.bool true)], args := [d1, d2, d3] }
  | _ => none }
def codecNumbersRow : OpenClaim := { program := "ytbddllklagiajaa", sum := "6ca14060fa20b7146cf5db285c43609b2a2e404ea89e165d5ba7cdcfc8808db7", func := "replevin/replevinlaw01.CodecNumbers", spec := "codecNumbers", apart := false }
def CodecNumbersSaid : Prop := codecNumbersRow.holds Try.pinned (OpenSpec.ofChange codecNumbersSpec)

/-- ITS FALSE NEIGHBOUR: 'it returns false'. Refute it at one input. -/
def codecNumbersWrong : ChangeSpec := { name := "codecNumbers", fn := fun _ => fun
  | [d1, d2, d3] => { results := [.lit (.bool false)], args := [d1, d2, d3] }
  | _ => none }
def CodecNumbersWrongFalsely : Prop := codecNumbersRow.holds Try.pinned (OpenSpec.ofChange codecNumbersWrong)

/-- 'replevinlaw01.CodecWrites': WHATEVER THE INPUT: true; the input reads as it did. -/
def codecWritesSpec : ChangeSpec := { name := "codecWrites", fn := fun _ => fun
  | [d] => { results := [.lit (.bool true)], args := [d] }
  | _ => none }
def codecWritesRow : OpenClaim := { program := "ytbddllklagiajaa", sum := "6ca14060fa20b7146cf5db285c43609b2a2e404ea89e165d5ba7cdcfc8808db7", func := "replevin/replevinlaw01.CodecWrites", spec := "codecWrites", apart := false }
def CodecWritesSaid : Prop := codecWritesRow.holds Try.pinned (OpenSpec.ofChange codecWritesSpec)

/-- ITS FALSE NEIGHBOUR: 'it returns false'. Refute it at one input. -/
def codecWritesWrong : ChangeSpec := { name := "codecWrites", fn := fun _ => fun
  | [d] => { results := [.lit (.bool false)], args := [d] }
  | _ => none }
def CodecWritesWrongFalsely : Prop := codecWritesRow.holds Try.pinned (OpenSpec.ofChange codecWritesWrong)

/-- 'replevinlaw01.CodecKeeps': WHATEVER THE INPUT: true; the input reads as it did. -/
def codecKeepsSpec : ChangeSpec := { name := "codecKeeps", fn := fun _ => fun
  | [d1, d2] => { results := [.lit (.bool true)], args := [d1, d2] }
  | _ => none }
def codecKeepsRow : OpenClaim := { program := "ytbddllklagiajaa", sum := "6ca14060fa20b7146cf5db285c43609b2a2e404ea89e165d5ba7cdcfc8808db7", func := "replevin/replevinlaw01.CodecKeeps", spec := "codecKeeps", unfollowed := true, recurses := true, apart := false }
def CodecKeepsSaid : Prop := codecKeepsRow.holds Try.pinned (OpenSpec.ofChange codecKeepsSpec)

/-- ITS FALSE NEIGHBOUR: 'it returns false'. Refute it at one input. -/
def codecKeepsWrong : ChangeSpec := { name := "codecKeeps", fn := fun _ => fun
  | [d1, d2] => { results := [.lit (.bool false)], args := [d1, d2] }
  | _ => none }
def CodecKeepsWrongFalsely : Prop := codecKeepsRow.holds Try.pinned (OpenSpec.ofChange codecKeepsWrong)

/-- 'replevinlaw01.CodecRoundTrip': WHATEVER THE INPUT: true; the input reads as it did. -/
def codecRoundTripSpec : ChangeSpec := { name := "codecRoundTrip", fn := fun _ => fun
  | [d] => { results := [.lit (.bool true)], args := [d] }
  | _ => none }
def codecRoundTripRow : OpenClaim := { program := "ytbddllklagiajaa", sum := "6ca14060fa20b7146cf5db285c43609b2a2e404ea89e165d5ba7cdcfc8808db7", func := "replevin/replevinlaw01.CodecRoundTrip", spec := "codecRoundTrip", unfollowed := true, recurses := true, apart := false }
def CodecRoundTripSaid : Prop := codecRoundTripRow.holds Try.pinned (OpenSpec.ofChange codecRoundTripSpec)

/-- ITS FALSE NEIGHBOUR: 'it returns false'. Refute it at one input. -/
def codecRoundTripWrong : ChangeSpec := { name := "codecRoundTrip", fn := fun _ => fun
  | [d] => { results := [.lit (.bool false)], args := [d] }
  | _ => none }
def CodecRoundTripWrongFalsely : Prop := codecRoundTripRow.holds Try.pinned (OpenSpec.ofChange codecRoundTripWrong)

/-- 'replevinlaw01.CodecCanonical': WHATEVER THE INPUT: true; the input reads as it did. -/
def codecCanonicalSpec : ChangeSpec := { name := "codecCanonical", fn := fun _ => fun
  | [d1, d2] => { results := [.lit (.bool true)], args := [d1, d2] }
  | _ => none }
def codecCanonicalRow : OpenClaim := { program := "ytbddllklagiajaa", sum := "6ca14060fa20b7146cf5db285c43609b2a2e404ea89e165d5ba7cdcfc8808db7", func := "replevin/replevinlaw01.CodecCanonical", spec := "codecCanonical", unfollowed := true, recurses := true, apart := false }
def CodecCanonicalSaid : Prop := codecCanonicalRow.holds Try.pinned (OpenSpec.ofChange codecCanonicalSpec)

/-- ITS FALSE NEIGHBOUR: 'it returns false'. Refute it at one input. -/
def codecCanonicalWrong : ChangeSpec := { name := "codecCanonical", fn := fun _ => fun
  | [d1, d2] => { results := [.lit (.bool false)], args := [d1, d2] }
  | _ => none }
def CodecCanonicalWrongFalsely : Prop := codecCanonicalRow.holds Try.pinned (OpenSpec.ofChange codecCanonicalWrong)

/-- 'replevinlaw12.BlocksPlays': WHATEVER THE INPUT: true; the input reads as it did. -/
def blocksPlaysSpec : ChangeSpec := { name := "blocksPlays", fn := fun _ => fun
  | [d1, d2, d3] => { results := [.lit (.bool true)], args := [d1, d2, d3] }
  | _ => none }
def blocksPlaysRow : OpenClaim := { program := "ytbddllklagiajaa", sum := "6ca14060fa20b7146cf5db285c43609b2a2e404ea89e165d5ba7cdcfc8808db7", func := "replevin/replevinlaw12.BlocksPlays", spec := "blocksPlays", unfollowed := true, recurses := true, apart := false }
def BlocksPlaysSaid : Prop := blocksPlaysRow.holds Try.pinned (OpenSpec.ofChange blocksPlaysSpec)

/-- ITS FALSE NEIGHBOUR: 'it returns false'. Refute it at one input. -/
def blocksPlaysWrong : ChangeSpec := { name := "blocksPlays", fn := fun _ => fun
  | [d1, d2, d3] => { results := [.lit (.bool false)], args := [d1, d2, d3] }
  | _ => none }
def BlocksPlaysWrongFalsely : Prop := blocksPlaysRow.holds Try.pinned (OpenSpec.ofChange blocksPlaysWrong)

/-- 'replevinlaw12.BlocksSafe': WHATEVER THE INPUT: true; the input reads as it did. -/
def blocksSafeSpec : ChangeSpec := { name := "blocksSafe", fn := fun _ => fun
  | [d1, d2, d3] => { results := [.lit (.bool true)], args := [d1, d2, d3] }
  | _ => none }
def blocksSafeRow : OpenClaim := { program := "ytbddllklagiajaa", sum := "6ca14060fa20b7146cf5db285c43609b2a2e404ea89e165d5ba7cdcfc8808db7", func := "replevin/replevinlaw12.BlocksSafe", spec := "blocksSafe", unfollowed := true, recurses := true, apart := false }
def BlocksSafeSaid : Prop := blocksSafeRow.holds Try.pinned (OpenSpec.ofChange blocksSafeSpec)

/-- ITS FALSE NEIGHBOUR: 'it returns false'. Refute it at one input. -/
def blocksSafeWrong : ChangeSpec := { name := "blocksSafe", fn := fun _ => fun
  | [d1, d2, d3] => { results := [.lit (.bool false)], args := [d1, d2, d3] }
  | _ => none }
def BlocksSafeWrongFalsely : Prop := blocksSafeRow.holds Try.pinned (OpenSpec.ofChange blocksSafeWrong)

/-- 'replevinlaw01.CodecTruncated': WHATEVER THE INPUT: true; the input reads as it did. -/
def codecTruncatedSpec : ChangeSpec := { name := "codecTruncated", fn := fun _ => fun
  | [d1, d2] => { results := [.lit (.bool true)], args := [d1, d2] }
  | _ => none }
def codecTruncatedRow : OpenClaim := { program := "ytbddllklagiajaa", sum := "6ca14060fa20b7146cf5db285c43609b2a2e404ea89e165d5ba7cdcfc8808db7", func := "replevin/replevinlaw01.CodecTruncated", spec := "codecTruncated", unfollowed := true, recurses := true, apart := false }
def CodecTruncatedSaid : Prop := codecTruncatedRow.holds Try.pinned (OpenSpec.ofChange codecTruncatedSpec)

/-- ITS FALSE NEIGHBOUR: 'it returns false'. Refute it at one input. -/
def codecTruncatedWrong : ChangeSpec := { name := "codecTruncated", fn := fun _ => fun
  | [d1, d2] => { results := [.lit (.bool false)], args := [d1, d2] }
  | _ => none }
def CodecTruncatedWrongFalsely : Prop := codecTruncatedRow.holds Try.pinned (OpenSpec.ofChange codecTruncatedWrong)

/-- 'replevinlaw12.BlocksGreat': WHATEVER THE INPUT: true; the input reads as it did. -/
def blocksGreatSpec : ChangeSpec := { name := "blocksGreat", fn := fun _ => fun
  | [d] => { results := [.lit (.bool true)], args := [d] }
  | _ => none }
def blocksGreatRow : OpenClaim := { program := "ytbddllklagiajaa", sum := "6ca14060fa20b7146cf5db285c43609b2a2e404ea89e165d5ba7cdcfc8808db7", func := "replevin/replevinlaw12.BlocksGreat", spec := "blocksGreat", unfollowed := true, recurses := true, apart := false }
def BlocksGreatSaid : Prop := blocksGreatRow.holds Try.pinned (OpenSpec.ofChange blocksGreatSpec)

/-- ITS FALSE NEIGHBOUR: 'it returns false'. Refute it at one input. -/
def blocksGreatWrong : ChangeSpec := { name := "blocksGreat", fn := fun _ => fun
  | [d] => { results := [.lit (.bool false)], args := [d] }
  | _ => none }
def BlocksGreatWrongFalsely : Prop := blocksGreatRow.holds Try.pinned (OpenSpec.ofChange blocksGreatWrong)

/-- 'replevinlaw12.BlocksReturns': WHATEVER THE INPUT: true; the input reads as it did. -/
def blocksReturnsSpec : ChangeSpec := { name := "blocksReturns", fn := fun _ => fun
  | [d1, d2, d3] => { results := [.lit (.bool true)], args := [d1, d2, d3] }
  | _ => none }
def blocksReturnsRow : OpenClaim := { program := "ytbddllklagiajaa", sum := "6ca14060fa20b7146cf5db285c43609b2a2e404ea89e165d5ba7cdcfc8808db7", func := "replevin/replevinlaw12.BlocksReturns", spec := "blocksReturns", unfollowed := true, recurses := true, apart := false }
def BlocksReturnsSaid : Prop := blocksReturnsRow.holds Try.pinned (OpenSpec.ofChange blocksReturnsSpec)

/-- ITS FALSE NEIGHBOUR: 'it returns false'. Refute it at one input. -/
def blocksReturnsWrong : ChangeSpec := { name := "blocksReturns", fn := fun _ => fun
  | [d1, d2, d3] => { results := [.lit (.bool false)], args := [d1, d2, d3] }
  | _ => none }
def BlocksReturnsWrongFalsely : Prop := blocksReturnsRow.holds Try.pinned (OpenSpec.ofChange blocksReturnsWrong)

/-- 'replevinlaw12.BlocksNew': WHATEVER THE INPUT: true; the input reads as it did. -/
def blocksNewSpec : ChangeSpec := { name := "blocksNew", fn := fun _ => fun
  | [d1, d2, d3] => { results := [.lit (.bool true)], args := [d1, d2, d3] }
  | _ => none }
def blocksNewRow : OpenClaim := { program := "ytbddllklagiajaa", sum := "6ca14060fa20b7146cf5db285c43609b2a2e404ea89e165d5ba7cdcfc8808db7", func := "replevin/replevinlaw12.BlocksNew", spec := "blocksNew", unfollowed := true, recurses := true, apart := false }
def BlocksNewSaid : Prop := blocksNewRow.holds Try.pinned (OpenSpec.ofChange blocksNewSpec)

/-- ITS FALSE NEIGHBOUR: 'it returns false'. Refute it at one input. -/
def blocksNewWrong : ChangeSpec := { name := "blocksNew", fn := fun _ => fun
  | [d1, d2, d3] => { results := [.lit (.bool false)], args := [d1, d2, d3] }
  | _ => none }
def BlocksNewWrongFalsely : Prop := blocksNewRow.holds Try.pinned (OpenSpec.ofChange blocksNewWrong)

/-- 'replevinlaw12.BlocksClones': WHATEVER THE INPUT: true; the input reads as it did. -/
def blocksClonesSpec : ChangeSpec := { name := "blocksClones", fn := fun _ => fun
  | [d1, d2, d3] => { results := [.lit (.bool true)], args := [d1, d2, d3] }
  | _ => none }
def blocksClonesRow : OpenClaim := { program := "ytbddllklagiajaa", sum := "6ca14060fa20b7146cf5db285c43609b2a2e404ea89e165d5ba7cdcfc8808db7", func := "replevin/replevinlaw12.BlocksClones", spec := "blocksClones", unfollowed := true, recurses := true, apart := false }
def BlocksClonesSaid : Prop := blocksClonesRow.holds Try.pinned (OpenSpec.ofChange blocksClonesSpec)

/-- ITS FALSE NEIGHBOUR: 'it returns false'. Refute it at one input. -/
def blocksClonesWrong : ChangeSpec := { name := "blocksClones", fn := fun _ => fun
  | [d1, d2, d3] => { results := [.lit (.bool false)], args := [d1, d2, d3] }
  | _ => none }
def BlocksClonesWrongFalsely : Prop := blocksClonesRow.holds Try.pinned (OpenSpec.ofChange blocksClonesWrong)

/-- 'replevinlaw12.BlocksNil': WHATEVER THE INPUT: true; the input reads as it did. -/
def blocksNilSpec : ChangeSpec := { name := "blocksNil", fn := fun _ => fun
  | [d1, d2, d3] => { results := [.lit (.bool true)], args := [d1, d2, d3] }
  | _ => none }
def blocksNilRow : OpenClaim := { program := "ytbddllklagiajaa", sum := "6ca14060fa20b7146cf5db285c43609b2a2e404ea89e165d5ba7cdcfc8808db7", func := "replevin/replevinlaw12.BlocksNil", spec := "blocksNil", unfollowed := true, recurses := true, apart := false }
def BlocksNilSaid : Prop := blocksNilRow.holds Try.pinned (OpenSpec.ofChange blocksNilSpec)

/-- ITS FALSE NEIGHBOUR: 'it returns false'. Refute it at one input. -/
def blocksNilWrong : ChangeSpec := { name := "blocksNil", fn := fun _ => fun
  | [d1, d2, d3] => { results := [.lit (.bool false)], args := [d1, d2, d3] }
  | _ => none }
def BlocksNilWrongFalsely : Prop := blocksNilRow.holds Try.pinned (OpenSpec.ofChange blocksNilWrong)

/-- 'replevinlaw12.BlocksDecodes': WHATEVER THE INPUT: true; the input reads as it did. -/
def blocksDecodesSpec : ChangeSpec := { name := "blocksDecodes", fn := fun _ => fun
  | [d] => { results := [.lit (.bool true)], args := [d] }
  | _ => none }
def blocksDecodesRow : OpenClaim := { program := "ytbddllklagiajaa", sum := "6ca14060fa20b7146cf5db285c43609b2a2e404ea89e165d5ba7cdcfc8808db7", func := "replevin/replevinlaw12.BlocksDecodes", spec := "blocksDecodes", unfollowed := true, recurses := true, apart := false }
def BlocksDecodesSaid : Prop := blocksDecodesRow.holds Try.pinned (OpenSpec.ofChange blocksDecodesSpec)

/-- ITS FALSE NEIGHBOUR: 'it returns false'. Refute it at one input. -/
def blocksDecodesWrong : ChangeSpec := { name := "blocksDecodes", fn := fun _ => fun
  | [d] => { results := [.lit (.bool false)], args := [d] }
  | _ => none }
def BlocksDecodesWrongFalsely : Prop := blocksDecodesRow.holds Try.pinned (OpenSpec.ofChange blocksDecodesWrong)

/-- 'replevinlaw12.BlocksEncodes': WHATEVER THE INPUT: true; the input reads as it did. -/
def blocksEncodesSpec : ChangeSpec := { name := "blocksEncodes", fn := fun _ => fun
  | [d1, d2, d3] => { results := [.lit (.bool true)], args := [d1, d2, d3] }
  | _ => none }
def blocksEncodesRow : OpenClaim := { program := "ytbddllklagiajaa", sum := "6ca14060fa20b7146cf5db285c43609b2a2e404ea89e165d5ba7cdcfc8808db7", func := "replevin/replevinlaw12.BlocksEncodes", spec := "blocksEncodes", unfollowed := true, recurses := true, apart := false }
def BlocksEncodesSaid : Prop := blocksEncodesRow.holds Try.pinned (OpenSpec.ofChange blocksEncodesSpec)

/-- ITS FALSE NEIGHBOUR: 'it returns false'. Refute it at one input. -/
def blocksEncodesWrong : ChangeSpec := { name := "blocksEncodes", fn := fun _ => fun
  | [d1, d2, d3] => { results := [.lit (.bool false)], args := [d1, d2, d3] }
  | _ => none }
def BlocksEncodesWrongFalsely : Prop := blocksEncodesRow.holds Try.pinned (OpenSpec.ofChange blocksEncodesWrong)

/- THE SECOND FORM. 'bulk': how many values and letters a reading holds, each counted each time it is reached (what is shared counts as often as it is met; a slice's spare places count too). A statement '..UptoSaid' is the law's where the arguments, and the package variables that the reading takes, are together of bulk at most 1048576: NARROWER than '..Said'. Prove '..Said' where nothing that the law and all that it calls make is longer than what came in: it says more and counts as full. Else prove '..UptoSaid'. A law counts once. -/
mutual
def uptoBulk {H : Type} : DataW H → Nat
  | .lit (.string bytes) => bytes.length + 1
  | .lit _ => 1
  | .nil => 1
  | .ptr d => uptoBulk d + 1
  | .slice elems spare => uptoBulkAll elems + uptoBulkAll spare + 1
  | .agg parts => uptoBulkAll parts + 1
  | .iface _ d => uptoBulk d + 1
  | .map entries => uptoBulkEntries entries + 1
  | .held _ => 1
def uptoBulkAll {H : Type} : List (DataW H) → Nat
  | [] => 0
  | d :: r => uptoBulk d + uptoBulkAll r
def uptoBulkEntries {H : Type} : List (Lit × DataW H) → Nat
  | [] => 0
  | x :: r => uptoBulkEntry x + uptoBulkEntries r
def uptoBulkEntry {H : Type} : Lit × DataW H → Nat
  | (.string bytes, d) => bytes.length + uptoBulk d + 1
  | (_, d) => uptoBulk d + 1
 end
def uptoSmall : (H : Type) → List (DataW H) → Bool := fun _ ds => decide (uptoBulkAll ds ≤ 1048576)
def OpenSpec.upto (s : _root_.Go.ChangeSpec) : _root_.Go.OpenSpec := { _root_.Go.OpenSpec.ofChange s with cond := some uptoSmall }

/-- 'replevinlaw01.CodecParses', WHERE WHAT IT READS IS OF BULK AT MOST 1048576: true; the input reads as it did. -/
def codecParsesUptoRow : OpenClaim := { program := "ytbddllklagiajaa", sum := "6ca14060fa20b7146cf5db285c43609b2a2e404ea89e165d5ba7cdcfc8808db7", func := "replevin/replevinlaw01.CodecParses", spec := "codecParses", apart := false, narrowed := true }
def CodecParsesUptoSaid : Prop := codecParsesUptoRow.holds Try.pinned (OpenSpec.upto codecParsesSpec)

/-- 'replevinlaw01.CodecNumbers', WHERE WHAT IT READS IS OF BULK AT MOST 1048576: true; the input reads as it did. -/
def codecNumbersUptoRow : OpenClaim := { program := "ytbddllklagiajaa", sum := "6ca14060fa20b7146cf5db285c43609b2a2e404ea89e165d5ba7cdcfc8808db7", func := "replevin/replevinlaw01.CodecNumbers", spec := "codecNumbers", apart := false, narrowed := true }
def CodecNumbersUptoSaid : Prop := codecNumbersUptoRow.holds Try.pinned (OpenSpec.upto codecNumbersSpec)

/-- 'replevinlaw01.CodecWrites', WHERE WHAT IT READS IS OF BULK AT MOST 1048576: true; the input reads as it did. -/
def codecWritesUptoRow : OpenClaim := { program := "ytbddllklagiajaa", sum := "6ca14060fa20b7146cf5db285c43609b2a2e404ea89e165d5ba7cdcfc8808db7", func := "replevin/replevinlaw01.CodecWrites", spec := "codecWrites", apart := false, narrowed := true }
def CodecWritesUptoSaid : Prop := codecWritesUptoRow.holds Try.pinned (OpenSpec.upto codecWritesSpec)

/-- 'replevinlaw01.CodecKeeps', WHERE WHAT IT READS IS OF BULK AT MOST 1048576: true; the input reads as it did. -/
def codecKeepsUptoRow : OpenClaim := { program := "ytbddllklagiajaa", sum := "6ca14060fa20b7146cf5db285c43609b2a2e404ea89e165d5ba7cdcfc8808db7", func := "replevin/replevinlaw01.CodecKeeps", spec := "codecKeeps", unfollowed := true, recurses := true, apart := false, narrowed := true }
def CodecKeepsUptoSaid : Prop := codecKeepsUptoRow.holds Try.pinned (OpenSpec.upto codecKeepsSpec)

/-- 'replevinlaw01.CodecRoundTrip', WHERE WHAT IT READS IS OF BULK AT MOST 1048576: true; the input reads as it did. -/
def codecRoundTripUptoRow : OpenClaim := { program := "ytbddllklagiajaa", sum := "6ca14060fa20b7146cf5db285c43609b2a2e404ea89e165d5ba7cdcfc8808db7", func := "replevin/replevinlaw01.CodecRoundTrip", spec := "codecRoundTrip", unfollowed := true, recurses := true, apart := false, narrowed := true }
def CodecRoundTripUptoSaid : Prop := codecRoundTripUptoRow.holds Try.pinned (OpenSpec.upto codecRoundTripSpec)

/-- 'replevinlaw01.CodecCanonical', WHERE WHAT IT READS IS OF BULK AT MOST 1048576: true; the input reads as it did. -/
def codecCanonicalUptoRow : OpenClaim := { program := "ytbddllklagiajaa", sum := "6ca14060fa20b7146cf5db285c43609b2a2e404ea89e165d5ba7cdcfc8808db7", func := "replevin/replevinlaw01.CodecCanonical", spec := "codecCanonical", unfollowed := true, recurses := true, apart := false, narrowed := true }
def CodecCanonicalUptoSaid : Prop := codecCanonicalUptoRow.holds Try.pinned (OpenSpec.upto codecCanonicalSpec)

/-- 'replevinlaw12.BlocksPlays', WHERE WHAT IT READS IS OF BULK AT MOST 1048576: true; the input reads as it did. -/
def blocksPlaysUptoRow : OpenClaim := { program := "ytbddllklagiajaa", sum := "6ca14060fa20b7146cf5db285c43609b2a2e404ea89e165d5ba7cdcfc8808db7", func := "replevin/replevinlaw12.BlocksPlays", spec := "blocksPlays", unfollowed := true, recurses := true, apart := false, narrowed := true }
def BlocksPlaysUptoSaid : Prop := blocksPlaysUptoRow.holds Try.pinned (OpenSpec.upto blocksPlaysSpec)

/-- 'replevinlaw12.BlocksSafe', WHERE WHAT IT READS IS OF BULK AT MOST 1048576: true; the input reads as it did. -/
def blocksSafeUptoRow : OpenClaim := { program := "ytbddllklagiajaa", sum := "6ca14060fa20b7146cf5db285c43609b2a2e404ea89e165d5ba7cdcfc8808db7", func := "replevin/replevinlaw12.BlocksSafe", spec := "blocksSafe", unfollowed := true, recurses := true, apart := false, narrowed := true }
def BlocksSafeUptoSaid : Prop := blocksSafeUptoRow.holds Try.pinned (OpenSpec.upto blocksSafeSpec)

/-- 'replevinlaw01.CodecTruncated', WHERE WHAT IT READS IS OF BULK AT MOST 1048576: true; the input reads as it did. -/
def codecTruncatedUptoRow : OpenClaim := { program := "ytbddllklagiajaa", sum := "6ca14060fa20b7146cf5db285c43609b2a2e404ea89e165d5ba7cdcfc8808db7", func := "replevin/replevinlaw01.CodecTruncated", spec := "codecTruncated", unfollowed := true, recurses := true, apart := false, narrowed := true }
def CodecTruncatedUptoSaid : Prop := codecTruncatedUptoRow.holds Try.pinned (OpenSpec.upto codecTruncatedSpec)

/-- 'replevinlaw12.BlocksGreat', WHERE WHAT IT READS IS OF BULK AT MOST 1048576: true; the input reads as it did. -/
def blocksGreatUptoRow : OpenClaim := { program := "ytbddllklagiajaa", sum := "6ca14060fa20b7146cf5db285c43609b2a2e404ea89e165d5ba7cdcfc8808db7", func := "replevin/replevinlaw12.BlocksGreat", spec := "blocksGreat", unfollowed := true, recurses := true, apart := false, narrowed := true }
def BlocksGreatUptoSaid : Prop := blocksGreatUptoRow.holds Try.pinned (OpenSpec.upto blocksGreatSpec)

/-- 'replevinlaw12.BlocksReturns', WHERE WHAT IT READS IS OF BULK AT MOST 1048576: true; the input reads as it did. -/
def blocksReturnsUptoRow : OpenClaim := { program := "ytbddllklagiajaa", sum := "6ca14060fa20b7146cf5db285c43609b2a2e404ea89e165d5ba7cdcfc8808db7", func := "replevin/replevinlaw12.BlocksReturns", spec := "blocksReturns", unfollowed := true, recurses := true, apart := false, narrowed := true }
def BlocksReturnsUptoSaid : Prop := blocksReturnsUptoRow.holds Try.pinned (OpenSpec.upto blocksReturnsSpec)

/-- 'replevinlaw12.BlocksNew', WHERE WHAT IT READS IS OF BULK AT MOST 1048576: true; the input reads as it did. -/
def blocksNewUptoRow : OpenClaim := { program := "ytbddllklagiajaa", sum := "6ca14060fa20b7146cf5db285c43609b2a2e404ea89e165d5ba7cdcfc8808db7", func := "replevin/replevinlaw12.BlocksNew", spec := "blocksNew", unfollowed := true, recurses := true, apart := false, narrowed := true }
def BlocksNewUptoSaid : Prop := blocksNewUptoRow.holds Try.pinned (OpenSpec.upto blocksNewSpec)

/-- 'replevinlaw12.BlocksClones', WHERE WHAT IT READS IS OF BULK AT MOST 1048576: true; the input reads as it did. -/
def blocksClonesUptoRow : OpenClaim := { program := "ytbddllklagiajaa", sum := "6ca14060fa20b7146cf5db285c43609b2a2e404ea89e165d5ba7cdcfc8808db7", func := "replevin/replevinlaw12.BlocksClones", spec := "blocksClones", unfollowed := true, recurses := true, apart := false, narrowed := true }
def BlocksClonesUptoSaid : Prop := blocksClonesUptoRow.holds Try.pinned (OpenSpec.upto blocksClonesSpec)

/-- 'replevinlaw12.BlocksNil', WHERE WHAT IT READS IS OF BULK AT MOST 1048576: true; the input reads as it did. -/
def blocksNilUptoRow : OpenClaim := { program := "ytbddllklagiajaa", sum := "6ca14060fa20b7146cf5db285c43609b2a2e404ea89e165d5ba7cdcfc8808db7", func := "replevin/replevinlaw12.BlocksNil", spec := "blocksNil", unfollowed := true, recurses := true, apart := false, narrowed := true }
def BlocksNilUptoSaid : Prop := blocksNilUptoRow.holds Try.pinned (OpenSpec.upto blocksNilSpec)

/-- 'replevinlaw12.BlocksDecodes', WHERE WHAT IT READS IS OF BULK AT MOST 1048576: true; the input reads as it did. -/
def blocksDecodesUptoRow : OpenClaim := { program := "ytbddllklagiajaa", sum := "6ca14060fa20b7146cf5db285c43609b2a2e404ea89e165d5ba7cdcfc8808db7", func := "replevin/replevinlaw12.BlocksDecodes", spec := "blocksDecodes", unfollowed := true, recurses := true, apart := false, narrowed := true }
def BlocksDecodesUptoSaid : Prop := blocksDecodesUptoRow.holds Try.pinned (OpenSpec.upto blocksDecodesSpec)

/-- 'replevinlaw12.BlocksEncodes', WHERE WHAT IT READS IS OF BULK AT MOST 1048576: true; the input reads as it did. -/
def blocksEncodesUptoRow : OpenClaim := { program := "ytbddllklagiajaa", sum := "6ca14060fa20b7146cf5db285c43609b2a2e404ea89e165d5ba7cdcfc8808db7", func := "replevin/replevinlaw12.BlocksEncodes", spec := "blocksEncodes", unfollowed := true, recurses := true, apart := false, narrowed := true }
def BlocksEncodesUptoSaid : Prop := blocksEncodesUptoRow.holds Try.pinned (OpenSpec.upto blocksEncodesSpec)

end Rows
end Go.Proofs.Ytbddllklagiajaa
