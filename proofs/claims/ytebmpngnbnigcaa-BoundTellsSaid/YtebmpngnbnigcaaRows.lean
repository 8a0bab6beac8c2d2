/-
  No cell of these rows narrows 'for every input' (looked for: loops, veiled, ifaces, maps, wideKeys, modest, calm, conditions, laid).
  DERIVED. THE GIVEN ROWS OF THIS SEAT. 16 by the template 'for every input the law returns true; each argument reads behind the call as it read before'; 0 by the template 'total and deterministic' (their statements: YtebmpngnbnigcaaTotals.lean).
  GIVEN WITH THE SEED: the statements are not yours to turn. If you find one false, say at which input.
  Laid BY PROGRAM, IN A SANDBOX (cutbox-rows.mjs): the forced cells as the released guide's own fill.sh prints them over the translation 03d6ea5be251754c… (all of the seat's roots in one cut). By AI agents, Wed Nov 11 2026. No macro, syntax, notation, axiom, sorry.
-/
import Derived.Test.YtebmpngnbnigcaaChecked
import GoSem.Claim
import GoSem.ClaimJoined
import GoSem.ClaimMapViews
import Derived.JoinedTies
import Derived.KernelRfl
namespace Go.Proofs.Ytebmpngnbnigcaa
/- THE CELL 'sum', in the pinned program and in every row, IS THE sha256 OF THE DUMP (.gsa) THAT YtebmpngnbnigcaaProg.lean LOADS. Nothing in Lean hashes anything: it is a label: what it is worth is what the hold of that sum in a sandbox is worth. -/
noncomputable def Try.pinned : Pinned := { name := "ytebmpngnbnigcaa", sum := "03d6ea5be251754c831cf32728f1a960bb708eb6f1174b4533fb7a96bb49b835", checked := Try.checked }
namespace Rows
def none {H : Type} : Left H := { results := [], args := [] }

/-- 'horariumlaw9.BoundNumbers': WHATEVER THE INPUT: true; the input reads as it did. -/
def boundNumbersSpec : ChangeSpec := { name := "boundNumbers", fn := fun _ => fun
  | [] => { results := [.lit (.bool true)], args := [] }
  | _ => none }
def boundNumbersRow : OpenClaim := { program := "ytebmpngnbnigcaa", sum := "03d6ea5be251754c831cf32728f1a960bb708eb6f1174b4533fb7a96bb49b835", func := "horarium/horariumlaw9.BoundNumbers", spec := "boundNumbers", recurses := true, apart := false }
def BoundNumbersSaid : Prop := boundNumbersRow.holds Try.pinned (OpenSpec.ofChange boundNumbersSpec)

/-- ITS FALSE NEIGHBOUR: 'it returns false'. Refute it at one input. -/
def boundNumbersWrong : ChangeSpec := { name := "boundNumbers", fn := fun _ => fun
  | [] => { results := [.lit (.bool false)], args := [] }
  | _ => none }
def BoundNumbersWrongFalsely : Prop := boundNumbersRow.holds Try.pinned (OpenSpec.ofChange boundNumbersWrong)

/-- 'horariumlaw9.BoundTells': WHATEVER THE INPUT: true; the input reads as it did. -/
def boundTellsSpec : ChangeSpec := { name := "boundTells", fn := fun _ => fun
  | [d1, d2, d3, d4, d5, d6] => { results := [.lit (.bool true)], args := [d1, d2, d3, d4, d5, d6] }
  | _ => none }
def boundTellsRow : OpenClaim := { program := "ytebmpngnbnigcaa", sum := "03d6ea5be251754c831cf32728f1a960bb708eb6f1174b4533fb7a96bb49b835", func := "horarium/horariumlaw9.BoundTells", spec := "boundTells", recurses := true, apart := false }
def BoundTellsSaid : Prop := boundTellsRow.holds Try.pinned (OpenSpec.ofChange boundTellsSpec)

/-- ITS FALSE NEIGHBOUR: 'it returns false'. Refute it at one input. -/
def boundTellsWrong : ChangeSpec := { name := "boundTells", fn := fun _ => fun
  | [d1, d2, d3, d4, d5, d6] => { results := [.lit (.bool false)], args := [d1, d2, d3, d4, d5, d6] }
  | _ => none }
def BoundTellsWrongFalsely : Prop := boundTellsRow.holds Try.pinned (OpenSpec.ofChange boundTellsWrong)

/-- 'horariumlaw4.CursorNumbers': WHATEVER THE INPUT: true; the input reads as it did. -/
def cursorNumbersSpec : ChangeSpec := { name := "cursorNumbers", fn := fun _ => fun
  | [] => { results := [.lit (.bool true)], args := [] }
  | _ => none }
def cursorNumbersRow : OpenClaim := { program := "ytebmpngnbnigcaa", sum := "03d6ea5be251754c831cf32728f1a960bb708eb6f1174b4533fb7a96bb49b835", func := "horarium/horariumlaw4.CursorNumbers", spec := "cursorNumbers", recurses := true, apart := false }
def CursorNumbersSaid : Prop := cursorNumbersRow.holds Try.pinned (OpenSpec.ofChange cursorNumbersSpec)

/-- ITS FALSE NEIGHBOUR: 'it returns false'. Refute it at one input. -/
def cursorNumbersWrong : ChangeSpec := { name := "cursorNumbers", fn := fun _ => fun
  | [] => { results := [.lit (.bool false)], args := [] }
  | _ => none }
def CursorNumbersWrongFalsely : Prop := cursorNumbersRow.holds Try.pinned (OpenSpec.ofChange cursorNumbersWrong)

/-- 'horariumlaw4.CursorPlays': WHATEVER THE INPUT: true; the input reads as it did. -/
def cursorPlaysSpec : ChangeSpec := { name := "cursorPlays", fn := fun _ => fun
  | [d1, d2, d3, d4, d5] => { results := [.lit (.bool true)], args := [d1, d2, d3, d4, d5] }
  | _ => none }
def cursorPlaysRow : OpenClaim := { program := "ytebmpngnbnigcaa", sum := "03d6ea5be251754c831cf32728f1a960bb708eb6f1174b4533fb7a96bb49b835", func := "horarium/horariumlaw4.CursorPlays", spec := "cursorPlays", recurses := true, apart := false }
def CursorPlaysSaid : Prop := cursorPlaysRow.holds Try.pinned (OpenSpec.ofChange cursorPlaysSpec)

/-- ITS FALSE NEIGHBOUR: 'it returns false'. Refute it at one input. -/
def cursorPlaysWrong : ChangeSpec := { name := "cursorPlays", fn := fun _ => fun
  | [d1, d2, d3, d4, d5] => { results := [.lit (.bool false)], args := [d1, d2, d3, d4, d5] }
  | _ => none }
def CursorPlaysWrongFalsely : Prop := cursorPlaysRow.holds Try.pinned (OpenSpec.ofChange cursorPlaysWrong)

/-- 'horariumlaw4.CursorAgain': WHATEVER THE INPUT: true; the input reads as it did. -/
def cursorAgainSpec : ChangeSpec := { name := "cursorAgain", fn := fun _ => fun
  | [d1, d2, d3] => { results := [.lit (.bool true)], args := [d1, d2, d3] }
  | _ => none }
def cursorAgainRow : OpenClaim := { program := "ytebmpngnbnigcaa", sum := "03d6ea5be251754c831cf32728f1a960bb708eb6f1174b4533fb7a96bb49b835", func := "horarium/horariumlaw4.CursorAgain", spec := "cursorAgain", recurses := true, apart := false }
def CursorAgainSaid : Prop := cursorAgainRow.holds Try.pinned (OpenSpec.ofChange cursorAgainSpec)

/-- ITS FALSE NEIGHBOUR: 'it returns false'. Refute it at one input. -/
def cursorAgainWrong : ChangeSpec := { name := "cursorAgain", fn := fun _ => fun
  | [d1, d2, d3] => { results := [.lit (.bool false)], args := [d1, d2, d3] }
  | _ => none }
def CursorAgainWrongFalsely : Prop := cursorAgainRow.holds Try.pinned (OpenSpec.ofChange cursorAgainWrong)

/-- 'horariumlaw4.CursorTicks': WHATEVER THE INPUT: true; the input reads as it did. -/
def cursorTicksSpec : ChangeSpec := { name := "cursorTicks", fn := fun _ => fun
  | [d1, d2] => { results := [.lit (.bool true)], args := [d1, d2] }
  | _ => none }
def cursorTicksRow : OpenClaim := { program := "ytebmpngnbnigcaa", sum := "03d6ea5be251754c831cf32728f1a960bb708eb6f1174b4533fb7a96bb49b835", func := "horarium/horariumlaw4.CursorTicks", spec := "cursorTicks", recurses := true, apart := false }
def CursorTicksSaid : Prop := cursorTicksRow.holds Try.pinned (OpenSpec.ofChange cursorTicksSpec)

/-- ITS FALSE NEIGHBOUR: 'it returns false'. Refute it at one input. -/
def cursorTicksWrong : ChangeSpec := { name := "cursorTicks", fn := fun _ => fun
  | [d1, d2] => { results := [.lit (.bool false)], args := [d1, d2] }
  | _ => none }
def CursorTicksWrongFalsely : Prop := cursorTicksRow.holds Try.pinned (OpenSpec.ofChange cursorTicksWrong)

/-- 'horariumlaw10.MoveNumbers': WHATEVER THE INPUT: true; the input reads as it did. -/
def moveNumbersSpec : ChangeSpec := { name := "moveNumbers", fn := fun _ => fun
  | [] => { results := [.lit (.bool true)], args := [] }
  | _ => none }
def moveNumbersRow : OpenClaim := { program := "ytebmpngnbnigcaa", sum := "03d6ea5be251754c831cf32728f1a960bb708eb6f1174b4533fb7a96bb49b835", func := "horarium/horariumlaw10.MoveNumbers", spec := "moveNumbers", unfollowed := true, recurses := true, apart := false }
def MoveNumbersSaid : Prop := moveNumbersRow.holds Try.pinned (OpenSpec.ofChange moveNumbersSpec)

/-- ITS FALSE NEIGHBOUR: 'it returns false'. Refute it at one input. -/
def moveNumbersWrong : ChangeSpec := { name := "moveNumbers", fn := fun _ => fun
  | [] => { results := [.lit (.bool false)], args := [] }
  | _ => none }
def MoveNumbersWrongFalsely : Prop := moveNumbersRow.holds Try.pinned (OpenSpec.ofChange moveNumbersWrong)

/-- 'horariumlaw10.MoveTells': WHATEVER THE INPUT: true; the input reads as it did. -/
def moveTellsSpec : ChangeSpec := { name := "moveTells", fn := fun _ => fun
  | [d1, d2, d3, d4] => { results := [.lit (.bool true)], args := [d1, d2, d3, d4] }
  | _ => none }
def moveTellsRow : OpenClaim := { program := "ytebmpngnbnigcaa", sum := "03d6ea5be251754c831cf32728f1a960bb708eb6f1174b4533fb7a96bb49b835", func := "horarium/horariumlaw10.MoveTells", spec := "moveTells", unfollowed := true, recurses := true, apart := false }
def MoveTellsSaid : Prop := moveTellsRow.holds Try.pinned (OpenSpec.ofChange moveTellsSpec)

/-- ITS FALSE NEIGHBOUR: 'it returns false'. Refute it at one input. -/
def moveTellsWrong : ChangeSpec := { name := "moveTells", fn := fun _ => fun
  | [d1, d2, d3, d4] => { results := [.lit (.bool false)], args := [d1, d2, d3, d4] }
  | _ => none }
def MoveTellsWrongFalsely : Prop := moveTellsRow.holds Try.pinned (OpenSpec.ofChange moveTellsWrong)

/-- 'horariumlaw10.MoveSame': WHATEVER THE INPUT: true; the input reads as it did. -/
def moveSameSpec : ChangeSpec := { name := "moveSame", fn := fun _ => fun
  | [d1, d2, d3] => { results := [.lit (.bool true)], args := [d1, d2, d3] }
  | _ => none }
def moveSameRow : OpenClaim := { program := "ytebmpngnbnigcaa", sum := "03d6ea5be251754c831cf32728f1a960bb708eb6f1174b4533fb7a96bb49b835", func := "horarium/horariumlaw10.MoveSame", spec := "moveSame", unfollowed := true, recurses := true, apart := false }
def MoveSameSaid : Prop := moveSameRow.holds Try.pinned (OpenSpec.ofChange moveSameSpec)

/-- ITS FALSE NEIGHBOUR: 'it returns false'. Refute it at one input. -/
def moveSameWrong : ChangeSpec := { name := "moveSame", fn := fun _ => fun
  | [d1, d2, d3] => { results := [.lit (.bool false)], args := [d1, d2, d3] }
  | _ => none }
def MoveSameWrongFalsely : Prop := moveSameRow.holds Try.pinned (OpenSpec.ofChange moveSameWrong)

/-- 'horariumlaw10.MoveAll': WHATEVER THE INPUT: true; the input reads as it did. -/
def moveAllSpec : ChangeSpec := { name := "moveAll", fn := fun _ => fun
  | [d] => { results := [.lit (.bool true)], args := [d] }
  | _ => none }
def moveAllRow : OpenClaim := { program := "ytebmpngnbnigcaa", sum := "03d6ea5be251754c831cf32728f1a960bb708eb6f1174b4533fb7a96bb49b835", func := "horarium/horariumlaw10.MoveAll", spec := "moveAll", unfollowed := true, recurses := true, apart := false }
def MoveAllSaid : Prop := moveAllRow.holds Try.pinned (OpenSpec.ofChange moveAllSpec)

/-- ITS FALSE NEIGHBOUR: 'it returns false'. Refute it at one input. -/
def moveAllWrong : ChangeSpec := { name := "moveAll", fn := fun _ => fun
  | [d] => { results := [.lit (.bool false)], args := [d] }
  | _ => none }
def MoveAllWrongFalsely : Prop := moveAllRow.holds Try.pinned (OpenSpec.ofChange moveAllWrong)

/-- 'horariumlaw5.RunsTables': WHATEVER THE INPUT: true; the input reads as it did. -/
def runsTablesSpec : ChangeSpec := { name := "runsTables", fn := fun _ => fun
  | [d1, d2] => { results := [.lit (.bool true)], args := [d1, d2] }
  | _ => none }
def runsTablesRow : OpenClaim := { program := "ytebmpngnbnigcaa", sum := "03d6ea5be251754c831cf32728f1a960bb708eb6f1174b4533fb7a96bb49b835", func := "horarium/horariumlaw5.RunsTables", spec := "runsTables", recurses := true, apart := false }
def RunsTablesSaid : Prop := runsTablesRow.holds Try.pinned (OpenSpec.ofChange runsTablesSpec)

/-- ITS FALSE NEIGHBOUR: 'it returns false'. Refute it at one input. -/
def runsTablesWrong : ChangeSpec := { name := "runsTables", fn := fun _ => fun
  | [d1, d2] => { results := [.lit (.bool false)], args := [d1, d2] }
  | _ => none }
def RunsTablesWrongFalsely : Prop := runsTablesRow.holds Try.pinned (OpenSpec.ofChange runsTablesWrong)

/-- 'horariumlaw12.ConfigNumbers': WHATEVER THE INPUT: true; the input reads as it did. -/
def configNumbersSpec : ChangeSpec := { name := "configNumbers", fn := fun _ => fun
  | [] => { results := [.lit (.bool true)], args := [] }
  | _ => none }
def configNumbersRow : OpenClaim := { program := "ytebmpngnbnigcaa", sum := "03d6ea5be251754c831cf32728f1a960bb708eb6f1174b4533fb7a96bb49b835", func := "horarium/horariumlaw12.ConfigNumbers", spec := "configNumbers", unfollowed := true, recurses := true, apart := false }
def ConfigNumbersSaid : Prop := configNumbersRow.holds Try.pinned (OpenSpec.ofChange configNumbersSpec)

/-- ITS FALSE NEIGHBOUR: 'it returns false'. Refute it at one input. -/
def configNumbersWrong : ChangeSpec := { name := "configNumbers", fn := fun _ => fun
  | [] => { results := [.lit (.bool false)], args := [] }
  | _ => none }
def ConfigNumbersWrongFalsely : Prop := configNumbersRow.holds Try.pinned (OpenSpec.ofChange configNumbersWrong)

/-- 'horariumlaw12.ConfigTells': WHATEVER THE INPUT: true; the input reads as it did. -/
def configTellsSpec : ChangeSpec := { name := "configTells", fn := fun _ => fun
  | [d1, d2, d3, d4, d5, d6, d7] => { results := [.lit (.bool true)], args := [d1, d2, d3, d4, d5, d6, d7] }
  | _ => none }
def configTellsRow : OpenClaim := { program := "ytebmpngnbnigcaa", sum := "03d6ea5be251754c831cf32728f1a960bb708eb6f1174b4533fb7a96bb49b835", func := "horarium/horariumlaw12.ConfigTells", spec := "configTells", unfollowed := true, recurses := true, apart := false }
def ConfigTellsSaid : Prop := configTellsRow.holds Try.pinned (OpenSpec.ofChange configTellsSpec)

/-- ITS FALSE NEIGHBOUR: 'it returns false'. Refute it at one input. -/
def configTellsWrong : ChangeSpec := { name := "configTells", fn := fun _ => fun
  | [d1, d2, d3, d4, d5, d6, d7] => { results := [.lit (.bool false)], args := [d1, d2, d3, d4, d5, d6, d7] }
  | _ => none }
def ConfigTellsWrongFalsely : Prop := configTellsRow.holds Try.pinned (OpenSpec.ofChange configTellsWrong)

/-- 'horariumlaw12.ConfigCopies': WHATEVER THE INPUT: true; the input reads as it did. -/
def configCopiesSpec : ChangeSpec := { name := "configCopies", fn := fun _ => fun
  | [d1, d2] => { results := [.lit (.bool true)], args := [d1, d2] }
  | _ => none }
def configCopiesRow : OpenClaim := { program := "ytebmpngnbnigcaa", sum := "03d6ea5be251754c831cf32728f1a960bb708eb6f1174b4533fb7a96bb49b835", func := "horarium/horariumlaw12.ConfigCopies", spec := "configCopies", unfollowed := true, recurses := true, apart := false }
def ConfigCopiesSaid : Prop := configCopiesRow.holds Try.pinned (OpenSpec.ofChange configCopiesSpec)

/-- ITS FALSE NEIGHBOUR: 'it returns false'. Refute it at one input. -/
def configCopiesWrong : ChangeSpec := { name := "configCopies", fn := fun _ => fun
  | [d1, d2] => { results := [.lit (.bool false)], args := [d1, d2] }
  | _ => none }
def ConfigCopiesWrongFalsely : Prop := configCopiesRow.holds Try.pinned (OpenSpec.ofChange configCopiesWrong)

/-- 'horariumlaw12.ConfigFirst': WHATEVER THE INPUT: true; the input reads as it did. -/
def configFirstSpec : ChangeSpec := { name := "configFirst", fn := fun _ => fun
  | [d1, d2] => { results := [.lit (.bool true)], args := [d1, d2] }
  | _ => none }
def configFirstRow : OpenClaim := { program := "ytebmpngnbnigcaa", sum := "03d6ea5be251754c831cf32728f1a960bb708eb6f1174b4533fb7a96bb49b835", func := "horarium/horariumlaw12.ConfigFirst", spec := "configFirst", unfollowed := true, recurses := true, apart := false }
def ConfigFirstSaid : Prop := configFirstRow.holds Try.pinned (OpenSpec.ofChange configFirstSpec)

/-- ITS FALSE NEIGHBOUR: 'it returns false'. Refute it at one input. -/
def configFirstWrong : ChangeSpec := { name := "configFirst", fn := fun _ => fun
  | [d1, d2] => { results := [.lit (.bool false)], args := [d1, d2] }
  | _ => none }
def ConfigFirstWrongFalsely : Prop := configFirstRow.holds Try.pinned (OpenSpec.ofChange configFirstWrong)

/-- 'horariumlaw12.ConfigTurned': WHATEVER THE INPUT: true; the input reads as it did. -/
def configTurnedSpec : ChangeSpec := { name := "configTurned", fn := fun _ => fun
  | [d] => { results := [.lit (.bool true)], args := [d] }
  | _ => none }
def configTurnedRow : OpenClaim := { program := "ytebmpngnbnigcaa", sum := "03d6ea5be251754c831cf32728f1a960bb708eb6f1174b4533fb7a96bb49b835", func := "horarium/horariumlaw12.ConfigTurned", spec := "configTurned", unfollowed := true, recurses := true, apart := false }
def ConfigTurnedSaid : Prop := configTurnedRow.holds Try.pinned (OpenSpec.ofChange configTurnedSpec)

/-- ITS FALSE NEIGHBOUR: 'it returns false'. Refute it at one input. -/
def configTurnedWrong : ChangeSpec := { name := "configTurned", fn := fun _ => fun
  | [d] => { results := [.lit (.bool false)], args := [d] }
  | _ => none }
def ConfigTurnedWrongFalsely : Prop := configTurnedRow.holds Try.pinned (OpenSpec.ofChange configTurnedWrong)

/- THE SECOND FORM. 'bulk': how many values and letters a reading holds, each counted each time it is reached (what is shared counts as often as it is met; a slice's spare places count too). A statement '..UptoSaid' is the law's where the arguments, and the package variables that the reading takes, are together of bulk at most 1048576: NARROWER than '..Said'. Prove '..Said' where nothing that the law and all that it calls make is longer than what came in: it says more and counts as full. Else prove '..UptoSaid'. A law counts once. -/
mutual
def uptoBulk {H : Type} : DataW H → Nat
  | .lit (.string bytes) => bytes.length + 1
  | .lit _ => 1
  | .nil => 1
  | .ptr d => uptoBulk d + 1
  | .slice elems spare => uptoBulkAll elems + uptoBulkAll spare + 1
  | .agg parts => uptoBulkAll parts + 1
  | .iface _ d => uptoBulk d + 1
  | .map entries => uptoBulkEntries entries + 1
  | .held _ => 1
def uptoBulkAll {H : Type} : List (DataW H) → Nat
  | [] => 0
  | d :: r => uptoBulk d + uptoBulkAll r
def uptoBulkEntries {H : Type} : List (Lit × DataW H) → Nat
  | [] => 0
  | x :: r => uptoBulkEntry x + uptoBulkEntries r
def uptoBulkEntry {H : Type} : Lit × DataW H → Nat
  | (.string bytes, d) => bytes.length + uptoBulk d + 1
  | (_, d) => uptoBulk d + 1
 end
def uptoSmall : (H : Type) → List (DataW H) → Bool := fun _ ds => decide (uptoBulkAll ds ≤ 1048576)
def OpenSpec.upto (s : _root_.Go.ChangeSpec) : _root_.Go.OpenSpec := { _root_.Go.OpenSpec.ofChange s with cond := some uptoSmall }

/-- 'horariumlaw9.BoundNumbers', WHERE WHAT IT READS IS OF BULK AT MOST 1048576: true; the input reads as it did. -/
def boundNumbersUptoRow : OpenClaim := { program := "ytebmpngnbnigcaa", sum := "03d6ea5be251754c831cf32728f1a960bb708eb6f1174b4533fb7a96bb49b835", func := "horarium/horariumlaw9.BoundNumbers", spec := "boundNumbers", recurses := true, apart := false, narrowed := true }
def BoundNumbersUptoSaid : Prop := boundNumbersUptoRow.holds Try.pinned (OpenSpec.upto boundNumbersSpec)

/-- 'horariumlaw9.BoundTells', WHERE WHAT IT READS IS OF BULK AT MOST 1048576: true; the input reads as it did. -/
def boundTellsUptoRow : OpenClaim := { program := "ytebmpngnbnigcaa", sum := "03d6ea5be251754c831cf32728f1a960bb708eb6f1174b4533fb7a96bb49b835", func := "horarium/horariumlaw9.BoundTells", spec := "boundTells", recurses := true, apart := false, narrowed := true }
def BoundTellsUptoSaid : Prop := boundTellsUptoRow.holds Try.pinned (OpenSpec.upto boundTellsSpec)

/-- 'horariumlaw4.CursorNumbers', WHERE WHAT IT READS IS OF BULK AT MOST 1048576: true; the input reads as it did. -/
def cursorNumbersUptoRow : OpenClaim := { program := "ytebmpngnbnigcaa", sum := "03d6ea5be251754c831cf32728f1a960bb708eb6f1174b4533fb7a96bb49b835", func := "horarium/horariumlaw4.CursorNumbers", spec := "cursorNumbers", recurses := true, apart := false, narrowed := true }
def CursorNumbersUptoSaid : Prop := cursorNumbersUptoRow.holds Try.pinned (OpenSpec.upto cursorNumbersSpec)

/-- 'horariumlaw4.CursorPlays', WHERE WHAT IT READS IS OF BULK AT MOST 1048576: true; the input reads as it did. -/
def cursorPlaysUptoRow : OpenClaim := { program := "ytebmpngnbnigcaa", sum := "03d6ea5be251754c831cf32728f1a960bb708eb6f1174b4533fb7a96bb49b835", func := "horarium/horariumlaw4.CursorPlays", spec := "cursorPlays", recurses := true, apart := false, narrowed := true }
def CursorPlaysUptoSaid : Prop := cursorPlaysUptoRow.holds Try.pinned (OpenSpec.upto cursorPlaysSpec)

/-- 'horariumlaw4.CursorAgain', WHERE WHAT IT READS IS OF BULK AT MOST 1048576: true; the input reads as it did. -/
def cursorAgainUptoRow : OpenClaim := { program := "ytebmpngnbnigcaa", sum := "03d6ea5be251754c831cf32728f1a960bb708eb6f1174b4533fb7a96bb49b835", func := "horarium/horariumlaw4.CursorAgain", spec := "cursorAgain", recurses := true, apart := false, narrowed := true }
def CursorAgainUptoSaid : Prop := cursorAgainUptoRow.holds Try.pinned (OpenSpec.upto cursorAgainSpec)

/-- 'horariumlaw4.CursorTicks', WHERE WHAT IT READS IS OF BULK AT MOST 1048576: true; the input reads as it did. -/
def cursorTicksUptoRow : OpenClaim := { program := "ytebmpngnbnigcaa", sum := "03d6ea5be251754c831cf32728f1a960bb708eb6f1174b4533fb7a96bb49b835", func := "horarium/horariumlaw4.CursorTicks", spec := "cursorTicks", recurses := true, apart := false, narrowed := true }
def CursorTicksUptoSaid : Prop := cursorTicksUptoRow.holds Try.pinned (OpenSpec.upto cursorTicksSpec)

/-- 'horariumlaw10.MoveNumbers', WHERE WHAT IT READS IS OF BULK AT MOST 1048576: true; the input reads as it did. -/
def moveNumbersUptoRow : OpenClaim := { program := "ytebmpngnbnigcaa", sum := "03d6ea5be251754c831cf32728f1a960bb708eb6f1174b4533fb7a96bb49b835", func := "horarium/horariumlaw10.MoveNumbers", spec := "moveNumbers", unfollowed := true, recurses := true, apart := false, narrowed := true }
def MoveNumbersUptoSaid : Prop := moveNumbersUptoRow.holds Try.pinned (OpenSpec.upto moveNumbersSpec)

/-- 'horariumlaw10.MoveTells', WHERE WHAT IT READS IS OF BULK AT MOST 1048576: true; the input reads as it did. -/
def moveTellsUptoRow : OpenClaim := { program := "ytebmpngnbnigcaa", sum := "03d6ea5be251754c831cf32728f1a960bb708eb6f1174b4533fb7a96bb49b835", func := "horarium/horariumlaw10.MoveTells", spec := "moveTells", unfollowed := true, recurses := true, apart := false, narrowed := true }
def MoveTellsUptoSaid : Prop := moveTellsUptoRow.holds Try.pinned (OpenSpec.upto moveTellsSpec)

/-- 'horariumlaw10.MoveSame', WHERE WHAT IT READS IS OF BULK AT MOST 1048576: true; the input reads as it did. -/
def moveSameUptoRow : OpenClaim := { program := "ytebmpngnbnigcaa", sum := "03d6ea5be251754c831cf32728f1a960bb708eb6f1174b4533fb7a96bb49b835", func := "horarium/horariumlaw10.MoveSame", spec := "moveSame", unfollowed := true, recurses := true, apart := false, narrowed := true }
def MoveSameUptoSaid : Prop := moveSameUptoRow.holds Try.pinned (OpenSpec.upto moveSameSpec)

/-- 'horariumlaw10.MoveAll', WHERE WHAT IT READS IS OF BULK AT MOST 1048576: true; the input reads as it did. -/
def moveAllUptoRow : OpenClaim := { program := "ytebmpngnbnigcaa", sum := "03d6ea5be251754c831cf32728f1a960bb708eb6f1174b4533fb7a96bb49b835", func := "horarium/horariumlaw10.MoveAll", spec := "moveAll", unfollowed := true, recurses := true, apart := false, narrowed := true }
def MoveAllUptoSaid : Prop := moveAllUptoRow.holds Try.pinned (OpenSpec.upto moveAllSpec)

/-- 'horariumlaw5.RunsTables', WHERE WHAT IT READS IS OF BULK AT MOST 1048576: true; the input reads as it did. -/
def runsTablesUptoRow : OpenClaim := { program := "ytebmpngnbnigcaa", sum := "03d6ea5be251754c831cf32728f1a960bb708eb6f1174b4533fb7a96bb49b835", func := "horarium/horariumlaw5.RunsTables", spec := "runsTables", recurses := true, apart := false, narrowed := true }
def RunsTablesUptoSaid : Prop := runsTablesUptoRow.holds Try.pinned (OpenSpec.upto runsTablesSpec)

/-- 'horariumlaw12.ConfigNumbers', WHERE WHAT IT READS IS OF BULK AT MOST 1048576: true; the input reads as it did. -/
def configNumbersUptoRow : OpenClaim := { program := "ytebmpngnbnigcaa", sum := "03d6ea5be251754c831cf32728f1a960bb708eb6f1174b4533fb7a96bb49b835", func := "horarium/horariumlaw12.ConfigNumbers", spec := "configNumbers", unfollowed := true, recurses := true, apart := false, narrowed := true }
def ConfigNumbersUptoSaid : Prop := configNumbersUptoRow.holds Try.pinned (OpenSpec.upto configNumbersSpec)

/-- 'horariumlaw12.ConfigTells', WHERE WHAT IT READS IS OF BULK AT MOST 1048576: true; the input reads as it did. -/
def configTellsUptoRow : OpenClaim := { program := "ytebmpngnbnigcaa", sum := "03d6ea5be251754c831cf32728f1a960bb708eb6f1174b4533fb7a96bb49b835", func := "horarium/horariumlaw12.ConfigTells", spec := "configTells", unfollowed := true, recurses := true, apart := false, narrowed := true }
def ConfigTellsUptoSaid : Prop := configTellsUptoRow.holds Try.pinned (OpenSpec.upto configTellsSpec)

/-- 'horariumlaw12.ConfigCopies', WHERE WHAT IT READS IS OF BULK AT MOST 1048576: true; the input reads as it did. -/
def configCopiesUptoRow : OpenClaim := { program := "ytebmpngnbnigcaa", sum := "03d6ea5be251754c831cf32728f1a960bb708eb6f1174b4533fb7a96bb49b835", func := "horarium/horariumlaw12.ConfigCopies", spec := "configCopies", unfollowed := true, recurses := true, apart := false, narrowed := true }
def ConfigCopiesUptoSaid : Prop := configCopiesUptoRow.holds Try.pinned (OpenSpec.upto configCopiesSpec)

/-- 'horariumlaw12.ConfigFirst', WHERE WHAT IT READS IS OF BULK AT MOST 1048576: true; the input reads as it did. -/
def configFirstUptoRow : OpenClaim := { program := "ytebmpngnbnigcaa", sum := "03d6ea5be251754c831cf32728f1a960bb708eb6f1174b4533fb7a96bb49b835", func := "horarium/horariumlaw12.ConfigFirst", spec := "configFirst", unfollowed := true, recurses := true, apart := false, narrowed := true }
def ConfigFirstUptoSaid : Prop := configFirstUptoRow.holds Try.pinned (OpenSpec.upto configFirstSpec)

/-- 'horariumlaw12.ConfigTurned', WHERE WHAT IT READS IS OF BULK AT MOST 1048576: true; the input reads as it did. -/
def configTurnedUptoRow : OpenClaim := { program := "ytebmpngnbnigcaa", sum := "03d6ea5be251754c831cf32728f1a960bb708eb6f1174b4533fb7a96bb49b835", func := "horarium/horariumlaw12.ConfigTurned", spec := "configTurned", unfollowed := true, recurses := true, apart := false, narrowed := true }
def ConfigTurnedUptoSaid : Prop := configTurnedUptoRow.holds Try.pinned (OpenSpec.upto configTurnedSpec)

end Rows
end Go.Proofs.Ytebmpngnbnigcaa
