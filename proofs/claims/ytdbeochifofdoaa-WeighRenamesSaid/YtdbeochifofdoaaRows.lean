/-
  No cell of these rows narrows 'for every input' (looked for: loops, veiled, ifaces, maps, wideKeys, modest, calm, conditions, laid).
  DERIVED. THE GIVEN ROWS OF THIS SEAT. 14 by the template 'for every input the law returns true; each argument reads behind the call as it read before'; 0 by the template 'total and deterministic' (their statements: YtdbeochifofdoaaTotals.lean).
  GIVEN WITH THE SEED: the statements are not yours to turn. If you find one false, say at which input.
  Laid BY PROGRAM, IN A SANDBOX (cutbox-rows.mjs): the forced cells as the released guide's own fill.sh prints them over the translation 7c0427dab7a809b4… (all of the seat's roots in one cut). By AI agents, Wed Nov 11 2026. No macro, syntax, notation, axiom, sorry.
-/
import Derived.Test.YtdbeochifofdoaaChecked
import GoSem.Claim
import GoSem.ClaimJoined
import GoSem.ClaimMapViews
import Derived.JoinedTies
import Derived.KernelRfl
namespace Go.Proofs.Ytdbeochifofdoaa
/- THE CELL 'sum', in the pinned program and in every row, IS THE sha256 OF THE DUMP (.gsa) THAT YtdbeochifofdoaaProg.lean LOADS. Nothing in Lean hashes anything: it is a label: what it is worth is what the hold of that sum in a sandbox is worth. -/
noncomputable def Try.pinned : Pinned := { name := "ytdbeochifofdoaa", sum := "7c0427dab7a809b44ceb18a52625c1af42c36380ff543e4bf03166ebc6ef8d00", checked := Try.checked }
namespace Rows
def none {H : Type} : Left H := { results := [], args := [] }

/-- 'verditerlaw06.WeighTells': WHATEVER THE INPUT: true; the input reads as it did. -/
def weighTellsSpec : ChangeSpec := { name := "weighTells", fn := fun _ => fun
  | [d1, d2] => { results := [.lit (.bool true)], args := [d1, d2] }
  | _ => none }
def weighTellsRow : OpenClaim := { program := "ytdbeochifofdoaa", sum := "7c0427dab7a809b44ceb18a52625c1af42c36380ff543e4bf03166ebc6ef8d00", func := "verditer/verditerlaw06.WeighTells", spec := "weighTells", unfollowed := true, recurses := true, plainKeys := false, apart := false }
def WeighTellsSaid : Prop := weighTellsRow.holds Try.pinned (OpenSpec.ofChange weighTellsSpec)

/-- ITS FALSE NEIGHBOUR: 'it returns false'. Refute it at one input. -/
def weighTellsWrong : ChangeSpec := { name := "weighTells", fn := fun _ => fun
  | [d1, d2] => { results := [.lit (.bool false)], args := [d1, d2] }
  | _ => none }
def WeighTellsWrongFalsely : Prop := weighTellsRow.holds Try.pinned (OpenSpec.ofChange weighTellsWrong)

/-- 'verditerlaw06.WeighBads': WHATEVER THE INPUT: true; the input reads as it did. -/
def weighBadsSpec : ChangeSpec := { name := "weighBads", fn := fun _ => fun
  | [d1, d2] => { results := [.lit (.bool true)], args := [d1, d2] }
  | _ => none }
def weighBadsRow : OpenClaim := { program := "ytdbeochifofdoaa", sum := "7c0427dab7a809b44ceb18a52625c1af42c36380ff543e4bf03166ebc6ef8d00", func := "verditer/verditerlaw06.WeighBads", spec := "weighBads", unfollowed := true, recurses := true, plainKeys := false, apart := false }
def WeighBadsSaid : Prop := weighBadsRow.holds Try.pinned (OpenSpec.ofChange weighBadsSpec)

/-- ITS FALSE NEIGHBOUR: 'it returns false'. Refute it at one input. -/
def weighBadsWrong : ChangeSpec := { name := "weighBads", fn := fun _ => fun
  | [d1, d2] => { results := [.lit (.bool false)], args := [d1, d2] }
  | _ => none }
def WeighBadsWrongFalsely : Prop := weighBadsRow.holds Try.pinned (OpenSpec.ofChange weighBadsWrong)

/-- 'verditerlaw06.WeighMost': WHATEVER THE INPUT: true; the input reads as it did. -/
def weighMostSpec : ChangeSpec := { name := "weighMost", fn := fun _ => fun
  | [d1, d2] => { results := [.lit (.bool true)], args := [d1, d2] }
  | _ => none }
def weighMostRow : OpenClaim := { program := "ytdbeochifofdoaa", sum := "7c0427dab7a809b44ceb18a52625c1af42c36380ff543e4bf03166ebc6ef8d00", func := "verditer/verditerlaw06.WeighMost", spec := "weighMost", unfollowed := true, recurses := true, plainKeys := false, apart := false }
def WeighMostSaid : Prop := weighMostRow.holds Try.pinned (OpenSpec.ofChange weighMostSpec)

/-- ITS FALSE NEIGHBOUR: 'it returns false'. Refute it at one input. -/
def weighMostWrong : ChangeSpec := { name := "weighMost", fn := fun _ => fun
  | [d1, d2] => { results := [.lit (.bool false)], args := [d1, d2] }
  | _ => none }
def WeighMostWrongFalsely : Prop := weighMostRow.holds Try.pinned (OpenSpec.ofChange weighMostWrong)

/-- 'verditerlaw06.WeighLeast': WHATEVER THE INPUT: true; the input reads as it did. -/
def weighLeastSpec : ChangeSpec := { name := "weighLeast", fn := fun _ => fun
  | [d] => { results := [.lit (.bool true)], args := [d] }
  | _ => none }
def weighLeastRow : OpenClaim := { program := "ytdbeochifofdoaa", sum := "7c0427dab7a809b44ceb18a52625c1af42c36380ff543e4bf03166ebc6ef8d00", func := "verditer/verditerlaw06.WeighLeast", spec := "weighLeast", unfollowed := true, recurses := true, plainKeys := false, apart := false }
def WeighLeastSaid : Prop := weighLeastRow.holds Try.pinned (OpenSpec.ofChange weighLeastSpec)

/-- ITS FALSE NEIGHBOUR: 'it returns false'. Refute it at one input. -/
def weighLeastWrong : ChangeSpec := { name := "weighLeast", fn := fun _ => fun
  | [d] => { results := [.lit (.bool false)], args := [d] }
  | _ => none }
def WeighLeastWrongFalsely : Prop := weighLeastRow.holds Try.pinned (OpenSpec.ofChange weighLeastWrong)

/-- 'verditerlaw06.WeighPossible': WHATEVER THE INPUT: true; the input reads as it did. -/
def weighPossibleSpec : ChangeSpec := { name := "weighPossible", fn := fun _ => fun
  | [d1, d2] => { results := [.lit (.bool true)], args := [d1, d2] }
  | _ => none }
def weighPossibleRow : OpenClaim := { program := "ytdbeochifofdoaa", sum := "7c0427dab7a809b44ceb18a52625c1af42c36380ff543e4bf03166ebc6ef8d00", func := "verditer/verditerlaw06.WeighPossible", spec := "weighPossible", unfollowed := true, recurses := true, plainKeys := false, apart := false }
def WeighPossibleSaid : Prop := weighPossibleRow.holds Try.pinned (OpenSpec.ofChange weighPossibleSpec)

/-- ITS FALSE NEIGHBOUR: 'it returns false'. Refute it at one input. -/
def weighPossibleWrong : ChangeSpec := { name := "weighPossible", fn := fun _ => fun
  | [d1, d2] => { results := [.lit (.bool false)], args := [d1, d2] }
  | _ => none }
def WeighPossibleWrongFalsely : Prop := weighPossibleRow.holds Try.pinned (OpenSpec.ofChange weighPossibleWrong)

/-- 'verditerlaw06.WeighAnswers': WHATEVER THE INPUT: true; the input reads as it did. -/
def weighAnswersSpec : ChangeSpec := { name := "weighAnswers", fn := fun _ => fun
  | [d1, d2, d3] => { results := [.lit (.bool true)], args := [d1, d2, d3] }
  | _ => none }
def weighAnswersRow : OpenClaim := { program := "ytdbeochifofdoaa", sum := "7c0427dab7a809b44ceb18a52625c1af42c36380ff543e4bf03166ebc6ef8d00", func := "verditer/verditerlaw06.WeighAnswers", spec := "weighAnswers", unfollowed := true, recurses := true, plainKeys := false, apart := false }
def WeighAnswersSaid : Prop := weighAnswersRow.holds Try.pinned (OpenSpec.ofChange weighAnswersSpec)

/-- ITS FALSE NEIGHBOUR: 'it returns false'. Refute it at one input. -/
def weighAnswersWrong : ChangeSpec := { name := "weighAnswers", fn := fun _ => fun
  | [d1, d2, d3] => { results := [.lit (.bool false)], args := [d1, d2, d3] }
  | _ => none }
def WeighAnswersWrongFalsely : Prop := weighAnswersRow.holds Try.pinned (OpenSpec.ofChange weighAnswersWrong)

/-- 'verditerlaw06.WeighChecks': WHATEVER THE INPUT: true; the input reads as it did. -/
def weighChecksSpec : ChangeSpec := { name := "weighChecks", fn := fun _ => fun
  | [d1, d2, d3] => { results := [.lit (.bool true)], args := [d1, d2, d3] }
  | _ => none }
def weighChecksRow : OpenClaim := { program := "ytdbeochifofdoaa", sum := "7c0427dab7a809b44ceb18a52625c1af42c36380ff543e4bf03166ebc6ef8d00", func := "verditer/verditerlaw06.WeighChecks", spec := "weighChecks", unfollowed := true, recurses := true, plainKeys := false, apart := false }
def WeighChecksSaid : Prop := weighChecksRow.holds Try.pinned (OpenSpec.ofChange weighChecksSpec)

/-- ITS FALSE NEIGHBOUR: 'it returns false'. Refute it at one input. -/
def weighChecksWrong : ChangeSpec := { name := "weighChecks", fn := fun _ => fun
  | [d1, d2, d3] => { results := [.lit (.bool false)], args := [d1, d2, d3] }
  | _ => none }
def WeighChecksWrongFalsely : Prop := weighChecksRow.holds Try.pinned (OpenSpec.ofChange weighChecksWrong)

/-- 'verditerlaw06.WeighMakes': WHATEVER THE INPUT: true; the input reads as it did. -/
def weighMakesSpec : ChangeSpec := { name := "weighMakes", fn := fun _ => fun
  | [d1, d2] => { results := [.lit (.bool true)], args := [d1, d2] }
  | _ => none }
def weighMakesRow : OpenClaim := { program := "ytdbeochifofdoaa", sum := "7c0427dab7a809b44ceb18a52625c1af42c36380ff543e4bf03166ebc6ef8d00", func := "verditer/verditerlaw06.WeighMakes", spec := "weighMakes", unfollowed := true, recurses := true, plainKeys := false, apart := false }
def WeighMakesSaid : Prop := weighMakesRow.holds Try.pinned (OpenSpec.ofChange weighMakesSpec)

/-- ITS FALSE NEIGHBOUR: 'it returns false'. Refute it at one input. -/
def weighMakesWrong : ChangeSpec := { name := "weighMakes", fn := fun _ => fun
  | [d1, d2] => { results := [.lit (.bool false)], args := [d1, d2] }
  | _ => none }
def WeighMakesWrongFalsely : Prop := weighMakesRow.holds Try.pinned (OpenSpec.ofChange weighMakesWrong)

/-- 'verditerlaw06.WeighCases': WHATEVER THE INPUT: true; the input reads as it did. -/
def weighCasesSpec : ChangeSpec := { name := "weighCases", fn := fun _ => fun
  | [d1, d2, d3] => { results := [.lit (.bool true)], args := [d1, d2, d3] }
  | _ => none }
def weighCasesRow : OpenClaim := { program := "ytdbeochifofdoaa", sum := "7c0427dab7a809b44ceb18a52625c1af42c36380ff543e4bf03166ebc6ef8d00", func := "verditer/verditerlaw06.WeighCases", spec := "weighCases", unfollowed := true, recurses := true, plainKeys := false, apart := false }
def WeighCasesSaid : Prop := weighCasesRow.holds Try.pinned (OpenSpec.ofChange weighCasesSpec)

/-- ITS FALSE NEIGHBOUR: 'it returns false'. Refute it at one input. -/
def weighCasesWrong : ChangeSpec := { name := "weighCases", fn := fun _ => fun
  | [d1, d2, d3] => { results := [.lit (.bool false)], args := [d1, d2, d3] }
  | _ => none }
def WeighCasesWrongFalsely : Prop := weighCasesRow.holds Try.pinned (OpenSpec.ofChange weighCasesWrong)

/-- 'verditerlaw06.WeighMarks': WHATEVER THE INPUT: true; the input reads as it did. -/
def weighMarksSpec : ChangeSpec := { name := "weighMarks", fn := fun _ => fun
  | [d1, d2] => { results := [.lit (.bool true)], args := [d1, d2] }
  | _ => none }
def weighMarksRow : OpenClaim := { program := "ytdbeochifofdoaa", sum := "7c0427dab7a809b44ceb18a52625c1af42c36380ff543e4bf03166ebc6ef8d00", func := "verditer/verditerlaw06.WeighMarks", spec := "weighMarks", unfollowed := true, recurses := true, plainKeys := false, apart := false }
def WeighMarksSaid : Prop := weighMarksRow.holds Try.pinned (OpenSpec.ofChange weighMarksSpec)

/-- ITS FALSE NEIGHBOUR: 'it returns false'. Refute it at one input. -/
def weighMarksWrong : ChangeSpec := { name := "weighMarks", fn := fun _ => fun
  | [d1, d2] => { results := [.lit (.bool false)], args := [d1, d2] }
  | _ => none }
def WeighMarksWrongFalsely : Prop := weighMarksRow.holds Try.pinned (OpenSpec.ofChange weighMarksWrong)

/-- 'verditerlaw06.WeighFromMarks': WHATEVER THE INPUT: true; the input reads as it did. -/
def weighFromMarksSpec : ChangeSpec := { name := "weighFromMarks", fn := fun _ => fun
  | [d] => { results := [.lit (.bool true)], args := [d] }
  | _ => none }
def weighFromMarksRow : OpenClaim := { program := "ytdbeochifofdoaa", sum := "7c0427dab7a809b44ceb18a52625c1af42c36380ff543e4bf03166ebc6ef8d00", func := "verditer/verditerlaw06.WeighFromMarks", spec := "weighFromMarks", unfollowed := true, recurses := true, plainKeys := false, apart := false }
def WeighFromMarksSaid : Prop := weighFromMarksRow.holds Try.pinned (OpenSpec.ofChange weighFromMarksSpec)

/-- ITS FALSE NEIGHBOUR: 'it returns false'. Refute it at one input. -/
def weighFromMarksWrong : ChangeSpec := { name := "weighFromMarks", fn := fun _ => fun
  | [d] => { results := [.lit (.bool false)], args := [d] }
  | _ => none }
def WeighFromMarksWrongFalsely : Prop := weighFromMarksRow.holds Try.pinned (OpenSpec.ofChange weighFromMarksWrong)

/-- 'verditerlaw06.WeighFinds': WHATEVER THE INPUT: true; the input reads as it did. -/
def weighFindsSpec : ChangeSpec := { name := "weighFinds", fn := fun _ => fun
  | [d1, d2, d3] => { results := [.lit (.bool true)], args := [d1, d2, d3] }
  | _ => none }
def weighFindsRow : OpenClaim := { program := "ytdbeochifofdoaa", sum := "7c0427dab7a809b44ceb18a52625c1af42c36380ff543e4bf03166ebc6ef8d00", func := "verditer/verditerlaw06.WeighFinds", spec := "weighFinds", unfollowed := true, recurses := true, plainKeys := false, apart := false }
def WeighFindsSaid : Prop := weighFindsRow.holds Try.pinned (OpenSpec.ofChange weighFindsSpec)

/-- ITS FALSE NEIGHBOUR: 'it returns false'. Refute it at one input. -/
def weighFindsWrong : ChangeSpec := { name := "weighFinds", fn := fun _ => fun
  | [d1, d2, d3] => { results := [.lit (.bool false)], args := [d1, d2, d3] }
  | _ => none }
def WeighFindsWrongFalsely : Prop := weighFindsRow.holds Try.pinned (OpenSpec.ofChange weighFindsWrong)

/-- 'verditerlaw06.WeighMirrors': WHATEVER THE INPUT: true; the input reads as it did. -/
def weighMirrorsSpec : ChangeSpec := { name := "weighMirrors", fn := fun _ => fun
  | [d1, d2, d3] => { results := [.lit (.bool true)], args := [d1, d2, d3] }
  | _ => none }
def weighMirrorsRow : OpenClaim := { program := "ytdbeochifofdoaa", sum := "7c0427dab7a809b44ceb18a52625c1af42c36380ff543e4bf03166ebc6ef8d00", func := "verditer/verditerlaw06.WeighMirrors", spec := "weighMirrors", unfollowed := true, recurses := true, plainKeys := false, apart := false }
def WeighMirrorsSaid : Prop := weighMirrorsRow.holds Try.pinned (OpenSpec.ofChange weighMirrorsSpec)

/-- ITS FALSE NEIGHBOUR: 'it returns false'. Refute it at one input. -/
def weighMirrorsWrong : ChangeSpec := { name := "weighMirrors", fn := fun _ => fun
  | [d1, d2, d3] => { results := [.lit (.bool false)], args := [d1, d2, d3] }
  | _ => none }
def WeighMirrorsWrongFalsely : Prop := weighMirrorsRow.holds Try.pinned (OpenSpec.ofChange weighMirrorsWrong)

/-- 'verditerlaw06.WeighRenames': WHATEVER THE INPUT: true; the input reads as it did. -/
def weighRenamesSpec : ChangeSpec := { name := "weighRenames", fn := fun _ => fun
  | [d1, d2, d3] => { results := [.lit (.bool true)], args := [d1, d2, d3] }
  | _ => none }
def weighRenamesRow : OpenClaim := { program := "ytdbeochifofdoaa", sum := "7c0427dab7a809b44ceb18a52625c1af42c36380ff543e4bf03166ebc6ef8d00", func := "verditer/verditerlaw06.WeighRenames", spec := "weighRenames", unfollowed := true, recurses := true, plainKeys := false, apart := false }
def WeighRenamesSaid : Prop := weighRenamesRow.holds Try.pinned (OpenSpec.ofChange weighRenamesSpec)

/-- ITS FALSE NEIGHBOUR: 'it returns false'. Refute it at one input. -/
def weighRenamesWrong : ChangeSpec := { name := "weighRenames", fn := fun _ => fun
  | [d1, d2, d3] => { results := [.lit (.bool false)], args := [d1, d2, d3] }
  | _ => none }
def WeighRenamesWrongFalsely : Prop := weighRenamesRow.holds Try.pinned (OpenSpec.ofChange weighRenamesWrong)

/- THE SECOND FORM. 'bulk': how many values and letters a reading holds, each counted each time it is reached (what is shared counts as often as it is met; a slice's spare places count too). A statement '..UptoSaid' is the law's where the arguments, and the package variables that the reading takes, are together of bulk at most 1048576: NARROWER than '..Said'. Prove '..Said' where nothing that the law and all that it calls make is longer than what came in: it says more and counts as full. Else prove '..UptoSaid'. A law counts once. -/
mutual
def uptoBulk {H : Type} : DataW H → Nat
  | .lit (.string bytes) => bytes.length + 1
  | .lit _ => 1
  | .nil => 1
  | .ptr d => uptoBulk d + 1
  | .slice elems spare => uptoBulkAll elems + uptoBulkAll spare + 1
  | .agg parts => uptoBulkAll parts + 1
  | .iface _ d => uptoBulk d + 1
  | .map entries => uptoBulkEntries entries + 1
  | .held _ => 1
def uptoBulkAll {H : Type} : List (DataW H) → Nat
  | [] => 0
  | d :: r => uptoBulk d + uptoBulkAll r
def uptoBulkEntries {H : Type} : List (Lit × DataW H) → Nat
  | [] => 0
  | x :: r => uptoBulkEntry x + uptoBulkEntries r
def uptoBulkEntry {H : Type} : Lit × DataW H → Nat
  | (.string bytes, d) => bytes.length + uptoBulk d + 1
  | (_, d) => uptoBulk d + 1
 end
def uptoSmall : (H : Type) → List (DataW H) → Bool := fun _ ds => decide (uptoBulkAll ds ≤ 1048576)
def OpenSpec.upto (s : _root_.Go.ChangeSpec) : _root_.Go.OpenSpec := { _root_.Go.OpenSpec.ofChange s with cond := some uptoSmall }

/-- 'verditerlaw06.WeighTells', WHERE WHAT IT READS IS OF BULK AT MOST 1048576: true; the input reads as it did. -/
def weighTellsUptoRow : OpenClaim := { program := "ytdbeochifofdoaa", sum := "7c0427dab7a809b44ceb18a52625c1af42c36380ff543e4bf03166ebc6ef8d00", func := "verditer/verditerlaw06.WeighTells", spec := "weighTells", unfollowed := true, recurses := true, plainKeys := false, apart := false, narrowed := true }
def WeighTellsUptoSaid : Prop := weighTellsUptoRow.holds Try.pinned (OpenSpec.upto weighTellsSpec)

/-- 'verditerlaw06.WeighBads', WHERE WHAT IT READS IS OF BULK AT MOST 1048576: true; the input reads as it did. -/
def weighBadsUptoRow : OpenClaim := { program := "ytdbeochifofdoaa", sum := "7c0427dab7a809b44ceb18a52625c1af42c36380ff543e4bf03166ebc6ef8d00", func := "verditer/verditerlaw06.WeighBads", spec := "weighBads", unfollowed := true, recurses := true, plainKeys := false, apart := false, narrowed := true }
def WeighBadsUptoSaid : Prop := weighBadsUptoRow.holds Try.pinned (OpenSpec.upto weighBadsSpec)

/-- 'verditerlaw06.WeighMost', WHERE WHAT IT READS IS OF BULK AT MOST 1048576: true; the input reads as it did. -/
def weighMostUptoRow : OpenClaim := { program := "ytdbeochifofdoaa", sum := "7c0427dab7a809b44ceb18a52625c1af42c36380ff543e4bf03166ebc6ef8d00", func := "verditer/verditerlaw06.WeighMost", spec := "weighMost", unfollowed := true, recurses := true, plainKeys := false, apart := false, narrowed := true }
def WeighMostUptoSaid : Prop := weighMostUptoRow.holds Try.pinned (OpenSpec.upto weighMostSpec)

/-- 'verditerlaw06.WeighLeast', WHERE WHAT IT READS IS OF BULK AT MOST 1048576: true; the input reads as it did. -/
def weighLeastUptoRow : OpenClaim := { program := "ytdbeochifofdoaa", sum := "7c0427dab7a809b44ceb18a52625c1af42c36380ff543e4bf03166ebc6ef8d00", func := "verditer/verditerlaw06.WeighLeast", spec := "weighLeast", unfollowed := true, recurses := true, plainKeys := false, apart := false, narrowed := true }
def WeighLeastUptoSaid : Prop := weighLeastUptoRow.holds Try.pinned (OpenSpec.upto weighLeastSpec)

/-- 'verditerlaw06.WeighPossible', WHERE WHAT IT READS IS OF BULK AT MOST 1048576: true; the input reads as it did. -/
def weighPossibleUptoRow : OpenClaim := { program := "ytdbeochifofdoaa", sum := "7c0427dab7a809b44ceb18a52625c1af42c36380ff543e4bf03166ebc6ef8d00", func := "verditer/verditerlaw06.WeighPossible", spec := "weighPossible", unfollowed := true, recurses := true, plainKeys := false, apart := false, narrowed := true }
def WeighPossibleUptoSaid : Prop := weighPossibleUptoRow.holds Try.pinned (OpenSpec.upto weighPossibleSpec)

/-- 'verditerlaw06.WeighAnswers', WHERE WHAT IT READS IS OF BULK AT MOST 1048576: true; the input reads as it did. -/
def weighAnswersUptoRow : OpenClaim := { program := "ytdbeochifofdoaa", sum := "7c0427dab7a809b44ceb18a52625c1af42c36380ff543e4bf03166ebc6ef8d00", func := "verditer/verditerlaw06.WeighAnswers", spec := "weighAnswers", unfollowed := true, recurses := true, plainKeys := false, apart := false, narrowed := true }
def WeighAnswersUptoSaid : Prop := weighAnswersUptoRow.holds Try.pinned (OpenSpec.upto weighAnswersSpec)

/-- 'verditerlaw06.WeighChecks', WHERE WHAT IT READS IS OF BULK AT MOST 1048576: true; the input reads as it did. -/
def weighChecksUptoRow : OpenClaim := { program := "ytdbeochifofdoaa", sum := "7c0427dab7a809b44ceb18a52625c1af42c36380ff543e4bf03166ebc6ef8d00", func := "verditer/verditerlaw06.WeighChecks", spec := "weighChecks", unfollowed := true, recurses := true, plainKeys := false, apart := false, narrowed := true }
def WeighChecksUptoSaid : Prop := weighChecksUptoRow.holds Try.pinned (OpenSpec.upto weighChecksSpec)

/-- 'verditerlaw06.WeighMakes', WHERE WHAT IT READS IS OF BULK AT MOST 1048576: true; the input reads as it did. -/
def weighMakesUptoRow : OpenClaim := { program := "ytdbeochifofdoaa", sum := "7c0427dab7a809b44ceb18a52625c1af42c36380ff543e4bf03166ebc6ef8d00", func := "verditer/verditerlaw06.WeighMakes", spec := "weighMakes", unfollowed := true, recurses := true, plainKeys := false, apart := false, narrowed := true }
def WeighMakesUptoSaid : Prop := weighMakesUptoRow.holds Try.pinned (OpenSpec.upto weighMakesSpec)

/-- 'verditerlaw06.WeighCases', WHERE WHAT IT READS IS OF BULK AT MOST 1048576: true; the input reads as it did. -/
def weighCasesUptoRow : OpenClaim := { program := "ytdbeochifofdoaa", sum := "7c0427dab7a809b44ceb18a52625c1af42c36380ff543e4bf03166ebc6ef8d00", func := "verditer/verditerlaw06.WeighCases", spec := "weighCases", unfollowed := true, recurses := true, plainKeys := false, apart := false, narrowed := true }
def WeighCasesUptoSaid : Prop := weighCasesUptoRow.holds Try.pinned (OpenSpec.upto weighCasesSpec)

/-- 'verditerlaw06.WeighMarks', WHERE WHAT IT READS IS OF BULK AT MOST 1048576: true; the input reads as it did. -/
def weighMarksUptoRow : OpenClaim := { program := "ytdbeochifofdoaa", sum := "7c0427dab7a809b44ceb18a52625c1af42c36380ff543e4bf03166ebc6ef8d00", func := "verditer/verditerlaw06.WeighMarks", spec := "weighMarks", unfollowed := true, recurses := true, plainKeys := false, apart := false, narrowed := true }
def WeighMarksUptoSaid : Prop := weighMarksUptoRow.holds Try.pinned (OpenSpec.upto weighMarksSpec)

/-- 'verditerlaw06.WeighFromMarks', WHERE WHAT IT READS IS OF BULK AT MOST 1048576: true; the input reads as it did. -/
def weighFromMarksUptoRow : OpenClaim := { program := "ytdbeochifofdoaa", sum := "7c0427dab7a809b44ceb18a52625c1af42c36380ff543e4bf03166ebc6ef8d00", func := "verditer/verditerlaw06.WeighFromMarks", spec := "weighFromMarks", unfollowed := true, recurses := true, plainKeys := false, apart := false, narrowed := true }
def WeighFromMarksUptoSaid : Prop := weighFromMarksUptoRow.holds Try.pinned (OpenSpec.upto weighFromMarksSpec)

/-- 'verditerlaw06.WeighFinds', WHERE WHAT IT READS IS OF BULK AT MOST 1048576: true; the input reads as it did. -/
def weighFindsUptoRow : OpenClaim := { program := "ytdbeochifofdoaa", sum := "7c0427dab7a809b44ceb18a52625c1af42c36380ff543e4bf03166ebc6ef8d00", func := "verditer/verditerlaw06.WeighFinds", spec := "weighFinds", unfollowed := true, recurses := true, plainKeys := false, apart := false, narrowed := true }
def WeighFindsUptoSaid : Prop := weighFindsUptoRow.holds Try.pinned (OpenSpec.upto weighFindsSpec)

/-- 'verditerlaw06.WeighMirrors', WHERE WHAT IT READS IS OF BULK AT MOST 1048576: true; the input reads as it did. -/
def weighMirrorsUptoRow : OpenClaim := { program := "ytdbeochifofdoaa", sum := "7c0427dab7a809b44ceb18a52625c1af42c36380ff543e4bf03166ebc6ef8d00", func := "verditer/verditerlaw06.WeighMirrors", spec := "weighMirrors", unfollowed := true, recurses := true, plainKeys := false, apart := false, narrowed := true }
def WeighMirrorsUptoSaid : Prop := weighMirrorsUptoRow.holds Try.pinned (OpenSpec.upto weighMirrorsSpec)

/-- 'verditerlaw06.WeighRenames', WHERE WHAT IT READS IS OF BULK AT MOST 1048576: true; the input reads as it did. -/
def weighRenamesUptoRow : OpenClaim := { program := "ytdbeochifofdoaa", sum := "7c0427dab7a809b44ceb18a52625c1af42c36380ff543e4bf03166ebc6ef8d00", func := "verditer/verditerlaw06.WeighRenames", spec := "weighRenames", unfollowed := true, recurses := true, plainKeys := false, apart := false, narrowed := true }
def WeighRenamesUptoSaid : Prop := weighRenamesUptoRow.holds Try.pinned (OpenSpec.upto weighRenamesSpec)

end Rows
end Go.Proofs.Ytdbeochifofdoaa
