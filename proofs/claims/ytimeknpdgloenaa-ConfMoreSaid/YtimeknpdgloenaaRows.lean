/-
  No cell of these rows narrows 'for every input' (looked for: loops, veiled, ifaces, maps, wideKeys, modest, calm, conditions, laid).
  DERIVED. THE GIVEN ROWS OF THIS SEAT. 9 by the template 'for every input the law returns true; each argument reads behind the call as it read before'; 0 by the template 'total and deterministic' (their statements: YtimeknpdgloenaaTotals.lean).
  GIVEN WITH THE SEED: the statements are not yours to turn. If you find one false, say at which input.
  Laid BY PROGRAM, IN A SANDBOX (cutbox-rows.mjs): the forced cells as the released guide's own fill.sh prints them over the translation 9ec099bb499da799… (all of the seat's roots in one cut). By AI agents, Wed Nov 11 2026. No macro, syntax, notation, axiom, sorry.
-/
import Derived.Test.YtimeknpdgloenaaChecked
import GoSem.Claim
import GoSem.ClaimJoined
import GoSem.ClaimMapViews
import Derived.JoinedTies
import Derived.KernelRfl
namespace Go.Proofs.Ytimeknpdgloenaa
/- THE CELL 'sum', in the pinned program and in every row, IS THE sha256 OF THE DUMP (.gsa) THAT YtimeknpdgloenaaProg.lean LOADS. Nothing in Lean hashes anything: it is a label: what it is worth is what the hold of that sum in a sandbox is worth. -/
noncomputable def Try.pinned : Pinned := { name := "ytimeknpdgloenaa", sum := "9ec099bb499da799888f557304ab0cbca8b1370ff041a96a18ae8a602ddc1d5d", checked := Try.checked }
namespace Rows
def none {H : Type} : Left H := { results := [], args := [] }

/-- 'synodallaw11.ClockPlays': WHATEVER THE INPUT: true; the input reads as it did. -/
def clockPlaysSpec : ChangeSpec := { name := "clockPlays", fn := fun _ => fun
  | [d1, d2, d3] => { results := [.lit (.bool true)], args := [d1, d2, d3] }
  | _ => none }
def clockPlaysRow : OpenClaim := { program := "ytimeknpdgloenaa", sum := "9ec099bb499da799888f557304ab0cbca8b1370ff041a96a18ae8a602ddc1d5d", func := "synodal/synodallaw11.ClockPlays", spec := "clockPlays", apart := false }
def ClockPlaysSaid : Prop := clockPlaysRow.holds Try.pinned (OpenSpec.ofChange clockPlaysSpec)

/-- ITS FALSE NEIGHBOUR: 'it returns false'. Refute it at one input. -/
def clockPlaysWrong : ChangeSpec := { name := "clockPlays", fn := fun _ => fun
  | [d1, d2, d3] => { results := [.lit (.bool false)], args := [d1, d2, d3] }
  | _ => none }
def ClockPlaysWrongFalsely : Prop := clockPlaysRow.holds Try.pinned (OpenSpec.ofChange clockPlaysWrong)

/-- 'synodallaw11.ClockWaits': WHATEVER THE INPUT: true; the input reads as it did. -/
def clockWaitsSpec : ChangeSpec := { name := "clockWaits", fn := fun _ => fun
  | [d1, d2] => { results := [.lit (.bool true)], args := [d1, d2] }
  | _ => none }
def clockWaitsRow : OpenClaim := { program := "ytimeknpdgloenaa", sum := "9ec099bb499da799888f557304ab0cbca8b1370ff041a96a18ae8a602ddc1d5d", func := "synodal/synodallaw11.ClockWaits", spec := "clockWaits", apart := false }
def ClockWaitsSaid : Prop := clockWaitsRow.holds Try.pinned (OpenSpec.ofChange clockWaitsSpec)

/-- ITS FALSE NEIGHBOUR: 'it returns false'. Refute it at one input. -/
def clockWaitsWrong : ChangeSpec := { name := "clockWaits", fn := fun _ => fun
  | [d1, d2] => { results := [.lit (.bool false)], args := [d1, d2] }
  | _ => none }
def ClockWaitsWrongFalsely : Prop := clockWaitsRow.holds Try.pinned (OpenSpec.ofChange clockWaitsWrong)

/-- 'synodallaw11.ClockApart': WHATEVER THE INPUT: true; the input reads as it did. -/
def clockApartSpec : ChangeSpec := { name := "clockApart", fn := fun _ => fun
  | [d1, d2, d3, d4] => { results := [.lit (.bool true)], args := [d1, d2, d3, d4] }
  | _ => none }
def clockApartRow : OpenClaim := { program := "ytimeknpdgloenaa", sum := "9ec099bb499da799888f557304ab0cbca8b1370ff041a96a18ae8a602ddc1d5d", func := "synodal/synodallaw11.ClockApart", spec := "clockApart", apart := false }
def ClockApartSaid : Prop := clockApartRow.holds Try.pinned (OpenSpec.ofChange clockApartSpec)

/-- ITS FALSE NEIGHBOUR: 'it returns false'. Refute it at one input. -/
def clockApartWrong : ChangeSpec := { name := "clockApart", fn := fun _ => fun
  | [d1, d2, d3, d4] => { results := [.lit (.bool false)], args := [d1, d2, d3, d4] }
  | _ => none }
def ClockApartWrongFalsely : Prop := clockApartRow.holds Try.pinned (OpenSpec.ofChange clockApartWrong)

/-- 'synodallaw8.ConfCounts': WHATEVER THE INPUT: true; the input reads as it did. -/
def confCountsSpec : ChangeSpec := { name := "confCounts", fn := fun _ => fun
  | [d1, d2] => { results := [.lit (.bool true)], args := [d1, d2] }
  | _ => none }
def confCountsRow : OpenClaim := { program := "ytimeknpdgloenaa", sum := "9ec099bb499da799888f557304ab0cbca8b1370ff041a96a18ae8a602ddc1d5d", func := "synodal/synodallaw8.ConfCounts", spec := "confCounts", apart := false }
def ConfCountsSaid : Prop := confCountsRow.holds Try.pinned (OpenSpec.ofChange confCountsSpec)

/-- ITS FALSE NEIGHBOUR: 'it returns false'. Refute it at one input. -/
def confCountsWrong : ChangeSpec := { name := "confCounts", fn := fun _ => fun
  | [d1, d2] => { results := [.lit (.bool false)], args := [d1, d2] }
  | _ => none }
def ConfCountsWrongFalsely : Prop := confCountsRow.holds Try.pinned (OpenSpec.ofChange confCountsWrong)

/-- 'synodallaw8.ConfChecks': WHATEVER THE INPUT: true; the input reads as it did. -/
def confChecksSpec : ChangeSpec := { name := "confChecks", fn := fun _ => fun
  | [d1, d2, d3, d4] => { results := [.lit (.bool true)], args := [d1, d2, d3, d4] }
  | _ => none }
def confChecksRow : OpenClaim := { program := "ytimeknpdgloenaa", sum := "9ec099bb499da799888f557304ab0cbca8b1370ff041a96a18ae8a602ddc1d5d", func := "synodal/synodallaw8.ConfChecks", spec := "confChecks", apart := false }
def ConfChecksSaid : Prop := confChecksRow.holds Try.pinned (OpenSpec.ofChange confChecksSpec)

/-- ITS FALSE NEIGHBOUR: 'it returns false'. Refute it at one input. -/
def confChecksWrong : ChangeSpec := { name := "confChecks", fn := fun _ => fun
  | [d1, d2, d3, d4] => { results := [.lit (.bool false)], args := [d1, d2, d3, d4] }
  | _ => none }
def ConfChecksWrongFalsely : Prop := confChecksRow.holds Try.pinned (OpenSpec.ofChange confChecksWrong)

/-- 'synodallaw8.ConfSteps': WHATEVER THE INPUT: true; the input reads as it did. -/
def confStepsSpec : ChangeSpec := { name := "confSteps", fn := fun _ => fun
  | [d1, d2, d3, d4] => { results := [.lit (.bool true)], args := [d1, d2, d3, d4] }
  | _ => none }
def confStepsRow : OpenClaim := { program := "ytimeknpdgloenaa", sum := "9ec099bb499da799888f557304ab0cbca8b1370ff041a96a18ae8a602ddc1d5d", func := "synodal/synodallaw8.ConfSteps", spec := "confSteps", apart := false }
def ConfStepsSaid : Prop := confStepsRow.holds Try.pinned (OpenSpec.ofChange confStepsSpec)

/-- ITS FALSE NEIGHBOUR: 'it returns false'. Refute it at one input. -/
def confStepsWrong : ChangeSpec := { name := "confSteps", fn := fun _ => fun
  | [d1, d2, d3, d4] => { results := [.lit (.bool false)], args := [d1, d2, d3, d4] }
  | _ => none }
def ConfStepsWrongFalsely : Prop := confStepsRow.holds Try.pinned (OpenSpec.ofChange confStepsWrong)

/-- 'synodallaw8.ConfMeet': WHATEVER THE INPUT: true; the input reads as it did. -/
def confMeetSpec : ChangeSpec := { name := "confMeet", fn := fun _ => fun
  | [d1, d2, d3, d4] => { results := [.lit (.bool true)], args := [d1, d2, d3, d4] }
  | _ => none }
def confMeetRow : OpenClaim := { program := "ytimeknpdgloenaa", sum := "9ec099bb499da799888f557304ab0cbca8b1370ff041a96a18ae8a602ddc1d5d", func := "synodal/synodallaw8.ConfMeet", spec := "confMeet", apart := false }
def ConfMeetSaid : Prop := confMeetRow.holds Try.pinned (OpenSpec.ofChange confMeetSpec)

/-- ITS FALSE NEIGHBOUR: 'it returns false'. Refute it at one input. -/
def confMeetWrong : ChangeSpec := { name := "confMeet", fn := fun _ => fun
  | [d1, d2, d3, d4] => { results := [.lit (.bool false)], args := [d1, d2, d3, d4] }
  | _ => none }
def ConfMeetWrongFalsely : Prop := confMeetRow.holds Try.pinned (OpenSpec.ofChange confMeetWrong)

/-- 'synodallaw8.ConfRounds': WHATEVER THE INPUT: true; the input reads as it did. -/
def confRoundsSpec : ChangeSpec := { name := "confRounds", fn := fun _ => fun
  | [d1, d2] => { results := [.lit (.bool true)], args := [d1, d2] }
  | _ => none }
def confRoundsRow : OpenClaim := { program := "ytimeknpdgloenaa", sum := "9ec099bb499da799888f557304ab0cbca8b1370ff041a96a18ae8a602ddc1d5d", func := "synodal/synodallaw8.ConfRounds", spec := "confRounds", apart := false }
def ConfRoundsSaid : Prop := confRoundsRow.holds Try.pinned (OpenSpec.ofChange confRoundsSpec)

/-- ITS FALSE NEIGHBOUR: 'it returns false'. Refute it at one input. -/
def confRoundsWrong : ChangeSpec := { name := "confRounds", fn := fun _ => fun
  | [d1, d2] => { results := [.lit (.bool false)], args := [d1, d2] }
  | _ => none }
def ConfRoundsWrongFalsely : Prop := confRoundsRow.holds Try.pinned (OpenSpec.ofChange confRoundsWrong)

/-- 'synodallaw8.ConfMore': WHATEVER THE INPUT: true; the input reads as it did. -/
def confMoreSpec : ChangeSpec := { name := "confMore", fn := fun _ => fun
  | [d1, d2, d3, d4] => { results := [.lit (.bool true)], args := [d1, d2, d3, d4] }
  | _ => none }
def confMoreRow : OpenClaim := { program := "ytimeknpdgloenaa", sum := "9ec099bb499da799888f557304ab0cbca8b1370ff041a96a18ae8a602ddc1d5d", func := "synodal/synodallaw8.ConfMore", spec := "confMore", recurses := true, apart := false }
def ConfMoreSaid : Prop := confMoreRow.holds Try.pinned (OpenSpec.ofChange confMoreSpec)

/-- ITS FALSE NEIGHBOUR: 'it returns false'. Refute it at one input. -/
def confMoreWrong : ChangeSpec := { name := "confMore", fn := fun _ => fun
  | [d1, d2, d3, d4] => { results := [.lit (.bool false)], args := [d1, d2, d3, d4] }
  | _ => none }
def ConfMoreWrongFalsely : Prop := confMoreRow.holds Try.pinned (OpenSpec.ofChange confMoreWrong)

/- THE SECOND FORM. 'bulk': how many values and letters a reading holds, each counted each time it is reached (what is shared counts as often as it is met; a slice's spare places count too). A statement '..UptoSaid' is the law's where the arguments, and the package variables that the reading takes, are together of bulk at most 1048576: NARROWER than '..Said'. Prove '..Said' where nothing that the law and all that it calls make is longer than what came in: it says more and counts as full. Else prove '..UptoSaid'. A law counts once. -/
mutual
def uptoBulk {H : Type} : DataW H → Nat
  | .lit (.string bytes) => bytes.length + 1
  | .lit _ => 1
  | .nil => 1
  | .ptr d => uptoBulk d + 1
  | .slice elems spare => uptoBulkAll elems + uptoBulkAll spare + 1
  | .agg parts => uptoBulkAll parts + 1
  | .iface _ d => uptoBulk d + 1
  | .map entries => uptoBulkEntries entries + 1
  | .held _ => 1
def uptoBulkAll {H : Type} : List (DataW H) → Nat
  | [] => 0
  | d :: r => uptoBulk d + uptoBulkAll r
def uptoBulkEntries {H : Type} : List (Lit × DataW H) → Nat
  | [] => 0
  | x :: r => uptoBulkEntry x + uptoBulkEntries r
def uptoBulkEntry {H : Type} : Lit × DataW H → Nat
  | (.string bytes, d) => bytes.length + uptoBulk d + 1
  | (_, d) => uptoBulk d + 1
 end
def uptoSmall : (H : Type) → List (DataW H) → Bool := fun _ ds => decide (uptoBulkAll ds ≤ 1048576)
def OpenSpec.upto (s : _root_.Go.ChangeSpec) : _root_.Go.OpenSpec := { _root_.Go.OpenSpec.ofChange s with cond := some uptoSmall }

/-- 'synodallaw11.ClockPlays', WHERE WHAT IT READS IS OF BULK AT MOST 1048576: true; the input reads as it did. -/
def clockPlaysUptoRow : OpenClaim := { program := "ytimeknpdgloenaa", sum := "9ec099bb499da799888f557304ab0cbca8b1370ff041a96a18ae8a602ddc1d5d", func := "synodal/synodallaw11.ClockPlays", spec := "clockPlays", apart := false, narrowed := true }
def ClockPlaysUptoSaid : Prop := clockPlaysUptoRow.holds Try.pinned (OpenSpec.upto clockPlaysSpec)

/-- 'synodallaw11.ClockWaits', WHERE WHAT IT READS IS OF BULK AT MOST 1048576: true; the input reads as it did. -/
def clockWaitsUptoRow : OpenClaim := { program := "ytimeknpdgloenaa", sum := "9ec099bb499da799888f557304ab0cbca8b1370ff041a96a18ae8a602ddc1d5d", func := "synodal/synodallaw11.ClockWaits", spec := "clockWaits", apart := false, narrowed := true }
def ClockWaitsUptoSaid : Prop := clockWaitsUptoRow.holds Try.pinned (OpenSpec.upto clockWaitsSpec)

/-- 'synodallaw11.ClockApart', WHERE WHAT IT READS IS OF BULK AT MOST 1048576: true; the input reads as it did. -/
def clockApartUptoRow : OpenClaim := { program := "ytimeknpdgloenaa", sum := "9ec099bb499da799888f557304ab0cbca8b1370ff041a96a18ae8a602ddc1d5d", func := "synodal/synodallaw11.ClockApart", spec := "clockApart", apart := false, narrowed := true }
def ClockApartUptoSaid : Prop := clockApartUptoRow.holds Try.pinned (OpenSpec.upto clockApartSpec)

/-- 'synodallaw8.ConfCounts', WHERE WHAT IT READS IS OF BULK AT MOST 1048576: true; the input reads as it did. -/
def confCountsUptoRow : OpenClaim := { program := "ytimeknpdgloenaa", sum := "9ec099bb499da799888f557304ab0cbca8b1370ff041a96a18ae8a602ddc1d5d", func := "synodal/synodallaw8.ConfCounts", spec := "confCounts", apart := false, narrowed := true }
def ConfCountsUptoSaid : Prop := confCountsUptoRow.holds Try.pinned (OpenSpec.upto confCountsSpec)

/-- 'synodallaw8.ConfChecks', WHERE WHAT IT READS IS OF BULK AT MOST 1048576: true; the input reads as it did. -/
def confChecksUptoRow : OpenClaim := { program := "ytimeknpdgloenaa", sum := "9ec099bb499da799888f557304ab0cbca8b1370ff041a96a18ae8a602ddc1d5d", func := "synodal/synodallaw8.ConfChecks", spec := "confChecks", apart := false, narrowed := true }
def ConfChecksUptoSaid : Prop := confChecksUptoRow.holds Try.pinned (OpenSpec.upto confChecksSpec)

/-- 'synodallaw8.ConfSteps', WHERE WHAT IT READS IS OF BULK AT MOST 1048576: true; the input reads as it did. -/
def confStepsUptoRow : OpenClaim := { program := "ytimeknpdgloenaa", sum := "9ec099bb499da799888f557304ab0cbca8b1370ff041a96a18ae8a602ddc1d5d", func := "synodal/synodallaw8.ConfSteps", spec := "confSteps", apart := false, narrowed := true }
def ConfStepsUptoSaid : Prop := confStepsUptoRow.holds Try.pinned (OpenSpec.upto confStepsSpec)

/-- 'synodallaw8.ConfMeet', WHERE WHAT IT READS IS OF BULK AT MOST 1048576: true; the input reads as it did. -/
def confMeetUptoRow : OpenClaim := { program := "ytimeknpdgloenaa", sum := "9ec099bb499da799888f557304ab0cbca8b1370ff041a96a18ae8a602ddc1d5d", func := "synodal/synodallaw8.ConfMeet", spec := "confMeet", apart := false, narrowed := true }
def ConfMeetUptoSaid : Prop := confMeetUptoRow.holds Try.pinned (OpenSpec.upto confMeetSpec)

/-- 'synodallaw8.ConfRounds', WHERE WHAT IT READS IS OF BULK AT MOST 1048576: true; the input reads as it did. -/
def confRoundsUptoRow : OpenClaim := { program := "ytimeknpdgloenaa", sum := "9ec099bb499da799888f557304ab0cbca8b1370ff041a96a18ae8a602ddc1d5d", func := "synodal/synodallaw8.ConfRounds", spec := "confRounds", apart := false, narrowed := true }
def ConfRoundsUptoSaid : Prop := confRoundsUptoRow.holds Try.pinned (OpenSpec.upto confRoundsSpec)

/-- 'synodallaw8.ConfMore', WHERE WHAT IT READS IS OF BULK AT MOST 1048576: true; the input reads as it did. -/
def confMoreUptoRow : OpenClaim := { program := "ytimeknpdgloenaa", sum := "9ec099bb499da799888f557304ab0cbca8b1370ff041a96a18ae8a602ddc1d5d", func := "synodal/synodallaw8.ConfMore", spec := "confMore", recurses := true, apart := false, narrowed := true }
def ConfMoreUptoSaid : Prop := confMoreUptoRow.holds Try.pinned (OpenSpec.upto confMoreSpec)

end Rows
end Go.Proofs.Ytimeknpdgloenaa
