/-
  No cell of these rows narrows 'for every input' (looked for: loops, veiled, ifaces, maps, wideKeys, modest, calm, conditions, laid).
  DERIVED. THE GIVEN ROWS OF THIS SEAT. 12 by the template 'for every input the law returns true; each argument reads behind the call as it read before'; 0 by the template 'total and deterministic' (their statements: YtbomomaidglegaaTotals.lean).
  GIVEN WITH THE SEED: the statements are not yours to turn. If you find one false, say at which input.
  Laid BY PROGRAM, IN A SANDBOX (cutbox-rows.mjs): the forced cells as the released guide's own fill.sh prints them over the translation 52cf0ebb278ffd4d… (all of the seat's roots in one cut). By AI agents, Wed Nov 11 2026. No macro, syntax, notation, axiom, sorry.
-/
import Derived.Test.YtbomomaidglegaaChecked
import GoSem.Claim
import GoSem.ClaimJoined
import GoSem.ClaimMapViews
import Derived.JoinedTies
import Derived.KernelRfl
namespace Go.Proofs.Ytbomomaidglegaa
/- THE CELL 'sum', in the pinned program and in every row, IS THE sha256 OF THE DUMP (.gsa) THAT YtbomomaidglegaaProg.lean LOADS. Nothing in Lean hashes anything: it is a label: what it is worth is what the hold of that sum in a sandbox is worth. -/
noncomputable def Try.pinned : Pinned := { name := "ytbomomaidglegaa", sum := "52cf0ebb278ffd4d64b0f2e1710d669c3af1107dbc1c1a70f529a1a62b8f5ea5", checked := Try.checked }
namespace Rows
def none {H : Type} : Left H := { results := [], args := [] }

/-- 'synodallaw9.TallyMore': WHATEVER THE INPUT: true; the input reads as it did. -/
def tallyMoreSpec : ChangeSpec := { name := "tallyMore", fn := fun _ => fun
  | [d1, d2, d3, d4, d5] => { results := [.lit (.bool true)], args := [d1, d2, d3, d4, d5] }
  | _ => none }
def tallyMoreRow : OpenClaim := { program := "ytbomomaidglegaa", sum := "52cf0ebb278ffd4d64b0f2e1710d669c3af1107dbc1c1a70f529a1a62b8f5ea5", func := "synodal/synodallaw9.TallyMore", spec := "tallyMore", apart := false }
def TallyMoreSaid : Prop := tallyMoreRow.holds Try.pinned (OpenSpec.ofChange tallyMoreSpec)

/-- ITS FALSE NEIGHBOUR: 'it returns false'. Refute it at one input. -/
def tallyMoreWrong : ChangeSpec := { name := "tallyMore", fn := fun _ => fun
  | [d1, d2, d3, d4, d5] => { results := [.lit (.bool false)], args := [d1, d2, d3, d4, d5] }
  | _ => none }
def TallyMoreWrongFalsely : Prop := tallyMoreRow.holds Try.pinned (OpenSpec.ofChange tallyMoreWrong)

/-- 'synodallaw9.TallyHalf': WHATEVER THE INPUT: true; the input reads as it did. -/
def tallyHalfSpec : ChangeSpec := { name := "tallyHalf", fn := fun _ => fun
  | [d1, d2] => { results := [.lit (.bool true)], args := [d1, d2] }
  | _ => none }
def tallyHalfRow : OpenClaim := { program := "ytbomomaidglegaa", sum := "52cf0ebb278ffd4d64b0f2e1710d669c3af1107dbc1c1a70f529a1a62b8f5ea5", func := "synodal/synodallaw9.TallyHalf", spec := "tallyHalf", apart := false }
def TallyHalfSaid : Prop := tallyHalfRow.holds Try.pinned (OpenSpec.ofChange tallyHalfSpec)

/-- ITS FALSE NEIGHBOUR: 'it returns false'. Refute it at one input. -/
def tallyHalfWrong : ChangeSpec := { name := "tallyHalf", fn := fun _ => fun
  | [d1, d2] => { results := [.lit (.bool false)], args := [d1, d2] }
  | _ => none }
def TallyHalfWrongFalsely : Prop := tallyHalfRow.holds Try.pinned (OpenSpec.ofChange tallyHalfWrong)

/-- 'synodallaw9.TallyVotes': WHATEVER THE INPUT: true; the input reads as it did. -/
def tallyVotesSpec : ChangeSpec := { name := "tallyVotes", fn := fun _ => fun
  | [d1, d2, d3] => { results := [.lit (.bool true)], args := [d1, d2, d3] }
  | _ => none }
def tallyVotesRow : OpenClaim := { program := "ytbomomaidglegaa", sum := "52cf0ebb278ffd4d64b0f2e1710d669c3af1107dbc1c1a70f529a1a62b8f5ea5", func := "synodal/synodallaw9.TallyVotes", spec := "tallyVotes", recurses := true, apart := false }
def TallyVotesSaid : Prop := tallyVotesRow.holds Try.pinned (OpenSpec.ofChange tallyVotesSpec)

/-- ITS FALSE NEIGHBOUR: 'it returns false'. Refute it at one input. -/
def tallyVotesWrong : ChangeSpec := { name := "tallyVotes", fn := fun _ => fun
  | [d1, d2, d3] => { results := [.lit (.bool false)], args := [d1, d2, d3] }
  | _ => none }
def TallyVotesWrongFalsely : Prop := tallyVotesRow.holds Try.pinned (OpenSpec.ofChange tallyVotesWrong)

/-- 'synodallaw9.TallySplit': WHATEVER THE INPUT: true; the input reads as it did. -/
def tallySplitSpec : ChangeSpec := { name := "tallySplit", fn := fun _ => fun
  | [d1, d2] => { results := [.lit (.bool true)], args := [d1, d2] }
  | _ => none }
def tallySplitRow : OpenClaim := { program := "ytbomomaidglegaa", sum := "52cf0ebb278ffd4d64b0f2e1710d669c3af1107dbc1c1a70f529a1a62b8f5ea5", func := "synodal/synodallaw9.TallySplit", spec := "tallySplit", recurses := true, apart := false }
def TallySplitSaid : Prop := tallySplitRow.holds Try.pinned (OpenSpec.ofChange tallySplitSpec)

/-- ITS FALSE NEIGHBOUR: 'it returns false'. Refute it at one input. -/
def tallySplitWrong : ChangeSpec := { name := "tallySplit", fn := fun _ => fun
  | [d1, d2] => { results := [.lit (.bool false)], args := [d1, d2] }
  | _ => none }
def TallySplitWrongFalsely : Prop := tallySplitRow.holds Try.pinned (OpenSpec.ofChange tallySplitWrong)

/-- 'synodallaw10.HistTerms': WHATEVER THE INPUT: true; the input reads as it did. -/
def histTermsSpec : ChangeSpec := { name := "histTerms", fn := fun _ => fun
  | [d] => { results := [.lit (.bool true)], args := [d] }
  | _ => none }
def histTermsRow : OpenClaim := { program := "ytbomomaidglegaa", sum := "52cf0ebb278ffd4d64b0f2e1710d669c3af1107dbc1c1a70f529a1a62b8f5ea5", func := "synodal/synodallaw10.HistTerms", spec := "histTerms", apart := false }
def HistTermsSaid : Prop := histTermsRow.holds Try.pinned (OpenSpec.ofChange histTermsSpec)

/-- ITS FALSE NEIGHBOUR: 'it returns false'. Refute it at one input. -/
def histTermsWrong : ChangeSpec := { name := "histTerms", fn := fun _ => fun
  | [d] => { results := [.lit (.bool false)], args := [d] }
  | _ => none }
def HistTermsWrongFalsely : Prop := histTermsRow.holds Try.pinned (OpenSpec.ofChange histTermsWrong)

/-- 'synodallaw10.HistRoom': WHATEVER THE INPUT: true; the input reads as it did. -/
def histRoomSpec : ChangeSpec := { name := "histRoom", fn := fun _ => fun
  | [d1, d2, d3] => { results := [.lit (.bool true)], args := [d1, d2, d3] }
  | _ => none }
def histRoomRow : OpenClaim := { program := "ytbomomaidglegaa", sum := "52cf0ebb278ffd4d64b0f2e1710d669c3af1107dbc1c1a70f529a1a62b8f5ea5", func := "synodal/synodallaw10.HistRoom", spec := "histRoom", apart := false }
def HistRoomSaid : Prop := histRoomRow.holds Try.pinned (OpenSpec.ofChange histRoomSpec)

/-- ITS FALSE NEIGHBOUR: 'it returns false'. Refute it at one input. -/
def histRoomWrong : ChangeSpec := { name := "histRoom", fn := fun _ => fun
  | [d1, d2, d3] => { results := [.lit (.bool false)], args := [d1, d2, d3] }
  | _ => none }
def HistRoomWrongFalsely : Prop := histRoomRow.holds Try.pinned (OpenSpec.ofChange histRoomWrong)

/-- 'synodallaw10.HistNewer': WHATEVER THE INPUT: true; the input reads as it did. -/
def histNewerSpec : ChangeSpec := { name := "histNewer", fn := fun _ => fun
  | [d1, d2] => { results := [.lit (.bool true)], args := [d1, d2] }
  | _ => none }
def histNewerRow : OpenClaim := { program := "ytbomomaidglegaa", sum := "52cf0ebb278ffd4d64b0f2e1710d669c3af1107dbc1c1a70f529a1a62b8f5ea5", func := "synodal/synodallaw10.HistNewer", spec := "histNewer", apart := false }
def HistNewerSaid : Prop := histNewerRow.holds Try.pinned (OpenSpec.ofChange histNewerSpec)

/-- ITS FALSE NEIGHBOUR: 'it returns false'. Refute it at one input. -/
def histNewerWrong : ChangeSpec := { name := "histNewer", fn := fun _ => fun
  | [d1, d2] => { results := [.lit (.bool false)], args := [d1, d2] }
  | _ => none }
def HistNewerWrongFalsely : Prop := histNewerRow.holds Try.pinned (OpenSpec.ofChange histNewerWrong)

/-- 'synodallaw10.HistAgain': WHATEVER THE INPUT: true; the input reads as it did. -/
def histAgainSpec : ChangeSpec := { name := "histAgain", fn := fun _ => fun
  | [d1, d2, d3] => { results := [.lit (.bool true)], args := [d1, d2, d3] }
  | _ => none }
def histAgainRow : OpenClaim := { program := "ytbomomaidglegaa", sum := "52cf0ebb278ffd4d64b0f2e1710d669c3af1107dbc1c1a70f529a1a62b8f5ea5", func := "synodal/synodallaw10.HistAgain", spec := "histAgain", apart := false }
def HistAgainSaid : Prop := histAgainRow.holds Try.pinned (OpenSpec.ofChange histAgainSpec)

/-- ITS FALSE NEIGHBOUR: 'it returns false'. Refute it at one input. -/
def histAgainWrong : ChangeSpec := { name := "histAgain", fn := fun _ => fun
  | [d1, d2, d3] => { results := [.lit (.bool false)], args := [d1, d2, d3] }
  | _ => none }
def HistAgainWrongFalsely : Prop := histAgainRow.holds Try.pinned (OpenSpec.ofChange histAgainWrong)

/-- 'synodallaw10.HistLeaders': WHATEVER THE INPUT: true; the input reads as it did. -/
def histLeadersSpec : ChangeSpec := { name := "histLeaders", fn := fun _ => fun
  | [d1, d2] => { results := [.lit (.bool true)], args := [d1, d2] }
  | _ => none }
def histLeadersRow : OpenClaim := { program := "ytbomomaidglegaa", sum := "52cf0ebb278ffd4d64b0f2e1710d669c3af1107dbc1c1a70f529a1a62b8f5ea5", func := "synodal/synodallaw10.HistLeaders", spec := "histLeaders", apart := false }
def HistLeadersSaid : Prop := histLeadersRow.holds Try.pinned (OpenSpec.ofChange histLeadersSpec)

/-- ITS FALSE NEIGHBOUR: 'it returns false'. Refute it at one input. -/
def histLeadersWrong : ChangeSpec := { name := "histLeaders", fn := fun _ => fun
  | [d1, d2] => { results := [.lit (.bool false)], args := [d1, d2] }
  | _ => none }
def HistLeadersWrongFalsely : Prop := histLeadersRow.holds Try.pinned (OpenSpec.ofChange histLeadersWrong)

/-- 'synodallaw10.HistCuts': WHATEVER THE INPUT: true; the input reads as it did. -/
def histCutsSpec : ChangeSpec := { name := "histCuts", fn := fun _ => fun
  | [d1, d2, d3] => { results := [.lit (.bool true)], args := [d1, d2, d3] }
  | _ => none }
def histCutsRow : OpenClaim := { program := "ytbomomaidglegaa", sum := "52cf0ebb278ffd4d64b0f2e1710d669c3af1107dbc1c1a70f529a1a62b8f5ea5", func := "synodal/synodallaw10.HistCuts", spec := "histCuts", apart := false }
def HistCutsSaid : Prop := histCutsRow.holds Try.pinned (OpenSpec.ofChange histCutsSpec)

/-- ITS FALSE NEIGHBOUR: 'it returns false'. Refute it at one input. -/
def histCutsWrong : ChangeSpec := { name := "histCuts", fn := fun _ => fun
  | [d1, d2, d3] => { results := [.lit (.bool false)], args := [d1, d2, d3] }
  | _ => none }
def HistCutsWrongFalsely : Prop := histCutsRow.holds Try.pinned (OpenSpec.ofChange histCutsWrong)

/-- 'synodallaw10.HistBase': WHATEVER THE INPUT: true; the input reads as it did. -/
def histBaseSpec : ChangeSpec := { name := "histBase", fn := fun _ => fun
  | [d1, d2, d3] => { results := [.lit (.bool true)], args := [d1, d2, d3] }
  | _ => none }
def histBaseRow : OpenClaim := { program := "ytbomomaidglegaa", sum := "52cf0ebb278ffd4d64b0f2e1710d669c3af1107dbc1c1a70f529a1a62b8f5ea5", func := "synodal/synodallaw10.HistBase", spec := "histBase", apart := false }
def HistBaseSaid : Prop := histBaseRow.holds Try.pinned (OpenSpec.ofChange histBaseSpec)

/-- ITS FALSE NEIGHBOUR: 'it returns false'. Refute it at one input. -/
def histBaseWrong : ChangeSpec := { name := "histBase", fn := fun _ => fun
  | [d1, d2, d3] => { results := [.lit (.bool false)], args := [d1, d2, d3] }
  | _ => none }
def HistBaseWrongFalsely : Prop := histBaseRow.holds Try.pinned (OpenSpec.ofChange histBaseWrong)

/-- 'synodallaw10.HistMembers': WHATEVER THE INPUT: true; the input reads as it did. -/
def histMembersSpec : ChangeSpec := { name := "histMembers", fn := fun _ => fun
  | [d1, d2] => { results := [.lit (.bool true)], args := [d1, d2] }
  | _ => none }
def histMembersRow : OpenClaim := { program := "ytbomomaidglegaa", sum := "52cf0ebb278ffd4d64b0f2e1710d669c3af1107dbc1c1a70f529a1a62b8f5ea5", func := "synodal/synodallaw10.HistMembers", spec := "histMembers", apart := false }
def HistMembersSaid : Prop := histMembersRow.holds Try.pinned (OpenSpec.ofChange histMembersSpec)

/-- ITS FALSE NEIGHBOUR: 'it returns false'. Refute it at one input. -/
def histMembersWrong : ChangeSpec := { name := "histMembers", fn := fun _ => fun
  | [d1, d2] => { results := [.lit (.bool false)], args := [d1, d2] }
  | _ => none }
def HistMembersWrongFalsely : Prop := histMembersRow.holds Try.pinned (OpenSpec.ofChange histMembersWrong)

/- THE SECOND FORM. 'bulk': how many values and letters a reading holds, each counted each time it is reached (what is shared counts as often as it is met; a slice's spare places count too). A statement '..UptoSaid' is the law's where the arguments, and the package variables that the reading takes, are together of bulk at most 1048576: NARROWER than '..Said'. Prove '..Said' where nothing that the law and all that it calls make is longer than what came in: it says more and counts as full. Else prove '..UptoSaid'. A law counts once. -/
mutual
def uptoBulk {H : Type} : DataW H → Nat
  | .lit (.string bytes) => bytes.length + 1
  | .lit _ => 1
  | .nil => 1
  | .ptr d => uptoBulk d + 1
  | .slice elems spare => uptoBulkAll elems + uptoBulkAll spare + 1
  | .agg parts => uptoBulkAll parts + 1
  | .iface _ d => uptoBulk d + 1
  | .map entries => uptoBulkEntries entries + 1
  | .held _ => 1
def uptoBulkAll {H : Type} : List (DataW H) → Nat
  | [] => 0
  | d :: r => uptoBulk d + uptoBulkAll r
def uptoBulkEntries {H : Type} : List (Lit × DataW H) → Nat
  | [] => 0
  | x :: r => uptoBulkEntry x + uptoBulkEntries r
def uptoBulkEntry {H : Type} : Lit × DataW H → Nat
  | (.string bytes, d) => bytes.length + uptoBulk d + 1
  | (_, d) => uptoBulk d + 1
 end
def uptoSmall : (H : Type) → List (DataW H) → Bool := fun _ ds => decide (uptoBulkAll ds ≤ 1048576)
def OpenSpec.upto (s : _root_.Go.ChangeSpec) : _root_.Go.OpenSpec := { _root_.Go.OpenSpec.ofChange s with cond := some uptoSmall }

/-- 'synodallaw9.TallyMore', WHERE WHAT IT READS IS OF BULK AT MOST 1048576: true; the input reads as it did. -/
def tallyMoreUptoRow : OpenClaim := { program := "ytbomomaidglegaa", sum := "52cf0ebb278ffd4d64b0f2e1710d669c3af1107dbc1c1a70f529a1a62b8f5ea5", func := "synodal/synodallaw9.TallyMore", spec := "tallyMore", apart := false, narrowed := true }
def TallyMoreUptoSaid : Prop := tallyMoreUptoRow.holds Try.pinned (OpenSpec.upto tallyMoreSpec)

/-- 'synodallaw9.TallyHalf', WHERE WHAT IT READS IS OF BULK AT MOST 1048576: true; the input reads as it did. -/
def tallyHalfUptoRow : OpenClaim := { program := "ytbomomaidglegaa", sum := "52cf0ebb278ffd4d64b0f2e1710d669c3af1107dbc1c1a70f529a1a62b8f5ea5", func := "synodal/synodallaw9.TallyHalf", spec := "tallyHalf", apart := false, narrowed := true }
def TallyHalfUptoSaid : Prop := tallyHalfUptoRow.holds Try.pinned (OpenSpec.upto tallyHalfSpec)

/-- 'synodallaw9.TallyVotes', WHERE WHAT IT READS IS OF BULK AT MOST 1048576: true; the input reads as it did. -/
def tallyVotesUptoRow : OpenClaim := { program := "ytbomomaidglegaa", sum := "52cf0ebb278ffd4d64b0f2e1710d669c3af1107dbc1c1a70f529a1a62b8f5ea5", func := "synodal/synodallaw9.TallyVotes", spec := "tallyVotes", recurses := true, apart := false, narrowed := true }
def TallyVotesUptoSaid : Prop := tallyVotesUptoRow.holds Try.pinned (OpenSpec.upto tallyVotesSpec)

/-- 'synodallaw9.TallySplit', WHERE WHAT IT READS IS OF BULK AT MOST 1048576: true; the input reads as it did. -/
def tallySplitUptoRow : OpenClaim := { program := "ytbomomaidglegaa", sum := "52cf0ebb278ffd4d64b0f2e1710d669c3af1107dbc1c1a70f529a1a62b8f5ea5", func := "synodal/synodallaw9.TallySplit", spec := "tallySplit", recurses := true, apart := false, narrowed := true }
def TallySplitUptoSaid : Prop := tallySplitUptoRow.holds Try.pinned (OpenSpec.upto tallySplitSpec)

/-- 'synodallaw10.HistTerms', WHERE WHAT IT READS IS OF BULK AT MOST 1048576: true; the input reads as it did. -/
def histTermsUptoRow : OpenClaim := { program := "ytbomomaidglegaa", sum := "52cf0ebb278ffd4d64b0f2e1710d669c3af1107dbc1c1a70f529a1a62b8f5ea5", func := "synodal/synodallaw10.HistTerms", spec := "histTerms", apart := false, narrowed := true }
def HistTermsUptoSaid : Prop := histTermsUptoRow.holds Try.pinned (OpenSpec.upto histTermsSpec)

/-- 'synodallaw10.HistRoom', WHERE WHAT IT READS IS OF BULK AT MOST 1048576: true; the input reads as it did. -/
def histRoomUptoRow : OpenClaim := { program := "ytbomomaidglegaa", sum := "52cf0ebb278ffd4d64b0f2e1710d669c3af1107dbc1c1a70f529a1a62b8f5ea5", func := "synodal/synodallaw10.HistRoom", spec := "histRoom", apart := false, narrowed := true }
def HistRoomUptoSaid : Prop := histRoomUptoRow.holds Try.pinned (OpenSpec.upto histRoomSpec)

/-- 'synodallaw10.HistNewer', WHERE WHAT IT READS IS OF BULK AT MOST 1048576: true; the input reads as it did. -/
def histNewerUptoRow : OpenClaim := { program := "ytbomomaidglegaa", sum := "52cf0ebb278ffd4d64b0f2e1710d669c3af1107dbc1c1a70f529a1a62b8f5ea5", func := "synodal/synodallaw10.HistNewer", spec := "histNewer", apart := false, narrowed := true }
def HistNewerUptoSaid : Prop := histNewerUptoRow.holds Try.pinned (OpenSpec.upto histNewerSpec)

/-- 'synodallaw10.HistAgain', WHERE WHAT IT READS IS OF BULK AT MOST 1048576: true; the input reads as it did. -/
def histAgainUptoRow : OpenClaim := { program := "ytbomomaidglegaa", sum := "52cf0ebb278ffd4d64b0f2e1710d669c3af1107dbc1c1a70f529a1a62b8f5ea5", func := "synodal/synodallaw10.HistAgain", spec := "histAgain", apart := false, narrowed := true }
def HistAgainUptoSaid : Prop := histAgainUptoRow.holds Try.pinned (OpenSpec.upto histAgainSpec)

/-- 'synodallaw10.HistLeaders', WHERE WHAT IT READS IS OF BULK AT MOST 1048576: true; the input reads as it did. -/
def histLeadersUptoRow : OpenClaim := { program := "ytbomomaidglegaa", sum := "52cf0ebb278ffd4d64b0f2e1710d669c3af1107dbc1c1a70f529a1a62b8f5ea5", func := "synodal/synodallaw10.HistLeaders", spec := "histLeaders", apart := false, narrowed := true }
def HistLeadersUptoSaid : Prop := histLeadersUptoRow.holds Try.pinned (OpenSpec.upto histLeadersSpec)

/-- 'synodallaw10.HistCuts', WHERE WHAT IT READS IS OF BULK AT MOST 1048576: true; the input reads as it did. -/
def histCutsUptoRow : OpenClaim := { program := "ytbomomaidglegaa", sum := "52cf0ebb278ffd4d64b0f2e1710d669c3af1107dbc1c1a70f529a1a62b8f5ea5", func := "synodal/synodallaw10.HistCuts", spec := "histCuts", apart := false, narrowed := true }
def HistCutsUptoSaid : Prop := histCutsUptoRow.holds Try.pinned (OpenSpec.upto histCutsSpec)

/-- 'synodallaw10.HistBase', WHERE WHAT IT READS IS OF BULK AT MOST 1048576: true; the input reads as it did. -/
def histBaseUptoRow : OpenClaim := { program := "ytbomomaidglegaa", sum := "52cf0ebb278ffd4d64b0f2e1710d669c3af1107dbc1c1a70f529a1a62b8f5ea5", func := "synodal/synodallaw10.HistBase", spec := "histBase", apart := false, narrowed := true }
def HistBaseUptoSaid : Prop := histBaseUptoRow.holds Try.pinned (OpenSpec.upto histBaseSpec)

/-- 'synodallaw10.HistMembers', WHERE WHAT IT READS IS OF BULK AT MOST 1048576: true; the input reads as it did. -/
def histMembersUptoRow : OpenClaim := { program := "ytbomomaidglegaa", sum := "52cf0ebb278ffd4d64b0f2e1710d669c3af1107dbc1c1a70f529a1a62b8f5ea5", func := "synodal/synodallaw10.HistMembers", spec := "histMembers", apart := false, narrowed := true }
def HistMembersUptoSaid : Prop := histMembersUptoRow.holds Try.pinned (OpenSpec.upto histMembersSpec)

end Rows
end Go.Proofs.Ytbomomaidglegaa
