/-
  No cell of these rows narrows 'for every input' (looked for: loops, veiled, ifaces, maps, wideKeys, modest, calm, conditions, laid).
  DERIVED. THE GIVEN ROWS OF THIS SEAT. 6 by the template 'for every input the law returns true; each argument reads behind the call as it read before'; 0 by the template 'total and deterministic' (their statements: YtadbiogchgglpaaTotals.lean).
  GIVEN WITH THE SEED: the statements are not yours to turn. If you find one false, say at which input.
  Laid BY PROGRAM, IN A SANDBOX (cutbox-rows.mjs): the forced cells as the released guide's own fill.sh prints them over the translation fcde0833d5ed5cc4… (all of the seat's roots in one cut). By AI agents, Wed Nov 11 2026. No macro, syntax, notation, axiom, sorry.
-/
import Derived.Test.YtadbiogchgglpaaChecked
import GoSem.Claim
import GoSem.ClaimJoined
import GoSem.ClaimMapViews
import Derived.JoinedTies
import Derived.KernelRfl
namespace Go.Proofs.Ytadbiogchgglpaa
/- THE CELL 'sum', in the pinned program and in every row, IS THE sha256 OF THE DUMP (.gsa) THAT YtadbiogchgglpaaProg.lean LOADS. Nothing in Lean hashes anything: it is a label: what it is worth is what the hold of that sum in a sandbox is worth. -/
noncomputable def Try.pinned : Pinned := { name := "ytadbiogchgglpaa", sum := "fcde0833d5ed5cc4a2da0ce47ab788d13c52c3c73fb04505e869aa7512abe9ce", checked := Try.checked }
namespace Rows
def none {H : Type} : Left H := { results := [], args := [] }

/-- 'selvagelaw13.CodeEncodes': WHATEVER THE INPUT: true; the input reads as it did. -/
def codeEncodesSpec : ChangeSpec := { name := "codeEncodes", fn := fun _ => fun
  | [d] => { results := [.lit (.bool true)], args := [d] }
  | _ => none }
def codeEncodesRow : OpenClaim := { program := "ytadbiogchgglpaa", sum := "fcde0833d5ed5cc4a2da0ce47ab788d13c52c3c73fb04505e869aa7512abe9ce", func := "selvage/selvagelaw13.CodeEncodes", spec := "codeEncodes", unfollowed := true, recurses := true, apart := false }
def CodeEncodesSaid : Prop := codeEncodesRow.holds Try.pinned (OpenSpec.ofChange codeEncodesSpec)

/-- ITS FALSE NEIGHBOUR: 'it returns false'. Refute it at one input. -/
def codeEncodesWrong : ChangeSpec := { name := "codeEncodes", fn := fun _ => fun
  | [d] => { results := [.lit (.bool false)], args := [d] }
  | _ => none }
def CodeEncodesWrongFalsely : Prop := codeEncodesRow.holds Try.pinned (OpenSpec.ofChange codeEncodesWrong)

/-- 'selvagelaw13.CodeUses': WHATEVER THE INPUT: true; the input reads as it did. -/
def codeUsesSpec : ChangeSpec := { name := "codeUses", fn := fun _ => fun
  | [d] => { results := [.lit (.bool true)], args := [d] }
  | _ => none }
def codeUsesRow : OpenClaim := { program := "ytadbiogchgglpaa", sum := "fcde0833d5ed5cc4a2da0ce47ab788d13c52c3c73fb04505e869aa7512abe9ce", func := "selvage/selvagelaw13.CodeUses", spec := "codeUses", unfollowed := true, recurses := true, apart := false }
def CodeUsesSaid : Prop := codeUsesRow.holds Try.pinned (OpenSpec.ofChange codeUsesSpec)

/-- ITS FALSE NEIGHBOUR: 'it returns false'. Refute it at one input. -/
def codeUsesWrong : ChangeSpec := { name := "codeUses", fn := fun _ => fun
  | [d] => { results := [.lit (.bool false)], args := [d] }
  | _ => none }
def CodeUsesWrongFalsely : Prop := codeUsesRow.holds Try.pinned (OpenSpec.ofChange codeUsesWrong)

/-- 'selvagelaw13.CodeSizes': WHATEVER THE INPUT: true; the input reads as it did. -/
def codeSizesSpec : ChangeSpec := { name := "codeSizes", fn := fun _ => fun
  | [d1, d2, d3, d4] => { results := [.lit (.bool true)], args := [d1, d2, d3, d4] }
  | _ => none }
def codeSizesRow : OpenClaim := { program := "ytadbiogchgglpaa", sum := "fcde0833d5ed5cc4a2da0ce47ab788d13c52c3c73fb04505e869aa7512abe9ce", func := "selvage/selvagelaw13.CodeSizes", spec := "codeSizes", unfollowed := true, recurses := true, apart := false }
def CodeSizesSaid : Prop := codeSizesRow.holds Try.pinned (OpenSpec.ofChange codeSizesSpec)

/-- ITS FALSE NEIGHBOUR: 'it returns false'. Refute it at one input. -/
def codeSizesWrong : ChangeSpec := { name := "codeSizes", fn := fun _ => fun
  | [d1, d2, d3, d4] => { results := [.lit (.bool false)], args := [d1, d2, d3, d4] }
  | _ => none }
def CodeSizesWrongFalsely : Prop := codeSizesRow.holds Try.pinned (OpenSpec.ofChange codeSizesWrong)

/-- 'selvagelaw13.CodeLong': WHATEVER THE INPUT: true; the input reads as it did. -/
def codeLongSpec : ChangeSpec := { name := "codeLong", fn := fun _ => fun
  | [d] => { results := [.lit (.bool true)], args := [d] }
  | _ => none }
def codeLongRow : OpenClaim := { program := "ytadbiogchgglpaa", sum := "fcde0833d5ed5cc4a2da0ce47ab788d13c52c3c73fb04505e869aa7512abe9ce", func := "selvage/selvagelaw13.CodeLong", spec := "codeLong", unfollowed := true, recurses := true, apart := false }
def CodeLongSaid : Prop := codeLongRow.holds Try.pinned (OpenSpec.ofChange codeLongSpec)

/-- ITS FALSE NEIGHBOUR: 'it returns false'. Refute it at one input. -/
def codeLongWrong : ChangeSpec := { name := "codeLong", fn := fun _ => fun
  | [d] => { results := [.lit (.bool false)], args := [d] }
  | _ => none }
def CodeLongWrongFalsely : Prop := codeLongRow.holds Try.pinned (OpenSpec.ofChange codeLongWrong)

/-- 'selvagelaw13.CodeDecodes': WHATEVER THE INPUT: true; the input reads as it did. -/
def codeDecodesSpec : ChangeSpec := { name := "codeDecodes", fn := fun _ => fun
  | [d] => { results := [.lit (.bool true)], args := [d] }
  | _ => none }
def codeDecodesRow : OpenClaim := { program := "ytadbiogchgglpaa", sum := "fcde0833d5ed5cc4a2da0ce47ab788d13c52c3c73fb04505e869aa7512abe9ce", func := "selvage/selvagelaw13.CodeDecodes", spec := "codeDecodes", unfollowed := true, recurses := true, apart := false }
def CodeDecodesSaid : Prop := codeDecodesRow.holds Try.pinned (OpenSpec.ofChange codeDecodesSpec)

/-- ITS FALSE NEIGHBOUR: 'it returns false'. Refute it at one input. -/
def codeDecodesWrong : ChangeSpec := { name := "codeDecodes", fn := fun _ => fun
  | [d] => { results := [.lit (.bool false)], args := [d] }
  | _ => none }
def CodeDecodesWrongFalsely : Prop := codeDecodesRow.holds Try.pinned (OpenSpec.ofChange codeDecodesWrong)

/-- 'selvagelaw13.CodeRound': WHATEVER THE INPUT: true; the input reads as it did. -/
def codeRoundSpec : ChangeSpec := { name := "codeRound", fn := fun _ => fun
  | [d1, d2] => { results := [.lit (.bool true)], args := [d1, d2] }
  | _ => none }
def codeRoundRow : OpenClaim := { program := "ytadbiogchgglpaa", sum := "fcde0833d5ed5cc4a2da0ce47ab788d13c52c3c73fb04505e869aa7512abe9ce", func := "selvage/selvagelaw13.CodeRound", spec := "codeRound", unfollowed := true, recurses := true, apart := false }
def CodeRoundSaid : Prop := codeRoundRow.holds Try.pinned (OpenSpec.ofChange codeRoundSpec)

/-- ITS FALSE NEIGHBOUR: 'it returns false'. Refute it at one input. -/
def codeRoundWrong : ChangeSpec := { name := "codeRound", fn := fun _ => fun
  | [d1, d2] => { results := [.lit (.bool false)], args := [d1, d2] }
  | _ => none }
def CodeRoundWrongFalsely : Prop := codeRoundRow.holds Try.pinned (OpenSpec.ofChange codeRoundWrong)

/- THE SECOND FORM. 'bulk': how many values and letters a reading holds, each counted each time it is reached (what is shared counts as often as it is met; a slice's spare places count too). A statement '..UptoSaid' is the law's where the arguments, and the package variables that the reading takes, are together of bulk at most 1048576: NARROWER than '..Said'. Prove '..Said' where nothing that the law and all that it calls make is longer than what came in: it says more and counts as full. Else prove '..UptoSaid'. A law counts once. -/
mutual
def uptoBulk {H : Type} : DataW H → Nat
  | .lit (.string bytes) => bytes.length + 1
  | .lit _ => 1
  | .nil => 1
  | .ptr d => uptoBulk d + 1
  | .slice elems spare => uptoBulkAll elems + uptoBulkAll spare + 1
  | .agg parts => uptoBulkAll parts + 1
  | .iface _ d => uptoBulk d + 1
  | .map entries => uptoBulkEntries entries + 1
  | .held _ => 1
def uptoBulkAll {H : Type} : List (DataW H) → Nat
  | [] => 0
  | d :: r => uptoBulk d + uptoBulkAll r
def uptoBulkEntries {H : Type} : List (Lit × DataW H) → Nat
  | [] => 0
  | x :: r => uptoBulkEntry x + uptoBulkEntries r
def uptoBulkEntry {H : Type} : Lit × DataW H → Nat
  | (.string bytes, d) => bytes.length + uptoBulk d + 1
  | (_, d) => uptoBulk d + 1
 end
def uptoSmall : (H : Type) → List (DataW H) → Bool := fun _ ds => decide (uptoBulkAll ds ≤ 1048576)
def OpenSpec.upto (s : _root_.Go.ChangeSpec) : _root_.Go.OpenSpec := { _root_.Go.OpenSpec.ofChange s with cond := some uptoSmall }

/-- 'selvagelaw13.CodeEncodes', WHERE WHAT IT READS IS OF BULK AT MOST 1048576: true; the input reads as it did. -/
def codeEncodesUptoRow : OpenClaim := { program := "ytadbiogchgglpaa", sum := "fcde0833d5ed5cc4a2da0ce47ab788d13c52c3c73fb04505e869aa7512abe9ce", func := "selvage/selvagelaw13.CodeEncodes", spec := "codeEncodes", unfollowed := true, recurses := true, apart := false, narrowed := true }
def CodeEncodesUptoSaid : Prop := codeEncodesUptoRow.holds Try.pinned (OpenSpec.upto codeEncodesSpec)

/-- 'selvagelaw13.CodeUses', WHERE WHAT IT READS IS OF BULK AT MOST 1048576: true; the input reads as it did. -/
def codeUsesUptoRow : OpenClaim := { program := "ytadbiogchgglpaa", sum := "fcde0833d5ed5cc4a2da0ce47ab788d13c52c3c73fb04505e869aa7512abe9ce", func := "selvage/selvagelaw13.CodeUses", spec := "codeUses", unfollowed := true, recurses := true, apart := false, narrowed := true }
def CodeUsesUptoSaid : Prop := codeUsesUptoRow.holds Try.pinned (OpenSpec.upto codeUsesSpec)

/-- 'selvagelaw13.CodeSizes', WHERE WHAT IT READS IS OF BULK AT MOST 1048576: true; the input reads as it did. -/
def codeSizesUptoRow : OpenClaim := { program := "ytadbiogchgglpaa", sum := "fcde0833d5ed5cc4a2da0ce47ab788d13c52c3c73fb04505e869aa7512abe9ce", func := "selvage/selvagelaw13.CodeSizes", spec := "codeSizes", unfollowed := true, recurses := true, apart := false, narrowed := true }
def CodeSizesUptoSaid : Prop := codeSizesUptoRow.holds Try.pinned (OpenSpec.upto codeSizesSpec)

/-- 'selvagelaw13.CodeLong', WHERE WHAT IT READS IS OF BULK AT MOST 1048576: true; the input reads as it did. -/
def codeLongUptoRow : OpenClaim := { program := "ytadbiogchgglpaa", sum := "fcde0833d5ed5cc4a2da0ce47ab788d13c52c3c73fb04505e869aa7512abe9ce", func := "selvage/selvagelaw13.CodeLong", spec := "codeLong", unfollowed := true, recurses := true, apart := false, narrowed := true }
def CodeLongUptoSaid : Prop := codeLongUptoRow.holds Try.pinned (OpenSpec.upto codeLongSpec)

/-- 'selvagelaw13.CodeDecodes', WHERE WHAT IT READS IS OF BULK AT MOST 1048576: true; the input reads as it did. -/
def codeDecodesUptoRow : OpenClaim := { program := "ytadbiogchgglpaa", sum := "fcde0833d5ed5cc4a2da0ce47ab788d13c52c3c73fb04505e869aa7512abe9ce", func := "selvage/selvagelaw13.CodeDecodes", spec := "codeDecodes", unfollowed := true, recurses := true, apart := false, narrowed := true }
def CodeDecodesUptoSaid : Prop := codeDecodesUptoRow.holds Try.pinned (OpenSpec.upto codeDecodesSpec)

/-- 'selvagelaw13.CodeRound', WHERE WHAT IT READS IS OF BULK AT MOST 1048576: true; the input reads as it did. -/
def codeRoundUptoRow : OpenClaim := { program := "ytadbiogchgglpaa", sum := "fcde0833d5ed5cc4a2da0ce47ab788d13c52c3c73fb04505e869aa7512abe9ce", func := "selvage/selvagelaw13.CodeRound", spec := "codeRound", unfollowed := true, recurses := true, apart := false, narrowed := true }
def CodeRoundUptoSaid : Prop := codeRoundUptoRow.holds Try.pinned (OpenSpec.upto codeRoundSpec)

end Rows
end Go.Proofs.Ytadbiogchgglpaa
