/-
  No cell of these rows narrows 'for every input' (looked for: loops, veiled, ifaces, maps, wideKeys, modest, calm, conditions, laid).
  DERIVED. THE GIVEN ROWS OF THIS SEAT. 5 by the template 'for every input the law returns true; each argument reads behind the call as it read before'; 0 by the template 'total and deterministic' (their statements: YtnhipgmphhndhaaTotals.lean).
  GIVEN WITH THE SEED: the statements are not yours to turn. If you find one false, say at which input.
  Laid BY PROGRAM, IN A SANDBOX (cutbox-rows.mjs): the forced cells as the released guide's own fill.sh prints them over the translation 7f289aad6a6d980a… (all of the seat's roots in one cut). By AI agents, Wed Nov 11 2026. No macro, syntax, notation, axiom, sorry.
-/
import Derived.Test.YtnhipgmphhndhaaChecked
import GoSem.Claim
import GoSem.ClaimJoined
import GoSem.ClaimMapViews
import Derived.JoinedTies
import Derived.KernelRfl
namespace Go.Proofs.Ytnhipgmphhndhaa
/- THE CELL 'sum', in the pinned program and in every row, IS THE sha256 OF THE DUMP (.gsa) THAT YtnhipgmphhndhaaProg.lean LOADS. Nothing in Lean hashes anything: it is a label: what it is worth is what the hold of that sum in a sandbox is worth. -/
noncomputable def Try.pinned : Pinned := { name := "ytnhipgmphhndhaa", sum := "7f289aad6a6d980ab913339cb6fed46c291174a60e3d42bd05525065192090d6", checked := Try.checked }
namespace Rows
def none {H : Type} : Left H := { results := [], args := [] }

/-- 'selvagelaw14.VerifyStack': WHATEVER THE INPUT: true; the input reads as it did. -/
def verifyStackSpec : ChangeSpec := { name := "verifyStack", fn := fun _ => fun
  | [d1, d2] => { results := [.lit (.bool true)], args := [d1, d2] }
  | _ => none }
def verifyStackRow : OpenClaim := { program := "ytnhipgmphhndhaa", sum := "7f289aad6a6d980ab913339cb6fed46c291174a60e3d42bd05525065192090d6", func := "selvage/selvagelaw14.VerifyStack", spec := "verifyStack", unfollowed := true, recurses := true, apart := false }
def VerifyStackSaid : Prop := verifyStackRow.holds Try.pinned (OpenSpec.ofChange verifyStackSpec)

/-- ITS FALSE NEIGHBOUR: 'it returns false'. Refute it at one input. -/
def verifyStackWrong : ChangeSpec := { name := "verifyStack", fn := fun _ => fun
  | [d1, d2] => { results := [.lit (.bool false)], args := [d1, d2] }
  | _ => none }
def VerifyStackWrongFalsely : Prop := verifyStackRow.holds Try.pinned (OpenSpec.ofChange verifyStackWrong)

/-- 'selvagelaw14.VerifyMore': WHATEVER THE INPUT: true; the input reads as it did. -/
def verifyMoreSpec : ChangeSpec := { name := "verifyMore", fn := fun _ => fun
  | [d1, d2, d3] => { results := [.lit (.bool true)], args := [d1, d2, d3] }
  | _ => none }
def verifyMoreRow : OpenClaim := { program := "ytnhipgmphhndhaa", sum := "7f289aad6a6d980ab913339cb6fed46c291174a60e3d42bd05525065192090d6", func := "selvage/selvagelaw14.VerifyMore", spec := "verifyMore", unfollowed := true, recurses := true, apart := false }
def VerifyMoreSaid : Prop := verifyMoreRow.holds Try.pinned (OpenSpec.ofChange verifyMoreSpec)

/-- ITS FALSE NEIGHBOUR: 'it returns false'. Refute it at one input. -/
def verifyMoreWrong : ChangeSpec := { name := "verifyMore", fn := fun _ => fun
  | [d1, d2, d3] => { results := [.lit (.bool false)], args := [d1, d2, d3] }
  | _ => none }
def VerifyMoreWrongFalsely : Prop := verifyMoreRow.holds Try.pinned (OpenSpec.ofChange verifyMoreWrong)

/-- 'selvagelaw14.VerifyCodes': WHATEVER THE INPUT: true; the input reads as it did. -/
def verifyCodesSpec : ChangeSpec := { name := "verifyCodes", fn := fun _ => fun
  | [d] => { results := [.lit (.bool true)], args := [d] }
  | _ => none }
def verifyCodesRow : OpenClaim := { program := "ytnhipgmphhndhaa", sum := "7f289aad6a6d980ab913339cb6fed46c291174a60e3d42bd05525065192090d6", func := "selvage/selvagelaw14.VerifyCodes", spec := "verifyCodes", unfollowed := true, recurses := true, apart := false }
def VerifyCodesSaid : Prop := verifyCodesRow.holds Try.pinned (OpenSpec.ofChange verifyCodesSpec)

/-- ITS FALSE NEIGHBOUR: 'it returns false'. Refute it at one input. -/
def verifyCodesWrong : ChangeSpec := { name := "verifyCodes", fn := fun _ => fun
  | [d] => { results := [.lit (.bool false)], args := [d] }
  | _ => none }
def VerifyCodesWrongFalsely : Prop := verifyCodesRow.holds Try.pinned (OpenSpec.ofChange verifyCodesWrong)

/-- 'selvagelaw14.VerifyDepths': WHATEVER THE INPUT: true; the input reads as it did. -/
def verifyDepthsSpec : ChangeSpec := { name := "verifyDepths", fn := fun _ => fun
  | [d1, d2] => { results := [.lit (.bool true)], args := [d1, d2] }
  | _ => none }
def verifyDepthsRow : OpenClaim := { program := "ytnhipgmphhndhaa", sum := "7f289aad6a6d980ab913339cb6fed46c291174a60e3d42bd05525065192090d6", func := "selvage/selvagelaw14.VerifyDepths", spec := "verifyDepths", unfollowed := true, recurses := true, apart := false }
def VerifyDepthsSaid : Prop := verifyDepthsRow.holds Try.pinned (OpenSpec.ofChange verifyDepthsSpec)

/-- ITS FALSE NEIGHBOUR: 'it returns false'. Refute it at one input. -/
def verifyDepthsWrong : ChangeSpec := { name := "verifyDepths", fn := fun _ => fun
  | [d1, d2] => { results := [.lit (.bool false)], args := [d1, d2] }
  | _ => none }
def VerifyDepthsWrongFalsely : Prop := verifyDepthsRow.holds Try.pinned (OpenSpec.ofChange verifyDepthsWrong)

/-- 'selvagelaw14.VerifyBehind': WHATEVER THE INPUT: true; the input reads as it did. -/
def verifyBehindSpec : ChangeSpec := { name := "verifyBehind", fn := fun _ => fun
  | [d1, d2, d3, d4] => { results := [.lit (.bool true)], args := [d1, d2, d3, d4] }
  | _ => none }
def verifyBehindRow : OpenClaim := { program := "ytnhipgmphhndhaa", sum := "7f289aad6a6d980ab913339cb6fed46c291174a60e3d42bd05525065192090d6", func := "selvage/selvagelaw14.VerifyBehind", spec := "verifyBehind", unfollowed := true, recurses := true, apart := false }
def VerifyBehindSaid : Prop := verifyBehindRow.holds Try.pinned (OpenSpec.ofChange verifyBehindSpec)

/-- ITS FALSE NEIGHBOUR: 'it returns false'. Refute it at one input. -/
def verifyBehindWrong : ChangeSpec := { name := "verifyBehind", fn := fun _ => fun
  | [d1, d2, d3, d4] => { results := [.lit (.bool false)], args := [d1, d2, d3, d4] }
  | _ => none }
def VerifyBehindWrongFalsely : Prop := verifyBehindRow.holds Try.pinned (OpenSpec.ofChange verifyBehindWrong)

/- THE SECOND FORM. 'bulk': how many values and letters a reading holds, each counted each time it is reached (what is shared counts as often as it is met; a slice's spare places count too). A statement '..UptoSaid' is the law's where the arguments, and the package variables that the reading takes, are together of bulk at most 1048576: NARROWER than '..Said'. Prove '..Said' where nothing that the law and all that it calls make is longer than what came in: it says more and counts as full. Else prove '..UptoSaid'. A law counts once. -/
mutual
def uptoBulk {H : Type} : DataW H → Nat
  | .lit (.string bytes) => bytes.length + 1
  | .lit _ => 1
  | .nil => 1
  | .ptr d => uptoBulk d + 1
  | .slice elems spare => uptoBulkAll elems + uptoBulkAll spare + 1
  | .agg parts => uptoBulkAll parts + 1
  | .iface _ d => uptoBulk d + 1
  | .map entries => uptoBulkEntries entries + 1
  | .held _ => 1
def uptoBulkAll {H : Type} : List (DataW H) → Nat
  | [] => 0
  | d :: r => uptoBulk d + uptoBulkAll r
def uptoBulkEntries {H : Type} : List (Lit × DataW H) → Nat
  | [] => 0
  | x :: r => uptoBulkEntry x + uptoBulkEntries r
def uptoBulkEntry {H : Type} : Lit × DataW H → Nat
  | (.string bytes, d) => bytes.length + uptoBulk d + 1
  | (_, d) => uptoBulk d + 1
 end
def uptoSmall : (H : Type) → List (DataW H) → Bool := fun _ ds => decide (uptoBulkAll ds ≤ 1048576)
def OpenSpec.upto (s : _root_.Go.ChangeSpec) : _root_.Go.OpenSpec := { _root_.Go.OpenSpec.ofChange s with cond := some uptoSmall }

/-- 'selvagelaw14.VerifyStack', WHERE WHAT IT READS IS OF BULK AT MOST 1048576: true; the input reads as it did. -/
def verifyStackUptoRow : OpenClaim := { program := "ytnhipgmphhndhaa", sum := "7f289aad6a6d980ab913339cb6fed46c291174a60e3d42bd05525065192090d6", func := "selvage/selvagelaw14.VerifyStack", spec := "verifyStack", unfollowed := true, recurses := true, apart := false, narrowed := true }
def VerifyStackUptoSaid : Prop := verifyStackUptoRow.holds Try.pinned (OpenSpec.upto verifyStackSpec)

/-- 'selvagelaw14.VerifyMore', WHERE WHAT IT READS IS OF BULK AT MOST 1048576: true; the input reads as it did. -/
def verifyMoreUptoRow : OpenClaim := { program := "ytnhipgmphhndhaa", sum := "7f289aad6a6d980ab913339cb6fed46c291174a60e3d42bd05525065192090d6", func := "selvage/selvagelaw14.VerifyMore", spec := "verifyMore", unfollowed := true, recurses := true, apart := false, narrowed := true }
def VerifyMoreUptoSaid : Prop := verifyMoreUptoRow.holds Try.pinned (OpenSpec.upto verifyMoreSpec)

/-- 'selvagelaw14.VerifyCodes', WHERE WHAT IT READS IS OF BULK AT MOST 1048576: true; the input reads as it did. -/
def verifyCodesUptoRow : OpenClaim := { program := "ytnhipgmphhndhaa", sum := "7f289aad6a6d980ab913339cb6fed46c291174a60e3d42bd05525065192090d6", func := "selvage/selvagelaw14.VerifyCodes", spec := "verifyCodes", unfollowed := true, recurses := true, apart := false, narrowed := true }
def VerifyCodesUptoSaid : Prop := verifyCodesUptoRow.holds Try.pinned (OpenSpec.upto verifyCodesSpec)

/-- 'selvagelaw14.VerifyDepths', WHERE WHAT IT READS IS OF BULK AT MOST 1048576: true; the input reads as it did. -/
def verifyDepthsUptoRow : OpenClaim := { program := "ytnhipgmphhndhaa", sum := "7f289aad6a6d980ab913339cb6fed46c291174a60e3d42bd05525065192090d6", func := "selvage/selvagelaw14.VerifyDepths", spec := "verifyDepths", unfollowed := true, recurses := true, apart := false, narrowed := true }
def VerifyDepthsUptoSaid : Prop := verifyDepthsUptoRow.holds Try.pinned (OpenSpec.upto verifyDepthsSpec)

/-- 'selvagelaw14.VerifyBehind', WHERE WHAT IT READS IS OF BULK AT MOST 1048576: true; the input reads as it did. -/
def verifyBehindUptoRow : OpenClaim := { program := "ytnhipgmphhndhaa", sum := "7f289aad6a6d980ab913339cb6fed46c291174a60e3d42bd05525065192090d6", func := "selvage/selvagelaw14.VerifyBehind", spec := "verifyBehind", unfollowed := true, recurses := true, apart := false, narrowed := true }
def VerifyBehindUptoSaid : Prop := verifyBehindUptoRow.holds Try.pinned (OpenSpec.upto verifyBehindSpec)

end Rows
end Go.Proofs.Ytnhipgmphhndhaa
