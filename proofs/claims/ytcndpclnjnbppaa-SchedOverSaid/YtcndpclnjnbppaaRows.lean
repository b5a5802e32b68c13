/-
  No cell of these rows narrows 'for every input' (looked for: loops, veiled, ifaces, maps, wideKeys, modest, calm, conditions, laid).
  DERIVED. THE GIVEN ROWS OF THIS SEAT. 5 by the template 'for every input the law returns true; each argument reads behind the call as it read before'; 0 by the template 'total and deterministic' (their statements: YtcndpclnjnbppaaTotals.lean).
  GIVEN WITH THE SEED: the statements are not yours to turn. If you find one false, say at which input.
  Laid BY PROGRAM, IN A SANDBOX (cutbox-rows.mjs): the forced cells as the released guide's own fill.sh prints them over the translation 09c5fd1c59a06be8… (all of the seat's roots in one cut). By AI agents, Wed Nov 11 2026. No macro, syntax, notation, axiom, sorry.
-/
import Derived.Test.YtcndpclnjnbppaaChecked
import GoSem.Claim
import GoSem.ClaimJoined
import GoSem.ClaimMapViews
import Derived.JoinedTies
import Derived.KernelRfl
namespace Go.Proofs.Ytcndpclnjnbppaa
/- THE CELL 'sum', in the pinned program and in every row, IS THE sha256 OF THE DUMP (.gsa) THAT YtcndpclnjnbppaaProg.lean LOADS. Nothing in Lean hashes anything: it is a label: what it is worth is what the hold of that sum in a sandbox is worth. -/
noncomputable def Try.pinned : Pinned := { name := "ytcndpclnjnbppaa", sum := "09c5fd1c59a06be8cfaf1a040c035b118671f60df15b6a93ccb88b6e12f01049", checked := Try.checked }
namespace Rows
def none {H : Type} : Left H := { results := [], args := [] }

/-- 'selvagelaw19.SchedOwns': WHATEVER THE INPUT: true; the input reads as it did. -/
def schedOwnsSpec : ChangeSpec := { name := "schedOwns", fn := fun _ => fun
  | [d1, d2] => { results := [.lit (.bool true)], args := [d1, d2] }
  | _ => none }
def schedOwnsRow : OpenClaim := { program := "ytcndpclnjnbppaa", sum := "09c5fd1c59a06be8cfaf1a040c035b118671f60df15b6a93ccb88b6e12f01049", func := "selvage/selvagelaw19.SchedOwns", spec := "schedOwns", unfollowed := true, recurses := true, apart := false }
def SchedOwnsSaid : Prop := schedOwnsRow.holds Try.pinned (OpenSpec.ofChange schedOwnsSpec)

/-- ITS FALSE NEIGHBOUR: 'it returns false'. Refute it at one input. -/
def schedOwnsWrong : ChangeSpec := { name := "schedOwns", fn := fun _ => fun
  | [d1, d2] => { results := [.lit (.bool false)], args := [d1, d2] }
  | _ => none }
def SchedOwnsWrongFalsely : Prop := schedOwnsRow.holds Try.pinned (OpenSpec.ofChange schedOwnsWrong)

/-- 'selvagelaw19.SchedFair': WHATEVER THE INPUT: true; the input reads as it did. -/
def schedFairSpec : ChangeSpec := { name := "schedFair", fn := fun _ => fun
  | [d1, d2] => { results := [.lit (.bool true)], args := [d1, d2] }
  | _ => none }
def schedFairRow : OpenClaim := { program := "ytcndpclnjnbppaa", sum := "09c5fd1c59a06be8cfaf1a040c035b118671f60df15b6a93ccb88b6e12f01049", func := "selvage/selvagelaw19.SchedFair", spec := "schedFair", unfollowed := true, recurses := true, apart := false }
def SchedFairSaid : Prop := schedFairRow.holds Try.pinned (OpenSpec.ofChange schedFairSpec)

/-- ITS FALSE NEIGHBOUR: 'it returns false'. Refute it at one input. -/
def schedFairWrong : ChangeSpec := { name := "schedFair", fn := fun _ => fun
  | [d1, d2] => { results := [.lit (.bool false)], args := [d1, d2] }
  | _ => none }
def SchedFairWrongFalsely : Prop := schedFairRow.holds Try.pinned (OpenSpec.ofChange schedFairWrong)

/-- 'selvagelaw19.SchedPlays': WHATEVER THE INPUT: true; the input reads as it did. -/
def schedPlaysSpec : ChangeSpec := { name := "schedPlays", fn := fun _ => fun
  | [d1, d2] => { results := [.lit (.bool true)], args := [d1, d2] }
  | _ => none }
def schedPlaysRow : OpenClaim := { program := "ytcndpclnjnbppaa", sum := "09c5fd1c59a06be8cfaf1a040c035b118671f60df15b6a93ccb88b6e12f01049", func := "selvage/selvagelaw19.SchedPlays", spec := "schedPlays", unfollowed := true, recurses := true, apart := false }
def SchedPlaysSaid : Prop := schedPlaysRow.holds Try.pinned (OpenSpec.ofChange schedPlaysSpec)

/-- ITS FALSE NEIGHBOUR: 'it returns false'. Refute it at one input. -/
def schedPlaysWrong : ChangeSpec := { name := "schedPlays", fn := fun _ => fun
  | [d1, d2] => { results := [.lit (.bool false)], args := [d1, d2] }
  | _ => none }
def SchedPlaysWrongFalsely : Prop := schedPlaysRow.holds Try.pinned (OpenSpec.ofChange schedPlaysWrong)

/-- 'selvagelaw19.SchedNothing': WHATEVER THE INPUT: true; the input reads as it did. -/
def schedNothingSpec : ChangeSpec := { name := "schedNothing", fn := fun _ => fun
  | [d1, d2] => { results := [.lit (.bool true)], args := [d1, d2] }
  | _ => none }
def schedNothingRow : OpenClaim := { program := "ytcndpclnjnbppaa", sum := "09c5fd1c59a06be8cfaf1a040c035b118671f60df15b6a93ccb88b6e12f01049", func := "selvage/selvagelaw19.SchedNothing", spec := "schedNothing", unfollowed := true, recurses := true, apart := false }
def SchedNothingSaid : Prop := schedNothingRow.holds Try.pinned (OpenSpec.ofChange schedNothingSpec)

/-- ITS FALSE NEIGHBOUR: 'it returns false'. Refute it at one input. -/
def schedNothingWrong : ChangeSpec := { name := "schedNothing", fn := fun _ => fun
  | [d1, d2] => { results := [.lit (.bool false)], args := [d1, d2] }
  | _ => none }
def SchedNothingWrongFalsely : Prop := schedNothingRow.holds Try.pinned (OpenSpec.ofChange schedNothingWrong)

/-- 'selvagelaw19.SchedOver': WHATEVER THE INPUT: true; the input reads as it did. -/
def schedOverSpec : ChangeSpec := { name := "schedOver", fn := fun _ => fun
  | [d1, d2, d3] => { results := [.lit (.bool true)], args := [d1, d2, d3] }
  | _ => none }
def schedOverRow : OpenClaim := { program := "ytcndpclnjnbppaa", sum := "09c5fd1c59a06be8cfaf1a040c035b118671f60df15b6a93ccb88b6e12f01049", func := "selvage/selvagelaw19.SchedOver", spec := "schedOver", unfollowed := true, recurses := true, apart := false }
def SchedOverSaid : Prop := schedOverRow.holds Try.pinned (OpenSpec.ofChange schedOverSpec)

/-- ITS FALSE NEIGHBOUR: 'it returns false'. Refute it at one input. -/
def schedOverWrong : ChangeSpec := { name := "schedOver", fn := fun _ => fun
  | [d1, d2, d3] => { results := [.lit (.bool false)], args := [d1, d2, d3] }
  | _ => none }
def SchedOverWrongFalsely : Prop := schedOverRow.holds Try.pinned (OpenSpec.ofChange schedOverWrong)

/- THE SECOND FORM. 'bulk': how many values and letters a reading holds, each counted each time it is reached (what is shared counts as often as it is met; a slice's spare places count too). A statement '..UptoSaid' is the law's where the arguments, and the package variables that the reading takes, are together of bulk at most 1048576: NARROWER than '..Said'. Prove '..Said' where nothing that the law and all that it calls make is longer than what came in: it says more and counts as full. Else prove '..UptoSaid'. A law counts once. -/
mutual
def uptoBulk {H : Type} : DataW H → Nat
  | .lit (.string bytes) => bytes.length + 1
  | .lit _ => 1
  | .nil => 1
  | .ptr d => uptoBulk d + 1
  | .slice elems spare => uptoBulkAll elems + uptoBulkAll spare + 1
  | .agg parts => uptoBulkAll parts + 1
  | .iface _ d => uptoBulk d + 1
  | .map entries => uptoBulkEntries entries + 1
  | .held _ => 1
def uptoBulkAll {H : Type} : List (DataW H) → Nat
  | [] => 0
  | d :: r => uptoBulk d + uptoBulkAll r
def uptoBulkEntries {H : Type} : List (Lit × DataW H) → Nat
  | [] => 0
  | x :: r => uptoBulkEntry x + uptoBulkEntries r
def uptoBulkEntry {H : Type} : Lit × DataW H → Nat
  | (.string bytes, d) => bytes.length + uptoBulk d + 1
  | (_, d) => uptoBulk d + 1
 end
def uptoSmall : (H : Type) → List (DataW H) → Bool := fun _ ds => decide (uptoBulkAll ds ≤ 1048576)
def OpenSpec.upto (s : _root_.Go.ChangeSpec) : _root_.Go.OpenSpec := { _root_.Go.OpenSpec.ofChange s with cond := some uptoSmall }

/-- 'selvagelaw19.SchedOwns', WHERE WHAT IT READS IS OF BULK AT MOST 1048576: true; the input reads as it did. -/
def schedOwnsUptoRow : OpenClaim := { program := "ytcndpclnjnbppaa", sum := "09c5fd1c59a06be8cfaf1a040c035b118671f60df15b6a93ccb88b6e12f01049", func := "selvage/selvagelaw19.SchedOwns", spec := "schedOwns", unfollowed := true, recurses := true, apart := false, narrowed := true }
def SchedOwnsUptoSaid : Prop := schedOwnsUptoRow.holds Try.pinned (OpenSpec.upto schedOwnsSpec)

/-- 'selvagelaw19.SchedFair', WHERE WHAT IT READS IS OF BULK AT MOST 1048576: true; the input reads as it did. -/
def schedFairUptoRow : OpenClaim := { program := "ytcndpclnjnbppaa", sum := "09c5fd1c59a06be8cfaf1a040c035b118671f60df15b6a93ccb88b6e12f01049", func := "selvage/selvagelaw19.SchedFair", spec := "schedFair", unfollowed := true, recurses := true, apart := false, narrowed := true }
def SchedFairUptoSaid : Prop := schedFairUptoRow.holds Try.pinned (OpenSpec.upto schedFairSpec)

/-- 'selvagelaw19.SchedPlays', WHERE WHAT IT READS IS OF BULK AT MOST 1048576: true; the input reads as it did. -/
def schedPlaysUptoRow : OpenClaim := { program := "ytcndpclnjnbppaa", sum := "09c5fd1c59a06be8cfaf1a040c035b118671f60df15b6a93ccb88b6e12f01049", func := "selvage/selvagelaw19.SchedPlays", spec := "schedPlays", unfollowed := true, recurses := true, apart := false, narrowed := true }
def SchedPlaysUptoSaid : Prop := schedPlaysUptoRow.holds Try.pinned (OpenSpec.upto schedPlaysSpec)

/-- 'selvagelaw19.SchedNothing', WHERE WHAT IT READS IS OF BULK AT MOST 1048576: true; the input reads as it did. -/
def schedNothingUptoRow : OpenClaim := { program := "ytcndpclnjnbppaa", sum := "09c5fd1c59a06be8cfaf1a040c035b118671f60df15b6a93ccb88b6e12f01049", func := "selvage/selvagelaw19.SchedNothing", spec := "schedNothing", unfollowed := true, recurses := true, apart := false, narrowed := true }
def SchedNothingUptoSaid : Prop := schedNothingUptoRow.holds Try.pinned (OpenSpec.upto schedNothingSpec)

/-- 'selvagelaw19.SchedOver', WHERE WHAT IT READS IS OF BULK AT MOST 1048576: true; the input reads as it did. -/
def schedOverUptoRow : OpenClaim := { program := "ytcndpclnjnbppaa", sum := "09c5fd1c59a06be8cfaf1a040c035b118671f60df15b6a93ccb88b6e12f01049", func := "selvage/selvagelaw19.SchedOver", spec := "schedOver", unfollowed := true, recurses := true, apart := false, narrowed := true }
def SchedOverUptoSaid : Prop := schedOverUptoRow.holds Try.pinned (OpenSpec.upto schedOverSpec)

end Rows
end Go.Proofs.Ytcndpclnjnbppaa
