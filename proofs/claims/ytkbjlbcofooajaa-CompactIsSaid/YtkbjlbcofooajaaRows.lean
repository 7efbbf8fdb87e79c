/-
  No cell of these rows narrows 'for every input' (looked for: loops, veiled, ifaces, maps, wideKeys, modest, calm, conditions, laid).
  DERIVED. THE GIVEN ROWS OF THIS SEAT. 5 by the template 'for every input the law returns true; each argument reads behind the call as it read before'; 0 by the template 'total and deterministic' (their statements: YtkbjlbcofooajaaTotals.lean).
  GIVEN WITH THE SEED: the statements are not yours to turn. If you find one false, say at which input.
  Laid BY PROGRAM, IN A SANDBOX (cutbox-rows.mjs): the forced cells as the released guide's own fill.sh prints them over the translation 1a2d591c7934d402… (all of the seat's roots in one cut). By AI agents, Wed Nov 11 2026. No macro, syntax, notation, axiom, sorry.
-/
import Derived.Test.YtkbjlbcofooajaaChecked
import GoSem.Claim
import GoSem.ClaimJoined
import GoSem.ClaimMapViews
import Derived.JoinedTies
import Derived.KernelRfl
namespace Go.Proofs.Ytkbjlbcofooajaa
/- THE CELL 'sum', in the pinned program and in every row, IS THE sha256 OF THE DUMP (.gsa) THAT YtkbjlbcofooajaaProg.lean LOADS. Nothing in Lean hashes anything: it is a label: what it is worth is what the hold of that sum in a sandbox is worth. -/
noncomputable def Try.pinned : Pinned := { name := "ytkbjlbcofooajaa", sum := "1a2d591c7934d4021b883d145a823bfd68a18786a085c7db4b1e688408b5ae00", checked := Try.checked }
namespace Rows
def none {H : Type} : Left H := { results := [], args := [] }

/-- 'florinlaw04.CompactBack': WHATEVER THE INPUT: true; the input reads as it did. -/
def compactBackSpec : ChangeSpec := { name := "compactBack", fn := fun _ => fun
  | [d1, d2] => { results := [.lit (.bool true)], args := [d1, d2] }
  | _ => none }
def compactBackRow : OpenClaim := { program := "ytkbjlbcofooajaa", sum := "1a2d591c7934d4021b883d145a823bfd68a18786a085c7db4b1e688408b5ae00", func := "florin/florinlaw04.CompactBack", spec := "compactBack", apart := false }
def CompactBackSaid : Prop := compactBackRow.holds Try.pinned (OpenSpec.ofChange compactBackSpec)

/-- ITS FALSE NEIGHBOUR: 'it returns false'. Refute it at one input. -/
def compactBackWrong : ChangeSpec := { name := "compactBack", fn := fun _ => fun
  | [d1, d2] => { results := [.lit (.bool false)], args := [d1, d2] }
  | _ => none }
def CompactBackWrongFalsely : Prop := compactBackRow.holds Try.pinned (OpenSpec.ofChange compactBackWrong)

/-- 'florinlaw04.CompactOnce': WHATEVER THE INPUT: true; the input reads as it did. -/
def compactOnceSpec : ChangeSpec := { name := "compactOnce", fn := fun _ => fun
  | [d] => { results := [.lit (.bool true)], args := [d] }
  | _ => none }
def compactOnceRow : OpenClaim := { program := "ytkbjlbcofooajaa", sum := "1a2d591c7934d4021b883d145a823bfd68a18786a085c7db4b1e688408b5ae00", func := "florin/florinlaw04.CompactOnce", spec := "compactOnce", apart := false }
def CompactOnceSaid : Prop := compactOnceRow.holds Try.pinned (OpenSpec.ofChange compactOnceSpec)

/-- ITS FALSE NEIGHBOUR: 'it returns false'. Refute it at one input. -/
def compactOnceWrong : ChangeSpec := { name := "compactOnce", fn := fun _ => fun
  | [d] => { results := [.lit (.bool false)], args := [d] }
  | _ => none }
def CompactOnceWrongFalsely : Prop := compactOnceRow.holds Try.pinned (OpenSpec.ofChange compactOnceWrong)

/-- 'florinlaw04.CompactBounds': WHATEVER THE INPUT: true; the input reads as it did. -/
def compactBoundsSpec : ChangeSpec := { name := "compactBounds", fn := fun _ => fun
  | [d1, d2, d3] => { results := [.lit (.bool true)], args := [d1, d2, d3] }
  | _ => none }
def compactBoundsRow : OpenClaim := { program := "ytkbjlbcofooajaa", sum := "1a2d591c7934d4021b883d145a823bfd68a18786a085c7db4b1e688408b5ae00", func := "florin/florinlaw04.CompactBounds", spec := "compactBounds", apart := false }
def CompactBoundsSaid : Prop := compactBoundsRow.holds Try.pinned (OpenSpec.ofChange compactBoundsSpec)

/-- ITS FALSE NEIGHBOUR: 'it returns false'. Refute it at one input. -/
def compactBoundsWrong : ChangeSpec := { name := "compactBounds", fn := fun _ => fun
  | [d1, d2, d3] => { results := [.lit (.bool false)], args := [d1, d2, d3] }
  | _ => none }
def CompactBoundsWrongFalsely : Prop := compactBoundsRow.holds Try.pinned (OpenSpec.ofChange compactBoundsWrong)

/-- 'florinlaw04.CompactIs': WHATEVER THE INPUT: true; the input reads as it did. -/
def compactIsSpec : ChangeSpec := { name := "compactIs", fn := fun _ => fun
  | [d1, d2, d3] => { results := [.lit (.bool true)], args := [d1, d2, d3] }
  | _ => none }
def compactIsRow : OpenClaim := { program := "ytkbjlbcofooajaa", sum := "1a2d591c7934d4021b883d145a823bfd68a18786a085c7db4b1e688408b5ae00", func := "florin/florinlaw04.CompactIs", spec := "compactIs", apart := false }
def CompactIsSaid : Prop := compactIsRow.holds Try.pinned (OpenSpec.ofChange compactIsSpec)

/-- ITS FALSE NEIGHBOUR: 'it returns false'. Refute it at one input. -/
def compactIsWrong : ChangeSpec := { name := "compactIs", fn := fun _ => fun
  | [d1, d2, d3] => { results := [.lit (.bool false)], args := [d1, d2, d3] }
  | _ => none }
def CompactIsWrongFalsely : Prop := compactIsRow.holds Try.pinned (OpenSpec.ofChange compactIsWrong)

/-- 'florinlaw04.CompactBytes': WHATEVER THE INPUT: true; the input reads as it did. -/
def compactBytesSpec : ChangeSpec := { name := "compactBytes", fn := fun _ => fun
  | [d1, d2] => { results := [.lit (.bool true)], args := [d1, d2] }
  | _ => none }
def compactBytesRow : OpenClaim := { program := "ytkbjlbcofooajaa", sum := "1a2d591c7934d4021b883d145a823bfd68a18786a085c7db4b1e688408b5ae00", func := "florin/florinlaw04.CompactBytes", spec := "compactBytes", apart := false }
def CompactBytesSaid : Prop := compactBytesRow.holds Try.pinned (OpenSpec.ofChange compactBytesSpec)

/-- ITS FALSE NEIGHBOUR: 'it returns false'. Refute it at one input. -/
def compactBytesWrong : ChangeSpec := { name := "compactBytes", fn := fun _ => fun
  | [d1, d2] => { results := [.lit (.bool false)], args := [d1, d2] }
  | _ => none }
def CompactBytesWrongFalsely : Prop := compactBytesRow.holds Try.pinned (OpenSpec.ofChange compactBytesWrong)

/- THE SECOND FORM. 'bulk': how many values and letters a reading holds, each counted each time it is reached (what is shared counts as often as it is met; a slice's spare places count too). A statement '..UptoSaid' is the law's where the arguments, and the package variables that the reading takes, are together of bulk at most 1048576: NARROWER than '..Said'. Prove '..Said' where nothing that the law and all that it calls make is longer than what came in: it says more and counts as full. Else prove '..UptoSaid'. A law counts once. -/
mutual
def uptoBulk {H : Type} : DataW H → Nat
  | .lit (.string bytes) => bytes.length + 1
  | .lit _ => 1
  | .nil => 1
  | .ptr d => uptoBulk d + 1
  | .slice elems spare => uptoBulkAll elems + uptoBulkAll spare + 1
  | .agg parts => uptoBulkAll parts + 1
  | .iface _ d => uptoBulk d + 1
  | .map entries => uptoBulkEntries entries + 1
  | .held _ => 1
def uptoBulkAll {H : Type} : List (DataW H) → Nat
  | [] => 0
  | d :: r => uptoBulk d + uptoBulkAll r
def uptoBulkEntries {H : Type} : List (Lit × DataW H) → Nat
  | [] => 0
  | x :: r => uptoBulkEntry x + uptoBulkEntries r
def uptoBulkEntry {H : Type} : Lit × DataW H → Nat
  | (.string bytes, d) => bytes.length + uptoBulk d + 1
  | (_, d) => uptoBulk d + 1
 end
def uptoSmall : (H : Type) → List (DataW H) → Bool := fun _ ds => decide (uptoBulkAll ds ≤ 1048576)
def OpenSpec.upto (s : _root_.Go.ChangeSpec) : _root_.Go.OpenSpec := { _root_.Go.OpenSpec.ofChange s with cond := some uptoSmall }

/-- 'florinlaw04.CompactBack', WHERE WHAT IT READS IS OF BULK AT MOST 1048576: true; the input reads as it did. -/
def compactBackUptoRow : OpenClaim := { program := "ytkbjlbcofooajaa", sum := "1a2d591c7934d4021b883d145a823bfd68a18786a085c7db4b1e688408b5ae00", func := "florin/florinlaw04.CompactBack", spec := "compactBack", apart := false, narrowed := true }
def CompactBackUptoSaid : Prop := compactBackUptoRow.holds Try.pinned (OpenSpec.upto compactBackSpec)

/-- 'florinlaw04.CompactOnce', WHERE WHAT IT READS IS OF BULK AT MOST 1048576: true; the input reads as it did. -/
def compactOnceUptoRow : OpenClaim := { program := "ytkbjlbcofooajaa", sum := "1a2d591c7934d4021b883d145a823bfd68a18786a085c7db4b1e688408b5ae00", func := "florin/florinlaw04.CompactOnce", spec := "compactOnce", apart := false, narrowed := true }
def CompactOnceUptoSaid : Prop := compactOnceUptoRow.holds Try.pinned (OpenSpec.upto compactOnceSpec)

/-- 'florinlaw04.CompactBounds', WHERE WHAT IT READS IS OF BULK AT MOST 1048576: true; the input reads as it did. -/
def compactBoundsUptoRow : OpenClaim := { program := "ytkbjlbcofooajaa", sum := "1a2d591c7934d4021b883d145a823bfd68a18786a085c7db4b1e688408b5ae00", func := "florin/florinlaw04.CompactBounds", spec := "compactBounds", apart := false, narrowed := true }
def CompactBoundsUptoSaid : Prop := compactBoundsUptoRow.holds Try.pinned (OpenSpec.upto compactBoundsSpec)

/-- 'florinlaw04.CompactIs', WHERE WHAT IT READS IS OF BULK AT MOST 1048576: true; the input reads as it did. -/
def compactIsUptoRow : OpenClaim := { program := "ytkbjlbcofooajaa", sum := "1a2d591c7934d4021b883d145a823bfd68a18786a085c7db4b1e688408b5ae00", func := "florin/florinlaw04.CompactIs", spec := "compactIs", apart := false, narrowed := true }
def CompactIsUptoSaid : Prop := compactIsUptoRow.holds Try.pinned (OpenSpec.upto compactIsSpec)

/-- 'florinlaw04.CompactBytes', WHERE WHAT IT READS IS OF BULK AT MOST 1048576: true; the input reads as it did. -/
def compactBytesUptoRow : OpenClaim := { program := "ytkbjlbcofooajaa", sum := "1a2d591c7934d4021b883d145a823bfd68a18786a085c7db4b1e688408b5ae00", func := "florin/florinlaw04.CompactBytes", spec := "compactBytes", apart := false, narrowed := true }
def CompactBytesUptoSaid : Prop := compactBytesUptoRow.holds Try.pinned (OpenSpec.upto compactBytesSpec)

end Rows
end Go.Proofs.Ytkbjlbcofooajaa
