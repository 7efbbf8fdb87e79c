/-
  NARROWER THAN 'FOR EVERY INPUT', by the rows' own cells (each row's printed sentence says how): TreeOrder: laid · TreeLines: laid · TreeBest: laid · TreeCommon: laid · TreeTips: laid · TreeNone: laid.
  DERIVED. THE GIVEN ROWS OF THIS SEAT. 6 by the template 'for every input the law returns true; each argument reads behind the call as it read before'; 0 by the template 'total and deterministic' (their statements: YtijnkieakenipaaDoorTotals.lean).
  GIVEN WITH THE SEED: the statements are not yours to turn. If you find one false, say at which input.
  Laid BY PROGRAM, IN A SANDBOX (cutbox-rows.mjs): the forced cells as the released guide's own fill.sh prints them over the translation b7c4e93e6cda1790… (all of the seat's roots in one cut). By AI agents, Wed Nov 11 2026. No macro, syntax, notation, axiom, sorry.
-/
import Derived.Test.YtijnkieakenipaaDoorChecked
import GoSem.Claim
import GoSem.ClaimJoined
import GoSem.ClaimMapViews
import Derived.JoinedTies
import Derived.KernelRfl
namespace Go.Proofs.YtijnkieakenipaaDoor
/- THE CELL 'sum', in the pinned program and in every row, IS THE sha256 OF THE DUMP (.gsa) THAT YtijnkieakenipaaDoorProg.lean LOADS. Nothing in Lean hashes anything: it is a label: what it is worth is what the hold of that sum in a sandbox is worth. -/
noncomputable def Tryd.pinned : Pinned := { name := "ytijnkieakenipaadoor", sum := "b7c4e93e6cda179026a7b7ee23be2d3734d3dd35370b28ba99b2f89a90a9fa32", checked := Tryd.checked }
namespace Rows
def none {H : Type} : Left H := { results := [], args := [] }

/- WHAT THE LISTED PACKAGE-LEVEL VARIABLES READ AS WHEN THE CALL BEGINS. Each datum BY PROGRAM (the guide's laid-datum.mjs) off the statement by which the dump's own 'gosem.cut.vars' lays the variable. In a bare row this is a premise. The card (YtijnkieakenipaaDoorCards.lean) ties it to the program's text. -/
def laid_florin_sha2_constants {H : Type} : DataW H := .agg [.lit (.int .u32 1116352408), .lit (.int .u32 1899447441), .lit (.int .u32 3049323471), .lit (.int .u32 3921009573), .lit (.int .u32 961987163), .lit (.int .u32 1508970993), .lit (.int .u32 2453635748), .lit (.int .u32 2870763221), .lit (.int .u32 3624381080), .lit (.int .u32 310598401), .lit (.int .u32 607225278), .lit (.int .u32 1426881987), .lit (.int .u32 1925078388), .lit (.int .u32 2162078206), .lit (.int .u32 2614888103), .lit (.int .u32 3248222580), .lit (.int .u32 3835390401), .lit (.int .u32 4022224774), .lit (.int .u32 264347078), .lit (.int .u32 604807628), .lit (.int .u32 770255983), .lit (.int .u32 1249150122), .lit (.int .u32 1555081692), .lit (.int .u32 1996064986), .lit (.int .u32 2554220882), .lit (.int .u32 2821834349), .lit (.int .u32 2952996808), .lit (.int .u32 3210313671), .lit (.int .u32 3336571891), .lit (.int .u32 3584528711), .lit (.int .u32 113926993), .lit (.int .u32 338241895), .lit (.int .u32 666307205), .lit (.int .u32 773529912), .lit (.int .u32 1294757372), .lit (.int .u32 1396182291), .lit (.int .u32 1695183700), .lit (.int .u32 1986661051), .lit (.int .u32 2177026350), .lit (.int .u32 2456956037), .lit (.int .u32 2730485921), .lit (.int .u32 2820302411), .lit (.int .u32 3259730800), .lit (.int .u32 3345764771), .lit (.int .u32 3516065817), .lit (.int .u32 3600352804), .lit (.int .u32 4094571909), .lit (.int .u32 275423344), .lit (.int .u32 430227734), .lit (.int .u32 506948616), .lit (.int .u32 659060556), .lit (.int .u32 883997877), .lit (.int .u32 958139571), .lit (.int .u32 1322822218), .lit (.int .u32 1537002063), .lit (.int .u32 1747873779), .lit (.int .u32 1955562222), .lit (.int .u32 2024104815), .lit (.int .u32 2227730452), .lit (.int .u32 2361852424), .lit (.int .u32 2428436474), .lit (.int .u32 2756734187), .lit (.int .u32 3204031479), .lit (.int .u32 3329325298)]
def laid_florin_sha2_initials {H : Type} : DataW H := .agg [.lit (.int .u32 1779033703), .lit (.int .u32 3144134277), .lit (.int .u32 1013904242), .lit (.int .u32 2773480762), .lit (.int .u32 1359893119), .lit (.int .u32 2600822924), .lit (.int .u32 528734635), .lit (.int .u32 1541459225)]

/-- 'florinlaw15.TreeOrder': WHATEVER THE INPUT: true; the input reads as it did. -/
def treeOrderSpec : ChangeSpec := { name := "treeOrder", fn := fun _ => fun
  | [d1, d2, d3] => { results := [.lit (.bool true)], args := [d1, d2, d3] }
  | _ => none }
def treeOrderRow : OpenClaim := { program := "ytijnkieakenipaadoor", sum := "b7c4e93e6cda179026a7b7ee23be2d3734d3dd35370b28ba99b2f89a90a9fa32", func := "florin/florinlaw15.TreeOrder", spec := "treeOrder", inPlace := ["math/bits.Add64", "math/bits.Sub64"], named := ["florin/sha2.initials", "florin/sha2.constants"], plainKeys := false, apart := false, laid := [("florin/sha2.constants", laid_florin_sha2_constants), ("florin/sha2.initials", laid_florin_sha2_initials)] }
def TreeOrderSaid : Prop := treeOrderRow.holds Tryd.pinned (OpenSpec.ofChange treeOrderSpec)

/-- ITS FALSE NEIGHBOUR: 'it returns false'. Refute it at one input. -/
def treeOrderWrong : ChangeSpec := { name := "treeOrder", fn := fun _ => fun
  | [d1, d2, d3] => { results := [.lit (.bool false)], args := [d1, d2, d3] }
  | _ => none }
def TreeOrderWrongFalsely : Prop := treeOrderRow.holds Tryd.pinned (OpenSpec.ofChange treeOrderWrong)

/-- 'florinlaw15.TreeLines': WHATEVER THE INPUT: true; the input reads as it did. -/
def treeLinesSpec : ChangeSpec := { name := "treeLines", fn := fun _ => fun
  | [d] => { results := [.lit (.bool true)], args := [d] }
  | _ => none }
def treeLinesRow : OpenClaim := { program := "ytijnkieakenipaadoor", sum := "b7c4e93e6cda179026a7b7ee23be2d3734d3dd35370b28ba99b2f89a90a9fa32", func := "florin/florinlaw15.TreeLines", spec := "treeLines", inPlace := ["math/bits.Add64", "math/bits.Sub64"], named := ["florin/sha2.initials", "florin/sha2.constants"], plainKeys := false, apart := false, laid := [("florin/sha2.constants", laid_florin_sha2_constants), ("florin/sha2.initials", laid_florin_sha2_initials)] }
def TreeLinesSaid : Prop := treeLinesRow.holds Tryd.pinned (OpenSpec.ofChange treeLinesSpec)

/-- ITS FALSE NEIGHBOUR: 'it returns false'. Refute it at one input. -/
def treeLinesWrong : ChangeSpec := { name := "treeLines", fn := fun _ => fun
  | [d] => { results := [.lit (.bool false)], args := [d] }
  | _ => none }
def TreeLinesWrongFalsely : Prop := treeLinesRow.holds Tryd.pinned (OpenSpec.ofChange treeLinesWrong)

/-- 'florinlaw15.TreeBest': WHATEVER THE INPUT: true; the input reads as it did. -/
def treeBestSpec : ChangeSpec := { name := "treeBest", fn := fun _ => fun
  | [d] => { results := [.lit (.bool true)], args := [d] }
  | _ => none }
def treeBestRow : OpenClaim := { program := "ytijnkieakenipaadoor", sum := "b7c4e93e6cda179026a7b7ee23be2d3734d3dd35370b28ba99b2f89a90a9fa32", func := "florin/florinlaw15.TreeBest", spec := "treeBest", inPlace := ["math/bits.Add64", "math/bits.Sub64"], named := ["florin/sha2.initials", "florin/sha2.constants"], plainKeys := false, apart := false, laid := [("florin/sha2.constants", laid_florin_sha2_constants), ("florin/sha2.initials", laid_florin_sha2_initials)] }
def TreeBestSaid : Prop := treeBestRow.holds Tryd.pinned (OpenSpec.ofChange treeBestSpec)

/-- ITS FALSE NEIGHBOUR: 'it returns false'. Refute it at one input. -/
def treeBestWrong : ChangeSpec := { name := "treeBest", fn := fun _ => fun
  | [d] => { results := [.lit (.bool false)], args := [d] }
  | _ => none }
def TreeBestWrongFalsely : Prop := treeBestRow.holds Tryd.pinned (OpenSpec.ofChange treeBestWrong)

/-- 'florinlaw15.TreeCommon': WHATEVER THE INPUT: true; the input reads as it did. -/
def treeCommonSpec : ChangeSpec := { name := "treeCommon", fn := fun _ => fun
  | [d1, d2, d3] => { results := [.lit (.bool true)], args := [d1, d2, d3] }
  | _ => none }
def treeCommonRow : OpenClaim := { program := "ytijnkieakenipaadoor", sum := "b7c4e93e6cda179026a7b7ee23be2d3734d3dd35370b28ba99b2f89a90a9fa32", func := "florin/florinlaw15.TreeCommon", spec := "treeCommon", inPlace := ["math/bits.Add64", "math/bits.Sub64"], named := ["florin/sha2.initials", "florin/sha2.constants"], plainKeys := false, apart := false, laid := [("florin/sha2.constants", laid_florin_sha2_constants), ("florin/sha2.initials", laid_florin_sha2_initials)] }
def TreeCommonSaid : Prop := treeCommonRow.holds Tryd.pinned (OpenSpec.ofChange treeCommonSpec)

/-- ITS FALSE NEIGHBOUR: 'it returns false'. Refute it at one input. -/
def treeCommonWrong : ChangeSpec := { name := "treeCommon", fn := fun _ => fun
  | [d1, d2, d3] => { results := [.lit (.bool false)], args := [d1, d2, d3] }
  | _ => none }
def TreeCommonWrongFalsely : Prop := treeCommonRow.holds Tryd.pinned (OpenSpec.ofChange treeCommonWrong)

/-- 'florinlaw15.TreeTips': WHATEVER THE INPUT: true; the input reads as it did. -/
def treeTipsSpec : ChangeSpec := { name := "treeTips", fn := fun _ => fun
  | [d] => { results := [.lit (.bool true)], args := [d] }
  | _ => none }
def treeTipsRow : OpenClaim := { program := "ytijnkieakenipaadoor", sum := "b7c4e93e6cda179026a7b7ee23be2d3734d3dd35370b28ba99b2f89a90a9fa32", func := "florin/florinlaw15.TreeTips", spec := "treeTips", inPlace := ["math/bits.Add64", "math/bits.Sub64"], named := ["florin/sha2.initials", "florin/sha2.constants"], plainKeys := false, apart := false, laid := [("florin/sha2.constants", laid_florin_sha2_constants), ("florin/sha2.initials", laid_florin_sha2_initials)] }
def TreeTipsSaid : Prop := treeTipsRow.holds Tryd.pinned (OpenSpec.ofChange treeTipsSpec)

/-- ITS FALSE NEIGHBOUR: 'it returns false'. Refute it at one input. -/
def treeTipsWrong : ChangeSpec := { name := "treeTips", fn := fun _ => fun
  | [d] => { results := [.lit (.bool false)], args := [d] }
  | _ => none }
def TreeTipsWrongFalsely : Prop := treeTipsRow.holds Tryd.pinned (OpenSpec.ofChange treeTipsWrong)

/-- 'florinlaw15.TreeNone': WHATEVER THE INPUT: true; the input reads as it did. -/
def treeNoneSpec : ChangeSpec := { name := "treeNone", fn := fun _ => fun
  | [d1, d2] => { results := [.lit (.bool true)], args := [d1, d2] }
  | _ => none }
def treeNoneRow : OpenClaim := { program := "ytijnkieakenipaadoor", sum := "b7c4e93e6cda179026a7b7ee23be2d3734d3dd35370b28ba99b2f89a90a9fa32", func := "florin/florinlaw15.TreeNone", spec := "treeNone", inPlace := ["math/bits.Add64", "math/bits.Sub64"], named := ["florin/sha2.initials", "florin/sha2.constants"], plainKeys := false, apart := false, laid := [("florin/sha2.constants", laid_florin_sha2_constants), ("florin/sha2.initials", laid_florin_sha2_initials)] }
def TreeNoneSaid : Prop := treeNoneRow.holds Tryd.pinned (OpenSpec.ofChange treeNoneSpec)

/-- ITS FALSE NEIGHBOUR: 'it returns false'. Refute it at one input. -/
def treeNoneWrong : ChangeSpec := { name := "treeNone", fn := fun _ => fun
  | [d1, d2] => { results := [.lit (.bool false)], args := [d1, d2] }
  | _ => none }
def TreeNoneWrongFalsely : Prop := treeNoneRow.holds Tryd.pinned (OpenSpec.ofChange treeNoneWrong)

/- THE SECOND FORM. 'bulk': how many values and letters a reading holds, each counted each time it is reached (what is shared counts as often as it is met; a slice's spare places count too). A statement '..UptoSaid' is the law's where the arguments, and the package variables that the reading takes, are together of bulk at most 1048576: NARROWER than '..Said'. Prove '..Said' where nothing that the law and all that it calls make is longer than what came in: it says more and counts as full. Else prove '..UptoSaid'. A law counts once. -/
mutual
def uptoBulk {H : Type} : DataW H → Nat
  | .lit (.string bytes) => bytes.length + 1
  | .lit _ => 1
  | .nil => 1
  | .ptr d => uptoBulk d + 1
  | .slice elems spare => uptoBulkAll elems + uptoBulkAll spare + 1
  | .agg parts => uptoBulkAll parts + 1
  | .iface _ d => uptoBulk d + 1
  | .map entries => uptoBulkEntries entries + 1
  | .held _ => 1
def uptoBulkAll {H : Type} : List (DataW H) → Nat
  | [] => 0
  | d :: r => uptoBulk d + uptoBulkAll r
def uptoBulkEntries {H : Type} : List (Lit × DataW H) → Nat
  | [] => 0
  | x :: r => uptoBulkEntry x + uptoBulkEntries r
def uptoBulkEntry {H : Type} : Lit × DataW H → Nat
  | (.string bytes, d) => bytes.length + uptoBulk d + 1
  | (_, d) => uptoBulk d + 1
 end
def uptoSmall : (H : Type) → List (DataW H) → Bool := fun _ ds => decide (uptoBulkAll ds ≤ 1048576)
def OpenSpec.upto (s : _root_.Go.ChangeSpec) : _root_.Go.OpenSpec := { _root_.Go.OpenSpec.ofChange s with cond := some uptoSmall }

/-- 'florinlaw15.TreeOrder', WHERE WHAT IT READS IS OF BULK AT MOST 1048576: true; the input reads as it did. -/
def treeOrderUptoRow : OpenClaim := { program := "ytijnkieakenipaadoor", sum := "b7c4e93e6cda179026a7b7ee23be2d3734d3dd35370b28ba99b2f89a90a9fa32", func := "florin/florinlaw15.TreeOrder", spec := "treeOrder", inPlace := ["math/bits.Add64", "math/bits.Sub64"], named := ["florin/sha2.initials", "florin/sha2.constants"], plainKeys := false, apart := false, laid := [("florin/sha2.constants", laid_florin_sha2_constants), ("florin/sha2.initials", laid_florin_sha2_initials)], narrowed := true }
def TreeOrderUptoSaid : Prop := treeOrderUptoRow.holds Tryd.pinned (OpenSpec.upto treeOrderSpec)

/-- 'florinlaw15.TreeLines', WHERE WHAT IT READS IS OF BULK AT MOST 1048576: true; the input reads as it did. -/
def treeLinesUptoRow : OpenClaim := { program := "ytijnkieakenipaadoor", sum := "b7c4e93e6cda179026a7b7ee23be2d3734d3dd35370b28ba99b2f89a90a9fa32", func := "florin/florinlaw15.TreeLines", spec := "treeLines", inPlace := ["math/bits.Add64", "math/bits.Sub64"], named := ["florin/sha2.initials", "florin/sha2.constants"], plainKeys := false, apart := false, laid := [("florin/sha2.constants", laid_florin_sha2_constants), ("florin/sha2.initials", laid_florin_sha2_initials)], narrowed := true }
def TreeLinesUptoSaid : Prop := treeLinesUptoRow.holds Tryd.pinned (OpenSpec.upto treeLinesSpec)

/-- 'florinlaw15.TreeBest', WHERE WHAT IT READS IS OF BULK AT MOST 1048576: true; the input reads as it did. -/
def treeBestUptoRow : OpenClaim := { program := "ytijnkieakenipaadoor", sum := "b7c4e93e6cda179026a7b7ee23be2d3734d3dd35370b28ba99b2f89a90a9fa32", func := "florin/florinlaw15.TreeBest", spec := "treeBest", inPlace := ["math/bits.Add64", "math/bits.Sub64"], named := ["florin/sha2.initials", "florin/sha2.constants"], plainKeys := false, apart := false, laid := [("florin/sha2.constants", laid_florin_sha2_constants), ("florin/sha2.initials", laid_florin_sha2_initials)], narrowed := true }
def TreeBestUptoSaid : Prop := treeBestUptoRow.holds Tryd.pinned (OpenSpec.upto treeBestSpec)

/-- 'florinlaw15.TreeCommon', WHERE WHAT IT READS IS OF BULK AT MOST 1048576: true; the input reads as it did. -/
def treeCommonUptoRow : OpenClaim := { program := "ytijnkieakenipaadoor", sum := "b7c4e93e6cda179026a7b7ee23be2d3734d3dd35370b28ba99b2f89a90a9fa32", func := "florin/florinlaw15.TreeCommon", spec := "treeCommon", inPlace := ["math/bits.Add64", "math/bits.Sub64"], named := ["florin/sha2.initials", "florin/sha2.constants"], plainKeys := false, apart := false, laid := [("florin/sha2.constants", laid_florin_sha2_constants), ("florin/sha2.initials", laid_florin_sha2_initials)], narrowed := true }
def TreeCommonUptoSaid : Prop := treeCommonUptoRow.holds Tryd.pinned (OpenSpec.upto treeCommonSpec)

/-- 'florinlaw15.TreeTips', WHERE WHAT IT READS IS OF BULK AT MOST 1048576: true; the input reads as it did. -/
def treeTipsUptoRow : OpenClaim := { program := "ytijnkieakenipaadoor", sum := "b7c4e93e6cda179026a7b7ee23be2d3734d3dd35370b28ba99b2f89a90a9fa32", func := "florin/florinlaw15.TreeTips", spec := "treeTips", inPlace := ["math/bits.Add64", "math/bits.Sub64"], named := ["florin/sha2.initials", "florin/sha2.constants"], plainKeys := false, apart := false, laid := [("florin/sha2.constants", laid_florin_sha2_constants), ("florin/sha2.initials", laid_florin_sha2_initials)], narrowed := true }
def TreeTipsUptoSaid : Prop := treeTipsUptoRow.holds Tryd.pinned (OpenSpec.upto treeTipsSpec)

/-- 'florinlaw15.TreeNone', WHERE WHAT IT READS IS OF BULK AT MOST 1048576: true; the input reads as it did. -/
def treeNoneUptoRow : OpenClaim := { program := "ytijnkieakenipaadoor", sum := "b7c4e93e6cda179026a7b7ee23be2d3734d3dd35370b28ba99b2f89a90a9fa32", func := "florin/florinlaw15.TreeNone", spec := "treeNone", inPlace := ["math/bits.Add64", "math/bits.Sub64"], named := ["florin/sha2.initials", "florin/sha2.constants"], plainKeys := false, apart := false, laid := [("florin/sha2.constants", laid_florin_sha2_constants), ("florin/sha2.initials", laid_florin_sha2_initials)], narrowed := true }
def TreeNoneUptoSaid : Prop := treeNoneUptoRow.holds Tryd.pinned (OpenSpec.upto treeNoneSpec)

end Rows
end Go.Proofs.YtijnkieakenipaaDoor
