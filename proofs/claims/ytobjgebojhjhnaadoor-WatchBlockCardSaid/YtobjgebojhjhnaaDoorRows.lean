/-
  NARROWER THAN 'FOR EVERY INPUT', by the rows' own cells (each row's printed sentence says how): WatchProves: laid · WatchNotes: laid · WatchSame: laid · WatchConfirms: laid · WatchAll: laid · WatchBlock: laid.
  DERIVED. THE GIVEN ROWS OF THIS SEAT. 6 by the template 'for every input the law returns true; each argument reads behind the call as it read before'; 0 by the template 'total and deterministic' (their statements: YtobjgebojhjhnaaDoorTotals.lean).
  GIVEN WITH THE SEED: the statements are not yours to turn. If you find one false, say at which input.
  Laid BY PROGRAM, IN A SANDBOX (cutbox-rows.mjs): the forced cells as the released guide's own fill.sh prints them over the translation f89a1aaa10330fed… (all of the seat's roots in one cut). By AI agents, Wed Nov 11 2026. No macro, syntax, notation, axiom, sorry.
-/
import Derived.Test.YtobjgebojhjhnaaDoorChecked
import GoSem.Claim
import GoSem.ClaimJoined
import GoSem.ClaimMapViews
import Derived.JoinedTies
import Derived.KernelRfl
namespace Go.Proofs.YtobjgebojhjhnaaDoor
/- THE CELL 'sum', in the pinned program and in every row, IS THE sha256 OF THE DUMP (.gsa) THAT YtobjgebojhjhnaaDoorProg.lean LOADS. Nothing in Lean hashes anything: it is a label: what it is worth is what the hold of that sum in a sandbox is worth. -/
noncomputable def Tryd.pinned : Pinned := { name := "ytobjgebojhjhnaadoor", sum := "f89a1aaa10330fed7697088686f222eb280d36d2067512c2fe69ea800e06e309", checked := Tryd.checked }
namespace Rows
def none {H : Type} : Left H := { results := [], args := [] }

/- WHAT THE LISTED PACKAGE-LEVEL VARIABLES READ AS WHEN THE CALL BEGINS. Each datum BY PROGRAM (the guide's laid-datum.mjs) off the statement by which the dump's own 'gosem.cut.vars' lays the variable. In a bare row this is a premise. The card (YtobjgebojhjhnaaDoorCards.lean) ties it to the program's text. -/
def laid_florin_sha2_constants {H : Type} : DataW H := .agg [.lit (.int .u32 1116352408), .lit (.int .u32 1899447441), .lit (.int .u32 3049323471), .lit (.int .u32 3921009573), .lit (.int .u32 961987163), .lit (.int .u32 1508970993), .lit (.int .u32 2453635748), .lit (.int .u32 2870763221), .lit (.int .u32 3624381080), .lit (.int .u32 310598401), .lit (.int .u32 607225278), .lit (.int .u32 1426881987), .lit (.int .u32 1925078388), .lit (.int .u32 2162078206), .lit (.int .u32 2614888103), .lit (.int .u32 3248222580), .lit (.int .u32 3835390401), .lit (.int .u32 4022224774), .lit (.int .u32 264347078), .lit (.int .u32 604807628), .lit (.int .u32 770255983), .lit (.int .u32 1249150122), .lit (.int .u32 1555081692), .lit (.int .u32 1996064986), .lit (.int .u32 2554220882), .lit (.int .u32 2821834349), .lit (.int .u32 2952996808), .lit (.int .u32 3210313671), .lit (.int .u32 3336571891), .lit (.int .u32 3584528711), .lit (.int .u32 113926993), .lit (.int .u32 338241895), .lit (.int .u32 666307205), .lit (.int .u32 773529912), .lit (.int .u32 1294757372), .lit (.int .u32 1396182291), .lit (.int .u32 1695183700), .lit (.int .u32 1986661051), .lit (.int .u32 2177026350), .lit (.int .u32 2456956037), .lit (.int .u32 2730485921), .lit (.int .u32 2820302411), .lit (.int .u32 3259730800), .lit (.int .u32 3345764771), .lit (.int .u32 3516065817), .lit (.int .u32 3600352804), .lit (.int .u32 4094571909), .lit (.int .u32 275423344), .lit (.int .u32 430227734), .lit (.int .u32 506948616), .lit (.int .u32 659060556), .lit (.int .u32 883997877), .lit (.int .u32 958139571), .lit (.int .u32 1322822218), .lit (.int .u32 1537002063), .lit (.int .u32 1747873779), .lit (.int .u32 1955562222), .lit (.int .u32 2024104815), .lit (.int .u32 2227730452), .lit (.int .u32 2361852424), .lit (.int .u32 2428436474), .lit (.int .u32 2756734187), .lit (.int .u32 3204031479), .lit (.int .u32 3329325298)]
def laid_florin_sha2_initials {H : Type} : DataW H := .agg [.lit (.int .u32 1779033703), .lit (.int .u32 3144134277), .lit (.int .u32 1013904242), .lit (.int .u32 2773480762), .lit (.int .u32 1359893119), .lit (.int .u32 2600822924), .lit (.int .u32 528734635), .lit (.int .u32 1541459225)]

/-- 'florinlaw21.WatchProves': WHATEVER THE INPUT: true; the input reads as it did. -/
def watchProvesSpec : ChangeSpec := { name := "watchProves", fn := fun _ => fun
  | [d1, d2, d3] => { results := [.lit (.bool true)], args := [d1, d2, d3] }
  | _ => none }
def watchProvesRow : OpenClaim := { program := "ytobjgebojhjhnaadoor", sum := "f89a1aaa10330fed7697088686f222eb280d36d2067512c2fe69ea800e06e309", func := "florin/florinlaw21.WatchProves", spec := "watchProves", inPlace := ["math/bits.Add64", "math/bits.Sub64"], unfollowed := true, recurses := true, named := ["florin/sha2.initials", "florin/sha2.constants"], plainKeys := false, apart := false, laid := [("florin/sha2.constants", laid_florin_sha2_constants), ("florin/sha2.initials", laid_florin_sha2_initials)] }
def WatchProvesSaid : Prop := watchProvesRow.holds Tryd.pinned (OpenSpec.ofChange watchProvesSpec)

/-- ITS FALSE NEIGHBOUR: 'it returns false'. Refute it at one input. -/
def watchProvesWrong : ChangeSpec := { name := "watchProves", fn := fun _ => fun
  | [d1, d2, d3] => { results := [.lit (.bool false)], args := [d1, d2, d3] }
  | _ => none }
def WatchProvesWrongFalsely : Prop := watchProvesRow.holds Tryd.pinned (OpenSpec.ofChange watchProvesWrong)

/-- 'florinlaw21.WatchNotes': WHATEVER THE INPUT: true; the input reads as it did. -/
def watchNotesSpec : ChangeSpec := { name := "watchNotes", fn := fun _ => fun
  | [d1, d2, d3] => { results := [.lit (.bool true)], args := [d1, d2, d3] }
  | _ => none }
def watchNotesRow : OpenClaim := { program := "ytobjgebojhjhnaadoor", sum := "f89a1aaa10330fed7697088686f222eb280d36d2067512c2fe69ea800e06e309", func := "florin/florinlaw21.WatchNotes", spec := "watchNotes", inPlace := ["math/bits.Add64", "math/bits.Sub64"], unfollowed := true, recurses := true, named := ["florin/sha2.initials", "florin/sha2.constants"], plainKeys := false, apart := false, laid := [("florin/sha2.constants", laid_florin_sha2_constants), ("florin/sha2.initials", laid_florin_sha2_initials)] }
def WatchNotesSaid : Prop := watchNotesRow.holds Tryd.pinned (OpenSpec.ofChange watchNotesSpec)

/-- ITS FALSE NEIGHBOUR: 'it returns false'. Refute it at one input. -/
def watchNotesWrong : ChangeSpec := { name := "watchNotes", fn := fun _ => fun
  | [d1, d2, d3] => { results := [.lit (.bool false)], args := [d1, d2, d3] }
  | _ => none }
def WatchNotesWrongFalsely : Prop := watchNotesRow.holds Tryd.pinned (OpenSpec.ofChange watchNotesWrong)

/-- 'florinlaw21.WatchSame': WHATEVER THE INPUT: true; the input reads as it did. -/
def watchSameSpec : ChangeSpec := { name := "watchSame", fn := fun _ => fun
  | [d1, d2, d3] => { results := [.lit (.bool true)], args := [d1, d2, d3] }
  | _ => none }
def watchSameRow : OpenClaim := { program := "ytobjgebojhjhnaadoor", sum := "f89a1aaa10330fed7697088686f222eb280d36d2067512c2fe69ea800e06e309", func := "florin/florinlaw21.WatchSame", spec := "watchSame", inPlace := ["math/bits.Add64", "math/bits.Sub64"], unfollowed := true, recurses := true, named := ["florin/sha2.initials", "florin/sha2.constants"], plainKeys := false, apart := false, laid := [("florin/sha2.constants", laid_florin_sha2_constants), ("florin/sha2.initials", laid_florin_sha2_initials)] }
def WatchSameSaid : Prop := watchSameRow.holds Tryd.pinned (OpenSpec.ofChange watchSameSpec)

/-- ITS FALSE NEIGHBOUR: 'it returns false'. Refute it at one input. -/
def watchSameWrong : ChangeSpec := { name := "watchSame", fn := fun _ => fun
  | [d1, d2, d3] => { results := [.lit (.bool false)], args := [d1, d2, d3] }
  | _ => none }
def WatchSameWrongFalsely : Prop := watchSameRow.holds Tryd.pinned (OpenSpec.ofChange watchSameWrong)

/-- 'florinlaw21.WatchConfirms': WHATEVER THE INPUT: true; the input reads as it did. -/
def watchConfirmsSpec : ChangeSpec := { name := "watchConfirms", fn := fun _ => fun
  | [d1, d2, d3, d4] => { results := [.lit (.bool true)], args := [d1, d2, d3, d4] }
  | _ => none }
def watchConfirmsRow : OpenClaim := { program := "ytobjgebojhjhnaadoor", sum := "f89a1aaa10330fed7697088686f222eb280d36d2067512c2fe69ea800e06e309", func := "florin/florinlaw21.WatchConfirms", spec := "watchConfirms", inPlace := ["math/bits.Add64", "math/bits.Sub64"], unfollowed := true, recurses := true, named := ["florin/sha2.initials", "florin/sha2.constants"], plainKeys := false, apart := false, laid := [("florin/sha2.constants", laid_florin_sha2_constants), ("florin/sha2.initials", laid_florin_sha2_initials)] }
def WatchConfirmsSaid : Prop := watchConfirmsRow.holds Tryd.pinned (OpenSpec.ofChange watchConfirmsSpec)

/-- ITS FALSE NEIGHBOUR: 'it returns false'. Refute it at one input. -/
def watchConfirmsWrong : ChangeSpec := { name := "watchConfirms", fn := fun _ => fun
  | [d1, d2, d3, d4] => { results := [.lit (.bool false)], args := [d1, d2, d3, d4] }
  | _ => none }
def WatchConfirmsWrongFalsely : Prop := watchConfirmsRow.holds Tryd.pinned (OpenSpec.ofChange watchConfirmsWrong)

/-- 'florinlaw21.WatchAll': WHATEVER THE INPUT: true; the input reads as it did. -/
def watchAllSpec : ChangeSpec := { name := "watchAll", fn := fun _ => fun
  | [d1, d2, d3, d4] => { results := [.lit (.bool true)], args := [d1, d2, d3, d4] }
  | _ => none }
def watchAllRow : OpenClaim := { program := "ytobjgebojhjhnaadoor", sum := "f89a1aaa10330fed7697088686f222eb280d36d2067512c2fe69ea800e06e309", func := "florin/florinlaw21.WatchAll", spec := "watchAll", inPlace := ["math/bits.Add64", "math/bits.Sub64"], unfollowed := true, recurses := true, named := ["florin/sha2.initials", "florin/sha2.constants"], plainKeys := false, apart := false, laid := [("florin/sha2.constants", laid_florin_sha2_constants), ("florin/sha2.initials", laid_florin_sha2_initials)] }
def WatchAllSaid : Prop := watchAllRow.holds Tryd.pinned (OpenSpec.ofChange watchAllSpec)

/-- ITS FALSE NEIGHBOUR: 'it returns false'. Refute it at one input. -/
def watchAllWrong : ChangeSpec := { name := "watchAll", fn := fun _ => fun
  | [d1, d2, d3, d4] => { results := [.lit (.bool false)], args := [d1, d2, d3, d4] }
  | _ => none }
def WatchAllWrongFalsely : Prop := watchAllRow.holds Tryd.pinned (OpenSpec.ofChange watchAllWrong)

/-- 'florinlaw21.WatchBlock': WHATEVER THE INPUT: true; the input reads as it did. -/
def watchBlockSpec : ChangeSpec := { name := "watchBlock", fn := fun _ => fun
  | [d1, d2, d3] => { results := [.lit (.bool true)], args := [d1, d2, d3] }
  | _ => none }
def watchBlockRow : OpenClaim := { program := "ytobjgebojhjhnaadoor", sum := "f89a1aaa10330fed7697088686f222eb280d36d2067512c2fe69ea800e06e309", func := "florin/florinlaw21.WatchBlock", spec := "watchBlock", inPlace := ["math/bits.Add64", "math/bits.Sub64"], unfollowed := true, recurses := true, named := ["florin/sha2.initials", "florin/sha2.constants"], plainKeys := false, apart := false, laid := [("florin/sha2.constants", laid_florin_sha2_constants), ("florin/sha2.initials", laid_florin_sha2_initials)] }
def WatchBlockSaid : Prop := watchBlockRow.holds Tryd.pinned (OpenSpec.ofChange watchBlockSpec)

/-- ITS FALSE NEIGHBOUR: 'it returns false'. Refute it at one input. -/
def watchBlockWrong : ChangeSpec := { name := "watchBlock", fn := fun _ => fun
  | [d1, d2, d3] => { results := [.lit (.bool false)], args := [d1, d2, d3] }
  | _ => none }
def WatchBlockWrongFalsely : Prop := watchBlockRow.holds Tryd.pinned (OpenSpec.ofChange watchBlockWrong)

/- THE SECOND FORM. 'bulk': how many values and letters a reading holds, each counted each time it is reached (what is shared counts as often as it is met; a slice's spare places count too). A statement '..UptoSaid' is the law's where the arguments, and the package variables that the reading takes, are together of bulk at most 1048576: NARROWER than '..Said'. Prove '..Said' where nothing that the law and all that it calls make is longer than what came in: it says more and counts as full. Else prove '..UptoSaid'. A law counts once. -/
mutual
def uptoBulk {H : Type} : DataW H → Nat
  | .lit (.string bytes) => bytes.length + 1
  | .lit _ => 1
  | .nil => 1
  | .ptr d => uptoBulk d + 1
  | .slice elems spare => uptoBulkAll elems + uptoBulkAll spare + 1
  | .agg parts => uptoBulkAll parts + 1
  | .iface _ d => uptoBulk d + 1
  | .map entries => uptoBulkEntries entries + 1
  | .held _ => 1
def uptoBulkAll {H : Type} : List (DataW H) → Nat
  | [] => 0
  | d :: r => uptoBulk d + uptoBulkAll r
def uptoBulkEntries {H : Type} : List (Lit × DataW H) → Nat
  | [] => 0
  | x :: r => uptoBulkEntry x + uptoBulkEntries r
def uptoBulkEntry {H : Type} : Lit × DataW H → Nat
  | (.string bytes, d) => bytes.length + uptoBulk d + 1
  | (_, d) => uptoBulk d + 1
 end
def uptoSmall : (H : Type) → List (DataW H) → Bool := fun _ ds => decide (uptoBulkAll ds ≤ 1048576)
def OpenSpec.upto (s : _root_.Go.ChangeSpec) : _root_.Go.OpenSpec := { _root_.Go.OpenSpec.ofChange s with cond := some uptoSmall }

/-- 'florinlaw21.WatchProves', WHERE WHAT IT READS IS OF BULK AT MOST 1048576: true; the input reads as it did. -/
def watchProvesUptoRow : OpenClaim := { program := "ytobjgebojhjhnaadoor", sum := "f89a1aaa10330fed7697088686f222eb280d36d2067512c2fe69ea800e06e309", func := "florin/florinlaw21.WatchProves", spec := "watchProves", inPlace := ["math/bits.Add64", "math/bits.Sub64"], unfollowed := true, recurses := true, named := ["florin/sha2.initials", "florin/sha2.constants"], plainKeys := false, apart := false, laid := [("florin/sha2.constants", laid_florin_sha2_constants), ("florin/sha2.initials", laid_florin_sha2_initials)], narrowed := true }
def WatchProvesUptoSaid : Prop := watchProvesUptoRow.holds Tryd.pinned (OpenSpec.upto watchProvesSpec)

/-- 'florinlaw21.WatchNotes', WHERE WHAT IT READS IS OF BULK AT MOST 1048576: true; the input reads as it did. -/
def watchNotesUptoRow : OpenClaim := { program := "ytobjgebojhjhnaadoor", sum := "f89a1aaa10330fed7697088686f222eb280d36d2067512c2fe69ea800e06e309", func := "florin/florinlaw21.WatchNotes", spec := "watchNotes", inPlace := ["math/bits.Add64", "math/bits.Sub64"], unfollowed := true, recurses := true, named := ["florin/sha2.initials", "florin/sha2.constants"], plainKeys := false, apart := false, laid := [("florin/sha2.constants", laid_florin_sha2_constants), ("florin/sha2.initials", laid_florin_sha2_initials)], narrowed := true }
def WatchNotesUptoSaid : Prop := watchNotesUptoRow.holds Tryd.pinned (OpenSpec.upto watchNotesSpec)

/-- 'florinlaw21.WatchSame', WHERE WHAT IT READS IS OF BULK AT MOST 1048576: true; the input reads as it did. -/
def watchSameUptoRow : OpenClaim := { program := "ytobjgebojhjhnaadoor", sum := "f89a1aaa10330fed7697088686f222eb280d36d2067512c2fe69ea800e06e309", func := "florin/florinlaw21.WatchSame", spec := "watchSame", inPlace := ["math/bits.Add64", "math/bits.Sub64"], unfollowed := true, recurses := true, named := ["florin/sha2.initials", "florin/sha2.constants"], plainKeys := false, apart := false, laid := [("florin/sha2.constants", laid_florin_sha2_constants), ("florin/sha2.initials", laid_florin_sha2_initials)], narrowed := true }
def WatchSameUptoSaid : Prop := watchSameUptoRow.holds Tryd.pinned (OpenSpec.upto watchSameSpec)

/-- 'florinlaw21.WatchConfirms', WHERE WHAT IT READS IS OF BULK AT MOST 1048576: true; the input reads as it did. -/
def watchConfirmsUptoRow : OpenClaim := { program := "ytobjgebojhjhnaadoor", sum := "f89a1aaa10330fed7697088686f222eb280d36d2067512c2fe69ea800e06e309", func := "florin/florinlaw21.WatchConfirms", spec := "watchConfirms", inPlace := ["math/bits.Add64", "math/bits.Sub64"], unfollowed := true, recurses := true, named := ["florin/sha2.initials", "florin/sha2.constants"], plainKeys := false, apart := false, laid := [("florin/sha2.constants", laid_florin_sha2_constants), ("florin/sha2.initials", laid_florin_sha2_initials)], narrowed := true }
def WatchConfirmsUptoSaid : Prop := watchConfirmsUptoRow.holds Tryd.pinned (OpenSpec.upto watchConfirmsSpec)

/-- 'florinlaw21.WatchAll', WHERE WHAT IT READS IS OF BULK AT MOST 1048576: true; the input reads as it did. -/
def watchAllUptoRow : OpenClaim := { program := "ytobjgebojhjhnaadoor", sum := "f89a1aaa10330fed7697088686f222eb280d36d2067512c2fe69ea800e06e309", func := "florin/florinlaw21.WatchAll", spec := "watchAll", inPlace := ["math/bits.Add64", "math/bits.Sub64"], unfollowed := true, recurses := true, named := ["florin/sha2.initials", "florin/sha2.constants"], plainKeys := false, apart := false, laid := [("florin/sha2.constants", laid_florin_sha2_constants), ("florin/sha2.initials", laid_florin_sha2_initials)], narrowed := true }
def WatchAllUptoSaid : Prop := watchAllUptoRow.holds Tryd.pinned (OpenSpec.upto watchAllSpec)

/-- 'florinlaw21.WatchBlock', WHERE WHAT IT READS IS OF BULK AT MOST 1048576: true; the input reads as it did. -/
def watchBlockUptoRow : OpenClaim := { program := "ytobjgebojhjhnaadoor", sum := "f89a1aaa10330fed7697088686f222eb280d36d2067512c2fe69ea800e06e309", func := "florin/florinlaw21.WatchBlock", spec := "watchBlock", inPlace := ["math/bits.Add64", "math/bits.Sub64"], unfollowed := true, recurses := true, named := ["florin/sha2.initials", "florin/sha2.constants"], plainKeys := false, apart := false, laid := [("florin/sha2.constants", laid_florin_sha2_constants), ("florin/sha2.initials", laid_florin_sha2_initials)], narrowed := true }
def WatchBlockUptoSaid : Prop := watchBlockUptoRow.holds Tryd.pinned (OpenSpec.upto watchBlockSpec)

end Rows
end Go.Proofs.YtobjgebojhjhnaaDoor
