/-
  NARROWER THAN 'FOR EVERY INPUT', by the rows' own cells (each row's printed sentence says how): TreeEquals: loops · TreeSums: loops · TreeSwaps: loops · TreeOwn: loops · TreeParts: loops · TreeNones: loops.
  DERIVED. THE GIVEN ROWS OF THIS SEAT. 6 by the template 'for every input the law returns true; each argument reads behind the call as it read before'; 0 by the template 'total and deterministic' (their statements: YtnmebgiiajnnjaaTotals.lean).
  GIVEN WITH THE SEED: the statements are not yours to turn. If you find one false, say at which input.
  Laid BY PROGRAM, IN A SANDBOX (cutbox-rows.mjs): the forced cells as the released guide's own fill.sh prints them over the translation 02fa90224aad2148… (all of the seat's roots in one cut). By AI agents, Wed Nov 11 2026. No macro, syntax, notation, axiom, sorry.
-/
import Derived.Test.YtnmebgiiajnnjaaChecked
import GoSem.Claim
import GoSem.ClaimJoined
import GoSem.ClaimMapViews
import Derived.JoinedTies
import Derived.KernelRfl
namespace Go.Proofs.Ytnmebgiiajnnjaa
/- THE CELL 'sum', in the pinned program and in every row, IS THE sha256 OF THE DUMP (.gsa) THAT YtnmebgiiajnnjaaProg.lean LOADS. Nothing in Lean hashes anything: it is a label: what it is worth is what the hold of that sum in a sandbox is worth. -/
noncomputable def Try.pinned : Pinned := { name := "ytnmebgiiajnnjaa", sum := "02fa90224aad2148ab2a57b1cb33c785cb3dd9950dd780344bd28d05b84575a1", checked := Try.checked }
namespace Rows
def none {H : Type} : Left H := { results := [], args := [] }

/-- 'demoticlaw06.TreeEquals': WHATEVER THE INPUT: true; the input reads as it did. -/
def treeEqualsSpec : ChangeSpec := { name := "treeEquals", fn := fun _ => fun
  | [d1, d2, d3] => { results := [.lit (.bool true)], args := [d1, d2, d3] }
  | _ => none }
def treeEqualsRow : OpenClaim := { program := "ytnmebgiiajnnjaa", sum := "02fa90224aad2148ab2a57b1cb33c785cb3dd9950dd780344bd28d05b84575a1", func := "demotic/demoticlaw06.TreeEquals", spec := "treeEquals", inPlace := ["internal/bytealg.IndexByteString", "internal/bytealg.IndexString"], unfollowed := true, recurses := true, named := ["internal/bytealg.MaxLen"], loops := true, apart := false }
def TreeEqualsSaid : Prop := treeEqualsRow.holds Try.pinned (OpenSpec.ofChange treeEqualsSpec)

/-- ITS FALSE NEIGHBOUR: 'it returns false'. Refute it at one input. -/
def treeEqualsWrong : ChangeSpec := { name := "treeEquals", fn := fun _ => fun
  | [d1, d2, d3] => { results := [.lit (.bool false)], args := [d1, d2, d3] }
  | _ => none }
def TreeEqualsWrongFalsely : Prop := treeEqualsRow.holds Try.pinned (OpenSpec.ofChange treeEqualsWrong)

/-- 'demoticlaw06.TreeSums': WHATEVER THE INPUT: true; the input reads as it did. -/
def treeSumsSpec : ChangeSpec := { name := "treeSums", fn := fun _ => fun
  | [d] => { results := [.lit (.bool true)], args := [d] }
  | _ => none }
def treeSumsRow : OpenClaim := { program := "ytnmebgiiajnnjaa", sum := "02fa90224aad2148ab2a57b1cb33c785cb3dd9950dd780344bd28d05b84575a1", func := "demotic/demoticlaw06.TreeSums", spec := "treeSums", inPlace := ["internal/bytealg.IndexByteString", "internal/bytealg.IndexString"], unfollowed := true, recurses := true, named := ["internal/bytealg.MaxLen"], loops := true, apart := false }
def TreeSumsSaid : Prop := treeSumsRow.holds Try.pinned (OpenSpec.ofChange treeSumsSpec)

/-- ITS FALSE NEIGHBOUR: 'it returns false'. Refute it at one input. -/
def treeSumsWrong : ChangeSpec := { name := "treeSums", fn := fun _ => fun
  | [d] => { results := [.lit (.bool false)], args := [d] }
  | _ => none }
def TreeSumsWrongFalsely : Prop := treeSumsRow.holds Try.pinned (OpenSpec.ofChange treeSumsWrong)

/-- 'demoticlaw06.TreeSwaps': WHATEVER THE INPUT: true; the input reads as it did. -/
def treeSwapsSpec : ChangeSpec := { name := "treeSwaps", fn := fun _ => fun
  | [d] => { results := [.lit (.bool true)], args := [d] }
  | _ => none }
def treeSwapsRow : OpenClaim := { program := "ytnmebgiiajnnjaa", sum := "02fa90224aad2148ab2a57b1cb33c785cb3dd9950dd780344bd28d05b84575a1", func := "demotic/demoticlaw06.TreeSwaps", spec := "treeSwaps", inPlace := ["internal/bytealg.IndexByteString", "internal/bytealg.IndexString"], unfollowed := true, recurses := true, named := ["internal/bytealg.MaxLen"], loops := true, apart := false }
def TreeSwapsSaid : Prop := treeSwapsRow.holds Try.pinned (OpenSpec.ofChange treeSwapsSpec)

/-- ITS FALSE NEIGHBOUR: 'it returns false'. Refute it at one input. -/
def treeSwapsWrong : ChangeSpec := { name := "treeSwaps", fn := fun _ => fun
  | [d] => { results := [.lit (.bool false)], args := [d] }
  | _ => none }
def TreeSwapsWrongFalsely : Prop := treeSwapsRow.holds Try.pinned (OpenSpec.ofChange treeSwapsWrong)

/-- 'demoticlaw06.TreeOwn': WHATEVER THE INPUT: true; the input reads as it did. -/
def treeOwnSpec : ChangeSpec := { name := "treeOwn", fn := fun _ => fun
  | [d] => { results := [.lit (.bool true)], args := [d] }
  | _ => none }
def treeOwnRow : OpenClaim := { program := "ytnmebgiiajnnjaa", sum := "02fa90224aad2148ab2a57b1cb33c785cb3dd9950dd780344bd28d05b84575a1", func := "demotic/demoticlaw06.TreeOwn", spec := "treeOwn", inPlace := ["internal/bytealg.IndexByteString", "internal/bytealg.IndexString"], unfollowed := true, recurses := true, named := ["internal/bytealg.MaxLen"], loops := true, apart := false }
def TreeOwnSaid : Prop := treeOwnRow.holds Try.pinned (OpenSpec.ofChange treeOwnSpec)

/-- ITS FALSE NEIGHBOUR: 'it returns false'. Refute it at one input. -/
def treeOwnWrong : ChangeSpec := { name := "treeOwn", fn := fun _ => fun
  | [d] => { results := [.lit (.bool false)], args := [d] }
  | _ => none }
def TreeOwnWrongFalsely : Prop := treeOwnRow.holds Try.pinned (OpenSpec.ofChange treeOwnWrong)

/-- 'demoticlaw06.TreeParts': WHATEVER THE INPUT: true; the input reads as it did. -/
def treePartsSpec : ChangeSpec := { name := "treeParts", fn := fun _ => fun
  | [d] => { results := [.lit (.bool true)], args := [d] }
  | _ => none }
def treePartsRow : OpenClaim := { program := "ytnmebgiiajnnjaa", sum := "02fa90224aad2148ab2a57b1cb33c785cb3dd9950dd780344bd28d05b84575a1", func := "demotic/demoticlaw06.TreeParts", spec := "treeParts", inPlace := ["internal/bytealg.IndexByteString", "internal/bytealg.IndexString"], unfollowed := true, recurses := true, named := ["internal/bytealg.MaxLen"], loops := true, apart := false }
def TreePartsSaid : Prop := treePartsRow.holds Try.pinned (OpenSpec.ofChange treePartsSpec)

/-- ITS FALSE NEIGHBOUR: 'it returns false'. Refute it at one input. -/
def treePartsWrong : ChangeSpec := { name := "treeParts", fn := fun _ => fun
  | [d] => { results := [.lit (.bool false)], args := [d] }
  | _ => none }
def TreePartsWrongFalsely : Prop := treePartsRow.holds Try.pinned (OpenSpec.ofChange treePartsWrong)

/-- 'demoticlaw06.TreeNones': WHATEVER THE INPUT: true; the input reads as it did. -/
def treeNonesSpec : ChangeSpec := { name := "treeNones", fn := fun _ => fun
  | [d1, d2] => { results := [.lit (.bool true)], args := [d1, d2] }
  | _ => none }
def treeNonesRow : OpenClaim := { program := "ytnmebgiiajnnjaa", sum := "02fa90224aad2148ab2a57b1cb33c785cb3dd9950dd780344bd28d05b84575a1", func := "demotic/demoticlaw06.TreeNones", spec := "treeNones", inPlace := ["internal/bytealg.IndexByteString", "internal/bytealg.IndexString"], unfollowed := true, recurses := true, named := ["internal/bytealg.MaxLen"], loops := true, apart := false }
def TreeNonesSaid : Prop := treeNonesRow.holds Try.pinned (OpenSpec.ofChange treeNonesSpec)

/-- ITS FALSE NEIGHBOUR: 'it returns false'. Refute it at one input. -/
def treeNonesWrong : ChangeSpec := { name := "treeNones", fn := fun _ => fun
  | [d1, d2] => { results := [.lit (.bool false)], args := [d1, d2] }
  | _ => none }
def TreeNonesWrongFalsely : Prop := treeNonesRow.holds Try.pinned (OpenSpec.ofChange treeNonesWrong)

/- THE SECOND FORM. 'bulk': how many values and letters a reading holds, each counted each time it is reached (what is shared counts as often as it is met; a slice's spare places count too). A statement '..UptoSaid' is the law's where the arguments, and the package variables that the reading takes, are together of bulk at most 1048576: NARROWER than '..Said'. Prove '..Said' where nothing that the law and all that it calls make is longer than what came in: it says more and counts as full. Else prove '..UptoSaid'. A law counts once. -/
mutual
def uptoBulk {H : Type} : DataW H → Nat
  | .lit (.string bytes) => bytes.length + 1
  | .lit _ => 1
  | .nil => 1
  | .ptr d => uptoBulk d + 1
  | .slice elems spare => uptoBulkAll elems + uptoBulkAll spare + 1
  | .agg parts => uptoBulkAll parts + 1
  | .iface _ d => uptoBulk d + 1
  | .map entries => uptoBulkEntries entries + 1
  | .held _ => 1
def uptoBulkAll {H : Type} : List (DataW H) → Nat
  | [] => 0
  | d :: r => uptoBulk d + uptoBulkAll r
def uptoBulkEntries {H : Type} : List (Lit × DataW H) → Nat
  | [] => 0
  | x :: r => uptoBulkEntry x + uptoBulkEntries r
def uptoBulkEntry {H : Type} : Lit × DataW H → Nat
  | (.string bytes, d) => bytes.length + uptoBulk d + 1
  | (_, d) => uptoBulk d + 1
 end
def uptoSmall : (H : Type) → List (DataW H) → Bool := fun _ ds => decide (uptoBulkAll ds ≤ 1048576)
def OpenSpec.upto (s : _root_.Go.ChangeSpec) : _root_.Go.OpenSpec := { _root_.Go.OpenSpec.ofChange s with cond := some uptoSmall }

/-- 'demoticlaw06.TreeEquals', WHERE WHAT IT READS IS OF BULK AT MOST 1048576: true; the input reads as it did. -/
def treeEqualsUptoRow : OpenClaim := { program := "ytnmebgiiajnnjaa", sum := "02fa90224aad2148ab2a57b1cb33c785cb3dd9950dd780344bd28d05b84575a1", func := "demotic/demoticlaw06.TreeEquals", spec := "treeEquals", inPlace := ["internal/bytealg.IndexByteString", "internal/bytealg.IndexString"], unfollowed := true, recurses := true, named := ["internal/bytealg.MaxLen"], loops := true, apart := false, narrowed := true }
def TreeEqualsUptoSaid : Prop := treeEqualsUptoRow.holds Try.pinned (OpenSpec.upto treeEqualsSpec)

/-- 'demoticlaw06.TreeSums', WHERE WHAT IT READS IS OF BULK AT MOST 1048576: true; the input reads as it did. -/
def treeSumsUptoRow : OpenClaim := { program := "ytnmebgiiajnnjaa", sum := "02fa90224aad2148ab2a57b1cb33c785cb3dd9950dd780344bd28d05b84575a1", func := "demotic/demoticlaw06.TreeSums", spec := "treeSums", inPlace := ["internal/bytealg.IndexByteString", "internal/bytealg.IndexString"], unfollowed := true, recurses := true, named := ["internal/bytealg.MaxLen"], loops := true, apart := false, narrowed := true }
def TreeSumsUptoSaid : Prop := treeSumsUptoRow.holds Try.pinned (OpenSpec.upto treeSumsSpec)

/-- 'demoticlaw06.TreeSwaps', WHERE WHAT IT READS IS OF BULK AT MOST 1048576: true; the input reads as it did. -/
def treeSwapsUptoRow : OpenClaim := { program := "ytnmebgiiajnnjaa", sum := "02fa90224aad2148ab2a57b1cb33c785cb3dd9950dd780344bd28d05b84575a1", func := "demotic/demoticlaw06.TreeSwaps", spec := "treeSwaps", inPlace := ["internal/bytealg.IndexByteString", "internal/bytealg.IndexString"], unfollowed := true, recurses := true, named := ["internal/bytealg.MaxLen"], loops := true, apart := false, narrowed := true }
def TreeSwapsUptoSaid : Prop := treeSwapsUptoRow.holds Try.pinned (OpenSpec.upto treeSwapsSpec)

/-- 'demoticlaw06.TreeOwn', WHERE WHAT IT READS IS OF BULK AT MOST 1048576: true; the input reads as it did. -/
def treeOwnUptoRow : OpenClaim := { program := "ytnmebgiiajnnjaa", sum := "02fa90224aad2148ab2a57b1cb33c785cb3dd9950dd780344bd28d05b84575a1", func := "demotic/demoticlaw06.TreeOwn", spec := "treeOwn", inPlace := ["internal/bytealg.IndexByteString", "internal/bytealg.IndexString"], unfollowed := true, recurses := true, named := ["internal/bytealg.MaxLen"], loops := true, apart := false, narrowed := true }
def TreeOwnUptoSaid : Prop := treeOwnUptoRow.holds Try.pinned (OpenSpec.upto treeOwnSpec)

/-- 'demoticlaw06.TreeParts', WHERE WHAT IT READS IS OF BULK AT MOST 1048576: true; the input reads as it did. -/
def treePartsUptoRow : OpenClaim := { program := "ytnmebgiiajnnjaa", sum := "02fa90224aad2148ab2a57b1cb33c785cb3dd9950dd780344bd28d05b84575a1", func := "demotic/demoticlaw06.TreeParts", spec := "treeParts", inPlace := ["internal/bytealg.IndexByteString", "internal/bytealg.IndexString"], unfollowed := true, recurses := true, named := ["internal/bytealg.MaxLen"], loops := true, apart := false, narrowed := true }
def TreePartsUptoSaid : Prop := treePartsUptoRow.holds Try.pinned (OpenSpec.upto treePartsSpec)

/-- 'demoticlaw06.TreeNones', WHERE WHAT IT READS IS OF BULK AT MOST 1048576: true; the input reads as it did. -/
def treeNonesUptoRow : OpenClaim := { program := "ytnmebgiiajnnjaa", sum := "02fa90224aad2148ab2a57b1cb33c785cb3dd9950dd780344bd28d05b84575a1", func := "demotic/demoticlaw06.TreeNones", spec := "treeNones", inPlace := ["internal/bytealg.IndexByteString", "internal/bytealg.IndexString"], unfollowed := true, recurses := true, named := ["internal/bytealg.MaxLen"], loops := true, apart := false, narrowed := true }
def TreeNonesUptoSaid : Prop := treeNonesUptoRow.holds Try.pinned (OpenSpec.upto treeNonesSpec)

end Rows
end Go.Proofs.Ytnmebgiiajnnjaa
