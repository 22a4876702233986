/-
  NARROWER THAN 'FOR EVERY INPUT', by the rows' own cells (each row's printed sentence says how): QueriesHistory: laid · QueriesAgree: laid · QueriesFinal: laid · QueriesUnload: laid.
  DERIVED. THE GIVEN ROWS OF THIS SEAT. 4 by the template 'for every input the law returns true; each argument reads behind the call as it read before'; 0 by the template 'total and deterministic' (their statements: YtlchgbfpoaipgaaDoorTotals.lean).
  GIVEN WITH THE SEED: the statements are not yours to turn. If you find one false, say at which input.
  Laid BY PROGRAM, IN A SANDBOX (cutbox-rows.mjs): the forced cells as the released guide's own fill.sh prints them over the translation 5d58ed2dea85448e… (all of the seat's roots in one cut). By AI agents, Wed Nov 11 2026. No macro, syntax, notation, axiom, sorry.
-/
import Derived.Test.YtlchgbfpoaipgaaDoorChecked
import GoSem.Claim
import GoSem.ClaimJoined
import GoSem.ClaimMapViews
import Derived.JoinedTies
import Derived.KernelRfl
namespace Go.Proofs.YtlchgbfpoaipgaaDoor
/- THE CELL 'sum', in the pinned program and in every row, IS THE sha256 OF THE DUMP (.gsa) THAT YtlchgbfpoaipgaaDoorProg.lean LOADS. Nothing in Lean hashes anything: it is a label: what it is worth is what the hold of that sum in a sandbox is worth. -/
noncomputable def Tryd.pinned : Pinned := { name := "ytlchgbfpoaipgaadoor", sum := "5d58ed2dea85448ef4aa755624e3c0d1665109270f8b94c22c79c06a36ce1bd7", checked := Tryd.checked }
namespace Rows
def none {H : Type} : Left H := { results := [], args := [] }

/- WHAT THE LISTED PACKAGE-LEVEL VARIABLES READ AS WHEN THE CALL BEGINS. Each datum BY PROGRAM (the guide's laid-datum.mjs) off the statement by which the dump's own 'gosem.cut.vars' lays the variable. In a bare row this is a premise. The card (YtlchgbfpoaipgaaDoorCards.lean) ties it to the program's text. -/
def laid_flowquery_lexer_keywords {H : Type} : DataW H := .slice [.lit (.string [102, 117, 110, 99]), .lit (.string [98, 108, 111, 99, 107]), .lit (.string [101, 110, 100]), .lit (.string [117, 115, 101]), .lit (.string [99, 97, 108, 108]), .lit (.string [115, 111, 117, 114, 99, 101]), .lit (.string [115, 105, 110, 107]), .lit (.string [115, 97, 110, 105, 116, 105, 122, 101]), .lit (.string [103, 111, 116, 111]), .lit (.string [98, 114, 97, 110, 99, 104]), .lit (.string [114, 101, 116, 117, 114, 110])] []

/-- 'flqlaw24.QueriesHistory': WHATEVER THE INPUT: true; the input reads as it did. -/
def queriesHistorySpec : ChangeSpec := { name := "queriesHistory", fn := fun _ => fun
  | [d] => { results := [.lit (.bool true)], args := [d] }
  | _ => none }
def queriesHistoryRow : OpenClaim := { program := "ytlchgbfpoaipgaadoor", sum := "5d58ed2dea85448ef4aa755624e3c0d1665109270f8b94c22c79c06a36ce1bd7", func := "flowquery/flqlaw24.QueriesHistory", spec := "queriesHistory", named := ["flowquery/lexer.keywords"], apart := false, laid := [("flowquery/lexer.keywords", laid_flowquery_lexer_keywords)] }
def QueriesHistorySaid : Prop := queriesHistoryRow.holds Tryd.pinned (OpenSpec.ofChange queriesHistorySpec)

/-- ITS FALSE NEIGHBOUR: 'it returns false'. Refute it at one input. -/
def queriesHistoryWrong : ChangeSpec := { name := "queriesHistory", fn := fun _ => fun
  | [d] => { results := [.lit (.bool false)], args := [d] }
  | _ => none }
def QueriesHistoryWrongFalsely : Prop := queriesHistoryRow.holds Tryd.pinned (OpenSpec.ofChange queriesHistoryWrong)

/-- 'flqlaw24.QueriesAgree': WHATEVER THE INPUT: true; the input reads as it did. -/
def queriesAgreeSpec : ChangeSpec := { name := "queriesAgree", fn := fun _ => fun
  | [d1, d2, d3, d4, d5, d6, d7] => { results := [.lit (.bool true)], args := [d1, d2, d3, d4, d5, d6, d7] }
  | _ => none }
def queriesAgreeRow : OpenClaim := { program := "ytlchgbfpoaipgaadoor", sum := "5d58ed2dea85448ef4aa755624e3c0d1665109270f8b94c22c79c06a36ce1bd7", func := "flowquery/flqlaw24.QueriesAgree", spec := "queriesAgree", named := ["flowquery/lexer.keywords"], apart := false, laid := [("flowquery/lexer.keywords", laid_flowquery_lexer_keywords)] }
def QueriesAgreeSaid : Prop := queriesAgreeRow.holds Tryd.pinned (OpenSpec.ofChange queriesAgreeSpec)

/-- ITS FALSE NEIGHBOUR: 'it returns false'. Refute it at one input. -/
def queriesAgreeWrong : ChangeSpec := { name := "queriesAgree", fn := fun _ => fun
  | [d1, d2, d3, d4, d5, d6, d7] => { results := [.lit (.bool false)], args := [d1, d2, d3, d4, d5, d6, d7] }
  | _ => none }
def QueriesAgreeWrongFalsely : Prop := queriesAgreeRow.holds Tryd.pinned (OpenSpec.ofChange queriesAgreeWrong)

/-- 'flqlaw24.QueriesFinal': WHATEVER THE INPUT: true; the input reads as it did. -/
def queriesFinalSpec : ChangeSpec := { name := "queriesFinal", fn := fun _ => fun
  | [d] => { results := [.lit (.bool true)], args := [d] }
  | _ => none }
def queriesFinalRow : OpenClaim := { program := "ytlchgbfpoaipgaadoor", sum := "5d58ed2dea85448ef4aa755624e3c0d1665109270f8b94c22c79c06a36ce1bd7", func := "flowquery/flqlaw24.QueriesFinal", spec := "queriesFinal", named := ["flowquery/lexer.keywords"], apart := false, laid := [("flowquery/lexer.keywords", laid_flowquery_lexer_keywords)] }
def QueriesFinalSaid : Prop := queriesFinalRow.holds Tryd.pinned (OpenSpec.ofChange queriesFinalSpec)

/-- ITS FALSE NEIGHBOUR: 'it returns false'. Refute it at one input. -/
def queriesFinalWrong : ChangeSpec := { name := "queriesFinal", fn := fun _ => fun
  | [d] => { results := [.lit (.bool false)], args := [d] }
  | _ => none }
def QueriesFinalWrongFalsely : Prop := queriesFinalRow.holds Tryd.pinned (OpenSpec.ofChange queriesFinalWrong)

/-- 'flqlaw24.QueriesUnload': WHATEVER THE INPUT: true; the input reads as it did. -/
def queriesUnloadSpec : ChangeSpec := { name := "queriesUnload", fn := fun _ => fun
  | [d] => { results := [.lit (.bool true)], args := [d] }
  | _ => none }
def queriesUnloadRow : OpenClaim := { program := "ytlchgbfpoaipgaadoor", sum := "5d58ed2dea85448ef4aa755624e3c0d1665109270f8b94c22c79c06a36ce1bd7", func := "flowquery/flqlaw24.QueriesUnload", spec := "queriesUnload", named := ["flowquery/lexer.keywords"], apart := false, laid := [("flowquery/lexer.keywords", laid_flowquery_lexer_keywords)] }
def QueriesUnloadSaid : Prop := queriesUnloadRow.holds Tryd.pinned (OpenSpec.ofChange queriesUnloadSpec)

/-- ITS FALSE NEIGHBOUR: 'it returns false'. Refute it at one input. -/
def queriesUnloadWrong : ChangeSpec := { name := "queriesUnload", fn := fun _ => fun
  | [d] => { results := [.lit (.bool false)], args := [d] }
  | _ => none }
def QueriesUnloadWrongFalsely : Prop := queriesUnloadRow.holds Tryd.pinned (OpenSpec.ofChange queriesUnloadWrong)

/- THE SECOND FORM. 'bulk': how many values and letters a reading holds, each counted each time it is reached (what is shared counts as often as it is met; a slice's spare places count too). A statement '..UptoSaid' is the law's where the arguments, and the package variables that the reading takes, are together of bulk at most 1048576: NARROWER than '..Said'. Prove '..Said' where nothing that the law and all that it calls make is longer than what came in: it says more and counts as full. Else prove '..UptoSaid'. A law counts once. -/
mutual
def uptoBulk {H : Type} : DataW H → Nat
  | .lit (.string bytes) => bytes.length + 1
  | .lit _ => 1
  | .nil => 1
  | .ptr d => uptoBulk d + 1
  | .slice elems spare => uptoBulkAll elems + uptoBulkAll spare + 1
  | .agg parts => uptoBulkAll parts + 1
  | .iface _ d => uptoBulk d + 1
  | .map entries => uptoBulkEntries entries + 1
  | .held _ => 1
def uptoBulkAll {H : Type} : List (DataW H) → Nat
  | [] => 0
  | d :: r => uptoBulk d + uptoBulkAll r
def uptoBulkEntries {H : Type} : List (Lit × DataW H) → Nat
  | [] => 0
  | x :: r => uptoBulkEntry x + uptoBulkEntries r
def uptoBulkEntry {H : Type} : Lit × DataW H → Nat
  | (.string bytes, d) => bytes.length + uptoBulk d + 1
  | (_, d) => uptoBulk d + 1
 end
def uptoSmall : (H : Type) → List (DataW H) → Bool := fun _ ds => decide (uptoBulkAll ds ≤ 1048576)
def OpenSpec.upto (s : _root_.Go.ChangeSpec) : _root_.Go.OpenSpec := { _root_.Go.OpenSpec.ofChange s with cond := some uptoSmall }

/-- 'flqlaw24.QueriesHistory', WHERE WHAT IT READS IS OF BULK AT MOST 1048576: true; the input reads as it did. -/
def queriesHistoryUptoRow : OpenClaim := { program := "ytlchgbfpoaipgaadoor", sum := "5d58ed2dea85448ef4aa755624e3c0d1665109270f8b94c22c79c06a36ce1bd7", func := "flowquery/flqlaw24.QueriesHistory", spec := "queriesHistory", named := ["flowquery/lexer.keywords"], apart := false, laid := [("flowquery/lexer.keywords", laid_flowquery_lexer_keywords)], narrowed := true }
def QueriesHistoryUptoSaid : Prop := queriesHistoryUptoRow.holds Tryd.pinned (OpenSpec.upto queriesHistorySpec)

/-- 'flqlaw24.QueriesAgree', WHERE WHAT IT READS IS OF BULK AT MOST 1048576: true; the input reads as it did. -/
def queriesAgreeUptoRow : OpenClaim := { program := "ytlchgbfpoaipgaadoor", sum := "5d58ed2dea85448ef4aa755624e3c0d1665109270f8b94c22c79c06a36ce1bd7", func := "flowquery/flqlaw24.QueriesAgree", spec := "queriesAgree", named := ["flowquery/lexer.keywords"], apart := false, laid := [("flowquery/lexer.keywords", laid_flowquery_lexer_keywords)], narrowed := true }
def QueriesAgreeUptoSaid : Prop := queriesAgreeUptoRow.holds Tryd.pinned (OpenSpec.upto queriesAgreeSpec)

/-- 'flqlaw24.QueriesFinal', WHERE WHAT IT READS IS OF BULK AT MOST 1048576: true; the input reads as it did. -/
def queriesFinalUptoRow : OpenClaim := { program := "ytlchgbfpoaipgaadoor", sum := "5d58ed2dea85448ef4aa755624e3c0d1665109270f8b94c22c79c06a36ce1bd7", func := "flowquery/flqlaw24.QueriesFinal", spec := "queriesFinal", named := ["flowquery/lexer.keywords"], apart := false, laid := [("flowquery/lexer.keywords", laid_flowquery_lexer_keywords)], narrowed := true }
def QueriesFinalUptoSaid : Prop := queriesFinalUptoRow.holds Tryd.pinned (OpenSpec.upto queriesFinalSpec)

/-- 'flqlaw24.QueriesUnload', WHERE WHAT IT READS IS OF BULK AT MOST 1048576: true; the input reads as it did. -/
def queriesUnloadUptoRow : OpenClaim := { program := "ytlchgbfpoaipgaadoor", sum := "5d58ed2dea85448ef4aa755624e3c0d1665109270f8b94c22c79c06a36ce1bd7", func := "flowquery/flqlaw24.QueriesUnload", spec := "queriesUnload", named := ["flowquery/lexer.keywords"], apart := false, laid := [("flowquery/lexer.keywords", laid_flowquery_lexer_keywords)], narrowed := true }
def QueriesUnloadUptoSaid : Prop := queriesUnloadUptoRow.holds Tryd.pinned (OpenSpec.upto queriesUnloadSpec)

end Rows
end Go.Proofs.YtlchgbfpoaipgaaDoor
