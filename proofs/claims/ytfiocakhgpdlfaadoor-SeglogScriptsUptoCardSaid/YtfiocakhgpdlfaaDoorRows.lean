/-
  NARROWER THAN 'FOR EVERY INPUT', by the rows' own cells (each row's printed sentence says how): SeglogBoots: laid · SeglogCrash: laid · SeglogScripts: laid · SeglogNil: laid · SeglogFills: laid.
  DERIVED. THE GIVEN ROWS OF THIS SEAT. 5 by the template 'for every input the law returns true; each argument reads behind the call as it read before'; 0 by the template 'total and deterministic' (their statements: YtfiocakhgpdlfaaDoorTotals.lean).
  GIVEN WITH THE SEED: the statements are not yours to turn. If you find one false, say at which input.
  Laid BY PROGRAM, IN A SANDBOX (cutbox-rows.mjs): the forced cells as the released guide's own fill.sh prints them over the translation 0faeb548aa5aa6d6… (all of the seat's roots in one cut). By AI agents, Wed Nov 11 2026. No macro, syntax, notation, axiom, sorry.
-/
import Derived.Test.YtfiocakhgpdlfaaDoorChecked
import GoSem.PinnedTables
import GoSem.Claim
import GoSem.ClaimJoined
import GoSem.ClaimMapViews
import Derived.JoinedTies
import Derived.KernelRfl
namespace Go.Proofs.YtfiocakhgpdlfaaDoor
/- THE CELL 'sum', in the pinned program and in every row, IS THE sha256 OF THE DUMP (.gsa) THAT YtfiocakhgpdlfaaDoorProg.lean LOADS. Nothing in Lean hashes anything: it is a label: what it is worth is what the hold of that sum in a sandbox is worth. -/
noncomputable def Tryd.pinned : Pinned := { name := "ytfiocakhgpdlfaadoor", sum := "0faeb548aa5aa6d642e2dba5dd43ced7abdee89b462a6e8f4cc8fed1cc2baa65", checked := Tryd.checked }
namespace Rows
def none {H : Type} : Left H := { results := [], args := [] }

/- WHAT THE LISTED PACKAGE-LEVEL VARIABLES READ AS WHEN THE CALL BEGINS. Each datum BY PROGRAM (the guide's laid-datum.mjs) off the statement by which the dump's own 'gosem.cut.vars' lays the variable. In a bare row this is a premise. The card (YtfiocakhgpdlfaaDoorCards.lean) ties it to the program's text. -/
def laid_unicode_utf8_acceptRanges {H : Type} : DataW H := .agg [.agg [.lit (.int .u8 128), .lit (.int .u8 191)], .agg [.lit (.int .u8 160), .lit (.int .u8 191)], .agg [.lit (.int .u8 128), .lit (.int .u8 159)], .agg [.lit (.int .u8 144), .lit (.int .u8 191)], .agg [.lit (.int .u8 128), .lit (.int .u8 143)], .agg [.lit (.int .u8 0), .lit (.int .u8 0)], .agg [.lit (.int .u8 0), .lit (.int .u8 0)], .agg [.lit (.int .u8 0), .lit (.int .u8 0)], .agg [.lit (.int .u8 0), .lit (.int .u8 0)], .agg [.lit (.int .u8 0), .lit (.int .u8 0)], .agg [.lit (.int .u8 0), .lit (.int .u8 0)], .agg [.lit (.int .u8 0), .lit (.int .u8 0)], .agg [.lit (.int .u8 0), .lit (.int .u8 0)], .agg [.lit (.int .u8 0), .lit (.int .u8 0)], .agg [.lit (.int .u8 0), .lit (.int .u8 0)], .agg [.lit (.int .u8 0), .lit (.int .u8 0)]]
/-- One of Go's own tables, pinned by name: the form's constant. -/
def laid_unicode_utf8_first : DataW Unit := Go.Pinned.utf8First

/-- 'coraclelaw05.SeglogBoots': WHATEVER THE INPUT: true; the input reads as it did. -/
def seglogBootsSpec : ChangeSpec := { name := "seglogBoots", fn := fun _ => fun
  | [d1, d2] => { results := [.lit (.bool true)], args := [d1, d2] }
  | _ => none }
def seglogBootsRow : OpenClaim := { program := "ytfiocakhgpdlfaadoor", sum := "0faeb548aa5aa6d642e2dba5dd43ced7abdee89b462a6e8f4cc8fed1cc2baa65", func := "coracle/coraclelaw05.SeglogBoots", spec := "seglogBoots", inPlace := ["internal/abi.NoEscape", "internal/bytealg.MakeNoZero", "internal/bytealg.IndexByteString", "internal/bytealg.IndexString"], unfollowed := true, recurses := true, named := ["unicode/utf8.first", "unicode/utf8.acceptRanges", "internal/bytealg.MaxLen"], apart := false, laid := [("unicode/utf8.acceptRanges", laid_unicode_utf8_acceptRanges), ("unicode/utf8.first", laid_unicode_utf8_first)] }
def SeglogBootsSaid : Prop := seglogBootsRow.holds Tryd.pinned (OpenSpec.ofChange seglogBootsSpec)

/-- ITS FALSE NEIGHBOUR: 'it returns false'. Refute it at one input. -/
def seglogBootsWrong : ChangeSpec := { name := "seglogBoots", fn := fun _ => fun
  | [d1, d2] => { results := [.lit (.bool false)], args := [d1, d2] }
  | _ => none }
def SeglogBootsWrongFalsely : Prop := seglogBootsRow.holds Tryd.pinned (OpenSpec.ofChange seglogBootsWrong)

/-- 'coraclelaw05.SeglogCrash': WHATEVER THE INPUT: true; the input reads as it did. -/
def seglogCrashSpec : ChangeSpec := { name := "seglogCrash", fn := fun _ => fun
  | [d1, d2, d3] => { results := [.lit (.bool true)], args := [d1, d2, d3] }
  | _ => none }
def seglogCrashRow : OpenClaim := { program := "ytfiocakhgpdlfaadoor", sum := "0faeb548aa5aa6d642e2dba5dd43ced7abdee89b462a6e8f4cc8fed1cc2baa65", func := "coracle/coraclelaw05.SeglogCrash", spec := "seglogCrash", inPlace := ["internal/abi.NoEscape", "internal/bytealg.MakeNoZero", "internal/bytealg.IndexByteString", "internal/bytealg.IndexString"], unfollowed := true, recurses := true, named := ["unicode/utf8.first", "unicode/utf8.acceptRanges", "internal/bytealg.MaxLen"], apart := false, laid := [("unicode/utf8.acceptRanges", laid_unicode_utf8_acceptRanges), ("unicode/utf8.first", laid_unicode_utf8_first)] }
def SeglogCrashSaid : Prop := seglogCrashRow.holds Tryd.pinned (OpenSpec.ofChange seglogCrashSpec)

/-- ITS FALSE NEIGHBOUR: 'it returns false'. Refute it at one input. -/
def seglogCrashWrong : ChangeSpec := { name := "seglogCrash", fn := fun _ => fun
  | [d1, d2, d3] => { results := [.lit (.bool false)], args := [d1, d2, d3] }
  | _ => none }
def SeglogCrashWrongFalsely : Prop := seglogCrashRow.holds Tryd.pinned (OpenSpec.ofChange seglogCrashWrong)

/-- 'coraclelaw05.SeglogScripts': WHATEVER THE INPUT: true; the input reads as it did. -/
def seglogScriptsSpec : ChangeSpec := { name := "seglogScripts", fn := fun _ => fun
  | [d1, d2] => { results := [.lit (.bool true)], args := [d1, d2] }
  | _ => none }
def seglogScriptsRow : OpenClaim := { program := "ytfiocakhgpdlfaadoor", sum := "0faeb548aa5aa6d642e2dba5dd43ced7abdee89b462a6e8f4cc8fed1cc2baa65", func := "coracle/coraclelaw05.SeglogScripts", spec := "seglogScripts", inPlace := ["internal/abi.NoEscape", "internal/bytealg.MakeNoZero", "internal/bytealg.IndexByteString", "internal/bytealg.IndexString"], unfollowed := true, recurses := true, named := ["unicode/utf8.first", "unicode/utf8.acceptRanges", "internal/bytealg.MaxLen"], apart := false, laid := [("unicode/utf8.acceptRanges", laid_unicode_utf8_acceptRanges), ("unicode/utf8.first", laid_unicode_utf8_first)] }
def SeglogScriptsSaid : Prop := seglogScriptsRow.holds Tryd.pinned (OpenSpec.ofChange seglogScriptsSpec)

/-- ITS FALSE NEIGHBOUR: 'it returns false'. Refute it at one input. -/
def seglogScriptsWrong : ChangeSpec := { name := "seglogScripts", fn := fun _ => fun
  | [d1, d2] => { results := [.lit (.bool false)], args := [d1, d2] }
  | _ => none }
def SeglogScriptsWrongFalsely : Prop := seglogScriptsRow.holds Tryd.pinned (OpenSpec.ofChange seglogScriptsWrong)

/-- 'coraclelaw05.SeglogNil': WHATEVER THE INPUT: true; the input reads as it did. -/
def seglogNilSpec : ChangeSpec := { name := "seglogNil", fn := fun _ => fun
  | [d] => { results := [.lit (.bool true)], args := [d] }
  | _ => none }
def seglogNilRow : OpenClaim := { program := "ytfiocakhgpdlfaadoor", sum := "0faeb548aa5aa6d642e2dba5dd43ced7abdee89b462a6e8f4cc8fed1cc2baa65", func := "coracle/coraclelaw05.SeglogNil", spec := "seglogNil", inPlace := ["internal/abi.NoEscape", "internal/bytealg.MakeNoZero", "internal/bytealg.IndexByteString", "internal/bytealg.IndexString"], unfollowed := true, recurses := true, named := ["unicode/utf8.first", "unicode/utf8.acceptRanges", "internal/bytealg.MaxLen"], apart := false, laid := [("unicode/utf8.acceptRanges", laid_unicode_utf8_acceptRanges), ("unicode/utf8.first", laid_unicode_utf8_first)] }
def SeglogNilSaid : Prop := seglogNilRow.holds Tryd.pinned (OpenSpec.ofChange seglogNilSpec)

/-- ITS FALSE NEIGHBOUR: 'it returns false'. Refute it at one input. -/
def seglogNilWrong : ChangeSpec := { name := "seglogNil", fn := fun _ => fun
  | [d] => { results := [.lit (.bool false)], args := [d] }
  | _ => none }
def SeglogNilWrongFalsely : Prop := seglogNilRow.holds Tryd.pinned (OpenSpec.ofChange seglogNilWrong)

/-- 'coraclelaw05.SeglogFills': WHATEVER THE INPUT: true; the input reads as it did. -/
def seglogFillsSpec : ChangeSpec := { name := "seglogFills", fn := fun _ => fun
  | [d] => { results := [.lit (.bool true)], args := [d] }
  | _ => none }
def seglogFillsRow : OpenClaim := { program := "ytfiocakhgpdlfaadoor", sum := "0faeb548aa5aa6d642e2dba5dd43ced7abdee89b462a6e8f4cc8fed1cc2baa65", func := "coracle/coraclelaw05.SeglogFills", spec := "seglogFills", inPlace := ["internal/abi.NoEscape", "internal/bytealg.MakeNoZero", "internal/bytealg.IndexByteString", "internal/bytealg.IndexString"], unfollowed := true, recurses := true, named := ["unicode/utf8.first", "unicode/utf8.acceptRanges", "internal/bytealg.MaxLen"], apart := false, laid := [("unicode/utf8.acceptRanges", laid_unicode_utf8_acceptRanges), ("unicode/utf8.first", laid_unicode_utf8_first)] }
def SeglogFillsSaid : Prop := seglogFillsRow.holds Tryd.pinned (OpenSpec.ofChange seglogFillsSpec)

/-- ITS FALSE NEIGHBOUR: 'it returns false'. Refute it at one input. -/
def seglogFillsWrong : ChangeSpec := { name := "seglogFills", fn := fun _ => fun
  | [d] => { results := [.lit (.bool false)], args := [d] }
  | _ => none }
def SeglogFillsWrongFalsely : Prop := seglogFillsRow.holds Tryd.pinned (OpenSpec.ofChange seglogFillsWrong)

/- THE SECOND FORM. 'bulk': how many values and letters a reading holds, each counted each time it is reached (what is shared counts as often as it is met; a slice's spare places count too). A statement '..UptoSaid' is the law's where the arguments, and the package variables that the reading takes, are together of bulk at most 1048576: NARROWER than '..Said'. Prove '..Said' where nothing that the law and all that it calls make is longer than what came in: it says more and counts as full. Else prove '..UptoSaid'. A law counts once. -/
mutual
def uptoBulk {H : Type} : DataW H → Nat
  | .lit (.string bytes) => bytes.length + 1
  | .lit _ => 1
  | .nil => 1
  | .ptr d => uptoBulk d + 1
  | .slice elems spare => uptoBulkAll elems + uptoBulkAll spare + 1
  | .agg parts => uptoBulkAll parts + 1
  | .iface _ d => uptoBulk d + 1
  | .map entries => uptoBulkEntries entries + 1
  | .held _ => 1
def uptoBulkAll {H : Type} : List (DataW H) → Nat
  | [] => 0
  | d :: r => uptoBulk d + uptoBulkAll r
def uptoBulkEntries {H : Type} : List (Lit × DataW H) → Nat
  | [] => 0
  | x :: r => uptoBulkEntry x + uptoBulkEntries r
def uptoBulkEntry {H : Type} : Lit × DataW H → Nat
  | (.string bytes, d) => bytes.length + uptoBulk d + 1
  | (_, d) => uptoBulk d + 1
 end
def uptoSmall : (H : Type) → List (DataW H) → Bool := fun _ ds => decide (uptoBulkAll ds ≤ 1048576)
def OpenSpec.upto (s : _root_.Go.ChangeSpec) : _root_.Go.OpenSpec := { _root_.Go.OpenSpec.ofChange s with cond := some uptoSmall }

/-- 'coraclelaw05.SeglogBoots', WHERE WHAT IT READS IS OF BULK AT MOST 1048576: true; the input reads as it did. -/
def seglogBootsUptoRow : OpenClaim := { program := "ytfiocakhgpdlfaadoor", sum := "0faeb548aa5aa6d642e2dba5dd43ced7abdee89b462a6e8f4cc8fed1cc2baa65", func := "coracle/coraclelaw05.SeglogBoots", spec := "seglogBoots", inPlace := ["internal/abi.NoEscape", "internal/bytealg.MakeNoZero", "internal/bytealg.IndexByteString", "internal/bytealg.IndexString"], unfollowed := true, recurses := true, named := ["unicode/utf8.first", "unicode/utf8.acceptRanges", "internal/bytealg.MaxLen"], apart := false, laid := [("unicode/utf8.acceptRanges", laid_unicode_utf8_acceptRanges), ("unicode/utf8.first", laid_unicode_utf8_first)], narrowed := true }
def SeglogBootsUptoSaid : Prop := seglogBootsUptoRow.holds Tryd.pinned (OpenSpec.upto seglogBootsSpec)

/-- 'coraclelaw05.SeglogCrash', WHERE WHAT IT READS IS OF BULK AT MOST 1048576: true; the input reads as it did. -/
def seglogCrashUptoRow : OpenClaim := { program := "ytfiocakhgpdlfaadoor", sum := "0faeb548aa5aa6d642e2dba5dd43ced7abdee89b462a6e8f4cc8fed1cc2baa65", func := "coracle/coraclelaw05.SeglogCrash", spec := "seglogCrash", inPlace := ["internal/abi.NoEscape", "internal/bytealg.MakeNoZero", "internal/bytealg.IndexByteString", "internal/bytealg.IndexString"], unfollowed := true, recurses := true, named := ["unicode/utf8.first", "unicode/utf8.acceptRanges", "internal/bytealg.MaxLen"], apart := false, laid := [("unicode/utf8.acceptRanges", laid_unicode_utf8_acceptRanges), ("unicode/utf8.first", laid_unicode_utf8_first)], narrowed := true }
def SeglogCrashUptoSaid : Prop := seglogCrashUptoRow.holds Tryd.pinned (OpenSpec.upto seglogCrashSpec)

/-- 'coraclelaw05.SeglogScripts', WHERE WHAT IT READS IS OF BULK AT MOST 1048576: true; the input reads as it did. -/
def seglogScriptsUptoRow : OpenClaim := { program := "ytfiocakhgpdlfaadoor", sum := "0faeb548aa5aa6d642e2dba5dd43ced7abdee89b462a6e8f4cc8fed1cc2baa65", func := "coracle/coraclelaw05.SeglogScripts", spec := "seglogScripts", inPlace := ["internal/abi.NoEscape", "internal/bytealg.MakeNoZero", "internal/bytealg.IndexByteString", "internal/bytealg.IndexString"], unfollowed := true, recurses := true, named := ["unicode/utf8.first", "unicode/utf8.acceptRanges", "internal/bytealg.MaxLen"], apart := false, laid := [("unicode/utf8.acceptRanges", laid_unicode_utf8_acceptRanges), ("unicode/utf8.first", laid_unicode_utf8_first)], narrowed := true }
def SeglogScriptsUptoSaid : Prop := seglogScriptsUptoRow.holds Tryd.pinned (OpenSpec.upto seglogScriptsSpec)

/-- 'coraclelaw05.SeglogNil', WHERE WHAT IT READS IS OF BULK AT MOST 1048576: true; the input reads as it did. -/
def seglogNilUptoRow : OpenClaim := { program := "ytfiocakhgpdlfaadoor", sum := "0faeb548aa5aa6d642e2dba5dd43ced7abdee89b462a6e8f4cc8fed1cc2baa65", func := "coracle/coraclelaw05.SeglogNil", spec := "seglogNil", inPlace := ["internal/abi.NoEscape", "internal/bytealg.MakeNoZero", "internal/bytealg.IndexByteString", "internal/bytealg.IndexString"], unfollowed := true, recurses := true, named := ["unicode/utf8.first", "unicode/utf8.acceptRanges", "internal/bytealg.MaxLen"], apart := false, laid := [("unicode/utf8.acceptRanges", laid_unicode_utf8_acceptRanges), ("unicode/utf8.first", laid_unicode_utf8_first)], narrowed := true }
def SeglogNilUptoSaid : Prop := seglogNilUptoRow.holds Tryd.pinned (OpenSpec.upto seglogNilSpec)

/-- 'coraclelaw05.SeglogFills', WHERE WHAT IT READS IS OF BULK AT MOST 1048576: true; the input reads as it did. -/
def seglogFillsUptoRow : OpenClaim := { program := "ytfiocakhgpdlfaadoor", sum := "0faeb548aa5aa6d642e2dba5dd43ced7abdee89b462a6e8f4cc8fed1cc2baa65", func := "coracle/coraclelaw05.SeglogFills", spec := "seglogFills", inPlace := ["internal/abi.NoEscape", "internal/bytealg.MakeNoZero", "internal/bytealg.IndexByteString", "internal/bytealg.IndexString"], unfollowed := true, recurses := true, named := ["unicode/utf8.first", "unicode/utf8.acceptRanges", "internal/bytealg.MaxLen"], apart := false, laid := [("unicode/utf8.acceptRanges", laid_unicode_utf8_acceptRanges), ("unicode/utf8.first", laid_unicode_utf8_first)], narrowed := true }
def SeglogFillsUptoSaid : Prop := seglogFillsUptoRow.holds Tryd.pinned (OpenSpec.upto seglogFillsSpec)

end Rows
end Go.Proofs.YtfiocakhgpdlfaaDoor
