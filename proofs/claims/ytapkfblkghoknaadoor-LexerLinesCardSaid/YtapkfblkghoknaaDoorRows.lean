/-
  NARROWER THAN 'FOR EVERY INPUT', by the rows' own cells (each row's printed sentence says how): LexerTokens: laid · LexerAlone: laid · LexerLongest: laid · LexerFull: laid · LexerLines: laid · LexerNames: laid · LexerLossless: laid · LexerError: laid · LexerSolid: laid.
  DERIVED. THE GIVEN ROWS OF THIS SEAT. 9 by the template 'for every input the law returns true; each argument reads behind the call as it read before'; 0 by the template 'total and deterministic' (their statements: YtapkfblkghoknaaDoorTotals.lean).
  GIVEN WITH THE SEED: the statements are not yours to turn. If you find one false, say at which input.
  Laid BY PROGRAM, IN A SANDBOX (cutbox-rows.mjs): the forced cells as the released guide's own fill.sh prints them over the translation 8ba36f52abef4500… (all of the seat's roots in one cut). By AI agents, Wed Nov 11 2026. No macro, syntax, notation, axiom, sorry.
-/
import Derived.Test.YtapkfblkghoknaaDoorChecked
import GoSem.Claim
import GoSem.ClaimJoined
import GoSem.ClaimMapViews
import Derived.JoinedTies
import Derived.KernelRfl
namespace Go.Proofs.YtapkfblkghoknaaDoor
/- THE CELL 'sum', in the pinned program and in every row, IS THE sha256 OF THE DUMP (.gsa) THAT YtapkfblkghoknaaDoorProg.lean LOADS. Nothing in Lean hashes anything: it is a label: what it is worth is what the hold of that sum in a sandbox is worth. -/
noncomputable def Tryd.pinned : Pinned := { name := "ytapkfblkghoknaadoor", sum := "8ba36f52abef4500cef83b74b370fe9b04e0f11d89c132408cae87910a769fd1", checked := Tryd.checked }
namespace Rows
def none {H : Type} : Left H := { results := [], args := [] }

/- WHAT THE LISTED PACKAGE-LEVEL VARIABLES READ AS WHEN THE CALL BEGINS. Each datum BY PROGRAM (the guide's laid-datum.mjs) off the statement by which the dump's own 'gosem.cut.vars' lays the variable. In a bare row this is a premise. The card (YtapkfblkghoknaaDoorCards.lean) ties it to the program's text. -/
def laid_unicode_White_Space {H : Type} : DataW H := .ptr (.agg [.slice [.agg [.lit (.int .u16 9), .lit (.int .u16 13), .lit (.int .u16 1)], .agg [.lit (.int .u16 32), .lit (.int .u16 133), .lit (.int .u16 101)], .agg [.lit (.int .u16 160), .lit (.int .u16 5760), .lit (.int .u16 5600)], .agg [.lit (.int .u16 8192), .lit (.int .u16 8202), .lit (.int .u16 1)], .agg [.lit (.int .u16 8232), .lit (.int .u16 8233), .lit (.int .u16 1)], .agg [.lit (.int .u16 8239), .lit (.int .u16 8287), .lit (.int .u16 48)], .agg [.lit (.int .u16 12288), .lit (.int .u16 12288), .lit (.int .u16 1)]] [], .nil, .lit (.int .i64 2)])
def laid_strings_asciiSpace {H : Type} : DataW H := .agg [.lit (.int .u8 0), .lit (.int .u8 0), .lit (.int .u8 0), .lit (.int .u8 0), .lit (.int .u8 0), .lit (.int .u8 0), .lit (.int .u8 0), .lit (.int .u8 0), .lit (.int .u8 0), .lit (.int .u8 1), .lit (.int .u8 1), .lit (.int .u8 1), .lit (.int .u8 1), .lit (.int .u8 1), .lit (.int .u8 0), .lit (.int .u8 0), .lit (.int .u8 0), .lit (.int .u8 0), .lit (.int .u8 0), .lit (.int .u8 0), .lit (.int .u8 0), .lit (.int .u8 0), .lit (.int .u8 0), .lit (.int .u8 0), .lit (.int .u8 0), .lit (.int .u8 0), .lit (.int .u8 0), .lit (.int .u8 0), .lit (.int .u8 0), .lit (.int .u8 0), .lit (.int .u8 0), .lit (.int .u8 0), .lit (.int .u8 1), .lit (.int .u8 0), .lit (.int .u8 0), .lit (.int .u8 0), .lit (.int .u8 0), .lit (.int .u8 0), .lit (.int .u8 0), .lit (.int .u8 0), .lit (.int .u8 0), .lit (.int .u8 0), .lit (.int .u8 0), .lit (.int .u8 0), .lit (.int .u8 0), .lit (.int .u8 0), .lit (.int .u8 0), .lit (.int .u8 0), .lit (.int .u8 0), .lit (.int .u8 0), .lit (.int .u8 0), .lit (.int .u8 0), .lit (.int .u8 0), .lit (.int .u8 0), .lit (.int .u8 0), .lit (.int .u8 0), .lit (.int .u8 0), .lit (.int .u8 0), .lit (.int .u8 0), .lit (.int .u8 0), .lit (.int .u8 0), .lit (.int .u8 0), .lit (.int .u8 0), .lit (.int .u8 0), .lit (.int .u8 0), .lit (.int .u8 0), .lit (.int .u8 0), .lit (.int .u8 0), .lit (.int .u8 0), .lit (.int .u8 0), .lit (.int .u8 0), .lit (.int .u8 0), .lit (.int .u8 0), .lit (.int .u8 0), .lit (.int .u8 0), .lit (.int .u8 0), .lit (.int .u8 0), .lit (.int .u8 0), .lit (.int .u8 0), .lit (.int .u8 0), .lit (.int .u8 0), .lit (.int .u8 0), .lit (.int .u8 0), .lit (.int .u8 0), .lit (.int .u8 0), .lit (.int .u8 0), .lit (.int .u8 0), .lit (.int .u8 0), .lit (.int .u8 0), .lit (.int .u8 0), .lit (.int .u8 0), .lit (.int .u8 0), .lit (.int .u8 0), .lit (.int .u8 0), .lit (.int .u8 0), .lit (.int .u8 0), .lit (.int .u8 0), .lit (.int .u8 0), .lit (.int .u8 0), .lit (.int .u8 0), .lit (.int .u8 0), .lit (.int .u8 0), .lit (.int .u8 0), .lit (.int .u8 0), .lit (.int .u8 0), .lit (.int .u8 0), .lit (.int .u8 0), .lit (.int .u8 0), .lit (.int .u8 0), .lit (.int .u8 0), .lit (.int .u8 0), .lit (.int .u8 0), .lit (.int .u8 0), .lit (.int .u8 0), .lit (.int .u8 0), .lit (.int .u8 0), .lit (.int .u8 0), .lit (.int .u8 0), .lit (.int .u8 0), .lit (.int .u8 0), .lit (.int .u8 0), .lit (.int .u8 0), .lit (.int .u8 0), .lit (.int .u8 0), .lit (.int .u8 0), .lit (.int .u8 0), .lit (.int .u8 0), .lit (.int .u8 0), .lit (.int .u8 0), .lit (.int .u8 0), .lit (.int .u8 0), .lit (.int .u8 0), .lit (.int .u8 0), .lit (.int .u8 0), .lit (.int .u8 0), .lit (.int .u8 0), .lit (.int .u8 0), .lit (.int .u8 0), .lit (.int .u8 0), .lit (.int .u8 0), .lit (.int .u8 0), .lit (.int .u8 0), .lit (.int .u8 0), .lit (.int .u8 0), .lit (.int .u8 0), .lit (.int .u8 0), .lit (.int .u8 0), .lit (.int .u8 0), .lit (.int .u8 0), .lit (.int .u8 0), .lit (.int .u8 0), .lit (.int .u8 0), .lit (.int .u8 0), .lit (.int .u8 0), .lit (.int .u8 0), .lit (.int .u8 0), .lit (.int .u8 0), .lit (.int .u8 0), .lit (.int .u8 0), .lit (.int .u8 0), .lit (.int .u8 0), .lit (.int .u8 0), .lit (.int .u8 0), .lit (.int .u8 0), .lit (.int .u8 0), .lit (.int .u8 0), .lit (.int .u8 0), .lit (.int .u8 0), .lit (.int .u8 0), .lit (.int .u8 0), .lit (.int .u8 0), .lit (.int .u8 0), .lit (.int .u8 0), .lit (.int .u8 0), .lit (.int .u8 0), .lit (.int .u8 0), .lit (.int .u8 0), .lit (.int .u8 0), .lit (.int .u8 0), .lit (.int .u8 0), .lit (.int .u8 0), .lit (.int .u8 0), .lit (.int .u8 0), .lit (.int .u8 0), .lit (.int .u8 0), .lit (.int .u8 0), .lit (.int .u8 0), .lit (.int .u8 0), .lit (.int .u8 0), .lit (.int .u8 0), .lit (.int .u8 0), .lit (.int .u8 0), .lit (.int .u8 0), .lit (.int .u8 0), .lit (.int .u8 0), .lit (.int .u8 0), .lit (.int .u8 0), .lit (.int .u8 0), .lit (.int .u8 0), .lit (.int .u8 0), .lit (.int .u8 0), .lit (.int .u8 0), .lit (.int .u8 0), .lit (.int .u8 0), .lit (.int .u8 0), .lit (.int .u8 0), .lit (.int .u8 0), .lit (.int .u8 0), .lit (.int .u8 0), .lit (.int .u8 0), .lit (.int .u8 0), .lit (.int .u8 0), .lit (.int .u8 0), .lit (.int .u8 0), .lit (.int .u8 0), .lit (.int .u8 0), .lit (.int .u8 0), .lit (.int .u8 0), .lit (.int .u8 0), .lit (.int .u8 0), .lit (.int .u8 0), .lit (.int .u8 0), .lit (.int .u8 0), .lit (.int .u8 0), .lit (.int .u8 0), .lit (.int .u8 0), .lit (.int .u8 0), .lit (.int .u8 0), .lit (.int .u8 0), .lit (.int .u8 0), .lit (.int .u8 0), .lit (.int .u8 0), .lit (.int .u8 0), .lit (.int .u8 0), .lit (.int .u8 0), .lit (.int .u8 0), .lit (.int .u8 0), .lit (.int .u8 0), .lit (.int .u8 0), .lit (.int .u8 0), .lit (.int .u8 0), .lit (.int .u8 0), .lit (.int .u8 0), .lit (.int .u8 0), .lit (.int .u8 0), .lit (.int .u8 0), .lit (.int .u8 0), .lit (.int .u8 0), .lit (.int .u8 0), .lit (.int .u8 0), .lit (.int .u8 0), .lit (.int .u8 0), .lit (.int .u8 0), .lit (.int .u8 0), .lit (.int .u8 0), .lit (.int .u8 0)]

/-- 'backsteplaw02.LexerTokens': WHATEVER THE INPUT: true; the input reads as it did. -/
def lexerTokensSpec : ChangeSpec := { name := "lexerTokens", fn := fun _ => fun
  | [d] => { results := [.lit (.bool true)], args := [d] }
  | _ => none }
def lexerTokensRow : OpenClaim := { program := "ytapkfblkghoknaadoor", sum := "8ba36f52abef4500cef83b74b370fe9b04e0f11d89c132408cae87910a769fd1", func := "backstep/backsteplaw02.LexerTokens", spec := "lexerTokens", unfollowed := true, recurses := true, named := ["strings.asciiSpace", "unicode.White_Space"], apart := false, laid := [("unicode.White_Space", laid_unicode_White_Space), ("strings.asciiSpace", laid_strings_asciiSpace)] }
def LexerTokensSaid : Prop := lexerTokensRow.holds Tryd.pinned (OpenSpec.ofChange lexerTokensSpec)

/-- ITS FALSE NEIGHBOUR: 'it returns false'. Refute it at one input. -/
def lexerTokensWrong : ChangeSpec := { name := "lexerTokens", fn := fun _ => fun
  | [d] => { results := [.lit (.bool false)], args := [d] }
  | _ => none }
def LexerTokensWrongFalsely : Prop := lexerTokensRow.holds Tryd.pinned (OpenSpec.ofChange lexerTokensWrong)

/-- 'backsteplaw02.LexerAlone': WHATEVER THE INPUT: true; the input reads as it did. -/
def lexerAloneSpec : ChangeSpec := { name := "lexerAlone", fn := fun _ => fun
  | [d] => { results := [.lit (.bool true)], args := [d] }
  | _ => none }
def lexerAloneRow : OpenClaim := { program := "ytapkfblkghoknaadoor", sum := "8ba36f52abef4500cef83b74b370fe9b04e0f11d89c132408cae87910a769fd1", func := "backstep/backsteplaw02.LexerAlone", spec := "lexerAlone", unfollowed := true, recurses := true, named := ["strings.asciiSpace", "unicode.White_Space"], apart := false, laid := [("unicode.White_Space", laid_unicode_White_Space), ("strings.asciiSpace", laid_strings_asciiSpace)] }
def LexerAloneSaid : Prop := lexerAloneRow.holds Tryd.pinned (OpenSpec.ofChange lexerAloneSpec)

/-- ITS FALSE NEIGHBOUR: 'it returns false'. Refute it at one input. -/
def lexerAloneWrong : ChangeSpec := { name := "lexerAlone", fn := fun _ => fun
  | [d] => { results := [.lit (.bool false)], args := [d] }
  | _ => none }
def LexerAloneWrongFalsely : Prop := lexerAloneRow.holds Tryd.pinned (OpenSpec.ofChange lexerAloneWrong)

/-- 'backsteplaw02.LexerLongest': WHATEVER THE INPUT: true; the input reads as it did. -/
def lexerLongestSpec : ChangeSpec := { name := "lexerLongest", fn := fun _ => fun
  | [d1, d2] => { results := [.lit (.bool true)], args := [d1, d2] }
  | _ => none }
def lexerLongestRow : OpenClaim := { program := "ytapkfblkghoknaadoor", sum := "8ba36f52abef4500cef83b74b370fe9b04e0f11d89c132408cae87910a769fd1", func := "backstep/backsteplaw02.LexerLongest", spec := "lexerLongest", unfollowed := true, recurses := true, named := ["strings.asciiSpace", "unicode.White_Space"], apart := false, laid := [("unicode.White_Space", laid_unicode_White_Space), ("strings.asciiSpace", laid_strings_asciiSpace)] }
def LexerLongestSaid : Prop := lexerLongestRow.holds Tryd.pinned (OpenSpec.ofChange lexerLongestSpec)

/-- ITS FALSE NEIGHBOUR: 'it returns false'. Refute it at one input. -/
def lexerLongestWrong : ChangeSpec := { name := "lexerLongest", fn := fun _ => fun
  | [d1, d2] => { results := [.lit (.bool false)], args := [d1, d2] }
  | _ => none }
def LexerLongestWrongFalsely : Prop := lexerLongestRow.holds Tryd.pinned (OpenSpec.ofChange lexerLongestWrong)

/-- 'backsteplaw02.LexerFull': WHATEVER THE INPUT: true; the input reads as it did. -/
def lexerFullSpec : ChangeSpec := { name := "lexerFull", fn := fun _ => fun
  | [d1, d2] => { results := [.lit (.bool true)], args := [d1, d2] }
  | _ => none }
def lexerFullRow : OpenClaim := { program := "ytapkfblkghoknaadoor", sum := "8ba36f52abef4500cef83b74b370fe9b04e0f11d89c132408cae87910a769fd1", func := "backstep/backsteplaw02.LexerFull", spec := "lexerFull", unfollowed := true, recurses := true, named := ["strings.asciiSpace", "unicode.White_Space"], apart := false, laid := [("unicode.White_Space", laid_unicode_White_Space), ("strings.asciiSpace", laid_strings_asciiSpace)] }
def LexerFullSaid : Prop := lexerFullRow.holds Tryd.pinned (OpenSpec.ofChange lexerFullSpec)

/-- ITS FALSE NEIGHBOUR: 'it returns false'. Refute it at one input. -/
def lexerFullWrong : ChangeSpec := { name := "lexerFull", fn := fun _ => fun
  | [d1, d2] => { results := [.lit (.bool false)], args := [d1, d2] }
  | _ => none }
def LexerFullWrongFalsely : Prop := lexerFullRow.holds Tryd.pinned (OpenSpec.ofChange lexerFullWrong)

/-- 'backsteplaw02.LexerLines': WHATEVER THE INPUT: true; the input reads as it did. -/
def lexerLinesSpec : ChangeSpec := { name := "lexerLines", fn := fun _ => fun
  | [d1, d2] => { results := [.lit (.bool true)], args := [d1, d2] }
  | _ => none }
def lexerLinesRow : OpenClaim := { program := "ytapkfblkghoknaadoor", sum := "8ba36f52abef4500cef83b74b370fe9b04e0f11d89c132408cae87910a769fd1", func := "backstep/backsteplaw02.LexerLines", spec := "lexerLines", unfollowed := true, recurses := true, named := ["strings.asciiSpace", "unicode.White_Space"], apart := false, laid := [("unicode.White_Space", laid_unicode_White_Space), ("strings.asciiSpace", laid_strings_asciiSpace)] }
def LexerLinesSaid : Prop := lexerLinesRow.holds Tryd.pinned (OpenSpec.ofChange lexerLinesSpec)

/-- ITS FALSE NEIGHBOUR: 'it returns false'. Refute it at one input. -/
def lexerLinesWrong : ChangeSpec := { name := "lexerLines", fn := fun _ => fun
  | [d1, d2] => { results := [.lit (.bool false)], args := [d1, d2] }
  | _ => none }
def LexerLinesWrongFalsely : Prop := lexerLinesRow.holds Tryd.pinned (OpenSpec.ofChange lexerLinesWrong)

/-- 'backsteplaw02.LexerNames': WHATEVER THE INPUT: true; the input reads as it did. -/
def lexerNamesSpec : ChangeSpec := { name := "lexerNames", fn := fun _ => fun
  | [d] => { results := [.lit (.bool true)], args := [d] }
  | _ => none }
def lexerNamesRow : OpenClaim := { program := "ytapkfblkghoknaadoor", sum := "8ba36f52abef4500cef83b74b370fe9b04e0f11d89c132408cae87910a769fd1", func := "backstep/backsteplaw02.LexerNames", spec := "lexerNames", unfollowed := true, recurses := true, named := ["strings.asciiSpace", "unicode.White_Space"], apart := false, laid := [("unicode.White_Space", laid_unicode_White_Space), ("strings.asciiSpace", laid_strings_asciiSpace)] }
def LexerNamesSaid : Prop := lexerNamesRow.holds Tryd.pinned (OpenSpec.ofChange lexerNamesSpec)

/-- ITS FALSE NEIGHBOUR: 'it returns false'. Refute it at one input. -/
def lexerNamesWrong : ChangeSpec := { name := "lexerNames", fn := fun _ => fun
  | [d] => { results := [.lit (.bool false)], args := [d] }
  | _ => none }
def LexerNamesWrongFalsely : Prop := lexerNamesRow.holds Tryd.pinned (OpenSpec.ofChange lexerNamesWrong)

/-- 'backsteplaw02.LexerLossless': WHATEVER THE INPUT: true; the input reads as it did. -/
def lexerLosslessSpec : ChangeSpec := { name := "lexerLossless", fn := fun _ => fun
  | [d] => { results := [.lit (.bool true)], args := [d] }
  | _ => none }
def lexerLosslessRow : OpenClaim := { program := "ytapkfblkghoknaadoor", sum := "8ba36f52abef4500cef83b74b370fe9b04e0f11d89c132408cae87910a769fd1", func := "backstep/backsteplaw02.LexerLossless", spec := "lexerLossless", inPlace := ["internal/abi.NoEscape"], unfollowed := true, recurses := true, named := ["strings.asciiSpace", "unicode.White_Space"], apart := false, laid := [("unicode.White_Space", laid_unicode_White_Space), ("strings.asciiSpace", laid_strings_asciiSpace)] }
def LexerLosslessSaid : Prop := lexerLosslessRow.holds Tryd.pinned (OpenSpec.ofChange lexerLosslessSpec)

/-- ITS FALSE NEIGHBOUR: 'it returns false'. Refute it at one input. -/
def lexerLosslessWrong : ChangeSpec := { name := "lexerLossless", fn := fun _ => fun
  | [d] => { results := [.lit (.bool false)], args := [d] }
  | _ => none }
def LexerLosslessWrongFalsely : Prop := lexerLosslessRow.holds Tryd.pinned (OpenSpec.ofChange lexerLosslessWrong)

/-- 'backsteplaw02.LexerError': WHATEVER THE INPUT: true; the input reads as it did. -/
def lexerErrorSpec : ChangeSpec := { name := "lexerError", fn := fun _ => fun
  | [d] => { results := [.lit (.bool true)], args := [d] }
  | _ => none }
def lexerErrorRow : OpenClaim := { program := "ytapkfblkghoknaadoor", sum := "8ba36f52abef4500cef83b74b370fe9b04e0f11d89c132408cae87910a769fd1", func := "backstep/backsteplaw02.LexerError", spec := "lexerError", inPlace := ["internal/abi.NoEscape"], unfollowed := true, recurses := true, named := ["strings.asciiSpace", "unicode.White_Space"], apart := false, laid := [("unicode.White_Space", laid_unicode_White_Space), ("strings.asciiSpace", laid_strings_asciiSpace)] }
def LexerErrorSaid : Prop := lexerErrorRow.holds Tryd.pinned (OpenSpec.ofChange lexerErrorSpec)

/-- ITS FALSE NEIGHBOUR: 'it returns false'. Refute it at one input. -/
def lexerErrorWrong : ChangeSpec := { name := "lexerError", fn := fun _ => fun
  | [d] => { results := [.lit (.bool false)], args := [d] }
  | _ => none }
def LexerErrorWrongFalsely : Prop := lexerErrorRow.holds Tryd.pinned (OpenSpec.ofChange lexerErrorWrong)

/-- 'backsteplaw02.LexerSolid': WHATEVER THE INPUT: true; the input reads as it did. -/
def lexerSolidSpec : ChangeSpec := { name := "lexerSolid", fn := fun _ => fun
  | [d] => { results := [.lit (.bool true)], args := [d] }
  | _ => none }
def lexerSolidRow : OpenClaim := { program := "ytapkfblkghoknaadoor", sum := "8ba36f52abef4500cef83b74b370fe9b04e0f11d89c132408cae87910a769fd1", func := "backstep/backsteplaw02.LexerSolid", spec := "lexerSolid", inPlace := ["internal/abi.NoEscape"], unfollowed := true, recurses := true, named := ["strings.asciiSpace", "unicode.White_Space"], apart := false, laid := [("unicode.White_Space", laid_unicode_White_Space), ("strings.asciiSpace", laid_strings_asciiSpace)] }
def LexerSolidSaid : Prop := lexerSolidRow.holds Tryd.pinned (OpenSpec.ofChange lexerSolidSpec)

/-- ITS FALSE NEIGHBOUR: 'it returns false'. Refute it at one input. -/
def lexerSolidWrong : ChangeSpec := { name := "lexerSolid", fn := fun _ => fun
  | [d] => { results := [.lit (.bool false)], args := [d] }
  | _ => none }
def LexerSolidWrongFalsely : Prop := lexerSolidRow.holds Tryd.pinned (OpenSpec.ofChange lexerSolidWrong)

/- THE SECOND FORM. 'bulk': how many values and letters a reading holds, each counted each time it is reached (what is shared counts as often as it is met; a slice's spare places count too). A statement '..UptoSaid' is the law's where the arguments, and the package variables that the reading takes, are together of bulk at most 1048576: NARROWER than '..Said'. Prove '..Said' where nothing that the law and all that it calls make is longer than what came in: it says more and counts as full. Else prove '..UptoSaid'. A law counts once. -/
mutual
def uptoBulk {H : Type} : DataW H → Nat
  | .lit (.string bytes) => bytes.length + 1
  | .lit _ => 1
  | .nil => 1
  | .ptr d => uptoBulk d + 1
  | .slice elems spare => uptoBulkAll elems + uptoBulkAll spare + 1
  | .agg parts => uptoBulkAll parts + 1
  | .iface _ d => uptoBulk d + 1
  | .map entries => uptoBulkEntries entries + 1
  | .held _ => 1
def uptoBulkAll {H : Type} : List (DataW H) → Nat
  | [] => 0
  | d :: r => uptoBulk d + uptoBulkAll r
def uptoBulkEntries {H : Type} : List (Lit × DataW H) → Nat
  | [] => 0
  | x :: r => uptoBulkEntry x + uptoBulkEntries r
def uptoBulkEntry {H : Type} : Lit × DataW H → Nat
  | (.string bytes, d) => bytes.length + uptoBulk d + 1
  | (_, d) => uptoBulk d + 1
 end
def uptoSmall : (H : Type) → List (DataW H) → Bool := fun _ ds => decide (uptoBulkAll ds ≤ 1048576)
def OpenSpec.upto (s : _root_.Go.ChangeSpec) : _root_.Go.OpenSpec := { _root_.Go.OpenSpec.ofChange s with cond := some uptoSmall }

/-- 'backsteplaw02.LexerTokens', WHERE WHAT IT READS IS OF BULK AT MOST 1048576: true; the input reads as it did. -/
def lexerTokensUptoRow : OpenClaim := { program := "ytapkfblkghoknaadoor", sum := "8ba36f52abef4500cef83b74b370fe9b04e0f11d89c132408cae87910a769fd1", func := "backstep/backsteplaw02.LexerTokens", spec := "lexerTokens", unfollowed := true, recurses := true, named := ["strings.asciiSpace", "unicode.White_Space"], apart := false, laid := [("unicode.White_Space", laid_unicode_White_Space), ("strings.asciiSpace", laid_strings_asciiSpace)], narrowed := true }
def LexerTokensUptoSaid : Prop := lexerTokensUptoRow.holds Tryd.pinned (OpenSpec.upto lexerTokensSpec)

/-- 'backsteplaw02.LexerAlone', WHERE WHAT IT READS IS OF BULK AT MOST 1048576: true; the input reads as it did. -/
def lexerAloneUptoRow : OpenClaim := { program := "ytapkfblkghoknaadoor", sum := "8ba36f52abef4500cef83b74b370fe9b04e0f11d89c132408cae87910a769fd1", func := "backstep/backsteplaw02.LexerAlone", spec := "lexerAlone", unfollowed := true, recurses := true, named := ["strings.asciiSpace", "unicode.White_Space"], apart := false, laid := [("unicode.White_Space", laid_unicode_White_Space), ("strings.asciiSpace", laid_strings_asciiSpace)], narrowed := true }
def LexerAloneUptoSaid : Prop := lexerAloneUptoRow.holds Tryd.pinned (OpenSpec.upto lexerAloneSpec)

/-- 'backsteplaw02.LexerLongest', WHERE WHAT IT READS IS OF BULK AT MOST 1048576: true; the input reads as it did. -/
def lexerLongestUptoRow : OpenClaim := { program := "ytapkfblkghoknaadoor", sum := "8ba36f52abef4500cef83b74b370fe9b04e0f11d89c132408cae87910a769fd1", func := "backstep/backsteplaw02.LexerLongest", spec := "lexerLongest", unfollowed := true, recurses := true, named := ["strings.asciiSpace", "unicode.White_Space"], apart := false, laid := [("unicode.White_Space", laid_unicode_White_Space), ("strings.asciiSpace", laid_strings_asciiSpace)], narrowed := true }
def LexerLongestUptoSaid : Prop := lexerLongestUptoRow.holds Tryd.pinned (OpenSpec.upto lexerLongestSpec)

/-- 'backsteplaw02.LexerFull', WHERE WHAT IT READS IS OF BULK AT MOST 1048576: true; the input reads as it did. -/
def lexerFullUptoRow : OpenClaim := { program := "ytapkfblkghoknaadoor", sum := "8ba36f52abef4500cef83b74b370fe9b04e0f11d89c132408cae87910a769fd1", func := "backstep/backsteplaw02.LexerFull", spec := "lexerFull", unfollowed := true, recurses := true, named := ["strings.asciiSpace", "unicode.White_Space"], apart := false, laid := [("unicode.White_Space", laid_unicode_White_Space), ("strings.asciiSpace", laid_strings_asciiSpace)], narrowed := true }
def LexerFullUptoSaid : Prop := lexerFullUptoRow.holds Tryd.pinned (OpenSpec.upto lexerFullSpec)

/-- 'backsteplaw02.LexerLines', WHERE WHAT IT READS IS OF BULK AT MOST 1048576: true; the input reads as it did. -/
def lexerLinesUptoRow : OpenClaim := { program := "ytapkfblkghoknaadoor", sum := "8ba36f52abef4500cef83b74b370fe9b04e0f11d89c132408cae87910a769fd1", func := "backstep/backsteplaw02.LexerLines", spec := "lexerLines", unfollowed := true, recurses := true, named := ["strings.asciiSpace", "unicode.White_Space"], apart := false, laid := [("unicode.White_Space", laid_unicode_White_Space), ("strings.asciiSpace", laid_strings_asciiSpace)], narrowed := true }
def LexerLinesUptoSaid : Prop := lexerLinesUptoRow.holds Tryd.pinned (OpenSpec.upto lexerLinesSpec)

/-- 'backsteplaw02.LexerNames', WHERE WHAT IT READS IS OF BULK AT MOST 1048576: true; the input reads as it did. -/
def lexerNamesUptoRow : OpenClaim := { program := "ytapkfblkghoknaadoor", sum := "8ba36f52abef4500cef83b74b370fe9b04e0f11d89c132408cae87910a769fd1", func := "backstep/backsteplaw02.LexerNames", spec := "lexerNames", unfollowed := true, recurses := true, named := ["strings.asciiSpace", "unicode.White_Space"], apart := false, laid := [("unicode.White_Space", laid_unicode_White_Space), ("strings.asciiSpace", laid_strings_asciiSpace)], narrowed := true }
def LexerNamesUptoSaid : Prop := lexerNamesUptoRow.holds Tryd.pinned (OpenSpec.upto lexerNamesSpec)

/-- 'backsteplaw02.LexerLossless', WHERE WHAT IT READS IS OF BULK AT MOST 1048576: true; the input reads as it did. -/
def lexerLosslessUptoRow : OpenClaim := { program := "ytapkfblkghoknaadoor", sum := "8ba36f52abef4500cef83b74b370fe9b04e0f11d89c132408cae87910a769fd1", func := "backstep/backsteplaw02.LexerLossless", spec := "lexerLossless", inPlace := ["internal/abi.NoEscape"], unfollowed := true, recurses := true, named := ["strings.asciiSpace", "unicode.White_Space"], apart := false, laid := [("unicode.White_Space", laid_unicode_White_Space), ("strings.asciiSpace", laid_strings_asciiSpace)], narrowed := true }
def LexerLosslessUptoSaid : Prop := lexerLosslessUptoRow.holds Tryd.pinned (OpenSpec.upto lexerLosslessSpec)

/-- 'backsteplaw02.LexerError', WHERE WHAT IT READS IS OF BULK AT MOST 1048576: true; the input reads as it did. -/
def lexerErrorUptoRow : OpenClaim := { program := "ytapkfblkghoknaadoor", sum := "8ba36f52abef4500cef83b74b370fe9b04e0f11d89c132408cae87910a769fd1", func := "backstep/backsteplaw02.LexerError", spec := "lexerError", inPlace := ["internal/abi.NoEscape"], unfollowed := true, recurses := true, named := ["strings.asciiSpace", "unicode.White_Space"], apart := false, laid := [("unicode.White_Space", laid_unicode_White_Space), ("strings.asciiSpace", laid_strings_asciiSpace)], narrowed := true }
def LexerErrorUptoSaid : Prop := lexerErrorUptoRow.holds Tryd.pinned (OpenSpec.upto lexerErrorSpec)

/-- 'backsteplaw02.LexerSolid', WHERE WHAT IT READS IS OF BULK AT MOST 1048576: true; the input reads as it did. -/
def lexerSolidUptoRow : OpenClaim := { program := "ytapkfblkghoknaadoor", sum := "8ba36f52abef4500cef83b74b370fe9b04e0f11d89c132408cae87910a769fd1", func := "backstep/backsteplaw02.LexerSolid", spec := "lexerSolid", inPlace := ["internal/abi.NoEscape"], unfollowed := true, recurses := true, named := ["strings.asciiSpace", "unicode.White_Space"], apart := false, laid := [("unicode.White_Space", laid_unicode_White_Space), ("strings.asciiSpace", laid_strings_asciiSpace)], narrowed := true }
def LexerSolidUptoSaid : Prop := lexerSolidUptoRow.holds Tryd.pinned (OpenSpec.upto lexerSolidSpec)

end Rows
end Go.Proofs.YtapkfblkghoknaaDoor
