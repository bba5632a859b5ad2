/-
  NARROWER THAN 'FOR EVERY INPUT', by the rows' own cells (each row's printed sentence says how): PlayParses: laid · PlayPrints: laid · PlayRound: laid · PlayCanon: laid · PlayNoise: laid · PlayFirst: laid · PlayWritesCall: laid · PlayReadsCall: laid · PlayNew: laid · PlayCalls: laid · PlayPlace: laid.
  DERIVED. THE GIVEN ROWS OF THIS SEAT. 11 by the template 'for every input the law returns true; each argument reads behind the call as it read before'; 0 by the template 'total and deterministic' (their statements: YthnhfddlmkhgkaaGreatDoorTotals.lean).
  GIVEN WITH THE SEED: the statements are not yours to turn. If you find one false, say at which input.
  Laid BY PROGRAM, IN A SANDBOX (cutbox-rows.mjs): the forced cells as the released guide's own fill.sh prints them over the translation 5c211b7daf9e569d… (all of the seat's roots in one cut). By AI agents, Wed Nov 11 2026. No macro, syntax, notation, axiom, sorry.
-/
import Derived.Test.YthnhfddlmkhgkaaGreatDoorChecked
import GoSem.PinnedTables
import GoSem.Claim
import GoSem.ClaimJoined
import GoSem.ClaimMapViews
import Derived.JoinedTies
import Derived.KernelRfl
namespace Go.Proofs.YthnhfddlmkhgkaaGreatDoor
/- THE CELL 'sum', in the pinned program and in every row, IS THE sha256 OF THE DUMP (.gsa) THAT YthnhfddlmkhgkaaGreatDoorProg.lean LOADS. Nothing in Lean hashes anything: it is a label: what it is worth is what the hold of that sum in a sandbox is worth. -/
noncomputable def Tryz.pinned : Pinned := { name := "ythnhfddlmkhgkaagreatdoor", sum := "5c211b7daf9e569de6a2044a14ae7850b1852aade65f8e958d67569a673e0de2", checked := Tryz.checked }
namespace Rows
def none {H : Type} : Left H := { results := [], args := [] }

/- WHAT THE LISTED PACKAGE-LEVEL VARIABLES READ AS WHEN THE CALL BEGINS. Each datum BY PROGRAM (the guide's laid-datum.mjs) off the statement by which the dump's own 'gosem.cut.vars' lays the variable. In a bare row this is a premise. The card (YthnhfddlmkhgkaaGreatDoorCards.lean) ties it to the program's text. -/
def laid_math_bits_deBruijn32tab {H : Type} : DataW H := .agg [.lit (.int .u8 0), .lit (.int .u8 1), .lit (.int .u8 28), .lit (.int .u8 2), .lit (.int .u8 29), .lit (.int .u8 14), .lit (.int .u8 24), .lit (.int .u8 3), .lit (.int .u8 30), .lit (.int .u8 22), .lit (.int .u8 20), .lit (.int .u8 15), .lit (.int .u8 25), .lit (.int .u8 17), .lit (.int .u8 4), .lit (.int .u8 8), .lit (.int .u8 31), .lit (.int .u8 27), .lit (.int .u8 13), .lit (.int .u8 23), .lit (.int .u8 21), .lit (.int .u8 19), .lit (.int .u8 16), .lit (.int .u8 7), .lit (.int .u8 26), .lit (.int .u8 12), .lit (.int .u8 18), .lit (.int .u8 6), .lit (.int .u8 11), .lit (.int .u8 5), .lit (.int .u8 10), .lit (.int .u8 9)]
def laid_math_bits_deBruijn64tab {H : Type} : DataW H := .agg [.lit (.int .u8 0), .lit (.int .u8 1), .lit (.int .u8 56), .lit (.int .u8 2), .lit (.int .u8 57), .lit (.int .u8 49), .lit (.int .u8 28), .lit (.int .u8 3), .lit (.int .u8 61), .lit (.int .u8 58), .lit (.int .u8 42), .lit (.int .u8 50), .lit (.int .u8 38), .lit (.int .u8 29), .lit (.int .u8 17), .lit (.int .u8 4), .lit (.int .u8 62), .lit (.int .u8 47), .lit (.int .u8 59), .lit (.int .u8 36), .lit (.int .u8 45), .lit (.int .u8 43), .lit (.int .u8 51), .lit (.int .u8 22), .lit (.int .u8 53), .lit (.int .u8 39), .lit (.int .u8 33), .lit (.int .u8 30), .lit (.int .u8 24), .lit (.int .u8 18), .lit (.int .u8 12), .lit (.int .u8 5), .lit (.int .u8 63), .lit (.int .u8 55), .lit (.int .u8 48), .lit (.int .u8 27), .lit (.int .u8 60), .lit (.int .u8 41), .lit (.int .u8 37), .lit (.int .u8 16), .lit (.int .u8 46), .lit (.int .u8 35), .lit (.int .u8 44), .lit (.int .u8 21), .lit (.int .u8 52), .lit (.int .u8 32), .lit (.int .u8 23), .lit (.int .u8 11), .lit (.int .u8 54), .lit (.int .u8 26), .lit (.int .u8 40), .lit (.int .u8 15), .lit (.int .u8 34), .lit (.int .u8 20), .lit (.int .u8 31), .lit (.int .u8 10), .lit (.int .u8 25), .lit (.int .u8 14), .lit (.int .u8 19), .lit (.int .u8 9), .lit (.int .u8 13), .lit (.int .u8 8), .lit (.int .u8 7), .lit (.int .u8 6)]
def laid_internal_strconv_uint64pow10 {H : Type} : DataW H := .agg [.lit (.int .u64 1), .lit (.int .u64 10), .lit (.int .u64 100), .lit (.int .u64 1000), .lit (.int .u64 10000), .lit (.int .u64 100000), .lit (.int .u64 1000000), .lit (.int .u64 10000000), .lit (.int .u64 100000000), .lit (.int .u64 1000000000), .lit (.int .u64 10000000000), .lit (.int .u64 100000000000), .lit (.int .u64 1000000000000), .lit (.int .u64 10000000000000), .lit (.int .u64 100000000000000), .lit (.int .u64 1000000000000000), .lit (.int .u64 10000000000000000), .lit (.int .u64 100000000000000000), .lit (.int .u64 1000000000000000000), .lit (.int .u64 10000000000000000000)]
def laid_unicode_utf8_acceptRanges {H : Type} : DataW H := .agg [.agg [.lit (.int .u8 128), .lit (.int .u8 191)], .agg [.lit (.int .u8 160), .lit (.int .u8 191)], .agg [.lit (.int .u8 128), .lit (.int .u8 159)], .agg [.lit (.int .u8 144), .lit (.int .u8 191)], .agg [.lit (.int .u8 128), .lit (.int .u8 143)], .agg [.lit (.int .u8 0), .lit (.int .u8 0)], .agg [.lit (.int .u8 0), .lit (.int .u8 0)], .agg [.lit (.int .u8 0), .lit (.int .u8 0)], .agg [.lit (.int .u8 0), .lit (.int .u8 0)], .agg [.lit (.int .u8 0), .lit (.int .u8 0)], .agg [.lit (.int .u8 0), .lit (.int .u8 0)], .agg [.lit (.int .u8 0), .lit (.int .u8 0)], .agg [.lit (.int .u8 0), .lit (.int .u8 0)], .agg [.lit (.int .u8 0), .lit (.int .u8 0)], .agg [.lit (.int .u8 0), .lit (.int .u8 0)], .agg [.lit (.int .u8 0), .lit (.int .u8 0)]]
def laid_strconv_ErrRange {H : Type} : DataW H := .iface "*errors.errorString" (.ptr (.agg [.lit (.string [118, 97, 108, 117, 101, 32, 111, 117, 116, 32, 111, 102, 32, 114, 97, 110, 103, 101])]))
def laid_strconv_ErrSyntax {H : Type} : DataW H := .iface "*errors.errorString" (.ptr (.agg [.lit (.string [105, 110, 118, 97, 108, 105, 100, 32, 115, 121, 110, 116, 97, 120])]))
def laid_annex_annexref21_names {H : Type} : DataW H := .agg [.lit (.string []), .lit (.string [99, 97, 108, 108]), .lit (.string [99, 108, 111, 115, 101]), .lit (.string [116, 105, 99, 107]), .lit (.string [115, 101, 114, 118, 101]), .lit (.string [103, 105, 118, 101]), .lit (.string [100, 114, 111, 112]), .lit (.string [99, 111, 112, 121]), .lit (.string [102, 108, 105, 112]), .lit (.string [106, 117, 110, 107]), .lit (.string [97, 114, 109]), .lit (.string [99, 114, 97, 115, 104]), .lit (.string [98, 111, 111, 116]), .lit (.string [114, 117, 110]), .lit (.string [108, 111, 111, 107])]
def laid_annex_annexref21_forms {H : Type} : DataW H := .agg [.lit (.string []), .lit (.string []), .lit (.string [65, 75]), .lit (.string [75]), .lit (.string [75]), .lit (.string [75]), .lit (.string [75]), .lit (.string [75]), .lit (.string [75, 77, 88]), .lit (.string [84, 68]), .lit (.string [75]), .lit (.string [66]), .lit (.string []), .lit (.string [75]), .lit (.string [])]
def laid_annex_annexref21_callNames {H : Type} : DataW H := .agg [.lit (.string []), .lit (.string [108, 111, 111, 107, 117, 112]), .lit (.string [103, 101, 116, 97, 116, 116, 114]), .lit (.string [114, 101, 97, 100]), .lit (.string [119, 114, 105, 116, 101]), .lit (.string [99, 114, 101, 97, 116, 101]), .lit (.string [114, 101, 109, 111, 118, 101]), .lit (.string [109, 107, 100, 105, 114]), .lit (.string [114, 109, 100, 105, 114]), .lit (.string [114, 101, 110, 97, 109, 101]), .lit (.string [114, 101, 97, 100, 100, 105, 114])]
def laid_annex_annexref21_callForms {H : Type} : DataW H := .agg [.lit (.string []), .lit (.string [112]), .lit (.string [104]), .lit (.string [104, 111, 108]), .lit (.string [104, 111, 100]), .lit (.string [104, 110]), .lit (.string [104, 110]), .lit (.string [104, 110]), .lit (.string [104, 110]), .lit (.string [104, 110, 103, 109]), .lit (.string [104, 110, 108])]
def laid_annex_play_steps {H : Type} : DataW H := .agg [.agg [.lit (.string []), .lit (.string [])], .agg [.lit (.string [99, 97, 108, 108]), .lit (.string [97, 99])], .agg [.lit (.string [99, 108, 111, 115, 101]), .lit (.string [97, 107])], .agg [.lit (.string [116, 105, 99, 107]), .lit (.string [107])], .agg [.lit (.string [115, 101, 114, 118, 101]), .lit (.string [107])], .agg [.lit (.string [103, 105, 118, 101]), .lit (.string [107])], .agg [.lit (.string [100, 114, 111, 112]), .lit (.string [107])], .agg [.lit (.string [99, 111, 112, 121]), .lit (.string [107])], .agg [.lit (.string [102, 108, 105, 112]), .lit (.string [107, 109, 120])], .agg [.lit (.string [106, 117, 110, 107]), .lit (.string [106, 100])], .agg [.lit (.string [97, 114, 109]), .lit (.string [107])], .agg [.lit (.string [99, 114, 97, 115, 104]), .lit (.string [98])], .agg [.lit (.string [98, 111, 111, 116]), .lit (.string [])], .agg [.lit (.string [114, 117, 110]), .lit (.string [107])], .agg [.lit (.string [108, 111, 111, 107]), .lit (.string [])]]
def laid_annex_play_calls {H : Type} : DataW H := .agg [.agg [.lit (.string []), .lit (.string [])], .agg [.lit (.string [108, 111, 111, 107, 117, 112]), .lit (.string [112])], .agg [.lit (.string [103, 101, 116, 97, 116, 116, 114]), .lit (.string [104])], .agg [.lit (.string [114, 101, 97, 100]), .lit (.string [104, 111, 108])], .agg [.lit (.string [119, 114, 105, 116, 101]), .lit (.string [104, 111, 100])], .agg [.lit (.string [99, 114, 101, 97, 116, 101]), .lit (.string [104, 110])], .agg [.lit (.string [114, 101, 109, 111, 118, 101]), .lit (.string [104, 110])], .agg [.lit (.string [109, 107, 100, 105, 114]), .lit (.string [104, 110])], .agg [.lit (.string [114, 109, 100, 105, 114]), .lit (.string [104, 110])], .agg [.lit (.string [114, 101, 110, 97, 109, 101]), .lit (.string [104, 110, 105, 50])], .agg [.lit (.string [114, 101, 97, 100, 100, 105, 114]), .lit (.string [104, 110, 108])]]
/-- One of Go's own tables, pinned by name: the form's constant. -/
def laid_unicode_utf8_first : DataW Unit := Go.Pinned.utf8First

/-- 'annexlaw21.PlayParses': WHATEVER THE INPUT: true; the input reads as it did. -/
def playParsesSpec : ChangeSpec := { name := "playParses", fn := fun _ => fun
  | [d] => { results := [.lit (.bool true)], args := [d] }
  | _ => none }
def playParsesRow : OpenClaim := { program := "ythnhfddlmkhgkaagreatdoor", sum := "5c211b7daf9e569de6a2044a14ae7850b1852aade65f8e958d67569a673e0de2", func := "annex/annexlaw21.PlayParses", spec := "playParses", inPlace := ["internal/bytealg.IndexByteString", "internal/bytealg.IndexString", "internal/abi.NoEscape", "internal/bytealg.MakeNoZero"], unfollowed := true, recurses := true, named := ["internal/bytealg.MaxLen", "unicode/utf8.first", "unicode/utf8.acceptRanges", "strconv.ErrSyntax", "strconv.ErrRange", "internal/strconv.uint64pow10", "math/bits.deBruijn32tab", "math/bits.deBruijn64tab", "annex/play.steps", "annex/play.calls", "annex/annexref21.forms", "annex/annexref21.names", "annex/annexref21.callForms", "annex/annexref21.callNames"], apart := false, laid := [("math/bits.deBruijn32tab", laid_math_bits_deBruijn32tab), ("math/bits.deBruijn64tab", laid_math_bits_deBruijn64tab), ("internal/strconv.uint64pow10", laid_internal_strconv_uint64pow10), ("unicode/utf8.acceptRanges", laid_unicode_utf8_acceptRanges), ("strconv.ErrRange", laid_strconv_ErrRange), ("strconv.ErrSyntax", laid_strconv_ErrSyntax), ("annex/annexref21.names", laid_annex_annexref21_names), ("annex/annexref21.forms", laid_annex_annexref21_forms), ("annex/annexref21.callNames", laid_annex_annexref21_callNames), ("annex/annexref21.callForms", laid_annex_annexref21_callForms), ("annex/play.steps", laid_annex_play_steps), ("annex/play.calls", laid_annex_play_calls), ("unicode/utf8.first", laid_unicode_utf8_first)] }
def PlayParsesSaid : Prop := playParsesRow.holds Tryz.pinned (OpenSpec.ofChange playParsesSpec)

/-- ITS FALSE NEIGHBOUR: 'it returns false'. Refute it at one input. -/
def playParsesWrong : ChangeSpec := { name := "playParses", fn := fun _ => fun
  | [d] => { results := [.lit (.bool false)], args := [d] }
  | _ => none }
def PlayParsesWrongFalsely : Prop := playParsesRow.holds Tryz.pinned (OpenSpec.ofChange playParsesWrong)

/-- 'annexlaw21.PlayPrints': WHATEVER THE INPUT: true; the input reads as it did. -/
def playPrintsSpec : ChangeSpec := { name := "playPrints", fn := fun _ => fun
  | [d] => { results := [.lit (.bool true)], args := [d] }
  | _ => none }
def playPrintsRow : OpenClaim := { program := "ythnhfddlmkhgkaagreatdoor", sum := "5c211b7daf9e569de6a2044a14ae7850b1852aade65f8e958d67569a673e0de2", func := "annex/annexlaw21.PlayPrints", spec := "playPrints", inPlace := ["internal/abi.NoEscape", "internal/bytealg.MakeNoZero", "internal/bytealg.IndexByteString", "internal/bytealg.IndexString"], unfollowed := true, recurses := true, named := ["internal/strconv.uint64pow10", "math/bits.deBruijn32tab", "math/bits.deBruijn64tab", "annex/play.steps", "annex/play.calls", "annex/annexref21.forms", "annex/annexref21.callForms", "annex/annexref21.names", "annex/annexref21.callNames", "internal/bytealg.MaxLen", "unicode/utf8.first", "unicode/utf8.acceptRanges", "strconv.ErrSyntax", "strconv.ErrRange"], apart := false, laid := [("math/bits.deBruijn32tab", laid_math_bits_deBruijn32tab), ("math/bits.deBruijn64tab", laid_math_bits_deBruijn64tab), ("internal/strconv.uint64pow10", laid_internal_strconv_uint64pow10), ("unicode/utf8.acceptRanges", laid_unicode_utf8_acceptRanges), ("strconv.ErrRange", laid_strconv_ErrRange), ("strconv.ErrSyntax", laid_strconv_ErrSyntax), ("annex/annexref21.names", laid_annex_annexref21_names), ("annex/annexref21.forms", laid_annex_annexref21_forms), ("annex/annexref21.callNames", laid_annex_annexref21_callNames), ("annex/annexref21.callForms", laid_annex_annexref21_callForms), ("annex/play.steps", laid_annex_play_steps), ("annex/play.calls", laid_annex_play_calls), ("unicode/utf8.first", laid_unicode_utf8_first)] }
def PlayPrintsSaid : Prop := playPrintsRow.holds Tryz.pinned (OpenSpec.ofChange playPrintsSpec)

/-- ITS FALSE NEIGHBOUR: 'it returns false'. Refute it at one input. -/
def playPrintsWrong : ChangeSpec := { name := "playPrints", fn := fun _ => fun
  | [d] => { results := [.lit (.bool false)], args := [d] }
  | _ => none }
def PlayPrintsWrongFalsely : Prop := playPrintsRow.holds Tryz.pinned (OpenSpec.ofChange playPrintsWrong)

/-- 'annexlaw21.PlayRound': WHATEVER THE INPUT: true; the input reads as it did. -/
def playRoundSpec : ChangeSpec := { name := "playRound", fn := fun _ => fun
  | [d] => { results := [.lit (.bool true)], args := [d] }
  | _ => none }
def playRoundRow : OpenClaim := { program := "ythnhfddlmkhgkaagreatdoor", sum := "5c211b7daf9e569de6a2044a14ae7850b1852aade65f8e958d67569a673e0de2", func := "annex/annexlaw21.PlayRound", spec := "playRound", inPlace := ["internal/abi.NoEscape", "internal/bytealg.MakeNoZero", "internal/bytealg.IndexByteString", "internal/bytealg.IndexString"], unfollowed := true, recurses := true, named := ["internal/strconv.uint64pow10", "math/bits.deBruijn32tab", "math/bits.deBruijn64tab", "annex/play.steps", "annex/play.calls", "internal/bytealg.MaxLen", "unicode/utf8.first", "unicode/utf8.acceptRanges", "strconv.ErrSyntax", "strconv.ErrRange"], apart := false, laid := [("math/bits.deBruijn32tab", laid_math_bits_deBruijn32tab), ("math/bits.deBruijn64tab", laid_math_bits_deBruijn64tab), ("internal/strconv.uint64pow10", laid_internal_strconv_uint64pow10), ("unicode/utf8.acceptRanges", laid_unicode_utf8_acceptRanges), ("strconv.ErrRange", laid_strconv_ErrRange), ("strconv.ErrSyntax", laid_strconv_ErrSyntax), ("annex/play.steps", laid_annex_play_steps), ("annex/play.calls", laid_annex_play_calls), ("unicode/utf8.first", laid_unicode_utf8_first)] }
def PlayRoundSaid : Prop := playRoundRow.holds Tryz.pinned (OpenSpec.ofChange playRoundSpec)

/-- ITS FALSE NEIGHBOUR: 'it returns false'. Refute it at one input. -/
def playRoundWrong : ChangeSpec := { name := "playRound", fn := fun _ => fun
  | [d] => { results := [.lit (.bool false)], args := [d] }
  | _ => none }
def PlayRoundWrongFalsely : Prop := playRoundRow.holds Tryz.pinned (OpenSpec.ofChange playRoundWrong)

/-- 'annexlaw21.PlayCanon': WHATEVER THE INPUT: true; the input reads as it did. -/
def playCanonSpec : ChangeSpec := { name := "playCanon", fn := fun _ => fun
  | [d] => { results := [.lit (.bool true)], args := [d] }
  | _ => none }
def playCanonRow : OpenClaim := { program := "ythnhfddlmkhgkaagreatdoor", sum := "5c211b7daf9e569de6a2044a14ae7850b1852aade65f8e958d67569a673e0de2", func := "annex/annexlaw21.PlayCanon", spec := "playCanon", inPlace := ["internal/abi.NoEscape", "internal/bytealg.MakeNoZero", "internal/bytealg.IndexByteString", "internal/bytealg.IndexString"], unfollowed := true, recurses := true, named := ["internal/strconv.uint64pow10", "math/bits.deBruijn32tab", "math/bits.deBruijn64tab", "annex/play.steps", "annex/play.calls", "internal/bytealg.MaxLen", "unicode/utf8.first", "unicode/utf8.acceptRanges", "strconv.ErrSyntax", "strconv.ErrRange"], apart := false, laid := [("math/bits.deBruijn32tab", laid_math_bits_deBruijn32tab), ("math/bits.deBruijn64tab", laid_math_bits_deBruijn64tab), ("internal/strconv.uint64pow10", laid_internal_strconv_uint64pow10), ("unicode/utf8.acceptRanges", laid_unicode_utf8_acceptRanges), ("strconv.ErrRange", laid_strconv_ErrRange), ("strconv.ErrSyntax", laid_strconv_ErrSyntax), ("annex/play.steps", laid_annex_play_steps), ("annex/play.calls", laid_annex_play_calls), ("unicode/utf8.first", laid_unicode_utf8_first)] }
def PlayCanonSaid : Prop := playCanonRow.holds Tryz.pinned (OpenSpec.ofChange playCanonSpec)

/-- ITS FALSE NEIGHBOUR: 'it returns false'. Refute it at one input. -/
def playCanonWrong : ChangeSpec := { name := "playCanon", fn := fun _ => fun
  | [d] => { results := [.lit (.bool false)], args := [d] }
  | _ => none }
def PlayCanonWrongFalsely : Prop := playCanonRow.holds Tryz.pinned (OpenSpec.ofChange playCanonWrong)

/-- 'annexlaw21.PlayNoise': WHATEVER THE INPUT: true; the input reads as it did. -/
def playNoiseSpec : ChangeSpec := { name := "playNoise", fn := fun _ => fun
  | [d1, d2, d3] => { results := [.lit (.bool true)], args := [d1, d2, d3] }
  | _ => none }
def playNoiseRow : OpenClaim := { program := "ythnhfddlmkhgkaagreatdoor", sum := "5c211b7daf9e569de6a2044a14ae7850b1852aade65f8e958d67569a673e0de2", func := "annex/annexlaw21.PlayNoise", spec := "playNoise", inPlace := ["internal/abi.NoEscape", "internal/bytealg.MakeNoZero", "internal/bytealg.IndexByteString", "internal/bytealg.IndexString"], unfollowed := true, recurses := true, named := ["internal/strconv.uint64pow10", "math/bits.deBruijn32tab", "math/bits.deBruijn64tab", "annex/play.steps", "annex/play.calls", "internal/bytealg.MaxLen", "unicode/utf8.first", "unicode/utf8.acceptRanges", "strconv.ErrSyntax", "strconv.ErrRange"], apart := false, laid := [("math/bits.deBruijn32tab", laid_math_bits_deBruijn32tab), ("math/bits.deBruijn64tab", laid_math_bits_deBruijn64tab), ("internal/strconv.uint64pow10", laid_internal_strconv_uint64pow10), ("unicode/utf8.acceptRanges", laid_unicode_utf8_acceptRanges), ("strconv.ErrRange", laid_strconv_ErrRange), ("strconv.ErrSyntax", laid_strconv_ErrSyntax), ("annex/play.steps", laid_annex_play_steps), ("annex/play.calls", laid_annex_play_calls), ("unicode/utf8.first", laid_unicode_utf8_first)] }
def PlayNoiseSaid : Prop := playNoiseRow.holds Tryz.pinned (OpenSpec.ofChange playNoiseSpec)

/-- ITS FALSE NEIGHBOUR: 'it returns false'. Refute it at one input. -/
def playNoiseWrong : ChangeSpec := { name := "playNoise", fn := fun _ => fun
  | [d1, d2, d3] => { results := [.lit (.bool false)], args := [d1, d2, d3] }
  | _ => none }
def PlayNoiseWrongFalsely : Prop := playNoiseRow.holds Tryz.pinned (OpenSpec.ofChange playNoiseWrong)

/-- 'annexlaw21.PlayFirst': WHATEVER THE INPUT: true; the input reads as it did. -/
def playFirstSpec : ChangeSpec := { name := "playFirst", fn := fun _ => fun
  | [d1, d2, d3] => { results := [.lit (.bool true)], args := [d1, d2, d3] }
  | _ => none }
def playFirstRow : OpenClaim := { program := "ythnhfddlmkhgkaagreatdoor", sum := "5c211b7daf9e569de6a2044a14ae7850b1852aade65f8e958d67569a673e0de2", func := "annex/annexlaw21.PlayFirst", spec := "playFirst", inPlace := ["internal/abi.NoEscape", "internal/bytealg.MakeNoZero", "internal/bytealg.IndexByteString", "internal/bytealg.IndexString"], unfollowed := true, recurses := true, named := ["internal/strconv.uint64pow10", "math/bits.deBruijn32tab", "math/bits.deBruijn64tab", "annex/play.steps", "annex/play.calls", "internal/bytealg.MaxLen", "unicode/utf8.first", "unicode/utf8.acceptRanges", "strconv.ErrSyntax", "strconv.ErrRange"], apart := false, laid := [("math/bits.deBruijn32tab", laid_math_bits_deBruijn32tab), ("math/bits.deBruijn64tab", laid_math_bits_deBruijn64tab), ("internal/strconv.uint64pow10", laid_internal_strconv_uint64pow10), ("unicode/utf8.acceptRanges", laid_unicode_utf8_acceptRanges), ("strconv.ErrRange", laid_strconv_ErrRange), ("strconv.ErrSyntax", laid_strconv_ErrSyntax), ("annex/play.steps", laid_annex_play_steps), ("annex/play.calls", laid_annex_play_calls), ("unicode/utf8.first", laid_unicode_utf8_first)] }
def PlayFirstSaid : Prop := playFirstRow.holds Tryz.pinned (OpenSpec.ofChange playFirstSpec)

/-- ITS FALSE NEIGHBOUR: 'it returns false'. Refute it at one input. -/
def playFirstWrong : ChangeSpec := { name := "playFirst", fn := fun _ => fun
  | [d1, d2, d3] => { results := [.lit (.bool false)], args := [d1, d2, d3] }
  | _ => none }
def PlayFirstWrongFalsely : Prop := playFirstRow.holds Tryz.pinned (OpenSpec.ofChange playFirstWrong)

/-- 'annexlaw21.PlayWritesCall': WHATEVER THE INPUT: true; the input reads as it did. -/
def playWritesCallSpec : ChangeSpec := { name := "playWritesCall", fn := fun _ => fun
  | [d] => { results := [.lit (.bool true)], args := [d] }
  | _ => none }
def playWritesCallRow : OpenClaim := { program := "ythnhfddlmkhgkaagreatdoor", sum := "5c211b7daf9e569de6a2044a14ae7850b1852aade65f8e958d67569a673e0de2", func := "annex/annexlaw21.PlayWritesCall", spec := "playWritesCall", inPlace := ["internal/abi.NoEscape", "internal/bytealg.MakeNoZero", "internal/bytealg.IndexByteString", "internal/bytealg.IndexString"], unfollowed := true, recurses := true, named := ["annex/play.calls", "internal/strconv.uint64pow10", "math/bits.deBruijn32tab", "math/bits.deBruijn64tab", "annex/annexref21.callForms", "annex/annexref21.callNames", "annex/play.steps", "internal/bytealg.MaxLen", "unicode/utf8.first", "unicode/utf8.acceptRanges", "strconv.ErrSyntax", "strconv.ErrRange"], apart := false, laid := [("math/bits.deBruijn32tab", laid_math_bits_deBruijn32tab), ("math/bits.deBruijn64tab", laid_math_bits_deBruijn64tab), ("internal/strconv.uint64pow10", laid_internal_strconv_uint64pow10), ("unicode/utf8.acceptRanges", laid_unicode_utf8_acceptRanges), ("strconv.ErrRange", laid_strconv_ErrRange), ("strconv.ErrSyntax", laid_strconv_ErrSyntax), ("annex/annexref21.callNames", laid_annex_annexref21_callNames), ("annex/annexref21.callForms", laid_annex_annexref21_callForms), ("annex/play.steps", laid_annex_play_steps), ("annex/play.calls", laid_annex_play_calls), ("unicode/utf8.first", laid_unicode_utf8_first)] }
def PlayWritesCallSaid : Prop := playWritesCallRow.holds Tryz.pinned (OpenSpec.ofChange playWritesCallSpec)

/-- ITS FALSE NEIGHBOUR: 'it returns false'. Refute it at one input. -/
def playWritesCallWrong : ChangeSpec := { name := "playWritesCall", fn := fun _ => fun
  | [d] => { results := [.lit (.bool false)], args := [d] }
  | _ => none }
def PlayWritesCallWrongFalsely : Prop := playWritesCallRow.holds Tryz.pinned (OpenSpec.ofChange playWritesCallWrong)

/-- 'annexlaw21.PlayReadsCall': WHATEVER THE INPUT: true; the input reads as it did. -/
def playReadsCallSpec : ChangeSpec := { name := "playReadsCall", fn := fun _ => fun
  | [d] => { results := [.lit (.bool true)], args := [d] }
  | _ => none }
def playReadsCallRow : OpenClaim := { program := "ythnhfddlmkhgkaagreatdoor", sum := "5c211b7daf9e569de6a2044a14ae7850b1852aade65f8e958d67569a673e0de2", func := "annex/annexlaw21.PlayReadsCall", spec := "playReadsCall", inPlace := ["internal/bytealg.IndexByteString", "internal/bytealg.IndexString", "internal/abi.NoEscape", "internal/bytealg.MakeNoZero"], unfollowed := true, recurses := true, named := ["unicode/utf8.first", "unicode/utf8.acceptRanges", "internal/bytealg.MaxLen", "annex/play.calls", "strconv.ErrSyntax", "strconv.ErrRange", "internal/strconv.uint64pow10", "math/bits.deBruijn32tab", "math/bits.deBruijn64tab", "annex/annexref21.callForms", "annex/annexref21.callNames", "annex/play.steps"], apart := false, laid := [("math/bits.deBruijn32tab", laid_math_bits_deBruijn32tab), ("math/bits.deBruijn64tab", laid_math_bits_deBruijn64tab), ("internal/strconv.uint64pow10", laid_internal_strconv_uint64pow10), ("unicode/utf8.acceptRanges", laid_unicode_utf8_acceptRanges), ("strconv.ErrRange", laid_strconv_ErrRange), ("strconv.ErrSyntax", laid_strconv_ErrSyntax), ("annex/annexref21.callNames", laid_annex_annexref21_callNames), ("annex/annexref21.callForms", laid_annex_annexref21_callForms), ("annex/play.steps", laid_annex_play_steps), ("annex/play.calls", laid_annex_play_calls), ("unicode/utf8.first", laid_unicode_utf8_first)] }
def PlayReadsCallSaid : Prop := playReadsCallRow.holds Tryz.pinned (OpenSpec.ofChange playReadsCallSpec)

/-- ITS FALSE NEIGHBOUR: 'it returns false'. Refute it at one input. -/
def playReadsCallWrong : ChangeSpec := { name := "playReadsCall", fn := fun _ => fun
  | [d] => { results := [.lit (.bool false)], args := [d] }
  | _ => none }
def PlayReadsCallWrongFalsely : Prop := playReadsCallRow.holds Tryz.pinned (OpenSpec.ofChange playReadsCallWrong)

/-- 'annexlaw21.PlayNew': WHATEVER THE INPUT: true; the input reads as it did. -/
def playNewSpec : ChangeSpec := { name := "playNew", fn := fun _ => fun
  | [d] => { results := [.lit (.bool true)], args := [d] }
  | _ => none }
def playNewRow : OpenClaim := { program := "ythnhfddlmkhgkaagreatdoor", sum := "5c211b7daf9e569de6a2044a14ae7850b1852aade65f8e958d67569a673e0de2", func := "annex/annexlaw21.PlayNew", spec := "playNew", inPlace := ["internal/abi.NoEscape", "internal/bytealg.MakeNoZero", "internal/bytealg.IndexByteString", "internal/bytealg.IndexString"], unfollowed := true, recurses := true, named := ["internal/strconv.uint64pow10", "math/bits.deBruijn32tab", "math/bits.deBruijn64tab", "annex/play.steps", "annex/play.calls", "internal/bytealg.MaxLen", "unicode/utf8.first", "unicode/utf8.acceptRanges", "strconv.ErrSyntax", "strconv.ErrRange"], apart := false, laid := [("math/bits.deBruijn32tab", laid_math_bits_deBruijn32tab), ("math/bits.deBruijn64tab", laid_math_bits_deBruijn64tab), ("internal/strconv.uint64pow10", laid_internal_strconv_uint64pow10), ("unicode/utf8.acceptRanges", laid_unicode_utf8_acceptRanges), ("strconv.ErrRange", laid_strconv_ErrRange), ("strconv.ErrSyntax", laid_strconv_ErrSyntax), ("annex/play.steps", laid_annex_play_steps), ("annex/play.calls", laid_annex_play_calls), ("unicode/utf8.first", laid_unicode_utf8_first)] }
def PlayNewSaid : Prop := playNewRow.holds Tryz.pinned (OpenSpec.ofChange playNewSpec)

/-- ITS FALSE NEIGHBOUR: 'it returns false'. Refute it at one input. -/
def playNewWrong : ChangeSpec := { name := "playNew", fn := fun _ => fun
  | [d] => { results := [.lit (.bool false)], args := [d] }
  | _ => none }
def PlayNewWrongFalsely : Prop := playNewRow.holds Tryz.pinned (OpenSpec.ofChange playNewWrong)

/-- 'annexlaw21.PlayCalls': WHATEVER THE INPUT: true; the input reads as it did. -/
def playCallsSpec : ChangeSpec := { name := "playCalls", fn := fun _ => fun
  | [d1, d2, d3, d4, d5, d6, d7, d8] => { results := [.lit (.bool true)], args := [d1, d2, d3, d4, d5, d6, d7, d8] }
  | _ => none }
def playCallsRow : OpenClaim := { program := "ythnhfddlmkhgkaagreatdoor", sum := "5c211b7daf9e569de6a2044a14ae7850b1852aade65f8e958d67569a673e0de2", func := "annex/annexlaw21.PlayCalls", spec := "playCalls", inPlace := ["internal/abi.NoEscape", "internal/bytealg.MakeNoZero", "internal/bytealg.IndexByteString", "internal/bytealg.IndexString"], unfollowed := true, recurses := true, named := ["internal/strconv.uint64pow10", "math/bits.deBruijn32tab", "math/bits.deBruijn64tab", "annex/play.steps", "annex/play.calls", "internal/bytealg.MaxLen", "unicode/utf8.first", "unicode/utf8.acceptRanges", "strconv.ErrSyntax", "strconv.ErrRange"], apart := false, laid := [("math/bits.deBruijn32tab", laid_math_bits_deBruijn32tab), ("math/bits.deBruijn64tab", laid_math_bits_deBruijn64tab), ("internal/strconv.uint64pow10", laid_internal_strconv_uint64pow10), ("unicode/utf8.acceptRanges", laid_unicode_utf8_acceptRanges), ("strconv.ErrRange", laid_strconv_ErrRange), ("strconv.ErrSyntax", laid_strconv_ErrSyntax), ("annex/play.steps", laid_annex_play_steps), ("annex/play.calls", laid_annex_play_calls), ("unicode/utf8.first", laid_unicode_utf8_first)] }
def PlayCallsSaid : Prop := playCallsRow.holds Tryz.pinned (OpenSpec.ofChange playCallsSpec)

/-- ITS FALSE NEIGHBOUR: 'it returns false'. Refute it at one input. -/
def playCallsWrong : ChangeSpec := { name := "playCalls", fn := fun _ => fun
  | [d1, d2, d3, d4, d5, d6, d7, d8] => { results := [.lit (.bool false)], args := [d1, d2, d3, d4, d5, d6, d7, d8] }
  | _ => none }
def PlayCallsWrongFalsely : Prop := playCallsRow.holds Tryz.pinned (OpenSpec.ofChange playCallsWrong)

/-- 'annexlaw21.PlayPlace': WHATEVER THE INPUT: true; the input reads as it did. -/
def playPlaceSpec : ChangeSpec := { name := "playPlace", fn := fun _ => fun
  | [d1, d2, d3] => { results := [.lit (.bool true)], args := [d1, d2, d3] }
  | _ => none }
def playPlaceRow : OpenClaim := { program := "ythnhfddlmkhgkaagreatdoor", sum := "5c211b7daf9e569de6a2044a14ae7850b1852aade65f8e958d67569a673e0de2", func := "annex/annexlaw21.PlayPlace", spec := "playPlace", inPlace := ["internal/abi.NoEscape", "internal/bytealg.MakeNoZero", "internal/bytealg.IndexByteString", "internal/bytealg.IndexString"], unfollowed := true, recurses := true, named := ["internal/strconv.uint64pow10", "math/bits.deBruijn32tab", "math/bits.deBruijn64tab", "annex/play.steps", "annex/play.calls", "internal/bytealg.MaxLen", "unicode/utf8.first", "unicode/utf8.acceptRanges", "strconv.ErrSyntax", "strconv.ErrRange"], apart := false, laid := [("math/bits.deBruijn32tab", laid_math_bits_deBruijn32tab), ("math/bits.deBruijn64tab", laid_math_bits_deBruijn64tab), ("internal/strconv.uint64pow10", laid_internal_strconv_uint64pow10), ("unicode/utf8.acceptRanges", laid_unicode_utf8_acceptRanges), ("strconv.ErrRange", laid_strconv_ErrRange), ("strconv.ErrSyntax", laid_strconv_ErrSyntax), ("annex/play.steps", laid_annex_play_steps), ("annex/play.calls", laid_annex_play_calls), ("unicode/utf8.first", laid_unicode_utf8_first)] }
def PlayPlaceSaid : Prop := playPlaceRow.holds Tryz.pinned (OpenSpec.ofChange playPlaceSpec)

/-- ITS FALSE NEIGHBOUR: 'it returns false'. Refute it at one input. -/
def playPlaceWrong : ChangeSpec := { name := "playPlace", fn := fun _ => fun
  | [d1, d2, d3] => { results := [.lit (.bool false)], args := [d1, d2, d3] }
  | _ => none }
def PlayPlaceWrongFalsely : Prop := playPlaceRow.holds Tryz.pinned (OpenSpec.ofChange playPlaceWrong)

/- THE SECOND FORM. 'bulk': how many values and letters a reading holds, each counted each time it is reached (what is shared counts as often as it is met; a slice's spare places count too). A statement '..UptoSaid' is the law's where the arguments, and the package variables that the reading takes, are together of bulk at most 1048576: NARROWER than '..Said'. Prove '..Said' where nothing that the law and all that it calls make is longer than what came in: it says more and counts as full. Else prove '..UptoSaid'. A law counts once. -/
mutual
def uptoBulk {H : Type} : DataW H → Nat
  | .lit (.string bytes) => bytes.length + 1
  | .lit _ => 1
  | .nil => 1
  | .ptr d => uptoBulk d + 1
  | .slice elems spare => uptoBulkAll elems + uptoBulkAll spare + 1
  | .agg parts => uptoBulkAll parts + 1
  | .iface _ d => uptoBulk d + 1
  | .map entries => uptoBulkEntries entries + 1
  | .held _ => 1
def uptoBulkAll {H : Type} : List (DataW H) → Nat
  | [] => 0
  | d :: r => uptoBulk d + uptoBulkAll r
def uptoBulkEntries {H : Type} : List (Lit × DataW H) → Nat
  | [] => 0
  | x :: r => uptoBulkEntry x + uptoBulkEntries r
def uptoBulkEntry {H : Type} : Lit × DataW H → Nat
  | (.string bytes, d) => bytes.length + uptoBulk d + 1
  | (_, d) => uptoBulk d + 1
 end
def uptoSmall : (H : Type) → List (DataW H) → Bool := fun _ ds => decide (uptoBulkAll ds ≤ 1048576)
def OpenSpec.upto (s : _root_.Go.ChangeSpec) : _root_.Go.OpenSpec := { _root_.Go.OpenSpec.ofChange s with cond := some uptoSmall }

/-- 'annexlaw21.PlayParses', WHERE WHAT IT READS IS OF BULK AT MOST 1048576: true; the input reads as it did. -/
def playParsesUptoRow : OpenClaim := { program := "ythnhfddlmkhgkaagreatdoor", sum := "5c211b7daf9e569de6a2044a14ae7850b1852aade65f8e958d67569a673e0de2", func := "annex/annexlaw21.PlayParses", spec := "playParses", inPlace := ["internal/bytealg.IndexByteString", "internal/bytealg.IndexString", "internal/abi.NoEscape", "internal/bytealg.MakeNoZero"], unfollowed := true, recurses := true, named := ["internal/bytealg.MaxLen", "unicode/utf8.first", "unicode/utf8.acceptRanges", "strconv.ErrSyntax", "strconv.ErrRange", "internal/strconv.uint64pow10", "math/bits.deBruijn32tab", "math/bits.deBruijn64tab", "annex/play.steps", "annex/play.calls", "annex/annexref21.forms", "annex/annexref21.names", "annex/annexref21.callForms", "annex/annexref21.callNames"], apart := false, laid := [("math/bits.deBruijn32tab", laid_math_bits_deBruijn32tab), ("math/bits.deBruijn64tab", laid_math_bits_deBruijn64tab), ("internal/strconv.uint64pow10", laid_internal_strconv_uint64pow10), ("unicode/utf8.acceptRanges", laid_unicode_utf8_acceptRanges), ("strconv.ErrRange", laid_strconv_ErrRange), ("strconv.ErrSyntax", laid_strconv_ErrSyntax), ("annex/annexref21.names", laid_annex_annexref21_names), ("annex/annexref21.forms", laid_annex_annexref21_forms), ("annex/annexref21.callNames", laid_annex_annexref21_callNames), ("annex/annexref21.callForms", laid_annex_annexref21_callForms), ("annex/play.steps", laid_annex_play_steps), ("annex/play.calls", laid_annex_play_calls), ("unicode/utf8.first", laid_unicode_utf8_first)], narrowed := true }
def PlayParsesUptoSaid : Prop := playParsesUptoRow.holds Tryz.pinned (OpenSpec.upto playParsesSpec)

/-- 'annexlaw21.PlayPrints', WHERE WHAT IT READS IS OF BULK AT MOST 1048576: true; the input reads as it did. -/
def playPrintsUptoRow : OpenClaim := { program := "ythnhfddlmkhgkaagreatdoor", sum := "5c211b7daf9e569de6a2044a14ae7850b1852aade65f8e958d67569a673e0de2", func := "annex/annexlaw21.PlayPrints", spec := "playPrints", inPlace := ["internal/abi.NoEscape", "internal/bytealg.MakeNoZero", "internal/bytealg.IndexByteString", "internal/bytealg.IndexString"], unfollowed := true, recurses := true, named := ["internal/strconv.uint64pow10", "math/bits.deBruijn32tab", "math/bits.deBruijn64tab", "annex/play.steps", "annex/play.calls", "annex/annexref21.forms", "annex/annexref21.callForms", "annex/annexref21.names", "annex/annexref21.callNames", "internal/bytealg.MaxLen", "unicode/utf8.first", "unicode/utf8.acceptRanges", "strconv.ErrSyntax", "strconv.ErrRange"], apart := false, laid := [("math/bits.deBruijn32tab", laid_math_bits_deBruijn32tab), ("math/bits.deBruijn64tab", laid_math_bits_deBruijn64tab), ("internal/strconv.uint64pow10", laid_internal_strconv_uint64pow10), ("unicode/utf8.acceptRanges", laid_unicode_utf8_acceptRanges), ("strconv.ErrRange", laid_strconv_ErrRange), ("strconv.ErrSyntax", laid_strconv_ErrSyntax), ("annex/annexref21.names", laid_annex_annexref21_names), ("annex/annexref21.forms", laid_annex_annexref21_forms), ("annex/annexref21.callNames", laid_annex_annexref21_callNames), ("annex/annexref21.callForms", laid_annex_annexref21_callForms), ("annex/play.steps", laid_annex_play_steps), ("annex/play.calls", laid_annex_play_calls), ("unicode/utf8.first", laid_unicode_utf8_first)], narrowed := true }
def PlayPrintsUptoSaid : Prop := playPrintsUptoRow.holds Tryz.pinned (OpenSpec.upto playPrintsSpec)

/-- 'annexlaw21.PlayRound', WHERE WHAT IT READS IS OF BULK AT MOST 1048576: true; the input reads as it did. -/
def playRoundUptoRow : OpenClaim := { program := "ythnhfddlmkhgkaagreatdoor", sum := "5c211b7daf9e569de6a2044a14ae7850b1852aade65f8e958d67569a673e0de2", func := "annex/annexlaw21.PlayRound", spec := "playRound", inPlace := ["internal/abi.NoEscape", "internal/bytealg.MakeNoZero", "internal/bytealg.IndexByteString", "internal/bytealg.IndexString"], unfollowed := true, recurses := true, named := ["internal/strconv.uint64pow10", "math/bits.deBruijn32tab", "math/bits.deBruijn64tab", "annex/play.steps", "annex/play.calls", "internal/bytealg.MaxLen", "unicode/utf8.first", "unicode/utf8.acceptRanges", "strconv.ErrSyntax", "strconv.ErrRange"], apart := false, laid := [("math/bits.deBruijn32tab", laid_math_bits_deBruijn32tab), ("math/bits.deBruijn64tab", laid_math_bits_deBruijn64tab), ("internal/strconv.uint64pow10", laid_internal_strconv_uint64pow10), ("unicode/utf8.acceptRanges", laid_unicode_utf8_acceptRanges), ("strconv.ErrRange", laid_strconv_ErrRange), ("strconv.ErrSyntax", laid_strconv_ErrSyntax), ("annex/play.steps", laid_annex_play_steps), ("annex/play.calls", laid_annex_play_calls), ("unicode/utf8.first", laid_unicode_utf8_first)], narrowed := true }
def PlayRoundUptoSaid : Prop := playRoundUptoRow.holds Tryz.pinned (OpenSpec.upto playRoundSpec)

/-- 'annexlaw21.PlayCanon', WHERE WHAT IT READS IS OF BULK AT MOST 1048576: true; the input reads as it did. -/
def playCanonUptoRow : OpenClaim := { program := "ythnhfddlmkhgkaagreatdoor", sum := "5c211b7daf9e569de6a2044a14ae7850b1852aade65f8e958d67569a673e0de2", func := "annex/annexlaw21.PlayCanon", spec := "playCanon", inPlace := ["internal/abi.NoEscape", "internal/bytealg.MakeNoZero", "internal/bytealg.IndexByteString", "internal/bytealg.IndexString"], unfollowed := true, recurses := true, named := ["internal/strconv.uint64pow10", "math/bits.deBruijn32tab", "math/bits.deBruijn64tab", "annex/play.steps", "annex/play.calls", "internal/bytealg.MaxLen", "unicode/utf8.first", "unicode/utf8.acceptRanges", "strconv.ErrSyntax", "strconv.ErrRange"], apart := false, laid := [("math/bits.deBruijn32tab", laid_math_bits_deBruijn32tab), ("math/bits.deBruijn64tab", laid_math_bits_deBruijn64tab), ("internal/strconv.uint64pow10", laid_internal_strconv_uint64pow10), ("unicode/utf8.acceptRanges", laid_unicode_utf8_acceptRanges), ("strconv.ErrRange", laid_strconv_ErrRange), ("strconv.ErrSyntax", laid_strconv_ErrSyntax), ("annex/play.steps", laid_annex_play_steps), ("annex/play.calls", laid_annex_play_calls), ("unicode/utf8.first", laid_unicode_utf8_first)], narrowed := true }
def PlayCanonUptoSaid : Prop := playCanonUptoRow.holds Tryz.pinned (OpenSpec.upto playCanonSpec)

/-- 'annexlaw21.PlayNoise', WHERE WHAT IT READS IS OF BULK AT MOST 1048576: true; the input reads as it did. -/
def playNoiseUptoRow : OpenClaim := { program := "ythnhfddlmkhgkaagreatdoor", sum := "5c211b7daf9e569de6a2044a14ae7850b1852aade65f8e958d67569a673e0de2", func := "annex/annexlaw21.PlayNoise", spec := "playNoise", inPlace := ["internal/abi.NoEscape", "internal/bytealg.MakeNoZero", "internal/bytealg.IndexByteString", "internal/bytealg.IndexString"], unfollowed := true, recurses := true, named := ["internal/strconv.uint64pow10", "math/bits.deBruijn32tab", "math/bits.deBruijn64tab", "annex/play.steps", "annex/play.calls", "internal/bytealg.MaxLen", "unicode/utf8.first", "unicode/utf8.acceptRanges", "strconv.ErrSyntax", "strconv.ErrRange"], apart := false, laid := [("math/bits.deBruijn32tab", laid_math_bits_deBruijn32tab), ("math/bits.deBruijn64tab", laid_math_bits_deBruijn64tab), ("internal/strconv.uint64pow10", laid_internal_strconv_uint64pow10), ("unicode/utf8.acceptRanges", laid_unicode_utf8_acceptRanges), ("strconv.ErrRange", laid_strconv_ErrRange), ("strconv.ErrSyntax", laid_strconv_ErrSyntax), ("annex/play.steps", laid_annex_play_steps), ("annex/play.calls", laid_annex_play_calls), ("unicode/utf8.first", laid_unicode_utf8_first)], narrowed := true }
def PlayNoiseUptoSaid : Prop := playNoiseUptoRow.holds Tryz.pinned (OpenSpec.upto playNoiseSpec)

/-- 'annexlaw21.PlayFirst', WHERE WHAT IT READS IS OF BULK AT MOST 1048576: true; the input reads as it did. -/
def playFirstUptoRow : OpenClaim := { program := "ythnhfddlmkhgkaagreatdoor", sum := "5c211b7daf9e569de6a2044a14ae7850b1852aade65f8e958d67569a673e0de2", func := "annex/annexlaw21.PlayFirst", spec := "playFirst", inPlace := ["internal/abi.NoEscape", "internal/bytealg.MakeNoZero", "internal/bytealg.IndexByteString", "internal/bytealg.IndexString"], unfollowed := true, recurses := true, named := ["internal/strconv.uint64pow10", "math/bits.deBruijn32tab", "math/bits.deBruijn64tab", "annex/play.steps", "annex/play.calls", "internal/bytealg.MaxLen", "unicode/utf8.first", "unicode/utf8.acceptRanges", "strconv.ErrSyntax", "strconv.ErrRange"], apart := false, laid := [("math/bits.deBruijn32tab", laid_math_bits_deBruijn32tab), ("math/bits.deBruijn64tab", laid_math_bits_deBruijn64tab), ("internal/strconv.uint64pow10", laid_internal_strconv_uint64pow10), ("unicode/utf8.acceptRanges", laid_unicode_utf8_acceptRanges), ("strconv.ErrRange", laid_strconv_ErrRange), ("strconv.ErrSyntax", laid_strconv_ErrSyntax), ("annex/play.steps", laid_annex_play_steps), ("annex/play.calls", laid_annex_play_calls), ("unicode/utf8.first", laid_unicode_utf8_first)], narrowed := true }
def PlayFirstUptoSaid : Prop := playFirstUptoRow.holds Tryz.pinned (OpenSpec.upto playFirstSpec)

/-- 'annexlaw21.PlayWritesCall', WHERE WHAT IT READS IS OF BULK AT MOST 1048576: true; the input reads as it did. -/
def playWritesCallUptoRow : OpenClaim := { program := "ythnhfddlmkhgkaagreatdoor", sum := "5c211b7daf9e569de6a2044a14ae7850b1852aade65f8e958d67569a673e0de2", func := "annex/annexlaw21.PlayWritesCall", spec := "playWritesCall", inPlace := ["internal/abi.NoEscape", "internal/bytealg.MakeNoZero", "internal/bytealg.IndexByteString", "internal/bytealg.IndexString"], unfollowed := true, recurses := true, named := ["annex/play.calls", "internal/strconv.uint64pow10", "math/bits.deBruijn32tab", "math/bits.deBruijn64tab", "annex/annexref21.callForms", "annex/annexref21.callNames", "annex/play.steps", "internal/bytealg.MaxLen", "unicode/utf8.first", "unicode/utf8.acceptRanges", "strconv.ErrSyntax", "strconv.ErrRange"], apart := false, laid := [("math/bits.deBruijn32tab", laid_math_bits_deBruijn32tab), ("math/bits.deBruijn64tab", laid_math_bits_deBruijn64tab), ("internal/strconv.uint64pow10", laid_internal_strconv_uint64pow10), ("unicode/utf8.acceptRanges", laid_unicode_utf8_acceptRanges), ("strconv.ErrRange", laid_strconv_ErrRange), ("strconv.ErrSyntax", laid_strconv_ErrSyntax), ("annex/annexref21.callNames", laid_annex_annexref21_callNames), ("annex/annexref21.callForms", laid_annex_annexref21_callForms), ("annex/play.steps", laid_annex_play_steps), ("annex/play.calls", laid_annex_play_calls), ("unicode/utf8.first", laid_unicode_utf8_first)], narrowed := true }
def PlayWritesCallUptoSaid : Prop := playWritesCallUptoRow.holds Tryz.pinned (OpenSpec.upto playWritesCallSpec)

/-- 'annexlaw21.PlayReadsCall', WHERE WHAT IT READS IS OF BULK AT MOST 1048576: true; the input reads as it did. -/
def playReadsCallUptoRow : OpenClaim := { program := "ythnhfddlmkhgkaagreatdoor", sum := "5c211b7daf9e569de6a2044a14ae7850b1852aade65f8e958d67569a673e0de2", func := "annex/annexlaw21.PlayReadsCall", spec := "playReadsCall", inPlace := ["internal/bytealg.IndexByteString", "internal/bytealg.IndexString", "internal/abi.NoEscape", "internal/bytealg.MakeNoZero"], unfollowed := true, recurses := true, named := ["unicode/utf8.first", "unicode/utf8.acceptRanges", "internal/bytealg.MaxLen", "annex/play.calls", "strconv.ErrSyntax", "strconv.ErrRange", "internal/strconv.uint64pow10", "math/bits.deBruijn32tab", "math/bits.deBruijn64tab", "annex/annexref21.callForms", "annex/annexref21.callNames", "annex/play.steps"], apart := false, laid := [("math/bits.deBruijn32tab", laid_math_bits_deBruijn32tab), ("math/bits.deBruijn64tab", laid_math_bits_deBruijn64tab), ("internal/strconv.uint64pow10", laid_internal_strconv_uint64pow10), ("unicode/utf8.acceptRanges", laid_unicode_utf8_acceptRanges), ("strconv.ErrRange", laid_strconv_ErrRange), ("strconv.ErrSyntax", laid_strconv_ErrSyntax), ("annex/annexref21.callNames", laid_annex_annexref21_callNames), ("annex/annexref21.callForms", laid_annex_annexref21_callForms), ("annex/play.steps", laid_annex_play_steps), ("annex/play.calls", laid_annex_play_calls), ("unicode/utf8.first", laid_unicode_utf8_first)], narrowed := true }
def PlayReadsCallUptoSaid : Prop := playReadsCallUptoRow.holds Tryz.pinned (OpenSpec.upto playReadsCallSpec)

/-- 'annexlaw21.PlayNew', WHERE WHAT IT READS IS OF BULK AT MOST 1048576: true; the input reads as it did. -/
def playNewUptoRow : OpenClaim := { program := "ythnhfddlmkhgkaagreatdoor", sum := "5c211b7daf9e569de6a2044a14ae7850b1852aade65f8e958d67569a673e0de2", func := "annex/annexlaw21.PlayNew", spec := "playNew", inPlace := ["internal/abi.NoEscape", "internal/bytealg.MakeNoZero", "internal/bytealg.IndexByteString", "internal/bytealg.IndexString"], unfollowed := true, recurses := true, named := ["internal/strconv.uint64pow10", "math/bits.deBruijn32tab", "math/bits.deBruijn64tab", "annex/play.steps", "annex/play.calls", "internal/bytealg.MaxLen", "unicode/utf8.first", "unicode/utf8.acceptRanges", "strconv.ErrSyntax", "strconv.ErrRange"], apart := false, laid := [("math/bits.deBruijn32tab", laid_math_bits_deBruijn32tab), ("math/bits.deBruijn64tab", laid_math_bits_deBruijn64tab), ("internal/strconv.uint64pow10", laid_internal_strconv_uint64pow10), ("unicode/utf8.acceptRanges", laid_unicode_utf8_acceptRanges), ("strconv.ErrRange", laid_strconv_ErrRange), ("strconv.ErrSyntax", laid_strconv_ErrSyntax), ("annex/play.steps", laid_annex_play_steps), ("annex/play.calls", laid_annex_play_calls), ("unicode/utf8.first", laid_unicode_utf8_first)], narrowed := true }
def PlayNewUptoSaid : Prop := playNewUptoRow.holds Tryz.pinned (OpenSpec.upto playNewSpec)

/-- 'annexlaw21.PlayCalls', WHERE WHAT IT READS IS OF BULK AT MOST 1048576: true; the input reads as it did. -/
def playCallsUptoRow : OpenClaim := { program := "ythnhfddlmkhgkaagreatdoor", sum := "5c211b7daf9e569de6a2044a14ae7850b1852aade65f8e958d67569a673e0de2", func := "annex/annexlaw21.PlayCalls", spec := "playCalls", inPlace := ["internal/abi.NoEscape", "internal/bytealg.MakeNoZero", "internal/bytealg.IndexByteString", "internal/bytealg.IndexString"], unfollowed := true, recurses := true, named := ["internal/strconv.uint64pow10", "math/bits.deBruijn32tab", "math/bits.deBruijn64tab", "annex/play.steps", "annex/play.calls", "internal/bytealg.MaxLen", "unicode/utf8.first", "unicode/utf8.acceptRanges", "strconv.ErrSyntax", "strconv.ErrRange"], apart := false, laid := [("math/bits.deBruijn32tab", laid_math_bits_deBruijn32tab), ("math/bits.deBruijn64tab", laid_math_bits_deBruijn64tab), ("internal/strconv.uint64pow10", laid_internal_strconv_uint64pow10), ("unicode/utf8.acceptRanges", laid_unicode_utf8_acceptRanges), ("strconv.ErrRange", laid_strconv_ErrRange), ("strconv.ErrSyntax", laid_strconv_ErrSyntax), ("annex/play.steps", laid_annex_play_steps), ("annex/play.calls", laid_annex_play_calls), ("unicode/utf8.first", laid_unicode_utf8_first)], narrowed := true }
def PlayCallsUptoSaid : Prop := playCallsUptoRow.holds Tryz.pinned (OpenSpec.upto playCallsSpec)

/-- 'annexlaw21.PlayPlace', WHERE WHAT IT READS IS OF BULK AT MOST 1048576: true; the input reads as it did. -/
def playPlaceUptoRow : OpenClaim := { program := "ythnhfddlmkhgkaagreatdoor", sum := "5c211b7daf9e569de6a2044a14ae7850b1852aade65f8e958d67569a673e0de2", func := "annex/annexlaw21.PlayPlace", spec := "playPlace", inPlace := ["internal/abi.NoEscape", "internal/bytealg.MakeNoZero", "internal/bytealg.IndexByteString", "internal/bytealg.IndexString"], unfollowed := true, recurses := true, named := ["internal/strconv.uint64pow10", "math/bits.deBruijn32tab", "math/bits.deBruijn64tab", "annex/play.steps", "annex/play.calls", "internal/bytealg.MaxLen", "unicode/utf8.first", "unicode/utf8.acceptRanges", "strconv.ErrSyntax", "strconv.ErrRange"], apart := false, laid := [("math/bits.deBruijn32tab", laid_math_bits_deBruijn32tab), ("math/bits.deBruijn64tab", laid_math_bits_deBruijn64tab), ("internal/strconv.uint64pow10", laid_internal_strconv_uint64pow10), ("unicode/utf8.acceptRanges", laid_unicode_utf8_acceptRanges), ("strconv.ErrRange", laid_strconv_ErrRange), ("strconv.ErrSyntax", laid_strconv_ErrSyntax), ("annex/play.steps", laid_annex_play_steps), ("annex/play.calls", laid_annex_play_calls), ("unicode/utf8.first", laid_unicode_utf8_first)], narrowed := true }
def PlayPlaceUptoSaid : Prop := playPlaceUptoRow.holds Tryz.pinned (OpenSpec.upto playPlaceSpec)

end Rows
end Go.Proofs.YthnhfddlmkhgkaaGreatDoor
