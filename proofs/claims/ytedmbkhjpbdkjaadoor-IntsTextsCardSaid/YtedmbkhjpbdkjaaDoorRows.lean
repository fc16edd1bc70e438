/-
  NARROWER THAN 'FOR EVERY INPUT', by the rows' own cells (each row's printed sentence says how): IntsWidths: laid · IntsTurns: laid · IntsShifts: laid · IntsBits: laid · IntsSums: laid · IntsFields: laid · IntsEnds: laid · IntsPowers: laid · IntsProducts: laid · IntsLaws: laid · IntsTexts: laid.
  DERIVED. THE GIVEN ROWS OF THIS SEAT. 11 by the template 'for every input the law returns true; each argument reads behind the call as it read before'; 0 by the template 'total and deterministic' (their statements: YtedmbkhjpbdkjaaDoorTotals.lean).
  GIVEN WITH THE SEED: the statements are not yours to turn. If you find one false, say at which input.
  Laid BY PROGRAM, IN A SANDBOX (cutbox-rows.mjs): the forced cells as the released guide's own fill.sh prints them over the translation 3f520b5315c1d350… (all of the seat's roots in one cut). By AI agents, Wed Nov 11 2026. No macro, syntax, notation, axiom, sorry.
-/
import Derived.Test.YtedmbkhjpbdkjaaDoorChecked
import GoSem.PinnedTables
import GoSem.Claim
import GoSem.ClaimJoined
import GoSem.ClaimMapViews
import Derived.JoinedTies
import Derived.KernelRfl
namespace Go.Proofs.YtedmbkhjpbdkjaaDoor
/- THE CELL 'sum', in the pinned program and in every row, IS THE sha256 OF THE DUMP (.gsa) THAT YtedmbkhjpbdkjaaDoorProg.lean LOADS. Nothing in Lean hashes anything: it is a label: what it is worth is what the hold of that sum in a sandbox is worth. -/
noncomputable def Tryd.pinned : Pinned := { name := "ytedmbkhjpbdkjaadoor", sum := "3f520b5315c1d3500ca0470b1ce7b42e467c3edfb77a1b1ffe1b2b24b5c945bc", checked := Tryd.checked }
namespace Rows
def none {H : Type} : Left H := { results := [], args := [] }

/- WHAT THE LISTED PACKAGE-LEVEL VARIABLES READ AS WHEN THE CALL BEGINS. Each datum BY PROGRAM (the guide's laid-datum.mjs) off the statement by which the dump's own 'gosem.cut.vars' lays the variable. In a bare row this is a premise. The card (YtedmbkhjpbdkjaaDoorCards.lean) ties it to the program's text. -/
def laid_math_bits_deBruijn32tab {H : Type} : DataW H := .agg [.lit (.int .u8 0), .lit (.int .u8 1), .lit (.int .u8 28), .lit (.int .u8 2), .lit (.int .u8 29), .lit (.int .u8 14), .lit (.int .u8 24), .lit (.int .u8 3), .lit (.int .u8 30), .lit (.int .u8 22), .lit (.int .u8 20), .lit (.int .u8 15), .lit (.int .u8 25), .lit (.int .u8 17), .lit (.int .u8 4), .lit (.int .u8 8), .lit (.int .u8 31), .lit (.int .u8 27), .lit (.int .u8 13), .lit (.int .u8 23), .lit (.int .u8 21), .lit (.int .u8 19), .lit (.int .u8 16), .lit (.int .u8 7), .lit (.int .u8 26), .lit (.int .u8 12), .lit (.int .u8 18), .lit (.int .u8 6), .lit (.int .u8 11), .lit (.int .u8 5), .lit (.int .u8 10), .lit (.int .u8 9)]
def laid_math_bits_deBruijn64tab {H : Type} : DataW H := .agg [.lit (.int .u8 0), .lit (.int .u8 1), .lit (.int .u8 56), .lit (.int .u8 2), .lit (.int .u8 57), .lit (.int .u8 49), .lit (.int .u8 28), .lit (.int .u8 3), .lit (.int .u8 61), .lit (.int .u8 58), .lit (.int .u8 42), .lit (.int .u8 50), .lit (.int .u8 38), .lit (.int .u8 29), .lit (.int .u8 17), .lit (.int .u8 4), .lit (.int .u8 62), .lit (.int .u8 47), .lit (.int .u8 59), .lit (.int .u8 36), .lit (.int .u8 45), .lit (.int .u8 43), .lit (.int .u8 51), .lit (.int .u8 22), .lit (.int .u8 53), .lit (.int .u8 39), .lit (.int .u8 33), .lit (.int .u8 30), .lit (.int .u8 24), .lit (.int .u8 18), .lit (.int .u8 12), .lit (.int .u8 5), .lit (.int .u8 63), .lit (.int .u8 55), .lit (.int .u8 48), .lit (.int .u8 27), .lit (.int .u8 60), .lit (.int .u8 41), .lit (.int .u8 37), .lit (.int .u8 16), .lit (.int .u8 46), .lit (.int .u8 35), .lit (.int .u8 44), .lit (.int .u8 21), .lit (.int .u8 52), .lit (.int .u8 32), .lit (.int .u8 23), .lit (.int .u8 11), .lit (.int .u8 54), .lit (.int .u8 26), .lit (.int .u8 40), .lit (.int .u8 15), .lit (.int .u8 34), .lit (.int .u8 20), .lit (.int .u8 31), .lit (.int .u8 10), .lit (.int .u8 25), .lit (.int .u8 14), .lit (.int .u8 19), .lit (.int .u8 9), .lit (.int .u8 13), .lit (.int .u8 8), .lit (.int .u8 7), .lit (.int .u8 6)]
def laid_internal_strconv_uint64pow10 {H : Type} : DataW H := .agg [.lit (.int .u64 1), .lit (.int .u64 10), .lit (.int .u64 100), .lit (.int .u64 1000), .lit (.int .u64 10000), .lit (.int .u64 100000), .lit (.int .u64 1000000), .lit (.int .u64 10000000), .lit (.int .u64 100000000), .lit (.int .u64 1000000000), .lit (.int .u64 10000000000), .lit (.int .u64 100000000000), .lit (.int .u64 1000000000000), .lit (.int .u64 10000000000000), .lit (.int .u64 100000000000000), .lit (.int .u64 1000000000000000), .lit (.int .u64 10000000000000000), .lit (.int .u64 100000000000000000), .lit (.int .u64 1000000000000000000), .lit (.int .u64 10000000000000000000)]
def laid_unicode_utf8_acceptRanges {H : Type} : DataW H := .agg [.agg [.lit (.int .u8 128), .lit (.int .u8 191)], .agg [.lit (.int .u8 160), .lit (.int .u8 191)], .agg [.lit (.int .u8 128), .lit (.int .u8 159)], .agg [.lit (.int .u8 144), .lit (.int .u8 191)], .agg [.lit (.int .u8 128), .lit (.int .u8 143)], .agg [.lit (.int .u8 0), .lit (.int .u8 0)], .agg [.lit (.int .u8 0), .lit (.int .u8 0)], .agg [.lit (.int .u8 0), .lit (.int .u8 0)], .agg [.lit (.int .u8 0), .lit (.int .u8 0)], .agg [.lit (.int .u8 0), .lit (.int .u8 0)], .agg [.lit (.int .u8 0), .lit (.int .u8 0)], .agg [.lit (.int .u8 0), .lit (.int .u8 0)], .agg [.lit (.int .u8 0), .lit (.int .u8 0)], .agg [.lit (.int .u8 0), .lit (.int .u8 0)], .agg [.lit (.int .u8 0), .lit (.int .u8 0)], .agg [.lit (.int .u8 0), .lit (.int .u8 0)]]
def laid_strconv_ErrRange {H : Type} : DataW H := .iface "*errors.errorString" (.ptr (.agg [.lit (.string [118, 97, 108, 117, 101, 32, 111, 117, 116, 32, 111, 102, 32, 114, 97, 110, 103, 101])]))
def laid_strconv_ErrSyntax {H : Type} : DataW H := .iface "*errors.errorString" (.ptr (.agg [.lit (.string [105, 110, 118, 97, 108, 105, 100, 32, 115, 121, 110, 116, 97, 120])]))
/-- One of Go's own tables, pinned by name: the form's constant. -/
def laid_unicode_utf8_first : DataW Unit := Go.Pinned.utf8First

/-- 'umlautlaw1.IntsWidths': WHATEVER THE INPUT: true; the input reads as it did. -/
def intsWidthsSpec : ChangeSpec := { name := "intsWidths", fn := fun _ => fun
  | [d1, d2, d3] => { results := [.lit (.bool true)], args := [d1, d2, d3] }
  | _ => none }
def intsWidthsRow : OpenClaim := { program := "ytedmbkhjpbdkjaadoor", sum := "3f520b5315c1d3500ca0470b1ce7b42e467c3edfb77a1b1ffe1b2b24b5c945bc", func := "umlaut/umlautlaw1.IntsWidths", spec := "intsWidths", named := ["internal/strconv.uint64pow10", "math/bits.deBruijn32tab", "math/bits.deBruijn64tab"], apart := false, laid := [("math/bits.deBruijn32tab", laid_math_bits_deBruijn32tab), ("math/bits.deBruijn64tab", laid_math_bits_deBruijn64tab), ("internal/strconv.uint64pow10", laid_internal_strconv_uint64pow10)] }
def IntsWidthsSaid : Prop := intsWidthsRow.holds Tryd.pinned (OpenSpec.ofChange intsWidthsSpec)

/-- ITS FALSE NEIGHBOUR: 'it returns false'. Refute it at one input. -/
def intsWidthsWrong : ChangeSpec := { name := "intsWidths", fn := fun _ => fun
  | [d1, d2, d3] => { results := [.lit (.bool false)], args := [d1, d2, d3] }
  | _ => none }
def IntsWidthsWrongFalsely : Prop := intsWidthsRow.holds Tryd.pinned (OpenSpec.ofChange intsWidthsWrong)

/-- 'umlautlaw1.IntsTurns': WHATEVER THE INPUT: true; the input reads as it did. -/
def intsTurnsSpec : ChangeSpec := { name := "intsTurns", fn := fun _ => fun
  | [d1, d2, d3] => { results := [.lit (.bool true)], args := [d1, d2, d3] }
  | _ => none }
def intsTurnsRow : OpenClaim := { program := "ytedmbkhjpbdkjaadoor", sum := "3f520b5315c1d3500ca0470b1ce7b42e467c3edfb77a1b1ffe1b2b24b5c945bc", func := "umlaut/umlautlaw1.IntsTurns", spec := "intsTurns", named := ["internal/strconv.uint64pow10", "math/bits.deBruijn32tab", "math/bits.deBruijn64tab"], apart := false, laid := [("math/bits.deBruijn32tab", laid_math_bits_deBruijn32tab), ("math/bits.deBruijn64tab", laid_math_bits_deBruijn64tab), ("internal/strconv.uint64pow10", laid_internal_strconv_uint64pow10)] }
def IntsTurnsSaid : Prop := intsTurnsRow.holds Tryd.pinned (OpenSpec.ofChange intsTurnsSpec)

/-- ITS FALSE NEIGHBOUR: 'it returns false'. Refute it at one input. -/
def intsTurnsWrong : ChangeSpec := { name := "intsTurns", fn := fun _ => fun
  | [d1, d2, d3] => { results := [.lit (.bool false)], args := [d1, d2, d3] }
  | _ => none }
def IntsTurnsWrongFalsely : Prop := intsTurnsRow.holds Tryd.pinned (OpenSpec.ofChange intsTurnsWrong)

/-- 'umlautlaw1.IntsShifts': WHATEVER THE INPUT: true; the input reads as it did. -/
def intsShiftsSpec : ChangeSpec := { name := "intsShifts", fn := fun _ => fun
  | [d1, d2] => { results := [.lit (.bool true)], args := [d1, d2] }
  | _ => none }
def intsShiftsRow : OpenClaim := { program := "ytedmbkhjpbdkjaadoor", sum := "3f520b5315c1d3500ca0470b1ce7b42e467c3edfb77a1b1ffe1b2b24b5c945bc", func := "umlaut/umlautlaw1.IntsShifts", spec := "intsShifts", named := ["internal/strconv.uint64pow10", "math/bits.deBruijn32tab", "math/bits.deBruijn64tab"], apart := false, laid := [("math/bits.deBruijn32tab", laid_math_bits_deBruijn32tab), ("math/bits.deBruijn64tab", laid_math_bits_deBruijn64tab), ("internal/strconv.uint64pow10", laid_internal_strconv_uint64pow10)] }
def IntsShiftsSaid : Prop := intsShiftsRow.holds Tryd.pinned (OpenSpec.ofChange intsShiftsSpec)

/-- ITS FALSE NEIGHBOUR: 'it returns false'. Refute it at one input. -/
def intsShiftsWrong : ChangeSpec := { name := "intsShifts", fn := fun _ => fun
  | [d1, d2] => { results := [.lit (.bool false)], args := [d1, d2] }
  | _ => none }
def IntsShiftsWrongFalsely : Prop := intsShiftsRow.holds Tryd.pinned (OpenSpec.ofChange intsShiftsWrong)

/-- 'umlautlaw1.IntsBits': WHATEVER THE INPUT: true; the input reads as it did. -/
def intsBitsSpec : ChangeSpec := { name := "intsBits", fn := fun _ => fun
  | [d1, d2] => { results := [.lit (.bool true)], args := [d1, d2] }
  | _ => none }
def intsBitsRow : OpenClaim := { program := "ytedmbkhjpbdkjaadoor", sum := "3f520b5315c1d3500ca0470b1ce7b42e467c3edfb77a1b1ffe1b2b24b5c945bc", func := "umlaut/umlautlaw1.IntsBits", spec := "intsBits", named := ["internal/strconv.uint64pow10", "math/bits.deBruijn32tab", "math/bits.deBruijn64tab"], apart := false, laid := [("math/bits.deBruijn32tab", laid_math_bits_deBruijn32tab), ("math/bits.deBruijn64tab", laid_math_bits_deBruijn64tab), ("internal/strconv.uint64pow10", laid_internal_strconv_uint64pow10)] }
def IntsBitsSaid : Prop := intsBitsRow.holds Tryd.pinned (OpenSpec.ofChange intsBitsSpec)

/-- ITS FALSE NEIGHBOUR: 'it returns false'. Refute it at one input. -/
def intsBitsWrong : ChangeSpec := { name := "intsBits", fn := fun _ => fun
  | [d1, d2] => { results := [.lit (.bool false)], args := [d1, d2] }
  | _ => none }
def IntsBitsWrongFalsely : Prop := intsBitsRow.holds Tryd.pinned (OpenSpec.ofChange intsBitsWrong)

/-- 'umlautlaw1.IntsSums': WHATEVER THE INPUT: true; the input reads as it did. -/
def intsSumsSpec : ChangeSpec := { name := "intsSums", fn := fun _ => fun
  | [d1, d2] => { results := [.lit (.bool true)], args := [d1, d2] }
  | _ => none }
def intsSumsRow : OpenClaim := { program := "ytedmbkhjpbdkjaadoor", sum := "3f520b5315c1d3500ca0470b1ce7b42e467c3edfb77a1b1ffe1b2b24b5c945bc", func := "umlaut/umlautlaw1.IntsSums", spec := "intsSums", named := ["internal/strconv.uint64pow10", "math/bits.deBruijn32tab", "math/bits.deBruijn64tab"], apart := false, laid := [("math/bits.deBruijn32tab", laid_math_bits_deBruijn32tab), ("math/bits.deBruijn64tab", laid_math_bits_deBruijn64tab), ("internal/strconv.uint64pow10", laid_internal_strconv_uint64pow10)] }
def IntsSumsSaid : Prop := intsSumsRow.holds Tryd.pinned (OpenSpec.ofChange intsSumsSpec)

/-- ITS FALSE NEIGHBOUR: 'it returns false'. Refute it at one input. -/
def intsSumsWrong : ChangeSpec := { name := "intsSums", fn := fun _ => fun
  | [d1, d2] => { results := [.lit (.bool false)], args := [d1, d2] }
  | _ => none }
def IntsSumsWrongFalsely : Prop := intsSumsRow.holds Tryd.pinned (OpenSpec.ofChange intsSumsWrong)

/-- 'umlautlaw1.IntsFields': WHATEVER THE INPUT: true; the input reads as it did. -/
def intsFieldsSpec : ChangeSpec := { name := "intsFields", fn := fun _ => fun
  | [d1, d2, d3, d4] => { results := [.lit (.bool true)], args := [d1, d2, d3, d4] }
  | _ => none }
def intsFieldsRow : OpenClaim := { program := "ytedmbkhjpbdkjaadoor", sum := "3f520b5315c1d3500ca0470b1ce7b42e467c3edfb77a1b1ffe1b2b24b5c945bc", func := "umlaut/umlautlaw1.IntsFields", spec := "intsFields", named := ["internal/strconv.uint64pow10", "math/bits.deBruijn32tab", "math/bits.deBruijn64tab"], apart := false, laid := [("math/bits.deBruijn32tab", laid_math_bits_deBruijn32tab), ("math/bits.deBruijn64tab", laid_math_bits_deBruijn64tab), ("internal/strconv.uint64pow10", laid_internal_strconv_uint64pow10)] }
def IntsFieldsSaid : Prop := intsFieldsRow.holds Tryd.pinned (OpenSpec.ofChange intsFieldsSpec)

/-- ITS FALSE NEIGHBOUR: 'it returns false'. Refute it at one input. -/
def intsFieldsWrong : ChangeSpec := { name := "intsFields", fn := fun _ => fun
  | [d1, d2, d3, d4] => { results := [.lit (.bool false)], args := [d1, d2, d3, d4] }
  | _ => none }
def IntsFieldsWrongFalsely : Prop := intsFieldsRow.holds Tryd.pinned (OpenSpec.ofChange intsFieldsWrong)

/-- 'umlautlaw1.IntsEnds': WHATEVER THE INPUT: true; the input reads as it did. -/
def intsEndsSpec : ChangeSpec := { name := "intsEnds", fn := fun _ => fun
  | [d] => { results := [.lit (.bool true)], args := [d] }
  | _ => none }
def intsEndsRow : OpenClaim := { program := "ytedmbkhjpbdkjaadoor", sum := "3f520b5315c1d3500ca0470b1ce7b42e467c3edfb77a1b1ffe1b2b24b5c945bc", func := "umlaut/umlautlaw1.IntsEnds", spec := "intsEnds", named := ["internal/strconv.uint64pow10", "math/bits.deBruijn32tab", "math/bits.deBruijn64tab"], apart := false, laid := [("math/bits.deBruijn32tab", laid_math_bits_deBruijn32tab), ("math/bits.deBruijn64tab", laid_math_bits_deBruijn64tab), ("internal/strconv.uint64pow10", laid_internal_strconv_uint64pow10)] }
def IntsEndsSaid : Prop := intsEndsRow.holds Tryd.pinned (OpenSpec.ofChange intsEndsSpec)

/-- ITS FALSE NEIGHBOUR: 'it returns false'. Refute it at one input. -/
def intsEndsWrong : ChangeSpec := { name := "intsEnds", fn := fun _ => fun
  | [d] => { results := [.lit (.bool false)], args := [d] }
  | _ => none }
def IntsEndsWrongFalsely : Prop := intsEndsRow.holds Tryd.pinned (OpenSpec.ofChange intsEndsWrong)

/-- 'umlautlaw1.IntsPowers': WHATEVER THE INPUT: true; the input reads as it did. -/
def intsPowersSpec : ChangeSpec := { name := "intsPowers", fn := fun _ => fun
  | [d1, d2] => { results := [.lit (.bool true)], args := [d1, d2] }
  | _ => none }
def intsPowersRow : OpenClaim := { program := "ytedmbkhjpbdkjaadoor", sum := "3f520b5315c1d3500ca0470b1ce7b42e467c3edfb77a1b1ffe1b2b24b5c945bc", func := "umlaut/umlautlaw1.IntsPowers", spec := "intsPowers", recurses := true, named := ["internal/strconv.uint64pow10", "math/bits.deBruijn32tab", "math/bits.deBruijn64tab"], apart := false, laid := [("math/bits.deBruijn32tab", laid_math_bits_deBruijn32tab), ("math/bits.deBruijn64tab", laid_math_bits_deBruijn64tab), ("internal/strconv.uint64pow10", laid_internal_strconv_uint64pow10)] }
def IntsPowersSaid : Prop := intsPowersRow.holds Tryd.pinned (OpenSpec.ofChange intsPowersSpec)

/-- ITS FALSE NEIGHBOUR: 'it returns false'. Refute it at one input. -/
def intsPowersWrong : ChangeSpec := { name := "intsPowers", fn := fun _ => fun
  | [d1, d2] => { results := [.lit (.bool false)], args := [d1, d2] }
  | _ => none }
def IntsPowersWrongFalsely : Prop := intsPowersRow.holds Tryd.pinned (OpenSpec.ofChange intsPowersWrong)

/-- 'umlautlaw1.IntsProducts': WHATEVER THE INPUT: true; the input reads as it did. -/
def intsProductsSpec : ChangeSpec := { name := "intsProducts", fn := fun _ => fun
  | [d1, d2] => { results := [.lit (.bool true)], args := [d1, d2] }
  | _ => none }
def intsProductsRow : OpenClaim := { program := "ytedmbkhjpbdkjaadoor", sum := "3f520b5315c1d3500ca0470b1ce7b42e467c3edfb77a1b1ffe1b2b24b5c945bc", func := "umlaut/umlautlaw1.IntsProducts", spec := "intsProducts", named := ["internal/strconv.uint64pow10", "math/bits.deBruijn32tab", "math/bits.deBruijn64tab"], apart := false, laid := [("math/bits.deBruijn32tab", laid_math_bits_deBruijn32tab), ("math/bits.deBruijn64tab", laid_math_bits_deBruijn64tab), ("internal/strconv.uint64pow10", laid_internal_strconv_uint64pow10)] }
def IntsProductsSaid : Prop := intsProductsRow.holds Tryd.pinned (OpenSpec.ofChange intsProductsSpec)

/-- ITS FALSE NEIGHBOUR: 'it returns false'. Refute it at one input. -/
def intsProductsWrong : ChangeSpec := { name := "intsProducts", fn := fun _ => fun
  | [d1, d2] => { results := [.lit (.bool false)], args := [d1, d2] }
  | _ => none }
def IntsProductsWrongFalsely : Prop := intsProductsRow.holds Tryd.pinned (OpenSpec.ofChange intsProductsWrong)

/-- 'umlautlaw1.IntsLaws': WHATEVER THE INPUT: true; the input reads as it did. -/
def intsLawsSpec : ChangeSpec := { name := "intsLaws", fn := fun _ => fun
  | [d1, d2, d3] => { results := [.lit (.bool true)], args := [d1, d2, d3] }
  | _ => none }
def intsLawsRow : OpenClaim := { program := "ytedmbkhjpbdkjaadoor", sum := "3f520b5315c1d3500ca0470b1ce7b42e467c3edfb77a1b1ffe1b2b24b5c945bc", func := "umlaut/umlautlaw1.IntsLaws", spec := "intsLaws", named := ["internal/strconv.uint64pow10", "math/bits.deBruijn32tab", "math/bits.deBruijn64tab"], apart := false, laid := [("math/bits.deBruijn32tab", laid_math_bits_deBruijn32tab), ("math/bits.deBruijn64tab", laid_math_bits_deBruijn64tab), ("internal/strconv.uint64pow10", laid_internal_strconv_uint64pow10)] }
def IntsLawsSaid : Prop := intsLawsRow.holds Tryd.pinned (OpenSpec.ofChange intsLawsSpec)

/-- ITS FALSE NEIGHBOUR: 'it returns false'. Refute it at one input. -/
def intsLawsWrong : ChangeSpec := { name := "intsLaws", fn := fun _ => fun
  | [d1, d2, d3] => { results := [.lit (.bool false)], args := [d1, d2, d3] }
  | _ => none }
def IntsLawsWrongFalsely : Prop := intsLawsRow.holds Tryd.pinned (OpenSpec.ofChange intsLawsWrong)

/-- 'umlautlaw1.IntsTexts': WHATEVER THE INPUT: true; the input reads as it did. -/
def intsTextsSpec : ChangeSpec := { name := "intsTexts", fn := fun _ => fun
  | [d1, d2] => { results := [.lit (.bool true)], args := [d1, d2] }
  | _ => none }
def intsTextsRow : OpenClaim := { program := "ytedmbkhjpbdkjaadoor", sum := "3f520b5315c1d3500ca0470b1ce7b42e467c3edfb77a1b1ffe1b2b24b5c945bc", func := "umlaut/umlautlaw1.IntsTexts", spec := "intsTexts", inPlace := ["internal/bytealg.IndexByteString", "internal/bytealg.IndexString"], recurses := true, named := ["internal/strconv.uint64pow10", "math/bits.deBruijn32tab", "math/bits.deBruijn64tab", "unicode/utf8.first", "unicode/utf8.acceptRanges", "strconv.ErrSyntax", "strconv.ErrRange", "internal/bytealg.MaxLen"], apart := false, laid := [("math/bits.deBruijn32tab", laid_math_bits_deBruijn32tab), ("math/bits.deBruijn64tab", laid_math_bits_deBruijn64tab), ("internal/strconv.uint64pow10", laid_internal_strconv_uint64pow10), ("unicode/utf8.acceptRanges", laid_unicode_utf8_acceptRanges), ("strconv.ErrRange", laid_strconv_ErrRange), ("strconv.ErrSyntax", laid_strconv_ErrSyntax), ("unicode/utf8.first", laid_unicode_utf8_first)] }
def IntsTextsSaid : Prop := intsTextsRow.holds Tryd.pinned (OpenSpec.ofChange intsTextsSpec)

/-- ITS FALSE NEIGHBOUR: 'it returns false'. Refute it at one input. -/
def intsTextsWrong : ChangeSpec := { name := "intsTexts", fn := fun _ => fun
  | [d1, d2] => { results := [.lit (.bool false)], args := [d1, d2] }
  | _ => none }
def IntsTextsWrongFalsely : Prop := intsTextsRow.holds Tryd.pinned (OpenSpec.ofChange intsTextsWrong)

/- THE SECOND FORM. 'bulk': how many values and letters a reading holds, each counted each time it is reached (what is shared counts as often as it is met; a slice's spare places count too). A statement '..UptoSaid' is the law's where the arguments, and the package variables that the reading takes, are together of bulk at most 1048576: NARROWER than '..Said'. Prove '..Said' where nothing that the law and all that it calls make is longer than what came in: it says more and counts as full. Else prove '..UptoSaid'. A law counts once. -/
mutual
def uptoBulk {H : Type} : DataW H → Nat
  | .lit (.string bytes) => bytes.length + 1
  | .lit _ => 1
  | .nil => 1
  | .ptr d => uptoBulk d + 1
  | .slice elems spare => uptoBulkAll elems + uptoBulkAll spare + 1
  | .agg parts => uptoBulkAll parts + 1
  | .iface _ d => uptoBulk d + 1
  | .map entries => uptoBulkEntries entries + 1
  | .held _ => 1
def uptoBulkAll {H : Type} : List (DataW H) → Nat
  | [] => 0
  | d :: r => uptoBulk d + uptoBulkAll r
def uptoBulkEntries {H : Type} : List (Lit × DataW H) → Nat
  | [] => 0
  | x :: r => uptoBulkEntry x + uptoBulkEntries r
def uptoBulkEntry {H : Type} : Lit × DataW H → Nat
  | (.string bytes, d) => bytes.length + uptoBulk d + 1
  | (_, d) => uptoBulk d + 1
 end
def uptoSmall : (H : Type) → List (DataW H) → Bool := fun _ ds => decide (uptoBulkAll ds ≤ 1048576)
def OpenSpec.upto (s : _root_.Go.ChangeSpec) : _root_.Go.OpenSpec := { _root_.Go.OpenSpec.ofChange s with cond := some uptoSmall }

/-- 'umlautlaw1.IntsWidths', WHERE WHAT IT READS IS OF BULK AT MOST 1048576: true; the input reads as it did. -/
def intsWidthsUptoRow : OpenClaim := { program := "ytedmbkhjpbdkjaadoor", sum := "3f520b5315c1d3500ca0470b1ce7b42e467c3edfb77a1b1ffe1b2b24b5c945bc", func := "umlaut/umlautlaw1.IntsWidths", spec := "intsWidths", named := ["internal/strconv.uint64pow10", "math/bits.deBruijn32tab", "math/bits.deBruijn64tab"], apart := false, laid := [("math/bits.deBruijn32tab", laid_math_bits_deBruijn32tab), ("math/bits.deBruijn64tab", laid_math_bits_deBruijn64tab), ("internal/strconv.uint64pow10", laid_internal_strconv_uint64pow10)], narrowed := true }
def IntsWidthsUptoSaid : Prop := intsWidthsUptoRow.holds Tryd.pinned (OpenSpec.upto intsWidthsSpec)

/-- 'umlautlaw1.IntsTurns', WHERE WHAT IT READS IS OF BULK AT MOST 1048576: true; the input reads as it did. -/
def intsTurnsUptoRow : OpenClaim := { program := "ytedmbkhjpbdkjaadoor", sum := "3f520b5315c1d3500ca0470b1ce7b42e467c3edfb77a1b1ffe1b2b24b5c945bc", func := "umlaut/umlautlaw1.IntsTurns", spec := "intsTurns", named := ["internal/strconv.uint64pow10", "math/bits.deBruijn32tab", "math/bits.deBruijn64tab"], apart := false, laid := [("math/bits.deBruijn32tab", laid_math_bits_deBruijn32tab), ("math/bits.deBruijn64tab", laid_math_bits_deBruijn64tab), ("internal/strconv.uint64pow10", laid_internal_strconv_uint64pow10)], narrowed := true }
def IntsTurnsUptoSaid : Prop := intsTurnsUptoRow.holds Tryd.pinned (OpenSpec.upto intsTurnsSpec)

/-- 'umlautlaw1.IntsShifts', WHERE WHAT IT READS IS OF BULK AT MOST 1048576: true; the input reads as it did. -/
def intsShiftsUptoRow : OpenClaim := { program := "ytedmbkhjpbdkjaadoor", sum := "3f520b5315c1d3500ca0470b1ce7b42e467c3edfb77a1b1ffe1b2b24b5c945bc", func := "umlaut/umlautlaw1.IntsShifts", spec := "intsShifts", named := ["internal/strconv.uint64pow10", "math/bits.deBruijn32tab", "math/bits.deBruijn64tab"], apart := false, laid := [("math/bits.deBruijn32tab", laid_math_bits_deBruijn32tab), ("math/bits.deBruijn64tab", laid_math_bits_deBruijn64tab), ("internal/strconv.uint64pow10", laid_internal_strconv_uint64pow10)], narrowed := true }
def IntsShiftsUptoSaid : Prop := intsShiftsUptoRow.holds Tryd.pinned (OpenSpec.upto intsShiftsSpec)

/-- 'umlautlaw1.IntsBits', WHERE WHAT IT READS IS OF BULK AT MOST 1048576: true; the input reads as it did. -/
def intsBitsUptoRow : OpenClaim := { program := "ytedmbkhjpbdkjaadoor", sum := "3f520b5315c1d3500ca0470b1ce7b42e467c3edfb77a1b1ffe1b2b24b5c945bc", func := "umlaut/umlautlaw1.IntsBits", spec := "intsBits", named := ["internal/strconv.uint64pow10", "math/bits.deBruijn32tab", "math/bits.deBruijn64tab"], apart := false, laid := [("math/bits.deBruijn32tab", laid_math_bits_deBruijn32tab), ("math/bits.deBruijn64tab", laid_math_bits_deBruijn64tab), ("internal/strconv.uint64pow10", laid_internal_strconv_uint64pow10)], narrowed := true }
def IntsBitsUptoSaid : Prop := intsBitsUptoRow.holds Tryd.pinned (OpenSpec.upto intsBitsSpec)

/-- 'umlautlaw1.IntsSums', WHERE WHAT IT READS IS OF BULK AT MOST 1048576: true; the input reads as it did. -/
def intsSumsUptoRow : OpenClaim := { program := "ytedmbkhjpbdkjaadoor", sum := "3f520b5315c1d3500ca0470b1ce7b42e467c3edfb77a1b1ffe1b2b24b5c945bc", func := "umlaut/umlautlaw1.IntsSums", spec := "intsSums", named := ["internal/strconv.uint64pow10", "math/bits.deBruijn32tab", "math/bits.deBruijn64tab"], apart := false, laid := [("math/bits.deBruijn32tab", laid_math_bits_deBruijn32tab), ("math/bits.deBruijn64tab", laid_math_bits_deBruijn64tab), ("internal/strconv.uint64pow10", laid_internal_strconv_uint64pow10)], narrowed := true }
def IntsSumsUptoSaid : Prop := intsSumsUptoRow.holds Tryd.pinned (OpenSpec.upto intsSumsSpec)

/-- 'umlautlaw1.IntsFields', WHERE WHAT IT READS IS OF BULK AT MOST 1048576: true; the input reads as it did. -/
def intsFieldsUptoRow : OpenClaim := { program := "ytedmbkhjpbdkjaadoor", sum := "3f520b5315c1d3500ca0470b1ce7b42e467c3edfb77a1b1ffe1b2b24b5c945bc", func := "umlaut/umlautlaw1.IntsFields", spec := "intsFields", named := ["internal/strconv.uint64pow10", "math/bits.deBruijn32tab", "math/bits.deBruijn64tab"], apart := false, laid := [("math/bits.deBruijn32tab", laid_math_bits_deBruijn32tab), ("math/bits.deBruijn64tab", laid_math_bits_deBruijn64tab), ("internal/strconv.uint64pow10", laid_internal_strconv_uint64pow10)], narrowed := true }
def IntsFieldsUptoSaid : Prop := intsFieldsUptoRow.holds Tryd.pinned (OpenSpec.upto intsFieldsSpec)

/-- 'umlautlaw1.IntsEnds', WHERE WHAT IT READS IS OF BULK AT MOST 1048576: true; the input reads as it did. -/
def intsEndsUptoRow : OpenClaim := { program := "ytedmbkhjpbdkjaadoor", sum := "3f520b5315c1d3500ca0470b1ce7b42e467c3edfb77a1b1ffe1b2b24b5c945bc", func := "umlaut/umlautlaw1.IntsEnds", spec := "intsEnds", named := ["internal/strconv.uint64pow10", "math/bits.deBruijn32tab", "math/bits.deBruijn64tab"], apart := false, laid := [("math/bits.deBruijn32tab", laid_math_bits_deBruijn32tab), ("math/bits.deBruijn64tab", laid_math_bits_deBruijn64tab), ("internal/strconv.uint64pow10", laid_internal_strconv_uint64pow10)], narrowed := true }
def IntsEndsUptoSaid : Prop := intsEndsUptoRow.holds Tryd.pinned (OpenSpec.upto intsEndsSpec)

/-- 'umlautlaw1.IntsPowers', WHERE WHAT IT READS IS OF BULK AT MOST 1048576: true; the input reads as it did. -/
def intsPowersUptoRow : OpenClaim := { program := "ytedmbkhjpbdkjaadoor", sum := "3f520b5315c1d3500ca0470b1ce7b42e467c3edfb77a1b1ffe1b2b24b5c945bc", func := "umlaut/umlautlaw1.IntsPowers", spec := "intsPowers", recurses := true, named := ["internal/strconv.uint64pow10", "math/bits.deBruijn32tab", "math/bits.deBruijn64tab"], apart := false, laid := [("math/bits.deBruijn32tab", laid_math_bits_deBruijn32tab), ("math/bits.deBruijn64tab", laid_math_bits_deBruijn64tab), ("internal/strconv.uint64pow10", laid_internal_strconv_uint64pow10)], narrowed := true }
def IntsPowersUptoSaid : Prop := intsPowersUptoRow.holds Tryd.pinned (OpenSpec.upto intsPowersSpec)

/-- 'umlautlaw1.IntsProducts', WHERE WHAT IT READS IS OF BULK AT MOST 1048576: true; the input reads as it did. -/
def intsProductsUptoRow : OpenClaim := { program := "ytedmbkhjpbdkjaadoor", sum := "3f520b5315c1d3500ca0470b1ce7b42e467c3edfb77a1b1ffe1b2b24b5c945bc", func := "umlaut/umlautlaw1.IntsProducts", spec := "intsProducts", named := ["internal/strconv.uint64pow10", "math/bits.deBruijn32tab", "math/bits.deBruijn64tab"], apart := false, laid := [("math/bits.deBruijn32tab", laid_math_bits_deBruijn32tab), ("math/bits.deBruijn64tab", laid_math_bits_deBruijn64tab), ("internal/strconv.uint64pow10", laid_internal_strconv_uint64pow10)], narrowed := true }
def IntsProductsUptoSaid : Prop := intsProductsUptoRow.holds Tryd.pinned (OpenSpec.upto intsProductsSpec)

/-- 'umlautlaw1.IntsLaws', WHERE WHAT IT READS IS OF BULK AT MOST 1048576: true; the input reads as it did. -/
def intsLawsUptoRow : OpenClaim := { program := "ytedmbkhjpbdkjaadoor", sum := "3f520b5315c1d3500ca0470b1ce7b42e467c3edfb77a1b1ffe1b2b24b5c945bc", func := "umlaut/umlautlaw1.IntsLaws", spec := "intsLaws", named := ["internal/strconv.uint64pow10", "math/bits.deBruijn32tab", "math/bits.deBruijn64tab"], apart := false, laid := [("math/bits.deBruijn32tab", laid_math_bits_deBruijn32tab), ("math/bits.deBruijn64tab", laid_math_bits_deBruijn64tab), ("internal/strconv.uint64pow10", laid_internal_strconv_uint64pow10)], narrowed := true }
def IntsLawsUptoSaid : Prop := intsLawsUptoRow.holds Tryd.pinned (OpenSpec.upto intsLawsSpec)

/-- 'umlautlaw1.IntsTexts', WHERE WHAT IT READS IS OF BULK AT MOST 1048576: true; the input reads as it did. -/
def intsTextsUptoRow : OpenClaim := { program := "ytedmbkhjpbdkjaadoor", sum := "3f520b5315c1d3500ca0470b1ce7b42e467c3edfb77a1b1ffe1b2b24b5c945bc", func := "umlaut/umlautlaw1.IntsTexts", spec := "intsTexts", inPlace := ["internal/bytealg.IndexByteString", "internal/bytealg.IndexString"], recurses := true, named := ["internal/strconv.uint64pow10", "math/bits.deBruijn32tab", "math/bits.deBruijn64tab", "unicode/utf8.first", "unicode/utf8.acceptRanges", "strconv.ErrSyntax", "strconv.ErrRange", "internal/bytealg.MaxLen"], apart := false, laid := [("math/bits.deBruijn32tab", laid_math_bits_deBruijn32tab), ("math/bits.deBruijn64tab", laid_math_bits_deBruijn64tab), ("internal/strconv.uint64pow10", laid_internal_strconv_uint64pow10), ("unicode/utf8.acceptRanges", laid_unicode_utf8_acceptRanges), ("strconv.ErrRange", laid_strconv_ErrRange), ("strconv.ErrSyntax", laid_strconv_ErrSyntax), ("unicode/utf8.first", laid_unicode_utf8_first)], narrowed := true }
def IntsTextsUptoSaid : Prop := intsTextsUptoRow.holds Tryd.pinned (OpenSpec.upto intsTextsSpec)

end Rows
end Go.Proofs.YtedmbkhjpbdkjaaDoor
