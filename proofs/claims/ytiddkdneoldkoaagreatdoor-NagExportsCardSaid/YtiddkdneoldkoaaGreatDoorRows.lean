/-
  NARROWER THAN 'FOR EVERY INPUT', by the rows' own cells (each row's printed sentence says how): DiffOne: loops, laid · DiffNone: loops, laid · NagExports: loops, laid · NagWhy: loops, laid · NagSmall: loops, laid · NagApart: loops, laid · AmExports: loops, laid · AmDeep: loops, laid · AmRules: loops, laid · ConfigMarks: loops, laid · AmApart: loops, laid · ConfigApart: loops, laid.
  DERIVED. THE GIVEN ROWS OF THIS SEAT. 12 by the template 'for every input the law returns true; each argument reads behind the call as it read before'; 0 by the template 'total and deterministic' (their statements: YtiddkdneoldkoaaGreatDoorTotals.lean).
  GIVEN WITH THE SEED: the statements are not yours to turn. If you find one false, say at which input.
  Laid BY PROGRAM, IN A SANDBOX (cutbox-rows.mjs): the forced cells as the released guide's own fill.sh prints them over the translation aef8d57ee329a1a9… (all of the seat's roots in one cut). By AI agents, Wed Nov 11 2026. No macro, syntax, notation, axiom, sorry.
-/
import Derived.Test.YtiddkdneoldkoaaGreatDoorChecked
import GoSem.PinnedTables
import GoSem.Claim
import GoSem.ClaimJoined
import GoSem.ClaimMapViews
import Derived.JoinedTies
import Derived.KernelRfl
namespace Go.Proofs.YtiddkdneoldkoaaGreatDoor
/- THE CELL 'sum', in the pinned program and in every row, IS THE sha256 OF THE DUMP (.gsa) THAT YtiddkdneoldkoaaGreatDoorProg.lean LOADS. Nothing in Lean hashes anything: it is a label: what it is worth is what the hold of that sum in a sandbox is worth. -/
noncomputable def Tryz.pinned : Pinned := { name := "ytiddkdneoldkoaagreatdoor", sum := "aef8d57ee329a1a982b4238030215bbd632eb41969246361b79ff274a076413a", checked := Tryz.checked }
namespace Rows
def none {H : Type} : Left H := { results := [], args := [] }

/- WHAT THE LISTED PACKAGE-LEVEL VARIABLES READ AS WHEN THE CALL BEGINS. Each datum BY PROGRAM (the guide's laid-datum.mjs) off the statement by which the dump's own 'gosem.cut.vars' lays the variable. In a bare row this is a premise. The card (YtiddkdneoldkoaaGreatDoorCards.lean) ties it to the program's text. -/
def laid_unicode_utf8_acceptRanges {H : Type} : DataW H := .agg [.agg [.lit (.int .u8 128), .lit (.int .u8 191)], .agg [.lit (.int .u8 160), .lit (.int .u8 191)], .agg [.lit (.int .u8 128), .lit (.int .u8 159)], .agg [.lit (.int .u8 144), .lit (.int .u8 191)], .agg [.lit (.int .u8 128), .lit (.int .u8 143)], .agg [.lit (.int .u8 0), .lit (.int .u8 0)], .agg [.lit (.int .u8 0), .lit (.int .u8 0)], .agg [.lit (.int .u8 0), .lit (.int .u8 0)], .agg [.lit (.int .u8 0), .lit (.int .u8 0)], .agg [.lit (.int .u8 0), .lit (.int .u8 0)], .agg [.lit (.int .u8 0), .lit (.int .u8 0)], .agg [.lit (.int .u8 0), .lit (.int .u8 0)], .agg [.lit (.int .u8 0), .lit (.int .u8 0)], .agg [.lit (.int .u8 0), .lit (.int .u8 0)], .agg [.lit (.int .u8 0), .lit (.int .u8 0)], .agg [.lit (.int .u8 0), .lit (.int .u8 0)]]
/-- One of Go's own tables, pinned by name: the form's constant. -/
def laid_unicode_utf8_first : DataW Unit := Go.Pinned.utf8First
def laid_math_bits_deBruijn32tab {H : Type} : DataW H := .agg [.lit (.int .u8 0), .lit (.int .u8 1), .lit (.int .u8 28), .lit (.int .u8 2), .lit (.int .u8 29), .lit (.int .u8 14), .lit (.int .u8 24), .lit (.int .u8 3), .lit (.int .u8 30), .lit (.int .u8 22), .lit (.int .u8 20), .lit (.int .u8 15), .lit (.int .u8 25), .lit (.int .u8 17), .lit (.int .u8 4), .lit (.int .u8 8), .lit (.int .u8 31), .lit (.int .u8 27), .lit (.int .u8 13), .lit (.int .u8 23), .lit (.int .u8 21), .lit (.int .u8 19), .lit (.int .u8 16), .lit (.int .u8 7), .lit (.int .u8 26), .lit (.int .u8 12), .lit (.int .u8 18), .lit (.int .u8 6), .lit (.int .u8 11), .lit (.int .u8 5), .lit (.int .u8 10), .lit (.int .u8 9)]
def laid_math_bits_deBruijn64tab {H : Type} : DataW H := .agg [.lit (.int .u8 0), .lit (.int .u8 1), .lit (.int .u8 56), .lit (.int .u8 2), .lit (.int .u8 57), .lit (.int .u8 49), .lit (.int .u8 28), .lit (.int .u8 3), .lit (.int .u8 61), .lit (.int .u8 58), .lit (.int .u8 42), .lit (.int .u8 50), .lit (.int .u8 38), .lit (.int .u8 29), .lit (.int .u8 17), .lit (.int .u8 4), .lit (.int .u8 62), .lit (.int .u8 47), .lit (.int .u8 59), .lit (.int .u8 36), .lit (.int .u8 45), .lit (.int .u8 43), .lit (.int .u8 51), .lit (.int .u8 22), .lit (.int .u8 53), .lit (.int .u8 39), .lit (.int .u8 33), .lit (.int .u8 30), .lit (.int .u8 24), .lit (.int .u8 18), .lit (.int .u8 12), .lit (.int .u8 5), .lit (.int .u8 63), .lit (.int .u8 55), .lit (.int .u8 48), .lit (.int .u8 27), .lit (.int .u8 60), .lit (.int .u8 41), .lit (.int .u8 37), .lit (.int .u8 16), .lit (.int .u8 46), .lit (.int .u8 35), .lit (.int .u8 44), .lit (.int .u8 21), .lit (.int .u8 52), .lit (.int .u8 32), .lit (.int .u8 23), .lit (.int .u8 11), .lit (.int .u8 54), .lit (.int .u8 26), .lit (.int .u8 40), .lit (.int .u8 15), .lit (.int .u8 34), .lit (.int .u8 20), .lit (.int .u8 31), .lit (.int .u8 10), .lit (.int .u8 25), .lit (.int .u8 14), .lit (.int .u8 19), .lit (.int .u8 9), .lit (.int .u8 13), .lit (.int .u8 8), .lit (.int .u8 7), .lit (.int .u8 6)]
def laid_internal_strconv_uint64pow10 {H : Type} : DataW H := .agg [.lit (.int .u64 1), .lit (.int .u64 10), .lit (.int .u64 100), .lit (.int .u64 1000), .lit (.int .u64 10000), .lit (.int .u64 100000), .lit (.int .u64 1000000), .lit (.int .u64 10000000), .lit (.int .u64 100000000), .lit (.int .u64 1000000000), .lit (.int .u64 10000000000), .lit (.int .u64 100000000000), .lit (.int .u64 1000000000000), .lit (.int .u64 10000000000000), .lit (.int .u64 100000000000000), .lit (.int .u64 1000000000000000), .lit (.int .u64 10000000000000000), .lit (.int .u64 100000000000000000), .lit (.int .u64 1000000000000000000), .lit (.int .u64 10000000000000000000)]
def laid_transhipment_hours_names {H : Type} : DataW H := .agg [.lit (.string [109, 111, 110]), .lit (.string [116, 117, 101]), .lit (.string [119, 101, 100]), .lit (.string [116, 104, 117]), .lit (.string [102, 114, 105]), .lit (.string [115, 97, 116]), .lit (.string [115, 117, 110])]
def laid_transhipment_seal_keys {H : Type} : DataW H := .agg [.lit (.int .u32 1116352408), .lit (.int .u32 1899447441), .lit (.int .u32 3049323471), .lit (.int .u32 3921009573), .lit (.int .u32 961987163), .lit (.int .u32 1508970993), .lit (.int .u32 2453635748), .lit (.int .u32 2870763221), .lit (.int .u32 3624381080), .lit (.int .u32 310598401), .lit (.int .u32 607225278), .lit (.int .u32 1426881987), .lit (.int .u32 1925078388), .lit (.int .u32 2162078206), .lit (.int .u32 2614888103), .lit (.int .u32 3248222580), .lit (.int .u32 3835390401), .lit (.int .u32 4022224774), .lit (.int .u32 264347078), .lit (.int .u32 604807628), .lit (.int .u32 770255983), .lit (.int .u32 1249150122), .lit (.int .u32 1555081692), .lit (.int .u32 1996064986), .lit (.int .u32 2554220882), .lit (.int .u32 2821834349), .lit (.int .u32 2952996808), .lit (.int .u32 3210313671), .lit (.int .u32 3336571891), .lit (.int .u32 3584528711), .lit (.int .u32 113926993), .lit (.int .u32 338241895), .lit (.int .u32 666307205), .lit (.int .u32 773529912), .lit (.int .u32 1294757372), .lit (.int .u32 1396182291), .lit (.int .u32 1695183700), .lit (.int .u32 1986661051), .lit (.int .u32 2177026350), .lit (.int .u32 2456956037), .lit (.int .u32 2730485921), .lit (.int .u32 2820302411), .lit (.int .u32 3259730800), .lit (.int .u32 3345764771), .lit (.int .u32 3516065817), .lit (.int .u32 3600352804), .lit (.int .u32 4094571909), .lit (.int .u32 275423344), .lit (.int .u32 430227734), .lit (.int .u32 506948616), .lit (.int .u32 659060556), .lit (.int .u32 883997877), .lit (.int .u32 958139571), .lit (.int .u32 1322822218), .lit (.int .u32 1537002063), .lit (.int .u32 1747873779), .lit (.int .u32 1955562222), .lit (.int .u32 2024104815), .lit (.int .u32 2227730452), .lit (.int .u32 2361852424), .lit (.int .u32 2428436474), .lit (.int .u32 2756734187), .lit (.int .u32 3204031479), .lit (.int .u32 3329325298)]

/-- 'transhipmentlaw18.DiffOne': WHATEVER THE INPUT: true; the input reads as it did. -/
def diffOneSpec : ChangeSpec := { name := "diffOne", fn := fun _ => fun
  | [d1, d2] => { results := [.lit (.bool true)], args := [d1, d2] }
  | _ => none }
def diffOneRow : OpenClaim := { program := "ytiddkdneoldkoaagreatdoor", sum := "aef8d57ee329a1a982b4238030215bbd632eb41969246361b79ff274a076413a", func := "transhipment/transhipmentlaw18.DiffOne", spec := "diffOne", inPlace := ["internal/bytealg.IndexByteString", "internal/bytealg.IndexString", "internal/abi.NoEscape", "internal/bytealg.MakeNoZero", "internal/bytealg.abigen_runtime_cmpstring"], unfollowed := true, recurses := true, named := ["unicode/utf8.first", "unicode/utf8.acceptRanges", "internal/bytealg.MaxLen"], loops := true, apart := false, laid := [("unicode/utf8.acceptRanges", laid_unicode_utf8_acceptRanges), ("unicode/utf8.first", laid_unicode_utf8_first)] }
def DiffOneSaid : Prop := diffOneRow.holds Tryz.pinned (OpenSpec.ofChange diffOneSpec)

/-- ITS FALSE NEIGHBOUR: 'it returns false'. Refute it at one input. -/
def diffOneWrong : ChangeSpec := { name := "diffOne", fn := fun _ => fun
  | [d1, d2] => { results := [.lit (.bool false)], args := [d1, d2] }
  | _ => none }
def DiffOneWrongFalsely : Prop := diffOneRow.holds Tryz.pinned (OpenSpec.ofChange diffOneWrong)

/-- 'transhipmentlaw18.DiffNone': WHATEVER THE INPUT: true; the input reads as it did. -/
def diffNoneSpec : ChangeSpec := { name := "diffNone", fn := fun _ => fun
  | [d1, d2] => { results := [.lit (.bool true)], args := [d1, d2] }
  | _ => none }
def diffNoneRow : OpenClaim := { program := "ytiddkdneoldkoaagreatdoor", sum := "aef8d57ee329a1a982b4238030215bbd632eb41969246361b79ff274a076413a", func := "transhipment/transhipmentlaw18.DiffNone", spec := "diffNone", inPlace := ["internal/bytealg.IndexByteString", "internal/bytealg.IndexString", "internal/abi.NoEscape", "internal/bytealg.MakeNoZero", "internal/bytealg.abigen_runtime_cmpstring"], unfollowed := true, recurses := true, named := ["unicode/utf8.first", "unicode/utf8.acceptRanges", "internal/bytealg.MaxLen"], loops := true, apart := false, laid := [("unicode/utf8.acceptRanges", laid_unicode_utf8_acceptRanges), ("unicode/utf8.first", laid_unicode_utf8_first)] }
def DiffNoneSaid : Prop := diffNoneRow.holds Tryz.pinned (OpenSpec.ofChange diffNoneSpec)

/-- ITS FALSE NEIGHBOUR: 'it returns false'. Refute it at one input. -/
def diffNoneWrong : ChangeSpec := { name := "diffNone", fn := fun _ => fun
  | [d1, d2] => { results := [.lit (.bool false)], args := [d1, d2] }
  | _ => none }
def DiffNoneWrongFalsely : Prop := diffNoneRow.holds Tryz.pinned (OpenSpec.ofChange diffNoneWrong)

/-- 'transhipmentlaw13.NagExports': WHATEVER THE INPUT: true; the input reads as it did. -/
def nagExportsSpec : ChangeSpec := { name := "nagExports", fn := fun _ => fun
  | [d] => { results := [.lit (.bool true)], args := [d] }
  | _ => none }
def nagExportsRow : OpenClaim := { program := "ytiddkdneoldkoaagreatdoor", sum := "aef8d57ee329a1a982b4238030215bbd632eb41969246361b79ff274a076413a", func := "transhipment/transhipmentlaw13.NagExports", spec := "nagExports", inPlace := ["internal/bytealg.IndexByteString", "internal/bytealg.IndexString", "internal/abi.NoEscape", "internal/bytealg.MakeNoZero", "internal/bytealg.abigen_runtime_cmpstring", "internal/bytealg.CountString"], unfollowed := true, recurses := true, named := ["unicode/utf8.first", "unicode/utf8.acceptRanges", "internal/bytealg.MaxLen", "transhipment/hours.names", "internal/strconv.uint64pow10", "math/bits.deBruijn32tab", "math/bits.deBruijn64tab"], loops := true, apart := false, laid := [("math/bits.deBruijn32tab", laid_math_bits_deBruijn32tab), ("math/bits.deBruijn64tab", laid_math_bits_deBruijn64tab), ("internal/strconv.uint64pow10", laid_internal_strconv_uint64pow10), ("unicode/utf8.acceptRanges", laid_unicode_utf8_acceptRanges), ("transhipment/hours.names", laid_transhipment_hours_names), ("unicode/utf8.first", laid_unicode_utf8_first)] }
def NagExportsSaid : Prop := nagExportsRow.holds Tryz.pinned (OpenSpec.ofChange nagExportsSpec)

/-- ITS FALSE NEIGHBOUR: 'it returns false'. Refute it at one input. -/
def nagExportsWrong : ChangeSpec := { name := "nagExports", fn := fun _ => fun
  | [d] => { results := [.lit (.bool false)], args := [d] }
  | _ => none }
def NagExportsWrongFalsely : Prop := nagExportsRow.holds Tryz.pinned (OpenSpec.ofChange nagExportsWrong)

/-- 'transhipmentlaw13.NagWhy': WHATEVER THE INPUT: true; the input reads as it did. -/
def nagWhySpec : ChangeSpec := { name := "nagWhy", fn := fun _ => fun
  | [d] => { results := [.lit (.bool true)], args := [d] }
  | _ => none }
def nagWhyRow : OpenClaim := { program := "ytiddkdneoldkoaagreatdoor", sum := "aef8d57ee329a1a982b4238030215bbd632eb41969246361b79ff274a076413a", func := "transhipment/transhipmentlaw13.NagWhy", spec := "nagWhy", inPlace := ["internal/bytealg.IndexByteString", "internal/bytealg.IndexString", "internal/abi.NoEscape", "internal/bytealg.MakeNoZero", "internal/bytealg.abigen_runtime_cmpstring", "internal/bytealg.CountString"], unfollowed := true, recurses := true, named := ["unicode/utf8.first", "unicode/utf8.acceptRanges", "internal/bytealg.MaxLen", "transhipment/hours.names", "internal/strconv.uint64pow10", "math/bits.deBruijn32tab", "math/bits.deBruijn64tab"], loops := true, apart := false, laid := [("math/bits.deBruijn32tab", laid_math_bits_deBruijn32tab), ("math/bits.deBruijn64tab", laid_math_bits_deBruijn64tab), ("internal/strconv.uint64pow10", laid_internal_strconv_uint64pow10), ("unicode/utf8.acceptRanges", laid_unicode_utf8_acceptRanges), ("transhipment/hours.names", laid_transhipment_hours_names), ("unicode/utf8.first", laid_unicode_utf8_first)] }
def NagWhySaid : Prop := nagWhyRow.holds Tryz.pinned (OpenSpec.ofChange nagWhySpec)

/-- ITS FALSE NEIGHBOUR: 'it returns false'. Refute it at one input. -/
def nagWhyWrong : ChangeSpec := { name := "nagWhy", fn := fun _ => fun
  | [d] => { results := [.lit (.bool false)], args := [d] }
  | _ => none }
def NagWhyWrongFalsely : Prop := nagWhyRow.holds Tryz.pinned (OpenSpec.ofChange nagWhyWrong)

/-- 'transhipmentlaw13.NagSmall': WHATEVER THE INPUT: true; the input reads as it did. -/
def nagSmallSpec : ChangeSpec := { name := "nagSmall", fn := fun _ => fun
  | [d] => { results := [.lit (.bool true)], args := [d] }
  | _ => none }
def nagSmallRow : OpenClaim := { program := "ytiddkdneoldkoaagreatdoor", sum := "aef8d57ee329a1a982b4238030215bbd632eb41969246361b79ff274a076413a", func := "transhipment/transhipmentlaw13.NagSmall", spec := "nagSmall", inPlace := ["internal/bytealg.IndexByteString", "internal/bytealg.IndexString", "internal/abi.NoEscape", "internal/bytealg.MakeNoZero", "internal/bytealg.abigen_runtime_cmpstring", "internal/bytealg.CountString"], unfollowed := true, recurses := true, named := ["unicode/utf8.first", "unicode/utf8.acceptRanges", "internal/bytealg.MaxLen", "transhipment/hours.names", "internal/strconv.uint64pow10", "math/bits.deBruijn32tab", "math/bits.deBruijn64tab"], loops := true, apart := false, laid := [("math/bits.deBruijn32tab", laid_math_bits_deBruijn32tab), ("math/bits.deBruijn64tab", laid_math_bits_deBruijn64tab), ("internal/strconv.uint64pow10", laid_internal_strconv_uint64pow10), ("unicode/utf8.acceptRanges", laid_unicode_utf8_acceptRanges), ("transhipment/hours.names", laid_transhipment_hours_names), ("unicode/utf8.first", laid_unicode_utf8_first)] }
def NagSmallSaid : Prop := nagSmallRow.holds Tryz.pinned (OpenSpec.ofChange nagSmallSpec)

/-- ITS FALSE NEIGHBOUR: 'it returns false'. Refute it at one input. -/
def nagSmallWrong : ChangeSpec := { name := "nagSmall", fn := fun _ => fun
  | [d] => { results := [.lit (.bool false)], args := [d] }
  | _ => none }
def NagSmallWrongFalsely : Prop := nagSmallRow.holds Tryz.pinned (OpenSpec.ofChange nagSmallWrong)

/-- 'transhipmentlaw13.NagApart': WHATEVER THE INPUT: true; the input reads as it did. -/
def nagApartSpec : ChangeSpec := { name := "nagApart", fn := fun _ => fun
  | [d1, d2] => { results := [.lit (.bool true)], args := [d1, d2] }
  | _ => none }
def nagApartRow : OpenClaim := { program := "ytiddkdneoldkoaagreatdoor", sum := "aef8d57ee329a1a982b4238030215bbd632eb41969246361b79ff274a076413a", func := "transhipment/transhipmentlaw13.NagApart", spec := "nagApart", inPlace := ["internal/bytealg.IndexByteString", "internal/bytealg.IndexString", "internal/abi.NoEscape", "internal/bytealg.MakeNoZero", "internal/bytealg.abigen_runtime_cmpstring", "internal/bytealg.CountString"], unfollowed := true, recurses := true, named := ["unicode/utf8.first", "unicode/utf8.acceptRanges", "internal/bytealg.MaxLen", "transhipment/hours.names", "internal/strconv.uint64pow10", "math/bits.deBruijn32tab", "math/bits.deBruijn64tab"], loops := true, apart := false, laid := [("math/bits.deBruijn32tab", laid_math_bits_deBruijn32tab), ("math/bits.deBruijn64tab", laid_math_bits_deBruijn64tab), ("internal/strconv.uint64pow10", laid_internal_strconv_uint64pow10), ("unicode/utf8.acceptRanges", laid_unicode_utf8_acceptRanges), ("transhipment/hours.names", laid_transhipment_hours_names), ("unicode/utf8.first", laid_unicode_utf8_first)] }
def NagApartSaid : Prop := nagApartRow.holds Tryz.pinned (OpenSpec.ofChange nagApartSpec)

/-- ITS FALSE NEIGHBOUR: 'it returns false'. Refute it at one input. -/
def nagApartWrong : ChangeSpec := { name := "nagApart", fn := fun _ => fun
  | [d1, d2] => { results := [.lit (.bool false)], args := [d1, d2] }
  | _ => none }
def NagApartWrongFalsely : Prop := nagApartRow.holds Tryz.pinned (OpenSpec.ofChange nagApartWrong)

/-- 'transhipmentlaw12.AmExports': WHATEVER THE INPUT: true; the input reads as it did. -/
def amExportsSpec : ChangeSpec := { name := "amExports", fn := fun _ => fun
  | [d] => { results := [.lit (.bool true)], args := [d] }
  | _ => none }
def amExportsRow : OpenClaim := { program := "ytiddkdneoldkoaagreatdoor", sum := "aef8d57ee329a1a982b4238030215bbd632eb41969246361b79ff274a076413a", func := "transhipment/transhipmentlaw12.AmExports", spec := "amExports", inPlace := ["internal/bytealg.IndexByteString", "internal/abi.NoEscape", "internal/bytealg.MakeNoZero", "internal/bytealg.IndexString", "internal/bytealg.abigen_runtime_cmpstring", "internal/bytealg.CountString"], unfollowed := true, recurses := true, named := ["unicode/utf8.first", "unicode/utf8.acceptRanges", "internal/strconv.uint64pow10", "math/bits.deBruijn32tab", "math/bits.deBruijn64tab", "transhipment/hours.names", "internal/bytealg.MaxLen"], loops := true, apart := false, laid := [("math/bits.deBruijn32tab", laid_math_bits_deBruijn32tab), ("math/bits.deBruijn64tab", laid_math_bits_deBruijn64tab), ("internal/strconv.uint64pow10", laid_internal_strconv_uint64pow10), ("unicode/utf8.acceptRanges", laid_unicode_utf8_acceptRanges), ("transhipment/hours.names", laid_transhipment_hours_names), ("unicode/utf8.first", laid_unicode_utf8_first)] }
def AmExportsSaid : Prop := amExportsRow.holds Tryz.pinned (OpenSpec.ofChange amExportsSpec)

/-- ITS FALSE NEIGHBOUR: 'it returns false'. Refute it at one input. -/
def amExportsWrong : ChangeSpec := { name := "amExports", fn := fun _ => fun
  | [d] => { results := [.lit (.bool false)], args := [d] }
  | _ => none }
def AmExportsWrongFalsely : Prop := amExportsRow.holds Tryz.pinned (OpenSpec.ofChange amExportsWrong)

/-- 'transhipmentlaw12.AmDeep': WHATEVER THE INPUT: true; the input reads as it did. -/
def amDeepSpec : ChangeSpec := { name := "amDeep", fn := fun _ => fun
  | [d1, d2] => { results := [.lit (.bool true)], args := [d1, d2] }
  | _ => none }
def amDeepRow : OpenClaim := { program := "ytiddkdneoldkoaagreatdoor", sum := "aef8d57ee329a1a982b4238030215bbd632eb41969246361b79ff274a076413a", func := "transhipment/transhipmentlaw12.AmDeep", spec := "amDeep", inPlace := ["internal/bytealg.IndexByteString", "internal/abi.NoEscape", "internal/bytealg.MakeNoZero", "internal/bytealg.IndexString", "internal/bytealg.abigen_runtime_cmpstring", "internal/bytealg.CountString"], unfollowed := true, recurses := true, named := ["unicode/utf8.first", "unicode/utf8.acceptRanges", "internal/strconv.uint64pow10", "math/bits.deBruijn32tab", "math/bits.deBruijn64tab", "transhipment/hours.names", "internal/bytealg.MaxLen"], loops := true, apart := false, laid := [("math/bits.deBruijn32tab", laid_math_bits_deBruijn32tab), ("math/bits.deBruijn64tab", laid_math_bits_deBruijn64tab), ("internal/strconv.uint64pow10", laid_internal_strconv_uint64pow10), ("unicode/utf8.acceptRanges", laid_unicode_utf8_acceptRanges), ("transhipment/hours.names", laid_transhipment_hours_names), ("unicode/utf8.first", laid_unicode_utf8_first)] }
def AmDeepSaid : Prop := amDeepRow.holds Tryz.pinned (OpenSpec.ofChange amDeepSpec)

/-- ITS FALSE NEIGHBOUR: 'it returns false'. Refute it at one input. -/
def amDeepWrong : ChangeSpec := { name := "amDeep", fn := fun _ => fun
  | [d1, d2] => { results := [.lit (.bool false)], args := [d1, d2] }
  | _ => none }
def AmDeepWrongFalsely : Prop := amDeepRow.holds Tryz.pinned (OpenSpec.ofChange amDeepWrong)

/-- 'transhipmentlaw12.AmRules': WHATEVER THE INPUT: true; the input reads as it did. -/
def amRulesSpec : ChangeSpec := { name := "amRules", fn := fun _ => fun
  | [d1, d2] => { results := [.lit (.bool true)], args := [d1, d2] }
  | _ => none }
def amRulesRow : OpenClaim := { program := "ytiddkdneoldkoaagreatdoor", sum := "aef8d57ee329a1a982b4238030215bbd632eb41969246361b79ff274a076413a", func := "transhipment/transhipmentlaw12.AmRules", spec := "amRules", inPlace := ["internal/bytealg.IndexByteString", "internal/abi.NoEscape", "internal/bytealg.MakeNoZero", "internal/bytealg.IndexString", "internal/bytealg.abigen_runtime_cmpstring", "internal/bytealg.CountString"], unfollowed := true, recurses := true, named := ["unicode/utf8.first", "unicode/utf8.acceptRanges", "internal/strconv.uint64pow10", "math/bits.deBruijn32tab", "math/bits.deBruijn64tab", "transhipment/hours.names", "internal/bytealg.MaxLen"], loops := true, apart := false, laid := [("math/bits.deBruijn32tab", laid_math_bits_deBruijn32tab), ("math/bits.deBruijn64tab", laid_math_bits_deBruijn64tab), ("internal/strconv.uint64pow10", laid_internal_strconv_uint64pow10), ("unicode/utf8.acceptRanges", laid_unicode_utf8_acceptRanges), ("transhipment/hours.names", laid_transhipment_hours_names), ("unicode/utf8.first", laid_unicode_utf8_first)] }
def AmRulesSaid : Prop := amRulesRow.holds Tryz.pinned (OpenSpec.ofChange amRulesSpec)

/-- ITS FALSE NEIGHBOUR: 'it returns false'. Refute it at one input. -/
def amRulesWrong : ChangeSpec := { name := "amRules", fn := fun _ => fun
  | [d1, d2] => { results := [.lit (.bool false)], args := [d1, d2] }
  | _ => none }
def AmRulesWrongFalsely : Prop := amRulesRow.holds Tryz.pinned (OpenSpec.ofChange amRulesWrong)

/-- 'transhipmentlaw10.ConfigMarks': WHATEVER THE INPUT: true; the input reads as it did. -/
def configMarksSpec : ChangeSpec := { name := "configMarks", fn := fun _ => fun
  | [d] => { results := [.lit (.bool true)], args := [d] }
  | _ => none }
def configMarksRow : OpenClaim := { program := "ytiddkdneoldkoaagreatdoor", sum := "aef8d57ee329a1a982b4238030215bbd632eb41969246361b79ff274a076413a", func := "transhipment/transhipmentlaw10.ConfigMarks", spec := "configMarks", inPlace := ["internal/bytealg.IndexByteString", "internal/bytealg.IndexString", "internal/abi.NoEscape", "internal/bytealg.MakeNoZero", "internal/bytealg.abigen_runtime_cmpstring", "internal/bytealg.CountString"], unfollowed := true, recurses := true, named := ["unicode/utf8.first", "unicode/utf8.acceptRanges", "internal/bytealg.MaxLen", "internal/strconv.uint64pow10", "math/bits.deBruijn32tab", "math/bits.deBruijn64tab", "transhipment/hours.names", "transhipment/seal.keys"], loops := true, apart := false, laid := [("math/bits.deBruijn32tab", laid_math_bits_deBruijn32tab), ("math/bits.deBruijn64tab", laid_math_bits_deBruijn64tab), ("internal/strconv.uint64pow10", laid_internal_strconv_uint64pow10), ("unicode/utf8.acceptRanges", laid_unicode_utf8_acceptRanges), ("transhipment/hours.names", laid_transhipment_hours_names), ("transhipment/seal.keys", laid_transhipment_seal_keys), ("unicode/utf8.first", laid_unicode_utf8_first)] }
def ConfigMarksSaid : Prop := configMarksRow.holds Tryz.pinned (OpenSpec.ofChange configMarksSpec)

/-- ITS FALSE NEIGHBOUR: 'it returns false'. Refute it at one input. -/
def configMarksWrong : ChangeSpec := { name := "configMarks", fn := fun _ => fun
  | [d] => { results := [.lit (.bool false)], args := [d] }
  | _ => none }
def ConfigMarksWrongFalsely : Prop := configMarksRow.holds Tryz.pinned (OpenSpec.ofChange configMarksWrong)

/-- 'transhipmentlaw12.AmApart': WHATEVER THE INPUT: true; the input reads as it did. -/
def amApartSpec : ChangeSpec := { name := "amApart", fn := fun _ => fun
  | [d1, d2] => { results := [.lit (.bool true)], args := [d1, d2] }
  | _ => none }
def amApartRow : OpenClaim := { program := "ytiddkdneoldkoaagreatdoor", sum := "aef8d57ee329a1a982b4238030215bbd632eb41969246361b79ff274a076413a", func := "transhipment/transhipmentlaw12.AmApart", spec := "amApart", inPlace := ["internal/bytealg.IndexByteString", "internal/abi.NoEscape", "internal/bytealg.MakeNoZero", "internal/bytealg.IndexString", "internal/bytealg.abigen_runtime_cmpstring", "internal/bytealg.CountString"], unfollowed := true, recurses := true, named := ["unicode/utf8.first", "unicode/utf8.acceptRanges", "internal/strconv.uint64pow10", "math/bits.deBruijn32tab", "math/bits.deBruijn64tab", "transhipment/hours.names", "internal/bytealg.MaxLen"], loops := true, apart := false, laid := [("math/bits.deBruijn32tab", laid_math_bits_deBruijn32tab), ("math/bits.deBruijn64tab", laid_math_bits_deBruijn64tab), ("internal/strconv.uint64pow10", laid_internal_strconv_uint64pow10), ("unicode/utf8.acceptRanges", laid_unicode_utf8_acceptRanges), ("transhipment/hours.names", laid_transhipment_hours_names), ("unicode/utf8.first", laid_unicode_utf8_first)] }
def AmApartSaid : Prop := amApartRow.holds Tryz.pinned (OpenSpec.ofChange amApartSpec)

/-- ITS FALSE NEIGHBOUR: 'it returns false'. Refute it at one input. -/
def amApartWrong : ChangeSpec := { name := "amApart", fn := fun _ => fun
  | [d1, d2] => { results := [.lit (.bool false)], args := [d1, d2] }
  | _ => none }
def AmApartWrongFalsely : Prop := amApartRow.holds Tryz.pinned (OpenSpec.ofChange amApartWrong)

/-- 'transhipmentlaw10.ConfigApart': WHATEVER THE INPUT: true; the input reads as it did. -/
def configApartSpec : ChangeSpec := { name := "configApart", fn := fun _ => fun
  | [d1, d2] => { results := [.lit (.bool true)], args := [d1, d2] }
  | _ => none }
def configApartRow : OpenClaim := { program := "ytiddkdneoldkoaagreatdoor", sum := "aef8d57ee329a1a982b4238030215bbd632eb41969246361b79ff274a076413a", func := "transhipment/transhipmentlaw10.ConfigApart", spec := "configApart", inPlace := ["internal/bytealg.IndexByteString", "internal/bytealg.IndexString", "internal/abi.NoEscape", "internal/bytealg.MakeNoZero", "internal/bytealg.abigen_runtime_cmpstring", "internal/bytealg.CountString"], unfollowed := true, recurses := true, named := ["unicode/utf8.first", "unicode/utf8.acceptRanges", "internal/bytealg.MaxLen", "internal/strconv.uint64pow10", "math/bits.deBruijn32tab", "math/bits.deBruijn64tab", "transhipment/hours.names", "transhipment/seal.keys"], loops := true, apart := false, laid := [("math/bits.deBruijn32tab", laid_math_bits_deBruijn32tab), ("math/bits.deBruijn64tab", laid_math_bits_deBruijn64tab), ("internal/strconv.uint64pow10", laid_internal_strconv_uint64pow10), ("unicode/utf8.acceptRanges", laid_unicode_utf8_acceptRanges), ("transhipment/hours.names", laid_transhipment_hours_names), ("transhipment/seal.keys", laid_transhipment_seal_keys), ("unicode/utf8.first", laid_unicode_utf8_first)] }
def ConfigApartSaid : Prop := configApartRow.holds Tryz.pinned (OpenSpec.ofChange configApartSpec)

/-- ITS FALSE NEIGHBOUR: 'it returns false'. Refute it at one input. -/
def configApartWrong : ChangeSpec := { name := "configApart", fn := fun _ => fun
  | [d1, d2] => { results := [.lit (.bool false)], args := [d1, d2] }
  | _ => none }
def ConfigApartWrongFalsely : Prop := configApartRow.holds Tryz.pinned (OpenSpec.ofChange configApartWrong)

/- THE SECOND FORM. 'bulk': how many values and letters a reading holds, each counted each time it is reached (what is shared counts as often as it is met; a slice's spare places count too). A statement '..UptoSaid' is the law's where the arguments, and the package variables that the reading takes, are together of bulk at most 1048576: NARROWER than '..Said'. Prove '..Said' where nothing that the law and all that it calls make is longer than what came in: it says more and counts as full. Else prove '..UptoSaid'. A law counts once. -/
mutual
def uptoBulk {H : Type} : DataW H → Nat
  | .lit (.string bytes) => bytes.length + 1
  | .lit _ => 1
  | .nil => 1
  | .ptr d => uptoBulk d + 1
  | .slice elems spare => uptoBulkAll elems + uptoBulkAll spare + 1
  | .agg parts => uptoBulkAll parts + 1
  | .iface _ d => uptoBulk d + 1
  | .map entries => uptoBulkEntries entries + 1
  | .held _ => 1
def uptoBulkAll {H : Type} : List (DataW H) → Nat
  | [] => 0
  | d :: r => uptoBulk d + uptoBulkAll r
def uptoBulkEntries {H : Type} : List (Lit × DataW H) → Nat
  | [] => 0
  | x :: r => uptoBulkEntry x + uptoBulkEntries r
def uptoBulkEntry {H : Type} : Lit × DataW H → Nat
  | (.string bytes, d) => bytes.length + uptoBulk d + 1
  | (_, d) => uptoBulk d + 1
 end
def uptoSmall : (H : Type) → List (DataW H) → Bool := fun _ ds => decide (uptoBulkAll ds ≤ 1048576)
def OpenSpec.upto (s : _root_.Go.ChangeSpec) : _root_.Go.OpenSpec := { _root_.Go.OpenSpec.ofChange s with cond := some uptoSmall }

/-- 'transhipmentlaw18.DiffOne', WHERE WHAT IT READS IS OF BULK AT MOST 1048576: true; the input reads as it did. -/
def diffOneUptoRow : OpenClaim := { program := "ytiddkdneoldkoaagreatdoor", sum := "aef8d57ee329a1a982b4238030215bbd632eb41969246361b79ff274a076413a", func := "transhipment/transhipmentlaw18.DiffOne", spec := "diffOne", inPlace := ["internal/bytealg.IndexByteString", "internal/bytealg.IndexString", "internal/abi.NoEscape", "internal/bytealg.MakeNoZero", "internal/bytealg.abigen_runtime_cmpstring"], unfollowed := true, recurses := true, named := ["unicode/utf8.first", "unicode/utf8.acceptRanges", "internal/bytealg.MaxLen"], loops := true, apart := false, laid := [("unicode/utf8.acceptRanges", laid_unicode_utf8_acceptRanges), ("unicode/utf8.first", laid_unicode_utf8_first)], narrowed := true }
def DiffOneUptoSaid : Prop := diffOneUptoRow.holds Tryz.pinned (OpenSpec.upto diffOneSpec)

/-- 'transhipmentlaw18.DiffNone', WHERE WHAT IT READS IS OF BULK AT MOST 1048576: true; the input reads as it did. -/
def diffNoneUptoRow : OpenClaim := { program := "ytiddkdneoldkoaagreatdoor", sum := "aef8d57ee329a1a982b4238030215bbd632eb41969246361b79ff274a076413a", func := "transhipment/transhipmentlaw18.DiffNone", spec := "diffNone", inPlace := ["internal/bytealg.IndexByteString", "internal/bytealg.IndexString", "internal/abi.NoEscape", "internal/bytealg.MakeNoZero", "internal/bytealg.abigen_runtime_cmpstring"], unfollowed := true, recurses := true, named := ["unicode/utf8.first", "unicode/utf8.acceptRanges", "internal/bytealg.MaxLen"], loops := true, apart := false, laid := [("unicode/utf8.acceptRanges", laid_unicode_utf8_acceptRanges), ("unicode/utf8.first", laid_unicode_utf8_first)], narrowed := true }
def DiffNoneUptoSaid : Prop := diffNoneUptoRow.holds Tryz.pinned (OpenSpec.upto diffNoneSpec)

/-- 'transhipmentlaw13.NagExports', WHERE WHAT IT READS IS OF BULK AT MOST 1048576: true; the input reads as it did. -/
def nagExportsUptoRow : OpenClaim := { program := "ytiddkdneoldkoaagreatdoor", sum := "aef8d57ee329a1a982b4238030215bbd632eb41969246361b79ff274a076413a", func := "transhipment/transhipmentlaw13.NagExports", spec := "nagExports", inPlace := ["internal/bytealg.IndexByteString", "internal/bytealg.IndexString", "internal/abi.NoEscape", "internal/bytealg.MakeNoZero", "internal/bytealg.abigen_runtime_cmpstring", "internal/bytealg.CountString"], unfollowed := true, recurses := true, named := ["unicode/utf8.first", "unicode/utf8.acceptRanges", "internal/bytealg.MaxLen", "transhipment/hours.names", "internal/strconv.uint64pow10", "math/bits.deBruijn32tab", "math/bits.deBruijn64tab"], loops := true, apart := false, laid := [("math/bits.deBruijn32tab", laid_math_bits_deBruijn32tab), ("math/bits.deBruijn64tab", laid_math_bits_deBruijn64tab), ("internal/strconv.uint64pow10", laid_internal_strconv_uint64pow10), ("unicode/utf8.acceptRanges", laid_unicode_utf8_acceptRanges), ("transhipment/hours.names", laid_transhipment_hours_names), ("unicode/utf8.first", laid_unicode_utf8_first)], narrowed := true }
def NagExportsUptoSaid : Prop := nagExportsUptoRow.holds Tryz.pinned (OpenSpec.upto nagExportsSpec)

/-- 'transhipmentlaw13.NagWhy', WHERE WHAT IT READS IS OF BULK AT MOST 1048576: true; the input reads as it did. -/
def nagWhyUptoRow : OpenClaim := { program := "ytiddkdneoldkoaagreatdoor", sum := "aef8d57ee329a1a982b4238030215bbd632eb41969246361b79ff274a076413a", func := "transhipment/transhipmentlaw13.NagWhy", spec := "nagWhy", inPlace := ["internal/bytealg.IndexByteString", "internal/bytealg.IndexString", "internal/abi.NoEscape", "internal/bytealg.MakeNoZero", "internal/bytealg.abigen_runtime_cmpstring", "internal/bytealg.CountString"], unfollowed := true, recurses := true, named := ["unicode/utf8.first", "unicode/utf8.acceptRanges", "internal/bytealg.MaxLen", "transhipment/hours.names", "internal/strconv.uint64pow10", "math/bits.deBruijn32tab", "math/bits.deBruijn64tab"], loops := true, apart := false, laid := [("math/bits.deBruijn32tab", laid_math_bits_deBruijn32tab), ("math/bits.deBruijn64tab", laid_math_bits_deBruijn64tab), ("internal/strconv.uint64pow10", laid_internal_strconv_uint64pow10), ("unicode/utf8.acceptRanges", laid_unicode_utf8_acceptRanges), ("transhipment/hours.names", laid_transhipment_hours_names), ("unicode/utf8.first", laid_unicode_utf8_first)], narrowed := true }
def NagWhyUptoSaid : Prop := nagWhyUptoRow.holds Tryz.pinned (OpenSpec.upto nagWhySpec)

/-- 'transhipmentlaw13.NagSmall', WHERE WHAT IT READS IS OF BULK AT MOST 1048576: true; the input reads as it did. -/
def nagSmallUptoRow : OpenClaim := { program := "ytiddkdneoldkoaagreatdoor", sum := "aef8d57ee329a1a982b4238030215bbd632eb41969246361b79ff274a076413a", func := "transhipment/transhipmentlaw13.NagSmall", spec := "nagSmall", inPlace := ["internal/bytealg.IndexByteString", "internal/bytealg.IndexString", "internal/abi.NoEscape", "internal/bytealg.MakeNoZero", "internal/bytealg.abigen_runtime_cmpstring", "internal/bytealg.CountString"], unfollowed := true, recurses := true, named := ["unicode/utf8.first", "unicode/utf8.acceptRanges", "internal/bytealg.MaxLen", "transhipment/hours.names", "internal/strconv.uint64pow10", "math/bits.deBruijn32tab", "math/bits.deBruijn64tab"], loops := true, apart := false, laid := [("math/bits.deBruijn32tab", laid_math_bits_deBruijn32tab), ("math/bits.deBruijn64tab", laid_math_bits_deBruijn64tab), ("internal/strconv.uint64pow10", laid_internal_strconv_uint64pow10), ("unicode/utf8.acceptRanges", laid_unicode_utf8_acceptRanges), ("transhipment/hours.names", laid_transhipment_hours_names), ("unicode/utf8.first", laid_unicode_utf8_first)], narrowed := true }
def NagSmallUptoSaid : Prop := nagSmallUptoRow.holds Tryz.pinned (OpenSpec.upto nagSmallSpec)

/-- 'transhipmentlaw13.NagApart', WHERE WHAT IT READS IS OF BULK AT MOST 1048576: true; the input reads as it did. -/
def nagApartUptoRow : OpenClaim := { program := "ytiddkdneoldkoaagreatdoor", sum := "aef8d57ee329a1a982b4238030215bbd632eb41969246361b79ff274a076413a", func := "transhipment/transhipmentlaw13.NagApart", spec := "nagApart", inPlace := ["internal/bytealg.IndexByteString", "internal/bytealg.IndexString", "internal/abi.NoEscape", "internal/bytealg.MakeNoZero", "internal/bytealg.abigen_runtime_cmpstring", "internal/bytealg.CountString"], unfollowed := true, recurses := true, named := ["unicode/utf8.first", "unicode/utf8.acceptRanges", "internal/bytealg.MaxLen", "transhipment/hours.names", "internal/strconv.uint64pow10", "math/bits.deBruijn32tab", "math/bits.deBruijn64tab"], loops := true, apart := false, laid := [("math/bits.deBruijn32tab", laid_math_bits_deBruijn32tab), ("math/bits.deBruijn64tab", laid_math_bits_deBruijn64tab), ("internal/strconv.uint64pow10", laid_internal_strconv_uint64pow10), ("unicode/utf8.acceptRanges", laid_unicode_utf8_acceptRanges), ("transhipment/hours.names", laid_transhipment_hours_names), ("unicode/utf8.first", laid_unicode_utf8_first)], narrowed := true }
def NagApartUptoSaid : Prop := nagApartUptoRow.holds Tryz.pinned (OpenSpec.upto nagApartSpec)

/-- 'transhipmentlaw12.AmExports', WHERE WHAT IT READS IS OF BULK AT MOST 1048576: true; the input reads as it did. -/
def amExportsUptoRow : OpenClaim := { program := "ytiddkdneoldkoaagreatdoor", sum := "aef8d57ee329a1a982b4238030215bbd632eb41969246361b79ff274a076413a", func := "transhipment/transhipmentlaw12.AmExports", spec := "amExports", inPlace := ["internal/bytealg.IndexByteString", "internal/abi.NoEscape", "internal/bytealg.MakeNoZero", "internal/bytealg.IndexString", "internal/bytealg.abigen_runtime_cmpstring", "internal/bytealg.CountString"], unfollowed := true, recurses := true, named := ["unicode/utf8.first", "unicode/utf8.acceptRanges", "internal/strconv.uint64pow10", "math/bits.deBruijn32tab", "math/bits.deBruijn64tab", "transhipment/hours.names", "internal/bytealg.MaxLen"], loops := true, apart := false, laid := [("math/bits.deBruijn32tab", laid_math_bits_deBruijn32tab), ("math/bits.deBruijn64tab", laid_math_bits_deBruijn64tab), ("internal/strconv.uint64pow10", laid_internal_strconv_uint64pow10), ("unicode/utf8.acceptRanges", laid_unicode_utf8_acceptRanges), ("transhipment/hours.names", laid_transhipment_hours_names), ("unicode/utf8.first", laid_unicode_utf8_first)], narrowed := true }
def AmExportsUptoSaid : Prop := amExportsUptoRow.holds Tryz.pinned (OpenSpec.upto amExportsSpec)

/-- 'transhipmentlaw12.AmDeep', WHERE WHAT IT READS IS OF BULK AT MOST 1048576: true; the input reads as it did. -/
def amDeepUptoRow : OpenClaim := { program := "ytiddkdneoldkoaagreatdoor", sum := "aef8d57ee329a1a982b4238030215bbd632eb41969246361b79ff274a076413a", func := "transhipment/transhipmentlaw12.AmDeep", spec := "amDeep", inPlace := ["internal/bytealg.IndexByteString", "internal/abi.NoEscape", "internal/bytealg.MakeNoZero", "internal/bytealg.IndexString", "internal/bytealg.abigen_runtime_cmpstring", "internal/bytealg.CountString"], unfollowed := true, recurses := true, named := ["unicode/utf8.first", "unicode/utf8.acceptRanges", "internal/strconv.uint64pow10", "math/bits.deBruijn32tab", "math/bits.deBruijn64tab", "transhipment/hours.names", "internal/bytealg.MaxLen"], loops := true, apart := false, laid := [("math/bits.deBruijn32tab", laid_math_bits_deBruijn32tab), ("math/bits.deBruijn64tab", laid_math_bits_deBruijn64tab), ("internal/strconv.uint64pow10", laid_internal_strconv_uint64pow10), ("unicode/utf8.acceptRanges", laid_unicode_utf8_acceptRanges), ("transhipment/hours.names", laid_transhipment_hours_names), ("unicode/utf8.first", laid_unicode_utf8_first)], narrowed := true }
def AmDeepUptoSaid : Prop := amDeepUptoRow.holds Tryz.pinned (OpenSpec.upto amDeepSpec)

/-- 'transhipmentlaw12.AmRules', WHERE WHAT IT READS IS OF BULK AT MOST 1048576: true; the input reads as it did. -/
def amRulesUptoRow : OpenClaim := { program := "ytiddkdneoldkoaagreatdoor", sum := "aef8d57ee329a1a982b4238030215bbd632eb41969246361b79ff274a076413a", func := "transhipment/transhipmentlaw12.AmRules", spec := "amRules", inPlace := ["internal/bytealg.IndexByteString", "internal/abi.NoEscape", "internal/bytealg.MakeNoZero", "internal/bytealg.IndexString", "internal/bytealg.abigen_runtime_cmpstring", "internal/bytealg.CountString"], unfollowed := true, recurses := true, named := ["unicode/utf8.first", "unicode/utf8.acceptRanges", "internal/strconv.uint64pow10", "math/bits.deBruijn32tab", "math/bits.deBruijn64tab", "transhipment/hours.names", "internal/bytealg.MaxLen"], loops := true, apart := false, laid := [("math/bits.deBruijn32tab", laid_math_bits_deBruijn32tab), ("math/bits.deBruijn64tab", laid_math_bits_deBruijn64tab), ("internal/strconv.uint64pow10", laid_internal_strconv_uint64pow10), ("unicode/utf8.acceptRanges", laid_unicode_utf8_acceptRanges), ("transhipment/hours.names", laid_transhipment_hours_names), ("unicode/utf8.first", laid_unicode_utf8_first)], narrowed := true }
def AmRulesUptoSaid : Prop := amRulesUptoRow.holds Tryz.pinned (OpenSpec.upto amRulesSpec)

/-- 'transhipmentlaw10.ConfigMarks', WHERE WHAT IT READS IS OF BULK AT MOST 1048576: true; the input reads as it did. -/
def configMarksUptoRow : OpenClaim := { program := "ytiddkdneoldkoaagreatdoor", sum := "aef8d57ee329a1a982b4238030215bbd632eb41969246361b79ff274a076413a", func := "transhipment/transhipmentlaw10.ConfigMarks", spec := "configMarks", inPlace := ["internal/bytealg.IndexByteString", "internal/bytealg.IndexString", "internal/abi.NoEscape", "internal/bytealg.MakeNoZero", "internal/bytealg.abigen_runtime_cmpstring", "internal/bytealg.CountString"], unfollowed := true, recurses := true, named := ["unicode/utf8.first", "unicode/utf8.acceptRanges", "internal/bytealg.MaxLen", "internal/strconv.uint64pow10", "math/bits.deBruijn32tab", "math/bits.deBruijn64tab", "transhipment/hours.names", "transhipment/seal.keys"], loops := true, apart := false, laid := [("math/bits.deBruijn32tab", laid_math_bits_deBruijn32tab), ("math/bits.deBruijn64tab", laid_math_bits_deBruijn64tab), ("internal/strconv.uint64pow10", laid_internal_strconv_uint64pow10), ("unicode/utf8.acceptRanges", laid_unicode_utf8_acceptRanges), ("transhipment/hours.names", laid_transhipment_hours_names), ("transhipment/seal.keys", laid_transhipment_seal_keys), ("unicode/utf8.first", laid_unicode_utf8_first)], narrowed := true }
def ConfigMarksUptoSaid : Prop := configMarksUptoRow.holds Tryz.pinned (OpenSpec.upto configMarksSpec)

/-- 'transhipmentlaw12.AmApart', WHERE WHAT IT READS IS OF BULK AT MOST 1048576: true; the input reads as it did. -/
def amApartUptoRow : OpenClaim := { program := "ytiddkdneoldkoaagreatdoor", sum := "aef8d57ee329a1a982b4238030215bbd632eb41969246361b79ff274a076413a", func := "transhipment/transhipmentlaw12.AmApart", spec := "amApart", inPlace := ["internal/bytealg.IndexByteString", "internal/abi.NoEscape", "internal/bytealg.MakeNoZero", "internal/bytealg.IndexString", "internal/bytealg.abigen_runtime_cmpstring", "internal/bytealg.CountString"], unfollowed := true, recurses := true, named := ["unicode/utf8.first", "unicode/utf8.acceptRanges", "internal/strconv.uint64pow10", "math/bits.deBruijn32tab", "math/bits.deBruijn64tab", "transhipment/hours.names", "internal/bytealg.MaxLen"], loops := true, apart := false, laid := [("math/bits.deBruijn32tab", laid_math_bits_deBruijn32tab), ("math/bits.deBruijn64tab", laid_math_bits_deBruijn64tab), ("internal/strconv.uint64pow10", laid_internal_strconv_uint64pow10), ("unicode/utf8.acceptRanges", laid_unicode_utf8_acceptRanges), ("transhipment/hours.names", laid_transhipment_hours_names), ("unicode/utf8.first", laid_unicode_utf8_first)], narrowed := true }
def AmApartUptoSaid : Prop := amApartUptoRow.holds Tryz.pinned (OpenSpec.upto amApartSpec)

/-- 'transhipmentlaw10.ConfigApart', WHERE WHAT IT READS IS OF BULK AT MOST 1048576: true; the input reads as it did. -/
def configApartUptoRow : OpenClaim := { program := "ytiddkdneoldkoaagreatdoor", sum := "aef8d57ee329a1a982b4238030215bbd632eb41969246361b79ff274a076413a", func := "transhipment/transhipmentlaw10.ConfigApart", spec := "configApart", inPlace := ["internal/bytealg.IndexByteString", "internal/bytealg.IndexString", "internal/abi.NoEscape", "internal/bytealg.MakeNoZero", "internal/bytealg.abigen_runtime_cmpstring", "internal/bytealg.CountString"], unfollowed := true, recurses := true, named := ["unicode/utf8.first", "unicode/utf8.acceptRanges", "internal/bytealg.MaxLen", "internal/strconv.uint64pow10", "math/bits.deBruijn32tab", "math/bits.deBruijn64tab", "transhipment/hours.names", "transhipment/seal.keys"], loops := true, apart := false, laid := [("math/bits.deBruijn32tab", laid_math_bits_deBruijn32tab), ("math/bits.deBruijn64tab", laid_math_bits_deBruijn64tab), ("internal/strconv.uint64pow10", laid_internal_strconv_uint64pow10), ("unicode/utf8.acceptRanges", laid_unicode_utf8_acceptRanges), ("transhipment/hours.names", laid_transhipment_hours_names), ("transhipment/seal.keys", laid_transhipment_seal_keys), ("unicode/utf8.first", laid_unicode_utf8_first)], narrowed := true }
def ConfigApartUptoSaid : Prop := configApartUptoRow.holds Tryz.pinned (OpenSpec.upto configApartSpec)

end Rows
end Go.Proofs.YtiddkdneoldkoaaGreatDoor
