/-
  NARROWER THAN 'FOR EVERY INPUT', by the rows' own cells (each row's printed sentence says how): FaultCodes: laid · FaultWhere: laid · FaultNone: laid · FaultSteps: laid · FaultIs: laid · FaultMore: laid · ClientRuns: laid · ClientFreezes: laid · ClientRefuses: laid · ClientPlays: laid · ClientNil: laid · WordsFew: laid · WordsSets: laid · WordsPlays: laid · WordsNil: laid.
  DERIVED. THE GIVEN ROWS OF THIS SEAT. 15 by the template 'for every input the law returns true; each argument reads behind the call as it read before'; 0 by the template 'total and deterministic' (their statements: YtkmcjokoinoahaaDoorTotals.lean).
  GIVEN WITH THE SEED: the statements are not yours to turn. If you find one false, say at which input.
  Laid BY PROGRAM, IN A SANDBOX (cutbox-rows.mjs): the forced cells as the released guide's own fill.sh prints them over the translation 17b7a95e299aa247… (all of the seat's roots in one cut). By AI agents, Wed Nov 11 2026. No macro, syntax, notation, axiom, sorry.
-/
import Derived.Test.YtkmcjokoinoahaaDoorChecked
import GoSem.Claim
import GoSem.ClaimJoined
import GoSem.ClaimMapViews
import Derived.JoinedTies
import Derived.KernelRfl
namespace Go.Proofs.YtkmcjokoinoahaaDoor
/- THE CELL 'sum', in the pinned program and in every row, IS THE sha256 OF THE DUMP (.gsa) THAT YtkmcjokoinoahaaDoorProg.lean LOADS. Nothing in Lean hashes anything: it is a label: what it is worth is what the hold of that sum in a sandbox is worth. -/
noncomputable def Tryd.pinned : Pinned := { name := "ytkmcjokoinoahaadoor", sum := "17b7a95e299aa2479e5e382c1221099ee622c6c5f520b42df575cff1b7761239", checked := Tryd.checked }
namespace Rows
def none {H : Type} : Left H := { results := [], args := [] }

/- WHAT THE LISTED PACKAGE-LEVEL VARIABLES READ AS WHEN THE CALL BEGINS. Each datum BY PROGRAM (the guide's laid-datum.mjs) off the statement by which the dump's own 'gosem.cut.vars' lays the variable. In a bare row this is a premise. The card (YtkmcjokoinoahaaDoorCards.lean) ties it to the program's text. -/
def laid_errors_errorType {H : Type} : DataW H := .iface "internal/reflectlite.rtype" (.agg [.ptr (.lit (.string [101, 114, 114, 111, 114]))])
def laid_ferryman_ferrymanref01_roots {H : Type} : DataW H := .agg [.lit (.int .u32 1116352408), .lit (.int .u32 1899447441), .lit (.int .u32 3049323471), .lit (.int .u32 3921009573), .lit (.int .u32 961987163), .lit (.int .u32 1508970993), .lit (.int .u32 2453635748), .lit (.int .u32 2870763221), .lit (.int .u32 3624381080), .lit (.int .u32 310598401), .lit (.int .u32 607225278), .lit (.int .u32 1426881987), .lit (.int .u32 1925078388), .lit (.int .u32 2162078206), .lit (.int .u32 2614888103), .lit (.int .u32 3248222580), .lit (.int .u32 3835390401), .lit (.int .u32 4022224774), .lit (.int .u32 264347078), .lit (.int .u32 604807628), .lit (.int .u32 770255983), .lit (.int .u32 1249150122), .lit (.int .u32 1555081692), .lit (.int .u32 1996064986), .lit (.int .u32 2554220882), .lit (.int .u32 2821834349), .lit (.int .u32 2952996808), .lit (.int .u32 3210313671), .lit (.int .u32 3336571891), .lit (.int .u32 3584528711), .lit (.int .u32 113926993), .lit (.int .u32 338241895), .lit (.int .u32 666307205), .lit (.int .u32 773529912), .lit (.int .u32 1294757372), .lit (.int .u32 1396182291), .lit (.int .u32 1695183700), .lit (.int .u32 1986661051), .lit (.int .u32 2177026350), .lit (.int .u32 2456956037), .lit (.int .u32 2730485921), .lit (.int .u32 2820302411), .lit (.int .u32 3259730800), .lit (.int .u32 3345764771), .lit (.int .u32 3516065817), .lit (.int .u32 3600352804), .lit (.int .u32 4094571909), .lit (.int .u32 275423344), .lit (.int .u32 430227734), .lit (.int .u32 506948616), .lit (.int .u32 659060556), .lit (.int .u32 883997877), .lit (.int .u32 958139571), .lit (.int .u32 1322822218), .lit (.int .u32 1537002063), .lit (.int .u32 1747873779), .lit (.int .u32 1955562222), .lit (.int .u32 2024104815), .lit (.int .u32 2227730452), .lit (.int .u32 2361852424), .lit (.int .u32 2428436474), .lit (.int .u32 2756734187), .lit (.int .u32 3204031479), .lit (.int .u32 3329325298)]
def laid_ferryman_sha_words {H : Type} : DataW H := .agg [.lit (.int .u32 1116352408), .lit (.int .u32 1899447441), .lit (.int .u32 3049323471), .lit (.int .u32 3921009573), .lit (.int .u32 961987163), .lit (.int .u32 1508970993), .lit (.int .u32 2453635748), .lit (.int .u32 2870763221), .lit (.int .u32 3624381080), .lit (.int .u32 310598401), .lit (.int .u32 607225278), .lit (.int .u32 1426881987), .lit (.int .u32 1925078388), .lit (.int .u32 2162078206), .lit (.int .u32 2614888103), .lit (.int .u32 3248222580), .lit (.int .u32 3835390401), .lit (.int .u32 4022224774), .lit (.int .u32 264347078), .lit (.int .u32 604807628), .lit (.int .u32 770255983), .lit (.int .u32 1249150122), .lit (.int .u32 1555081692), .lit (.int .u32 1996064986), .lit (.int .u32 2554220882), .lit (.int .u32 2821834349), .lit (.int .u32 2952996808), .lit (.int .u32 3210313671), .lit (.int .u32 3336571891), .lit (.int .u32 3584528711), .lit (.int .u32 113926993), .lit (.int .u32 338241895), .lit (.int .u32 666307205), .lit (.int .u32 773529912), .lit (.int .u32 1294757372), .lit (.int .u32 1396182291), .lit (.int .u32 1695183700), .lit (.int .u32 1986661051), .lit (.int .u32 2177026350), .lit (.int .u32 2456956037), .lit (.int .u32 2730485921), .lit (.int .u32 2820302411), .lit (.int .u32 3259730800), .lit (.int .u32 3345764771), .lit (.int .u32 3516065817), .lit (.int .u32 3600352804), .lit (.int .u32 4094571909), .lit (.int .u32 275423344), .lit (.int .u32 430227734), .lit (.int .u32 506948616), .lit (.int .u32 659060556), .lit (.int .u32 883997877), .lit (.int .u32 958139571), .lit (.int .u32 1322822218), .lit (.int .u32 1537002063), .lit (.int .u32 1747873779), .lit (.int .u32 1955562222), .lit (.int .u32 2024104815), .lit (.int .u32 2227730452), .lit (.int .u32 2361852424), .lit (.int .u32 2428436474), .lit (.int .u32 2756734187), .lit (.int .u32 3204031479), .lit (.int .u32 3329325298)]
def laid_math_bits_deBruijn64tab {H : Type} : DataW H := .agg [.lit (.int .u8 0), .lit (.int .u8 1), .lit (.int .u8 56), .lit (.int .u8 2), .lit (.int .u8 57), .lit (.int .u8 49), .lit (.int .u8 28), .lit (.int .u8 3), .lit (.int .u8 61), .lit (.int .u8 58), .lit (.int .u8 42), .lit (.int .u8 50), .lit (.int .u8 38), .lit (.int .u8 29), .lit (.int .u8 17), .lit (.int .u8 4), .lit (.int .u8 62), .lit (.int .u8 47), .lit (.int .u8 59), .lit (.int .u8 36), .lit (.int .u8 45), .lit (.int .u8 43), .lit (.int .u8 51), .lit (.int .u8 22), .lit (.int .u8 53), .lit (.int .u8 39), .lit (.int .u8 33), .lit (.int .u8 30), .lit (.int .u8 24), .lit (.int .u8 18), .lit (.int .u8 12), .lit (.int .u8 5), .lit (.int .u8 63), .lit (.int .u8 55), .lit (.int .u8 48), .lit (.int .u8 27), .lit (.int .u8 60), .lit (.int .u8 41), .lit (.int .u8 37), .lit (.int .u8 16), .lit (.int .u8 46), .lit (.int .u8 35), .lit (.int .u8 44), .lit (.int .u8 21), .lit (.int .u8 52), .lit (.int .u8 32), .lit (.int .u8 23), .lit (.int .u8 11), .lit (.int .u8 54), .lit (.int .u8 26), .lit (.int .u8 40), .lit (.int .u8 15), .lit (.int .u8 34), .lit (.int .u8 20), .lit (.int .u8 31), .lit (.int .u8 10), .lit (.int .u8 25), .lit (.int .u8 14), .lit (.int .u8 19), .lit (.int .u8 9), .lit (.int .u8 13), .lit (.int .u8 8), .lit (.int .u8 7), .lit (.int .u8 6)]

/-- 'ferrymanlaw03.FaultCodes': WHATEVER THE INPUT: true; the input reads as it did. -/
def faultCodesSpec : ChangeSpec := { name := "faultCodes", fn := fun _ => fun
  | [d1, d2] => { results := [.lit (.bool true)], args := [d1, d2] }
  | _ => none }
def faultCodesRow : OpenClaim := { program := "ytkmcjokoinoahaadoor", sum := "17b7a95e299aa2479e5e382c1221099ee622c6c5f520b42df575cff1b7761239", func := "ferryman/ferrymanlaw03.FaultCodes", spec := "faultCodes", inPlace := ["internal/reflectlite.ValueOf", "(internal/reflectlite.Value).Type", "(internal/reflectlite.Value).IsNil", "internal/reflectlite.TypeOf", "(internal/reflectlite.Value).Elem", "(internal/reflectlite.Value).Set"], unfollowed := true, recurses := true, named := ["errors.errorType"], apart := false, laid := [("errors.errorType", laid_errors_errorType)] }
def FaultCodesSaid : Prop := faultCodesRow.holds Tryd.pinned (OpenSpec.ofChange faultCodesSpec)

/-- ITS FALSE NEIGHBOUR: 'it returns false'. Refute it at one input. -/
def faultCodesWrong : ChangeSpec := { name := "faultCodes", fn := fun _ => fun
  | [d1, d2] => { results := [.lit (.bool false)], args := [d1, d2] }
  | _ => none }
def FaultCodesWrongFalsely : Prop := faultCodesRow.holds Tryd.pinned (OpenSpec.ofChange faultCodesWrong)

/-- 'ferrymanlaw03.FaultWhere': WHATEVER THE INPUT: true; the input reads as it did. -/
def faultWhereSpec : ChangeSpec := { name := "faultWhere", fn := fun _ => fun
  | [d1, d2] => { results := [.lit (.bool true)], args := [d1, d2] }
  | _ => none }
def faultWhereRow : OpenClaim := { program := "ytkmcjokoinoahaadoor", sum := "17b7a95e299aa2479e5e382c1221099ee622c6c5f520b42df575cff1b7761239", func := "ferryman/ferrymanlaw03.FaultWhere", spec := "faultWhere", inPlace := ["internal/reflectlite.ValueOf", "(internal/reflectlite.Value).Type", "(internal/reflectlite.Value).IsNil", "internal/reflectlite.TypeOf", "(internal/reflectlite.Value).Elem", "(internal/reflectlite.Value).Set"], unfollowed := true, recurses := true, named := ["errors.errorType"], apart := false, laid := [("errors.errorType", laid_errors_errorType)] }
def FaultWhereSaid : Prop := faultWhereRow.holds Tryd.pinned (OpenSpec.ofChange faultWhereSpec)

/-- ITS FALSE NEIGHBOUR: 'it returns false'. Refute it at one input. -/
def faultWhereWrong : ChangeSpec := { name := "faultWhere", fn := fun _ => fun
  | [d1, d2] => { results := [.lit (.bool false)], args := [d1, d2] }
  | _ => none }
def FaultWhereWrongFalsely : Prop := faultWhereRow.holds Tryd.pinned (OpenSpec.ofChange faultWhereWrong)

/-- 'ferrymanlaw03.FaultNone': WHATEVER THE INPUT: true; the input reads as it did. -/
def faultNoneSpec : ChangeSpec := { name := "faultNone", fn := fun _ => fun
  | [d1, d2, d3] => { results := [.lit (.bool true)], args := [d1, d2, d3] }
  | _ => none }
def faultNoneRow : OpenClaim := { program := "ytkmcjokoinoahaadoor", sum := "17b7a95e299aa2479e5e382c1221099ee622c6c5f520b42df575cff1b7761239", func := "ferryman/ferrymanlaw03.FaultNone", spec := "faultNone", inPlace := ["internal/reflectlite.ValueOf", "(internal/reflectlite.Value).Type", "(internal/reflectlite.Value).IsNil", "internal/reflectlite.TypeOf", "(internal/reflectlite.Value).Elem", "(internal/reflectlite.Value).Set"], unfollowed := true, recurses := true, named := ["errors.errorType"], apart := false, laid := [("errors.errorType", laid_errors_errorType)] }
def FaultNoneSaid : Prop := faultNoneRow.holds Tryd.pinned (OpenSpec.ofChange faultNoneSpec)

/-- ITS FALSE NEIGHBOUR: 'it returns false'. Refute it at one input. -/
def faultNoneWrong : ChangeSpec := { name := "faultNone", fn := fun _ => fun
  | [d1, d2, d3] => { results := [.lit (.bool false)], args := [d1, d2, d3] }
  | _ => none }
def FaultNoneWrongFalsely : Prop := faultNoneRow.holds Tryd.pinned (OpenSpec.ofChange faultNoneWrong)

/-- 'ferrymanlaw03.FaultSteps': WHATEVER THE INPUT: true; the input reads as it did. -/
def faultStepsSpec : ChangeSpec := { name := "faultSteps", fn := fun _ => fun
  | [d1, d2, d3] => { results := [.lit (.bool true)], args := [d1, d2, d3] }
  | _ => none }
def faultStepsRow : OpenClaim := { program := "ytkmcjokoinoahaadoor", sum := "17b7a95e299aa2479e5e382c1221099ee622c6c5f520b42df575cff1b7761239", func := "ferryman/ferrymanlaw03.FaultSteps", spec := "faultSteps", inPlace := ["internal/reflectlite.ValueOf", "(internal/reflectlite.Value).Type", "(internal/reflectlite.Value).IsNil", "internal/reflectlite.TypeOf", "(internal/reflectlite.Value).Elem", "(internal/reflectlite.Value).Set"], unfollowed := true, recurses := true, named := ["errors.errorType"], apart := false, laid := [("errors.errorType", laid_errors_errorType)] }
def FaultStepsSaid : Prop := faultStepsRow.holds Tryd.pinned (OpenSpec.ofChange faultStepsSpec)

/-- ITS FALSE NEIGHBOUR: 'it returns false'. Refute it at one input. -/
def faultStepsWrong : ChangeSpec := { name := "faultSteps", fn := fun _ => fun
  | [d1, d2, d3] => { results := [.lit (.bool false)], args := [d1, d2, d3] }
  | _ => none }
def FaultStepsWrongFalsely : Prop := faultStepsRow.holds Tryd.pinned (OpenSpec.ofChange faultStepsWrong)

/-- 'ferrymanlaw03.FaultIs': WHATEVER THE INPUT: true; the input reads as it did. -/
def faultIsSpec : ChangeSpec := { name := "faultIs", fn := fun _ => fun
  | [d1, d2, d3] => { results := [.lit (.bool true)], args := [d1, d2, d3] }
  | _ => none }
def faultIsRow : OpenClaim := { program := "ytkmcjokoinoahaadoor", sum := "17b7a95e299aa2479e5e382c1221099ee622c6c5f520b42df575cff1b7761239", func := "ferryman/ferrymanlaw03.FaultIs", spec := "faultIs", inPlace := ["internal/reflectlite.ValueOf", "(internal/reflectlite.Value).Type", "(internal/reflectlite.Value).IsNil", "internal/reflectlite.TypeOf", "(internal/reflectlite.Value).Elem", "(internal/reflectlite.Value).Set"], unfollowed := true, recurses := true, named := ["errors.errorType"], apart := false, laid := [("errors.errorType", laid_errors_errorType)] }
def FaultIsSaid : Prop := faultIsRow.holds Tryd.pinned (OpenSpec.ofChange faultIsSpec)

/-- ITS FALSE NEIGHBOUR: 'it returns false'. Refute it at one input. -/
def faultIsWrong : ChangeSpec := { name := "faultIs", fn := fun _ => fun
  | [d1, d2, d3] => { results := [.lit (.bool false)], args := [d1, d2, d3] }
  | _ => none }
def FaultIsWrongFalsely : Prop := faultIsRow.holds Tryd.pinned (OpenSpec.ofChange faultIsWrong)

/-- 'ferrymanlaw03.FaultMore': WHATEVER THE INPUT: true; the input reads as it did. -/
def faultMoreSpec : ChangeSpec := { name := "faultMore", fn := fun _ => fun
  | [d1, d2, d3, d4] => { results := [.lit (.bool true)], args := [d1, d2, d3, d4] }
  | _ => none }
def faultMoreRow : OpenClaim := { program := "ytkmcjokoinoahaadoor", sum := "17b7a95e299aa2479e5e382c1221099ee622c6c5f520b42df575cff1b7761239", func := "ferryman/ferrymanlaw03.FaultMore", spec := "faultMore", inPlace := ["internal/reflectlite.ValueOf", "(internal/reflectlite.Value).Type", "(internal/reflectlite.Value).IsNil", "internal/reflectlite.TypeOf", "(internal/reflectlite.Value).Elem", "(internal/reflectlite.Value).Set"], unfollowed := true, recurses := true, named := ["errors.errorType"], apart := false, laid := [("errors.errorType", laid_errors_errorType)] }
def FaultMoreSaid : Prop := faultMoreRow.holds Tryd.pinned (OpenSpec.ofChange faultMoreSpec)

/-- ITS FALSE NEIGHBOUR: 'it returns false'. Refute it at one input. -/
def faultMoreWrong : ChangeSpec := { name := "faultMore", fn := fun _ => fun
  | [d1, d2, d3, d4] => { results := [.lit (.bool false)], args := [d1, d2, d3, d4] }
  | _ => none }
def FaultMoreWrongFalsely : Prop := faultMoreRow.holds Tryd.pinned (OpenSpec.ofChange faultMoreWrong)

/-- 'ferrymanlaw11.ClientRuns': WHATEVER THE INPUT: true; the input reads as it did. -/
def clientRunsSpec : ChangeSpec := { name := "clientRuns", fn := fun _ => fun
  | [d1, d2, d3] => { results := [.lit (.bool true)], args := [d1, d2, d3] }
  | _ => none }
def clientRunsRow : OpenClaim := { program := "ytkmcjokoinoahaadoor", sum := "17b7a95e299aa2479e5e382c1221099ee622c6c5f520b42df575cff1b7761239", func := "ferryman/ferrymanlaw11.ClientRuns", spec := "clientRuns", inPlace := ["internal/reflectlite.ValueOf", "(internal/reflectlite.Value).Type", "(internal/reflectlite.Value).IsNil", "internal/reflectlite.TypeOf", "(internal/reflectlite.Value).Elem", "(internal/reflectlite.Value).Set"], unfollowed := true, recurses := true, named := ["ferryman/sha.words", "errors.errorType", "ferryman/ferrymanref01.roots"], apart := false, laid := [("ferryman/ferrymanref01.roots", laid_ferryman_ferrymanref01_roots), ("ferryman/sha.words", laid_ferryman_sha_words), ("errors.errorType", laid_errors_errorType)] }
def ClientRunsSaid : Prop := clientRunsRow.holds Tryd.pinned (OpenSpec.ofChange clientRunsSpec)

/-- ITS FALSE NEIGHBOUR: 'it returns false'. Refute it at one input. -/
def clientRunsWrong : ChangeSpec := { name := "clientRuns", fn := fun _ => fun
  | [d1, d2, d3] => { results := [.lit (.bool false)], args := [d1, d2, d3] }
  | _ => none }
def ClientRunsWrongFalsely : Prop := clientRunsRow.holds Tryd.pinned (OpenSpec.ofChange clientRunsWrong)

/-- 'ferrymanlaw11.ClientFreezes': WHATEVER THE INPUT: true; the input reads as it did. -/
def clientFreezesSpec : ChangeSpec := { name := "clientFreezes", fn := fun _ => fun
  | [d1, d2, d3, d4] => { results := [.lit (.bool true)], args := [d1, d2, d3, d4] }
  | _ => none }
def clientFreezesRow : OpenClaim := { program := "ytkmcjokoinoahaadoor", sum := "17b7a95e299aa2479e5e382c1221099ee622c6c5f520b42df575cff1b7761239", func := "ferryman/ferrymanlaw11.ClientFreezes", spec := "clientFreezes", inPlace := ["internal/reflectlite.ValueOf", "(internal/reflectlite.Value).Type", "(internal/reflectlite.Value).IsNil", "internal/reflectlite.TypeOf", "(internal/reflectlite.Value).Elem", "(internal/reflectlite.Value).Set"], unfollowed := true, recurses := true, named := ["ferryman/sha.words", "errors.errorType", "ferryman/ferrymanref01.roots"], apart := false, laid := [("ferryman/ferrymanref01.roots", laid_ferryman_ferrymanref01_roots), ("ferryman/sha.words", laid_ferryman_sha_words), ("errors.errorType", laid_errors_errorType)] }
def ClientFreezesSaid : Prop := clientFreezesRow.holds Tryd.pinned (OpenSpec.ofChange clientFreezesSpec)

/-- ITS FALSE NEIGHBOUR: 'it returns false'. Refute it at one input. -/
def clientFreezesWrong : ChangeSpec := { name := "clientFreezes", fn := fun _ => fun
  | [d1, d2, d3, d4] => { results := [.lit (.bool false)], args := [d1, d2, d3, d4] }
  | _ => none }
def ClientFreezesWrongFalsely : Prop := clientFreezesRow.holds Tryd.pinned (OpenSpec.ofChange clientFreezesWrong)

/-- 'ferrymanlaw11.ClientRefuses': WHATEVER THE INPUT: true; the input reads as it did. -/
def clientRefusesSpec : ChangeSpec := { name := "clientRefuses", fn := fun _ => fun
  | [d1, d2, d3, d4] => { results := [.lit (.bool true)], args := [d1, d2, d3, d4] }
  | _ => none }
def clientRefusesRow : OpenClaim := { program := "ytkmcjokoinoahaadoor", sum := "17b7a95e299aa2479e5e382c1221099ee622c6c5f520b42df575cff1b7761239", func := "ferryman/ferrymanlaw11.ClientRefuses", spec := "clientRefuses", inPlace := ["internal/reflectlite.ValueOf", "(internal/reflectlite.Value).Type", "(internal/reflectlite.Value).IsNil", "internal/reflectlite.TypeOf", "(internal/reflectlite.Value).Elem", "(internal/reflectlite.Value).Set"], unfollowed := true, recurses := true, named := ["ferryman/sha.words", "errors.errorType", "ferryman/ferrymanref01.roots"], apart := false, laid := [("ferryman/ferrymanref01.roots", laid_ferryman_ferrymanref01_roots), ("ferryman/sha.words", laid_ferryman_sha_words), ("errors.errorType", laid_errors_errorType)] }
def ClientRefusesSaid : Prop := clientRefusesRow.holds Tryd.pinned (OpenSpec.ofChange clientRefusesSpec)

/-- ITS FALSE NEIGHBOUR: 'it returns false'. Refute it at one input. -/
def clientRefusesWrong : ChangeSpec := { name := "clientRefuses", fn := fun _ => fun
  | [d1, d2, d3, d4] => { results := [.lit (.bool false)], args := [d1, d2, d3, d4] }
  | _ => none }
def ClientRefusesWrongFalsely : Prop := clientRefusesRow.holds Tryd.pinned (OpenSpec.ofChange clientRefusesWrong)

/-- 'ferrymanlaw11.ClientPlays': WHATEVER THE INPUT: true; the input reads as it did. -/
def clientPlaysSpec : ChangeSpec := { name := "clientPlays", fn := fun _ => fun
  | [d1, d2, d3] => { results := [.lit (.bool true)], args := [d1, d2, d3] }
  | _ => none }
def clientPlaysRow : OpenClaim := { program := "ytkmcjokoinoahaadoor", sum := "17b7a95e299aa2479e5e382c1221099ee622c6c5f520b42df575cff1b7761239", func := "ferryman/ferrymanlaw11.ClientPlays", spec := "clientPlays", inPlace := ["internal/reflectlite.ValueOf", "(internal/reflectlite.Value).Type", "(internal/reflectlite.Value).IsNil", "internal/reflectlite.TypeOf", "(internal/reflectlite.Value).Elem", "(internal/reflectlite.Value).Set"], unfollowed := true, recurses := true, named := ["ferryman/sha.words", "errors.errorType", "ferryman/ferrymanref01.roots"], apart := false, laid := [("ferryman/ferrymanref01.roots", laid_ferryman_ferrymanref01_roots), ("ferryman/sha.words", laid_ferryman_sha_words), ("errors.errorType", laid_errors_errorType)] }
def ClientPlaysSaid : Prop := clientPlaysRow.holds Tryd.pinned (OpenSpec.ofChange clientPlaysSpec)

/-- ITS FALSE NEIGHBOUR: 'it returns false'. Refute it at one input. -/
def clientPlaysWrong : ChangeSpec := { name := "clientPlays", fn := fun _ => fun
  | [d1, d2, d3] => { results := [.lit (.bool false)], args := [d1, d2, d3] }
  | _ => none }
def ClientPlaysWrongFalsely : Prop := clientPlaysRow.holds Tryd.pinned (OpenSpec.ofChange clientPlaysWrong)

/-- 'ferrymanlaw11.ClientNil': WHATEVER THE INPUT: true; the input reads as it did. -/
def clientNilSpec : ChangeSpec := { name := "clientNil", fn := fun _ => fun
  | [d1, d2] => { results := [.lit (.bool true)], args := [d1, d2] }
  | _ => none }
def clientNilRow : OpenClaim := { program := "ytkmcjokoinoahaadoor", sum := "17b7a95e299aa2479e5e382c1221099ee622c6c5f520b42df575cff1b7761239", func := "ferryman/ferrymanlaw11.ClientNil", spec := "clientNil", inPlace := ["internal/reflectlite.ValueOf", "(internal/reflectlite.Value).Type", "(internal/reflectlite.Value).IsNil", "internal/reflectlite.TypeOf", "(internal/reflectlite.Value).Elem", "(internal/reflectlite.Value).Set"], unfollowed := true, recurses := true, named := ["ferryman/sha.words", "errors.errorType"], apart := false, laid := [("ferryman/sha.words", laid_ferryman_sha_words), ("errors.errorType", laid_errors_errorType)] }
def ClientNilSaid : Prop := clientNilRow.holds Tryd.pinned (OpenSpec.ofChange clientNilSpec)

/-- ITS FALSE NEIGHBOUR: 'it returns false'. Refute it at one input. -/
def clientNilWrong : ChangeSpec := { name := "clientNil", fn := fun _ => fun
  | [d1, d2] => { results := [.lit (.bool false)], args := [d1, d2] }
  | _ => none }
def ClientNilWrongFalsely : Prop := clientNilRow.holds Tryd.pinned (OpenSpec.ofChange clientNilWrong)

/-- 'ferrymanlaw15.WordsFew': WHATEVER THE INPUT: true; the input reads as it did. -/
def wordsFewSpec : ChangeSpec := { name := "wordsFew", fn := fun _ => fun
  | [d] => { results := [.lit (.bool true)], args := [d] }
  | _ => none }
def wordsFewRow : OpenClaim := { program := "ytkmcjokoinoahaadoor", sum := "17b7a95e299aa2479e5e382c1221099ee622c6c5f520b42df575cff1b7761239", func := "ferryman/ferrymanlaw15.WordsFew", spec := "wordsFew", unfollowed := true, recurses := true, named := ["math/bits.deBruijn64tab"], apart := false, laid := [("math/bits.deBruijn64tab", laid_math_bits_deBruijn64tab)] }
def WordsFewSaid : Prop := wordsFewRow.holds Tryd.pinned (OpenSpec.ofChange wordsFewSpec)

/-- ITS FALSE NEIGHBOUR: 'it returns false'. Refute it at one input. -/
def wordsFewWrong : ChangeSpec := { name := "wordsFew", fn := fun _ => fun
  | [d] => { results := [.lit (.bool false)], args := [d] }
  | _ => none }
def WordsFewWrongFalsely : Prop := wordsFewRow.holds Tryd.pinned (OpenSpec.ofChange wordsFewWrong)

/-- 'ferrymanlaw15.WordsSets': WHATEVER THE INPUT: true; the input reads as it did. -/
def wordsSetsSpec : ChangeSpec := { name := "wordsSets", fn := fun _ => fun
  | [d1, d2] => { results := [.lit (.bool true)], args := [d1, d2] }
  | _ => none }
def wordsSetsRow : OpenClaim := { program := "ytkmcjokoinoahaadoor", sum := "17b7a95e299aa2479e5e382c1221099ee622c6c5f520b42df575cff1b7761239", func := "ferryman/ferrymanlaw15.WordsSets", spec := "wordsSets", unfollowed := true, recurses := true, named := ["math/bits.deBruijn64tab"], apart := false, laid := [("math/bits.deBruijn64tab", laid_math_bits_deBruijn64tab)] }
def WordsSetsSaid : Prop := wordsSetsRow.holds Tryd.pinned (OpenSpec.ofChange wordsSetsSpec)

/-- ITS FALSE NEIGHBOUR: 'it returns false'. Refute it at one input. -/
def wordsSetsWrong : ChangeSpec := { name := "wordsSets", fn := fun _ => fun
  | [d1, d2] => { results := [.lit (.bool false)], args := [d1, d2] }
  | _ => none }
def WordsSetsWrongFalsely : Prop := wordsSetsRow.holds Tryd.pinned (OpenSpec.ofChange wordsSetsWrong)

/-- 'ferrymanlaw15.WordsPlays': WHATEVER THE INPUT: true; the input reads as it did. -/
def wordsPlaysSpec : ChangeSpec := { name := "wordsPlays", fn := fun _ => fun
  | [d] => { results := [.lit (.bool true)], args := [d] }
  | _ => none }
def wordsPlaysRow : OpenClaim := { program := "ytkmcjokoinoahaadoor", sum := "17b7a95e299aa2479e5e382c1221099ee622c6c5f520b42df575cff1b7761239", func := "ferryman/ferrymanlaw15.WordsPlays", spec := "wordsPlays", unfollowed := true, recurses := true, named := ["math/bits.deBruijn64tab"], apart := false, laid := [("math/bits.deBruijn64tab", laid_math_bits_deBruijn64tab)] }
def WordsPlaysSaid : Prop := wordsPlaysRow.holds Tryd.pinned (OpenSpec.ofChange wordsPlaysSpec)

/-- ITS FALSE NEIGHBOUR: 'it returns false'. Refute it at one input. -/
def wordsPlaysWrong : ChangeSpec := { name := "wordsPlays", fn := fun _ => fun
  | [d] => { results := [.lit (.bool false)], args := [d] }
  | _ => none }
def WordsPlaysWrongFalsely : Prop := wordsPlaysRow.holds Tryd.pinned (OpenSpec.ofChange wordsPlaysWrong)

/-- 'ferrymanlaw15.WordsNil': WHATEVER THE INPUT: true; the input reads as it did. -/
def wordsNilSpec : ChangeSpec := { name := "wordsNil", fn := fun _ => fun
  | [d] => { results := [.lit (.bool true)], args := [d] }
  | _ => none }
def wordsNilRow : OpenClaim := { program := "ytkmcjokoinoahaadoor", sum := "17b7a95e299aa2479e5e382c1221099ee622c6c5f520b42df575cff1b7761239", func := "ferryman/ferrymanlaw15.WordsNil", spec := "wordsNil", unfollowed := true, recurses := true, named := ["math/bits.deBruijn64tab"], apart := false, laid := [("math/bits.deBruijn64tab", laid_math_bits_deBruijn64tab)] }
def WordsNilSaid : Prop := wordsNilRow.holds Tryd.pinned (OpenSpec.ofChange wordsNilSpec)

/-- ITS FALSE NEIGHBOUR: 'it returns false'. Refute it at one input. -/
def wordsNilWrong : ChangeSpec := { name := "wordsNil", fn := fun _ => fun
  | [d] => { results := [.lit (.bool false)], args := [d] }
  | _ => none }
def WordsNilWrongFalsely : Prop := wordsNilRow.holds Tryd.pinned (OpenSpec.ofChange wordsNilWrong)

/- THE SECOND FORM. 'bulk': how many values and letters a reading holds, each counted each time it is reached (what is shared counts as often as it is met; a slice's spare places count too). A statement '..UptoSaid' is the law's where the arguments, and the package variables that the reading takes, are together of bulk at most 1048576: NARROWER than '..Said'. Prove '..Said' where nothing that the law and all that it calls make is longer than what came in: it says more and counts as full. Else prove '..UptoSaid'. A law counts once. -/
mutual
def uptoBulk {H : Type} : DataW H → Nat
  | .lit (.string bytes) => bytes.length + 1
  | .lit _ => 1
  | .nil => 1
  | .ptr d => uptoBulk d + 1
  | .slice elems spare => uptoBulkAll elems + uptoBulkAll spare + 1
  | .agg parts => uptoBulkAll parts + 1
  | .iface _ d => uptoBulk d + 1
  | .map entries => uptoBulkEntries entries + 1
  | .held _ => 1
def uptoBulkAll {H : Type} : List (DataW H) → Nat
  | [] => 0
  | d :: r => uptoBulk d + uptoBulkAll r
def uptoBulkEntries {H : Type} : List (Lit × DataW H) → Nat
  | [] => 0
  | x :: r => uptoBulkEntry x + uptoBulkEntries r
def uptoBulkEntry {H : Type} : Lit × DataW H → Nat
  | (.string bytes, d) => bytes.length + uptoBulk d + 1
  | (_, d) => uptoBulk d + 1
 end
def uptoSmall : (H : Type) → List (DataW H) → Bool := fun _ ds => decide (uptoBulkAll ds ≤ 1048576)
def OpenSpec.upto (s : _root_.Go.ChangeSpec) : _root_.Go.OpenSpec := { _root_.Go.OpenSpec.ofChange s with cond := some uptoSmall }

/-- 'ferrymanlaw03.FaultCodes', WHERE WHAT IT READS IS OF BULK AT MOST 1048576: true; the input reads as it did. -/
def faultCodesUptoRow : OpenClaim := { program := "ytkmcjokoinoahaadoor", sum := "17b7a95e299aa2479e5e382c1221099ee622c6c5f520b42df575cff1b7761239", func := "ferryman/ferrymanlaw03.FaultCodes", spec := "faultCodes", inPlace := ["internal/reflectlite.ValueOf", "(internal/reflectlite.Value).Type", "(internal/reflectlite.Value).IsNil", "internal/reflectlite.TypeOf", "(internal/reflectlite.Value).Elem", "(internal/reflectlite.Value).Set"], unfollowed := true, recurses := true, named := ["errors.errorType"], apart := false, laid := [("errors.errorType", laid_errors_errorType)], narrowed := true }
def FaultCodesUptoSaid : Prop := faultCodesUptoRow.holds Tryd.pinned (OpenSpec.upto faultCodesSpec)

/-- 'ferrymanlaw03.FaultWhere', WHERE WHAT IT READS IS OF BULK AT MOST 1048576: true; the input reads as it did. -/
def faultWhereUptoRow : OpenClaim := { program := "ytkmcjokoinoahaadoor", sum := "17b7a95e299aa2479e5e382c1221099ee622c6c5f520b42df575cff1b7761239", func := "ferryman/ferrymanlaw03.FaultWhere", spec := "faultWhere", inPlace := ["internal/reflectlite.ValueOf", "(internal/reflectlite.Value).Type", "(internal/reflectlite.Value).IsNil", "internal/reflectlite.TypeOf", "(internal/reflectlite.Value).Elem", "(internal/reflectlite.Value).Set"], unfollowed := true, recurses := true, named := ["errors.errorType"], apart := false, laid := [("errors.errorType", laid_errors_errorType)], narrowed := true }
def FaultWhereUptoSaid : Prop := faultWhereUptoRow.holds Tryd.pinned (OpenSpec.upto faultWhereSpec)

/-- 'ferrymanlaw03.FaultNone', WHERE WHAT IT READS IS OF BULK AT MOST 1048576: true; the input reads as it did. -/
def faultNoneUptoRow : OpenClaim := { program := "ytkmcjokoinoahaadoor", sum := "17b7a95e299aa2479e5e382c1221099ee622c6c5f520b42df575cff1b7761239", func := "ferryman/ferrymanlaw03.FaultNone", spec := "faultNone", inPlace := ["internal/reflectlite.ValueOf", "(internal/reflectlite.Value).Type", "(internal/reflectlite.Value).IsNil", "internal/reflectlite.TypeOf", "(internal/reflectlite.Value).Elem", "(internal/reflectlite.Value).Set"], unfollowed := true, recurses := true, named := ["errors.errorType"], apart := false, laid := [("errors.errorType", laid_errors_errorType)], narrowed := true }
def FaultNoneUptoSaid : Prop := faultNoneUptoRow.holds Tryd.pinned (OpenSpec.upto faultNoneSpec)

/-- 'ferrymanlaw03.FaultSteps', WHERE WHAT IT READS IS OF BULK AT MOST 1048576: true; the input reads as it did. -/
def faultStepsUptoRow : OpenClaim := { program := "ytkmcjokoinoahaadoor", sum := "17b7a95e299aa2479e5e382c1221099ee622c6c5f520b42df575cff1b7761239", func := "ferryman/ferrymanlaw03.FaultSteps", spec := "faultSteps", inPlace := ["internal/reflectlite.ValueOf", "(internal/reflectlite.Value).Type", "(internal/reflectlite.Value).IsNil", "internal/reflectlite.TypeOf", "(internal/reflectlite.Value).Elem", "(internal/reflectlite.Value).Set"], unfollowed := true, recurses := true, named := ["errors.errorType"], apart := false, laid := [("errors.errorType", laid_errors_errorType)], narrowed := true }
def FaultStepsUptoSaid : Prop := faultStepsUptoRow.holds Tryd.pinned (OpenSpec.upto faultStepsSpec)

/-- 'ferrymanlaw03.FaultIs', WHERE WHAT IT READS IS OF BULK AT MOST 1048576: true; the input reads as it did. -/
def faultIsUptoRow : OpenClaim := { program := "ytkmcjokoinoahaadoor", sum := "17b7a95e299aa2479e5e382c1221099ee622c6c5f520b42df575cff1b7761239", func := "ferryman/ferrymanlaw03.FaultIs", spec := "faultIs", inPlace := ["internal/reflectlite.ValueOf", "(internal/reflectlite.Value).Type", "(internal/reflectlite.Value).IsNil", "internal/reflectlite.TypeOf", "(internal/reflectlite.Value).Elem", "(internal/reflectlite.Value).Set"], unfollowed := true, recurses := true, named := ["errors.errorType"], apart := false, laid := [("errors.errorType", laid_errors_errorType)], narrowed := true }
def FaultIsUptoSaid : Prop := faultIsUptoRow.holds Tryd.pinned (OpenSpec.upto faultIsSpec)

/-- 'ferrymanlaw03.FaultMore', WHERE WHAT IT READS IS OF BULK AT MOST 1048576: true; the input reads as it did. -/
def faultMoreUptoRow : OpenClaim := { program := "ytkmcjokoinoahaadoor", sum := "17b7a95e299aa2479e5e382c1221099ee622c6c5f520b42df575cff1b7761239", func := "ferryman/ferrymanlaw03.FaultMore", spec := "faultMore", inPlace := ["internal/reflectlite.ValueOf", "(internal/reflectlite.Value).Type", "(internal/reflectlite.Value).IsNil", "internal/reflectlite.TypeOf", "(internal/reflectlite.Value).Elem", "(internal/reflectlite.Value).Set"], unfollowed := true, recurses := true, named := ["errors.errorType"], apart := false, laid := [("errors.errorType", laid_errors_errorType)], narrowed := true }
def FaultMoreUptoSaid : Prop := faultMoreUptoRow.holds Tryd.pinned (OpenSpec.upto faultMoreSpec)

/-- 'ferrymanlaw11.ClientRuns', WHERE WHAT IT READS IS OF BULK AT MOST 1048576: true; the input reads as it did. -/
def clientRunsUptoRow : OpenClaim := { program := "ytkmcjokoinoahaadoor", sum := "17b7a95e299aa2479e5e382c1221099ee622c6c5f520b42df575cff1b7761239", func := "ferryman/ferrymanlaw11.ClientRuns", spec := "clientRuns", inPlace := ["internal/reflectlite.ValueOf", "(internal/reflectlite.Value).Type", "(internal/reflectlite.Value).IsNil", "internal/reflectlite.TypeOf", "(internal/reflectlite.Value).Elem", "(internal/reflectlite.Value).Set"], unfollowed := true, recurses := true, named := ["ferryman/sha.words", "errors.errorType", "ferryman/ferrymanref01.roots"], apart := false, laid := [("ferryman/ferrymanref01.roots", laid_ferryman_ferrymanref01_roots), ("ferryman/sha.words", laid_ferryman_sha_words), ("errors.errorType", laid_errors_errorType)], narrowed := true }
def ClientRunsUptoSaid : Prop := clientRunsUptoRow.holds Tryd.pinned (OpenSpec.upto clientRunsSpec)

/-- 'ferrymanlaw11.ClientFreezes', WHERE WHAT IT READS IS OF BULK AT MOST 1048576: true; the input reads as it did. -/
def clientFreezesUptoRow : OpenClaim := { program := "ytkmcjokoinoahaadoor", sum := "17b7a95e299aa2479e5e382c1221099ee622c6c5f520b42df575cff1b7761239", func := "ferryman/ferrymanlaw11.ClientFreezes", spec := "clientFreezes", inPlace := ["internal/reflectlite.ValueOf", "(internal/reflectlite.Value).Type", "(internal/reflectlite.Value).IsNil", "internal/reflectlite.TypeOf", "(internal/reflectlite.Value).Elem", "(internal/reflectlite.Value).Set"], unfollowed := true, recurses := true, named := ["ferryman/sha.words", "errors.errorType", "ferryman/ferrymanref01.roots"], apart := false, laid := [("ferryman/ferrymanref01.roots", laid_ferryman_ferrymanref01_roots), ("ferryman/sha.words", laid_ferryman_sha_words), ("errors.errorType", laid_errors_errorType)], narrowed := true }
def ClientFreezesUptoSaid : Prop := clientFreezesUptoRow.holds Tryd.pinned (OpenSpec.upto clientFreezesSpec)

/-- 'ferrymanlaw11.ClientRefuses', WHERE WHAT IT READS IS OF BULK AT MOST 1048576: true; the input reads as it did. -/
def clientRefusesUptoRow : OpenClaim := { program := "ytkmcjokoinoahaadoor", sum := "17b7a95e299aa2479e5e382c1221099ee622c6c5f520b42df575cff1b7761239", func := "ferryman/ferrymanlaw11.ClientRefuses", spec := "clientRefuses", inPlace := ["internal/reflectlite.ValueOf", "(internal/reflectlite.Value).Type", "(internal/reflectlite.Value).IsNil", "internal/reflectlite.TypeOf", "(internal/reflectlite.Value).Elem", "(internal/reflectlite.Value).Set"], unfollowed := true, recurses := true, named := ["ferryman/sha.words", "errors.errorType", "ferryman/ferrymanref01.roots"], apart := false, laid := [("ferryman/ferrymanref01.roots", laid_ferryman_ferrymanref01_roots), ("ferryman/sha.words", laid_ferryman_sha_words), ("errors.errorType", laid_errors_errorType)], narrowed := true }
def ClientRefusesUptoSaid : Prop := clientRefusesUptoRow.holds Tryd.pinned (OpenSpec.upto clientRefusesSpec)

/-- 'ferrymanlaw11.ClientPlays', WHERE WHAT IT READS IS OF BULK AT MOST 1048576: true; the input reads as it did. -/
def clientPlaysUptoRow : OpenClaim := { program := "ytkmcjokoinoahaadoor", sum := "17b7a95e299aa2479e5e382c1221099ee622c6c5f520b42df575cff1b7761239", func := "ferryman/ferrymanlaw11.ClientPlays", spec := "clientPlays", inPlace := ["internal/reflectlite.ValueOf", "(internal/reflectlite.Value).Type", "(internal/reflectlite.Value).IsNil", "internal/reflectlite.TypeOf", "(internal/reflectlite.Value).Elem", "(internal/reflectlite.Value).Set"], unfollowed := true, recurses := true, named := ["ferryman/sha.words", "errors.errorType", "ferryman/ferrymanref01.roots"], apart := false, laid := [("ferryman/ferrymanref01.roots", laid_ferryman_ferrymanref01_roots), ("ferryman/sha.words", laid_ferryman_sha_words), ("errors.errorType", laid_errors_errorType)], narrowed := true }
def ClientPlaysUptoSaid : Prop := clientPlaysUptoRow.holds Tryd.pinned (OpenSpec.upto clientPlaysSpec)

/-- 'ferrymanlaw11.ClientNil', WHERE WHAT IT READS IS OF BULK AT MOST 1048576: true; the input reads as it did. -/
def clientNilUptoRow : OpenClaim := { program := "ytkmcjokoinoahaadoor", sum := "17b7a95e299aa2479e5e382c1221099ee622c6c5f520b42df575cff1b7761239", func := "ferryman/ferrymanlaw11.ClientNil", spec := "clientNil", inPlace := ["internal/reflectlite.ValueOf", "(internal/reflectlite.Value).Type", "(internal/reflectlite.Value).IsNil", "internal/reflectlite.TypeOf", "(internal/reflectlite.Value).Elem", "(internal/reflectlite.Value).Set"], unfollowed := true, recurses := true, named := ["ferryman/sha.words", "errors.errorType"], apart := false, laid := [("ferryman/sha.words", laid_ferryman_sha_words), ("errors.errorType", laid_errors_errorType)], narrowed := true }
def ClientNilUptoSaid : Prop := clientNilUptoRow.holds Tryd.pinned (OpenSpec.upto clientNilSpec)

/-- 'ferrymanlaw15.WordsFew', WHERE WHAT IT READS IS OF BULK AT MOST 1048576: true; the input reads as it did. -/
def wordsFewUptoRow : OpenClaim := { program := "ytkmcjokoinoahaadoor", sum := "17b7a95e299aa2479e5e382c1221099ee622c6c5f520b42df575cff1b7761239", func := "ferryman/ferrymanlaw15.WordsFew", spec := "wordsFew", unfollowed := true, recurses := true, named := ["math/bits.deBruijn64tab"], apart := false, laid := [("math/bits.deBruijn64tab", laid_math_bits_deBruijn64tab)], narrowed := true }
def WordsFewUptoSaid : Prop := wordsFewUptoRow.holds Tryd.pinned (OpenSpec.upto wordsFewSpec)

/-- 'ferrymanlaw15.WordsSets', WHERE WHAT IT READS IS OF BULK AT MOST 1048576: true; the input reads as it did. -/
def wordsSetsUptoRow : OpenClaim := { program := "ytkmcjokoinoahaadoor", sum := "17b7a95e299aa2479e5e382c1221099ee622c6c5f520b42df575cff1b7761239", func := "ferryman/ferrymanlaw15.WordsSets", spec := "wordsSets", unfollowed := true, recurses := true, named := ["math/bits.deBruijn64tab"], apart := false, laid := [("math/bits.deBruijn64tab", laid_math_bits_deBruijn64tab)], narrowed := true }
def WordsSetsUptoSaid : Prop := wordsSetsUptoRow.holds Tryd.pinned (OpenSpec.upto wordsSetsSpec)

/-- 'ferrymanlaw15.WordsPlays', WHERE WHAT IT READS IS OF BULK AT MOST 1048576: true; the input reads as it did. -/
def wordsPlaysUptoRow : OpenClaim := { program := "ytkmcjokoinoahaadoor", sum := "17b7a95e299aa2479e5e382c1221099ee622c6c5f520b42df575cff1b7761239", func := "ferryman/ferrymanlaw15.WordsPlays", spec := "wordsPlays", unfollowed := true, recurses := true, named := ["math/bits.deBruijn64tab"], apart := false, laid := [("math/bits.deBruijn64tab", laid_math_bits_deBruijn64tab)], narrowed := true }
def WordsPlaysUptoSaid : Prop := wordsPlaysUptoRow.holds Tryd.pinned (OpenSpec.upto wordsPlaysSpec)

/-- 'ferrymanlaw15.WordsNil', WHERE WHAT IT READS IS OF BULK AT MOST 1048576: true; the input reads as it did. -/
def wordsNilUptoRow : OpenClaim := { program := "ytkmcjokoinoahaadoor", sum := "17b7a95e299aa2479e5e382c1221099ee622c6c5f520b42df575cff1b7761239", func := "ferryman/ferrymanlaw15.WordsNil", spec := "wordsNil", unfollowed := true, recurses := true, named := ["math/bits.deBruijn64tab"], apart := false, laid := [("math/bits.deBruijn64tab", laid_math_bits_deBruijn64tab)], narrowed := true }
def WordsNilUptoSaid : Prop := wordsNilUptoRow.holds Tryd.pinned (OpenSpec.upto wordsNilSpec)

end Rows
end Go.Proofs.YtkmcjokoinoahaaDoor
