/-
  No cell of these rows narrows 'for every input' (looked for: loops, veiled, ifaces, maps, wideKeys, modest, calm, conditions, laid).
  DERIVED. THE GIVEN ROWS OF THIS SEAT. 16 by the template 'for every input the law returns true; each argument reads behind the call as it read before'; 0 by the template 'total and deterministic' (their statements: YtjjcjdefenbnjaaTotals.lean).
  GIVEN WITH THE SEED: the statements are not yours to turn. If you find one false, say at which input.
  Laid BY PROGRAM, IN A SANDBOX (cutbox-rows.mjs): the forced cells as the released guide's own fill.sh prints them over the translation 21cb687de78f353c… (all of the seat's roots in one cut). By AI agents, Wed Nov 11 2026. No macro, syntax, notation, axiom, sorry.
-/
import Derived.Test.YtjjcjdefenbnjaaChecked
import GoSem.Claim
import GoSem.ClaimJoined
import GoSem.ClaimMapViews
import Derived.JoinedTies
import Derived.KernelRfl
namespace Go.Proofs.Ytjjcjdefenbnjaa
/- THE CELL 'sum', in the pinned program and in every row, IS THE sha256 OF THE DUMP (.gsa) THAT YtjjcjdefenbnjaaProg.lean LOADS. Nothing in Lean hashes anything: it is a label: what it is worth is what the hold of that sum in a sandbox is worth. -/
noncomputable def Try.pinned : Pinned := { name := "ytjjcjdefenbnjaa", sum := "21cb687de78f353c92e3a50d17cca906fbe781615fed1c56e9484bced31d23d3", checked := Try.checked }
namespace Rows
def none {H : Type} : Left H := { results := [], args := [] }

/-- 'ferrymanlaw02.TlvPuts': WHATEVER THE INPUT: true; the input reads as it did. -/
def tlvPutsSpec : ChangeSpec := { name := "tlvPuts", fn := fun _ => fun
  | [d1, d2, d3, d4] => { results := [.lit (.bool true)], args := [d1, d2, d3, d4] }
  | _ => none }
def tlvPutsRow : OpenClaim := { program := "ytjjcjdefenbnjaa", sum := "21cb687de78f353c92e3a50d17cca906fbe781615fed1c56e9484bced31d23d3", func := "ferryman/ferrymanlaw02.TlvPuts", spec := "tlvPuts", apart := false }
def TlvPutsSaid : Prop := tlvPutsRow.holds Try.pinned (OpenSpec.ofChange tlvPutsSpec)

/-- ITS FALSE NEIGHBOUR: 'it returns false'. Refute it at one input. -/
def tlvPutsWrong : ChangeSpec := { name := "tlvPuts", fn := fun _ => fun
  | [d1, d2, d3, d4] => { results := [.lit (.bool false)], args := [d1, d2, d3, d4] }
  | _ => none }
def TlvPutsWrongFalsely : Prop := tlvPutsRow.holds Try.pinned (OpenSpec.ofChange tlvPutsWrong)

/-- 'ferrymanlaw02.TlvOrder': WHATEVER THE INPUT: true; the input reads as it did. -/
def tlvOrderSpec : ChangeSpec := { name := "tlvOrder", fn := fun _ => fun
  | [d1, d2] => { results := [.lit (.bool true)], args := [d1, d2] }
  | _ => none }
def tlvOrderRow : OpenClaim := { program := "ytjjcjdefenbnjaa", sum := "21cb687de78f353c92e3a50d17cca906fbe781615fed1c56e9484bced31d23d3", func := "ferryman/ferrymanlaw02.TlvOrder", spec := "tlvOrder", apart := false }
def TlvOrderSaid : Prop := tlvOrderRow.holds Try.pinned (OpenSpec.ofChange tlvOrderSpec)

/-- ITS FALSE NEIGHBOUR: 'it returns false'. Refute it at one input. -/
def tlvOrderWrong : ChangeSpec := { name := "tlvOrder", fn := fun _ => fun
  | [d1, d2] => { results := [.lit (.bool false)], args := [d1, d2] }
  | _ => none }
def TlvOrderWrongFalsely : Prop := tlvOrderRow.holds Try.pinned (OpenSpec.ofChange tlvOrderWrong)

/-- 'ferrymanlaw02.TlvNums': WHATEVER THE INPUT: true; the input reads as it did. -/
def tlvNumsSpec : ChangeSpec := { name := "tlvNums", fn := fun _ => fun
  | [d1, d2] => { results := [.lit (.bool true)], args := [d1, d2] }
  | _ => none }
def tlvNumsRow : OpenClaim := { program := "ytjjcjdefenbnjaa", sum := "21cb687de78f353c92e3a50d17cca906fbe781615fed1c56e9484bced31d23d3", func := "ferryman/ferrymanlaw02.TlvNums", spec := "tlvNums", apart := false }
def TlvNumsSaid : Prop := tlvNumsRow.holds Try.pinned (OpenSpec.ofChange tlvNumsSpec)

/-- ITS FALSE NEIGHBOUR: 'it returns false'. Refute it at one input. -/
def tlvNumsWrong : ChangeSpec := { name := "tlvNums", fn := fun _ => fun
  | [d1, d2] => { results := [.lit (.bool false)], args := [d1, d2] }
  | _ => none }
def TlvNumsWrongFalsely : Prop := tlvNumsRow.holds Try.pinned (OpenSpec.ofChange tlvNumsWrong)

/-- 'ferrymanlaw15.WordsPlace': WHATEVER THE INPUT: true; the input reads as it did. -/
def wordsPlaceSpec : ChangeSpec := { name := "wordsPlace", fn := fun _ => fun
  | [d] => { results := [.lit (.bool true)], args := [d] }
  | _ => none }
def wordsPlaceRow : OpenClaim := { program := "ytjjcjdefenbnjaa", sum := "21cb687de78f353c92e3a50d17cca906fbe781615fed1c56e9484bced31d23d3", func := "ferryman/ferrymanlaw15.WordsPlace", spec := "wordsPlace", apart := false }
def WordsPlaceSaid : Prop := wordsPlaceRow.holds Try.pinned (OpenSpec.ofChange wordsPlaceSpec)

/-- ITS FALSE NEIGHBOUR: 'it returns false'. Refute it at one input. -/
def wordsPlaceWrong : ChangeSpec := { name := "wordsPlace", fn := fun _ => fun
  | [d] => { results := [.lit (.bool false)], args := [d] }
  | _ => none }
def WordsPlaceWrongFalsely : Prop := wordsPlaceRow.holds Try.pinned (OpenSpec.ofChange wordsPlaceWrong)

/-- 'ferrymanlaw02.TlvParses': WHATEVER THE INPUT: true; the input reads as it did. -/
def tlvParsesSpec : ChangeSpec := { name := "tlvParses", fn := fun _ => fun
  | [d1, d2, d3] => { results := [.lit (.bool true)], args := [d1, d2, d3] }
  | _ => none }
def tlvParsesRow : OpenClaim := { program := "ytjjcjdefenbnjaa", sum := "21cb687de78f353c92e3a50d17cca906fbe781615fed1c56e9484bced31d23d3", func := "ferryman/ferrymanlaw02.TlvParses", spec := "tlvParses", apart := false }
def TlvParsesSaid : Prop := tlvParsesRow.holds Try.pinned (OpenSpec.ofChange tlvParsesSpec)

/-- ITS FALSE NEIGHBOUR: 'it returns false'. Refute it at one input. -/
def tlvParsesWrong : ChangeSpec := { name := "tlvParses", fn := fun _ => fun
  | [d1, d2, d3] => { results := [.lit (.bool false)], args := [d1, d2, d3] }
  | _ => none }
def TlvParsesWrongFalsely : Prop := tlvParsesRow.holds Try.pinned (OpenSpec.ofChange tlvParsesWrong)

/-- 'ferrymanlaw02.TlvBack': WHATEVER THE INPUT: true; the input reads as it did. -/
def tlvBackSpec : ChangeSpec := { name := "tlvBack", fn := fun _ => fun
  | [d] => { results := [.lit (.bool true)], args := [d] }
  | _ => none }
def tlvBackRow : OpenClaim := { program := "ytjjcjdefenbnjaa", sum := "21cb687de78f353c92e3a50d17cca906fbe781615fed1c56e9484bced31d23d3", func := "ferryman/ferrymanlaw02.TlvBack", spec := "tlvBack", apart := false }
def TlvBackSaid : Prop := tlvBackRow.holds Try.pinned (OpenSpec.ofChange tlvBackSpec)

/-- ITS FALSE NEIGHBOUR: 'it returns false'. Refute it at one input. -/
def tlvBackWrong : ChangeSpec := { name := "tlvBack", fn := fun _ => fun
  | [d] => { results := [.lit (.bool false)], args := [d] }
  | _ => none }
def TlvBackWrongFalsely : Prop := tlvBackRow.holds Try.pinned (OpenSpec.ofChange tlvBackWrong)

/-- 'ferrymanlaw02.TlvCut': WHATEVER THE INPUT: true; the input reads as it did. -/
def tlvCutSpec : ChangeSpec := { name := "tlvCut", fn := fun _ => fun
  | [d1, d2] => { results := [.lit (.bool true)], args := [d1, d2] }
  | _ => none }
def tlvCutRow : OpenClaim := { program := "ytjjcjdefenbnjaa", sum := "21cb687de78f353c92e3a50d17cca906fbe781615fed1c56e9484bced31d23d3", func := "ferryman/ferrymanlaw02.TlvCut", spec := "tlvCut", apart := false }
def TlvCutSaid : Prop := tlvCutRow.holds Try.pinned (OpenSpec.ofChange tlvCutSpec)

/-- ITS FALSE NEIGHBOUR: 'it returns false'. Refute it at one input. -/
def tlvCutWrong : ChangeSpec := { name := "tlvCut", fn := fun _ => fun
  | [d1, d2] => { results := [.lit (.bool false)], args := [d1, d2] }
  | _ => none }
def TlvCutWrongFalsely : Prop := tlvCutRow.holds Try.pinned (OpenSpec.ofChange tlvCutWrong)

/-- 'ferrymanlaw02.TlvPacks': WHATEVER THE INPUT: true; the input reads as it did. -/
def tlvPacksSpec : ChangeSpec := { name := "tlvPacks", fn := fun _ => fun
  | [d1, d2, d3] => { results := [.lit (.bool true)], args := [d1, d2, d3] }
  | _ => none }
def tlvPacksRow : OpenClaim := { program := "ytjjcjdefenbnjaa", sum := "21cb687de78f353c92e3a50d17cca906fbe781615fed1c56e9484bced31d23d3", func := "ferryman/ferrymanlaw02.TlvPacks", spec := "tlvPacks", apart := false }
def TlvPacksSaid : Prop := tlvPacksRow.holds Try.pinned (OpenSpec.ofChange tlvPacksSpec)

/-- ITS FALSE NEIGHBOUR: 'it returns false'. Refute it at one input. -/
def tlvPacksWrong : ChangeSpec := { name := "tlvPacks", fn := fun _ => fun
  | [d1, d2, d3] => { results := [.lit (.bool false)], args := [d1, d2, d3] }
  | _ => none }
def TlvPacksWrongFalsely : Prop := tlvPacksRow.holds Try.pinned (OpenSpec.ofChange tlvPacksWrong)

/-- 'ferrymanlaw13.DenomChecks': WHATEVER THE INPUT: true; the input reads as it did. -/
def denomChecksSpec : ChangeSpec := { name := "denomChecks", fn := fun _ => fun
  | [d1, d2] => { results := [.lit (.bool true)], args := [d1, d2] }
  | _ => none }
def denomChecksRow : OpenClaim := { program := "ytjjcjdefenbnjaa", sum := "21cb687de78f353c92e3a50d17cca906fbe781615fed1c56e9484bced31d23d3", func := "ferryman/ferrymanlaw13.DenomChecks", spec := "denomChecks", apart := false }
def DenomChecksSaid : Prop := denomChecksRow.holds Try.pinned (OpenSpec.ofChange denomChecksSpec)

/-- ITS FALSE NEIGHBOUR: 'it returns false'. Refute it at one input. -/
def denomChecksWrong : ChangeSpec := { name := "denomChecks", fn := fun _ => fun
  | [d1, d2] => { results := [.lit (.bool false)], args := [d1, d2] }
  | _ => none }
def DenomChecksWrongFalsely : Prop := denomChecksRow.holds Try.pinned (OpenSpec.ofChange denomChecksWrong)

/-- 'ferrymanlaw13.DenomThere': WHATEVER THE INPUT: true; the input reads as it did. -/
def denomThereSpec : ChangeSpec := { name := "denomThere", fn := fun _ => fun
  | [d1, d2, d3] => { results := [.lit (.bool true)], args := [d1, d2, d3] }
  | _ => none }
def denomThereRow : OpenClaim := { program := "ytjjcjdefenbnjaa", sum := "21cb687de78f353c92e3a50d17cca906fbe781615fed1c56e9484bced31d23d3", func := "ferryman/ferrymanlaw13.DenomThere", spec := "denomThere", apart := false }
def DenomThereSaid : Prop := denomThereRow.holds Try.pinned (OpenSpec.ofChange denomThereSpec)

/-- ITS FALSE NEIGHBOUR: 'it returns false'. Refute it at one input. -/
def denomThereWrong : ChangeSpec := { name := "denomThere", fn := fun _ => fun
  | [d1, d2, d3] => { results := [.lit (.bool false)], args := [d1, d2, d3] }
  | _ => none }
def DenomThereWrongFalsely : Prop := denomThereRow.holds Try.pinned (OpenSpec.ofChange denomThereWrong)

/-- 'ferrymanlaw13.DenomBack': WHATEVER THE INPUT: true; the input reads as it did. -/
def denomBackSpec : ChangeSpec := { name := "denomBack", fn := fun _ => fun
  | [d1, d2] => { results := [.lit (.bool true)], args := [d1, d2] }
  | _ => none }
def denomBackRow : OpenClaim := { program := "ytjjcjdefenbnjaa", sum := "21cb687de78f353c92e3a50d17cca906fbe781615fed1c56e9484bced31d23d3", func := "ferryman/ferrymanlaw13.DenomBack", spec := "denomBack", apart := false }
def DenomBackSaid : Prop := denomBackRow.holds Try.pinned (OpenSpec.ofChange denomBackSpec)

/-- ITS FALSE NEIGHBOUR: 'it returns false'. Refute it at one input. -/
def denomBackWrong : ChangeSpec := { name := "denomBack", fn := fun _ => fun
  | [d1, d2] => { results := [.lit (.bool false)], args := [d1, d2] }
  | _ => none }
def DenomBackWrongFalsely : Prop := denomBackRow.holds Try.pinned (OpenSpec.ofChange denomBackWrong)

/-- 'ferrymanlaw13.DenomApart': WHATEVER THE INPUT: true; the input reads as it did. -/
def denomApartSpec : ChangeSpec := { name := "denomApart", fn := fun _ => fun
  | [d1, d2, d3, d4, d5] => { results := [.lit (.bool true)], args := [d1, d2, d3, d4, d5] }
  | _ => none }
def denomApartRow : OpenClaim := { program := "ytjjcjdefenbnjaa", sum := "21cb687de78f353c92e3a50d17cca906fbe781615fed1c56e9484bced31d23d3", func := "ferryman/ferrymanlaw13.DenomApart", spec := "denomApart", apart := false }
def DenomApartSaid : Prop := denomApartRow.holds Try.pinned (OpenSpec.ofChange denomApartSpec)

/-- ITS FALSE NEIGHBOUR: 'it returns false'. Refute it at one input. -/
def denomApartWrong : ChangeSpec := { name := "denomApart", fn := fun _ => fun
  | [d1, d2, d3, d4, d5] => { results := [.lit (.bool false)], args := [d1, d2, d3, d4, d5] }
  | _ => none }
def DenomApartWrongFalsely : Prop := denomApartRow.holds Try.pinned (OpenSpec.ofChange denomApartWrong)

/-- 'ferrymanlaw13.DenomLong': WHATEVER THE INPUT: true; the input reads as it did. -/
def denomLongSpec : ChangeSpec := { name := "denomLong", fn := fun _ => fun
  | [d1, d2] => { results := [.lit (.bool true)], args := [d1, d2] }
  | _ => none }
def denomLongRow : OpenClaim := { program := "ytjjcjdefenbnjaa", sum := "21cb687de78f353c92e3a50d17cca906fbe781615fed1c56e9484bced31d23d3", func := "ferryman/ferrymanlaw13.DenomLong", spec := "denomLong", apart := false }
def DenomLongSaid : Prop := denomLongRow.holds Try.pinned (OpenSpec.ofChange denomLongSpec)

/-- ITS FALSE NEIGHBOUR: 'it returns false'. Refute it at one input. -/
def denomLongWrong : ChangeSpec := { name := "denomLong", fn := fun _ => fun
  | [d1, d2] => { results := [.lit (.bool false)], args := [d1, d2] }
  | _ => none }
def DenomLongWrongFalsely : Prop := denomLongRow.holds Try.pinned (OpenSpec.ofChange denomLongWrong)

/-- 'ferrymanlaw02.TlvOne': WHATEVER THE INPUT: true; the input reads as it did. -/
def tlvOneSpec : ChangeSpec := { name := "tlvOne", fn := fun _ => fun
  | [d] => { results := [.lit (.bool true)], args := [d] }
  | _ => none }
def tlvOneRow : OpenClaim := { program := "ytjjcjdefenbnjaa", sum := "21cb687de78f353c92e3a50d17cca906fbe781615fed1c56e9484bced31d23d3", func := "ferryman/ferrymanlaw02.TlvOne", spec := "tlvOne", apart := false }
def TlvOneSaid : Prop := tlvOneRow.holds Try.pinned (OpenSpec.ofChange tlvOneSpec)

/-- ITS FALSE NEIGHBOUR: 'it returns false'. Refute it at one input. -/
def tlvOneWrong : ChangeSpec := { name := "tlvOne", fn := fun _ => fun
  | [d] => { results := [.lit (.bool false)], args := [d] }
  | _ => none }
def TlvOneWrongFalsely : Prop := tlvOneRow.holds Try.pinned (OpenSpec.ofChange tlvOneWrong)

/-- 'ferrymanlaw04.ParcelBack': WHATEVER THE INPUT: true; the input reads as it did. -/
def parcelBackSpec : ChangeSpec := { name := "parcelBack", fn := fun _ => fun
  | [d1, d2, d3] => { results := [.lit (.bool true)], args := [d1, d2, d3] }
  | _ => none }
def parcelBackRow : OpenClaim := { program := "ytjjcjdefenbnjaa", sum := "21cb687de78f353c92e3a50d17cca906fbe781615fed1c56e9484bced31d23d3", func := "ferryman/ferrymanlaw04.ParcelBack", spec := "parcelBack", apart := false }
def ParcelBackSaid : Prop := parcelBackRow.holds Try.pinned (OpenSpec.ofChange parcelBackSpec)

/-- ITS FALSE NEIGHBOUR: 'it returns false'. Refute it at one input. -/
def parcelBackWrong : ChangeSpec := { name := "parcelBack", fn := fun _ => fun
  | [d1, d2, d3] => { results := [.lit (.bool false)], args := [d1, d2, d3] }
  | _ => none }
def ParcelBackWrongFalsely : Prop := parcelBackRow.holds Try.pinned (OpenSpec.ofChange parcelBackWrong)

/-- 'ferrymanlaw04.ParcelOne': WHATEVER THE INPUT: true; the input reads as it did. -/
def parcelOneSpec : ChangeSpec := { name := "parcelOne", fn := fun _ => fun
  | [d1, d2, d3, d4] => { results := [.lit (.bool true)], args := [d1, d2, d3, d4] }
  | _ => none }
def parcelOneRow : OpenClaim := { program := "ytjjcjdefenbnjaa", sum := "21cb687de78f353c92e3a50d17cca906fbe781615fed1c56e9484bced31d23d3", func := "ferryman/ferrymanlaw04.ParcelOne", spec := "parcelOne", apart := false }
def ParcelOneSaid : Prop := parcelOneRow.holds Try.pinned (OpenSpec.ofChange parcelOneSpec)

/-- ITS FALSE NEIGHBOUR: 'it returns false'. Refute it at one input. -/
def parcelOneWrong : ChangeSpec := { name := "parcelOne", fn := fun _ => fun
  | [d1, d2, d3, d4] => { results := [.lit (.bool false)], args := [d1, d2, d3, d4] }
  | _ => none }
def ParcelOneWrongFalsely : Prop := parcelOneRow.holds Try.pinned (OpenSpec.ofChange parcelOneWrong)

/- THE SECOND FORM. 'bulk': how many values and letters a reading holds, each counted each time it is reached (what is shared counts as often as it is met; a slice's spare places count too). A statement '..UptoSaid' is the law's where the arguments, and the package variables that the reading takes, are together of bulk at most 1048576: NARROWER than '..Said'. Prove '..Said' where nothing that the law and all that it calls make is longer than what came in: it says more and counts as full. Else prove '..UptoSaid'. A law counts once. -/
mutual
def uptoBulk {H : Type} : DataW H → Nat
  | .lit (.string bytes) => bytes.length + 1
  | .lit _ => 1
  | .nil => 1
  | .ptr d => uptoBulk d + 1
  | .slice elems spare => uptoBulkAll elems + uptoBulkAll spare + 1
  | .agg parts => uptoBulkAll parts + 1
  | .iface _ d => uptoBulk d + 1
  | .map entries => uptoBulkEntries entries + 1
  | .held _ => 1
def uptoBulkAll {H : Type} : List (DataW H) → Nat
  | [] => 0
  | d :: r => uptoBulk d + uptoBulkAll r
def uptoBulkEntries {H : Type} : List (Lit × DataW H) → Nat
  | [] => 0
  | x :: r => uptoBulkEntry x + uptoBulkEntries r
def uptoBulkEntry {H : Type} : Lit × DataW H → Nat
  | (.string bytes, d) => bytes.length + uptoBulk d + 1
  | (_, d) => uptoBulk d + 1
 end
def uptoSmall : (H : Type) → List (DataW H) → Bool := fun _ ds => decide (uptoBulkAll ds ≤ 1048576)
def OpenSpec.upto (s : _root_.Go.ChangeSpec) : _root_.Go.OpenSpec := { _root_.Go.OpenSpec.ofChange s with cond := some uptoSmall }

/-- 'ferrymanlaw02.TlvPuts', WHERE WHAT IT READS IS OF BULK AT MOST 1048576: true; the input reads as it did. -/
def tlvPutsUptoRow : OpenClaim := { program := "ytjjcjdefenbnjaa", sum := "21cb687de78f353c92e3a50d17cca906fbe781615fed1c56e9484bced31d23d3", func := "ferryman/ferrymanlaw02.TlvPuts", spec := "tlvPuts", apart := false, narrowed := true }
def TlvPutsUptoSaid : Prop := tlvPutsUptoRow.holds Try.pinned (OpenSpec.upto tlvPutsSpec)

/-- 'ferrymanlaw02.TlvOrder', WHERE WHAT IT READS IS OF BULK AT MOST 1048576: true; the input reads as it did. -/
def tlvOrderUptoRow : OpenClaim := { program := "ytjjcjdefenbnjaa", sum := "21cb687de78f353c92e3a50d17cca906fbe781615fed1c56e9484bced31d23d3", func := "ferryman/ferrymanlaw02.TlvOrder", spec := "tlvOrder", apart := false, narrowed := true }
def TlvOrderUptoSaid : Prop := tlvOrderUptoRow.holds Try.pinned (OpenSpec.upto tlvOrderSpec)

/-- 'ferrymanlaw02.TlvNums', WHERE WHAT IT READS IS OF BULK AT MOST 1048576: true; the input reads as it did. -/
def tlvNumsUptoRow : OpenClaim := { program := "ytjjcjdefenbnjaa", sum := "21cb687de78f353c92e3a50d17cca906fbe781615fed1c56e9484bced31d23d3", func := "ferryman/ferrymanlaw02.TlvNums", spec := "tlvNums", apart := false, narrowed := true }
def TlvNumsUptoSaid : Prop := tlvNumsUptoRow.holds Try.pinned (OpenSpec.upto tlvNumsSpec)

/-- 'ferrymanlaw15.WordsPlace', WHERE WHAT IT READS IS OF BULK AT MOST 1048576: true; the input reads as it did. -/
def wordsPlaceUptoRow : OpenClaim := { program := "ytjjcjdefenbnjaa", sum := "21cb687de78f353c92e3a50d17cca906fbe781615fed1c56e9484bced31d23d3", func := "ferryman/ferrymanlaw15.WordsPlace", spec := "wordsPlace", apart := false, narrowed := true }
def WordsPlaceUptoSaid : Prop := wordsPlaceUptoRow.holds Try.pinned (OpenSpec.upto wordsPlaceSpec)

/-- 'ferrymanlaw02.TlvParses', WHERE WHAT IT READS IS OF BULK AT MOST 1048576: true; the input reads as it did. -/
def tlvParsesUptoRow : OpenClaim := { program := "ytjjcjdefenbnjaa", sum := "21cb687de78f353c92e3a50d17cca906fbe781615fed1c56e9484bced31d23d3", func := "ferryman/ferrymanlaw02.TlvParses", spec := "tlvParses", apart := false, narrowed := true }
def TlvParsesUptoSaid : Prop := tlvParsesUptoRow.holds Try.pinned (OpenSpec.upto tlvParsesSpec)

/-- 'ferrymanlaw02.TlvBack', WHERE WHAT IT READS IS OF BULK AT MOST 1048576: true; the input reads as it did. -/
def tlvBackUptoRow : OpenClaim := { program := "ytjjcjdefenbnjaa", sum := "21cb687de78f353c92e3a50d17cca906fbe781615fed1c56e9484bced31d23d3", func := "ferryman/ferrymanlaw02.TlvBack", spec := "tlvBack", apart := false, narrowed := true }
def TlvBackUptoSaid : Prop := tlvBackUptoRow.holds Try.pinned (OpenSpec.upto tlvBackSpec)

/-- 'ferrymanlaw02.TlvCut', WHERE WHAT IT READS IS OF BULK AT MOST 1048576: true; the input reads as it did. -/
def tlvCutUptoRow : OpenClaim := { program := "ytjjcjdefenbnjaa", sum := "21cb687de78f353c92e3a50d17cca906fbe781615fed1c56e9484bced31d23d3", func := "ferryman/ferrymanlaw02.TlvCut", spec := "tlvCut", apart := false, narrowed := true }
def TlvCutUptoSaid : Prop := tlvCutUptoRow.holds Try.pinned (OpenSpec.upto tlvCutSpec)

/-- 'ferrymanlaw02.TlvPacks', WHERE WHAT IT READS IS OF BULK AT MOST 1048576: true; the input reads as it did. -/
def tlvPacksUptoRow : OpenClaim := { program := "ytjjcjdefenbnjaa", sum := "21cb687de78f353c92e3a50d17cca906fbe781615fed1c56e9484bced31d23d3", func := "ferryman/ferrymanlaw02.TlvPacks", spec := "tlvPacks", apart := false, narrowed := true }
def TlvPacksUptoSaid : Prop := tlvPacksUptoRow.holds Try.pinned (OpenSpec.upto tlvPacksSpec)

/-- 'ferrymanlaw13.DenomChecks', WHERE WHAT IT READS IS OF BULK AT MOST 1048576: true; the input reads as it did. -/
def denomChecksUptoRow : OpenClaim := { program := "ytjjcjdefenbnjaa", sum := "21cb687de78f353c92e3a50d17cca906fbe781615fed1c56e9484bced31d23d3", func := "ferryman/ferrymanlaw13.DenomChecks", spec := "denomChecks", apart := false, narrowed := true }
def DenomChecksUptoSaid : Prop := denomChecksUptoRow.holds Try.pinned (OpenSpec.upto denomChecksSpec)

/-- 'ferrymanlaw13.DenomThere', WHERE WHAT IT READS IS OF BULK AT MOST 1048576: true; the input reads as it did. -/
def denomThereUptoRow : OpenClaim := { program := "ytjjcjdefenbnjaa", sum := "21cb687de78f353c92e3a50d17cca906fbe781615fed1c56e9484bced31d23d3", func := "ferryman/ferrymanlaw13.DenomThere", spec := "denomThere", apart := false, narrowed := true }
def DenomThereUptoSaid : Prop := denomThereUptoRow.holds Try.pinned (OpenSpec.upto denomThereSpec)

/-- 'ferrymanlaw13.DenomBack', WHERE WHAT IT READS IS OF BULK AT MOST 1048576: true; the input reads as it did. -/
def denomBackUptoRow : OpenClaim := { program := "ytjjcjdefenbnjaa", sum := "21cb687de78f353c92e3a50d17cca906fbe781615fed1c56e9484bced31d23d3", func := "ferryman/ferrymanlaw13.DenomBack", spec := "denomBack", apart := false, narrowed := true }
def DenomBackUptoSaid : Prop := denomBackUptoRow.holds Try.pinned (OpenSpec.upto denomBackSpec)

/-- 'ferrymanlaw13.DenomApart', WHERE WHAT IT READS IS OF BULK AT MOST 1048576: true; the input reads as it did. -/
def denomApartUptoRow : OpenClaim := { program := "ytjjcjdefenbnjaa", sum := "21cb687de78f353c92e3a50d17cca906fbe781615fed1c56e9484bced31d23d3", func := "ferryman/ferrymanlaw13.DenomApart", spec := "denomApart", apart := false, narrowed := true }
def DenomApartUptoSaid : Prop := denomApartUptoRow.holds Try.pinned (OpenSpec.upto denomApartSpec)

/-- 'ferrymanlaw13.DenomLong', WHERE WHAT IT READS IS OF BULK AT MOST 1048576: true; the input reads as it did. -/
def denomLongUptoRow : OpenClaim := { program := "ytjjcjdefenbnjaa", sum := "21cb687de78f353c92e3a50d17cca906fbe781615fed1c56e9484bced31d23d3", func := "ferryman/ferrymanlaw13.DenomLong", spec := "denomLong", apart := false, narrowed := true }
def DenomLongUptoSaid : Prop := denomLongUptoRow.holds Try.pinned (OpenSpec.upto denomLongSpec)

/-- 'ferrymanlaw02.TlvOne', WHERE WHAT IT READS IS OF BULK AT MOST 1048576: true; the input reads as it did. -/
def tlvOneUptoRow : OpenClaim := { program := "ytjjcjdefenbnjaa", sum := "21cb687de78f353c92e3a50d17cca906fbe781615fed1c56e9484bced31d23d3", func := "ferryman/ferrymanlaw02.TlvOne", spec := "tlvOne", apart := false, narrowed := true }
def TlvOneUptoSaid : Prop := tlvOneUptoRow.holds Try.pinned (OpenSpec.upto tlvOneSpec)

/-- 'ferrymanlaw04.ParcelBack', WHERE WHAT IT READS IS OF BULK AT MOST 1048576: true; the input reads as it did. -/
def parcelBackUptoRow : OpenClaim := { program := "ytjjcjdefenbnjaa", sum := "21cb687de78f353c92e3a50d17cca906fbe781615fed1c56e9484bced31d23d3", func := "ferryman/ferrymanlaw04.ParcelBack", spec := "parcelBack", apart := false, narrowed := true }
def ParcelBackUptoSaid : Prop := parcelBackUptoRow.holds Try.pinned (OpenSpec.upto parcelBackSpec)

/-- 'ferrymanlaw04.ParcelOne', WHERE WHAT IT READS IS OF BULK AT MOST 1048576: true; the input reads as it did. -/
def parcelOneUptoRow : OpenClaim := { program := "ytjjcjdefenbnjaa", sum := "21cb687de78f353c92e3a50d17cca906fbe781615fed1c56e9484bced31d23d3", func := "ferryman/ferrymanlaw04.ParcelOne", spec := "parcelOne", apart := false, narrowed := true }
def ParcelOneUptoSaid : Prop := parcelOneUptoRow.holds Try.pinned (OpenSpec.upto parcelOneSpec)

end Rows
end Go.Proofs.Ytjjcjdefenbnjaa
