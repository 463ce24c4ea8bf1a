/-
  No cell of these rows narrows 'for every input' (looked for: loops, veiled, ifaces, maps, wideKeys, modest, calm, conditions, laid).
  DERIVED. THE GIVEN ROWS OF THIS SEAT. 12 by the template 'for every input the law returns true; each argument reads behind the call as it read before'; 0 by the template 'total and deterministic' (their statements: YtkibkldikjkokaaTotals.lean).
  GIVEN WITH THE SEED: the statements are not yours to turn. If you find one false, say at which input.
  Laid BY PROGRAM, IN A SANDBOX (cutbox-rows.mjs): the forced cells as the released guide's own fill.sh prints them over the translation 58c6197956b3fac9… (all of the seat's roots in one cut). By AI agents, Wed Nov 11 2026. No macro, syntax, notation, axiom, sorry.
-/
import Derived.Test.YtkibkldikjkokaaChecked
import GoSem.Claim
import GoSem.ClaimJoined
import GoSem.ClaimMapViews
import Derived.JoinedTies
import Derived.KernelRfl
namespace Go.Proofs.Ytkibkldikjkokaa
/- THE CELL 'sum', in the pinned program and in every row, IS THE sha256 OF THE DUMP (.gsa) THAT YtkibkldikjkokaaProg.lean LOADS. Nothing in Lean hashes anything: it is a label: what it is worth is what the hold of that sum in a sandbox is worth. -/
noncomputable def Try.pinned : Pinned := { name := "ytkibkldikjkokaa", sum := "58c6197956b3fac9dbb764adcea19020e361f429434770973e540eab66fdf1ee", checked := Try.checked }
namespace Rows
def none {H : Type} : Left H := { results := [], args := [] }

/-- 'pentimentolaw10.HashOrder': WHATEVER THE INPUT: true; the input reads as it did. -/
def hashOrderSpec : ChangeSpec := { name := "hashOrder", fn := fun _ => fun
  | [d] => { results := [.lit (.bool true)], args := [d] }
  | _ => none }
def hashOrderRow : OpenClaim := { program := "ytkibkldikjkokaa", sum := "58c6197956b3fac9dbb764adcea19020e361f429434770973e540eab66fdf1ee", func := "pentimento/pentimentolaw10.HashOrder", spec := "hashOrder", inPlace := ["slices.overlaps[pentimento/api.Pair]"], unfollowed := true, recurses := true, apart := false }
def HashOrderSaid : Prop := hashOrderRow.holds Try.pinned (OpenSpec.ofChange hashOrderSpec)

/-- ITS FALSE NEIGHBOUR: 'it returns false'. Refute it at one input. -/
def hashOrderWrong : ChangeSpec := { name := "hashOrder", fn := fun _ => fun
  | [d] => { results := [.lit (.bool false)], args := [d] }
  | _ => none }
def HashOrderWrongFalsely : Prop := hashOrderRow.holds Try.pinned (OpenSpec.ofChange hashOrderWrong)

/-- 'pentimentolaw10.HashSets': WHATEVER THE INPUT: true; the input reads as it did. -/
def hashSetsSpec : ChangeSpec := { name := "hashSets", fn := fun _ => fun
  | [d1, d2, d3] => { results := [.lit (.bool true)], args := [d1, d2, d3] }
  | _ => none }
def hashSetsRow : OpenClaim := { program := "ytkibkldikjkokaa", sum := "58c6197956b3fac9dbb764adcea19020e361f429434770973e540eab66fdf1ee", func := "pentimento/pentimentolaw10.HashSets", spec := "hashSets", inPlace := ["slices.overlaps[pentimento/api.Pair]"], unfollowed := true, recurses := true, apart := false }
def HashSetsSaid : Prop := hashSetsRow.holds Try.pinned (OpenSpec.ofChange hashSetsSpec)

/-- ITS FALSE NEIGHBOUR: 'it returns false'. Refute it at one input. -/
def hashSetsWrong : ChangeSpec := { name := "hashSets", fn := fun _ => fun
  | [d1, d2, d3] => { results := [.lit (.bool false)], args := [d1, d2, d3] }
  | _ => none }
def HashSetsWrongFalsely : Prop := hashSetsRow.holds Try.pinned (OpenSpec.ofChange hashSetsWrong)

/-- 'pentimentolaw10.HashDels': WHATEVER THE INPUT: true; the input reads as it did. -/
def hashDelsSpec : ChangeSpec := { name := "hashDels", fn := fun _ => fun
  | [d1, d2] => { results := [.lit (.bool true)], args := [d1, d2] }
  | _ => none }
def hashDelsRow : OpenClaim := { program := "ytkibkldikjkokaa", sum := "58c6197956b3fac9dbb764adcea19020e361f429434770973e540eab66fdf1ee", func := "pentimento/pentimentolaw10.HashDels", spec := "hashDels", inPlace := ["slices.overlaps[pentimento/api.Pair]"], unfollowed := true, recurses := true, apart := false }
def HashDelsSaid : Prop := hashDelsRow.holds Try.pinned (OpenSpec.ofChange hashDelsSpec)

/-- ITS FALSE NEIGHBOUR: 'it returns false'. Refute it at one input. -/
def hashDelsWrong : ChangeSpec := { name := "hashDels", fn := fun _ => fun
  | [d1, d2] => { results := [.lit (.bool false)], args := [d1, d2] }
  | _ => none }
def HashDelsWrongFalsely : Prop := hashDelsRow.holds Try.pinned (OpenSpec.ofChange hashDelsWrong)

/-- 'pentimentolaw10.HashBack': WHATEVER THE INPUT: true; the input reads as it did. -/
def hashBackSpec : ChangeSpec := { name := "hashBack", fn := fun _ => fun
  | [d1, d2] => { results := [.lit (.bool true)], args := [d1, d2] }
  | _ => none }
def hashBackRow : OpenClaim := { program := "ytkibkldikjkokaa", sum := "58c6197956b3fac9dbb764adcea19020e361f429434770973e540eab66fdf1ee", func := "pentimento/pentimentolaw10.HashBack", spec := "hashBack", inPlace := ["slices.overlaps[pentimento/api.Pair]"], unfollowed := true, recurses := true, apart := false }
def HashBackSaid : Prop := hashBackRow.holds Try.pinned (OpenSpec.ofChange hashBackSpec)

/-- ITS FALSE NEIGHBOUR: 'it returns false'. Refute it at one input. -/
def hashBackWrong : ChangeSpec := { name := "hashBack", fn := fun _ => fun
  | [d1, d2] => { results := [.lit (.bool false)], args := [d1, d2] }
  | _ => none }
def HashBackWrongFalsely : Prop := hashBackRow.holds Try.pinned (OpenSpec.ofChange hashBackWrong)

/-- 'pentimentolaw11.ListFinds': WHATEVER THE INPUT: true; the input reads as it did. -/
def listFindsSpec : ChangeSpec := { name := "listFinds", fn := fun _ => fun
  | [d1, d2, d3] => { results := [.lit (.bool true)], args := [d1, d2, d3] }
  | _ => none }
def listFindsRow : OpenClaim := { program := "ytkibkldikjkokaa", sum := "58c6197956b3fac9dbb764adcea19020e361f429434770973e540eab66fdf1ee", func := "pentimento/pentimentolaw11.ListFinds", spec := "listFinds", unfollowed := true, recurses := true, apart := false }
def ListFindsSaid : Prop := listFindsRow.holds Try.pinned (OpenSpec.ofChange listFindsSpec)

/-- ITS FALSE NEIGHBOUR: 'it returns false'. Refute it at one input. -/
def listFindsWrong : ChangeSpec := { name := "listFinds", fn := fun _ => fun
  | [d1, d2, d3] => { results := [.lit (.bool false)], args := [d1, d2, d3] }
  | _ => none }
def ListFindsWrongFalsely : Prop := listFindsRow.holds Try.pinned (OpenSpec.ofChange listFindsWrong)

/-- 'pentimentolaw11.ListEnds': WHATEVER THE INPUT: true; the input reads as it did. -/
def listEndsSpec : ChangeSpec := { name := "listEnds", fn := fun _ => fun
  | [d1, d2, d3] => { results := [.lit (.bool true)], args := [d1, d2, d3] }
  | _ => none }
def listEndsRow : OpenClaim := { program := "ytkibkldikjkokaa", sum := "58c6197956b3fac9dbb764adcea19020e361f429434770973e540eab66fdf1ee", func := "pentimento/pentimentolaw11.ListEnds", spec := "listEnds", unfollowed := true, recurses := true, apart := false }
def ListEndsSaid : Prop := listEndsRow.holds Try.pinned (OpenSpec.ofChange listEndsSpec)

/-- ITS FALSE NEIGHBOUR: 'it returns false'. Refute it at one input. -/
def listEndsWrong : ChangeSpec := { name := "listEnds", fn := fun _ => fun
  | [d1, d2, d3] => { results := [.lit (.bool false)], args := [d1, d2, d3] }
  | _ => none }
def ListEndsWrongFalsely : Prop := listEndsRow.holds Try.pinned (OpenSpec.ofChange listEndsWrong)

/-- 'pentimentolaw11.ListBack': WHATEVER THE INPUT: true; the input reads as it did. -/
def listBackSpec : ChangeSpec := { name := "listBack", fn := fun _ => fun
  | [d1, d2, d3] => { results := [.lit (.bool true)], args := [d1, d2, d3] }
  | _ => none }
def listBackRow : OpenClaim := { program := "ytkibkldikjkokaa", sum := "58c6197956b3fac9dbb764adcea19020e361f429434770973e540eab66fdf1ee", func := "pentimento/pentimentolaw11.ListBack", spec := "listBack", unfollowed := true, recurses := true, apart := false }
def ListBackSaid : Prop := listBackRow.holds Try.pinned (OpenSpec.ofChange listBackSpec)

/-- ITS FALSE NEIGHBOUR: 'it returns false'. Refute it at one input. -/
def listBackWrong : ChangeSpec := { name := "listBack", fn := fun _ => fun
  | [d1, d2, d3] => { results := [.lit (.bool false)], args := [d1, d2, d3] }
  | _ => none }
def ListBackWrongFalsely : Prop := listBackRow.holds Try.pinned (OpenSpec.ofChange listBackWrong)

/-- 'pentimentolaw12.SetJoins': WHATEVER THE INPUT: true; the input reads as it did. -/
def setJoinsSpec : ChangeSpec := { name := "setJoins", fn := fun _ => fun
  | [d] => { results := [.lit (.bool true)], args := [d] }
  | _ => none }
def setJoinsRow : OpenClaim := { program := "ytkibkldikjkokaa", sum := "58c6197956b3fac9dbb764adcea19020e361f429434770973e540eab66fdf1ee", func := "pentimento/pentimentolaw12.SetJoins", spec := "setJoins", recurses := true, apart := false }
def SetJoinsSaid : Prop := setJoinsRow.holds Try.pinned (OpenSpec.ofChange setJoinsSpec)

/-- ITS FALSE NEIGHBOUR: 'it returns false'. Refute it at one input. -/
def setJoinsWrong : ChangeSpec := { name := "setJoins", fn := fun _ => fun
  | [d] => { results := [.lit (.bool false)], args := [d] }
  | _ => none }
def SetJoinsWrongFalsely : Prop := setJoinsRow.holds Try.pinned (OpenSpec.ofChange setJoinsWrong)

/-- 'pentimentolaw11.ListCuts': WHATEVER THE INPUT: true; the input reads as it did. -/
def listCutsSpec : ChangeSpec := { name := "listCuts", fn := fun _ => fun
  | [d1, d2] => { results := [.lit (.bool true)], args := [d1, d2] }
  | _ => none }
def listCutsRow : OpenClaim := { program := "ytkibkldikjkokaa", sum := "58c6197956b3fac9dbb764adcea19020e361f429434770973e540eab66fdf1ee", func := "pentimento/pentimentolaw11.ListCuts", spec := "listCuts", unfollowed := true, recurses := true, apart := false }
def ListCutsSaid : Prop := listCutsRow.holds Try.pinned (OpenSpec.ofChange listCutsSpec)

/-- ITS FALSE NEIGHBOUR: 'it returns false'. Refute it at one input. -/
def listCutsWrong : ChangeSpec := { name := "listCuts", fn := fun _ => fun
  | [d1, d2] => { results := [.lit (.bool false)], args := [d1, d2] }
  | _ => none }
def ListCutsWrongFalsely : Prop := listCutsRow.holds Try.pinned (OpenSpec.ofChange listCutsWrong)

/-- 'pentimentolaw12.SetParts': WHATEVER THE INPUT: true; the input reads as it did. -/
def setPartsSpec : ChangeSpec := { name := "setParts", fn := fun _ => fun
  | [d1, d2] => { results := [.lit (.bool true)], args := [d1, d2] }
  | _ => none }
def setPartsRow : OpenClaim := { program := "ytkibkldikjkokaa", sum := "58c6197956b3fac9dbb764adcea19020e361f429434770973e540eab66fdf1ee", func := "pentimento/pentimentolaw12.SetParts", spec := "setParts", recurses := true, apart := false }
def SetPartsSaid : Prop := setPartsRow.holds Try.pinned (OpenSpec.ofChange setPartsSpec)

/-- ITS FALSE NEIGHBOUR: 'it returns false'. Refute it at one input. -/
def setPartsWrong : ChangeSpec := { name := "setParts", fn := fun _ => fun
  | [d1, d2] => { results := [.lit (.bool false)], args := [d1, d2] }
  | _ => none }
def SetPartsWrongFalsely : Prop := setPartsRow.holds Try.pinned (OpenSpec.ofChange setPartsWrong)

/-- 'pentimentolaw12.SetSizes': WHATEVER THE INPUT: true; the input reads as it did. -/
def setSizesSpec : ChangeSpec := { name := "setSizes", fn := fun _ => fun
  | [d1, d2] => { results := [.lit (.bool true)], args := [d1, d2] }
  | _ => none }
def setSizesRow : OpenClaim := { program := "ytkibkldikjkokaa", sum := "58c6197956b3fac9dbb764adcea19020e361f429434770973e540eab66fdf1ee", func := "pentimento/pentimentolaw12.SetSizes", spec := "setSizes", recurses := true, apart := false }
def SetSizesSaid : Prop := setSizesRow.holds Try.pinned (OpenSpec.ofChange setSizesSpec)

/-- ITS FALSE NEIGHBOUR: 'it returns false'. Refute it at one input. -/
def setSizesWrong : ChangeSpec := { name := "setSizes", fn := fun _ => fun
  | [d1, d2] => { results := [.lit (.bool false)], args := [d1, d2] }
  | _ => none }
def SetSizesWrongFalsely : Prop := setSizesRow.holds Try.pinned (OpenSpec.ofChange setSizesWrong)

/-- 'pentimentolaw12.SetTurns': WHATEVER THE INPUT: true; the input reads as it did. -/
def setTurnsSpec : ChangeSpec := { name := "setTurns", fn := fun _ => fun
  | [d1, d2, d3] => { results := [.lit (.bool true)], args := [d1, d2, d3] }
  | _ => none }
def setTurnsRow : OpenClaim := { program := "ytkibkldikjkokaa", sum := "58c6197956b3fac9dbb764adcea19020e361f429434770973e540eab66fdf1ee", func := "pentimento/pentimentolaw12.SetTurns", spec := "setTurns", unfollowed := true, recurses := true, apart := false }
def SetTurnsSaid : Prop := setTurnsRow.holds Try.pinned (OpenSpec.ofChange setTurnsSpec)

/-- ITS FALSE NEIGHBOUR: 'it returns false'. Refute it at one input. -/
def setTurnsWrong : ChangeSpec := { name := "setTurns", fn := fun _ => fun
  | [d1, d2, d3] => { results := [.lit (.bool false)], args := [d1, d2, d3] }
  | _ => none }
def SetTurnsWrongFalsely : Prop := setTurnsRow.holds Try.pinned (OpenSpec.ofChange setTurnsWrong)

/- THE SECOND FORM. 'bulk': how many values and letters a reading holds, each counted each time it is reached (what is shared counts as often as it is met; a slice's spare places count too). A statement '..UptoSaid' is the law's where the arguments, and the package variables that the reading takes, are together of bulk at most 1048576: NARROWER than '..Said'. Prove '..Said' where nothing that the law and all that it calls make is longer than what came in: it says more and counts as full. Else prove '..UptoSaid'. A law counts once. -/
mutual
def uptoBulk {H : Type} : DataW H → Nat
  | .lit (.string bytes) => bytes.length + 1
  | .lit _ => 1
  | .nil => 1
  | .ptr d => uptoBulk d + 1
  | .slice elems spare => uptoBulkAll elems + uptoBulkAll spare + 1
  | .agg parts => uptoBulkAll parts + 1
  | .iface _ d => uptoBulk d + 1
  | .map entries => uptoBulkEntries entries + 1
  | .held _ => 1
def uptoBulkAll {H : Type} : List (DataW H) → Nat
  | [] => 0
  | d :: r => uptoBulk d + uptoBulkAll r
def uptoBulkEntries {H : Type} : List (Lit × DataW H) → Nat
  | [] => 0
  | x :: r => uptoBulkEntry x + uptoBulkEntries r
def uptoBulkEntry {H : Type} : Lit × DataW H → Nat
  | (.string bytes, d) => bytes.length + uptoBulk d + 1
  | (_, d) => uptoBulk d + 1
 end
def uptoSmall : (H : Type) → List (DataW H) → Bool := fun _ ds => decide (uptoBulkAll ds ≤ 1048576)
def OpenSpec.upto (s : _root_.Go.ChangeSpec) : _root_.Go.OpenSpec := { _root_.Go.OpenSpec.ofChange s with cond := some uptoSmall }

/-- 'pentimentolaw10.HashOrder', WHERE WHAT IT READS IS OF BULK AT MOST 1048576: true; the input reads as it did. -/
def hashOrderUptoRow : OpenClaim := { program := "ytkibkldikjkokaa", sum := "58c6197956b3fac9dbb764adcea19020e361f429434770973e540eab66fdf1ee", func := "pentimento/pentimentolaw10.HashOrder", spec := "hashOrder", inPlace := ["slices.overlaps[pentimento/api.Pair]"], unfollowed := true, recurses := true, apart := false, narrowed := true }
def HashOrderUptoSaid : Prop := hashOrderUptoRow.holds Try.pinned (OpenSpec.upto hashOrderSpec)

/-- 'pentimentolaw10.HashSets', WHERE WHAT IT READS IS OF BULK AT MOST 1048576: true; the input reads as it did. -/
def hashSetsUptoRow : OpenClaim := { program := "ytkibkldikjkokaa", sum := "58c6197956b3fac9dbb764adcea19020e361f429434770973e540eab66fdf1ee", func := "pentimento/pentimentolaw10.HashSets", spec := "hashSets", inPlace := ["slices.overlaps[pentimento/api.Pair]"], unfollowed := true, recurses := true, apart := false, narrowed := true }
def HashSetsUptoSaid : Prop := hashSetsUptoRow.holds Try.pinned (OpenSpec.upto hashSetsSpec)

/-- 'pentimentolaw10.HashDels', WHERE WHAT IT READS IS OF BULK AT MOST 1048576: true; the input reads as it did. -/
def hashDelsUptoRow : OpenClaim := { program := "ytkibkldikjkokaa", sum := "58c6197956b3fac9dbb764adcea19020e361f429434770973e540eab66fdf1ee", func := "pentimento/pentimentolaw10.HashDels", spec := "hashDels", inPlace := ["slices.overlaps[pentimento/api.Pair]"], unfollowed := true, recurses := true, apart := false, narrowed := true }
def HashDelsUptoSaid : Prop := hashDelsUptoRow.holds Try.pinned (OpenSpec.upto hashDelsSpec)

/-- 'pentimentolaw10.HashBack', WHERE WHAT IT READS IS OF BULK AT MOST 1048576: true; the input reads as it did. -/
def hashBackUptoRow : OpenClaim := { program := "ytkibkldikjkokaa", sum := "58c6197956b3fac9dbb764adcea19020e361f429434770973e540eab66fdf1ee", func := "pentimento/pentimentolaw10.HashBack", spec := "hashBack", inPlace := ["slices.overlaps[pentimento/api.Pair]"], unfollowed := true, recurses := true, apart := false, narrowed := true }
def HashBackUptoSaid : Prop := hashBackUptoRow.holds Try.pinned (OpenSpec.upto hashBackSpec)

/-- 'pentimentolaw11.ListFinds', WHERE WHAT IT READS IS OF BULK AT MOST 1048576: true; the input reads as it did. -/
def listFindsUptoRow : OpenClaim := { program := "ytkibkldikjkokaa", sum := "58c6197956b3fac9dbb764adcea19020e361f429434770973e540eab66fdf1ee", func := "pentimento/pentimentolaw11.ListFinds", spec := "listFinds", unfollowed := true, recurses := true, apart := false, narrowed := true }
def ListFindsUptoSaid : Prop := listFindsUptoRow.holds Try.pinned (OpenSpec.upto listFindsSpec)

/-- 'pentimentolaw11.ListEnds', WHERE WHAT IT READS IS OF BULK AT MOST 1048576: true; the input reads as it did. -/
def listEndsUptoRow : OpenClaim := { program := "ytkibkldikjkokaa", sum := "58c6197956b3fac9dbb764adcea19020e361f429434770973e540eab66fdf1ee", func := "pentimento/pentimentolaw11.ListEnds", spec := "listEnds", unfollowed := true, recurses := true, apart := false, narrowed := true }
def ListEndsUptoSaid : Prop := listEndsUptoRow.holds Try.pinned (OpenSpec.upto listEndsSpec)

/-- 'pentimentolaw11.ListBack', WHERE WHAT IT READS IS OF BULK AT MOST 1048576: true; the input reads as it did. -/
def listBackUptoRow : OpenClaim := { program := "ytkibkldikjkokaa", sum := "58c6197956b3fac9dbb764adcea19020e361f429434770973e540eab66fdf1ee", func := "pentimento/pentimentolaw11.ListBack", spec := "listBack", unfollowed := true, recurses := true, apart := false, narrowed := true }
def ListBackUptoSaid : Prop := listBackUptoRow.holds Try.pinned (OpenSpec.upto listBackSpec)

/-- 'pentimentolaw12.SetJoins', WHERE WHAT IT READS IS OF BULK AT MOST 1048576: true; the input reads as it did. -/
def setJoinsUptoRow : OpenClaim := { program := "ytkibkldikjkokaa", sum := "58c6197956b3fac9dbb764adcea19020e361f429434770973e540eab66fdf1ee", func := "pentimento/pentimentolaw12.SetJoins", spec := "setJoins", recurses := true, apart := false, narrowed := true }
def SetJoinsUptoSaid : Prop := setJoinsUptoRow.holds Try.pinned (OpenSpec.upto setJoinsSpec)

/-- 'pentimentolaw11.ListCuts', WHERE WHAT IT READS IS OF BULK AT MOST 1048576: true; the input reads as it did. -/
def listCutsUptoRow : OpenClaim := { program := "ytkibkldikjkokaa", sum := "58c6197956b3fac9dbb764adcea19020e361f429434770973e540eab66fdf1ee", func := "pentimento/pentimentolaw11.ListCuts", spec := "listCuts", unfollowed := true, recurses := true, apart := false, narrowed := true }
def ListCutsUptoSaid : Prop := listCutsUptoRow.holds Try.pinned (OpenSpec.upto listCutsSpec)

/-- 'pentimentolaw12.SetParts', WHERE WHAT IT READS IS OF BULK AT MOST 1048576: true; the input reads as it did. -/
def setPartsUptoRow : OpenClaim := { program := "ytkibkldikjkokaa", sum := "58c6197956b3fac9dbb764adcea19020e361f429434770973e540eab66fdf1ee", func := "pentimento/pentimentolaw12.SetParts", spec := "setParts", recurses := true, apart := false, narrowed := true }
def SetPartsUptoSaid : Prop := setPartsUptoRow.holds Try.pinned (OpenSpec.upto setPartsSpec)

/-- 'pentimentolaw12.SetSizes', WHERE WHAT IT READS IS OF BULK AT MOST 1048576: true; the input reads as it did. -/
def setSizesUptoRow : OpenClaim := { program := "ytkibkldikjkokaa", sum := "58c6197956b3fac9dbb764adcea19020e361f429434770973e540eab66fdf1ee", func := "pentimento/pentimentolaw12.SetSizes", spec := "setSizes", recurses := true, apart := false, narrowed := true }
def SetSizesUptoSaid : Prop := setSizesUptoRow.holds Try.pinned (OpenSpec.upto setSizesSpec)

/-- 'pentimentolaw12.SetTurns', WHERE WHAT IT READS IS OF BULK AT MOST 1048576: true; the input reads as it did. -/
def setTurnsUptoRow : OpenClaim := { program := "ytkibkldikjkokaa", sum := "58c6197956b3fac9dbb764adcea19020e361f429434770973e540eab66fdf1ee", func := "pentimento/pentimentolaw12.SetTurns", spec := "setTurns", unfollowed := true, recurses := true, apart := false, narrowed := true }
def SetTurnsUptoSaid : Prop := setTurnsUptoRow.holds Try.pinned (OpenSpec.upto setTurnsSpec)

end Rows
end Go.Proofs.Ytkibkldikjkokaa
