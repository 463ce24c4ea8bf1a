/-
  No cell of these rows narrows 'for every input' (looked for: loops, veiled, ifaces, maps, wideKeys, modest, calm, conditions, laid).
  DERIVED. THE GIVEN ROWS OF THIS SEAT. 7 by the template 'for every input the law returns true; each argument reads behind the call as it read before'; 0 by the template 'total and deterministic' (their statements: YtomgghelhalaeaaTotals.lean).
  GIVEN WITH THE SEED: the statements are not yours to turn. If you find one false, say at which input.
  Laid BY PROGRAM, IN A SANDBOX (cutbox-rows.mjs): the forced cells as the released guide's own fill.sh prints them over the translation 52b28f50e26cc8c5… (all of the seat's roots in one cut). By AI agents, Wed Nov 11 2026. No macro, syntax, notation, axiom, sorry.
-/
import Derived.Test.YtomgghelhalaeaaChecked
import GoSem.Claim
import GoSem.ClaimJoined
import GoSem.ClaimMapViews
import Derived.JoinedTies
import Derived.KernelRfl
namespace Go.Proofs.Ytomgghelhalaeaa
/- THE CELL 'sum', in the pinned program and in every row, IS THE sha256 OF THE DUMP (.gsa) THAT YtomgghelhalaeaaProg.lean LOADS. Nothing in Lean hashes anything: it is a label: what it is worth is what the hold of that sum in a sandbox is worth. -/
noncomputable def Try.pinned : Pinned := { name := "ytomgghelhalaeaa", sum := "52b28f50e26cc8c5f2b43aa407c60fbda149720130ab674ef7e1926855fecc00", checked := Try.checked }
namespace Rows
def none {H : Type} : Left H := { results := [], args := [] }

/-- 'pentimentolaw15.ChainAll': WHATEVER THE INPUT: true; the input reads as it did. -/
def chainAllSpec : ChangeSpec := { name := "chainAll", fn := fun _ => fun
  | [d1, d2] => { results := [.lit (.bool true)], args := [d1, d2] }
  | _ => none }
def chainAllRow : OpenClaim := { program := "ytomgghelhalaeaa", sum := "52b28f50e26cc8c5f2b43aa407c60fbda149720130ab674ef7e1926855fecc00", func := "pentimento/pentimentolaw15.ChainAll", spec := "chainAll", unfollowed := true, recurses := true, apart := false }
def ChainAllSaid : Prop := chainAllRow.holds Try.pinned (OpenSpec.ofChange chainAllSpec)

/-- ITS FALSE NEIGHBOUR: 'it returns false'. Refute it at one input. -/
def chainAllWrong : ChangeSpec := { name := "chainAll", fn := fun _ => fun
  | [d1, d2] => { results := [.lit (.bool false)], args := [d1, d2] }
  | _ => none }
def ChainAllWrongFalsely : Prop := chainAllRow.holds Try.pinned (OpenSpec.ofChange chainAllWrong)

/-- 'pentimentolaw14.ValueApart': WHATEVER THE INPUT: true; the input reads as it did. -/
def valueApartSpec : ChangeSpec := { name := "valueApart", fn := fun _ => fun
  | [d1, d2] => { results := [.lit (.bool true)], args := [d1, d2] }
  | _ => none }
def valueApartRow : OpenClaim := { program := "ytomgghelhalaeaa", sum := "52b28f50e26cc8c5f2b43aa407c60fbda149720130ab674ef7e1926855fecc00", func := "pentimento/pentimentolaw14.ValueApart", spec := "valueApart", unfollowed := true, recurses := true, apart := false }
def ValueApartSaid : Prop := valueApartRow.holds Try.pinned (OpenSpec.ofChange valueApartSpec)

/-- ITS FALSE NEIGHBOUR: 'it returns false'. Refute it at one input. -/
def valueApartWrong : ChangeSpec := { name := "valueApart", fn := fun _ => fun
  | [d1, d2] => { results := [.lit (.bool false)], args := [d1, d2] }
  | _ => none }
def ValueApartWrongFalsely : Prop := valueApartRow.holds Try.pinned (OpenSpec.ofChange valueApartWrong)

/-- 'pentimentolaw14.ValueClones': WHATEVER THE INPUT: true; the input reads as it did. -/
def valueClonesSpec : ChangeSpec := { name := "valueClones", fn := fun _ => fun
  | [d] => { results := [.lit (.bool true)], args := [d] }
  | _ => none }
def valueClonesRow : OpenClaim := { program := "ytomgghelhalaeaa", sum := "52b28f50e26cc8c5f2b43aa407c60fbda149720130ab674ef7e1926855fecc00", func := "pentimento/pentimentolaw14.ValueClones", spec := "valueClones", unfollowed := true, recurses := true, apart := false }
def ValueClonesSaid : Prop := valueClonesRow.holds Try.pinned (OpenSpec.ofChange valueClonesSpec)

/-- ITS FALSE NEIGHBOUR: 'it returns false'. Refute it at one input. -/
def valueClonesWrong : ChangeSpec := { name := "valueClones", fn := fun _ => fun
  | [d] => { results := [.lit (.bool false)], args := [d] }
  | _ => none }
def ValueClonesWrongFalsely : Prop := valueClonesRow.holds Try.pinned (OpenSpec.ofChange valueClonesWrong)

/-- 'pentimentolaw15.ChainPrunes': WHATEVER THE INPUT: true; the input reads as it did. -/
def chainPrunesSpec : ChangeSpec := { name := "chainPrunes", fn := fun _ => fun
  | [d1, d2, d3] => { results := [.lit (.bool true)], args := [d1, d2, d3] }
  | _ => none }
def chainPrunesRow : OpenClaim := { program := "ytomgghelhalaeaa", sum := "52b28f50e26cc8c5f2b43aa407c60fbda149720130ab674ef7e1926855fecc00", func := "pentimento/pentimentolaw15.ChainPrunes", spec := "chainPrunes", unfollowed := true, recurses := true, apart := false }
def ChainPrunesSaid : Prop := chainPrunesRow.holds Try.pinned (OpenSpec.ofChange chainPrunesSpec)

/-- ITS FALSE NEIGHBOUR: 'it returns false'. Refute it at one input. -/
def chainPrunesWrong : ChangeSpec := { name := "chainPrunes", fn := fun _ => fun
  | [d1, d2, d3] => { results := [.lit (.bool false)], args := [d1, d2, d3] }
  | _ => none }
def ChainPrunesWrongFalsely : Prop := chainPrunesRow.holds Try.pinned (OpenSpec.ofChange chainPrunesWrong)

/-- 'pentimentolaw14.ValueUnpacks': WHATEVER THE INPUT: true; the input reads as it did. -/
def valueUnpacksSpec : ChangeSpec := { name := "valueUnpacks", fn := fun _ => fun
  | [d] => { results := [.lit (.bool true)], args := [d] }
  | _ => none }
def valueUnpacksRow : OpenClaim := { program := "ytomgghelhalaeaa", sum := "52b28f50e26cc8c5f2b43aa407c60fbda149720130ab674ef7e1926855fecc00", func := "pentimento/pentimentolaw14.ValueUnpacks", spec := "valueUnpacks", unfollowed := true, recurses := true, apart := false }
def ValueUnpacksSaid : Prop := valueUnpacksRow.holds Try.pinned (OpenSpec.ofChange valueUnpacksSpec)

/-- ITS FALSE NEIGHBOUR: 'it returns false'. Refute it at one input. -/
def valueUnpacksWrong : ChangeSpec := { name := "valueUnpacks", fn := fun _ => fun
  | [d] => { results := [.lit (.bool false)], args := [d] }
  | _ => none }
def ValueUnpacksWrongFalsely : Prop := valueUnpacksRow.holds Try.pinned (OpenSpec.ofChange valueUnpacksWrong)

/-- 'pentimentolaw14.ValueMany': WHATEVER THE INPUT: true; the input reads as it did. -/
def valueManySpec : ChangeSpec := { name := "valueMany", fn := fun _ => fun
  | [d] => { results := [.lit (.bool true)], args := [d] }
  | _ => none }
def valueManyRow : OpenClaim := { program := "ytomgghelhalaeaa", sum := "52b28f50e26cc8c5f2b43aa407c60fbda149720130ab674ef7e1926855fecc00", func := "pentimento/pentimentolaw14.ValueMany", spec := "valueMany", unfollowed := true, recurses := true, apart := false }
def ValueManySaid : Prop := valueManyRow.holds Try.pinned (OpenSpec.ofChange valueManySpec)

/-- ITS FALSE NEIGHBOUR: 'it returns false'. Refute it at one input. -/
def valueManyWrong : ChangeSpec := { name := "valueMany", fn := fun _ => fun
  | [d] => { results := [.lit (.bool false)], args := [d] }
  | _ => none }
def ValueManyWrongFalsely : Prop := valueManyRow.holds Try.pinned (OpenSpec.ofChange valueManyWrong)

/-- 'pentimentolaw14.ValuePacks': WHATEVER THE INPUT: true; the input reads as it did. -/
def valuePacksSpec : ChangeSpec := { name := "valuePacks", fn := fun _ => fun
  | [d1, d2, d3] => { results := [.lit (.bool true)], args := [d1, d2, d3] }
  | _ => none }
def valuePacksRow : OpenClaim := { program := "ytomgghelhalaeaa", sum := "52b28f50e26cc8c5f2b43aa407c60fbda149720130ab674ef7e1926855fecc00", func := "pentimento/pentimentolaw14.ValuePacks", spec := "valuePacks", unfollowed := true, recurses := true, apart := false }
def ValuePacksSaid : Prop := valuePacksRow.holds Try.pinned (OpenSpec.ofChange valuePacksSpec)

/-- ITS FALSE NEIGHBOUR: 'it returns false'. Refute it at one input. -/
def valuePacksWrong : ChangeSpec := { name := "valuePacks", fn := fun _ => fun
  | [d1, d2, d3] => { results := [.lit (.bool false)], args := [d1, d2, d3] }
  | _ => none }
def ValuePacksWrongFalsely : Prop := valuePacksRow.holds Try.pinned (OpenSpec.ofChange valuePacksWrong)

/- THE SECOND FORM. 'bulk': how many values and letters a reading holds, each counted each time it is reached (what is shared counts as often as it is met; a slice's spare places count too). A statement '..UptoSaid' is the law's where the arguments, and the package variables that the reading takes, are together of bulk at most 1048576: NARROWER than '..Said'. Prove '..Said' where nothing that the law and all that it calls make is longer than what came in: it says more and counts as full. Else prove '..UptoSaid'. A law counts once. -/
mutual
def uptoBulk {H : Type} : DataW H → Nat
  | .lit (.string bytes) => bytes.length + 1
  | .lit _ => 1
  | .nil => 1
  | .ptr d => uptoBulk d + 1
  | .slice elems spare => uptoBulkAll elems + uptoBulkAll spare + 1
  | .agg parts => uptoBulkAll parts + 1
  | .iface _ d => uptoBulk d + 1
  | .map entries => uptoBulkEntries entries + 1
  | .held _ => 1
def uptoBulkAll {H : Type} : List (DataW H) → Nat
  | [] => 0
  | d :: r => uptoBulk d + uptoBulkAll r
def uptoBulkEntries {H : Type} : List (Lit × DataW H) → Nat
  | [] => 0
  | x :: r => uptoBulkEntry x + uptoBulkEntries r
def uptoBulkEntry {H : Type} : Lit × DataW H → Nat
  | (.string bytes, d) => bytes.length + uptoBulk d + 1
  | (_, d) => uptoBulk d + 1
 end
def uptoSmall : (H : Type) → List (DataW H) → Bool := fun _ ds => decide (uptoBulkAll ds ≤ 1048576)
def OpenSpec.upto (s : _root_.Go.ChangeSpec) : _root_.Go.OpenSpec := { _root_.Go.OpenSpec.ofChange s with cond := some uptoSmall }

/-- 'pentimentolaw15.ChainAll', WHERE WHAT IT READS IS OF BULK AT MOST 1048576: true; the input reads as it did. -/
def chainAllUptoRow : OpenClaim := { program := "ytomgghelhalaeaa", sum := "52b28f50e26cc8c5f2b43aa407c60fbda149720130ab674ef7e1926855fecc00", func := "pentimento/pentimentolaw15.ChainAll", spec := "chainAll", unfollowed := true, recurses := true, apart := false, narrowed := true }
def ChainAllUptoSaid : Prop := chainAllUptoRow.holds Try.pinned (OpenSpec.upto chainAllSpec)

/-- 'pentimentolaw14.ValueApart', WHERE WHAT IT READS IS OF BULK AT MOST 1048576: true; the input reads as it did. -/
def valueApartUptoRow : OpenClaim := { program := "ytomgghelhalaeaa", sum := "52b28f50e26cc8c5f2b43aa407c60fbda149720130ab674ef7e1926855fecc00", func := "pentimento/pentimentolaw14.ValueApart", spec := "valueApart", unfollowed := true, recurses := true, apart := false, narrowed := true }
def ValueApartUptoSaid : Prop := valueApartUptoRow.holds Try.pinned (OpenSpec.upto valueApartSpec)

/-- 'pentimentolaw14.ValueClones', WHERE WHAT IT READS IS OF BULK AT MOST 1048576: true; the input reads as it did. -/
def valueClonesUptoRow : OpenClaim := { program := "ytomgghelhalaeaa", sum := "52b28f50e26cc8c5f2b43aa407c60fbda149720130ab674ef7e1926855fecc00", func := "pentimento/pentimentolaw14.ValueClones", spec := "valueClones", unfollowed := true, recurses := true, apart := false, narrowed := true }
def ValueClonesUptoSaid : Prop := valueClonesUptoRow.holds Try.pinned (OpenSpec.upto valueClonesSpec)

/-- 'pentimentolaw15.ChainPrunes', WHERE WHAT IT READS IS OF BULK AT MOST 1048576: true; the input reads as it did. -/
def chainPrunesUptoRow : OpenClaim := { program := "ytomgghelhalaeaa", sum := "52b28f50e26cc8c5f2b43aa407c60fbda149720130ab674ef7e1926855fecc00", func := "pentimento/pentimentolaw15.ChainPrunes", spec := "chainPrunes", unfollowed := true, recurses := true, apart := false, narrowed := true }
def ChainPrunesUptoSaid : Prop := chainPrunesUptoRow.holds Try.pinned (OpenSpec.upto chainPrunesSpec)

/-- 'pentimentolaw14.ValueUnpacks', WHERE WHAT IT READS IS OF BULK AT MOST 1048576: true; the input reads as it did. -/
def valueUnpacksUptoRow : OpenClaim := { program := "ytomgghelhalaeaa", sum := "52b28f50e26cc8c5f2b43aa407c60fbda149720130ab674ef7e1926855fecc00", func := "pentimento/pentimentolaw14.ValueUnpacks", spec := "valueUnpacks", unfollowed := true, recurses := true, apart := false, narrowed := true }
def ValueUnpacksUptoSaid : Prop := valueUnpacksUptoRow.holds Try.pinned (OpenSpec.upto valueUnpacksSpec)

/-- 'pentimentolaw14.ValueMany', WHERE WHAT IT READS IS OF BULK AT MOST 1048576: true; the input reads as it did. -/
def valueManyUptoRow : OpenClaim := { program := "ytomgghelhalaeaa", sum := "52b28f50e26cc8c5f2b43aa407c60fbda149720130ab674ef7e1926855fecc00", func := "pentimento/pentimentolaw14.ValueMany", spec := "valueMany", unfollowed := true, recurses := true, apart := false, narrowed := true }
def ValueManyUptoSaid : Prop := valueManyUptoRow.holds Try.pinned (OpenSpec.upto valueManySpec)

/-- 'pentimentolaw14.ValuePacks', WHERE WHAT IT READS IS OF BULK AT MOST 1048576: true; the input reads as it did. -/
def valuePacksUptoRow : OpenClaim := { program := "ytomgghelhalaeaa", sum := "52b28f50e26cc8c5f2b43aa407c60fbda149720130ab674ef7e1926855fecc00", func := "pentimento/pentimentolaw14.ValuePacks", spec := "valuePacks", unfollowed := true, recurses := true, apart := false, narrowed := true }
def ValuePacksUptoSaid : Prop := valuePacksUptoRow.holds Try.pinned (OpenSpec.upto valuePacksSpec)

end Rows
end Go.Proofs.Ytomgghelhalaeaa
