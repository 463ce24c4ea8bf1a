/-
  No cell of these rows narrows 'for every input' (looked for: loops, veiled, ifaces, maps, wideKeys, modest, calm, conditions, laid).
  DERIVED. THE GIVEN ROWS OF THIS SEAT. 5 by the template 'for every input the law returns true; each argument reads behind the call as it read before'; 0 by the template 'total and deterministic' (their statements: YtbphlenpclnobaaTotals.lean).
  GIVEN WITH THE SEED: the statements are not yours to turn. If you find one false, say at which input.
  Laid BY PROGRAM, IN A SANDBOX (cutbox-rows.mjs): the forced cells as the released guide's own fill.sh prints them over the translation 4475ceeb1f5ea0c1… (all of the seat's roots in one cut). By AI agents, Wed Nov 11 2026. No macro, syntax, notation, axiom, sorry.
-/
import Derived.Test.YtbphlenpclnobaaChecked
import GoSem.Claim
import GoSem.ClaimJoined
import GoSem.ClaimMapViews
import Derived.JoinedTies
import Derived.KernelRfl
namespace Go.Proofs.Ytbphlenpclnobaa
/- THE CELL 'sum', in the pinned program and in every row, IS THE sha256 OF THE DUMP (.gsa) THAT YtbphlenpclnobaaProg.lean LOADS. Nothing in Lean hashes anything: it is a label: what it is worth is what the hold of that sum in a sandbox is worth. -/
noncomputable def Try.pinned : Pinned := { name := "ytbphlenpclnobaa", sum := "4475ceeb1f5ea0c1dbaa5372f7d47d11aecfe7bef3d4655fc1d233eb7fa59b3c", checked := Try.checked }
namespace Rows
def none {H : Type} : Left H := { results := [], args := [] }

/-- 'pentimentolaw02.GlobStars': WHATEVER THE INPUT: true; the input reads as it did. -/
def globStarsSpec : ChangeSpec := { name := "globStars", fn := fun _ => fun
  | [d1, d2, d3] => { results := [.lit (.bool true)], args := [d1, d2, d3] }
  | _ => none }
def globStarsRow : OpenClaim := { program := "ytbphlenpclnobaa", sum := "4475ceeb1f5ea0c1dbaa5372f7d47d11aecfe7bef3d4655fc1d233eb7fa59b3c", func := "pentimento/pentimentolaw02.GlobStars", spec := "globStars", inPlace := ["internal/bytealg.IndexByteString"], apart := false }
def GlobStarsSaid : Prop := globStarsRow.holds Try.pinned (OpenSpec.ofChange globStarsSpec)

/-- ITS FALSE NEIGHBOUR: 'it returns false'. Refute it at one input. -/
def globStarsWrong : ChangeSpec := { name := "globStars", fn := fun _ => fun
  | [d1, d2, d3] => { results := [.lit (.bool false)], args := [d1, d2, d3] }
  | _ => none }
def GlobStarsWrongFalsely : Prop := globStarsRow.holds Try.pinned (OpenSpec.ofChange globStarsWrong)

/-- 'pentimentolaw16.IndexFrom': WHATEVER THE INPUT: true; the input reads as it did. -/
def indexFromSpec : ChangeSpec := { name := "indexFrom", fn := fun _ => fun
  | [d1, d2, d3] => { results := [.lit (.bool true)], args := [d1, d2, d3] }
  | _ => none }
def indexFromRow : OpenClaim := { program := "ytbphlenpclnobaa", sum := "4475ceeb1f5ea0c1dbaa5372f7d47d11aecfe7bef3d4655fc1d233eb7fa59b3c", func := "pentimento/pentimentolaw16.IndexFrom", spec := "indexFrom", inPlace := ["slices.overlaps[pentimento/index.entry]", "slices.overlaps[[]pentimento/index.entry]"], unfollowed := true, recurses := true, apart := false }
def IndexFromSaid : Prop := indexFromRow.holds Try.pinned (OpenSpec.ofChange indexFromSpec)

/-- ITS FALSE NEIGHBOUR: 'it returns false'. Refute it at one input. -/
def indexFromWrong : ChangeSpec := { name := "indexFrom", fn := fun _ => fun
  | [d1, d2, d3] => { results := [.lit (.bool false)], args := [d1, d2, d3] }
  | _ => none }
def IndexFromWrongFalsely : Prop := indexFromRow.holds Try.pinned (OpenSpec.ofChange indexFromWrong)

/-- 'pentimentolaw16.IndexOrder': WHATEVER THE INPUT: true; the input reads as it did. -/
def indexOrderSpec : ChangeSpec := { name := "indexOrder", fn := fun _ => fun
  | [d1, d2] => { results := [.lit (.bool true)], args := [d1, d2] }
  | _ => none }
def indexOrderRow : OpenClaim := { program := "ytbphlenpclnobaa", sum := "4475ceeb1f5ea0c1dbaa5372f7d47d11aecfe7bef3d4655fc1d233eb7fa59b3c", func := "pentimento/pentimentolaw16.IndexOrder", spec := "indexOrder", inPlace := ["slices.overlaps[pentimento/index.entry]", "slices.overlaps[[]pentimento/index.entry]"], unfollowed := true, recurses := true, apart := false }
def IndexOrderSaid : Prop := indexOrderRow.holds Try.pinned (OpenSpec.ofChange indexOrderSpec)

/-- ITS FALSE NEIGHBOUR: 'it returns false'. Refute it at one input. -/
def indexOrderWrong : ChangeSpec := { name := "indexOrder", fn := fun _ => fun
  | [d1, d2] => { results := [.lit (.bool false)], args := [d1, d2] }
  | _ => none }
def IndexOrderWrongFalsely : Prop := indexOrderRow.holds Try.pinned (OpenSpec.ofChange indexOrderWrong)

/-- 'pentimentolaw16.IndexActs': WHATEVER THE INPUT: true; the input reads as it did. -/
def indexActsSpec : ChangeSpec := { name := "indexActs", fn := fun _ => fun
  | [d] => { results := [.lit (.bool true)], args := [d] }
  | _ => none }
def indexActsRow : OpenClaim := { program := "ytbphlenpclnobaa", sum := "4475ceeb1f5ea0c1dbaa5372f7d47d11aecfe7bef3d4655fc1d233eb7fa59b3c", func := "pentimento/pentimentolaw16.IndexActs", spec := "indexActs", inPlace := ["slices.overlaps[pentimento/index.entry]", "slices.overlaps[[]pentimento/index.entry]"], unfollowed := true, recurses := true, apart := false }
def IndexActsSaid : Prop := indexActsRow.holds Try.pinned (OpenSpec.ofChange indexActsSpec)

/-- ITS FALSE NEIGHBOUR: 'it returns false'. Refute it at one input. -/
def indexActsWrong : ChangeSpec := { name := "indexActs", fn := fun _ => fun
  | [d] => { results := [.lit (.bool false)], args := [d] }
  | _ => none }
def IndexActsWrongFalsely : Prop := indexActsRow.holds Try.pinned (OpenSpec.ofChange indexActsWrong)

/-- 'pentimentolaw02.GlobQuotes': WHATEVER THE INPUT: true; the input reads as it did. -/
def globQuotesSpec : ChangeSpec := { name := "globQuotes", fn := fun _ => fun
  | [d1, d2] => { results := [.lit (.bool true)], args := [d1, d2] }
  | _ => none }
def globQuotesRow : OpenClaim := { program := "ytbphlenpclnobaa", sum := "4475ceeb1f5ea0c1dbaa5372f7d47d11aecfe7bef3d4655fc1d233eb7fa59b3c", func := "pentimento/pentimentolaw02.GlobQuotes", spec := "globQuotes", inPlace := ["internal/bytealg.IndexByteString", "internal/bytealg.IndexString"], named := ["internal/bytealg.MaxLen"], apart := false }
def GlobQuotesSaid : Prop := globQuotesRow.holds Try.pinned (OpenSpec.ofChange globQuotesSpec)

/-- ITS FALSE NEIGHBOUR: 'it returns false'. Refute it at one input. -/
def globQuotesWrong : ChangeSpec := { name := "globQuotes", fn := fun _ => fun
  | [d1, d2] => { results := [.lit (.bool false)], args := [d1, d2] }
  | _ => none }
def GlobQuotesWrongFalsely : Prop := globQuotesRow.holds Try.pinned (OpenSpec.ofChange globQuotesWrong)

/- THE SECOND FORM. 'bulk': how many values and letters a reading holds, each counted each time it is reached (what is shared counts as often as it is met; a slice's spare places count too). A statement '..UptoSaid' is the law's where the arguments, and the package variables that the reading takes, are together of bulk at most 1048576: NARROWER than '..Said'. Prove '..Said' where nothing that the law and all that it calls make is longer than what came in: it says more and counts as full. Else prove '..UptoSaid'. A law counts once. -/
mutual
def uptoBulk {H : Type} : DataW H → Nat
  | .lit (.string bytes) => bytes.length + 1
  | .lit _ => 1
  | .nil => 1
  | .ptr d => uptoBulk d + 1
  | .slice elems spare => uptoBulkAll elems + uptoBulkAll spare + 1
  | .agg parts => uptoBulkAll parts + 1
  | .iface _ d => uptoBulk d + 1
  | .map entries => uptoBulkEntries entries + 1
  | .held _ => 1
def uptoBulkAll {H : Type} : List (DataW H) → Nat
  | [] => 0
  | d :: r => uptoBulk d + uptoBulkAll r
def uptoBulkEntries {H : Type} : List (Lit × DataW H) → Nat
  | [] => 0
  | x :: r => uptoBulkEntry x + uptoBulkEntries r
def uptoBulkEntry {H : Type} : Lit × DataW H → Nat
  | (.string bytes, d) => bytes.length + uptoBulk d + 1
  | (_, d) => uptoBulk d + 1
 end
def uptoSmall : (H : Type) → List (DataW H) → Bool := fun _ ds => decide (uptoBulkAll ds ≤ 1048576)
def OpenSpec.upto (s : _root_.Go.ChangeSpec) : _root_.Go.OpenSpec := { _root_.Go.OpenSpec.ofChange s with cond := some uptoSmall }

/-- 'pentimentolaw02.GlobStars', WHERE WHAT IT READS IS OF BULK AT MOST 1048576: true; the input reads as it did. -/
def globStarsUptoRow : OpenClaim := { program := "ytbphlenpclnobaa", sum := "4475ceeb1f5ea0c1dbaa5372f7d47d11aecfe7bef3d4655fc1d233eb7fa59b3c", func := "pentimento/pentimentolaw02.GlobStars", spec := "globStars", inPlace := ["internal/bytealg.IndexByteString"], apart := false, narrowed := true }
def GlobStarsUptoSaid : Prop := globStarsUptoRow.holds Try.pinned (OpenSpec.upto globStarsSpec)

/-- 'pentimentolaw16.IndexFrom', WHERE WHAT IT READS IS OF BULK AT MOST 1048576: true; the input reads as it did. -/
def indexFromUptoRow : OpenClaim := { program := "ytbphlenpclnobaa", sum := "4475ceeb1f5ea0c1dbaa5372f7d47d11aecfe7bef3d4655fc1d233eb7fa59b3c", func := "pentimento/pentimentolaw16.IndexFrom", spec := "indexFrom", inPlace := ["slices.overlaps[pentimento/index.entry]", "slices.overlaps[[]pentimento/index.entry]"], unfollowed := true, recurses := true, apart := false, narrowed := true }
def IndexFromUptoSaid : Prop := indexFromUptoRow.holds Try.pinned (OpenSpec.upto indexFromSpec)

/-- 'pentimentolaw16.IndexOrder', WHERE WHAT IT READS IS OF BULK AT MOST 1048576: true; the input reads as it did. -/
def indexOrderUptoRow : OpenClaim := { program := "ytbphlenpclnobaa", sum := "4475ceeb1f5ea0c1dbaa5372f7d47d11aecfe7bef3d4655fc1d233eb7fa59b3c", func := "pentimento/pentimentolaw16.IndexOrder", spec := "indexOrder", inPlace := ["slices.overlaps[pentimento/index.entry]", "slices.overlaps[[]pentimento/index.entry]"], unfollowed := true, recurses := true, apart := false, narrowed := true }
def IndexOrderUptoSaid : Prop := indexOrderUptoRow.holds Try.pinned (OpenSpec.upto indexOrderSpec)

/-- 'pentimentolaw16.IndexActs', WHERE WHAT IT READS IS OF BULK AT MOST 1048576: true; the input reads as it did. -/
def indexActsUptoRow : OpenClaim := { program := "ytbphlenpclnobaa", sum := "4475ceeb1f5ea0c1dbaa5372f7d47d11aecfe7bef3d4655fc1d233eb7fa59b3c", func := "pentimento/pentimentolaw16.IndexActs", spec := "indexActs", inPlace := ["slices.overlaps[pentimento/index.entry]", "slices.overlaps[[]pentimento/index.entry]"], unfollowed := true, recurses := true, apart := false, narrowed := true }
def IndexActsUptoSaid : Prop := indexActsUptoRow.holds Try.pinned (OpenSpec.upto indexActsSpec)

/-- 'pentimentolaw02.GlobQuotes', WHERE WHAT IT READS IS OF BULK AT MOST 1048576: true; the input reads as it did. -/
def globQuotesUptoRow : OpenClaim := { program := "ytbphlenpclnobaa", sum := "4475ceeb1f5ea0c1dbaa5372f7d47d11aecfe7bef3d4655fc1d233eb7fa59b3c", func := "pentimento/pentimentolaw02.GlobQuotes", spec := "globQuotes", inPlace := ["internal/bytealg.IndexByteString", "internal/bytealg.IndexString"], named := ["internal/bytealg.MaxLen"], apart := false, narrowed := true }
def GlobQuotesUptoSaid : Prop := globQuotesUptoRow.holds Try.pinned (OpenSpec.upto globQuotesSpec)

end Rows
end Go.Proofs.Ytbphlenpclnobaa
