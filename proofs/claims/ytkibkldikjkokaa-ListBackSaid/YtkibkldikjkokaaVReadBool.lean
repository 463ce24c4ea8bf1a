/- A bool that is an argument. -/
import Derived.Test.YtkibkldikjkokaaVRead
namespace Go.V
open Go.RowKit Go.ChangeShapes Go.WideShapes
variable {H : Type} {enc : TypeId × Value → H} {P : Program} {w : World}
theorem arg_bool {t : TypeId} {v : Value} {d : DataW H} {ps : List MemPlace} {r : Reach} {base : Nat} (ht : P.underlying t = some .bool) (hv : Value.okWide P w r base t v) (_h : DataW.Trod enc P w 0 (fun _ => true) true t v d ps) : ∃ b, v = .bool b := by
  obtain ⟨s, rfl⟩ := okWide_bool ht hv
  exact ⟨s, rfl⟩
end Go.V
