/- Reading pairs among the arguments of a law. -/
import Derived.Test.YtkibkldikjkokaaRows
import Derived.Test.YtkibkldikjkokaaVRead
import Derived.Test.YtkibkldikjkokaaVTypes
import Derived.WalkKit
namespace Go.Proofs.Ytkibkldikjkokaa
open Go.V Go.RowKit Go.ChangeShapes Go.WideShapes Go.ChangeAt
section
variable {H : Type} {enc : TypeId × Value → H} {w : World}
theorem read_pair (n : Nat) (cs : List Value) (z : DataW H × List MemPlace) (h : DataW.trod enc Try.prog w 0 (fun _ => true) true n 25 cs = some z) : ∃ x, cs = ePair.enc x ∧ (x.1.size ≤ maxLen ∧ x.2.size ≤ maxLen) := by
  obtain ⟨a, b, m, z0, z1, rfl, h0, h1⟩ := read_two Try.underlying25 rfl rfl (by kernel_rfl) (by kernel_rfl) (by kernel_rfl) h
  obtain ⟨x, hx, gx⟩ := read_str (by kernel_rfl) _ _ _ h0
  obtain ⟨y, hy, gy⟩ := read_str (by kernel_rfl) _ _ _ h1
  simp [eStr] at hx hy
  subst hx hy
  exact ⟨(x, y), rfl, gx, gy⟩
end
end Go.Proofs.Ytkibkldikjkokaa
