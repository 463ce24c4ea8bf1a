/- Reading values. -/
import Derived.Test.YtomgghelhalaeaaVReadVal
import Derived.Test.YtomgghelhalaeaaVVers
namespace Go.Proofs.Ytomgghelhalaeaa
open Go.V Go.RowKit Go.ChangeShapes Go.WideShapes Go.ChangeAt
section
variable {H : Type} {enc : TypeId × Value → H} {w : World}
theorem read_raw (n : Nat) (cs : List Value) (z : DataW H × List MemPlace) (h : DataW.trod enc Try.prog w 0 (fun _ => true) true n 30 cs = some z) : ∃ r, cs = eRaw.enc r ∧ ∃ v, Rv w.heap r v ∧ Fits v := by
  obtain ⟨k, s, p1, c1, ps, p2, c2, ts, p3, c3, zs, rfl, gk, gs, s1, g1, s2, g2, s3, g3⟩ := read_value h
  exact ⟨⟨k, s, p1, ps.length, c1, p2, ts.length, c2, p3, zs.length, c3⟩, rfl, ⟨k, s, ps, ts, zs⟩, ⟨rfl, rfl, rfl, rfl, rfl, s1, s2, s3⟩, ⟨gk, gs, g1, g2, g3⟩⟩
end
end Go.Proofs.Ytomgghelhalaeaa
