/- Reading versions. -/
import Derived.Test.YtomgghelhalaeaaVReadVal
import Derived.Test.YtomgghelhalaeaaVVers
namespace Go.Proofs.Ytomgghelhalaeaa
open Go.V Go.RowKit Go.ChangeShapes Go.WideShapes Go.ChangeAt
section
variable {H : Type} {enc : TypeId × Value → H} {w : World}
theorem read_boolean {P : Program} {t : TypeId} (ht : P.underlying t = some .bool) (n : Nat) (cs : List Value) (z : DataW H × List MemPlace) (h : DataW.trod enc P w 0 (fun _ => true) true n t cs = some z) : ∃ x, cs = eBool.enc x := by
  obtain ⟨s, h1, _⟩ := DataW.trod_bool ht h
  exact ⟨s, h1⟩
theorem read_version (n : Nat) (cs : List Value) (z : DataW H × List MemPlace) (h : DataW.trod enc Try.prog w 0 (fun _ => true) true n 32 cs = some z) : ∃ r, cs = eVer.enc r ∧ ∃ v, VerAt w.heap r v ∧ FitsVer v := by
  have hl := read_len Try.underlying32 h (sz := 8) (by kernel_rfl)
  obtain ⟨m0, y0, h0⟩ := read_field Try.underlying32 h 0 0 1 3 rfl (by kernel_rfl)
  obtain ⟨m1, y1, h1⟩ := read_field Try.underlying32 h 1 1 1 4 rfl (by kernel_rfl)
  obtain ⟨m2, y2, h2⟩ := read_field Try.underlying32 h 2 2 1 3 rfl (by kernel_rfl)
  obtain ⟨m3, y3, h3⟩ := read_field Try.underlying32 h 3 3 5 30 rfl (by kernel_rfl)
  clear h
  match cs, hl with
  | [a, b, c, d, e, f, g, i], _ =>
    simp only [List.drop_zero, List.drop_succ_cons, List.take_succ_cons, List.take_zero] at h0 h1 h2 h3
    obtain ⟨st, hst, gst⟩ := read_int Try.underlying3 _ _ _ h0
    obtain ⟨go, hgo⟩ := read_boolean Try.underlying4 _ _ _ h1
    obtain ⟨ex, hex, gex⟩ := read_int Try.underlying3 _ _ _ h2
    obtain ⟨k, s, p1, c1, ps, p2, c2, ts, p3, c3, zs, hcs, gk, gs, s1, g1, s2, g2, s3, g3⟩ := read_value h3
    simp [eInt, eBool] at hst hgo hex hcs
    obtain ⟨rfl, rfl, rfl, rfl, rfl⟩ := hcs
    subst hst hgo hex
    exact ⟨⟨st, go, ex, ⟨k, s, p1, ps.length, c1, p2, ts.length, c2, p3, zs.length, c3⟩⟩, rfl, ⟨st, go, ex, ⟨k, s, ps, ts, zs⟩⟩, ⟨rfl, rfl, rfl, ⟨rfl, rfl, rfl, rfl, rfl, s1, s2, s3⟩⟩, ⟨gst, gex, ⟨gk, gs, g1, g2, g3⟩⟩⟩

theorem chain_of {p : Option Addr} {c : Nat} {rs : List RawVer} (hs : Sl w.heap eVer p c rs) (hg : ∀ r ∈ rs, ∃ v, VerAt w.heap r v ∧ FitsVer v) : ∃ vs, ChainAt w.heap p c rs vs ∧ ∀ v ∈ vs, FitsVer v := by
  obtain ⟨vs, hl, hq⟩ := list_of (Q := fun i v => ∀ r, rs[i]? = some r → VerAt w.heap r v ∧ FitsVer v) rs.length (fun i hi => by
    obtain ⟨r, hr⟩ := get_some hi
    obtain ⟨v, hv⟩ := hg r (List.mem_of_getElem? hr)
    exact ⟨v, fun r' hr' => by rw [hr] at hr'; injection hr' with hr'; rw [← hr']; exact hv⟩)
  refine ⟨vs, ⟨hs, hl.symm, fun i r v hr hv => (hq i v hv r hr).1⟩, fun v hv => ?_⟩
  obtain ⟨i, hi⟩ := List.getElem?_of_mem hv
  obtain ⟨r, hr⟩ := get_some (xs := rs) (k := i) (by have := get_lt hi; omega)
  exact (hq i v hi r hr).2
end
end Go.Proofs.Ytomgghelhalaeaa
