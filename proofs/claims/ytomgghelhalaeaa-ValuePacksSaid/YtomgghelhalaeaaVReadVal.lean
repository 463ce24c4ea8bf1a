/- Reading the arguments of the value's laws. -/
import Derived.Test.YtomgghelhalaeaaRows
import Derived.Test.YtomgghelhalaeaaVRead
import Derived.Test.YtomgghelhalaeaaVTypes
import Derived.WalkKit
namespace Go.Proofs.Ytomgghelhalaeaa
open Go.V Go.RowKit Go.ChangeShapes Go.WideShapes Go.ChangeAt
section
variable {H : Type} {enc : TypeId × Value → H} {w : World}
theorem read_pair (n : Nat) (cs : List Value) (z : DataW H × List MemPlace) (h : DataW.trod enc Try.prog w 0 (fun _ => true) true n 43 cs = some z) : ∃ x, cs = ePair.enc x ∧ (x.1.size ≤ maxLen ∧ x.2.size ≤ maxLen) := by
  obtain ⟨a, b, m, z0, z1, rfl, h0, h1⟩ := read_two Try.underlying43 rfl rfl (by kernel_rfl) (by kernel_rfl) (by kernel_rfl) h
  obtain ⟨x, hx, gx⟩ := read_str (by kernel_rfl) _ _ _ h0
  obtain ⟨y, hy, gy⟩ := read_str (by kernel_rfl) _ _ _ h1
  simp [eStr] at hx hy
  subst hx hy
  exact ⟨(x, y), rfl, gx, gy⟩

theorem read_member (n : Nat) (cs : List Value) (z : DataW H × List MemPlace) (h : DataW.trod enc Try.prog w 0 (fun _ => true) true n 45 cs = some z) : ∃ x, cs = eMem.enc x ∧ ((-9223372036854775808 ≤ x.1 ∧ x.1 ≤ 9223372036854775807) ∧ x.2.size ≤ maxLen) := by
  obtain ⟨a, b, m, z0, z1, rfl, h0, h1⟩ := read_two Try.underlying45 rfl rfl (by kernel_rfl) (by kernel_rfl) (by kernel_rfl) h
  obtain ⟨x, hx, gx⟩ := read_int (by kernel_rfl) _ _ _ h0
  obtain ⟨y, hy, gy⟩ := read_str (by kernel_rfl) _ _ _ h1
  simp [eStr, eInt] at hx hy
  subst hx hy
  exact ⟨(x, y), rfl, gx, gy⟩

theorem read_value {n : Nat} {cs : List Value} {z : DataW H × List MemPlace} (h : DataW.trod enc Try.prog w 0 (fun _ => true) true n 30 cs = some z) :
    ∃ k s p1 c1 ps p2 c2 ts p3 c3 zs, cs = [.int .i64 k, .string s, .slice p1 (ps.length) c1, .slice p2 (ts.length) c2, .slice p3 (zs.length) c3] ∧ (-9223372036854775808 ≤ k ∧ k ≤ 9223372036854775807) ∧ s.size ≤ maxLen ∧
      Sl w.heap ePair p1 c1 ps ∧ (∀ x ∈ ps, x.1.size ≤ maxLen ∧ x.2.size ≤ maxLen) ∧ Sl w.heap eStr p2 c2 ts ∧ (∀ x ∈ ts, x.size ≤ maxLen) ∧ Sl w.heap eMem p3 c3 zs ∧ (∀ x ∈ zs, (-9223372036854775808 ≤ x.1 ∧ x.1 ≤ 9223372036854775807) ∧ x.2.size ≤ maxLen) := by
  have hl := read_len Try.underlying30 h (sz := 5) (by kernel_rfl)
  obtain ⟨m0, y0, h0⟩ := read_field Try.underlying30 h 0 0 1 3 rfl (by kernel_rfl)
  obtain ⟨m1, y1, h1⟩ := read_field Try.underlying30 h 1 1 1 9 rfl (by kernel_rfl)
  obtain ⟨m2, y2, h2⟩ := read_field Try.underlying30 h 2 2 1 26 rfl (by kernel_rfl)
  obtain ⟨m3, y3, h3⟩ := read_field Try.underlying30 h 3 3 1 27 rfl (by kernel_rfl)
  obtain ⟨m4, y4, h4⟩ := read_field Try.underlying30 h 4 4 1 28 rfl (by kernel_rfl)
  clear h
  match cs, hl with
  | [a, b, c, d, e], _ =>
    simp only [List.drop_zero, List.drop_succ_cons, List.take_succ_cons, List.take_zero] at h0 h1 h2 h3 h4
    obtain ⟨k, hk, gk⟩ := read_int Try.underlying3 _ _ _ h0
    obtain ⟨s, hs, gs⟩ := read_str Try.underlying9 _ _ _ h1
    obtain ⟨p1, c1, ps, e1, s1, g1⟩ := read_slice ePair _ Try.underlying26 (by kernel_rfl) read_pair h2
    obtain ⟨p2, c2, ts, e2, s2, g2⟩ := read_slice eStr _ Try.underlying27 (by kernel_rfl) (read_str Try.underlying9) h3
    obtain ⟨p3, c3, zs, e3, s3, g3⟩ := read_slice eMem _ Try.underlying28 (by kernel_rfl) read_member h4
    simp [eInt, eStr] at hk hs e1 e2 e3
    subst hk hs e1 e2 e3
    exact ⟨k, s, p1, c1, ps, p2, c2, ts, p3, c3, zs, rfl, gk, gs, s1, g1, s2, g2, s3, g3⟩
end
end Go.Proofs.Ytomgghelhalaeaa
