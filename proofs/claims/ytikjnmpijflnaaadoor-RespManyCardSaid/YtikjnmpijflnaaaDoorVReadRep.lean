/- Reading replies out of the arguments. -/
import Derived.Test.YtikjnmpijflnaaaDoorVRead
import Derived.Test.YtikjnmpijflnaaaDoorVRepBase
import Derived.WalkKit
namespace Go.V
open Go.RowKit Go.ChangeShapes Go.WideShapes Go.ChangeAt
section
variable {H : Type} {enc : TypeId × Value → H} {P : Program} {w : World}
/-- as read_slice, with the elements read at less fuel -/
theorem read_sliceN {α : Type} (en : Enc α) (Good : α → Prop) {t e : TypeId} (ht : P.underlying t = some (.slice e)) (hc : P.cellsOf e = en.sz)
    {fuel : Nat} (dec : ∀ n cs z, n < fuel → DataW.trod enc P w 0 (fun _ => true) true n e cs = some z → ∃ x, cs = en.enc x ∧ Good x)
    {cs : List Value} {x : DataW H × List MemPlace} (h : DataW.trod enc P w 0 (fun _ => true) true fuel t cs = some x) :
    ∃ p c xs, cs = [.slice p xs.length c] ∧ Sl w.heap en p c xs ∧ ∀ y ∈ xs, Good y := by
  rcases DataW.trod_slice ht h with ⟨rfl, _⟩ | ⟨a, len, cap, elems, rest, n, hf, rfl, _, _, hl, hm, hlen, hel, hsp, _⟩
  · exact ⟨none, 0, [], rfl, Sl.nil, by simp⟩
  · rw [hc] at hel
    have key : ∀ i, i < len → ∃ y, (∀ k v, (en.enc y)[k]? = some v → w.cell? ((a.add (i * en.sz)).add k) = some v) ∧ Good y := by
      intro i hi
      have h0 := hel i hi
      rw [List.getElem?_eq_getElem (by rw [hlen]; exact hi)] at h0
      obtain ⟨cs', h1, h2⟩ := Option.bind_eq_some_iff.1 h0
      obtain ⟨y, rfl, hg⟩ := dec _ _ _ (by omega) h2
      refine ⟨y, fun k v hv => ?_, hg⟩
      obtain ⟨_, h3, h4⟩ := World.cells?_some h1
      have hk := get_lt hv
      rw [h4 k (by omega)]; exact hv
    have hspot : 0 < cap → a.spot = none := by
      intro hpos
      have h00 : ∃ y, ∀ k v, (en.enc y)[k]? = some v → w.cell? ((a.add (0 * en.sz)).add k) = some v := by
        by_cases h0 : 0 < len
        · obtain ⟨y, hy, _⟩ := key 0 h0
          exact ⟨y, hy⟩
        · obtain ⟨hrl, hre⟩ := hsp rfl
          have h1 := hre 0 (by omega)
          rw [List.getElem?_eq_getElem (by omega), hc] at h1
          obtain ⟨cs', h2, h3⟩ := Option.bind_eq_some_iff.1 h1
          obtain ⟨y, rfl, _⟩ := dec _ _ _ (by omega) h3
          refine ⟨y, fun k v hv => ?_⟩
          obtain ⟨_, h4, h5⟩ := World.cells?_some h2
          have hk := get_lt hv
          have e0 : len + 0 = 0 := by omega
          rw [e0] at h5
          rw [h5 k (by omega)]; exact hv
      obtain ⟨y, hy⟩ := h00
      have hlen : 0 < (en.enc y).length := by rw [en.len]; exact en.pos
      have := hy 0 _ (List.getElem?_eq_getElem hlen)
      simp only [Nat.zero_mul] at this
      have e0 : (a.add 0).add 0 = a := by simp [Addr.add]
      rw [e0] at this
      exact World.cell?_spot this
    obtain ⟨xs, hxl, hxs⟩ := list_of len (fun i hi => key i hi)
    refine ⟨some a, cap, xs, by rw [hxl], ⟨⟨by omega, hm, (fun h => by cases h), fun b hb hpos => ?_⟩, fun i y hi k v hv => ?_⟩, fun y hy => ?_⟩
    · injection hb with hb; subst hb; exact hspot hpos
    · have h1 := (hxs i y hi).1 k v hv
      have hi' := get_lt hi
      have hs := hspot (by omega)
      obtain ⟨b, o, s⟩ := a
      simp only at hs
      subst hs
      rw [addr_add, addr_add] at h1
      rw [← cell_eq]
      simpa [adr, Nat.add_assoc] using h1
    · obtain ⟨i, hi⟩ := List.getElem?_of_mem hy
      exact (hxs i y hi).2
/-- as read_field, with the fuel told -/
theorem read_fieldN {t : TypeId} {fs : Array Field} (ht : P.underlying t = some (.struct fs)) {n : Nat} {cs : List Value} {z : DataW H × List MemPlace} (h : DataW.trod enc P w 0 (fun _ => true) true n t cs = some z) (i o sz : Nat) (u : TypeId)
    (hf : (fs[i]?.map fun f => (f.offset, f.type)) = some (o, u)) (hs : P.cellsOf u = sz) : ∃ m y, m < n ∧ DataW.trod enc P w 0 (fun _ => true) true m u ((cs.drop o).take sz) = some y := by
  obtain ⟨xs, m, hm, _, hl, hxl, hx⟩ := DataW.trod_struct ht h
  match hfi : fs[i]? with
  | none => rw [hfi] at hf; cases hf
  | some f =>
    rw [hfi] at hf
    simp only [Option.map_some, Option.some.injEq, Prod.mk.injEq] at hf
    have hi : i < fs.size := by
      rcases Nat.lt_or_ge i fs.size with hh | hh
      · exact hh
      · rw [Array.getElem?_eq_none hh] at hfi; cases hfi
    have h0 := hx i f hfi
    rw [hf.1, hf.2, hs] at h0
    have hi' : i < xs.length := by omega
    rw [List.getElem?_eq_getElem hi'] at h0
    exact ⟨m, xs[i], by omega, h0⟩
end
/-- the deepest of several -/
theorem deepest {H : Array Obj} : ∀ (rs : List RawR), (∀ r ∈ rs, ∃ d t, RepAt H d r t) → ∃ (d : Nat) (ts : List Rep), ts.length = rs.length ∧ ∀ (i : Nat) r t, rs[i]? = some r → ts[i]? = some t → RepAt H d r t
  | [], _ => ⟨0, [], rfl, fun i r t h => by simp at h⟩
  | r :: rs, h => by
    obtain ⟨d1, t1, h1⟩ := h r (by simp)
    obtain ⟨d2, ts, hl, h2⟩ := deepest rs (fun x hx => h x (List.mem_cons_of_mem _ hx))
    refine ⟨max d1 d2, t1 :: ts, by simp [hl], fun i r' t' hr ht => ?_⟩
    cases i with
    | zero => simp at hr ht; subst hr ht; exact h1.mono (by omega)
    | succ i => simp at hr ht; exact (h2 i r' t' hr ht).mono (by omega)
end Go.V
namespace Go.Proofs.YtikjnmpijflnaaaDoor
open Go.V Go.RowKit Go.ChangeShapes Go.WideShapes Go.ChangeAt
section
variable {H : Type} {enc : TypeId × Value → H} {w : World}
theorem read_rep : ∀ (k n : Nat) (cs : List Value) (z : DataW H × List MemPlace), n < k → DataW.trod enc Tryd.prog w 0 (fun _ => true) true n 24 cs = some z → ∃ r, cs = eRep.enc r ∧ ∃ d t, RepAt w.heap d r t
  | 0, n, _, _, hn, _ => by omega
  | k + 1, n, cs, z, hn, h => by
    have hl := read_len Tryd.underlying24 h (sz := 4) (by kernel_rfl)
    obtain ⟨m0, y0, l0, h0⟩ := read_fieldN Tryd.underlying24 h 0 0 1 3 rfl (by kernel_rfl)
    obtain ⟨m1, y1, l1, h1⟩ := read_fieldN Tryd.underlying24 h 1 1 1 9 rfl (by kernel_rfl)
    obtain ⟨m2, y2, l2, h2⟩ := read_fieldN Tryd.underlying24 h 2 2 1 3 rfl (by kernel_rfl)
    obtain ⟨m3, y3, l3, h3⟩ := read_fieldN Tryd.underlying24 h 3 3 1 22 rfl (by kernel_rfl)
    clear h
    match cs, hl with
    | [a, b, c, d], _ =>
      simp only [List.drop_zero, List.drop_succ_cons, List.take_succ_cons, List.take_zero] at h0 h1 h2 h3
      obtain ⟨kd, hk, gk⟩ := read_int Tryd.underlying3 _ _ _ h0
      obtain ⟨s, hs, gs⟩ := read_str Tryd.underlying9 _ _ _ h1
      obtain ⟨nn, hn', gn⟩ := read_int Tryd.underlying3 _ _ _ h2
      obtain ⟨p, cc, rs, e3, s3, g3⟩ := read_sliceN eRep (fun r => ∃ d t, RepAt w.heap d r t) Tryd.underlying22 (by kernel_rfl) (fun n' cs' z' hlt hh => read_rep k n' cs' z' (by omega) hh) h3
      simp [eInt, eStr] at hk hs hn' e3
      subst hk hs hn' e3
      obtain ⟨dd, ts, hl, hg⟩ := deepest rs g3
      exact ⟨⟨kd, s, nn, p, rs.length, cc⟩, rfl, dd + 1, .mk kd s nn ts, rfl, rfl, rfl, hl.symm, gs, gn, rs, s3, hl.symm, hg⟩
end
end Go.Proofs.YtikjnmpijflnaaaDoor
