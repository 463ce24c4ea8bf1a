/- From the reading of the arguments to slices that read as lists; the frame of a law's proof. -/
import Derived.Test.YtikjnmpijflnaaaDoorVMem4
import Derived.ProofKit
import Derived.OpenShut
import Derived.ChangeOld
import Derived.Deep.Slices
namespace Go.V
open Go.RowKit Go.ChangeShapes Go.WideShapes Go.ChangeAt

theorem list_of {α : Type} {Q : Nat → α → Prop} : ∀ n, (∀ i, i < n → ∃ x, Q i x) → ∃ xs : List α, xs.length = n ∧ ∀ i x, xs[i]? = some x → Q i x
  | 0, _ => ⟨[], rfl, fun i x h => by simp at h⟩
  | n + 1, h => by
    obtain ⟨xs, hl, hq⟩ := list_of n (fun i hi => h i (by omega))
    obtain ⟨x, hx⟩ := h n (by omega)
    refine ⟨xs ++ [x], by simp [hl], fun i y hy => ?_⟩
    by_cases hi : i < xs.length
    · rw [List.getElem?_append_left hi] at hy; exact hq i y hy
    · rw [List.getElem?_append_right (by omega)] at hy
      have h0 : i - xs.length = 0 := by have := get_lt hy; simp at this; omega
      rw [h0] at hy
      simp at hy
      subst hy
      have : i = n := by omega
      subst this
      exact hx

section
variable {H : Type} {enc : TypeId × Value → H} {P : Program} {w : World}

theorem read_slice {α : Type} (en : Enc α) (Good : α → Prop) {t e : TypeId} (ht : P.underlying t = some (.slice e)) (hc : P.cellsOf e = en.sz)
    (dec : ∀ n cs z, DataW.trod enc P w 0 (fun _ => true) true n e cs = some z → ∃ x, cs = en.enc x ∧ Good x)
    {fuel : Nat} {cs : List Value} {x : DataW H × List MemPlace} (h : DataW.trod enc P w 0 (fun _ => true) true fuel t cs = some x) :
    ∃ p c xs, cs = [.slice p xs.length c] ∧ Sl w.heap en p c xs ∧ ∀ y ∈ xs, Good y := by
  rcases Deep.open_slice ht h with ⟨rfl, _⟩ | ⟨a, len, cap, m, n, D, Pl, rfl, _, hl, hm, hmm, _, hx⟩
  · exact ⟨none, 0, [], rfl, Sl.nil, by simp⟩
  · simp only [if_true] at hmm
    subst hmm
    rw [hc] at hx
    have key : ∀ i, i < m → ∃ y, (∀ k v, (en.enc y)[k]? = some v → w.cell? ((a.add (i * en.sz)).add k) = some v) ∧ Good y := by
      intro i hi
      obtain ⟨cs', h1, h2⟩ := hx i hi
      obtain ⟨y, rfl, hg⟩ := dec _ _ _ h2
      refine ⟨y, fun k v hv => ?_, hg⟩
      obtain ⟨_, h3, h4⟩ := World.cells?_some h1
      have hk := get_lt hv
      rw [h4 k (by omega)]; exact hv
    have hspot : 0 < m → a.spot = none := by
      intro hpos
      obtain ⟨y, hy, _⟩ := key 0 hpos
      have hlen : 0 < (en.enc y).length := by rw [en.len]; exact en.pos
      have := hy 0 _ (List.getElem?_eq_getElem hlen)
      simp only [Nat.zero_mul] at this
      have e0 : (a.add 0).add 0 = a := by simp [Addr.add]
      rw [e0] at this
      exact World.cell?_spot this
    obtain ⟨xs, hxl, hxs⟩ := list_of len (fun i hi => key i (by omega))
    refine ⟨some a, m, xs, by rw [hxl], ⟨⟨by omega, hm, (fun h => by cases h), fun b hb hpos => ?_⟩, fun i y hi k v hv => ?_⟩, fun y hy => ?_⟩
    · injection hb with hb; subst hb; exact hspot hpos
    · have h1 := (hxs i y hi).1 k v hv
      have hi' := get_lt hi
      have hs := hspot (by omega)
      obtain ⟨b, o, s⟩ := a
      simp only at hs
      subst hs
      rw [addr_add, addr_add] at h1
      rw [← cell_eq]
      simpa [adr, Nat.add_assoc] using h1
    · obtain ⟨i, hi⟩ := List.getElem?_of_mem hy
      exact (hxs i y hi).2

theorem read_str {t : TypeId} (ht : P.underlying t = some .string) (n : Nat) (cs : List Value) (z : DataW H × List MemPlace) (h : DataW.trod enc P w 0 (fun _ => true) true n t cs = some z) : ∃ x, cs = eStr.enc x ∧ x.size ≤ maxLen := by
  obtain ⟨s, h1, _, h2⟩ := DataW.trod_string ht h
  exact ⟨s, h1, h2⟩

theorem read_int {t : TypeId} (ht : P.underlying t = some (.int .i64)) (n : Nat) (cs : List Value) (z : DataW H × List MemPlace) (h : DataW.trod enc P w 0 (fun _ => true) true n t cs = some z) : ∃ x, cs = eInt.enc x ∧ (-9223372036854775808 ≤ x ∧ x ≤ 9223372036854775807) := by
  obtain ⟨s, h1, _, h2⟩ := DataW.trod_int ht h
  exact ⟨s, h1, by simpa [Lit.wf, IntKind.min, IntKind.max, IntKind.bits, IntKind.signed] using h2⟩

theorem read_byte {t : TypeId} (ht : P.underlying t = some (.int .u8)) (n : Nat) (cs : List Value) (z : DataW H × List MemPlace) (h : DataW.trod enc P w 0 (fun _ => true) true n t cs = some z) : ∃ x, cs = eByte.enc x ∧ True := by
  obtain ⟨s, h1, _, h2⟩ := DataW.trod_int ht h
  have hb : 0 ≤ s ∧ s ≤ 255 := by simpa [Lit.wf, IntKind.min, IntKind.max, IntKind.bits, IntKind.signed] using h2
  refine ⟨UInt8.ofNat s.toNat, ?_, trivial⟩
  rw [h1]
  have : (UInt8.ofNat s.toNat).toNat = s.toNat := by simp; omega
  have h3 : ((UInt8.ofNat s.toNat).toNat : Int) = s := by rw [this]; omega
  simp only [eByte, h3]

/-- a struct of two fields of one cell each -/
theorem read_two {t : TypeId} {f0 f1 : Field} (ht : P.underlying t = some (.struct #[f0, f1])) (o0 : f0.offset = 0) (o1 : f1.offset = 1) (c : P.cellsOf t = 2) (c0 : P.cellsOf f0.type = 1) (c1 : P.cellsOf f1.type = 1)
    {n : Nat} {cs : List Value} {z : DataW H × List MemPlace} (h : DataW.trod enc P w 0 (fun _ => true) true n t cs = some z) :
    ∃ a b m z0 z1, cs = [a, b] ∧ DataW.trod enc P w 0 (fun _ => true) true m f0.type [a] = some z0 ∧ DataW.trod enc P w 0 (fun _ => true) true m f1.type [b] = some z1 := by
  obtain ⟨xs, m, _, _, hl, hxl, hf⟩ := DataW.trod_struct ht h
  rw [c] at hl
  match cs, hl with
  | [a, b], _ =>
    have h0 := hf 0 f0 rfl
    have h1 := hf 1 f1 rfl
    rw [o0, c0] at h0
    rw [o1, c1] at h1
    simp only [List.size_toArray, List.length_cons, List.length_nil, Nat.zero_add] at hxl
    match xs, hxl with
    | [x0, x1], _ => exact ⟨a, b, m, x0, x1, rfl, by simpa using h0, by simpa using h1⟩

theorem arg_str {t : TypeId} {v : Value} {d : DataW H} {ps : List MemPlace} {r : Reach} {base : Nat} (ht : P.underlying t = some .string) (hv : Value.okWide P w r base t v) (h : DataW.Trod enc P w 0 (fun _ => true) true t v d ps) : ∃ s, v = .string s ∧ s.size ≤ maxLen := by
  obtain ⟨s, rfl⟩ := okWide_string ht hv
  obtain ⟨n, h⟩ := h
  obtain ⟨x, hx, hs⟩ := read_str ht _ _ _ h
  simp [Value.cells, eStr] at hx
  subst hx
  exact ⟨s, rfl, hs⟩

theorem arg_int {t : TypeId} {v : Value} {d : DataW H} {ps : List MemPlace} {r : Reach} {base : Nat} (ht : P.underlying t = some (.int .i64)) (hv : Value.okWide P w r base t v) (h : DataW.Trod enc P w 0 (fun _ => true) true t v d ps) : ∃ x, v = .int .i64 x ∧ (-9223372036854775808 ≤ x ∧ x ≤ 9223372036854775807) := by
  obtain ⟨s, rfl⟩ := okWide_int ht hv
  obtain ⟨n, h⟩ := h
  obtain ⟨x, hx, hs⟩ := read_int ht _ _ _ h
  simp [Value.cells, eInt] at hx
  subst hx
  exact ⟨s, rfl, hs⟩

theorem arg_slice {α : Type} (en : Enc α) (Good : α → Prop) {t e : TypeId} {v : Value} {d : DataW H} {ps : List MemPlace} {r : Reach} {base : Nat} (ht : P.underlying t = some (.slice e)) (hc : P.cellsOf e = en.sz)
    (dec : ∀ n cs z, DataW.trod enc P w 0 (fun _ => true) true n e cs = some z → ∃ x, cs = en.enc x ∧ Good x)
    (hv : Value.okWide P w r base t v) (h : DataW.Trod enc P w 0 (fun _ => true) true t v d ps) : ∃ p c xs, v = .slice p xs.length c ∧ Sl w.heap en p c xs ∧ ∀ y ∈ xs, Good y := by
  obtain ⟨a, len, cap, rfl⟩ := okWide_slice ht hv
  obtain ⟨n, h⟩ := h
  obtain ⟨p, c, xs, hx, hs⟩ := read_slice en Good ht hc dec h
  simp [Value.cells] at hx
  obtain ⟨rfl, rfl, rfl⟩ := hx
  exact ⟨_, _, xs, rfl, hs⟩

theorem arg_struct {fs : Array Field} {t : TypeId} {v : Value} {d : DataW H} {ps : List MemPlace} {r : Reach} {base : Nat} (ht : P.underlying t = some (.struct fs)) (hv : Value.okWide P w r base t v) (h : DataW.Trod enc P w 0 (fun _ => true) true t v d ps) : ∃ cs n z, v = .agg cs.toArray ∧ DataW.trod enc P w 0 (fun _ => true) true n t cs = some z := by
  obtain ⟨cs, rfl, _⟩ := okWide_struct ht hv
  obtain ⟨n, h⟩ := h
  exact ⟨cs.toList, n, _, rfl, h⟩

/-- the fields of a struct -/
theorem read_field {t : TypeId} {fs : Array Field} (ht : P.underlying t = some (.struct fs)) {n : Nat} {cs : List Value} {z : DataW H × List MemPlace} (h : DataW.trod enc P w 0 (fun _ => true) true n t cs = some z) (i o sz : Nat) (u : TypeId)
    (hf : (fs[i]?.map fun f => (f.offset, f.type)) = some (o, u)) (hs : P.cellsOf u = sz) : ∃ m y, DataW.trod enc P w 0 (fun _ => true) true m u ((cs.drop o).take sz) = some y := by
  obtain ⟨xs, m, _, _, hl, hxl, hx⟩ := DataW.trod_struct ht h
  match hfi : fs[i]? with
  | none => rw [hfi] at hf; cases hf
  | some f =>
    rw [hfi] at hf
    simp only [Option.map_some, Option.some.injEq, Prod.mk.injEq] at hf
    have hi : i < fs.size := by
      rcases Nat.lt_or_ge i fs.size with hh | hh
      · exact hh
      · rw [Array.getElem?_eq_none hh] at hfi; cases hfi
    have h0 := hx i f hfi
    rw [hf.1, hf.2, hs] at h0
    have hi' : i < xs.length := by omega
    rw [List.getElem?_eq_getElem hi'] at h0
    exact ⟨m, xs[i], h0⟩

theorem read_len {t : TypeId} {fs : Array Field} (ht : P.underlying t = some (.struct fs)) {n : Nat} {cs : List Value} {z : DataW H × List MemPlace} (h : DataW.trod enc P w 0 (fun _ => true) true n t cs = some z) {sz : Nat} (hs : P.cellsOf t = sz) : cs.length = sz := by
  obtain ⟨xs, m, _, _, hl, hxl, hx⟩ := DataW.trod_struct ht h
  omega

theorem trodAll_below (hl : laidOutB P = true) {W W' : World} (hx : Ext W W') : ∀ {ts : List TypeId} {vs : List Value} {ds : List (DataW H)} {ps : List MemPlace}, (∀ t ∈ ts, P.readableRec t = true ∧ t < P.types.size) →
    DataW.TrodAll enc P W 0 (fun _ => true) true ts vs ds ps → DataW.TrodAll enc P W' 0 (fun b => decide (b < W.heap.size)) true ts vs ds ps
  | [], vs, ds, ps, _, h => by
    obtain ⟨rfl, rfl, rfl⟩ := trodAll_nil h
    exact trodAll_mk0
  | t :: ts, vs, ds, ps, hr, h => by
    obtain ⟨v, vs', d, ds', p, q, rfl, rfl, rfl, h1, h2⟩ := trodAll_cons h
    have hlt : ∀ x ∈ p, x.block < W.heap.size := by obtain ⟨m, hm⟩ := h1; exact DataW.trod_lt m _ _ _ hm
    obtain ⟨r1, r2⟩ := hr t (by simp)
    exact trodAll_cons_mk (Below.trod hl r1 r2 h1 hx hlt) (trodAll_below hl hx (fun t ht => hr t (by simp [ht])) h2)

/-- the frame of a law: it returns true and only adds memory -/
theorem law_post {f : Func} {s : ChangeSpec} {W W' : World} {args : Array Value} {ds gs : List (DataW H)} {before : List MemPlace} (hl : laidOutB P = true) (hr : (f.params.toList.all fun t => P.readableRec t && decide (t < P.types.size)) = true) {tb : TypeId} (hb : P.underlying tb = some .bool)
    (hres : f.resultTypes = #[tb]) (hvars : s.vars = []) (hW : DataW.Whole enc P f.params.toList s.vars false W args.toList ds gs before) (hs : s.fn H (ds ++ gs) = { results := [.lit (.bool true)], args := ds }) (hx : Ext W W') :
    s.post enc P f false true false false W args (.bool true) W' := by
  have hW' := hW
  obtain ⟨p, q, hA, hV, rfl, _, _⟩ := hW
  rw [hvars] at hV
  obtain ⟨rfl, rfl⟩ := trodVars_none hV
  have hr' : ∀ t ∈ f.params.toList, P.readableRec t = true ∧ t < P.types.size := fun t ht => by
    have := List.all_eq_true.1 hr t ht
    simpa using this
  refine ⟨ds, [], p ++ [], [], p, [], hW', ?_, ?_, ?_, hx.frame _, fun h => by cases h⟩
  · rw [hs, hres]
    exact trodAll_mk1 (shut_bool hb _)
  · rw [hs]
    exact trodAll_below hl hx hr' hA
  · rw [hs, hvars]; exact rfl

end
end Go.V
