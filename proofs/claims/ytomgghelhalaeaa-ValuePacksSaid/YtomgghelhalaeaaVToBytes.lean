/- A string as bytes, and more appended to them. -/
import Derived.Test.YtomgghelhalaeaaVMem4
import Derived.Laws.IdiomStrings
namespace Go.V
open Go.RowKit

theorem storeCells_mark (P : Program) (g o : Nat) (t : TypeId) (fr : Nat × Nat) : ∀ (vs : List Value) (i : Nat) (cur : Array Value) (w : World), w.heap[g]? = some (.cells cur t fr) → cur.size ≤ fr.1 → o + i + vs.length ≤ cur.size → (∀ v ∈ vs, v.oneCell' = true) →
    (storeCells ⟨g, o, none⟩ vs i).run P w = .ok () (w.setRow g (cur.toList.take (o + i) ++ vs ++ cur.toList.drop (o + i + vs.length)).toArray)
  | [], i, cur, w, hg, _, _, _ => by
    simp only [storeCells, List.append_nil, List.length_nil, Nat.add_zero, List.take_append_drop, Array.toArray_toList]
    rw [setRow_self w g cur t fr hg]
    rfl
  | v :: rest, i, cur, w, hg, hf, hl, h1 => by
    have hi : o + i < cur.size := by simp at hl; omega
    have hadd : (⟨g, o, none⟩ : Addr).add i = ⟨g, o + i, none⟩ := addr_add g o i
    have hcell : w.cell? ⟨g, o + i, none⟩ = some cur[o + i] := by simp [World.cell?, hg, hi]
    have hfro : w.frozen? ⟨g, o + i, none⟩ = false := by
      simp [World.frozen?, hg]; omega
    have hst : (store ((⟨g, o, none⟩ : Addr).add i) v).run P w = .ok () (w.setRow g (cur.setIfInBounds (o + i) v)) := by
      rw [hadd, run_store P w _ v _ (h1 v (by simp)), hcell]
      simp [hfro, setCell_eq_setRow w g (o + i) cur t fr v hg]
    have ih := storeCells_mark P g o t fr rest (i + 1) (cur.setIfInBounds (o + i) v) (w.setRow g (cur.setIfInBounds (o + i) v)) (setRow_heap w g cur _ t _ hg) (by simpa using hf) (by simp at hl ⊢; omega) (fun x hx => h1 x (by simp [hx]))
    simp only [storeCells, Sem.run_bind, hst, Result.andThen_ok, ih, setRow_setRow]
    congr 3
    have e := list_seg_step cur.toList (o + i) v rest (by simp at hl ⊢; omega)
    simpa [Array.toList_setIfInBounds, Nat.add_assoc] using e

/-- block b holds the bytes bs, with room up to c, and a mark behind its cells -/
def MarkB (w : World) (b T c : Nat) (bs : List UInt8) : Prop :=
  ∃ cur fr, w.heap[b]? = some (.cells cur T fr) ∧ cur.size ≤ fr.1 ∧ cur.size = c ∧ bs.length ≤ c ∧ c ≤ maxLen ∧ cur.toList.take bs.length = bs.flatMap eByte.enc

theorem flatByte_len (bs : List UInt8) : (bs.flatMap eByte.enc).length = bs.length := by rw [flat_len]; simp [eByte]

theorem sl_of_cells {w : World} {b T c : Nat} {bs : List UInt8} {cur : Array Value} {fr : Nat × Nat} (hg : w.heap[b]? = some (.cells cur T fr)) (hl : bs.length ≤ c) (hm : c ≤ maxLen) (ht : cur.toList.take bs.length = bs.flatMap eByte.enc) : Sl w.heap eByte (some ⟨b, 0, none⟩) c bs := by
  refine ⟨⟨hl, hm, (fun h => by cases h), (fun a ha _ => by injection ha with ha; rw [← ha])⟩, fun i x hi k v hv => ?_⟩
  have hk : k = 0 := by have := get_lt hv; rw [eByte.len] at this; simp [eByte] at this; omega
  subst hk
  have hlt := get_lt hi
  have hf : (bs.flatMap eByte.enc)[i]? = some v := by
    have := flat_get eByte bs i 0 x v hi hv
    simpa [eByte] using this
  rw [← ht, List.getElem?_take, if_pos hlt] at hf
  simp only [hcell, adr, hg, eByte, Nat.zero_add, Nat.mul_one, Nat.add_zero]
  simpa using hf

theorem MarkB.sl {w : World} {b T c : Nat} {bs : List UInt8} (h : MarkB w b T c bs) : Sl w.heap eByte (some ⟨b, 0, none⟩) c bs := by
  obtain ⟨cur, fr, hg, _, _, h1, h2, h3⟩ := h
  exact sl_of_cells hg h1 h2 h3

section
variable {P : Program} {n : Nat} {ops : Array Oper} {dr : Nat × List Nat} {dq : Nat} {l : List Oper} {E : Env} {w : World} {K : Env → World → Prop}
variable {d : Option Nat} {ty : TypeId} {pos : String} {af : Array Edge} {g : Option (Nat × Bool)} {x y z : Operand} {t t' u by_ : Nat} {s : ByteArray} {c : Nat}

theorem G1_toBytes (hs : StrT P t) (hu : SliceT P t' u 1 by_) (hk : IntT P u .u8) (hx : E.look x = some (.string s)) (hl : s.size ≤ 100000000) (he : effects P dr.1 ⟨d, .convert t t' x, ty, pos, af, g⟩ = true) (hd : dstOk n d = true)
    (h : ∀ b c w', b = w.heap.size → MarkB w' b u c s.data.toList → Ext w w' → w'.heap.size = w.heap.size + 1 → G P n ops dr l (E.put d (.slice (some ⟨b, 0, none⟩) s.data.toList.length c)) w' K) :
    G1 P n ops dr ⟨d, .convert t t' x, ty, pos, af, g⟩ l E w K := by
  have hr := run_bytes_of_string (P := P) w t t' u s hs hu.1 hk
  have hsz : s.data.toList.length = s.size := by rw [Array.length_toList]; rfl
  have hge := grownCap_ge w s.size 0 u
  have hcm : grownCap w s.size 0 u ≤ maxLen := grownCap_le_maxLen w _ 0 u (by simp only [maxLen]; omega)
  have hx' : Ext w (w.drew.alloc (.cells (bytesRow s (grownCap w s.size 0 u)) u ((bytesRow s (grownCap w s.size 0 u)).size, (bytesRow s (grownCap w s.size 0 u)).size + 1))) := Ext.alloc (Ext.drew Ext.rfl') _
  refine G1_eff _ _ he hd (fun a ha => by simp only [execOp, ha.eval hx, Sem.run_bind, hr]; rfl) (.inr hx'.toS) ?_
  have h' := h w.heap.size (grownCap w s.size 0 u) _ rfl ?_ hx' (by simp)
  · rw [hsz] at h'; exact h'
  · refine ⟨_, _, heap_alloc_new w.drew _, Nat.le_refl _, ?_, by omega, hcm, ?_⟩
    · have e0 : s.data.size = s.size := rfl
      unfold bytesRow
      simp only [Array.size_append, Array.size_map, Array.size_replicate]
      omega
    · rw [hsz]
      apply List.ext_getElem?
      intro j
      by_cases hj : j < s.size
      · rw [List.getElem?_take, if_pos hj]
        have hj' : j < s.data.size := hj
        have e1 := bytesRow_at s (grownCap w s.size 0 u) j hj'
        have e2 : (bytesRow s (grownCap w s.size 0 u)).toList[j]? = (bytesRow s (grownCap w s.size 0 u))[j]? := by simp
        rw [e2, e1]
        have hg : s.data.toList[j]? = some s.data[j] := by simp [hj']
        have := flat_get eByte s.data.toList j 0 _ _ hg rfl
        simpa [eByte] using this.symm
      · rw [List.getElem?_take, if_neg hj, List.getElem?_eq_none (by rw [flatByte_len, hsz]; omega)]

theorem G1_appendM {b : Nat} {xs ys : List UInt8} {q : Option Addr} {c2 : Nat} (hu : SliceT P t u 1 1) (hx : E.look x = some (.slice (some ⟨b, 0, none⟩) xs.length c)) (hy : E.look y = some (.slice q ys.length c2)) (hM : MarkB w b u c xs) (hsl : Sl w.heap eByte q c2 ys)
    (hmax : xs.length + ys.length ≤ 1000000000)
    (he : effects P dr.1 ⟨d, .call ⟨.builtin .append, #[x, y], #[t, t]⟩, ty, pos, af, g⟩ = true) (hw : writes dr.1 ⟨d, .call ⟨.builtin .append, #[x, y], #[t, t]⟩, ty, pos, af, g⟩ = true) (hd : dstOk n d = true)
    (h : ∀ p' c' w', Sl w'.heap eByte p' c' (xs ++ ys) → w.grownBy w' (some b) → G P n ops dr l (E.put d (.slice p' (xs ++ ys).length c')) w' K) : G1 P n ops dr ⟨d, .call ⟨.builtin .append, #[x, y], #[t, t]⟩, ty, pos, af, g⟩ l E w K := by
  have hslx := hM.sl
  have key : ∃ p' c' w', (Builtin.append_ #[t, t] ty #[.slice (some ⟨b, 0, none⟩) xs.length c, .slice q ys.length c2]).run P w = .ok (.slice p' (xs ++ ys).length c') w' ∧ Sl w'.heap eByte p' c' (xs ++ ys) ∧ w.grownBy w' (some b) := by
    obtain ⟨cur, fr, hg, hf, hc, h1, h2, h3⟩ := hM
    cases q with
    | none =>
      have e1 := hsl.ok.nul rfl
      have e2 := hsl.ok.le
      obtain rfl : ys = [] := List.eq_nil_of_length_eq_zero (by omega)
      subst e1
      refine ⟨_, c, w, by simpa using run_append_nothing (p := some ⟨b, 0, none⟩) (len := xs.length) (c := c) hu h1 ty w, by simpa using hslx, ⟨rfl, rfl, rfl, Nat.le_refl _, fun _ _ _ => rfl⟩⟩
    | some a =>
      have hn : ∀ j v, (ys.flatMap eByte.enc)[j]? = some v → w.cell? (a.add j) = some v := by
        intro j v hv
        have hne : 0 < ys.length := by cases ys <;> simp_all
        have hspot := hsl.ok.spot a rfl (by have := hsl.ok.le; omega)
        have hcl := hsl.flat j v hv
        obtain ⟨b', o, s⟩ := a
        simp only at hspot
        subst hspot
        rw [addr_add]; exact hcl
      obtain ⟨hu1, i, z, hi, hs1, hb1, hz, hz2⟩ := hu
      have hyl := flatByte_len ys
      have hxl := flatByte_len xs
      by_cases hroom : xs.length + ys.length ≤ c
      · have hst := storeCells_mark P b xs.length u fr (ys.flatMap eByte.enc) 0 cur w hg hf (by rw [hyl, hc]; omega) (flat_one eByte ys)
        simp only [Nat.add_zero, hyl] at hst
        have hld := run_loadCells_list (P := P) w a (ys.flatMap eByte.enc) hn
        rw [hyl] at hld
        refine ⟨some ⟨b, 0, none⟩, c, w.setRow b (cur.toList.take xs.length ++ ys.flatMap eByte.enc ++ cur.toList.drop (xs.length + ys.length)).toArray, ?_, ?_, setRow_grown w b _⟩
        · simp [Builtin.append_, run_underlying hu1, sizeOf, typeInfo, hi, hs1, Builtin.lenOf, hroom, Builtin.firstCells, hld, addr_add, hst]
        · refine sl_of_cells (setRow_heap w b cur _ u _ hg) (by simp; omega) h2 ?_
          have hl1 : (cur.toList.take xs.length).length = xs.length := by simp; omega
          simp only [List.length_append]
          rw [List.take_append_of_le_length (by simp only [List.length_append, hl1, hyl]; omega), List.take_of_length_le (by simp only [List.length_append, hl1, hyl]; omega), h3, List.flatMap_append]
      · have hr := run_append_grow (P := P) w t ty u i z hu1 hi hz ⟨b, 0, none⟩ xs.length c (xs.flatMap eByte.enc) (by rw [hs1, hxl]; omega) (fun j v hv => by rw [addr_add]; exact hslx.flat j v hv) a ys.length c2 (ys.flatMap eByte.enc) (by rw [hs1, hyl]; omega) hn (by omega) (by omega) (growslice_fits (by omega) (by rw [hb1]; omega))
        have hge := grownCap_ge w (xs.length + ys.length) c u
        have hcm : grownCap w (xs.length + ys.length) c u ≤ maxLen := grownCap_le_maxLen w _ c u (by simp only [maxLen]; omega)
        have hN : xs.length + ys.length = (xs ++ ys).length := List.length_append.symm
        rw [hN] at hr hge hcm
        refine ⟨_, _, _, hr, ?_, ⟨rfl, rfl, rfl, by simp, fun k hk _ => Below.heap_alloc w.drew _ k hk⟩⟩
        refine sl_of_cells (heap_alloc_new w.drew _) hge hcm ?_
        simp only [Array.toList_append, List.length_append]
        rw [List.take_append_of_le_length (by simp only [List.length_append, hxl, hyl]; omega), List.take_of_length_le (by simp only [List.length_append, hxl, hyl]; omega), List.flatMap_append]
  obtain ⟨p', c', w', hr, h1, h2⟩ := key
  exact G1_eff _ w' he hd (fun a ha => by simp [execOp, resolve, invoke, builtin, ha.eval hx, ha.eval hy, hr]) (.inl hw) (h p' c' w' h1 h2)
end
end Go.V
