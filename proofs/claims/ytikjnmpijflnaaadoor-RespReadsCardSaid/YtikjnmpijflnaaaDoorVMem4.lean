/- More rules: parts of elements, slices made anew. -/
import Derived.Test.YtikjnmpijflnaaaDoorVMem3
import Derived.Laws.MakeOwn
namespace Go.V
theorem fold_set : ∀ (l : List Value) (off k : Nat) (cs : Array Value), off + k + l.length ≤ cs.size →
    ((l.zipIdx k).foldl (fun cs (x : Value × Nat) => cs.setIfInBounds (off + x.2) x.1) cs).toList = cs.toList.take (off + k) ++ l ++ cs.toList.drop (off + k + l.length)
  | [], off, k, cs, _ => by simp
  | y :: l, off, k, cs, hk => by
    simp only [List.length_cons] at hk
    rw [List.zipIdx_cons, List.foldl_cons, fold_set l off (k + 1) _ (by simp; omega)]
    apply List.ext_getElem?
    intro j
    simp only [Array.toList_setIfInBounds]
    simp only [List.getElem?_append, List.getElem?_take, List.getElem?_drop, List.length_take, List.length_append, List.length_cons, List.getElem?_set, List.length_set, Array.length_toList, List.getElem?_cons]
    by_cases hj : j < off + k
    · simp [hj, show j < min (off + k) cs.size by omega, show j < min (off + (k + 1)) cs.size + l.length by omega, show j < min (off + (k + 1)) cs.size by omega, show j < off + (k + 1) by omega, show off + k ≠ j by omega, show j < min (off + k) cs.size + (l.length + 1) by omega]
    · by_cases hj2 : j = off + k
      · subst hj2
        simp [show off + k < min (off + (k + 1)) cs.size by omega, show off + k < min (off + (k + 1)) cs.size + l.length by omega, show off + k < cs.size by omega, show ¬ off + k < min (off + k) cs.size by omega, show off + k < min (off + k) cs.size + (l.length + 1) by omega, show off + k - min (off + k) cs.size = 0 by omega]
      · have e1 : min (off + (k + 1)) cs.size = off + k + 1 := by omega
        have e2 : min (off + k) cs.size = off + k := by omega
        rw [e1, e2]
        have e3 : off + k + (l.length + 1) = off + k + 1 + l.length := by omega
        have e5 : off + (k + 1) = off + k + 1 := by omega
        simp only [show ¬ j < off + k + 1 by omega, show ¬ j < off + k by omega, if_false, e3, e5]
        by_cases hj3 : j < off + k + 1 + l.length
        · simp [hj3, show j - (off + k) ≠ 0 by omega, show j - (off + k) - 1 = j - (off + k + 1) by omega]
        · have e4 : off + k + 1 + l.length + (j - (off + k + 1 + l.length)) = j := by omega
          simp [hj3, e4, show off + k ≠ j by omega]

theorem fill_all {α : Type} (e : Enc α) : ∀ (ps : List (Nat × Value)) (els : List α) (k : Nat) (cells : Array Value), ps.map (·.1) = List.range' k ps.length → ps.map (fun x => x.2.cells.toList) = els.map e.enc → (k + els.length) * e.sz ≤ cells.size →
    ∃ r, Instr.fill (fun i => some (i * e.sz, e.sz)) cells ps = some r ∧ r.toList = cells.toList.take (k * e.sz) ++ els.flatMap e.enc ++ cells.toList.drop ((k + els.length) * e.sz)
  | [], els, k, cells, _, h, _ => by
    obtain rfl : els = [] := by cases els <;> simp_all
    exact ⟨cells, rfl, by simp⟩
  | (i, v) :: ps, [], k, cells, _, h, _ => by simp at h
  | (i, v) :: ps, el :: els, k, cells, h1, h, h2 => by
    simp only [List.map_cons, List.length_cons, List.range'_succ, List.cons.injEq] at h1 h
    obtain ⟨rfl, h1⟩ := h1
    obtain ⟨hv, h⟩ := h
    have hvs : v.cells.size = e.sz := by rw [← e.len el, ← hv]; simp
    simp only [List.length_cons] at h2
    have hm : (i + (els.length + 1)) * e.sz = i * e.sz + e.sz + els.length * e.sz := by rw [Nat.add_mul, Nat.add_mul, Nat.one_mul]; omega
    have hle : i * e.sz + e.sz ≤ cells.size := by rw [hm] at h2; omega
    have hfold := fold_set v.cells.toList (i * e.sz) 0 cells (by simp only [Array.length_toList, hvs]; omega)
    rw [hv, e.len, Nat.add_zero] at hfold
    have hz : v.cells.zipIdx.foldl (fun cs (x : Value × Nat) => cs.setIfInBounds (i * e.sz + x.2) x.1) cells = (v.cells.toList.zipIdx 0).foldl (fun cs (x : Value × Nat) => cs.setIfInBounds (i * e.sz + x.2) x.1) cells := by
      rw [← Array.foldl_toList]; simp
    rw [hv] at hz
    obtain ⟨r, hr, hrl⟩ := fill_all e ps els (i + 1) (v.cells.zipIdx.foldl (fun cs (x : Value × Nat) => cs.setIfInBounds (i * e.sz + x.2) x.1) cells) h1 h (by
      rw [← Array.length_toList, hz, hfold]
      simp only [List.length_append, List.length_take, List.length_drop, e.len, Array.length_toList]
      have : (i + 1 + els.length) * e.sz = (i + (els.length + 1)) * e.sz := by congr 1; omega
      rw [this]; omega)
    refine ⟨r, ?_, ?_⟩
    · simp only [Instr.fill]
      rw [if_neg (by simp only [hvs]; simp; omega)]
      exact hr
    · rw [hrl, hz, hfold]
      have a1 : (i + 1) * e.sz = i * e.sz + e.sz := by rw [Nat.add_mul, Nat.one_mul]
      have a2 : (i + 1 + els.length) * e.sz = i * e.sz + e.sz + els.length * e.sz := by rw [Nat.add_mul, Nat.add_mul, Nat.one_mul]
      rw [a1, a2]
      simp only [List.length_cons]
      rw [hm]
      have el1 := e.len el
      have l1 : (cells.toList.take (i * e.sz) ++ e.enc el).length = i * e.sz + e.sz := by simp [el1]; omega
      rw [List.take_append_of_le_length (by rw [l1]; omega), List.take_of_length_le (by rw [l1]; omega), List.drop_append, List.drop_of_length_le (by rw [l1]; omega), l1, List.nil_append, List.drop_drop]
      simp only [List.flatMap_cons, List.append_assoc]
      congr 4
      omega

section
variable {P : Program} {n : Nat} {ops : Array Oper} {dr : Nat × List Nat} {dq : Nat} {l : List Oper} {E : Env} {w : World} {K : Env → World → Prop}
variable {d : Option Nat} {ty : TypeId} {pos : String} {af : Array Edge} {g : Option (Nat × Bool)} {x y z : Operand} {k k' : IntKind} {i j : Int} {t t' u sz by_ : Nat} {v v' : Value} {p : Option Addr} {c len m : Nat} {b : Bool}

/-- a slice of given elements, made anew -/
theorem G1_buildN {α : Type} (e : Enc α) (els : List α) {parts : Array (Nat × Operand)} {ps : List (Nat × Value)} (hu : SliceT P t u sz by_) (hx : E.parts parts.toList = some ps) (h0 : ps.map (·.1) = List.range' 0 ps.length) (hc : ps.map (fun x => x.2.cells.toList) = els.map e.enc) (hm : m = els.length) (hsz : e.sz = sz) (hpos : 0 < els.length) (hs24 : els.length * sz ≤ 10000)
    (he : effects P dr.1 ⟨d, .buildSlice t m parts, ty, pos, af, g⟩ = true) (hd : dstOk n d = true)
    (h : ∀ p' w', Own w' w.heap.size u e p' els.length els → Ext w w' → w'.heap.size = w.heap.size + 1 → G P n ops dr l (E.put d (.slice p' els.length els.length)) w' K) :
    G1 P n ops dr ⟨d, .buildSlice t m parts, ty, pos, af, g⟩ l E w K := by
  subst hsz hm
  have hp := e.pos
  obtain ⟨h1, i, z, hi, hs1, hb1, hz, hz2⟩ := hu
  have hnz : 0 < els.length * e.sz := Nat.mul_pos hpos hp
  have hcells : ((Array.range (els.length * e.sz)).map (z.cells[· % z.cells.size]!)).size = els.length * e.sz := by simp
  obtain ⟨r, hr, hrl⟩ := fill_all e ps els 0 ((Array.range (els.length * e.sz)).map (z.cells[· % z.cells.size]!)) h0 hc (by rw [hcells]; simp)
  have hr' : r = (els.flatMap e.enc).toArray := by
    apply Array.ext'
    rw [hrl]
    rw [List.drop_of_length_le (by simp)]
    simp
  subst hr'
  refine G1_eff _ (w.alloc (.cells (els.flatMap e.enc).toArray u)) he hd (fun a ha => ?_) (.inr (Ext.alloc Ext.rfl' _).toS) (h (some ⟨w.heap.size, 0, none⟩) _ ?_ (Ext.alloc Ext.rfl' _) (by simp))
  · have hm : (parts.map fun (i, x) => (i, a.eval x)) = ps.toArray := by
      rw [← ha.parts hx]; apply Array.ext'; simp
    simp only [execOp, hm, Instr.buildSlice, Sem.run_bind, run_underlying h1, Result.andThen_ok, sizeOf, typeInfo, run_program, hi, Sem.run_pure, hs1, zeroValue]
    have h24 : ¬ (els.length * e.sz > 2 ^ 24) := by omega
    have h0' : ¬ (els.length * e.sz = 0) := by omega
    simp only [h24, h0', if_false, Sem.run_pure, Result.andThen_ok, Sem.run_bind, run_program, hi, hz]
    rw [hr]
    simp [newRow, newObj, Sem.run]
  · unfold Own
    refine ⟨by rw [flat_len], .inr ⟨w.heap.size, els.length, _, rfl, Nat.le_refl _, heap_alloc_new w _, Nat.le_refl _, ?_, by rw [List.size_toArray, flat_len], ?_⟩⟩
    · have : els.length ≤ els.length * e.sz := Nat.le_mul_of_pos_right _ hp
      simp only [maxLen]; omega
    · rw [← flat_len]; exact List.take_length

/-- make with no element, but room -/
theorem G1_make0 {α : Type} (e : Enc α) (hu : SliceT P t u sz by_) (hx : E.look x = some (.int k 0)) (hy : E.look y = some (.int k' i)) (hsz : e.sz = sz) (h0 : 0 ≤ i) (h1 : (by_ : Int) * i ≤ 281474976710656) (h2 : i ≤ 9223372036854775807)
    (he : effects P dr.1 ⟨d, .makeSlice t x y, ty, pos, af, g⟩ = true) (hd : dstOk n d = true)
    (h : ∀ p' w', Own w' w.heap.size u e p' i.toNat [] → Ext w w' → w'.heap.size = w.heap.size + 1 → G P n ops dr l (E.put d (.slice p' ([] : List α).length i.toNat)) w' K) :
    G1 P n ops dr ⟨d, .makeSlice t x y, ty, pos, af, g⟩ l E w K := by
  subst hsz
  obtain ⟨hu1, inf, z, hi, hs1, hb1, hz, hz2⟩ := hu
  have hr := run_make (P := P) w t u inf z hu1 hi hz k k' 0 i (Int.le_refl _) h0 (by rw [hb1]; exact h1) h2
  refine G1_eff _ _ he hd (fun a ha => by simp only [execOp, ha.eval hx, ha.eval hy, Sem.run_bind, hr]; rfl) (.inr (Ext.alloc Ext.rfl' _).toS) (h (some ⟨w.heap.size, 0, none⟩) _ ?_ (Ext.alloc Ext.rfl' _) (by simp))
  exact World.ownsRow_made w _ _ (Nat.le_refl _) (by simp only [maxLen]; omega) (by rw [size_madeCells, hs1])

/-- make with elements -/
theorem G1_makeN {α : Type} (e : Enc α) (el : α) {zv : Value} (hu : SliceT P t u sz by_) (hx : E.look x = some (.int k i)) (hy : E.look y = some (.int k' i)) (hsz : e.sz = sz) (hzv : ZeroT P u zv) (hel : zv.cells.toList = e.enc el) (h0 : 0 ≤ i) (h1 : (by_ : Int) * i ≤ 281474976710656) (h2 : i ≤ 9223372036854775807)
    (he : effects P dr.1 ⟨d, .makeSlice t x y, ty, pos, af, g⟩ = true) (hd : dstOk n d = true)
    (h : ∀ p' w', Own w' w.heap.size u e p' i.toNat (List.replicate i.toNat el) → Ext w w' → w'.heap.size = w.heap.size + 1 → G P n ops dr l (E.put d (.slice p' (List.replicate i.toNat el).length i.toNat)) w' K) :
    G1 P n ops dr ⟨d, .makeSlice t x y, ty, pos, af, g⟩ l E w K := by
  subst hsz
  obtain ⟨hu1, inf, z, hi, hs1, hb1, hz, hz2⟩ := hu
  have hzz : z = zv := by unfold ZeroT at hzv; rw [hi] at hzv; simp only [Option.bind_some] at hzv; rw [hz] at hzv; exact Option.some.inj hzv
  subst hzz
  have hr := run_make (P := P) w t u inf z hu1 hi hz k k' i i h0 (Int.le_refl _) (by rw [hb1]; exact h1) h2
  suffices hown : Own (w.alloc (.cells (madeCells z.cells (i.toNat * inf.size)) u)) w.heap.size u e (some ⟨w.heap.size, 0, none⟩) i.toNat (List.replicate i.toNat el) by
    have h' := h (some ⟨w.heap.size, 0, none⟩) _ hown (Ext.alloc Ext.rfl' _) (by simp)
    rw [List.length_replicate] at h'
    exact G1_eff _ _ he hd (fun a ha => by simp only [execOp, ha.eval hx, ha.eval hy, Sem.run_bind, hr]; rfl) (.inr (Ext.alloc Ext.rfl' _).toS) h'
  unfold Own
  refine ⟨by rw [flat_len], .inr ⟨w.heap.size, i.toNat, _, by simp, Nat.le_refl _, heap_alloc_new w _, by simp, by simp only [maxLen]; omega, by rw [size_madeCells, hs1], ?_⟩⟩
  simp only [List.length_replicate]
  rw [List.take_of_length_le (by simp [size_madeCells, hs1]), hs1]
  have hpos := e.pos
  apply List.ext_getElem?
  intro j
  have flen : ((List.replicate i.toNat el).flatMap e.enc).length = i.toNat * e.sz := by rw [flat_len]; simp
  by_cases hj : j < i.toNat * e.sz
  · have hjm : j % e.sz < e.sz := Nat.mod_lt _ hpos
    have hjd : j / e.sz < i.toNat := Nat.div_lt_of_lt_mul (by rw [Nat.mul_comm]; exact hj)
    have hge : j % e.sz < (e.enc el).length := by rw [e.len]; exact hjm
    have hfl := flat_get e (List.replicate i.toNat el) (j / e.sz) (j % e.sz) el ((e.enc el)[j % e.sz]) (by rw [List.getElem?_replicate]; simp [hjd]) (List.getElem?_eq_getElem hge)
    have hjj : j / e.sz * e.sz + j % e.sz = j := by rw [Nat.mul_comm]; exact Nat.div_add_mod j e.sz
    rw [hjj] at hfl
    rw [hfl]
    have hzs : z.cells.size = e.sz := hz2
    have hzl : z.cells = (e.enc el).toArray := by rw [← hel]
    simp only [madeCells, Array.toList_map, Array.toList_range, List.getElem?_map, List.getElem?_range hj, Option.map_some, hzs]
    rw [hzl]
    simp [e.len, hjm]
  · rw [List.getElem?_eq_none (by simp [size_madeCells]; omega), List.getElem?_eq_none (by rw [flen]; omega)]

/-- a part of an element -/
theorem G1_loadElSub {α : Type} {e : Enc α} {xs : List α} {q off esz : Nat} {el : α} {vs : List Value} (hu : AggT P t sz) (hx : E.look x = some (.pointer (some (adr p (q * esz + off))))) (hs : Sl w.heap e p c xs) (hq : xs[q]? = some el) (he : e.sz = esz)
    (hv : ((e.enc el).drop off).take sz = vs) (hl : vs.length = sz) (hd : dstOk n d = true)
    (h : G P n ops (dq, []) l (E.put d (.agg vs.toArray)) w K) : G1 P n ops (dq, []) ⟨d, .load t x, ty, pos, af, g⟩ l E w K :=
  G1_loadAgg hu hx hl (fun k v hk => by
    subst he hv
    have hk' : (e.enc el)[off + k]? = some v := by
      have := get_lt hk
      rw [hl] at this
      rw [List.getElem?_take, if_pos this, List.getElem?_drop] at hk
      exact hk
    have := hs.cell q el hq (off + k) v hk'
    rw [Nat.add_assoc]; exact this) hd h

/-- a part of a box -/
theorem G1_loadBSub {b : Nat} {cs vs : List Value} (hu : AggT P t sz) (hx : E.look x = some (.pointer (some (adr (bx b) m)))) (hb : Blk w.heap b t' cs) (hv : (cs.drop m).take sz = vs) (hl : vs.length = sz) (hd : dstOk n d = true)
    (h : G P n ops (dq, []) l (E.put d (.agg vs.toArray)) w K) : G1 P n ops (dq, []) ⟨d, .load t x, ty, pos, af, g⟩ l E w K :=
  G1_loadAgg hu hx hl (fun k v hk => by
    subst hv
    have := get_lt hk
    rw [hl] at this
    rw [List.getElem?_take, if_pos this, List.getElem?_drop] at hk
    exact hb.cell hk) hd h

end
end Go.V
