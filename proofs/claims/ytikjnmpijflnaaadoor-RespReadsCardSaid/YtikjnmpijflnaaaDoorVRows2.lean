/- append within the room, clear, rows that are shortened. -/
import Derived.Test.YtikjnmpijflnaaaDoorVRows
namespace Go.V
open Go.RowKit
section
variable {P : Program} {n : Nat} {ops : Array Oper} {dr : Nat × List Nat} {dq : Nat} {l : List Oper} {E : Env} {w : World} {K : Env → World → Prop}
variable {d : Option Nat} {ty : TypeId} {pos : String} {af : Array Edge} {g : Option (Nat × Bool)} {x y z : Operand} {k k' : IntKind} {i j : Int} {t t' u sz by_ : Nat} {v v' : Value} {p q : Option Addr} {c len m : Nat} {b : Bool}

theorem G1_quoJ {r : Int} (hx : E.look x = some (.int k i)) (hy : E.look y = some (.int k j)) (h0 : j ≠ 0) (hr : k.wrap (i.tdiv j) = r) (hd : dstOk n d = true)
    (h : G P n ops dr l (E.put d (.int k r)) w K) : G1 P n ops dr ⟨d, .binOp .quo t x y t', ty, pos, af, g⟩ l E w K := by
  subst hr; exact G1_quo hx hy h0 hd h
theorem G1_indexAddrJ {q : Nat} (hu : SliceT P t u sz by_) (hx : E.look x = some (.slice p len c)) (hy : E.look y = some (.int k j)) (hj : j = (q : Int)) (ho : Okp p len c) (h1 : q < len) (hd : dstOk n d = true)
    (h : G P n ops dr l (E.put d (.pointer (some (adr p (q * sz))))) w K) : G1 P n ops dr ⟨d, .indexAddr t x y, ty, pos, af, g⟩ l E w K := by
  subst hj; exact G1_indexAddrN hu hx hy ho h1 hd h
theorem G1_sliceBothJ {q r : Nat} (hu : SliceT P t u sz by_) (hx : E.look x = some (.slice p len c)) (hy : E.look y = some (.int k i)) (hz : E.look z = some (.int k' j)) (hi : i = (q : Int)) (hj : j = (r : Int)) (hq : q ≤ r) (hr : r ≤ c) (hd : dstOk n d = true)
    (h : G P n ops dr l (E.put d (.slice (subp p c q sz) (r - q) (c - q))) w K) : G1 P n ops dr ⟨d, .slice t x (some y) (some z) none, ty, pos, af, g⟩ l E w K := by
  subst hi hj; exact G1_sliceBoth hu hx hy hz hq hr hd h
theorem G1_slice3M {q r mm : Nat} {zz : Operand} {k2 : IntKind} {i2 : Int} (hu : SliceT P t u sz by_) (hx : E.look x = some (.slice p len c)) (hy : E.look y = some (.int k i)) (hz : E.look z = some (.int k' j)) (hm : E.look zz = some (.int k2 i2)) (e1 : i = q) (e2 : j = r) (e3 : i2 = mm) (h1 : q ≤ r) (h2 : r ≤ mm) (h3 : mm ≤ c) (hd : dstOk n d = true)
    (h : G P n ops dr l (E.put d (.slice (subp p mm q sz) (r - q) (mm - q))) w K) : G1 P n ops dr ⟨d, .slice t x (some y) (some z) (some zz), ty, pos, af, g⟩ l E w K :=
  G1_quiet _ hd (fun a ha w' _ => by
    subst e1 e2 e3
    have a1 : (0 : Int) ≤ mm ∧ (mm : Int) ≤ c := by omega
    have a2 : (0 : Int) ≤ q ∧ (q : Int) ≤ r := by omega
    have a3 : (0 : Int) ≤ r ∧ (r : Int) ≤ mm := by omega
    have hsz := run_sizeOf_T hu w'
    simp only [execOp, Sem.run_bind, Instr.sliceAt, run_underlying hu.1, Result.andThen_ok, Instr.slice, Instr.sliceBounds, Sem.run_pure]
    simp [ha.eval hx, ha.eval hy, ha.eval hz, ha.eval hm, Instr.sliceBound, asIntOf, a1, a2, a3, hsz, subp, h1, Instr.sliceAt, run_underlying hu.1, Instr.slice, Instr.sliceBounds]
    intro hh; omega) h
/-- append to a row that has the room: in place -/
theorem G1_appendRoom {gb xl yl c2 : Nat} {cur vs : List Value} {b' o' : Nat} (hu : SliceT P t u sz by_) (hx : E.look x = some (.slice p xl c)) (hy : E.look y = some (.slice q yl c2)) (hp : p = bx gb) (hq : q = some ⟨b', o', none⟩) (hb : Blk w.heap gb u cur) (hcl : cur.length = c * sz) (hn : vs.length = yl * sz)
    (hsrc : ∀ j v, vs[j]? = some v → hcell w.heap (adr q j) = some v) (h1 : ∀ v ∈ vs, v.oneCell' = true) (hroom : xl + yl ≤ c)
    (he : effects P dr.1 ⟨d, .call ⟨.builtin .append, #[x, y], #[t, t]⟩, ty, pos, af, g⟩ = true) (hw : writes dr.1 ⟨d, .call ⟨.builtin .append, #[x, y], #[t, t]⟩, ty, pos, af, g⟩ = true) (hd : dstOk n d = true)
    (h : ∀ w', Blk w'.heap gb u (cur.take (xl * sz) ++ vs ++ cur.drop (xl * sz + vs.length)) → w.grownBy w' (some gb) → w'.heap.size = w.heap.size → G P n ops dr l (E.put d (.slice (bx gb) (xl + yl) c)) w' K) : G1 P n ops dr ⟨d, .call ⟨.builtin .append, #[x, y], #[t, t]⟩, ty, pos, af, g⟩ l E w K := by
  subst hp hq
  obtain ⟨hu1, inf, zz, hi, hs1, hb1, hz, hz2⟩ := hu
  have hr := run_append_room (P := P) w t ty u inf hu1 hi gb xl c cur.toArray hb ⟨b', o', none⟩ yl c2 vs (by rw [hs1]; exact hn) (fun j v hv => by rw [addr_add]; exact hsrc j v hv) h1 hroom
    (by rw [hs1, hn, ← Nat.add_mul, List.size_toArray, hcl]; exact Nat.mul_le_mul_right _ hroom)
  rw [hs1] at hr
  exact G1_eff _ (w.setRow gb (cur.take (xl * sz) ++ vs ++ cur.drop (xl * sz + vs.length)).toArray) he hd (fun a ha => by simp [execOp, resolve, invoke, builtin, ha.eval hx, ha.eval hy, hr]) (.inl hw)
    (h _ (by unfold Blk; exact setRow_heap w gb _ _ u (0, 0) hb) (setRow_grown w gb _) (by simp))

theorem zeroCells_one {zv : Value} (h : ∀ v ∈ zv.cells.toList, v.oneCell' = true) (h0 : 0 < zv.cells.size) (m : Nat) : ∀ v ∈ (Builtin.zeroCells zv.cells m).toList, v.oneCell' = true := by
  intro v hv
  simp only [Builtin.zeroCells, Array.toList_map, List.mem_map] at hv
  obtain ⟨i, _, rfl⟩ := hv
  have hlt : i % zv.cells.size < zv.cells.size := Nat.mod_lt _ h0
  apply h
  rw [getElem!_pos zv.cells (i % zv.cells.size) hlt]
  exact Array.getElem_mem_toList _

/-- clear of a part of a row of one's own -/
theorem G1_clearB {gb o T m : Nat} {cur : List Value} {zv : Value} (hu : SliceT P t u sz by_) (hx : E.look x = some (.slice p m c)) (hp : 0 < m → p = some ⟨gb, o, none⟩) (hb : Blk w.heap gb T cur) (hfit : o + m * sz ≤ cur.length) (hzv : ZeroT P u zv) (hone : ∀ v ∈ zv.cells.toList, v.oneCell' = true) (hzs : zv.cells.size = sz) (hsz : 0 < sz)
    (he : effects P dr.1 ⟨d, .call ⟨.builtin .clear, #[x], #[t]⟩, ty, pos, af, g⟩ = true) (hw : writes dr.1 ⟨d, .call ⟨.builtin .clear, #[x], #[t]⟩, ty, pos, af, g⟩ = true) (hd : dstOk n d = true)
    (h : ∀ w' vs, vs.length = m * sz → Blk w'.heap gb T (cur.take o ++ vs ++ cur.drop (o + m * sz)) → w.grownBy w' (some gb) → w'.heap.size = w.heap.size → G P n ops dr l (E.put d (.tuple #[])) w' K) : G1 P n ops dr ⟨d, .call ⟨.builtin .clear, #[x], #[t]⟩, ty, pos, af, g⟩ l E w K := by
  obtain ⟨hu1, inf, zz, hi, hs1, hb1, hz, hz2⟩ := hu
  by_cases hm : m = 0
  · subst hm
    refine G1_eff (.tuple #[]) w he hd (fun a ha => ?_) (.inl hw) (h w [] (by simp) (by simpa using hb) ⟨rfl, rfl, rfl, Nat.le_refl _, fun _ _ _ => rfl⟩ rfl)
    cases p <;> simp [execOp, resolve, invoke, builtin, ha.eval hx, Builtin.clear_, run_underlying hu1]
  · obtain rfl := hp (by omega)
    have hvl : (Builtin.zeroCells zv.cells m).toList.length = m * sz := by rw [Array.length_toList, size_zeroCells, hzs]
    have hst := run_storeCells_at P gb o T (Builtin.zeroCells zv.cells m).toList 0 cur.toArray w hb (by rw [Nat.add_zero, hvl, List.size_toArray]; exact hfit) (zeroCells_one hone (by omega) m)
    simp only [Nat.add_zero] at hst
    obtain ⟨m', rfl⟩ : ∃ m', m = m' + 1 := ⟨m - 1, by omega⟩
    refine G1_eff (.tuple #[]) (w.setRow gb (cur.take o ++ (Builtin.zeroCells zv.cells (m' + 1)).toList ++ cur.drop (o + (m' + 1) * sz)).toArray) he hd (fun a ha => ?_) (.inl hw)
      (h _ _ hvl (by unfold Blk; exact setRow_heap w gb _ _ T (0, 0) hb) (setRow_grown w gb _) (by simp))
    rw [hvl] at hst
    simp [execOp, resolve, invoke, builtin, ha.eval hx, Builtin.clear_, run_underlying hu1, run_zero hzv, hst]
end
end Go.V
