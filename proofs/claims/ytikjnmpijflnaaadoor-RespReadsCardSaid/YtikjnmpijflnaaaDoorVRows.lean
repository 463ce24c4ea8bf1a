/- Rows as raw cells: copy, the append of zeros, overlaps, room behind the length. -/
import Derived.Test.YtikjnmpijflnaaaDoorVMem4
import Derived.Laws.Externs
import Derived.Laws.CopyRow
import Derived.Lib.AppendZerosOnto
import Derived.Lib.Overlaps
namespace Go.V
open Go.RowKit

theorem Own.toBlk {α : Type} {e : Enc α} {w : World} {B T : Nat} {p : Option Addr} {c : Nat} {xs : List α} (h : Own w B T e p c xs) (hne : p ≠ none) :
    ∃ gb cur, p = bx gb ∧ B ≤ gb ∧ Blk w.heap gb T cur ∧ cur.length = c * e.sz ∧ c ≤ maxLen ∧ xs.length ≤ c ∧ cur.take (xs.length * e.sz) = xs.flatMap e.enc := by
  rcases h.2 with ⟨hv, _⟩ | ⟨g, cap, cur, hv, hb, hg, hnc, hcm, hcs, ht⟩
  · injection hv with e1 _ _; exact absurd e1 hne
  · injection hv with e1 _ e3; subst e1 e3
    exact ⟨g, cur.toList, rfl, hb, by unfold Blk; rw [Array.toArray_toList]; exact hg, by simpa using hcs, hcm, hnc, ht⟩
theorem Own.ofBlk {α : Type} {e : Enc α} {w : World} {B T gb : Nat} {c : Nat} {xs : List α} {cur : List Value} (hb : B ≤ gb) (hB : Blk w.heap gb T cur) (hl : cur.length = c * e.sz) (hc : c ≤ maxLen) (hx : xs.length ≤ c) (ht : cur.take (xs.length * e.sz) = xs.flatMap e.enc) :
    Own w B T e (bx gb) c xs := by
  unfold Own
  refine ⟨by rw [flat_len], .inr ⟨gb, c, cur.toArray, rfl, hb, hB, hx, hc, by simpa using hl, by simpa using ht⟩⟩
theorem Own.some_of_pos {α : Type} {e : Enc α} {w : World} {B T : Nat} {p : Option Addr} {c : Nat} {xs : List α} (h : Own w B T e p c xs) (hn : 0 < xs.length) : p ≠ none := by
  rintro rfl
  have h1 := h.sl.ok.nul rfl
  have h2 := h.sl.ok.le
  omega
theorem subp_bx {gb c l sz : Nat} (h : l < c) : subp (bx gb) c l sz = some ⟨gb, l * sz, none⟩ := by
  unfold subp
  rw [if_neg (by omega)]
  simp [addr_add]

section
variable {P : Program} {n : Nat} {ops : Array Oper} {dr : Nat × List Nat} {dq : Nat} {l : List Oper} {E : Env} {w : World} {K : Env → World → Prop}
variable {d : Option Nat} {ty : TypeId} {pos : String} {af : Array Edge} {g : Option (Nat × Bool)} {x y z : Operand} {k k' : IntKind} {i j : Int} {t t' u sz by_ : Nat} {v v' : Value} {p q : Option Addr} {c len m : Nat} {b : Bool}

theorem G1_cap (hu : SliceT P t u sz by_) (hx : E.look x = some (.slice p len c)) (hd : dstOk n d = true) (h : G P n ops dr l (E.put d (.int .i64 c)) w K) : G1 P n ops dr ⟨d, .call ⟨.builtin .cap, #[x], #[t]⟩, ty, pos, af, g⟩ l E w K :=
  G1_quiet _ hd (fun a ha w' _ => by simp [execOp, resolve, invoke, builtin, Builtin.cap_, ha.eval hx, run_underlying (P := P) hu.1, goInt]) h

theorem G1_sliceLoJ {q : Nat} (hu : SliceT P t u sz by_) (hx : E.look x = some (.slice p len c)) (hy : E.look y = some (.int k j)) (hj : j = (q : Int)) (ho : Okp p len c) (hq : q ≤ len) (hd : dstOk n d = true)
    (h : G P n ops dr l (E.put d (.slice (subp p c q sz) (len - q) (c - q))) w K) : G1 P n ops dr ⟨d, .slice t x (some y) none none, ty, pos, af, g⟩ l E w K := by
  subst hj; exact G1_sliceLo hu hx hy ho hq hd h
theorem G1_sliceHiJ {q : Nat} (hu : SliceT P t u sz by_) (hx : E.look x = some (.slice p len c)) (hy : E.look y = some (.int k j)) (hj : j = (q : Int)) (hq : q ≤ c) (hd : dstOk n d = true)
    (h : G P n ops dr l (E.put d (.slice p q c)) w K) : G1 P n ops dr ⟨d, .slice t x none (some y) none, ty, pos, af, g⟩ l E w K := by
  subst hj; exact G1_sliceHi hu hx hy hq hd (by rw [subp_zero]; exact h)

theorem run_copyB {gb o dl dc sl sc T : Nat} {cur vs : List Value} (hu : SliceT P t u sz by_) (hb : Blk w.heap gb T cur) (hq : vs ≠ [] → ∃ b' o', q = some ⟨b', o', none⟩) (hn : vs.length = min sl dl * sz)
    (hsrc : ∀ j v, vs[j]? = some v → hcell w.heap (adr q j) = some v) (hfit : o + vs.length ≤ cur.length) (h1 : ∀ v ∈ vs, v.oneCell' = true) (hsz : 0 < sz) (ty : TypeId) :
    (Builtin.copy_ #[t, t'] ty #[.slice (some ⟨gb, o, none⟩) dl dc, .slice q sl sc]).run P w = .ok (goInt (min sl dl)) (w.setRow gb (cur.take o ++ vs ++ cur.drop (o + vs.length)).toArray) := by
  obtain ⟨hu1, inf, z, hi, rfl, rfl, hz, hz2⟩ := hu
  have hst := run_storeCells_at P gb o T vs 0 cur.toArray w hb (by simpa using hfit) h1
  simp only [Nat.add_zero] at hst
  have hmin : Nat.min sl dl = min sl dl := rfl
  by_cases hv : vs = []
  · subst hv
    have h0 : min sl dl = 0 := by
      have : min sl dl * inf.size = 0 := by simpa using hn.symm
      rcases Nat.mul_eq_zero.1 this with h | h
      · exact h
      · omega
    have hl : ∀ (x : Addr), (loadCells x 0).run P w = .ok #[] w := fun x => by simpa using run_loadCells_list (P := P) w x [] (by simp)
    cases q <;> (simp [Builtin.copy_, run_underlying hu1, Builtin.lenOf, Builtin.firstCells, sizeOf, typeInfo, hi, hmin, h0, hl, hst, goInt]; try omega)
  · obtain ⟨b', o', rfl⟩ := hq hv
    have hl := run_loadCells_list (P := P) w ⟨b', o', none⟩ vs (fun j v hj => by rw [addr_add]; exact hsrc j v hj)
    rw [hn] at hl
    simp [Builtin.copy_, run_underlying hu1, Builtin.lenOf, Builtin.firstCells, sizeOf, typeInfo, hi, hmin, hl, hst, goInt]
    try omega

/-- copy into a row of one's own -/
theorem G1_copyB {gb o dl dc sl sc T : Nat} {cur : List Value} {dp : Option Addr} (vs : List Value) (hu : SliceT P t u sz by_) (hx : E.look x = some (.slice dp dl dc)) (hy : E.look y = some (.slice q sl sc)) (hdp : dp = some ⟨gb, o, none⟩) (hb : Blk w.heap gb T cur) (hq : vs ≠ [] → ∃ b' o', q = some ⟨b', o', none⟩) (hn : vs.length = min sl dl * sz)
    (hsrc : ∀ j v, vs[j]? = some v → hcell w.heap (adr q j) = some v) (hfit : o + vs.length ≤ cur.length) (h1 : ∀ v ∈ vs, v.oneCell' = true) (hsz : 0 < sz)
    (he : effects P dr.1 ⟨d, .call ⟨.builtin .copy, #[x, y], #[t, t']⟩, ty, pos, af, g⟩ = true) (hw : writes dr.1 ⟨d, .call ⟨.builtin .copy, #[x, y], #[t, t']⟩, ty, pos, af, g⟩ = true) (hd : dstOk n d = true)
    (h : ∀ w', Blk w'.heap gb T (cur.take o ++ vs ++ cur.drop (o + vs.length)) → w.grownBy w' (some gb) → w'.heap.size = w.heap.size → G P n ops dr l (E.put d (.int .i64 (min sl dl : Nat))) w' K) : G1 P n ops dr ⟨d, .call ⟨.builtin .copy, #[x, y], #[t, t']⟩, ty, pos, af, g⟩ l E w K := by
  subst hdp
  exact G1_eff _ (w.setRow gb (cur.take o ++ vs ++ cur.drop (o + vs.length)).toArray) he hd (fun a ha => by simp [execOp, resolve, invoke, builtin, ha.eval hx, ha.eval hy, run_copyB (t' := t') hu hb hq hn hsrc hfit h1 hsz ty, goInt]; try omega) (.inl hw)
    (h _ (by unfold Blk; exact setRow_heap w gb _ _ T (0, 0) hb) (setRow_grown w gb _) (by simp))

/-- append(s[:i], make(S, k)...) that grows: a new row -/
theorem G1_appendZ {α : Type} {e : Enc α} {xs : List α} {kq kn : IntKind} {kk : Nat} (hu : SliceT P t u sz by_) (hi : P.underlying t' = some (.int kn)) (hx : E.look x = some (.slice p len c)) (hy : E.look y = some (.int kq j)) (hj : j = (kk : Int)) (hs : Sl w.heap e p c xs) (hlen : len = xs.length) (hm : m = xs.length + kk) (hsz : e.sz = sz) (hk : 0 < kk) (hg : c < xs.length + kk)
    (hb : (xs.length + kk) * by_ ≤ 140737488355328) (hmax : xs.length + kk ≤ 9223372036854775807)
    (he : effects P dr.1 ⟨d, .call ⟨.builtin .append, #[x, y], #[t, t']⟩, ty, pos, af, g⟩ = true) (hd : dstOk n d = true)
    (h : ∀ c' w' cur, Blk w'.heap w.heap.size u cur → cur.length = c' * sz → cur.take (xs.length * sz) = xs.flatMap e.enc → xs.length + kk ≤ c' → c' ≤ maxLen → Ext w w' → w'.heap.size = w.heap.size + 1 → G P n ops dr l (E.put d (.slice (bx w.heap.size) m c')) w' K) :
    G1 P n ops dr ⟨d, .call ⟨.builtin .append, #[x, y], #[t, t']⟩, ty, pos, af, g⟩ l E w K := by
  subst hsz hlen hm hj
  have hpos := e.pos
  obtain ⟨hu1, inf, z, hinf, hs1, hb1, hz, hz2⟩ := hu
  have hold : (Builtin.firstCells inf.size xs.length (.slice p xs.length c)).run P w.drew = .ok (xs.flatMap e.enc).toArray w.drew := by
    cases p with
    | none =>
      have h1 := hs.ok.nul rfl
      have h2 := hs.ok.le
      obtain rfl : xs = [] := List.eq_nil_of_length_eq_zero (by omega)
      simp [Builtin.firstCells]
    | some a =>
      by_cases hne : xs = []
      · subst hne
        have := run_firstCells_some (P := P) w.drew inf.size 0 a 0 c [] (by simp) (by simp)
        simpa using this
      · have hl0 : 0 < xs.length := List.length_pos_iff.2 hne
        have hspot := hs.ok.spot a rfl (by have := hs.ok.le; omega)
        exact run_firstCells_some (P := P) w.drew inf.size xs.length a xs.length c (xs.flatMap e.enc) (by rw [hs1, flat_len]) (fun j v hv => by
          have hc := hs.flat j v hv
          obtain ⟨bb, oo, ss⟩ := a
          simp only at hspot
          subst hspot
          rw [addr_add]; exact hc)
  have hbk : kk * by_ ≤ (xs.length + kk) * by_ := Nat.mul_le_mul_right _ (by omega)
  have hr := Go.Lib.run_append_grow_zeros (P := P) w t t' ty u inf z kq kn hu1 hi hinf hz p xs.length c (xs.flatMap e.enc) hold kk hk (by omega) hg (by omega) (by rw [hb1]; omega) (by rw [hb1]; exact growslice_fits hg hb)
  have hge := grownCap_ge w (xs.length + kk) c u
  have hcm : grownCap w (xs.length + kk) c u ≤ maxLen := grownCap_le_maxLen w _ c u (by simp only [maxLen]; omega)
  generalize hcur : (xs.flatMap e.enc).toArray ++ Builtin.zeroCells z.cells kk ++ Builtin.zeroCells z.cells (grownCap w (xs.length + kk) c u - (xs.length + kk)) = cur at hr
  refine G1_eff (.slice (some ⟨w.heap.size, 0, none⟩) (xs.length + kk) (grownCap w (xs.length + kk) c u)) (w.drew.alloc (.cells cur u)) he hd (fun a ha => by simp [execOp, resolve, invoke, builtin, ha.eval hx, ha.eval hy, hr]) (.inr ?_) (h _ _ cur.toList ?_ ?_ ?_ hge hcm ?_ (by simp))
  · exact (Ext.alloc (Ext.drew Ext.rfl') _).toS
  · unfold Blk; rw [Array.toArray_toList]; exact heap_alloc_new w.drew _
  · rw [← hcur]
    simp only [Array.length_toList, Array.size_append, List.size_toArray, size_zeroCells, hz2, flat_len]
    rw [← Nat.add_mul, ← Nat.add_mul]
    congr 1
    omega
  · rw [← hcur]
    simp only [Array.toList_append]
    rw [List.append_assoc, List.take_left' (by rw [flat_len])]
  · exact Ext.alloc (Ext.drew Ext.rfl') _

/-- slices.overlaps at two rows in two blocks -/
theorem G1_overlaps {f : FuncId} {fn : Func} {tS tR T T' ab bb : Nat} {ca cb : List Value} {ao bo la lb cpa cpb : Nat} {tys : Array TypeId} (hf : P.funcs[f]? = some fn) (hname : (fn.name == "runtime.NumGoroutine") = false) (hb : fn.body.isNone = true) (hn : Extern.findNext fn = none) (hfi : Extern.find fn = some (Extern.SlicesOverlaps.overlaps #[tS, tS] #[tR]))
    (hu : SliceT P tS u sz by_) (hx : E.look x = some (.slice p la cpa)) (hy : E.look y = some (.slice q lb cpb)) (hp : p = some ⟨ab, ao, none⟩) (hq : q = some ⟨bb, bo, none⟩) (hA : Blk w.heap ab T ca) (hB : Blk w.heap bb T' cb) (hne : ab ≠ bb) (hcb : cb ≠ [])
    (he : effects P dr.1 ⟨d, .call ⟨.value (.func f), #[x, y], tys⟩, ty, pos, af, g⟩ = true) (hd : dstOk n d = true)
    (h : G P n ops dr l (E.put d (.bool false)) w K) : G1 P n ops dr ⟨d, .call ⟨.value (.func f), #[x, y], tys⟩, ty, pos, af, g⟩ l E w K := by
  subst hp hq
  have hr : (callFunc f #[.slice (some ⟨ab, ao, none⟩) la cpa, .slice (some ⟨bb, bo, none⟩) lb cpb]).run P w = .ok (.value (.bool false)) w := by
    unfold Blk at hA hB
    rw [run_callFunc_extern hf hname hb hn hfi, Go.Lib.run_overlaps_apart w tS tR u hu.1 sz (run_sizeOf_T hu) ⟨ab, ao, none⟩ ⟨bb, bo, none⟩ la cpa lb cpb hne T T' ca.length cb.length (by simp [World.shape?, hA]) (by simp [World.shape?, hB]) (by simp [hcb]) (by simp [World.frozen?, hA]) (by simp [World.frozen?, hA])]
    rfl
  exact G1_eff _ w he hd (fun a ha => by
    have e0 : a.eval (.func f) = .func (.func f) #[] #[] := rfl
    simp [execOp, resolve, Deferred.ofValue, e0, invoke, ha.eval hx, ha.eval hy, hr]) (.inr ExtS.rfl') h

end
end Go.V
