/- Maps with strings for keys, as far as their keys go. -/
import Derived.Test.YtdnhagiokdnopaaVVals
import Derived.Maps.OwnSet
import Derived.StringKeys
namespace Go.V
open Go.RowKit

/-- block b is a map of strings; has: which are its keys; n: how many; m: a bound -/
def KeySet (P : Program) (w : World) (k e b : Nat) (has : ByteArray → Prop) (n m : Nat) : Prop :=
  ∃ D : DataW Unit, w.ownsMap P k (plainElem P e) b m D ∧ Maps.size D = n ∧ ∀ s : ByteArray, s.size ≤ maxLen → (Maps.has D (.string s.data.toList) = true ↔ has s)

section
variable {P : Program} {w w' : World} {k e b n m t : Nat} {has : ByteArray → Prop}

theorem KeySet.lt (h : KeySet P w k e b has n m) : b < w.heap.size := by
  obtain ⟨D, h1, _⟩ := h; exact h1.lt
theorem KeySet.kept (h : KeySet P w k e b has n m) {row : Option Nat} (hg : w.grownBy w' row) (hne : row ≠ some b) : KeySet P w' k e b has n m := by
  obtain ⟨D, h1, h2⟩ := h; exact ⟨D, h1.kept hg (fun e => hne e.symm), h2⟩
theorem KeySet.ext (h : KeySet P w k e b has n m) (hx : Ext w w') : KeySet P w' k e b has n m := h.kept (hx.grown none) (by simp)
theorem KeySet.made (w : World) (P : Program) (k e : Nat) : KeySet P (w.alloc (.map #[] 0)) k e w.heap.size (fun _ => False) 0 0 :=
  ⟨.map [], World.ownsMap_made w P k _, rfl, fun s _ => by simp [Maps.has]⟩
theorem KeySet.iff (h : KeySet P w k e b has n m) {has' : ByteArray → Prop} (hh : ∀ s, has s ↔ has' s) : KeySet P w k e b has' n m := by
  obtain ⟨D, h1, h2, h3⟩ := h; exact ⟨D, h1, h2, fun s hs => (h3 s hs).trans (hh s)⟩

theorem KeySet.put (h : KeySet P w k e b has n m) (hk : P.underlying k = some .string) {v : Value} {d : DataW Unit} (hv : plainElem P e v = some (d, [])) (ht : P.underlying t = some (.map k e)) (hm : m < maxLen) {s : ByteArray} (hs : s.size ≤ maxLen) :
    ∃ w' n', (Instr.mapUpdate t (.map (some b)) (.string s) v).run P w = .ok () w' ∧ KeySet P w' k e b (fun u => u = s ∨ has u) n' (m + 1) ∧ w.grownBy w' (some b) ∧ (has s → n' = n) ∧ (¬ has s → n' = n + 1) := by
  obtain ⟨D, h1, h2, h3⟩ := h
  have K := Maps.string_keyed hk
  have hkey := Go.WideMaps.keyOf_string_mk (P := P) (k := k) hk hs
  obtain ⟨w', hr, ho, hg⟩ := h1.update K ht hm hkey hv
  have hlit := K.key hkey
  have htidy := h1.tidy K
  have hmap := h1.isMap
  refine ⟨w', Maps.size (D.put (.string s.data.toList) d), hr, ⟨_, ho, rfl, fun u hu => ?_⟩, hg, fun hh => ?_, fun hh => ?_⟩
  · by_cases e' : u = s
    · subst e'; simp [Maps.has_put_same hmap hlit]
    · have hne : (Lit.string u.data.toList) ≠ .string s.data.toList := by
        intro e2; injection e2 with e2
        exact e' (by cases u; cases s; simp_all)
      rw [Maps.has_put_other hne, h3 u hu]
      simp [e']
  all_goals
    obtain ⟨es, rfl, hp⟩ := htidy
    have hst := Maps.length_strike (k := .string s.data.toList) es hp
    have hsz : Maps.size ((DataW.map es).put (.string s.data.toList) d) = (es.filter fun p => !p.1.sameKey (.string s.data.toList)).length + 1 := by
      show (DataW.insert _ _).length = _
      rw [length_insert]
    rw [hsz]
    have hz : es.length = n := h2
    have hq := h3 s hs
    simp only [Maps.has] at hq
  · rw [if_pos (hq.2 hh)] at hst; omega
  · rw [if_neg (fun e2 => hh (hq.1 e2))] at hst; omega

end
section
variable {P : Program} {n : Nat} {ops : Array Oper} {dr : Nat × List Nat} {dq : Nat} {l : List Oper} {E : Env} {w : World} {K : Env → World → Prop}
variable {d : Option Nat} {ty : TypeId} {pos : String} {af : Array Edge} {g : Option (Nat × Bool)} {x y z : Operand} {k k' : IntKind} {i j : Int} {t kt et b cnt m : Nat} {v v' : Value} {has : ByteArray → Prop}

theorem G1_makeMap (ht : P.underlying t = some (.map kt et)) (hx : E.look x = some (.int k i)) (he : effects P dr.1 ⟨d, .makeMap t (some x), ty, pos, af, g⟩ = true) (hd : dstOk n d = true)
    (h : ∀ b w', b = w.heap.size → KeySet P w' kt et b (fun _ => False) 0 0 → Ext w w' → w'.heap.size = w.heap.size + 1 → G P n ops dr l (E.put d (.map (some b))) w' K) : G1 P n ops dr ⟨d, .makeMap t (some x), ty, pos, af, g⟩ l E w K :=
  G1_eff _ (w.alloc (.map #[] 0)) he hd (fun a ha => by simp [execOp, Instr.makeMap, run_underlying ht, ha.eval hx, asInt, asIntOf, newObj, Sem.run]) (.inr (Ext.alloc Ext.rfl' _).toS)
    (h w.heap.size _ rfl (KeySet.made w P kt et) (Ext.alloc Ext.rfl' _) (by simp))

theorem G1_mapUpdate (ht : P.underlying t = some (.map kt et)) (hk : P.underlying kt = some .string) {s : ByteArray} {dd : DataW Unit} (hx : E.look x = some (.map (some b))) (hy : E.look y = some (.string s)) (hz : E.look z = some v) (hs : s.size ≤ maxLen)
    (hv : plainElem P et v = some (dd, [])) (hm : m < maxLen) (ho : KeySet P w kt et b has cnt m)
    (he : effects P dr.1 ⟨d, .mapUpdate t x y z, ty, pos, af, g⟩ = true) (hw : writes dr.1 ⟨d, .mapUpdate t x y z, ty, pos, af, g⟩ = true) (hd : dstOk n d = true)
    (h : ∀ w' n', KeySet P w' kt et b (fun u => u = s ∨ has u) n' (m + 1) → w.grownBy w' (some b) → (has s → n' = cnt) → (¬ has s → n' = cnt + 1) → G P n ops dr l (E.put d undef) w' K) : G1 P n ops dr ⟨d, .mapUpdate t x y z, ty, pos, af, g⟩ l E w K := by
  obtain ⟨w', n', hr, h1, h2, h3, h4⟩ := ho.put hk hv ht hm hs
  exact G1_skip w' he hd (fun a ha => by simp [execOp, ha.eval hx, ha.eval hy, ha.eval hz, hr]) (.inl hw) (h w' n' h1 h2 h3 h4)

theorem G1_mlen (ht : P.underlying t = some (.map kt et)) (hx : E.look x = some (.map (some b))) (ho : KeySet P w kt et b has cnt m) (hd : dstOk n d = true) (h : G P n ops (dq, []) l (E.put d (.int .i64 cnt)) w K) :
    G1 P n ops (dq, []) ⟨d, .call ⟨.builtin .len, #[x], #[t]⟩, ty, pos, af, g⟩ l E w K :=
  G1_quiet _ hd (fun a ha w' hw => by
    have hx' := ho.ext (rd_ext hw (by simp [readsM, ht]))
    obtain ⟨D, h1, h2, _⟩ := hx'
    have := h1.len ht ty
    rw [h2] at this
    simp [execOp, resolve, invoke, builtin, ha.eval hx, this]) h
end
attribute [irreducible] KeySet
end Go.V
