/- Maps from strings to numbers: what they have, and ranging over them. -/
import Derived.Test.YtdnhagiokdnopaaVTypes
import Derived.Test.YtdnhagiokdnopaaVMaps
import Derived.Maps.OwnSet
import Derived.Maps.Range
import Derived.StringKeys
namespace Go.V
open Go.RowKit
abbrev sLit (s : ByteArray) : Lit := .string s.data.toList
theorem sLit_ne {u s : ByteArray} (h : u ≠ s) : sLit u ≠ sLit s := by
  intro e2; injection e2 with e2
  exact h (by cases u; cases s; simp_all)
/-- D reads as f -/
def ReadsAs (D : DataW Unit) (f : ByteArray → Option Int) : Prop := ∀ s : ByteArray, s.size ≤ maxLen → (Maps.has D (sLit s) = true ↔ (f s).isSome = true) ∧ ∀ c, f s = some c → ∀ zd, D.atKey (sLit s) zd = .lit (.int .i64 c)
/-- block b is a map of strings; f: what it has; n: how many; m: a bound -/
def MapI (P : Program) (w : World) (k e b : Nat) (f : ByteArray → Option Int) (n m : Nat) : Prop :=
  ∃ D : DataW Unit, w.ownsMap P k (plainElem P e) b m D ∧ Maps.size D = n ∧ ReadsAs D f
def putF (f : ByteArray → Option Int) (s : ByteArray) (c : Int) : ByteArray → Option Int := fun u => if u = s then some c else f u
def delF (f : ByteArray → Option Int) (s : ByteArray) : ByteArray → Option Int := fun u => if u = s then none else f u
section
variable {P : Program} {w w' : World} {k e b n m t : Nat} {f : ByteArray → Option Int}
theorem MapI.lt (h : MapI P w k e b f n m) : b < w.heap.size := by
  obtain ⟨D, h1, _⟩ := h; exact h1.lt
theorem MapI.kept (h : MapI P w k e b f n m) {row : Option Nat} (hg : w.grownBy w' row) (hne : row ≠ some b) : MapI P w' k e b f n m := by
  obtain ⟨D, h1, h2⟩ := h; exact ⟨D, h1.kept hg (fun e => hne e.symm), h2⟩
theorem MapI.ext (h : MapI P w k e b f n m) (hx : Ext w w') : MapI P w' k e b f n m := h.kept (hx.grown none) (by simp)
theorem MapI.made (w : World) (P : Program) (k e : Nat) : MapI P (w.alloc (.map #[] 0)) k e w.heap.size (fun _ => none) 0 0 :=
  ⟨.map [], World.ownsMap_made w P k _, rfl, fun s _ => ⟨by simp [Maps.has], fun c hc => by cases hc⟩⟩
theorem MapI.put (h : MapI P w k e b f n m) (hk : P.underlying k = some .string) (he : P.underlying e = some (.int .i64)) (ht : P.underlying t = some (.map k e)) (hm : m < maxLen) {s : ByteArray} {c : Int} (hs : s.size ≤ maxLen) (hc : -9223372036854775808 ≤ c ∧ c ≤ 9223372036854775807) :
    ∃ w', (Instr.mapUpdate t (.map (some b)) (.string s) (.int .i64 c)).run P w = .ok () w' ∧ MapI P w' k e b (putF f s c) (if (f s).isSome = true then n else n + 1) (m + 1) ∧ w.grownBy w' (some b) := by
  obtain ⟨D, h1, h2, h3⟩ := h
  have K := Maps.string_keyed hk
  have hkey := Go.WideMaps.keyOf_string_mk (P := P) (k := k) hk hs
  have hwf : (Lit.int .i64 c).wf = true := by simpa [Lit.wf, IntKind.min, IntKind.max, IntKind.bits, IntKind.signed] using hc
  obtain ⟨w', hr, ho, hg⟩ := h1.update K ht hm hkey (plainElem_int he hwf)
  have hlit := K.key hkey
  have htidy := h1.tidy K
  have hmap := h1.isMap
  refine ⟨w', hr, ⟨_, ho, ?_, fun u hu => ?_⟩, hg⟩
  · obtain ⟨es, rfl, hp⟩ := htidy
    have hst := Maps.length_strike (k := sLit s) es hp
    have hsz : Maps.size ((DataW.map es).put (sLit s) (.lit (.int .i64 c))) = (es.filter fun p => !p.1.sameKey (sLit s)).length + 1 := by
      show (DataW.insert _ _).length = _
      rw [length_insert]
    rw [hsz]
    have hz : es.length = n := h2
    have hq := (h3 s hs).1
    simp only [Maps.has] at hq
    by_cases hf : (f s).isSome = true
    · rw [if_pos (hq.2 hf)] at hst; rw [if_pos hf]; omega
    · rw [if_neg (fun e2 => hf (hq.1 e2))] at hst; rw [if_neg hf]; omega
  · unfold putF
    by_cases e' : u = s
    · subst e'
      rw [if_pos rfl]
      refine ⟨by simp [Maps.has_put_same hmap hlit], fun c' hc' zd => ?_⟩
      injection hc' with hc'
      rw [← hc']
      exact Maps.atKey_put_same hmap hlit _ _
    · rw [if_neg e']
      have hne := sLit_ne e'
      rw [Maps.has_put_other hne]
      refine ⟨(h3 u hu).1, fun c' hc' zd => ?_⟩
      rw [Maps.atKey_put_other hne]
      exact (h3 u hu).2 c' hc' zd
theorem MapI.look (h : MapI P w k e b f n m) (hk : P.underlying k = some .string) (he : P.underlying e = some (.int .i64)) (ht : P.underlying t = some (.map k e)) (hz : ZeroT P e (.int .i64 0)) {s : ByteArray} (hs : s.size ≤ maxLen) :
    (Instr.lookup t (.map (some b)) (.string s) false).run P w = .ok (.int .i64 ((f s).getD 0)) w ∧ (Instr.lookup t (.map (some b)) (.string s) true).run P w = .ok (.tuple #[.int .i64 ((f s).getD 0), .bool (f s).isSome]) w := by
  obtain ⟨D, h1, h2, h3⟩ := h
  have K := Maps.string_keyed hk
  have hkey := Go.WideMaps.keyOf_string_mk (P := P) (k := k) hk hs
  have hw0 : (Lit.int .i64 0).wf = true := by decide
  have hat : ∀ c, D.atKey (sLit s) (.lit (.int .i64 0)) = .lit (.int .i64 c) → c = (f s).getD 0 := fun c hc => by
    cases hf : f s with
    | some c0 =>
      have := (h3 s hs).2 c0 hf (.lit (.int .i64 0))
      rw [this] at hc
      injection hc with hc; injection hc with _ hc
      exact hc.symm
    | none =>
      have hno : Maps.has D (sLit s) = false := by
        cases hh : Maps.has D (sLit s) with
        | false => rfl
        | true => have := (h3 s hs).1.1 hh; rw [hf] at this; cases this
      rw [Maps.atKey_of_not_has hno] at hc
      injection hc with hc; injection hc with _ hc
      exact hc.symm
  have hhas : Maps.has D (sLit s) = (f s).isSome := by rw [Bool.eq_iff_iff]; exact (h3 s hs).1
  constructor
  · obtain ⟨v, ps, hrun, hv⟩ := h1.lookup K ht (run_zero hz w) (plainElem_int he hw0) hkey
    obtain ⟨c, rfl, hc, hwc⟩ := plainElem_int_inv he hv
    injection hc with hc _
    rw [hrun, hat c hc]
  · obtain ⟨v, ps, hrun, hv⟩ := h1.look_ok K ht (run_zero hz w) (plainElem_int he hw0) hkey
    obtain ⟨c, rfl, hc, hwc⟩ := plainElem_int_inv he hv
    injection hc with hc _
    rw [hrun, hat c hc, hhas]
theorem MapI.del (h : MapI P w k e b f n m) (hk : P.underlying k = some .string) (ht : P.underlying t = some (.map k e)) {s : ByteArray} (hs : s.size ≤ maxLen) (ty : TypeId) :
    ∃ w', (Builtin.delete_ #[t, k] ty #[.map (some b), .string s]).run P w = .ok (.tuple #[]) w' ∧ MapI P w' k e b (delF f s) (if (f s).isSome = true then n - 1 else n) m ∧ w.grownBy w' (some b) := by
  obtain ⟨D, h1, h2, h3⟩ := h
  have K := Maps.string_keyed hk
  have hkey := Go.WideMaps.keyOf_string_mk (P := P) (k := k) hk hs
  obtain ⟨w', hr, ho, hg⟩ := h1.drop K ht hkey ty
  have htidy := h1.tidy K
  refine ⟨w', hr, ⟨_, ho, ?_, fun u hu => ?_⟩, hg.grown⟩
  · obtain ⟨es, rfl, hp⟩ := htidy
    have hst := Maps.length_strike (k := sLit s) es hp
    have hsz : Maps.size ((DataW.map es).del (sLit s)) = (es.filter fun p => !p.1.sameKey (sLit s)).length := rfl
    rw [hsz]
    have hz : es.length = n := h2
    have hq := (h3 s hs).1
    simp only [Maps.has] at hq
    by_cases hf : (f s).isSome = true
    · rw [if_pos (hq.2 hf)] at hst; rw [if_pos hf]; omega
    · rw [if_neg (fun e2 => hf (hq.1 e2))] at hst; rw [if_neg hf]; omega
  · unfold delF
    by_cases e' : u = s
    · subst e'
      rw [if_pos rfl, Maps.has_del_same]
      exact ⟨by simp, fun c hc => by cases hc⟩
    · rw [if_neg e']
      have hne := sLit_ne e'
      rw [Maps.has_del_other hne]
      refine ⟨(h3 u hu).1, fun c' hc' zd => ?_⟩
      rw [Maps.atKey_del_other hne]
      exact (h3 u hu).2 c' hc' zd
/-- a range over the map: left: what is still to come -/
def MapR (P : Program) (w : World) (k e b r : Nat) (f : ByteArray → Option Int) (left : ByteArray → Bool) (cnt n m : Nat) : Prop :=
  ∃ (D : DataW Unit) (lf : Lit → Bool), w.ranges P k (plainElem P e) b r m D lf cnt ∧ Maps.size D = n ∧ ReadsAs D f ∧ ∀ s : ByteArray, s.size ≤ maxLen → lf (sLit s) = left s
theorem MapR.kept {left : ByteArray → Bool} {cnt r : Nat} (h : MapR P w k e b r f left cnt n m) {row : Option Nat} (hg : w.grownBy w' row) (hb : row ≠ some b) (hr : row ≠ some r) : MapR P w' k e b r f left cnt n m := by
  obtain ⟨D, lf, h1, h2⟩ := h; exact ⟨D, lf, h1.kept hg (fun e => hb e.symm) (fun e => hr e.symm), h2⟩
theorem MapR.ext {left : ByteArray → Bool} {cnt r : Nat} (h : MapR P w k e b r f left cnt n m) (hx : Ext w w') : MapR P w' k e b r f left cnt n m := h.kept (hx.grown none) (by simp) (by simp)
theorem MapR.lt {left : ByteArray → Bool} {cnt r : Nat} (h : MapR P w k e b r f left cnt n m) : b < w.heap.size ∧ r < w.heap.size := by
  obtain ⟨D, lf, h1, h2⟩ := h; exact ⟨h1.owns.lt, h1.lt⟩
theorem MapI.range (h : MapI P w k e b f n m) (hk : P.underlying k = some .string) (ht : P.underlying t = some (.map k e)) :
    ∃ w', (Instr.range t (.map (some b))).run P w = .ok (.pointer (some ⟨w.heap.size, 0, none⟩)) w' ∧ MapR P w' k e b w.heap.size f (fun s => (f s).isSome) n n m ∧ Ext w w' ∧ w'.heap.size = w.heap.size + 1 := by
  obtain ⟨D, h1, h2, h3⟩ := h
  obtain ⟨w', hr, ho, hg, hz⟩ := h1.range (Maps.string_keyed hk) ht
  exact ⟨w', hr, ⟨D, _, by rw [h2] at ho; exact ho, h2, h3, fun s hs => by rw [Bool.eq_iff_iff]; exact (h3 s hs).1⟩, Ext.of_grown hg, hz⟩
theorem MapR.next {left : ByteArray → Bool} {cnt r : Nat} (h : MapR P w k e b r f left cnt n m) (hk : P.underlying k = some .string) (he : P.underlying e = some (.int .i64)) (ty : TypeId) :
    ((∀ s : ByteArray, s.size ≤ maxLen → left s = false) ∧ (Instr.next (.pointer (some ⟨r, 0, none⟩)) false ty).run P w = .ok (.tuple #[.bool false]) w) ∨
    ∃ s c w' cnt', s.size ≤ maxLen ∧ left s = true ∧ f s = some c ∧ (-9223372036854775808 ≤ c ∧ c ≤ 9223372036854775807) ∧ (Instr.next (.pointer (some ⟨r, 0, none⟩)) false ty).run P w = .ok (.tuple #[.bool true, .string s, .int .i64 c]) w' ∧
      MapR P w' k e b r f (fun u => left u && !decide (u = s)) cnt' n m ∧ cnt' < cnt ∧ w.grownBy w' (some r) ∧ w'.heap.size = w.heap.size ∧ (Instr.entry (.pointer (some ⟨r, 0, none⟩))).run P w' = .ok (.tuple #[.string s, .int .i64 c]) w' := by
  obtain ⟨D, lf, h1, h2, h3, h4⟩ := h
  have K := Maps.string_keyed hk
  rcases h1.next K ty with ⟨_, g2, g3⟩ | ⟨key, v, kl, y, w', cnt', g1, g2, g3, g4, g5, g6, g7, g8, g9, g10⟩
  · exact .inl ⟨fun s hs => by rw [← h4 s hs]; exact g2 _, g3⟩
  · obtain ⟨s, rfl, hkl, hs⟩ : ∃ s, key = .string s ∧ kl = sLit s ∧ s.size ≤ maxLen := by
      obtain ⟨s, e1, e2, e3⟩ := Go.WideMaps.string_of_keyOf hk g1
      exact ⟨s, e1, e2, e3⟩
    subst hkl
    obtain ⟨c, rfl, rfl, hwc⟩ := plainElem_int_inv he g3
    have hfc : f s = some c := by
      have hhas : Maps.has D (sLit s) = true := by
        cases hh : Maps.has D (sLit s) with
        | true => rfl
        | false =>
          have e1 := g4 (.lit (.int .i64 (c + 1)))
          rw [Maps.atKey_of_not_has hh] at e1
          injection e1 with e1; injection e1 with _ e1
          omega
      obtain ⟨c0, hc0⟩ := Option.isSome_iff_exists.1 ((h3 s hs).1.1 hhas)
      have e2 := (h3 s hs).2 c0 hc0 (.lit (.int .i64 0))
      rw [g4 (.lit (.int .i64 0))] at e2
      injection e2 with e2; injection e2 with _ e2
      rw [hc0, e2]
    refine .inr ⟨s, c, w', cnt', hs, by rw [← h4 s hs]; exact g2, hfc, by simpa [Lit.wf, IntKind.min, IntKind.max, IntKind.bits, IntKind.signed] using hwc, g5, ⟨D, _, g6, h2, h3, fun u hu => ?_⟩, g7, g8, g9, g10⟩
    rw [h4 u hu]
    by_cases e' : u = s
    · subst e'; simp [WideAt.sameKey_self (K.key g1)]
    · simp [Maps.sameKey_ne (sLit_ne e'), e']
end
end Go.V
