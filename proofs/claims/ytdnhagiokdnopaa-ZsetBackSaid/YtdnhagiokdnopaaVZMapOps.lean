/- The steps of a walk at maps from strings to numbers. -/
import Derived.Test.YtdnhagiokdnopaaVMapInt
namespace Go.V
open Go.RowKit
section
variable {P : Program} {n : Nat} {ops : Array Oper} {dr : Nat × List Nat} {dq : Nat} {l : List Oper} {E : Env} {w : World} {K : Env → World → Prop}
variable {d : Option Nat} {ty : TypeId} {pos : String} {af : Array Edge} {g : Option (Nat × Bool)} {x y z : Operand} {k k' : IntKind} {i j : Int} {t kt et b cnt m r sz : Nat} {f : ByteArray → Option Int} {s : ByteArray}

theorem G1_makeMapI (ht : P.underlying t = some (.map kt et)) (hx : E.look x = some (.int k i)) (he : effects P dr.1 ⟨d, .makeMap t (some x), ty, pos, af, g⟩ = true) (hd : dstOk n d = true)
    (h : ∀ b w', b = w.heap.size → MapI P w' kt et b (fun _ => none) 0 0 → Ext w w' → w'.heap.size = w.heap.size + 1 → G P n ops dr l (E.put d (.map (some b))) w' K) : G1 P n ops dr ⟨d, .makeMap t (some x), ty, pos, af, g⟩ l E w K :=
  G1_eff _ (w.alloc (.map #[] 0)) he hd (fun a ha => by simp [execOp, Instr.makeMap, run_underlying ht, ha.eval hx, asInt, asIntOf, newObj, Sem.run]) (.inr (Ext.alloc Ext.rfl' _).toS)
    (h w.heap.size _ rfl (MapI.made w P kt et) (Ext.alloc Ext.rfl' _) (by simp))
theorem G1_makeMapI0 (ht : P.underlying t = some (.map kt et)) (he : effects P dr.1 ⟨d, .makeMap t none, ty, pos, af, g⟩ = true) (hd : dstOk n d = true)
    (h : ∀ b w', b = w.heap.size → MapI P w' kt et b (fun _ => none) 0 0 → Ext w w' → w'.heap.size = w.heap.size + 1 → G P n ops dr l (E.put d (.map (some b))) w' K) : G1 P n ops dr ⟨d, .makeMap t none, ty, pos, af, g⟩ l E w K :=
  G1_eff _ (w.alloc (.map #[] 0)) he hd (fun a ha => by simp [execOp, Instr.makeMap, run_underlying ht, newObj, Sem.run]) (.inr (Ext.alloc Ext.rfl' _).toS)
    (h w.heap.size _ rfl (MapI.made w P kt et) (Ext.alloc Ext.rfl' _) (by simp))
theorem G1_lookI (ht : P.underlying t = some (.map kt et)) (hk : P.underlying kt = some .string) (he : P.underlying et = some (.int .i64)) (hz : ZeroT P et (.int .i64 0)) (hx : E.look x = some (.map (some b))) (hy : E.look y = some (.string s)) (hs : s.size ≤ maxLen)
    (ho : MapI P w kt et b f cnt m) (hd : dstOk n d = true) (h : G P n ops (dq, []) l (E.put d (.int .i64 ((f s).getD 0))) w K) : G1 P n ops (dq, []) ⟨d, .lookup t x y false, ty, pos, af, g⟩ l E w K :=
  G1_quiet _ hd (fun a ha w' hw => by
    have hx' := ho.ext (rd_ext hw (by simp [readsM]))
    have := (hx'.look hk he ht hz hs).1
    simp [execOp, ha.eval hx, ha.eval hy, this]) h
theorem G1_lookI2 (ht : P.underlying t = some (.map kt et)) (hk : P.underlying kt = some .string) (he : P.underlying et = some (.int .i64)) (hz : ZeroT P et (.int .i64 0)) (hx : E.look x = some (.map (some b))) (hy : E.look y = some (.string s)) (hs : s.size ≤ maxLen)
    (ho : MapI P w kt et b f cnt m) (hd : dstOk n d = true) (h : G P n ops (dq, []) l (E.put d (.tuple #[.int .i64 ((f s).getD 0), .bool (f s).isSome])) w K) : G1 P n ops (dq, []) ⟨d, .lookup t x y true, ty, pos, af, g⟩ l E w K :=
  G1_quiet _ hd (fun a ha w' hw => by
    have hx' := ho.ext (rd_ext hw (by simp [readsM]))
    have := (hx'.look hk he ht hz hs).2
    simp [execOp, ha.eval hx, ha.eval hy, this]) h
theorem G1_lookI2s {v : Int} (hv : f s = some v) (ht : P.underlying t = some (.map kt et)) (hk : P.underlying kt = some .string) (he : P.underlying et = some (.int .i64)) (hz : ZeroT P et (.int .i64 0)) (hx : E.look x = some (.map (some b))) (hy : E.look y = some (.string s)) (hs : s.size ≤ maxLen)
    (ho : MapI P w kt et b f cnt m) (hd : dstOk n d = true) (h : G P n ops (dq, []) l (E.put d (.tuple #[.int .i64 v, .bool true])) w K) : G1 P n ops (dq, []) ⟨d, .lookup t x y true, ty, pos, af, g⟩ l E w K :=
  G1_lookI2 ht hk he hz hx hy hs ho hd (by rw [hv]; exact h)
theorem G1_lookI2n (hv : f s = none) (ht : P.underlying t = some (.map kt et)) (hk : P.underlying kt = some .string) (he : P.underlying et = some (.int .i64)) (hz : ZeroT P et (.int .i64 0)) (hx : E.look x = some (.map (some b))) (hy : E.look y = some (.string s)) (hs : s.size ≤ maxLen)
    (ho : MapI P w kt et b f cnt m) (hd : dstOk n d = true) (h : G P n ops (dq, []) l (E.put d (.tuple #[.int .i64 0, .bool false])) w K) : G1 P n ops (dq, []) ⟨d, .lookup t x y true, ty, pos, af, g⟩ l E w K :=
  G1_lookI2 ht hk he hz hx hy hs ho hd (by rw [hv]; exact h)
theorem G1_putI (ht : P.underlying t = some (.map kt et)) (hk : P.underlying kt = some .string) (hek : P.underlying et = some (.int .i64)) {v : Int} (hx : E.look x = some (.map (some b))) (hy : E.look y = some (.string s)) (hz : E.look z = some (.int .i64 v)) (hs : s.size ≤ maxLen)
    (hv : -9223372036854775808 ≤ v ∧ v ≤ 9223372036854775807) (hm : m < maxLen) (ho : MapI P w kt et b f cnt m)
    (he : effects P dr.1 ⟨d, .mapUpdate t x y z, ty, pos, af, g⟩ = true) (hw : writes dr.1 ⟨d, .mapUpdate t x y z, ty, pos, af, g⟩ = true) (hd : dstOk n d = true)
    (h : ∀ w', MapI P w' kt et b (putF f s v) (if (f s).isSome = true then cnt else cnt + 1) (m + 1) → w.grownBy w' (some b) → G P n ops dr l (E.put d undef) w' K) : G1 P n ops dr ⟨d, .mapUpdate t x y z, ty, pos, af, g⟩ l E w K := by
  obtain ⟨w', hr, h1, h2⟩ := ho.put hk hek ht hm hs hv
  exact G1_skip w' he hd (fun a ha => by simp [execOp, ha.eval hx, ha.eval hy, ha.eval hz, hr]) (.inl hw) (h w' h1 h2)
theorem G1_delI (ht : P.underlying t = some (.map kt et)) (hk : P.underlying kt = some .string) (hx : E.look x = some (.map (some b))) (hy : E.look y = some (.string s)) (hs : s.size ≤ maxLen) (ho : MapI P w kt et b f cnt m)
    (he : effects P dr.1 ⟨d, .call ⟨.builtin .delete, #[x, y], #[t, kt]⟩, ty, pos, af, g⟩ = true) (hw : writes dr.1 ⟨d, .call ⟨.builtin .delete, #[x, y], #[t, kt]⟩, ty, pos, af, g⟩ = true) (hd : dstOk n d = true)
    (h : ∀ w', MapI P w' kt et b (delF f s) (if (f s).isSome = true then cnt - 1 else cnt) m → w.grownBy w' (some b) → G P n ops dr l (E.put d (.tuple #[])) w' K) :
    G1 P n ops dr ⟨d, .call ⟨.builtin .delete, #[x, y], #[t, kt]⟩, ty, pos, af, g⟩ l E w K := by
  obtain ⟨w', hr, h1, h2⟩ := ho.del hk ht hs ty
  exact G1_eff _ w' he hd (fun a ha => by simp [execOp, resolve, invoke, builtin, ha.eval hx, ha.eval hy, hr]) (.inl hw) (h w' h1 h2)
theorem G1_mlenI (ht : P.underlying t = some (.map kt et)) (hx : E.look x = some (.map (some b))) (ho : MapI P w kt et b f cnt m) (hd : dstOk n d = true) (h : G P n ops (dq, []) l (E.put d (.int .i64 cnt)) w K) :
    G1 P n ops (dq, []) ⟨d, .call ⟨.builtin .len, #[x], #[t]⟩, ty, pos, af, g⟩ l E w K :=
  G1_quiet _ hd (fun a ha w' hw => by
    have hx' := ho.ext (rd_ext hw (by simp [readsM, ht]))
    obtain ⟨D, h1, h2, _⟩ := hx'
    have := h1.len ht ty
    rw [h2] at this
    simp [execOp, resolve, invoke, builtin, ha.eval hx, this]) h
theorem G1_rangeI (ht : P.underlying t = some (.map kt et)) (hk : P.underlying kt = some .string) (hx : E.look x = some (.map (some b))) (ho : MapI P w kt et b f cnt m)
    (he : effects P dr.1 ⟨d, .range t x, ty, pos, af, g⟩ = true) (hd : dstOk n d = true)
    (h : ∀ w', MapR P w' kt et b w.heap.size f (fun s => (f s).isSome) cnt cnt m → Ext w w' → w'.heap.size = w.heap.size + 1 → G P n ops dr l (E.put d (.pointer (some ⟨w.heap.size, 0, none⟩))) w' K) : G1 P n ops dr ⟨d, .range t x, ty, pos, af, g⟩ l E w K := by
  obtain ⟨w', hr, h1, h2, h3⟩ := ho.range hk ht
  exact G1_eff _ w' he hd (fun a ha => by simp [execOp, ha.eval hx, hr]) (.inr h2.toS) (h w' h1 h2 h3)
theorem G1_nextI {left : ByteArray → Bool} (hk : P.underlying kt = some .string) (hek : P.underlying et = some (.int .i64)) (hx : E.look x = some (.pointer (some ⟨r, 0, none⟩))) (ho : MapR P w kt et b r f left cnt sz m)
    (he : effects P dr.1 ⟨d, .next x false, ty, pos, af, g⟩ = true) (hw : writes dr.1 ⟨d, .next x false, ty, pos, af, g⟩ = true) (hd : dstOk n d = true)
    (h0 : (∀ s : ByteArray, s.size ≤ maxLen → left s = false) → G P n ops dr l (E.put d (.tuple #[.bool false])) w K)
    (h1 : ∀ (s : ByteArray) (c : Int) (w' : World) (cnt' : Nat), s.size ≤ maxLen → left s = true → f s = some c → (-9223372036854775808 ≤ c ∧ c ≤ 9223372036854775807) → MapR P w' kt et b r f (fun u => left u && !decide (u = s)) cnt' sz m → cnt' < cnt → w.grownBy w' (some r) → w'.heap.size = w.heap.size →
      (Instr.entry (.pointer (some ⟨r, 0, none⟩))).run P w' = .ok (.tuple #[.string s, .int .i64 c]) w' → G P n ops dr l (E.put d (.tuple #[.bool true, .string s, .int .i64 c])) w' K) :
    G1 P n ops dr ⟨d, .next x false, ty, pos, af, g⟩ l E w K := by
  rcases ho.next hk hek ty with ⟨g1, g2⟩ | ⟨s, c, w', cnt', g1, g2, g3, g4, g5, g6, g7, g8, g9, g10⟩
  · exact G1_eff _ w he hd (fun a ha => by simp [execOp, ha.eval hx, g2]) (.inr ExtS.rfl') (h0 g1)
  · exact G1_eff _ w' he hd (fun a ha => by simp [execOp, ha.eval hx, g5]) (.inl hw) (h1 s c w' cnt' g1 g2 g3 g4 g6 g7 g8 g9 g10)
theorem G1_entryI {v : Value} (hx : E.look x = some (.pointer (some ⟨r, 0, none⟩))) (hr : (Instr.entry (.pointer (some ⟨r, 0, none⟩))).run P w = .ok v w) (he : effects P dr.1 ⟨d, .entry x, ty, pos, af, g⟩ = true) (hd : dstOk n d = true)
    (h : G P n ops dr l (E.put d v) w K) : G1 P n ops dr ⟨d, .entry x, ty, pos, af, g⟩ l E w K :=
  G1_eff _ w he hd (fun a ha => by simp [execOp, ha.eval hx, hr]) (.inr ExtS.rfl') h
end
end Go.V
