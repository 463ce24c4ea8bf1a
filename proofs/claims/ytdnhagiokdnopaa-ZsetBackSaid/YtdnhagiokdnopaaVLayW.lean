/- Worlds that have grown by draws and new blocks alone. -/
import Derived.Test.YtdnhagiokdnopaaVTypes
import Derived.Sort.Grow
import Derived.Deep.Draws
namespace Go.V
open Go.Sort
def Lay (w w' : World) : Prop := ∃ q os, w' = grow (w.drewN q) os
theorem Lay.rfl' {w : World} : Lay w w := ⟨0, #[], by simp [grow, World.drewN]⟩
theorem Lay.trans {a b c : World} (h : Lay a b) (k : Lay b c) : Lay a c := by
  obtain ⟨q, os, rfl⟩ := h
  obtain ⟨q', os', rfl⟩ := k
  exact ⟨q + q', os ++ os', by simp [grow, World.drewN, Nat.add_assoc]⟩
theorem Lay.drew {w w' : World} (h : Lay w w') : Lay w w'.drew := h.trans ⟨1, #[], by rw [grow_empty]; rfl⟩
theorem Lay.alloc {w w' : World} (h : Lay w w') (o : Obj) : Lay w (w'.alloc o) := h.trans ⟨0, #[o], by rw [alloc_eq_grow]; simp [grow, World.drewN]⟩
section
variable {P : Program} {n : Nat} {ops : Array Oper} {dr : Nat × List Nat} {l : List Oper} {E : Env} {w : World} {K : Env → World → Prop}
variable {d : Option Nat} {ty : TypeId} {pos : String} {af : Array Edge} {g : Option (Nat × Bool)} {x y : Operand} {t u sz by_ m : Nat} {v : Value}
theorem G1_boxL (hx : E.look x = some v) (he : effects P dr.1 ⟨d, .box t x, ty, pos, af, g⟩ = true) (hd : dstOk n d = true)
    (h : ∀ b w', b = w.heap.size → Blk w'.heap b t v.cells.toList → Ext w w' → w'.heap.size = w.heap.size + 1 → Lay w w' → G P n ops dr l (E.put d (.pointer (some (adr (bx b) 0)))) w' K) : G1 P n ops dr ⟨d, .box t x, ty, pos, af, g⟩ l E w K :=
  G1_eff _ (w.alloc (.cells v.cells t)) he hd (fun a ha => by simp [execOp, Instr.box, ha.eval hx, newVar, newRow, newObj, Sem.run, adr])
    (.inr (Ext.alloc Ext.rfl' _).toS) (h w.heap.size _ rfl (by unfold Blk; rw [Array.toArray_toList]; exact heap_alloc_new w _) (Ext.alloc Ext.rfl' _) (by simp) (Lay.alloc Lay.rfl' _))
theorem G1_buildNL {α : Type} (e : Enc α) (els : List α) {parts : Array (Nat × Operand)} {ps : List (Nat × Value)} (hu : SliceT P t u sz by_) (hx : E.parts parts.toList = some ps) (h0 : ps.map (·.1) = List.range' 0 ps.length) (hc : ps.map (fun x => x.2.cells.toList) = els.map e.enc) (hm : m = els.length) (hsz : e.sz = sz) (hpos : 0 < els.length) (hs24 : els.length * sz ≤ 10000)
    (he : effects P dr.1 ⟨d, .buildSlice t m parts, ty, pos, af, g⟩ = true) (hd : dstOk n d = true)
    (h : ∀ p' w', Own w' w.heap.size u e p' els.length els → Ext w w' → w'.heap.size = w.heap.size + 1 → Lay w w' → G P n ops dr l (E.put d (.slice p' els.length els.length)) w' K) :
    G1 P n ops dr ⟨d, .buildSlice t m parts, ty, pos, af, g⟩ l E w K := by
  subst hsz hm
  have hp := e.pos
  obtain ⟨h1, i, z, hi, hs1, hb1, hz, hz2⟩ := hu
  have hnz : 0 < els.length * e.sz := Nat.mul_pos hpos hp
  have hcells : ((Array.range (els.length * e.sz)).map (z.cells[· % z.cells.size]!)).size = els.length * e.sz := by simp
  obtain ⟨r, hr, hrl⟩ := fill_all e ps els 0 ((Array.range (els.length * e.sz)).map (z.cells[· % z.cells.size]!)) h0 hc (by rw [hcells]; simp)
  have hr' : r = (els.flatMap e.enc).toArray := by
    apply Array.ext'
    rw [hrl]
    rw [List.drop_of_length_le (by simp)]
    simp
  subst hr'
  refine G1_eff _ (w.alloc (.cells (els.flatMap e.enc).toArray u)) he hd (fun a ha => ?_) (.inr (Ext.alloc Ext.rfl' _).toS) (h (some ⟨w.heap.size, 0, none⟩) _ ?_ (Ext.alloc Ext.rfl' _) (by simp) (Lay.alloc Lay.rfl' _))
  · have hm : (parts.map fun (i, x) => (i, a.eval x)) = ps.toArray := by
      rw [← ha.parts hx]; apply Array.ext'; simp
    simp only [execOp, hm, Instr.buildSlice, Sem.run_bind, run_underlying h1, Result.andThen_ok, sizeOf, typeInfo, run_program, hi, Sem.run_pure, hs1, zeroValue]
    have h24 : ¬ (els.length * e.sz > 2 ^ 24) := by omega
    have h0' : ¬ (els.length * e.sz = 0) := by omega
    simp only [h24, h0', if_false, Sem.run_pure, Result.andThen_ok, Sem.run_bind, run_program, hi, hz]
    rw [hr]
    simp [newRow, newObj, Sem.run]
  · unfold Own
    refine ⟨by rw [flat_len], .inr ⟨w.heap.size, els.length, _, rfl, Nat.le_refl _, heap_alloc_new w _, Nat.le_refl _, ?_, by rw [List.size_toArray, flat_len], ?_⟩⟩
    · have : els.length ≤ els.length * e.sz := Nat.le_mul_of_pos_right _ hp
      simp only [maxLen]; omega
    · rw [← flat_len]; exact List.take_length
end
end Go.V
