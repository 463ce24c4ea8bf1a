/- An array of three numbers that is an argument. -/
import Derived.Test.YtkibkldikjkokaaVRead
import Derived.OpenShut
namespace Go.V
open Go.RowKit Go.ChangeShapes Go.WideShapes
variable {H : Type} {enc : TypeId × Value → H} {P : Program} {w : World}
theorem arg_arr3 {t u : TypeId} {v : Value} {d : DataW H} {ps : List MemPlace} {r : Reach} {base : Nat} (ht : P.underlying t = some (.array 3 u)) (hu : P.underlying u = some (.int .i64)) (hc : P.cellsOf u = 1) (hc3 : P.cellsOf t = 3)
    (hv : Value.okWide P w r base t v) (h : DataW.Trod enc P w 0 (fun _ => true) true t v d ps) :
    ∃ a b c : Int, v = .agg #[.int .i64 a, .int .i64 b, .int .i64 c] ∧ (-9223372036854775808 ≤ a ∧ a ≤ 9223372036854775807) ∧ (-9223372036854775808 ≤ b ∧ b ≤ 9223372036854775807) ∧ (-9223372036854775808 ≤ c ∧ c ≤ 9223372036854775807) := by
  simp only [Value.okWide, ht] at hv
  obtain ⟨cs, rfl, h2, _⟩ := hv
  obtain ⟨n, h⟩ := h
  obtain ⟨xs, m, _, _, hl, hx, hall⟩ := DataW.trod_array ht h
  have hcs : (Value.agg cs).cells.toList = cs.toList := rfl
  rw [hcs] at hl hall
  rw [hc3] at hl
  obtain ⟨l, rfl⟩ : ∃ l : List Value, cs = l.toArray := ⟨cs.toList, by simp⟩
  simp only at hl hall
  match l, hl with
  | [x, y, z], _ =>
    rw [hc] at hall
    have g : ∀ i, i < 3 → ∃ q, xs[i]? = some q := fun i hi => ⟨xs[i], List.getElem?_eq_getElem (by omega)⟩
    obtain ⟨q0, e0⟩ := g 0 (by omega)
    obtain ⟨q1, e1⟩ := g 1 (by omega)
    obtain ⟨q2, e2⟩ := g 2 (by omega)
    have h0 := hall 0 (by omega)
    have h1 := hall 1 (by omega)
    have h2' := hall 2 (by omega)
    rw [e0] at h0
    rw [e1] at h1
    rw [e2] at h2'
    obtain ⟨a, ea, ba⟩ := read_int hu _ _ _ h0
    obtain ⟨b, eb, bb⟩ := read_int hu _ _ _ h1
    obtain ⟨c, ec, bc⟩ := read_int hu _ _ _ h2'
    simp [eInt] at ea eb ec
    exact ⟨a, b, c, by rw [ea, eb, ec], ba, bb, bc⟩
end Go.V
