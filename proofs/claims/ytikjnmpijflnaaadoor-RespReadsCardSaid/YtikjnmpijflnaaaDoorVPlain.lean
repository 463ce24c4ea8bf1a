/- Plain facts on byte strings and lists. -/
import Derived.Test.YtikjnmpijflnaaaDoorVMem
namespace Go.V

theorem bget_list (s : ByteArray) (k : Nat) : bget s k = s.data.toList.getD k 0 := by
  simp [bget, Array.getD_eq_getD_getElem?]

theorem size_list (s : ByteArray) : s.size = s.data.toList.length := by
  rw [Array.length_toList]; rfl

theorem bl_at : ∀ (a b : List UInt8) (k : Nat), (∀ j, j < k → a.getD j 0 = b.getD j 0) → k < a.length → k < b.length → a.getD k 0 ≠ b.getD k 0 → Op.bytesLess a b = decide ((a.getD k 0).toNat < (b.getD k 0).toNat)
  | [], _, k, _, h, _, _ => by simp at h
  | _ :: _, [], k, _, _, h, _ => by simp at h
  | x :: a, y :: b, 0, _, _, _, hne => by
    have hne' : x ≠ y := by simpa using hne
    have e1 : ∀ z : List UInt8, (x :: z).getD 0 0 = x := fun _ => rfl
    simp only [Op.bytesLess, List.getD_cons_zero]
    have hb : (x == y) = false := by simpa using hne'
    rw [hb, Bool.false_and, Bool.or_false]
    rfl
  | x :: a, y :: b, k + 1, he, h1, h2, hne => by
    have h0 : x = y := by simpa using he 0 (by omega)
    subst h0
    have ih := bl_at a b k (fun j hj => by simpa using he (j + 1) (by omega)) (by simpa using h1) (by simpa using h2) (by simpa using hne)
    simp only [Op.bytesLess, List.getD_cons_succ]
    rw [ih]
    have : decide (x < x) = false := by simp
    rw [this]; simp

theorem bl_end : ∀ (a b : List UInt8) (k : Nat), (∀ j, j < k → a.getD j 0 = b.getD j 0) → k ≤ a.length → k ≤ b.length → (k = a.length ∨ k = b.length) → Op.bytesLess a b = decide (a.length < b.length)
  | [], [], _, _, _, _, _ => by simp [Op.bytesLess]
  | [], _ :: _, _, _, _, _, _ => by simp [Op.bytesLess]
  | _ :: _, [], _, _, _, _, _ => by simp [Op.bytesLess]
  | x :: a, y :: b, 0, _, _, _, h => by simp at h
  | x :: a, y :: b, k + 1, he, h1, h2, h => by
    have h0 : x = y := by simpa using he 0 (by omega)
    subst h0
    have ih := bl_end a b k (fun j hj => by simpa using he (j + 1) (by omega)) (by simpa using h1) (by simpa using h2) (by simpa using h)
    simp only [Op.bytesLess]
    rw [ih]
    have : decide (x < x) = false := by simp
    rw [this]; simp

theorem blt_at {s t : ByteArray} {k : Nat} (he : ∀ j, j < k → bget s j = bget t j) (h1 : k < s.size) (h2 : k < t.size) (hne : ¬ ((bget s k).toNat : Int) = (bget t k).toNat) :
    blt s t = decide (((bget s k).toNat : Int) < (bget t k).toNat) := by
  simp only [bget_list] at *
  rw [size_list] at h1 h2
  unfold blt
  rw [bl_at _ _ k he h1 h2 (fun e => hne (by rw [e]))]
  simp

theorem blt_end {s t : ByteArray} {k : Nat} (he : ∀ j, j < k → bget s j = bget t j) (h1 : k ≤ s.size) (h2 : k ≤ t.size) (h : k = s.size ∨ k = t.size) : blt s t = decide ((s.size : Int) < t.size) := by
  simp only [bget_list] at *
  rw [size_list] at *
  rw [size_list t] at *
  unfold blt
  rw [bl_end _ _ k he h1 h2 h]
  simp

theorem get_some {α : Type} {xs : List α} {k : Nat} (h : k < xs.length) : ∃ x, xs[k]? = some x := ⟨xs[k], List.getElem?_eq_getElem h⟩
theorem get_lt {α : Type} {xs : List α} {k : Nat} {x : α} (h : xs[k]? = some x) : k < xs.length := (List.getElem?_eq_some_iff.1 h).1
theorem take_snoc {α : Type} {xs : List α} {k : Nat} {x : α} (h : xs[k]? = some x) : xs.take (k + 1) = xs.take k ++ [x] := by
  rw [List.take_add_one, h]; rfl

theorem ne_of_get {α : Type} {xs ys : List α} {k : Nat} {a b : α} (ha : xs[k]? = some a) (hb : ys[k]? = some b) (h : ¬ a = b) : ¬ xs = ys := by
  rintro rfl; rw [ha] at hb; exact h (by simpa using hb)
theorem eq_of_take {α : Type} {xs ys : List α} {k : Nat} (_ : k ≤ xs.length) (h : xs.take k = ys.take k) (h1 : xs.length ≤ k) (h2 : ys.length ≤ k) : xs = ys := by
  rw [List.take_of_length_le h1, List.take_of_length_le h2] at h; exact h
end Go.V
