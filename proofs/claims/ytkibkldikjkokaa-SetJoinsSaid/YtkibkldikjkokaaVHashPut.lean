/- Layer 10: the document's Put, as a plain function and its walk. -/
import Derived.Test.YtkibkldikjkokaaVHashFind
import Derived.Test.YtkibkldikjkokaaVRef10
namespace Go.Proofs.Ytkibkldikjkokaa
open Go.V
attribute [local irreducible] Blk Own hcell IntT SliceT PlainT AggT SizeT StrT FieldT ZeroT EqT ArrT

/-- x put into a hash in order -/
def putH : List (ByteArray × ByteArray) → ByteArray × ByteArray → List (ByteArray × ByteArray)
  | [], x => [x]
  | y :: ps, x => if blt y.1 x.1 = true then y :: putH ps x else if y.1 = x.1 then x :: ps else x :: y :: ps
def hasH (ps : List (ByteArray × ByteArray)) (s : ByteArray) : Bool := ps.any (fun y => decide (y.1 = s))

/-- x put at its place n -/
theorem putH_pos : ∀ {ps : List (ByteArray × ByteArray)} {x : ByteArray × ByteArray} {n : Nat}, IsPos ps x.1 n →
    putH ps x = ps.take n ++ [x] ++ (match ps[n]? with
      | some y => if y.1 = x.1 then ps.drop (n + 1) else ps.drop n
      | none => [])
  | [], x, n, h => by
    have : n = 0 := by have := h.1; simpa using this
    subst this
    simp [putH]
  | y :: ps, x, 0, h => by
    have hb := h.2.2 0 y (Nat.le_refl _) rfl
    simp only [putH, hb, List.take_zero, List.nil_append, List.getElem?_cons_zero, Bool.false_eq_true, if_false]
    by_cases e : y.1 = x.1
    · simp [e]
    · simp [e]
  | y :: ps, x, n + 1, h => by
    have hb := h.2.1 0 y (by omega) rfl
    have ih := putH_pos (ps := ps) (x := x) (n := n) ⟨by have := h.1; simp at this; omega, fun i v hi hv => h.2.1 (i + 1) v (by omega) (by simpa using hv), fun i v hi hv => h.2.2 (i + 1) v (by omega) (by simpa using hv)⟩
    simp only [putH, hb, if_true, ih]
    simp

theorem putH_len {ps : List (ByteArray × ByteArray)} {x : ByteArray × ByteArray} : (putH ps x).length ≤ ps.length + 1 := by
  induction ps with
  | nil => simp [putH]
  | cons y ps ih =>
    simp only [putH]
    split
    · simp; omega
    · split <;> simp

theorem putH_has {ps : List (ByteArray × ByteArray)} {s : ByteArray} {n : Nat} (h : IsPos ps s n) (hs : SortedP ps) : hasH ps s = true ↔ ∃ x, ps[n]? = some x ∧ x.1 = s := by
  unfold hasH
  rw [List.any_eq_true]
  constructor
  · rintro ⟨y, hy, e⟩
    have e := of_decide_eq_true e
    obtain ⟨i, hi⟩ := List.getElem?_of_mem hy
    rcases Nat.lt_trichotomy i n with h1 | h1 | h1
    · have := h.2.1 i y h1 hi
      rw [e, blt_irrefl] at this; cases this
    · subst h1; exact ⟨y, hi, e⟩
    · obtain ⟨x, hx⟩ := get_some (xs := ps) (k := n) (by have := get_lt hi; omega)
      have h2 := hs.lt hx (i - (n + 1)) y (by rw [← hi]; congr 1; omega)
      have h3 := h.2.2 n x (Nat.le_refl _) hx
      rw [e] at h2
      rw [h2] at h3; cases h3
  · rintro ⟨x, hx, e⟩
    exact ⟨x, List.mem_of_getElem? hx, decide_eq_true e⟩
end Go.Proofs.Ytkibkldikjkokaa
