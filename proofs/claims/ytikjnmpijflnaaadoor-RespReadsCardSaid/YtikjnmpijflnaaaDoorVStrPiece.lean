/- Pieces of strings, as lists. -/
import Derived.Test.YtikjnmpijflnaaaDoorVPlain
namespace Go.V
def onesF (f : UInt8 → Nat) (l : List UInt8) : Nat := (l.map f).sum
theorem onesF_app (f : UInt8 → Nat) (a b : List UInt8) : onesF f (a ++ b) = onesF f a + onesF f b := by simp [onesF]
theorem onesF_le {f : UInt8 → Nat} (hf : ∀ c, f c ≤ 255) : ∀ l : List UInt8, onesF f l ≤ 255 * l.length
  | [] => by simp [onesF]
  | c :: l => by
    have := onesF_le hf l
    have h2 := hf c
    simp only [onesF, List.map_cons, List.sum_cons, List.length_cons] at this ⊢
    omega
theorem list_bget' {s : ByteArray} {k : Nat} (h : k < s.size) : s.data.toList[k]? = some (bget s k) := by
  have h' : k < s.data.toList.length := by rw [Array.length_toList]; exact h
  have h2 : k < s.data.size := h
  rw [List.getElem?_eq_getElem h', bget_list, List.getD_eq_getElem?_getD, List.getElem?_eq_getElem h']
  rfl
/-- what is between -/
def cutL (s : ByteArray) (x y : Nat) : List UInt8 := (s.data.toList.drop x).take (y - x)
theorem cutL_succ {s : ByteArray} {x y : Nat} (h1 : x ≤ y) (h2 : y < s.size) : cutL s x (y + 1) = cutL s x y ++ [bget s y] := by
  have hc := list_bget' h2
  unfold cutL
  rw [show y + 1 - x = (y - x) + 1 by omega, List.take_add_one, List.getElem?_drop, show x + (y - x) = y by omega, hc]
  rfl
theorem cutL_self (s : ByteArray) (x : Nat) : cutL s x x = [] := by unfold cutL; simp
theorem cutL_cat (s : ByteArray) {k : Nat} (hk : k ≤ s.size) : cutL s 0 k ++ cutL s k s.size = cutL s 0 s.size := by
  have hl : s.data.toList.length = s.size := by rw [Array.length_toList]; rfl
  unfold cutL
  rw [Nat.sub_zero, Nat.sub_zero, List.drop_zero, List.take_of_length_le (show (s.data.toList.drop k).length ≤ s.size - k by rw [List.length_drop, hl]; exact Nat.le_refl _), List.take_append_drop, List.take_of_length_le (by rw [hl]; exact Nat.le_refl _)]
end Go.V
