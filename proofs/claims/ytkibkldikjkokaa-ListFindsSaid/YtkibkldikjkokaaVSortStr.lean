/- slices.Sort and slices.Compact of strings, by the shelf's contracts. -/
import Derived.Test.YtkibkldikjkokaaVSetPlain
import Derived.Test.YtkibkldikjkokaaVTypes
import Derived.Test.YtkibkldikjkokaaVRows
import Derived.Test.YtkibkldikjkokaaVShelf
import Derived.Sort.OwnSorted
namespace Go.V
theorem bl_lt : ∀ (a b : List UInt8), Op.bytesLess a b = true ↔ a < b
  | [], [] => by simp [Op.bytesLess]
  | [], _ :: _ => by simp [Op.bytesLess]
  | _ :: _, [] => by simp [Op.bytesLess]
  | x :: a, y :: b => by
    simp only [Op.bytesLess, Bool.or_eq_true, decide_eq_true_eq, Bool.and_eq_true, beq_iff_eq, List.cons_lt_cons_iff, bl_lt a b]
theorem le_iff (a b : List UInt8) : a ≤ b ↔ Op.bytesLess b a = false := by
  rw [← List.not_lt, ← bl_lt]; simp
theorem merge_sorted (ss : List (List UInt8)) : (ss.mergeSort fun x y => decide (x ≤ y)).Pairwise (fun a b => Op.bytesLess b a = false) := by
  have h := List.pairwise_mergeSort (le := fun x y : List UInt8 => decide (x ≤ y)) (fun a b c h1 h2 => by
      simp only [decide_eq_true_eq] at *
      exact Std.le_trans h1 h2) (fun a b => by
      simp only [Bool.or_eq_true, decide_eq_true_eq]
      exact Std.le_total) ss
  refine h.imp ?_
  intro a b hab
  exact (le_iff a b).1 (of_decide_eq_true hab)
theorem mkStr_enc (ts : List (List UInt8)) : (ts.map mkStr).flatMap eStr.enc = ts.map Go.Proofs.encStr := by
  induction ts with
  | nil => rfl
  | cons t ts ih => simp only [List.map_cons, List.flatMap_cons, ih]; rfl
theorem mkStr_data' (s : ByteArray) : mkStr s.data.toList = s := by
  cases s; simp [mkStr]
theorem map_mkStr (xs : List ByteArray) : (xs.map (fun s => s.data.toList)).map mkStr = xs := by
  rw [List.map_map]
  conv => rhs; rw [← List.map_id xs]
  apply List.map_congr_left
  intro a _
  exact mkStr_data' a
end Go.V
namespace Go.Proofs.Ytkibkldikjkokaa
open Go.V Go.Sort
theorem sort_strs {p : Option Addr} {c B : Nat} {xs : List ByteArray} {w : World} (ho : Own w B 9 eStr p c xs) (hl : xs.length ≤ 1000000) :
    Ctr Try.prog 92 [.slice p xs.length c] w (fun _ w' => ∃ ys, Own w' B 9 eStr p c ys ∧ ys.length = xs.length ∧ (∀ z, z ∈ ys ↔ z ∈ xs) ∧ ys.Pairwise (fun a b => blt b a = false) ∧ w.grownBy w' (blk p)) := by
  unfold Ctr
  refine ⟨⟨Try.f92, Try.func92, by decide, rfl⟩, ?_⟩
  by_cases hp : p = none
  · subst hp
    have h1 := ho.sl.ok.nul rfl
    have h2 := ho.sl.ok.le
    obtain rfl : xs = [] := List.eq_nil_of_length_eq_zero (by omega)
    refine (AnyM.slices_Sort_string_none Try.layS none c w).mono fun e w' ⟨he, hw⟩ => ?_
    subst hw
    exact ⟨_, he, [], ho, rfl, fun z => Iff.rfl, List.Pairwise.nil, ⟨rfl, rfl, rfl, Nat.le_refl _, fun _ _ _ => rfl⟩⟩
  · obtain ⟨gb, cur, rfl, hb, hB, hlen, hcm, hnc, htk⟩ := ho.toBlk hp
    have hsz : eStr.sz = 1 := rfl
    rw [hsz, Nat.mul_one] at hlen htk
    have hgl := hB.lt
    obtain ⟨ss, hss⟩ : ∃ ss, ss = xs.map (fun s => s.data.toList) := ⟨_, rfl⟩
    have hssl : ss.length = xs.length := by rw [hss]; simp
    have hxs : ss.map mkStr = xs := by rw [hss]; exact map_mkStr xs
    have htk' : cur.toArray.toList.take ss.length = ss.map encStr := by rw [← mkStr_enc, hxs, hssl]; exact htk
    have hH := holds_of_block (e := 9) hB htk'
    have := AnyM.slices_Sort_string Try.layS gb 0 c ss w hH hgl (by omega)
    rw [hssl] at this
    refine Calls.mono this fun e w' ⟨he, n, os, hw⟩ => ?_
    subst hw
    obtain ⟨ts, hts⟩ : ∃ ts, ts = ss.mergeSort (fun x y => decide (x ≤ y)) := ⟨_, rfl⟩
    have htl : ts.length = ss.length := by rw [hts]; simp
    refine ⟨_, he, ts.map mkStr, ?_, by rw [List.length_map, htl, hssl], fun z => ?_, ?_, ?_⟩
    · have := ownsRow_sorted (n := n) (os := os) (base := B) (cap := c) htl hb hB (by rw [hssl]; exact hnc) hcm (by simpa using hlen)
      unfold Own
      rw [mkStr_enc, List.length_map, htl]
      rw [← hts]
      exact this
    · rw [← hxs, List.mem_map, List.mem_map]
      constructor
      · rintro ⟨a, ha, e⟩; exact ⟨a, by rw [hts] at ha; exact List.mem_mergeSort.1 ha, e⟩
      · rintro ⟨a, ha, e⟩; exact ⟨a, by rw [hts]; exact List.mem_mergeSort.2 ha, e⟩
    · rw [List.pairwise_map, hts]
      refine (merge_sorted ss).imp ?_
      intro a b h
      exact h
    · exact grownBy_sorted _
end Go.Proofs.Ytkibkldikjkokaa
