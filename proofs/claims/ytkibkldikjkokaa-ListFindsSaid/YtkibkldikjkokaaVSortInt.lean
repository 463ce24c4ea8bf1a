/- slices.Sort of ints, by the shelf's contract. -/
import Derived.Test.YtkibkldikjkokaaVTypes
import Derived.Test.YtkibkldikjkokaaVRows
import Derived.Test.YtkibkldikjkokaaVShelf
import Derived.Sort.OwnSortedInts
namespace Go.V
theorem int_enc (ts : List Int) : ts.flatMap eInt.enc = ts.map (Value.int .i64) := by
  induction ts with
  | nil => rfl
  | cons t ts ih => simp only [List.map_cons, List.flatMap_cons, ih]; rfl
theorem merge_ints (zs : List Int) : (zs.mergeSort fun x y => decide (x ≤ y)).Pairwise (fun a b => a ≤ b) := by
  have h := List.pairwise_mergeSort (le := fun x y : Int => decide (x ≤ y)) (fun a b c h1 h2 => by
      simp only [decide_eq_true_eq] at *; omega) (fun a b => by
      simp only [Bool.or_eq_true, decide_eq_true_eq]; omega) zs
  exact h.imp fun hab => of_decide_eq_true hab
end Go.V
namespace Go.Proofs.Ytkibkldikjkokaa
open Go.V Go.Sort
theorem sort_ints {p : Option Addr} {c B : Nat} {xs : List Int} {w : World} (ho : Own w B 3 eInt p c xs) (hl : xs.length ≤ 1000000) :
    Ctr Try.prog 67 [.slice p xs.length c] w (fun _ w' => ∃ ys, ys = xs.mergeSort (fun x y => decide (x ≤ y)) ∧ Own w' B 3 eInt p c ys ∧ w.grownBy w' (blk p)) := by
  unfold Ctr
  refine ⟨⟨Try.f67, Try.func67, by decide, rfl⟩, ?_⟩
  by_cases hp : p = none
  · subst hp
    have h1 := ho.sl.ok.nul rfl
    have h2 := ho.sl.ok.le
    obtain rfl : xs = [] := List.eq_nil_of_length_eq_zero (by omega)
    refine (AnyM.slices_Sort_int_none Try.layI none c w).mono fun e w' ⟨he, hw⟩ => ?_
    subst hw
    exact ⟨_, he, [], by simp, ho, ⟨rfl, rfl, rfl, Nat.le_refl _, fun _ _ _ => rfl⟩⟩
  · obtain ⟨gb, cur, rfl, hb, hB, hlen, hcm, hnc, htk⟩ := ho.toBlk hp
    have hsz : eInt.sz = 1 := rfl
    rw [hsz, Nat.mul_one] at hlen htk
    have hgl := hB.lt
    have htk' : cur.toArray.toList.take xs.length = xs.map (Value.int .i64) := by rw [← int_enc]; exact htk
    have hH := holds_of_blockI (e := 3) hB htk'
    have := AnyM.slices_Sort_int Try.layI gb 0 c xs w hH hgl (by omega)
    refine Calls.mono this fun e w' ⟨he, n, os, hw⟩ => ?_
    subst hw
    obtain ⟨ts, hts⟩ : ∃ ts, ts = xs.mergeSort (fun x y => decide (x ≤ y)) := ⟨_, rfl⟩
    have htl : ts.length = xs.length := by rw [hts]; simp
    refine ⟨_, he, ts, hts, ?_, ?_⟩
    · have := ownsRow_sortedI (n := n) (os := os) (base := B) (cap := c) htl hb hB hnc hcm (by simpa using hlen)
      unfold Own
      rw [int_enc, htl, hts]
      rw [hts] at this
      exact this
    · exact grownBy_sortedI _
end Go.Proofs.Ytkibkldikjkokaa
