/- slices.Reverse of strings, by the shelf's contract. -/
import Derived.Test.YtkibkldikjkokaaVSortStr
namespace Go.Proofs.Ytkibkldikjkokaa
open Go.V Go.Sort
theorem reverse_strs {p : Option Addr} {c B : Nat} {xs : List ByteArray} {w : World} (ho : Own w B 9 eStr p c xs) (hl : xs.length ≤ 1000000) :
    Ctr Try.prog 74 [.slice p xs.length c] w (fun _ w' => Own w' B 9 eStr p c xs.reverse ∧ w.grownBy w' (blk p)) := by
  unfold Ctr
  refine ⟨⟨Try.f74, Try.func74, by decide, rfl⟩, ?_⟩
  by_cases hp : p = none
  · subst hp
    have h1 := ho.sl.ok.nul rfl
    have h2 := ho.sl.ok.le
    obtain rfl : xs = [] := List.eq_nil_of_length_eq_zero (by omega)
    refine (AnyG.slices_Reverse_string_empty Try.layR none c w).mono fun e w' ⟨he, hw⟩ => ?_
    subst hw
    exact ⟨_, he, ho, ⟨rfl, rfl, rfl, Nat.le_refl _, fun _ _ _ => rfl⟩⟩
  · obtain ⟨gb, cur, rfl, hb, hB, hlen, hcm, hnc, htk⟩ := ho.toBlk hp
    have hsz : eStr.sz = 1 := rfl
    rw [hsz, Nat.mul_one] at hlen htk
    have hgl := hB.lt
    obtain ⟨ss, hss⟩ : ∃ ss, ss = xs.map (fun s => s.data.toList) := ⟨_, rfl⟩
    have hssl : ss.length = xs.length := by rw [hss]; simp
    have hxs : ss.map mkStr = xs := by rw [hss]; exact map_mkStr xs
    have htk' : cur.toArray.toList.take ss.length = ss.map encStr := by rw [← mkStr_enc, hxs, hssl]; exact htk
    have hH := holds_of_block (e := 9) hB htk'
    have := AnyG.slices_Reverse_string Try.layR gb 0 c ss w hH (by omega)
    rw [hssl] at this
    refine Calls.mono this fun e w' ⟨he, n, hw⟩ => ?_
    have hw' : w' = grow (putRow encStr (Sort.ahead w n) gb 0 ss.reverse.toArray) #[] := by rw [hw]; simp
    have hml : ss.reverse.length = ss.length := by simp
    have hown : Own w' B 9 eStr (bx gb) c (ss.reverse.map mkStr) := by
      have := ownsRow_sorted (n := n) (os := #[]) (base := B) (cap := c) hml hb hB (by rw [hssl]; exact hnc) hcm (by simpa using hlen)
      unfold Own
      rw [mkStr_enc, List.length_map, hml, hw']
      exact this
    refine ⟨_, he, ?_, ?_⟩
    · rw [List.map_reverse, hxs] at hown; exact hown
    · rw [hw']; exact grownBy_sorted _
end Go.Proofs.Ytkibkldikjkokaa
