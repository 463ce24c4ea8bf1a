/- slices.Compact of strings in order; set.ordered. -/
import Derived.Test.YtkibkldikjkokaaVSortStr
import Derived.Test.YtkibkldikjkokaaVCloneVal
namespace Go.V
theorem bl_tri (a b : List UInt8) (h : Op.bytesLess b a = false) : Op.bytesLess a b = true ∨ a = b := by
  rcases bytesLess_total a b with h1 | h1 | h1
  · exact .inl h1
  · exact .inr h1
  · rw [h1] at h; cases h
theorem compact_up (d : Array (List UInt8)) (hs : ∀ i j, i ≤ j → j < d.size → Op.bytesLess d[j]! d[i]! = false) : ∀ m, m ≤ d.size →
    (Lib.compactUpTo d m).Pairwise (fun a b => Op.bytesLess a b = true) ∧ ∀ z, z ∈ Lib.compactUpTo d m ↔ ∃ i, i < m ∧ d[i]! = z
  | 0, _ => by
    refine ⟨by simp [Lib.compactUpTo], fun z => by simp [Lib.compactUpTo]⟩
  | m + 1, hm => by
    obtain ⟨h1, h2⟩ := compact_up d hs m (by omega)
    rw [Lib.compactUpTo_succ]
    by_cases hk : Lib.keeps d m = true
    · rw [if_pos hk]
      refine ⟨?_, fun z => ?_⟩
      · rw [List.pairwise_append]
        refine ⟨h1, List.pairwise_singleton _ _, fun a ha b hb => ?_⟩
        rw [List.mem_singleton.1 hb]
        obtain ⟨i, hi, rfl⟩ := (h2 a).1 ha
        rcases bl_tri _ _ (hs i m (by omega) (by omega)) with h | h
        · exact h
        · exfalso
          have hk' : m = 0 ∨ d[m]! ≠ d[m - 1]! := of_decide_eq_true hk
          rcases hk' with h0 | h0
          · omega
          · apply h0
            rcases bl_tri _ _ (hs (m - 1) m (by omega) (by omega)) with h3 | h3
            · have h4 := hs i (m - 1) (by omega) (by omega)
              rw [h, h3] at h4; cases h4
            · exact h3.symm
      · rw [List.mem_append, h2 z, List.mem_singleton]
        constructor
        · rintro (⟨i, hi, e⟩ | e)
          · exact ⟨i, by omega, e⟩
          · exact ⟨m, by omega, e.symm⟩
        · rintro ⟨i, hi, e⟩
          rcases Nat.lt_or_ge i m with h | h
          · exact .inl ⟨i, h, e⟩
          · have : i = m := by omega
            subst this
            exact .inr e.symm
    · rw [if_neg hk]
      have hk' : ¬ (m = 0 ∨ d[m]! ≠ d[m - 1]!) := fun h => hk (decide_eq_true h)
      have hm0 : m ≠ 0 := fun h => hk' (.inl h)
      have he : d[m]! = d[m - 1]! := by
        by_cases e : d[m]! = d[m - 1]!
        · exact e
        · exact absurd (.inr e) hk'
      refine ⟨by simpa using h1, fun z => ?_⟩
      rw [List.append_nil, h2 z]
      constructor
      · rintro ⟨i, hi, e⟩; exact ⟨i, by omega, e⟩
      · rintro ⟨i, hi, e⟩
        rcases Nat.lt_or_ge i m with h | h
        · exact ⟨i, h, e⟩
        · have : i = m := by omega
          subst this
          exact ⟨i - 1, by omega, by rw [← he]; exact e⟩
theorem compact_sorted {zs : List (List UInt8)} (h : zs.Pairwise (fun a b => Op.bytesLess b a = false)) :
    (Lib.compact zs).Pairwise (fun a b => Op.bytesLess a b = true) ∧ ∀ z, z ∈ Lib.compact zs ↔ z ∈ zs := by
  have hg : ∀ i, i < zs.length → zs.toArray[i]! = zs[i]! := fun i hi => by simp [hi]
  obtain ⟨h1, h2⟩ := compact_up zs.toArray (fun i j hij hj => by
    have hj' : j < zs.length := by simpa using hj
    rcases Nat.lt_or_ge i j with h0 | h0
    · have := List.pairwise_iff_getElem.1 h i j (by omega) hj' h0
      simpa [hj', show i < zs.length by omega] using this
    · have : i = j := by omega
      subst this
      exact bytesLess_irrefl _) zs.length (by simp)
  refine ⟨h1, fun z => ?_⟩
  have := h2 z
  unfold Lib.compact
  rw [this]
  constructor
  · rintro ⟨i, hi, e⟩
    rw [← e]
    simp [hi]
  · intro hz
    obtain ⟨i, hi, e⟩ := List.getElem_of_mem hz
    exact ⟨i, hi, by simp [hi, e]⟩
end Go.V
namespace Go.Proofs.Ytkibkldikjkokaa
open Go.V Go.Sort
theorem compact_strs {p : Option Addr} {c B : Nat} {xs : List ByteArray} {w : World} (ho : Own w B 9 eStr p c xs) (hl : xs.length ≤ 1000000) (hs : xs.Pairwise (fun a b => blt b a = false)) :
    Ctr Try.prog 93 [.slice p xs.length c] w (fun v w' => ∃ ys, v = .slice p ys.length c ∧ Sl w'.heap eStr p c ys ∧ (∀ z, z ∈ ys ↔ z ∈ xs) ∧ SortedS ys ∧ w.grownBy w' (blk p)) := by
  unfold Ctr
  refine ⟨⟨Try.f93, Try.func93, by decide, rfl⟩, ?_⟩
  by_cases hp : p = none
  · subst hp
    have h1 := ho.sl.ok.nul rfl
    have h2 := ho.sl.ok.le
    obtain rfl : xs = [] := List.eq_nil_of_length_eq_zero (by omega)
    refine (AnyG.slices_Compact_string_empty Try.layC none c w).mono fun e w' ⟨he, hw⟩ => ?_
    subst hw
    exact ⟨_, he, [], rfl, ho.sl, fun z => Iff.rfl, List.Pairwise.nil, ⟨rfl, rfl, rfl, Nat.le_refl _, fun _ _ _ => rfl⟩⟩
  · obtain ⟨gb, cur, rfl, hb, hB, hlen, hcm, hnc, htk⟩ := ho.toBlk hp
    have hsz : eStr.sz = 1 := rfl
    rw [hsz, Nat.mul_one] at hlen htk
    have hgl := hB.lt
    obtain ⟨ss, hss⟩ : ∃ ss, ss = xs.map (fun s => s.data.toList) := ⟨_, rfl⟩
    have hssl : ss.length = xs.length := by rw [hss]; simp
    have hxs : ss.map mkStr = xs := by rw [hss]; exact map_mkStr xs
    have htk' : cur.toArray.toList.take ss.length = ss.map encStr := by rw [← mkStr_enc, hxs, hssl]; exact htk
    have hH := holds_of_block (e := 9) hB htk'
    have := AnyG.slices_Compact_string Try.layC gb 0 c ss w hH (by omega) (by omega)
    rw [hssl] at this
    refine Calls.mono this fun e w' ⟨he, n, hw⟩ => ?_
    have hsp : ss.Pairwise (fun a b => Op.bytesLess b a = false) := by
      rw [hss, List.pairwise_map]; exact hs
    obtain ⟨c1, c2⟩ := compact_sorted hsp
    have hle : (Lib.compact ss).length ≤ ss.length := by
      unfold Lib.compact Lib.compactUpTo
      rw [List.length_map]
      exact Nat.le_trans (List.length_filter_le _ _) (by simp)
    generalize Lib.compact ss = ts at *
    have hw' : w' = grow (putRow encStr (Sort.ahead w n) gb 0 (ts ++ List.replicate (xs.length - ts.length) []).toArray) #[] := by rw [hw]; simp
    have hml : (ts ++ List.replicate (xs.length - ts.length) ([] : List UInt8)).length = ss.length := by simp; omega
    have hown : Own w' B 9 eStr (bx gb) c ((ts ++ List.replicate (xs.length - ts.length) []).map mkStr) := by
      have := ownsRow_sorted (n := n) (os := #[]) (base := B) (cap := c) hml hb hB (by rw [hssl]; exact hnc) hcm (by simpa using hlen)
      unfold Own
      rw [mkStr_enc, List.length_map, hml, hw']
      exact this
    refine ⟨_, he, ts.map mkStr, by rw [List.length_map], ?_, fun z => ?_, ?_, ?_⟩
    · have := hown.sl.take ts.length
      rw [List.map_append, List.take_left' (by simp)] at this
      exact this
    · rw [← hxs, List.mem_map, List.mem_map]
      constructor
      · rintro ⟨a, ha, e⟩; exact ⟨a, (c2 a).1 ha, e⟩
      · rintro ⟨a, ha, e⟩; exact ⟨a, (c2 a).2 ha, e⟩
    · unfold SortedS
      rw [List.pairwise_map]
      exact c1.imp (fun h => h)
    · rw [hw']; exact grownBy_sorted _

theorem set_ordered {p : Option Addr} {c : Nat} {xs : List ByteArray} {w : World} (hC : Sl w.heap eStr p c xs) (hl : xs.length ≤ 1000000) :
    Ctr Try.prog 77 [.slice p xs.length c] w (fun v w' => ∃ p' c', v = .slice p' (addsS [] xs).length c' ∧ Sl w'.heap eStr p' c' (addsS [] xs) ∧ Ext w w') := by
  refine Ctr_of Try.func77 Try.ntmps77 rfl rfl rfl ?_
  repeat' (first | (apply G_on; exact rfl; first | ((first | apply G1_assign | apply G1_move); exact rfl; exact rfl)) | apply G_nil | apply Post_next | apply W_seq | apply W_region | (apply W_cond_true; exact rfl) | (apply W_cond_false; exact rfl) | (apply W_cond_dec; exact rfl; all_goals (intro h; try (exfalso; omega))) | (apply W_cond; exact rfl; all_goals intro h) | (apply G_off; exact rfl; exact rfl) | ((fail_if_success (apply G_on; exact rfl)); apply G_split_dec; exact rfl; exact rfl; all_goals (intro h; try (exfalso; omega))) | ((fail_if_success (apply G_on; exact rfl)); apply G_split; exact rfl; exact rfl; all_goals intro h) | apply W_skip | apply W_exit | apply W_ret | apply W_block | apply Post_then_ret | apply Post_block_ret | apply Post_then_exit | apply Post_block_exit | (apply Post_block_other; exact rfl) | apply Post_block_normal)
  apply G_on; exact rfl; apply G1_call; exact rfl; exact rfl; exact rfl; exact clone_strs hC hl; rintro _ w1 ⟨p1, c1, rfl, ho1, hx1⟩; refine ⟨(by first | exact .inl rfl | exact .inr (by assumption)), ?_⟩
  repeat' (first | (apply G_on; exact rfl; first | ((first | apply G1_assign | apply G1_move); exact rfl; exact rfl)) | apply G_nil | apply Post_next | apply W_seq | apply W_region | (apply W_cond_true; exact rfl) | (apply W_cond_false; exact rfl) | (apply W_cond_dec; exact rfl; all_goals (intro h; try (exfalso; omega))) | (apply W_cond; exact rfl; all_goals intro h) | (apply G_off; exact rfl; exact rfl) | ((fail_if_success (apply G_on; exact rfl)); apply G_split_dec; exact rfl; exact rfl; all_goals (intro h; try (exfalso; omega))) | ((fail_if_success (apply G_on; exact rfl)); apply G_split; exact rfl; exact rfl; all_goals intro h) | apply W_skip | apply W_exit | apply W_ret | apply W_block | apply Post_then_ret | apply Post_block_ret | apply Post_then_exit | apply Post_block_exit | (apply Post_block_other; exact rfl) | apply Post_block_normal)
  apply G_on; exact rfl
  apply G1_call; exact rfl; exact rfl; exact rfl; exact sort_strs ho1 hl
  rintro v w2 ⟨ys, ho2, hl2, hm2, hs2, hg2⟩
  refine ⟨.inl rfl, ?_⟩
  rw [← hl2]
  have hx2 : Ext w w2 := hx1.own hg2 (fun k hk => (ho1.ge k hk).1)
  repeat' (first | (apply G_on; exact rfl; first | ((first | apply G1_assign | apply G1_move); exact rfl; exact rfl)) | apply G_nil | apply Post_next | apply W_seq | apply W_region | (apply W_cond_true; exact rfl) | (apply W_cond_false; exact rfl) | (apply W_cond_dec; exact rfl; all_goals (intro h; try (exfalso; omega))) | (apply W_cond; exact rfl; all_goals intro h) | (apply G_off; exact rfl; exact rfl) | ((fail_if_success (apply G_on; exact rfl)); apply G_split_dec; exact rfl; exact rfl; all_goals (intro h; try (exfalso; omega))) | ((fail_if_success (apply G_on; exact rfl)); apply G_split; exact rfl; exact rfl; all_goals intro h) | apply W_skip | apply W_exit | apply W_ret | apply W_block | apply Post_then_ret | apply Post_block_ret | apply Post_then_exit | apply Post_block_exit | (apply Post_block_other; exact rfl) | apply Post_block_normal)
  apply G_on; exact rfl
  apply G1_call; exact rfl; exact rfl; exact rfl; exact compact_strs ho2 (by omega) hs2
  rintro _ w3 ⟨zs, rfl, hs3, hm3, hso3, hg3⟩
  refine ⟨.inl rfl, ?_⟩
  have hx3 : Ext w w3 := hx2.own hg3 (fun k hk => (ho2.ge k hk).1)
  repeat' (first | (apply G_on; exact rfl; first | ((first | apply G1_assign | apply G1_move); exact rfl; exact rfl)) | apply G_nil | apply Post_next | apply W_seq | apply W_region | (apply W_cond_true; exact rfl) | (apply W_cond_false; exact rfl) | (apply W_cond_dec; exact rfl; all_goals (intro h; try (exfalso; omega))) | (apply W_cond; exact rfl; all_goals intro h) | (apply G_off; exact rfl; exact rfl) | ((fail_if_success (apply G_on; exact rfl)); apply G_split_dec; exact rfl; exact rfl; all_goals (intro h; try (exfalso; omega))) | ((fail_if_success (apply G_on; exact rfl)); apply G_split; exact rfl; exact rfl; all_goals intro h) | apply W_skip | apply W_exit | apply W_ret | apply W_block | apply Post_then_ret | apply Post_block_ret | apply Post_then_exit | apply Post_block_exit | (apply Post_block_other; exact rfl) | apply Post_block_normal)
  refine Post_ret Try.results77 ⟨_, _, rfl, rfl, rfl⟩ ?_
  have e : zs = addsS [] xs := addsS_eq sortedS_nil hso3 (fun z => by rw [hm3, hm2]; simp)
  rw [← e]
  exact ⟨p1, c1, rfl, hs3, hx3⟩
end Go.Proofs.Ytkibkldikjkokaa
