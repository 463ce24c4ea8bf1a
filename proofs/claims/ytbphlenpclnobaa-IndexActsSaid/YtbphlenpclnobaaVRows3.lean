/- slices.Delete of one element of a row of one's own; slices.Clone of entries. -/
import Derived.Test.YtbphlenpclnobaaVIndexMem
import Derived.Test.YtbphlenpclnobaaVInsertG
import Derived.Test.YtbphlenpclnobaaVRows2
namespace Go.Proofs.Ytbphlenpclnobaa
open Go.V
attribute [local irreducible] Blk Own hcell IntT SliceT PlainT AggT SizeT StrT FieldT ZeroT EqT ArrT

theorem delete_ent {p : Option Addr} {c B i : Nat} {xs : List Ent} {w : World} (ho : Go.V.Own w B 72 eEnt p c xs) (hi : i < xs.length) (hlen : xs.length ≤ 1000000) :
    Ctr Try.prog 46 [.slice p xs.length c, .int .i64 (i : Int), .int .i64 ((i : Int) + 1)] w (fun v w' => v = .slice p (xs.take i ++ xs.drop (i + 1)).length c ∧ Go.V.Own w' B 72 eEnt p c (xs.take i ++ xs.drop (i + 1)) ∧ w.grownBy w' (blk p)) := by
  have hok := ho.sl.ok
  have hcap := hok.cap
  have hle := hok.le
  simp only [maxLen] at hcap
  have hsz : eEnt.sz = 2 := rfl
  have hfl := fun ys : List Ent => flat_len eEnt ys
  simp only [hsz] at hfl
  obtain ⟨gb, cur, rfl, hgb, hA, hcl, hcm, _, htk⟩ := ho.toBlk (ho.some_of_pos (by omega))
  simp only [hsz] at hcl htk
  have hlen1 : (xs.take i ++ xs.drop (i + 1)).length = xs.length - 1 := by simp; omega
  have hdl : ((xs.drop (i + 1)).flatMap eEnt.enc).length = (xs.length - (i + 1)) * 2 := by rw [hfl, List.length_drop]
  have htl : (xs.drop (i + 1)).flatMap eEnt.enc = (cur.drop ((i + 1) * 2)).take ((xs.length - (i + 1)) * 2) := by
    have e1 : cur.take (xs.length * 2) = (xs.take (i + 1)).flatMap eEnt.enc ++ (xs.drop (i + 1)).flatMap eEnt.enc := by rw [htk, ← List.flatMap_append, List.take_append_drop]
    have e2 : (cur.take (xs.length * 2)).drop ((i + 1) * 2) = (xs.drop (i + 1)).flatMap eEnt.enc := by rw [e1, List.drop_left' (by rw [hfl]; simp; omega)]
    rw [← e2, List.drop_take]; congr 1; omega
  refine Ctr_of Try.func46 Try.ntmps46 rfl rfl rfl ?_
  repeat' (first | (apply G_on; exact rfl; first | ((first | apply G1_assign | apply G1_move); exact rfl; exact rfl) | (apply G1_slice3M (q := i) (r := i + 1) (mm := xs.length); exact T.s73; exact rfl; exact rfl; exact rfl; exact rfl; exact rfl; omega; exact rfl; omega; omega; omega; exact rfl) | (apply G1_sliceHiJ (q := i); exact T.s73; exact rfl; exact rfl; exact rfl; omega; exact rfl) | (apply G1_sliceLoJ (q := i + 1); exact T.s73; exact rfl; exact rfl; omega; exact hok; omega; exact rfl) | (apply G1_len; exact T.s73; exact rfl; exact rfl) | (apply G1_eql; exact rfl; exact rfl; exact rfl)) | apply G_nil | apply Post_next | apply W_seq | apply W_region | (apply W_cond_true; exact rfl) | (apply W_cond_false; exact rfl) | (apply W_cond_dec; exact rfl; all_goals (intro h; try (exfalso; omega))) | (apply W_cond; exact rfl; all_goals intro h) | (apply G_off; exact rfl; exact rfl) | ((fail_if_success (apply G_on; exact rfl)); apply G_split_dec; exact rfl; exact rfl; all_goals (intro h; try (exfalso; omega))) | ((fail_if_success (apply G_on; exact rfl)); apply G_split; exact rfl; exact rfl; all_goals intro h) | refine W_drawn 1 [] [0,1,2,3,4,5,6,7] mixed (by decide +kernel) ?_ | apply W_skip | apply W_exit | apply W_ret | apply W_block | apply Post_then_ret | apply Post_block_ret | apply Post_then_exit | apply Post_block_exit | (apply Post_block_other; exact rfl) | apply Post_block_normal)
  all_goals try (exfalso; omega)
  apply G_on; exact rfl
  obtain ⟨oq, hoq⟩ : ∃ oq, subp (bx gb) c (i + 1) 2 = some ⟨gb, oq, none⟩ := by
    unfold subp
    split
    · exact ⟨0, rfl⟩
    · exact ⟨(i + 1) * 2, by simp [addr_add]⟩
  have hsd : Sl w.drew.heap eEnt (subp (bx gb) c (i + 1) 2) (c - (i + 1)) (xs.drop (i + 1)) := (ho.ext (Ext.drew Ext.rfl')).sl.drop (by omega)
  apply G1_appendRoom (gb := gb) (vs := (xs.drop (i + 1)).flatMap eEnt.enc); exact T.s73; exact rfl; exact rfl; exact rfl; exact hoq; exact hA.ext (Ext.drew Ext.rfl'); exact hcl
  · exact hdl
  · exact fun j v hj => hsd.flat j v hj
  · exact flat_one _ _
  · omega
  · exact rfl
  · exact rfl
  · exact rfl
  intro w2 hA2 hg2 hz2
  replace hg2 : w.grownBy w2 (some gb) := ext_grown (Ext.drew Ext.rfl') hg2
  have hlx : i + (xs.length - (i + 1)) = xs.length - 1 := by omega
  rw [hlx]
  have hc2 : (cur.take (i * 2) ++ (xs.drop (i + 1)).flatMap eEnt.enc ++ cur.drop (i * 2 + ((xs.drop (i + 1)).flatMap eEnt.enc).length)).length = c * 2 := by
    simp only [List.length_append, List.length_take, List.length_drop, hdl, hcl]; omega
  have htk2 : (cur.take (i * 2) ++ (xs.drop (i + 1)).flatMap eEnt.enc ++ cur.drop (i * 2 + ((xs.drop (i + 1)).flatMap eEnt.enc).length)).take ((xs.length - 1) * 2) = (xs.take i ++ xs.drop (i + 1)).flatMap eEnt.enc := by
    rw [List.take_left' (by simp only [List.length_append, List.length_take, hdl, hcl]; omega), List.flatMap_append, ← flat_take eEnt xs i (by omega), ← htk, List.take_take, hsz]
    congr 2; omega
  generalize cur.take (i * 2) ++ (xs.drop (i + 1)).flatMap eEnt.enc ++ cur.drop (i * 2 + ((xs.drop (i + 1)).flatMap eEnt.enc).length) = cur2 at hA2 hc2 htk2
  repeat' (first | (apply G_on; exact rfl; first | ((first | apply G1_assign | apply G1_move); exact rfl; exact rfl) | (apply G1_sliceBothJ (q := xs.length - 1) (r := xs.length); exact T.s73; exact rfl; exact rfl; exact rfl; omega; exact rfl; omega; omega; exact rfl) | (apply G1_len; exact T.s73; exact rfl; exact rfl) | (apply G1_eql; exact rfl; exact rfl; exact rfl)) | apply G_nil | apply Post_next | apply W_seq | apply W_region | (apply W_cond_true; exact rfl) | (apply W_cond_false; exact rfl) | (apply W_cond_dec; exact rfl; all_goals (intro h; try (exfalso; omega))) | (apply W_cond; exact rfl; all_goals intro h) | (apply G_off; exact rfl; exact rfl) | ((fail_if_success (apply G_on; exact rfl)); apply G_split_dec; exact rfl; exact rfl; all_goals (intro h; try (exfalso; omega))) | ((fail_if_success (apply G_on; exact rfl)); apply G_split; exact rfl; exact rfl; all_goals intro h) | refine W_drawn 1 [] [0,1,2,3,4,5,6,7] mixed (by decide +kernel) ?_ | apply W_skip | apply W_exit | apply W_ret | apply W_block | apply Post_then_ret | apply Post_block_ret | apply Post_then_exit | apply Post_block_exit | (apply Post_block_other; exact rfl) | apply Post_block_normal)
  all_goals try (exfalso; omega)
  apply G_on; exact rfl
  apply G1_clearB (gb := gb) (o := (xs.length - 1) * 2) (cur := cur2) (T := 72); exact T.s73; exact rfl
  · exact fun _ => subp_bx (by omega)
  · exact hA2
  · rw [hc2]; omega
  · exact T.zero72
  · decide
  · exact rfl
  · decide
  · exact rfl
  · exact rfl
  · exact rfl
  intro w3 vs hvs hA3 hg3 hz3
  repeat' (first | (apply G_on; exact rfl; first | ((first | apply G1_assign | apply G1_move); exact rfl; exact rfl) | (apply G1_len; exact T.s73; exact rfl; exact rfl) | (apply G1_eql; exact rfl; exact rfl; exact rfl)) | apply G_nil | apply Post_next | apply W_seq | apply W_region | (apply W_cond_true; exact rfl) | (apply W_cond_false; exact rfl) | (apply W_cond_dec; exact rfl; all_goals (intro h; try (exfalso; omega))) | (apply W_cond; exact rfl; all_goals intro h) | (apply G_off; exact rfl; exact rfl) | ((fail_if_success (apply G_on; exact rfl)); apply G_split_dec; exact rfl; exact rfl; all_goals (intro h; try (exfalso; omega))) | ((fail_if_success (apply G_on; exact rfl)); apply G_split; exact rfl; exact rfl; all_goals intro h) | refine W_drawn 1 [] [0,1,2,3,4,5,6,7] mixed (by decide +kernel) ?_ | apply W_skip | apply W_exit | apply W_ret | apply W_block | apply Post_then_ret | apply Post_block_ret | apply Post_then_exit | apply Post_block_exit | (apply Post_block_other; exact rfl) | apply Post_block_normal)
  refine Post_ret Try.results46 ⟨_, _, rfl, rfl, rfl⟩ ?_
  refine ⟨by rw [hlen1]; rfl, Own.ofBlk hgb hA3 ?_ hcm (by rw [hlen1]; omega) ?_, ?_⟩
  · simp only [List.length_append, List.length_take, List.length_drop, hvs, hc2, hsz]; omega
  · rw [hlen1, hsz, List.append_assoc, List.take_append_of_le_length (by simp only [List.length_take, hc2]; omega), List.take_take, Nat.min_self]
    exact htk2
  · exact grown_trans (p := bx gb) (p' := bx gb) hg2 (by unfold NewP; exact .inl rfl) hg3
theorem delete_row {p : Option Addr} {c B i : Nat} {xs : List Blok} {w : World} (ho : Go.V.Own w B 73 eBlok p c xs) (hi : i < xs.length) (hlen : xs.length ≤ 1000000) :
    Ctr Try.prog 47 [.slice p xs.length c, .int .i64 (i : Int), .int .i64 ((i : Int) + 1)] w (fun v w' => v = .slice p (xs.take i ++ xs.drop (i + 1)).length c ∧ Go.V.Own w' B 73 eBlok p c (xs.take i ++ xs.drop (i + 1)) ∧ w.grownBy w' (blk p)) := by
  have hok := ho.sl.ok
  have hcap := hok.cap
  have hle := hok.le
  simp only [maxLen] at hcap
  have hsz : eBlok.sz = 1 := rfl
  have hfl := fun ys : List Blok => flat_len eBlok ys
  simp only [hsz] at hfl
  obtain ⟨gb, cur, rfl, hgb, hA, hcl, hcm, _, htk⟩ := ho.toBlk (ho.some_of_pos (by omega))
  simp only [hsz] at hcl htk
  have hlen1 : (xs.take i ++ xs.drop (i + 1)).length = xs.length - 1 := by simp; omega
  have hdl : ((xs.drop (i + 1)).flatMap eBlok.enc).length = (xs.length - (i + 1)) * 1 := by rw [hfl, List.length_drop]
  have htl : (xs.drop (i + 1)).flatMap eBlok.enc = (cur.drop ((i + 1) * 1)).take ((xs.length - (i + 1)) * 1) := by
    have e1 : cur.take (xs.length * 1) = (xs.take (i + 1)).flatMap eBlok.enc ++ (xs.drop (i + 1)).flatMap eBlok.enc := by rw [htk, ← List.flatMap_append, List.take_append_drop]
    have e2 : (cur.take (xs.length * 1)).drop ((i + 1) * 1) = (xs.drop (i + 1)).flatMap eBlok.enc := by rw [e1, List.drop_left' (by rw [hfl]; simp; omega)]
    rw [← e2, List.drop_take]; congr 1; omega
  refine Ctr_of Try.func47 Try.ntmps47 rfl rfl rfl ?_
  repeat' (first | (apply G_on; exact rfl; first | ((first | apply G1_assign | apply G1_move); exact rfl; exact rfl) | (apply G1_slice3M (q := i) (r := i + 1) (mm := xs.length); exact T.s65; exact rfl; exact rfl; exact rfl; exact rfl; exact rfl; omega; exact rfl; omega; omega; omega; exact rfl) | (apply G1_sliceHiJ (q := i); exact T.s65; exact rfl; exact rfl; exact rfl; omega; exact rfl) | (apply G1_sliceLoJ (q := i + 1); exact T.s65; exact rfl; exact rfl; omega; exact hok; omega; exact rfl) | (apply G1_len; exact T.s65; exact rfl; exact rfl) | (apply G1_eql; exact rfl; exact rfl; exact rfl)) | apply G_nil | apply Post_next | apply W_seq | apply W_region | (apply W_cond_true; exact rfl) | (apply W_cond_false; exact rfl) | (apply W_cond_dec; exact rfl; all_goals (intro h; try (exfalso; omega))) | (apply W_cond; exact rfl; all_goals intro h) | (apply G_off; exact rfl; exact rfl) | ((fail_if_success (apply G_on; exact rfl)); apply G_split_dec; exact rfl; exact rfl; all_goals (intro h; try (exfalso; omega))) | ((fail_if_success (apply G_on; exact rfl)); apply G_split; exact rfl; exact rfl; all_goals intro h) | refine W_drawn 1 [] [0,1,2,3,4,5,6,7] mixed (by decide +kernel) ?_ | apply W_skip | apply W_exit | apply W_ret | apply W_block | apply Post_then_ret | apply Post_block_ret | apply Post_then_exit | apply Post_block_exit | (apply Post_block_other; exact rfl) | apply Post_block_normal)
  all_goals try (exfalso; omega)
  apply G_on; exact rfl
  obtain ⟨oq, hoq⟩ : ∃ oq, subp (bx gb) c (i + 1) 1 = some ⟨gb, oq, none⟩ := by
    unfold subp
    split
    · exact ⟨0, rfl⟩
    · exact ⟨(i + 1) * 1, by simp [addr_add]⟩
  have hsd : Sl w.drew.heap eBlok (subp (bx gb) c (i + 1) 1) (c - (i + 1)) (xs.drop (i + 1)) := (ho.ext (Ext.drew Ext.rfl')).sl.drop (by omega)
  apply G1_appendRoom (gb := gb) (vs := (xs.drop (i + 1)).flatMap eBlok.enc); exact T.s65; exact rfl; exact rfl; exact rfl; exact hoq; exact hA.ext (Ext.drew Ext.rfl'); exact hcl
  · exact hdl
  · exact fun j v hj => hsd.flat j v hj
  · exact flat_one _ _
  · omega
  · exact rfl
  · exact rfl
  · exact rfl
  intro w2 hA2 hg2 hz2
  replace hg2 : w.grownBy w2 (some gb) := ext_grown (Ext.drew Ext.rfl') hg2
  have hlx : i + (xs.length - (i + 1)) = xs.length - 1 := by omega
  rw [hlx]
  have hc2 : (cur.take (i * 1) ++ (xs.drop (i + 1)).flatMap eBlok.enc ++ cur.drop (i * 1 + ((xs.drop (i + 1)).flatMap eBlok.enc).length)).length = c * 1 := by
    simp only [List.length_append, List.length_take, List.length_drop, hdl, hcl]; omega
  have htk2 : (cur.take (i * 1) ++ (xs.drop (i + 1)).flatMap eBlok.enc ++ cur.drop (i * 1 + ((xs.drop (i + 1)).flatMap eBlok.enc).length)).take ((xs.length - 1) * 1) = (xs.take i ++ xs.drop (i + 1)).flatMap eBlok.enc := by
    rw [List.take_left' (by simp only [List.length_append, List.length_take, hdl, hcl]; omega), List.flatMap_append, ← flat_take eBlok xs i (by omega), ← htk, List.take_take, hsz]
    congr 2; omega
  generalize cur.take (i * 1) ++ (xs.drop (i + 1)).flatMap eBlok.enc ++ cur.drop (i * 1 + ((xs.drop (i + 1)).flatMap eBlok.enc).length) = cur2 at hA2 hc2 htk2
  repeat' (first | (apply G_on; exact rfl; first | ((first | apply G1_assign | apply G1_move); exact rfl; exact rfl) | (apply G1_sliceBothJ (q := xs.length - 1) (r := xs.length); exact T.s65; exact rfl; exact rfl; exact rfl; omega; exact rfl; omega; omega; exact rfl) | (apply G1_len; exact T.s65; exact rfl; exact rfl) | (apply G1_eql; exact rfl; exact rfl; exact rfl)) | apply G_nil | apply Post_next | apply W_seq | apply W_region | (apply W_cond_true; exact rfl) | (apply W_cond_false; exact rfl) | (apply W_cond_dec; exact rfl; all_goals (intro h; try (exfalso; omega))) | (apply W_cond; exact rfl; all_goals intro h) | (apply G_off; exact rfl; exact rfl) | ((fail_if_success (apply G_on; exact rfl)); apply G_split_dec; exact rfl; exact rfl; all_goals (intro h; try (exfalso; omega))) | ((fail_if_success (apply G_on; exact rfl)); apply G_split; exact rfl; exact rfl; all_goals intro h) | refine W_drawn 1 [] [0,1,2,3,4,5,6,7] mixed (by decide +kernel) ?_ | apply W_skip | apply W_exit | apply W_ret | apply W_block | apply Post_then_ret | apply Post_block_ret | apply Post_then_exit | apply Post_block_exit | (apply Post_block_other; exact rfl) | apply Post_block_normal)
  all_goals try (exfalso; omega)
  apply G_on; exact rfl
  apply G1_clearB (gb := gb) (o := (xs.length - 1) * 1) (cur := cur2) (T := 73); exact T.s65; exact rfl
  · exact fun _ => subp_bx (by omega)
  · exact hA2
  · rw [hc2]; omega
  · exact T.zero73
  · decide
  · exact rfl
  · decide
  · exact rfl
  · exact rfl
  · exact rfl
  intro w3 vs hvs hA3 hg3 hz3
  repeat' (first | (apply G_on; exact rfl; first | ((first | apply G1_assign | apply G1_move); exact rfl; exact rfl) | (apply G1_len; exact T.s65; exact rfl; exact rfl) | (apply G1_eql; exact rfl; exact rfl; exact rfl)) | apply G_nil | apply Post_next | apply W_seq | apply W_region | (apply W_cond_true; exact rfl) | (apply W_cond_false; exact rfl) | (apply W_cond_dec; exact rfl; all_goals (intro h; try (exfalso; omega))) | (apply W_cond; exact rfl; all_goals intro h) | (apply G_off; exact rfl; exact rfl) | ((fail_if_success (apply G_on; exact rfl)); apply G_split_dec; exact rfl; exact rfl; all_goals (intro h; try (exfalso; omega))) | ((fail_if_success (apply G_on; exact rfl)); apply G_split; exact rfl; exact rfl; all_goals intro h) | refine W_drawn 1 [] [0,1,2,3,4,5,6,7] mixed (by decide +kernel) ?_ | apply W_skip | apply W_exit | apply W_ret | apply W_block | apply Post_then_ret | apply Post_block_ret | apply Post_then_exit | apply Post_block_exit | (apply Post_block_other; exact rfl) | apply Post_block_normal)
  refine Post_ret Try.results47 ⟨_, _, rfl, rfl, rfl⟩ ?_
  refine ⟨by rw [hlen1]; rfl, Own.ofBlk hgb hA3 ?_ hcm (by rw [hlen1]; omega) ?_, ?_⟩
  · simp only [List.length_append, List.length_take, List.length_drop, hvs, hc2, hsz]; omega
  · rw [hlen1, hsz, List.append_assoc, List.take_append_of_le_length (by simp only [List.length_take, hc2]; omega), List.take_take, Nat.min_self]
    exact htk2
  · exact grown_trans (p := bx gb) (p' := bx gb) hg2 (by unfold NewP; exact .inl rfl) hg3
theorem clone_ents {p : Option Addr} {c n : Nat} {xs : List Ent} {w : World} (hx : Sl w.heap eEnt p c xs) (hb : xs.length ≤ 1000000) (e : xs.length = n) :
    Ctr Try.prog 45 [.slice p n c] w (fun v w' => ∃ p' c', v = .slice p' n c' ∧ Go.V.Own w' w.heap.size 72 eEnt p' c' xs ∧ Ext w w') := by
  subst e
  refine Ctr_of Try.func45 Try.ntmps45 rfl rfl rfl ?_
  repeat' (first | (apply G_on; exact rfl; first | ((first | apply G1_assign | apply G1_move); exact rfl; exact rfl) | (apply G1_nileql; exact T.s73; exact rfl; exact rfl; exact rfl)) | apply G_nil | apply Post_next | apply W_seq | apply W_region | (apply W_cond_true; exact rfl) | (apply W_cond_false; exact rfl) | (apply W_cond_dec; exact rfl; all_goals (intro h; try (exfalso; omega))) | (apply W_cond; exact rfl; all_goals intro h) | (apply G_off; exact rfl; exact rfl) | ((fail_if_success (apply G_on; exact rfl)); apply G_split_dec; exact rfl; exact rfl; all_goals (intro h; try (exfalso; omega))) | ((fail_if_success (apply G_on; exact rfl)); apply G_split; exact rfl; exact rfl; all_goals intro h) | apply W_skip | apply W_exit | apply W_ret | apply W_block | apply Post_then_ret | apply Post_block_ret | apply Post_then_exit | apply Post_block_exit | (apply Post_block_other; exact rfl) | apply Post_block_normal)
  · refine Post_ret Try.results45 ⟨_, _, rfl, rfl, rfl⟩ ?_
    have hn : p = none := by simpa using h
    have h1 := hx.ok.nul hn
    have h2 := hx.ok.le
    obtain rfl : xs = [] := List.eq_nil_of_length_eq_zero (by omega)
    exact ⟨none, 0, rfl, Own.nil _ _ _ _, (by repeat first | assumption | exact Ext.rfl' | apply Ext.drew | apply Ext.alloc | refine Ext.trans ?_ (by assumption))⟩
  · apply G_on; exact rfl
    apply G1_build0 eEnt; exact T.s73; exact rfl; exact rfl
    intro p1 w1 ho hx1 hs1
    have hsl := hx.ext hx1
    repeat' (first | (apply G_on; exact rfl; first | ((first | apply G1_assign | apply G1_move); exact rfl; exact rfl) | (apply G1_append; exact T.s73; exact rfl; exact rfl; exact ho; exact hsl; exact rfl; omega; (simp; omega); (simp; omega); exact rfl; exact rfl; exact rfl; intro p2 c2 w2 ho2 hg2 hn2) | (apply G1_nileql; exact T.s73; exact rfl; exact rfl; exact rfl)) | apply G_nil | apply Post_next | apply W_seq | apply W_region | (apply W_cond_true; exact rfl) | (apply W_cond_false; exact rfl) | (apply W_cond_dec; exact rfl; all_goals (intro h; try (exfalso; omega))) | (apply W_cond; exact rfl; all_goals intro h) | (apply G_off; exact rfl; exact rfl) | ((fail_if_success (apply G_on; exact rfl)); apply G_split_dec; exact rfl; exact rfl; all_goals (intro h; try (exfalso; omega))) | ((fail_if_success (apply G_on; exact rfl)); apply G_split; exact rfl; exact rfl; all_goals intro h) | apply W_skip | apply W_exit | apply W_ret | apply W_block | apply Post_then_ret | apply Post_block_ret | apply Post_then_exit | apply Post_block_exit | (apply Post_block_other; exact rfl) | apply Post_block_normal)
    refine Post_ret Try.results45 ⟨_, _, rfl, rfl, rfl⟩ ?_
    exact ⟨p2, c2, rfl, ho2, Ext.own hx1 hg2 (fun k hk => (ho.ge k hk).1)⟩
end Go.Proofs.Ytbphlenpclnobaa
