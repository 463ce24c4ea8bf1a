/- slices.Insert of one element into a row of one's own. -/
import Derived.Test.YtbphlenpclnobaaVTypes
import Derived.Test.YtbphlenpclnobaaVIndexMem
namespace Go.Proofs.Ytbphlenpclnobaa
open Go.V
attribute [local irreducible] Blk Own hcell IntT SliceT PlainT AggT SizeT StrT FieldT ZeroT EqT ArrT
theorem put2_up (cur vs1 vs2 : List Value) (o : Nat) (h : o + vs1.length + vs2.length ≤ cur.length) :
    (cur.take o ++ vs1 ++ cur.drop (o + vs1.length)).take (o + vs1.length) ++ vs2 ++ (cur.take o ++ vs1 ++ cur.drop (o + vs1.length)).drop (o + vs1.length + vs2.length) = cur.take o ++ vs1 ++ (vs2 ++ cur.drop (o + vs1.length + vs2.length)) := by
  have hl : (cur.take o ++ vs1).length = o + vs1.length := by simp; omega
  rw [List.take_left' hl, List.drop_append, List.drop_of_length_le (by omega), hl, List.drop_drop, List.nil_append, List.append_assoc (cur.take o ++ vs1)]
  congr 3; omega
theorem put2_down (cur vs1 vs2 : List Value) (o : Nat) (h : o + vs1.length + vs2.length ≤ cur.length) :
    (cur.take (o + vs1.length) ++ vs2 ++ cur.drop (o + vs1.length + vs2.length)).take o ++ vs1 ++ (cur.take (o + vs1.length) ++ vs2 ++ cur.drop (o + vs1.length + vs2.length)).drop (o + vs1.length) = cur.take o ++ vs1 ++ (vs2 ++ cur.drop (o + vs1.length + vs2.length)) := by
  have hl : (cur.take (o + vs1.length)).length = o + vs1.length := by simp; omega
  rw [List.append_assoc (cur.take (o + vs1.length)), List.drop_left' hl, List.take_append_of_le_length (by omega), List.take_take]
  congr 3; omega
theorem insert_cells {α : Type} {e : Enc α} {xs : List α} {x : α} {i : Nat} {tl hd : List Value} (hi : i ≤ xs.length) (ht : hd = (xs.take i).flatMap e.enc) :
    (hd ++ e.enc x ++ ((xs.drop i).flatMap e.enc ++ tl)).take ((xs.take i ++ [x] ++ xs.drop i).length * e.sz) = (xs.take i ++ [x] ++ xs.drop i).flatMap e.enc := by
  rw [ht, ← List.append_assoc, List.take_left']
  · simp
  · simp only [List.length_append, flat_len, e.len, List.length_take, List.length_drop, List.length_cons, List.length_nil, Nat.add_mul]
    have : min i xs.length = i := by omega
    rw [this]; omega
theorem flat_take {α : Type} (e : Enc α) (xs : List α) (i : Nat) (hi : i ≤ xs.length) : (xs.flatMap e.enc).take (i * e.sz) = (xs.take i).flatMap e.enc := by
  have h : xs.flatMap e.enc = (xs.take i).flatMap e.enc ++ (xs.drop i).flatMap e.enc := by rw [← List.flatMap_append, List.take_append_drop]
  have hm : min i xs.length = i := by omega
  rw [h, List.take_left' (by rw [flat_len, List.length_take, hm])]

theorem insert_ent_ov0 : Extern.findNext Try.f59 = none := by kernel_rfl
theorem insert_ent_ov : Extern.find Try.f59 = some (Extern.SlicesOverlaps.overlaps #[73, 73] #[4]) := by kernel_rfl
set_option maxHeartbeats 1000000 in
theorem insert_ent {p q : Option Addr} {c B i vb : Nat} {xs : List Ent} {x : Ent} {w : World} (ho : Own w B 72 eEnt p c xs) (hB : B ≤ w.heap.size) (hi : i ≤ xs.length) (hq : q = bx vb) (hv : Sl w.heap eEnt q 1 [x]) (hV : Blk w.heap vb 72 (eEnt.enc x)) (hne : blk p ≠ some vb) (hlen : xs.length ≤ 1000000) :
    Ctr Try.prog 43 [.slice p xs.length c, .int .i64 (i : Int), .slice q 1 1] w (fun v w' => ∃ p' c', v = .slice p' (xs.take i ++ [x] ++ xs.drop i).length c' ∧ App w w' B 72 eEnt p p' c' (xs.take i ++ [x] ++ xs.drop i)) := by
  have hok := ho.sl.ok
  have hcap := hok.cap
  have hle := hok.le
  simp only [maxLen] at hcap
  have hlen1 : (xs.take i ++ [x] ++ xs.drop i).length = xs.length + 1 := by simp; omega
  have hsz : eEnt.sz = 2 := rfl
  have hfl := fun ys : List Ent => flat_len eEnt ys
  simp only [hsz] at hfl
  refine Ctr_of Try.func43 Try.ntmps43 rfl rfl rfl ?_
  by_cases hin : i = xs.length
  · repeat' (first | (apply G_on; exact rfl; first | ((first | apply G1_assign | apply G1_move); exact rfl; exact rfl) | (apply G1_sliceLo (q := i); exact T.s73; exact rfl; exact rfl; exact hok; omega; exact rfl) | (apply G1_appendA (ys := [x]); exact T.s73; exact rfl; exact rfl; exact ho; exact hv; exact rfl; omega; (simp only [List.length_cons, List.length_nil]; omega); (simp only [List.length_cons, List.length_nil]; omega); exact rfl; exact rfl; exact rfl; intro p5 c5 w5 ha5) | (apply G1_len; exact T.s73; exact rfl; exact rfl) | ((first | apply G1_eql | apply G1_gtr); exact rfl; exact rfl; exact rfl) | (apply G1_add; exact rfl; exact rfl; omega; omega; exact rfl) | (apply G1_sub; exact rfl; exact rfl; omega; omega; exact rfl) | (apply G1_not_t; exact rfl; exact rfl) | (apply G1_not_f; exact rfl; exact rfl) | (apply G1_not_dec; exact rfl; exact rfl) | (apply G1_not; exact rfl; exact rfl)) | apply G_nil | apply Post_next | apply W_seq | apply W_region | (apply W_cond_true; exact rfl) | (apply W_cond_false; exact rfl) | (apply W_cond_dec; exact rfl; all_goals (intro h; try (exfalso; omega))) | (apply W_cond; exact rfl; all_goals intro h) | (apply G_off; exact rfl; exact rfl) | ((fail_if_success (apply G_on; exact rfl)); apply G_split_dec; exact rfl; exact rfl; all_goals (intro h; try (exfalso; omega))) | ((fail_if_success (apply G_on; exact rfl)); apply G_split; exact rfl; exact rfl; all_goals intro h) | refine W_drawn 1 [] [0,1,2,3,4,5,6,7,8] mixed (by decide +kernel) ?_ | apply W_skip | apply W_exit | apply W_ret | apply W_block | apply Post_then_ret | apply Post_block_ret | apply Post_then_exit | apply Post_block_exit | (apply Post_block_other; exact rfl) | apply Post_block_normal)
    refine Post_ret Try.results43 ⟨_, _, rfl, rfl, rfl⟩ ?_
    have e1 : xs.take i ++ [x] ++ xs.drop i = xs ++ [x] := by rw [List.take_of_length_le (by omega), List.drop_of_length_le (by omega)]; simp
    rw [e1]
    exact ⟨p5, c5, rfl, ha5⟩
  obtain ⟨gb, cur, rfl, hgb, hA, hcl, hcm, _, htk⟩ := ho.toBlk (ho.some_of_pos (by omega))
  have hgbl := hA.lt
  simp only [hsz] at hcl htk
  by_cases hroom : xs.length + 1 ≤ c
  · have hok1 : Okp (bx gb) (xs.length + 1) c := ⟨hroom, hok.cap, (fun h => by cases h), fun a ha _ => by injection ha with ha; rw [← ha]⟩
    have htl : (xs.drop i).flatMap eEnt.enc = (cur.drop (i * 2)).take ((xs.length - i) * 2) := by
      have e1 : cur.take (xs.length * 2) = (xs.take i).flatMap eEnt.enc ++ (xs.drop i).flatMap eEnt.enc := by rw [htk, ← List.flatMap_append, List.take_append_drop]
      have e2 : (cur.take (xs.length * 2)).drop (i * 2) = (xs.drop i).flatMap eEnt.enc := by rw [e1, List.drop_left' (by rw [hfl]; simp; omega)]
      rw [← e2, List.drop_take]; congr 1; omega
    repeat' (first | (apply G_on; exact rfl; first | ((first | apply G1_assign | apply G1_move); exact rfl; exact rfl) | (apply G1_sliceLo (q := i); exact T.s73; exact rfl; exact rfl; (first | exact hok | exact hok1); omega; exact rfl) | (apply G1_sliceLoJ (q := i + 1); exact T.s73; exact rfl; exact rfl; omega; exact hok1; omega; exact rfl) | (apply G1_sliceHiJ (q := xs.length + 1); exact T.s73; exact rfl; exact rfl; omega; omega; exact rfl) | (apply G1_cap; exact T.s73; exact rfl; exact rfl) | (apply G1_overlaps; exact Try.func59; exact rfl; exact rfl; exact insert_ent_ov0; exact insert_ent_ov; exact T.s73; exact rfl; exact rfl; exact hq; exact subp_bx (by omega); exact hV; exact hA; (rintro rfl; exact hne rfl); (intro e; rw [e] at hcl; simp at hcl; omega); exact rfl; exact rfl) | (apply G1_len; exact T.s73; exact rfl; exact rfl) | ((first | apply G1_eql | apply G1_gtr); exact rfl; exact rfl; exact rfl) | (apply G1_add; exact rfl; exact rfl; omega; omega; exact rfl) | (apply G1_sub; exact rfl; exact rfl; omega; omega; exact rfl) | (apply G1_not_t; exact rfl; exact rfl) | (apply G1_not_f; exact rfl; exact rfl) | (apply G1_not_dec; exact rfl; exact rfl) | (apply G1_not; exact rfl; exact rfl)) | apply G_nil | apply Post_next | apply W_seq | apply W_region | (apply W_cond_true; exact rfl) | (apply W_cond_false; exact rfl) | (apply W_cond_dec; exact rfl; all_goals (intro h; try (exfalso; omega))) | (apply W_cond; exact rfl; all_goals intro h) | (apply G_off; exact rfl; exact rfl) | ((fail_if_success (apply G_on; exact rfl)); apply G_split_dec; exact rfl; exact rfl; all_goals (intro h; try (exfalso; omega))) | ((fail_if_success (apply G_on; exact rfl)); apply G_split; exact rfl; exact rfl; all_goals intro h) | refine W_drawn 1 [] [0,1,2,3,4,5,6,7,8] mixed (by decide +kernel) ?_ | apply W_skip | apply W_exit | apply W_ret | apply W_block | apply Post_then_ret | apply Post_block_ret | apply Post_then_exit | apply Post_block_exit | (apply Post_block_other; exact rfl) | apply Post_block_normal)
    have hxl : (eEnt.enc x).length = 2 := rfl
    have hdl : ((xs.drop i).flatMap eEnt.enc).length = (xs.length - i) * 2 := by rw [hfl, List.length_drop]
    apply G_on; exact rfl
    apply G1_copyB (gb := gb) (o := (i + 1) * 2) (T := 72) (cur := cur) ((xs.drop i).flatMap eEnt.enc); exact T.s73; exact rfl; exact rfl
    · exact subp_bx (by omega)
    · exact hA
    · exact fun _ => ⟨gb, i * 2, subp_bx (by omega)⟩
    · rw [hdl]; congr 1; omega
    · intro j v hj
      rw [subp_bx (by omega)]
      rw [htl, List.getElem?_take] at hj
      split at hj
      · rw [List.getElem?_drop] at hj
        have := (hA.ext (w' := w.drew) (Ext.drew Ext.rfl')).cell hj
        simpa [adr] using this
      · cases hj
    · rw [hdl, hcl]; omega
    · exact flat_one _ _
    · decide
    · exact rfl
    · exact rfl
    · exact rfl
    intro w2 hA2 hg2 hz2
    have hV2 := (hV.ext (Ext.drew Ext.rfl')).grown hg2 (by intro e; injection e with e; exact hne (by rw [e]; rfl))
    have hv2 : Sl w2.heap eEnt q 1 [x] := (hv.ext (Ext.drew Ext.rfl')).grown hg2 (fun a ha _ e => by rw [hq] at ha; injection ha with ha; rw [← ha] at e; injection e with e; exact hne (by rw [e]; rfl))
    repeat' (first | (apply G_on; exact rfl; first | ((first | apply G1_assign | apply G1_move); exact rfl; exact rfl) | (apply G1_sliceLo (q := i); exact T.s73; exact rfl; exact rfl; (first | exact hok | exact hok1); omega; exact rfl) | (apply G1_len; exact T.s73; exact rfl; exact rfl) | ((first | apply G1_eql | apply G1_gtr); exact rfl; exact rfl; exact rfl) | (apply G1_add; exact rfl; exact rfl; omega; omega; exact rfl) | (apply G1_sub; exact rfl; exact rfl; omega; omega; exact rfl) | (apply G1_not_t; exact rfl; exact rfl) | (apply G1_not_f; exact rfl; exact rfl) | (apply G1_not_dec; exact rfl; exact rfl) | (apply G1_not; exact rfl; exact rfl)) | apply G_nil | apply Post_next | apply W_seq | apply W_region | (apply W_cond_true; exact rfl) | (apply W_cond_false; exact rfl) | (apply W_cond_dec; exact rfl; all_goals (intro h; try (exfalso; omega))) | (apply W_cond; exact rfl; all_goals intro h) | (apply G_off; exact rfl; exact rfl) | ((fail_if_success (apply G_on; exact rfl)); apply G_split_dec; exact rfl; exact rfl; all_goals (intro h; try (exfalso; omega))) | ((fail_if_success (apply G_on; exact rfl)); apply G_split; exact rfl; exact rfl; all_goals intro h) | refine W_drawn 1 [] [0,1,2,3,4,5,6,7,8] mixed (by decide +kernel) ?_ | apply W_skip | apply W_exit | apply W_ret | apply W_block | apply Post_then_ret | apply Post_block_ret | apply Post_then_exit | apply Post_block_exit | (apply Post_block_other; exact rfl) | apply Post_block_normal)
    apply G_on; exact rfl
    apply G1_copyB (gb := gb) (o := i * 2) (T := 72) (eEnt.enc x); exact T.s73; exact rfl; exact rfl
    · exact subp_bx (by omega)
    · exact hA2
    · exact fun _ => ⟨vb, 0, hq⟩
    · rw [hxl]; have : min 1 (xs.length + 1 - i) = 1 := by omega
      rw [this]
    · intro j v hj
      have := hv2.cell 0 x rfl j v hj
      simpa using this
    · rw [hxl]; simp only [List.length_append, List.length_take, List.length_drop, hdl, hcl]; omega
    · exact Enc.one _ _
    · decide
    · exact rfl
    · exact rfl
    · exact rfl
    intro w3 hA3 hg3 hz3
    repeat' (first | (apply G_on; exact rfl; first | ((first | apply G1_assign | apply G1_move); exact rfl; exact rfl) | (apply G1_len; exact T.s73; exact rfl; exact rfl) | ((first | apply G1_eql | apply G1_gtr); exact rfl; exact rfl; exact rfl) | (apply G1_add; exact rfl; exact rfl; omega; omega; exact rfl) | (apply G1_sub; exact rfl; exact rfl; omega; omega; exact rfl) | (apply G1_not_t; exact rfl; exact rfl) | (apply G1_not_f; exact rfl; exact rfl) | (apply G1_not_dec; exact rfl; exact rfl) | (apply G1_not; exact rfl; exact rfl)) | apply G_nil | apply Post_next | apply W_seq | apply W_region | (apply W_cond_true; exact rfl) | (apply W_cond_false; exact rfl) | (apply W_cond_dec; exact rfl; all_goals (intro h; try (exfalso; omega))) | (apply W_cond; exact rfl; all_goals intro h) | (apply G_off; exact rfl; exact rfl) | ((fail_if_success (apply G_on; exact rfl)); apply G_split_dec; exact rfl; exact rfl; all_goals (intro h; try (exfalso; omega))) | ((fail_if_success (apply G_on; exact rfl)); apply G_split; exact rfl; exact rfl; all_goals intro h) | refine W_drawn 1 [] [0,1,2,3,4,5,6,7,8] mixed (by decide +kernel) ?_ | apply W_skip | apply W_exit | apply W_ret | apply W_block | apply Post_then_ret | apply Post_block_ret | apply Post_then_exit | apply Post_block_exit | (apply Post_block_other; exact rfl) | apply Post_block_normal)
    refine Post_ret Try.results43 ⟨_, _, rfl, rfl, rfl⟩ ?_
    have hfit : i * 2 + (eEnt.enc x).length + ((xs.drop i).flatMap eEnt.enc).length ≤ cur.length := by rw [hxl, hdl, hcl]; omega
    have e0 : (i + 1) * 2 = i * 2 + (eEnt.enc x).length := by rw [hxl]; omega
    rw [e0] at hA3
    rw [put2_down cur _ _ _ hfit] at hA3
    refine ⟨bx gb, c, by rw [hlen1]; rfl, Own.ofBlk hgb hA3 ?_ hcm (by rw [hlen1]; exact hroom) (insert_cells hi ?_), ?_, by unfold NewP; exact .inl rfl, by have e : w.drew.heap.size = w.heap.size := rfl; omega⟩
    · simp only [List.length_append, List.length_take, List.length_drop, hdl, hcl, hxl, hsz]; omega
    · rw [← flat_take eEnt xs i hi, ← htk, List.take_take, hsz]; congr 1; omega
    · exact grown_trans (p := bx gb) (p' := bx gb) (ext_grown (Ext.drew Ext.rfl') hg2) (by unfold NewP; exact .inl rfl) hg3
  · repeat' (first | (apply G_on; exact rfl; first | ((first | apply G1_assign | apply G1_move); exact rfl; exact rfl) | (apply G1_sliceLo (q := i); exact T.s73; exact rfl; exact rfl; exact hok; omega; exact rfl) | (apply G1_sliceHiJ (q := i); exact T.s73; exact rfl; exact rfl; exact rfl; omega; exact rfl) | (apply G1_cap; exact T.s73; exact rfl; exact rfl) | (apply G1_len; exact T.s73; exact rfl; exact rfl) | ((first | apply G1_eql | apply G1_gtr); exact rfl; exact rfl; exact rfl) | (apply G1_add; exact rfl; exact rfl; omega; omega; exact rfl) | (apply G1_sub; exact rfl; exact rfl; omega; omega; exact rfl) | (apply G1_not_t; exact rfl; exact rfl) | (apply G1_not_f; exact rfl; exact rfl) | (apply G1_not_dec; exact rfl; exact rfl) | (apply G1_not; exact rfl; exact rfl)) | apply G_nil | apply Post_next | apply W_seq | apply W_region | (apply W_cond_true; exact rfl) | (apply W_cond_false; exact rfl) | (apply W_cond_dec; exact rfl; all_goals (intro h; try (exfalso; omega))) | (apply W_cond; exact rfl; all_goals intro h) | (apply G_off; exact rfl; exact rfl) | ((fail_if_success (apply G_on; exact rfl)); apply G_split_dec; exact rfl; exact rfl; all_goals (intro h; try (exfalso; omega))) | ((fail_if_success (apply G_on; exact rfl)); apply G_split; exact rfl; exact rfl; all_goals intro h) | refine W_drawn 1 [] [0,1,2,3,4,5,6,7,8] mixed (by decide +kernel) ?_ | apply W_skip | apply W_exit | apply W_ret | apply W_block | apply Post_then_ret | apply Post_block_ret | apply Post_then_exit | apply Post_block_exit | (apply Post_block_other; exact rfl) | apply Post_block_normal)
    apply G_on; exact rfl
    have hti : (xs.take i).length = i := by simp; omega
    apply G1_appendZ (e := eEnt) (xs := xs.take i) (kk := xs.length + 1 - i) (m := xs.length + 1); exact T.s73; exact Try.underlying3; exact rfl; exact rfl
    · omega
    · exact ho.sl.take i
    · omega
    · omega
    · exact rfl
    · omega
    · omega
    · rw [hti]; omega
    · rw [hti]; omega
    · exact rfl
    · exact rfl
    intro c2 w2 cur2 hA2 hcl2 htk2 hc2 hcm2 hx2 hz2
    rw [hti] at htk2 hc2
    have hgn : gb ≠ w.heap.size := by omega
    have hok2 : Okp (bx w.heap.size) (xs.length + 1) c2 := ⟨by omega, hcm2, (fun h => by cases h), fun a ha _ => by injection ha with ha; rw [← ha]⟩
    have hxl : (eEnt.enc x).length = 2 := rfl
    have hdl : ((xs.drop i).flatMap eEnt.enc).length = (xs.length - i) * 2 := by rw [hfl, List.length_drop]
    repeat' (first | (apply G_on; exact rfl; first | ((first | apply G1_assign | apply G1_move); exact rfl; exact rfl) | (apply G1_sliceLo (q := i); exact T.s73; exact rfl; exact rfl; exact hok2; omega; exact rfl) | (apply G1_len; exact T.s73; exact rfl; exact rfl) | ((first | apply G1_eql | apply G1_gtr); exact rfl; exact rfl; exact rfl) | (apply G1_add; exact rfl; exact rfl; omega; omega; exact rfl) | (apply G1_sub; exact rfl; exact rfl; omega; omega; exact rfl) | (apply G1_not_t; exact rfl; exact rfl) | (apply G1_not_f; exact rfl; exact rfl) | (apply G1_not_dec; exact rfl; exact rfl) | (apply G1_not; exact rfl; exact rfl)) | apply G_nil | apply Post_next | apply W_seq | apply W_region | (apply W_cond_true; exact rfl) | (apply W_cond_false; exact rfl) | (apply W_cond_dec; exact rfl; all_goals (intro h; try (exfalso; omega))) | (apply W_cond; exact rfl; all_goals intro h) | (apply G_off; exact rfl; exact rfl) | ((fail_if_success (apply G_on; exact rfl)); apply G_split_dec; exact rfl; exact rfl; all_goals (intro h; try (exfalso; omega))) | ((fail_if_success (apply G_on; exact rfl)); apply G_split; exact rfl; exact rfl; all_goals intro h) | refine W_drawn 1 [] [0,1,2,3,4,5,6,7,8] mixed (by decide +kernel) ?_ | apply W_skip | apply W_exit | apply W_ret | apply W_block | apply Post_then_ret | apply Post_block_ret | apply Post_then_exit | apply Post_block_exit | (apply Post_block_other; exact rfl) | apply Post_block_normal)
    apply G_on; exact rfl
    have hv2 := hv.ext hx2
    apply G1_copyB (gb := w.heap.size) (o := i * 2) (T := 72) (eEnt.enc x); exact T.s73; exact rfl; exact rfl
    · exact subp_bx (by omega)
    · exact hA2
    · exact fun _ => ⟨vb, 0, hq⟩
    · rw [hxl]; have : min 1 (xs.length + 1 - i) = 1 := by omega
      rw [this]
    · intro j v hj
      have := hv2.cell 0 x rfl j v hj
      simpa using this
    · rw [hxl, hcl2]; omega
    · exact Enc.one _ _
    · decide
    · exact rfl
    · exact rfl
    · exact rfl
    intro w3 hA3 hg3 hz3
    have ho3 := (ho.ext hx2).kept hg3 (fun a ha e => by injection ha with ha; rw [← ha] at e; injection e with e; exact hgn e.symm)
    have hs3 : Sl w3.drew.heap eEnt (subp (bx gb) c i 2) (c - i) (xs.drop i) := (ho3.ext (Ext.drew Ext.rfl')).sl.drop (by omega)
    repeat' (first | (apply G_on; exact rfl; first | ((first | apply G1_assign | apply G1_move); exact rfl; exact rfl) | (apply G1_sliceLo (q := i); exact T.s73; exact rfl; exact rfl; exact hok; omega; exact rfl) | (apply G1_sliceLoJ (q := i + 1); exact T.s73; exact rfl; exact rfl; omega; exact hok2; omega; exact rfl) | (apply G1_len; exact T.s73; exact rfl; exact rfl) | ((first | apply G1_eql | apply G1_gtr); exact rfl; exact rfl; exact rfl) | (apply G1_add; exact rfl; exact rfl; omega; omega; exact rfl) | (apply G1_sub; exact rfl; exact rfl; omega; omega; exact rfl) | (apply G1_not_t; exact rfl; exact rfl) | (apply G1_not_f; exact rfl; exact rfl) | (apply G1_not_dec; exact rfl; exact rfl) | (apply G1_not; exact rfl; exact rfl)) | apply G_nil | apply Post_next | apply W_seq | apply W_region | (apply W_cond_true; exact rfl) | (apply W_cond_false; exact rfl) | (apply W_cond_dec; exact rfl; all_goals (intro h; try (exfalso; omega))) | (apply W_cond; exact rfl; all_goals intro h) | (apply G_off; exact rfl; exact rfl) | ((fail_if_success (apply G_on; exact rfl)); apply G_split_dec; exact rfl; exact rfl; all_goals (intro h; try (exfalso; omega))) | ((fail_if_success (apply G_on; exact rfl)); apply G_split; exact rfl; exact rfl; all_goals intro h) | refine W_drawn 1 [] [0,1,2,3,4,5,6,7,8] mixed (by decide +kernel) ?_ | apply W_skip | apply W_exit | apply W_ret | apply W_block | apply Post_then_ret | apply Post_block_ret | apply Post_then_exit | apply Post_block_exit | (apply Post_block_other; exact rfl) | apply Post_block_normal)
    apply G_on; exact rfl
    apply G1_copyB (gb := w.heap.size) (o := (i + 1) * 2) (T := 72) ((xs.drop i).flatMap eEnt.enc); exact T.s73; exact rfl; exact rfl
    · exact subp_bx (by omega)
    · exact hA3.ext (Ext.drew Ext.rfl')
    · exact fun _ => ⟨gb, i * 2, subp_bx (by omega)⟩
    · rw [hdl]; congr 1; omega
    · exact fun j v hj => hs3.flat j v hj
    · simp only [List.length_append, List.length_take, List.length_drop, hdl, hcl2, hxl]; omega
    · exact flat_one _ _
    · decide
    · exact rfl
    · exact rfl
    · exact rfl
    intro w4 hA4 hg4 hz4
    repeat' (first | (apply G_on; exact rfl; first | ((first | apply G1_assign | apply G1_move); exact rfl; exact rfl) | (apply G1_len; exact T.s73; exact rfl; exact rfl) | ((first | apply G1_eql | apply G1_gtr); exact rfl; exact rfl; exact rfl) | (apply G1_add; exact rfl; exact rfl; omega; omega; exact rfl) | (apply G1_sub; exact rfl; exact rfl; omega; omega; exact rfl) | (apply G1_not_t; exact rfl; exact rfl) | (apply G1_not_f; exact rfl; exact rfl) | (apply G1_not_dec; exact rfl; exact rfl) | (apply G1_not; exact rfl; exact rfl)) | apply G_nil | apply Post_next | apply W_seq | apply W_region | (apply W_cond_true; exact rfl) | (apply W_cond_false; exact rfl) | (apply W_cond_dec; exact rfl; all_goals (intro h; try (exfalso; omega))) | (apply W_cond; exact rfl; all_goals intro h) | (apply G_off; exact rfl; exact rfl) | ((fail_if_success (apply G_on; exact rfl)); apply G_split_dec; exact rfl; exact rfl; all_goals (intro h; try (exfalso; omega))) | ((fail_if_success (apply G_on; exact rfl)); apply G_split; exact rfl; exact rfl; all_goals intro h) | refine W_drawn 1 [] [0,1,2,3,4,5,6,7,8] mixed (by decide +kernel) ?_ | apply W_skip | apply W_exit | apply W_ret | apply W_block | apply Post_then_ret | apply Post_block_ret | apply Post_then_exit | apply Post_block_exit | (apply Post_block_other; exact rfl) | apply Post_block_normal)
    refine Post_ret Try.results43 ⟨_, _, rfl, rfl, rfl⟩ ?_
    have hfit : i * 2 + (eEnt.enc x).length + ((xs.drop i).flatMap eEnt.enc).length ≤ cur2.length := by rw [hxl, hdl, hcl2]; omega
    have e0 : (i + 1) * 2 = i * 2 + (eEnt.enc x).length := by rw [hxl]; omega
    rw [e0] at hA4
    rw [put2_up cur2 _ _ _ hfit] at hA4
    have hx3 : Ext w w3 := hx2.own hg3 (fun k hk => by injection hk with hk; omega)
    have hx4 : Ext w w4 := hx3.drew.own hg4 (fun k hk => by injection hk with hk; omega)
    refine ⟨bx w.heap.size, c2, by rw [hlen1]; rfl, Own.ofBlk hB hA4 ?_ hcm2 (by rw [hlen1]; omega) (insert_cells hi ?_), hx4.grown _, by unfold NewP; exact .inr (fun k hk => by simp [blk] at hk; omega), by have := hx4.size; omega⟩
    · simp only [List.length_append, List.length_take, List.length_drop, hdl, hcl2, hxl, hsz]; omega
    · exact htk2
theorem insert_row_ov0 : Extern.findNext Try.f61 = none := by kernel_rfl
theorem insert_row_ov : Extern.find Try.f61 = some (Extern.SlicesOverlaps.overlaps #[65, 65] #[4]) := by kernel_rfl
set_option maxHeartbeats 1000000 in
theorem insert_row {p q : Option Addr} {c B i vb : Nat} {xs : List Blok} {x : Blok} {w : World} (ho : Own w B 73 eBlok p c xs) (hB : B ≤ w.heap.size) (hi : i ≤ xs.length) (hq : q = bx vb) (hv : Sl w.heap eBlok q 1 [x]) (hV : Blk w.heap vb 73 (eBlok.enc x)) (hne : blk p ≠ some vb) (hlen : xs.length ≤ 1000000) :
    Ctr Try.prog 44 [.slice p xs.length c, .int .i64 (i : Int), .slice q 1 1] w (fun v w' => ∃ p' c', v = .slice p' (xs.take i ++ [x] ++ xs.drop i).length c' ∧ App w w' B 73 eBlok p p' c' (xs.take i ++ [x] ++ xs.drop i)) := by
  have hok := ho.sl.ok
  have hcap := hok.cap
  have hle := hok.le
  simp only [maxLen] at hcap
  have hlen1 : (xs.take i ++ [x] ++ xs.drop i).length = xs.length + 1 := by simp; omega
  have hsz : eBlok.sz = 1 := rfl
  have hfl := fun ys : List Blok => flat_len eBlok ys
  simp only [hsz] at hfl
  refine Ctr_of Try.func44 Try.ntmps44 rfl rfl rfl ?_
  by_cases hin : i = xs.length
  · repeat' (first | (apply G_on; exact rfl; first | ((first | apply G1_assign | apply G1_move); exact rfl; exact rfl) | (apply G1_sliceLo (q := i); exact T.s65; exact rfl; exact rfl; exact hok; omega; exact rfl) | (apply G1_appendA (ys := [x]); exact T.s65; exact rfl; exact rfl; exact ho; exact hv; exact rfl; omega; (simp only [List.length_cons, List.length_nil]; omega); (simp only [List.length_cons, List.length_nil]; omega); exact rfl; exact rfl; exact rfl; intro p5 c5 w5 ha5) | (apply G1_len; exact T.s65; exact rfl; exact rfl) | ((first | apply G1_eql | apply G1_gtr); exact rfl; exact rfl; exact rfl) | (apply G1_add; exact rfl; exact rfl; omega; omega; exact rfl) | (apply G1_sub; exact rfl; exact rfl; omega; omega; exact rfl) | (apply G1_not_t; exact rfl; exact rfl) | (apply G1_not_f; exact rfl; exact rfl) | (apply G1_not_dec; exact rfl; exact rfl) | (apply G1_not; exact rfl; exact rfl)) | apply G_nil | apply Post_next | apply W_seq | apply W_region | (apply W_cond_true; exact rfl) | (apply W_cond_false; exact rfl) | (apply W_cond_dec; exact rfl; all_goals (intro h; try (exfalso; omega))) | (apply W_cond; exact rfl; all_goals intro h) | (apply G_off; exact rfl; exact rfl) | ((fail_if_success (apply G_on; exact rfl)); apply G_split_dec; exact rfl; exact rfl; all_goals (intro h; try (exfalso; omega))) | ((fail_if_success (apply G_on; exact rfl)); apply G_split; exact rfl; exact rfl; all_goals intro h) | refine W_drawn 1 [] [0,1,2,3,4,5,6,7,8] mixed (by decide +kernel) ?_ | apply W_skip | apply W_exit | apply W_ret | apply W_block | apply Post_then_ret | apply Post_block_ret | apply Post_then_exit | apply Post_block_exit | (apply Post_block_other; exact rfl) | apply Post_block_normal)
    refine Post_ret Try.results44 ⟨_, _, rfl, rfl, rfl⟩ ?_
    have e1 : xs.take i ++ [x] ++ xs.drop i = xs ++ [x] := by rw [List.take_of_length_le (by omega), List.drop_of_length_le (by omega)]; simp
    rw [e1]
    exact ⟨p5, c5, rfl, ha5⟩
  obtain ⟨gb, cur, rfl, hgb, hA, hcl, hcm, _, htk⟩ := ho.toBlk (ho.some_of_pos (by omega))
  have hgbl := hA.lt
  simp only [hsz] at hcl htk
  by_cases hroom : xs.length + 1 ≤ c
  · have hok1 : Okp (bx gb) (xs.length + 1) c := ⟨hroom, hok.cap, (fun h => by cases h), fun a ha _ => by injection ha with ha; rw [← ha]⟩
    have htl : (xs.drop i).flatMap eBlok.enc = (cur.drop (i * 1)).take ((xs.length - i) * 1) := by
      have e1 : cur.take (xs.length * 1) = (xs.take i).flatMap eBlok.enc ++ (xs.drop i).flatMap eBlok.enc := by rw [htk, ← List.flatMap_append, List.take_append_drop]
      have e2 : (cur.take (xs.length * 1)).drop (i * 1) = (xs.drop i).flatMap eBlok.enc := by rw [e1, List.drop_left' (by rw [hfl]; simp; omega)]
      rw [← e2, List.drop_take]; congr 1; omega
    repeat' (first | (apply G_on; exact rfl; first | ((first | apply G1_assign | apply G1_move); exact rfl; exact rfl) | (apply G1_sliceLo (q := i); exact T.s65; exact rfl; exact rfl; (first | exact hok | exact hok1); omega; exact rfl) | (apply G1_sliceLoJ (q := i + 1); exact T.s65; exact rfl; exact rfl; omega; exact hok1; omega; exact rfl) | (apply G1_sliceHiJ (q := xs.length + 1); exact T.s65; exact rfl; exact rfl; omega; omega; exact rfl) | (apply G1_cap; exact T.s65; exact rfl; exact rfl) | (apply G1_overlaps; exact Try.func61; exact rfl; exact rfl; exact insert_row_ov0; exact insert_row_ov; exact T.s65; exact rfl; exact rfl; exact hq; exact subp_bx (by omega); exact hV; exact hA; (rintro rfl; exact hne rfl); (intro e; rw [e] at hcl; simp at hcl; omega); exact rfl; exact rfl) | (apply G1_len; exact T.s65; exact rfl; exact rfl) | ((first | apply G1_eql | apply G1_gtr); exact rfl; exact rfl; exact rfl) | (apply G1_add; exact rfl; exact rfl; omega; omega; exact rfl) | (apply G1_sub; exact rfl; exact rfl; omega; omega; exact rfl) | (apply G1_not_t; exact rfl; exact rfl) | (apply G1_not_f; exact rfl; exact rfl) | (apply G1_not_dec; exact rfl; exact rfl) | (apply G1_not; exact rfl; exact rfl)) | apply G_nil | apply Post_next | apply W_seq | apply W_region | (apply W_cond_true; exact rfl) | (apply W_cond_false; exact rfl) | (apply W_cond_dec; exact rfl; all_goals (intro h; try (exfalso; omega))) | (apply W_cond; exact rfl; all_goals intro h) | (apply G_off; exact rfl; exact rfl) | ((fail_if_success (apply G_on; exact rfl)); apply G_split_dec; exact rfl; exact rfl; all_goals (intro h; try (exfalso; omega))) | ((fail_if_success (apply G_on; exact rfl)); apply G_split; exact rfl; exact rfl; all_goals intro h) | refine W_drawn 1 [] [0,1,2,3,4,5,6,7,8] mixed (by decide +kernel) ?_ | apply W_skip | apply W_exit | apply W_ret | apply W_block | apply Post_then_ret | apply Post_block_ret | apply Post_then_exit | apply Post_block_exit | (apply Post_block_other; exact rfl) | apply Post_block_normal)
    have hxl : (eBlok.enc x).length = 1 := rfl
    have hdl : ((xs.drop i).flatMap eBlok.enc).length = (xs.length - i) * 1 := by rw [hfl, List.length_drop]
    apply G_on; exact rfl
    apply G1_copyB (gb := gb) (o := (i + 1) * 1) (T := 73) (cur := cur) ((xs.drop i).flatMap eBlok.enc); exact T.s65; exact rfl; exact rfl
    · exact subp_bx (by omega)
    · exact hA
    · exact fun _ => ⟨gb, i * 1, subp_bx (by omega)⟩
    · rw [hdl]; congr 1; omega
    · intro j v hj
      rw [subp_bx (by omega)]
      rw [htl, List.getElem?_take] at hj
      split at hj
      · rw [List.getElem?_drop] at hj
        have := (hA.ext (w' := w.drew) (Ext.drew Ext.rfl')).cell hj
        simpa [adr] using this
      · cases hj
    · rw [hdl, hcl]; omega
    · exact flat_one _ _
    · decide
    · exact rfl
    · exact rfl
    · exact rfl
    intro w2 hA2 hg2 hz2
    have hV2 := (hV.ext (Ext.drew Ext.rfl')).grown hg2 (by intro e; injection e with e; exact hne (by rw [e]; rfl))
    have hv2 : Sl w2.heap eBlok q 1 [x] := (hv.ext (Ext.drew Ext.rfl')).grown hg2 (fun a ha _ e => by rw [hq] at ha; injection ha with ha; rw [← ha] at e; injection e with e; exact hne (by rw [e]; rfl))
    repeat' (first | (apply G_on; exact rfl; first | ((first | apply G1_assign | apply G1_move); exact rfl; exact rfl) | (apply G1_sliceLo (q := i); exact T.s65; exact rfl; exact rfl; (first | exact hok | exact hok1); omega; exact rfl) | (apply G1_len; exact T.s65; exact rfl; exact rfl) | ((first | apply G1_eql | apply G1_gtr); exact rfl; exact rfl; exact rfl) | (apply G1_add; exact rfl; exact rfl; omega; omega; exact rfl) | (apply G1_sub; exact rfl; exact rfl; omega; omega; exact rfl) | (apply G1_not_t; exact rfl; exact rfl) | (apply G1_not_f; exact rfl; exact rfl) | (apply G1_not_dec; exact rfl; exact rfl) | (apply G1_not; exact rfl; exact rfl)) | apply G_nil | apply Post_next | apply W_seq | apply W_region | (apply W_cond_true; exact rfl) | (apply W_cond_false; exact rfl) | (apply W_cond_dec; exact rfl; all_goals (intro h; try (exfalso; omega))) | (apply W_cond; exact rfl; all_goals intro h) | (apply G_off; exact rfl; exact rfl) | ((fail_if_success (apply G_on; exact rfl)); apply G_split_dec; exact rfl; exact rfl; all_goals (intro h; try (exfalso; omega))) | ((fail_if_success (apply G_on; exact rfl)); apply G_split; exact rfl; exact rfl; all_goals intro h) | refine W_drawn 1 [] [0,1,2,3,4,5,6,7,8] mixed (by decide +kernel) ?_ | apply W_skip | apply W_exit | apply W_ret | apply W_block | apply Post_then_ret | apply Post_block_ret | apply Post_then_exit | apply Post_block_exit | (apply Post_block_other; exact rfl) | apply Post_block_normal)
    apply G_on; exact rfl
    apply G1_copyB (gb := gb) (o := i * 1) (T := 73) (eBlok.enc x); exact T.s65; exact rfl; exact rfl
    · exact subp_bx (by omega)
    · exact hA2
    · exact fun _ => ⟨vb, 0, hq⟩
    · rw [hxl]; have : min 1 (xs.length + 1 - i) = 1 := by omega
      rw [this]
    · intro j v hj
      have := hv2.cell 0 x rfl j v hj
      simpa using this
    · rw [hxl]; simp only [List.length_append, List.length_take, List.length_drop, hdl, hcl]; omega
    · exact Enc.one _ _
    · decide
    · exact rfl
    · exact rfl
    · exact rfl
    intro w3 hA3 hg3 hz3
    repeat' (first | (apply G_on; exact rfl; first | ((first | apply G1_assign | apply G1_move); exact rfl; exact rfl) | (apply G1_len; exact T.s65; exact rfl; exact rfl) | ((first | apply G1_eql | apply G1_gtr); exact rfl; exact rfl; exact rfl) | (apply G1_add; exact rfl; exact rfl; omega; omega; exact rfl) | (apply G1_sub; exact rfl; exact rfl; omega; omega; exact rfl) | (apply G1_not_t; exact rfl; exact rfl) | (apply G1_not_f; exact rfl; exact rfl) | (apply G1_not_dec; exact rfl; exact rfl) | (apply G1_not; exact rfl; exact rfl)) | apply G_nil | apply Post_next | apply W_seq | apply W_region | (apply W_cond_true; exact rfl) | (apply W_cond_false; exact rfl) | (apply W_cond_dec; exact rfl; all_goals (intro h; try (exfalso; omega))) | (apply W_cond; exact rfl; all_goals intro h) | (apply G_off; exact rfl; exact rfl) | ((fail_if_success (apply G_on; exact rfl)); apply G_split_dec; exact rfl; exact rfl; all_goals (intro h; try (exfalso; omega))) | ((fail_if_success (apply G_on; exact rfl)); apply G_split; exact rfl; exact rfl; all_goals intro h) | refine W_drawn 1 [] [0,1,2,3,4,5,6,7,8] mixed (by decide +kernel) ?_ | apply W_skip | apply W_exit | apply W_ret | apply W_block | apply Post_then_ret | apply Post_block_ret | apply Post_then_exit | apply Post_block_exit | (apply Post_block_other; exact rfl) | apply Post_block_normal)
    refine Post_ret Try.results44 ⟨_, _, rfl, rfl, rfl⟩ ?_
    have hfit : i * 1 + (eBlok.enc x).length + ((xs.drop i).flatMap eBlok.enc).length ≤ cur.length := by rw [hxl, hdl, hcl]; omega
    have e0 : (i + 1) * 1 = i * 1 + (eBlok.enc x).length := by rw [hxl]; omega
    rw [e0] at hA3
    rw [put2_down cur _ _ _ hfit] at hA3
    refine ⟨bx gb, c, by rw [hlen1]; rfl, Own.ofBlk hgb hA3 ?_ hcm (by rw [hlen1]; exact hroom) (insert_cells hi ?_), ?_, by unfold NewP; exact .inl rfl, by have e : w.drew.heap.size = w.heap.size := rfl; omega⟩
    · simp only [List.length_append, List.length_take, List.length_drop, hdl, hcl, hxl, hsz]; omega
    · rw [← flat_take eBlok xs i hi, ← htk, List.take_take, hsz]; congr 1; omega
    · exact grown_trans (p := bx gb) (p' := bx gb) (ext_grown (Ext.drew Ext.rfl') hg2) (by unfold NewP; exact .inl rfl) hg3
  · repeat' (first | (apply G_on; exact rfl; first | ((first | apply G1_assign | apply G1_move); exact rfl; exact rfl) | (apply G1_sliceLo (q := i); exact T.s65; exact rfl; exact rfl; exact hok; omega; exact rfl) | (apply G1_sliceHiJ (q := i); exact T.s65; exact rfl; exact rfl; exact rfl; omega; exact rfl) | (apply G1_cap; exact T.s65; exact rfl; exact rfl) | (apply G1_len; exact T.s65; exact rfl; exact rfl) | ((first | apply G1_eql | apply G1_gtr); exact rfl; exact rfl; exact rfl) | (apply G1_add; exact rfl; exact rfl; omega; omega; exact rfl) | (apply G1_sub; exact rfl; exact rfl; omega; omega; exact rfl) | (apply G1_not_t; exact rfl; exact rfl) | (apply G1_not_f; exact rfl; exact rfl) | (apply G1_not_dec; exact rfl; exact rfl) | (apply G1_not; exact rfl; exact rfl)) | apply G_nil | apply Post_next | apply W_seq | apply W_region | (apply W_cond_true; exact rfl) | (apply W_cond_false; exact rfl) | (apply W_cond_dec; exact rfl; all_goals (intro h; try (exfalso; omega))) | (apply W_cond; exact rfl; all_goals intro h) | (apply G_off; exact rfl; exact rfl) | ((fail_if_success (apply G_on; exact rfl)); apply G_split_dec; exact rfl; exact rfl; all_goals (intro h; try (exfalso; omega))) | ((fail_if_success (apply G_on; exact rfl)); apply G_split; exact rfl; exact rfl; all_goals intro h) | refine W_drawn 1 [] [0,1,2,3,4,5,6,7,8] mixed (by decide +kernel) ?_ | apply W_skip | apply W_exit | apply W_ret | apply W_block | apply Post_then_ret | apply Post_block_ret | apply Post_then_exit | apply Post_block_exit | (apply Post_block_other; exact rfl) | apply Post_block_normal)
    apply G_on; exact rfl
    have hti : (xs.take i).length = i := by simp; omega
    apply G1_appendZ (e := eBlok) (xs := xs.take i) (kk := xs.length + 1 - i) (m := xs.length + 1); exact T.s65; exact Try.underlying3; exact rfl; exact rfl
    · omega
    · exact ho.sl.take i
    · omega
    · omega
    · exact rfl
    · omega
    · omega
    · rw [hti]; omega
    · rw [hti]; omega
    · exact rfl
    · exact rfl
    intro c2 w2 cur2 hA2 hcl2 htk2 hc2 hcm2 hx2 hz2
    rw [hti] at htk2 hc2
    have hgn : gb ≠ w.heap.size := by omega
    have hok2 : Okp (bx w.heap.size) (xs.length + 1) c2 := ⟨by omega, hcm2, (fun h => by cases h), fun a ha _ => by injection ha with ha; rw [← ha]⟩
    have hxl : (eBlok.enc x).length = 1 := rfl
    have hdl : ((xs.drop i).flatMap eBlok.enc).length = (xs.length - i) * 1 := by rw [hfl, List.length_drop]
    repeat' (first | (apply G_on; exact rfl; first | ((first | apply G1_assign | apply G1_move); exact rfl; exact rfl) | (apply G1_sliceLo (q := i); exact T.s65; exact rfl; exact rfl; exact hok2; omega; exact rfl) | (apply G1_len; exact T.s65; exact rfl; exact rfl) | ((first | apply G1_eql | apply G1_gtr); exact rfl; exact rfl; exact rfl) | (apply G1_add; exact rfl; exact rfl; omega; omega; exact rfl) | (apply G1_sub; exact rfl; exact rfl; omega; omega; exact rfl) | (apply G1_not_t; exact rfl; exact rfl) | (apply G1_not_f; exact rfl; exact rfl) | (apply G1_not_dec; exact rfl; exact rfl) | (apply G1_not; exact rfl; exact rfl)) | apply G_nil | apply Post_next | apply W_seq | apply W_region | (apply W_cond_true; exact rfl) | (apply W_cond_false; exact rfl) | (apply W_cond_dec; exact rfl; all_goals (intro h; try (exfalso; omega))) | (apply W_cond; exact rfl; all_goals intro h) | (apply G_off; exact rfl; exact rfl) | ((fail_if_success (apply G_on; exact rfl)); apply G_split_dec; exact rfl; exact rfl; all_goals (intro h; try (exfalso; omega))) | ((fail_if_success (apply G_on; exact rfl)); apply G_split; exact rfl; exact rfl; all_goals intro h) | refine W_drawn 1 [] [0,1,2,3,4,5,6,7,8] mixed (by decide +kernel) ?_ | apply W_skip | apply W_exit | apply W_ret | apply W_block | apply Post_then_ret | apply Post_block_ret | apply Post_then_exit | apply Post_block_exit | (apply Post_block_other; exact rfl) | apply Post_block_normal)
    apply G_on; exact rfl
    have hv2 := hv.ext hx2
    apply G1_copyB (gb := w.heap.size) (o := i * 1) (T := 73) (eBlok.enc x); exact T.s65; exact rfl; exact rfl
    · exact subp_bx (by omega)
    · exact hA2
    · exact fun _ => ⟨vb, 0, hq⟩
    · rw [hxl]; have : min 1 (xs.length + 1 - i) = 1 := by omega
      rw [this]
    · intro j v hj
      have := hv2.cell 0 x rfl j v hj
      simpa using this
    · rw [hxl, hcl2]; omega
    · exact Enc.one _ _
    · decide
    · exact rfl
    · exact rfl
    · exact rfl
    intro w3 hA3 hg3 hz3
    have ho3 := (ho.ext hx2).kept hg3 (fun a ha e => by injection ha with ha; rw [← ha] at e; injection e with e; exact hgn e.symm)
    have hs3 : Sl w3.drew.heap eBlok (subp (bx gb) c i 1) (c - i) (xs.drop i) := (ho3.ext (Ext.drew Ext.rfl')).sl.drop (by omega)
    repeat' (first | (apply G_on; exact rfl; first | ((first | apply G1_assign | apply G1_move); exact rfl; exact rfl) | (apply G1_sliceLo (q := i); exact T.s65; exact rfl; exact rfl; exact hok; omega; exact rfl) | (apply G1_sliceLoJ (q := i + 1); exact T.s65; exact rfl; exact rfl; omega; exact hok2; omega; exact rfl) | (apply G1_len; exact T.s65; exact rfl; exact rfl) | ((first | apply G1_eql | apply G1_gtr); exact rfl; exact rfl; exact rfl) | (apply G1_add; exact rfl; exact rfl; omega; omega; exact rfl) | (apply G1_sub; exact rfl; exact rfl; omega; omega; exact rfl) | (apply G1_not_t; exact rfl; exact rfl) | (apply G1_not_f; exact rfl; exact rfl) | (apply G1_not_dec; exact rfl; exact rfl) | (apply G1_not; exact rfl; exact rfl)) | apply G_nil | apply Post_next | apply W_seq | apply W_region | (apply W_cond_true; exact rfl) | (apply W_cond_false; exact rfl) | (apply W_cond_dec; exact rfl; all_goals (intro h; try (exfalso; omega))) | (apply W_cond; exact rfl; all_goals intro h) | (apply G_off; exact rfl; exact rfl) | ((fail_if_success (apply G_on; exact rfl)); apply G_split_dec; exact rfl; exact rfl; all_goals (intro h; try (exfalso; omega))) | ((fail_if_success (apply G_on; exact rfl)); apply G_split; exact rfl; exact rfl; all_goals intro h) | refine W_drawn 1 [] [0,1,2,3,4,5,6,7,8] mixed (by decide +kernel) ?_ | apply W_skip | apply W_exit | apply W_ret | apply W_block | apply Post_then_ret | apply Post_block_ret | apply Post_then_exit | apply Post_block_exit | (apply Post_block_other; exact rfl) | apply Post_block_normal)
    apply G_on; exact rfl
    apply G1_copyB (gb := w.heap.size) (o := (i + 1) * 1) (T := 73) ((xs.drop i).flatMap eBlok.enc); exact T.s65; exact rfl; exact rfl
    · exact subp_bx (by omega)
    · exact hA3.ext (Ext.drew Ext.rfl')
    · exact fun _ => ⟨gb, i * 1, subp_bx (by omega)⟩
    · rw [hdl]; congr 1; omega
    · exact fun j v hj => hs3.flat j v hj
    · simp only [List.length_append, List.length_take, List.length_drop, hdl, hcl2, hxl]; omega
    · exact flat_one _ _
    · decide
    · exact rfl
    · exact rfl
    · exact rfl
    intro w4 hA4 hg4 hz4
    repeat' (first | (apply G_on; exact rfl; first | ((first | apply G1_assign | apply G1_move); exact rfl; exact rfl) | (apply G1_len; exact T.s65; exact rfl; exact rfl) | ((first | apply G1_eql | apply G1_gtr); exact rfl; exact rfl; exact rfl) | (apply G1_add; exact rfl; exact rfl; omega; omega; exact rfl) | (apply G1_sub; exact rfl; exact rfl; omega; omega; exact rfl) | (apply G1_not_t; exact rfl; exact rfl) | (apply G1_not_f; exact rfl; exact rfl) | (apply G1_not_dec; exact rfl; exact rfl) | (apply G1_not; exact rfl; exact rfl)) | apply G_nil | apply Post_next | apply W_seq | apply W_region | (apply W_cond_true; exact rfl) | (apply W_cond_false; exact rfl) | (apply W_cond_dec; exact rfl; all_goals (intro h; try (exfalso; omega))) | (apply W_cond; exact rfl; all_goals intro h) | (apply G_off; exact rfl; exact rfl) | ((fail_if_success (apply G_on; exact rfl)); apply G_split_dec; exact rfl; exact rfl; all_goals (intro h; try (exfalso; omega))) | ((fail_if_success (apply G_on; exact rfl)); apply G_split; exact rfl; exact rfl; all_goals intro h) | refine W_drawn 1 [] [0,1,2,3,4,5,6,7,8] mixed (by decide +kernel) ?_ | apply W_skip | apply W_exit | apply W_ret | apply W_block | apply Post_then_ret | apply Post_block_ret | apply Post_then_exit | apply Post_block_exit | (apply Post_block_other; exact rfl) | apply Post_block_normal)
    refine Post_ret Try.results44 ⟨_, _, rfl, rfl, rfl⟩ ?_
    have hfit : i * 1 + (eBlok.enc x).length + ((xs.drop i).flatMap eBlok.enc).length ≤ cur2.length := by rw [hxl, hdl, hcl2]; omega
    have e0 : (i + 1) * 1 = i * 1 + (eBlok.enc x).length := by rw [hxl]; omega
    rw [e0] at hA4
    rw [put2_up cur2 _ _ _ hfit] at hA4
    have hx3 : Ext w w3 := hx2.own hg3 (fun k hk => by injection hk with hk; omega)
    have hx4 : Ext w w4 := hx3.drew.own hg4 (fun k hk => by injection hk with hk; omega)
    refine ⟨bx w.heap.size, c2, by rw [hlen1]; rfl, Own.ofBlk hB hA4 ?_ hcm2 (by rw [hlen1]; omega) (insert_cells hi ?_), hx4.grown _, by unfold NewP; exact .inr (fun k hk => by simp [blk] at hk; omega), by have := hx4.size; omega⟩
    · simp only [List.length_append, List.length_take, List.length_drop, hdl, hcl2, hxl, hsz]; omega
    · exact htk2
end Go.Proofs.Ytbphlenpclnobaa
