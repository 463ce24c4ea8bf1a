/- Right, of sorted sets; Right, of values. -/
import Derived.Test.YtomgghelhalaeaaVListRight
namespace Go.Proofs.Ytomgghelhalaeaa
open Go.V
attribute [local irreducible] Blk Own hcell IntT SliceT PlainT AggT SizeT StrT FieldT ZeroT EqT ArrT

def cmpI (a b : Int) : Int := if a < b then -1 else if b < a then 1 else 0
def cmpS (a b : ByteArray) : Int := if blt a b = true then -1 else if blt b a = true then 1 else 0
def cmpM (a b : Int × ByteArray) : Int := if cmpI a.1 b.1 ≠ 0 then cmpI a.1 b.1 else cmpS a.2 b.2

theorem cmpM_neg (a b : Int × ByteArray) : cmpM a b < 0 ↔ before a b := by
  unfold cmpM cmpI cmpS before
  by_cases h1 : a.1 < b.1
  · simp [h1]
  · by_cases h2 : b.1 < a.1
    · simp [h1, h2]; omega
    · have : a.1 = b.1 := by omega
      simp only [h1, h2, if_false]
      simp only [ne_eq, not_true_eq_false, if_false, this, true_and, false_or]
      by_cases h3 : blt a.2 b.2 = true
      · simp [h3]
      · simp only [h3, if_false]
        by_cases h4 : blt b.2 a.2 = true
        · simp [h4]
        · simp [h4]

theorem nan_int {a : Int} {w : World} : Ctr Try.prog 87 [.int .i64 a] w (fun v w' => v = .bool false ∧ Ext w w') := by
  refine Ctr_of Try.func87 Try.ntmps87 rfl rfl rfl ?_
  repeat' (first | (apply G_on; exact rfl; first | ((first | apply G1_assign | apply G1_move); exact rfl; exact rfl) | (apply G1_neq; exact rfl; exact rfl; exact rfl)) | apply G_nil | apply Post_next | apply W_seq | apply W_region | (apply W_cond_true; exact rfl) | (apply W_cond_false; exact rfl) | (apply W_cond_dec; exact rfl; all_goals (intro h; try (exfalso; omega))) | (apply W_cond; exact rfl; all_goals intro h) | (apply G_off; exact rfl; exact rfl) | ((fail_if_success (apply G_on; exact rfl)); apply G_split_dec; exact rfl; exact rfl; all_goals (intro h; try (exfalso; omega))) | ((fail_if_success (apply G_on; exact rfl)); apply G_split; exact rfl; exact rfl; all_goals intro h) | apply W_skip | apply W_exit | apply W_ret | apply W_block | apply Post_then_ret | apply Post_block_ret | apply Post_then_exit | apply Post_block_exit | (apply Post_block_other; exact rfl) | apply Post_block_normal)
  refine Post_ret Try.results87 ⟨_, _, rfl, rfl, rfl⟩ ?_
  exact ⟨by show Value.bool _ = _; congr 1; simp, (by repeat first | assumption | exact Ext.rfl' | apply Ext.drew | apply Ext.alloc | refine Ext.trans ?_ (by assumption))⟩
theorem nan_str {a : ByteArray} {w : World} : Ctr Try.prog 88 [.string a] w (fun v w' => v = .bool false ∧ Ext w w') := by
  refine Ctr_of Try.func88 Try.ntmps88 rfl rfl rfl ?_
  repeat' (first | (apply G_on; exact rfl; first | ((first | apply G1_assign | apply G1_move); exact rfl; exact rfl) | (apply G1_sneq; exact rfl; exact rfl; exact rfl)) | apply G_nil | apply Post_next | apply W_seq | apply W_region | (apply W_cond_true; exact rfl) | (apply W_cond_false; exact rfl) | (apply W_cond_dec; exact rfl; all_goals (intro h; try (exfalso; omega))) | (apply W_cond; exact rfl; all_goals intro h) | (apply G_off; exact rfl; exact rfl) | ((fail_if_success (apply G_on; exact rfl)); apply G_split_dec; exact rfl; exact rfl; all_goals (intro h; try (exfalso; omega))) | ((fail_if_success (apply G_on; exact rfl)); apply G_split; exact rfl; exact rfl; all_goals intro h) | apply W_skip | apply W_exit | apply W_ret | apply W_block | apply Post_then_ret | apply Post_block_ret | apply Post_then_exit | apply Post_block_exit | (apply Post_block_other; exact rfl) | apply Post_block_normal)
  refine Post_ret Try.results88 ⟨_, _, rfl, rfl, rfl⟩ ?_
  exact ⟨by show Value.bool _ = _; congr 1; simp, (by repeat first | assumption | exact Ext.rfl' | apply Ext.drew | apply Ext.alloc | refine Ext.trans ?_ (by assumption))⟩
theorem cmp_int {a b : Int} {w : World} : Ctr Try.prog 85 [.int .i64 a, .int .i64 b] w (fun v w' => v = .int .i64 (cmpI a b) ∧ Ext w w') := by
  refine Ctr_of Try.func85 Try.ntmps85 rfl rfl rfl ?_
  repeat' (first | (apply G_on; exact rfl; first | ((first | apply G1_assign | apply G1_move); exact rfl; exact rfl) | (apply G1_call (f := 87); exact rfl; exact rfl; exact rfl; exact nan_int; rintro _ w2 ⟨rfl, hx2⟩; refine ⟨(by first | exact .inl rfl | exact .inr (by assumption)), ?_⟩) | ((first | apply G1_lss | apply G1_gtr); exact rfl; exact rfl; exact rfl)) | apply G_nil | apply Post_next | apply W_seq | apply W_region | (apply W_cond_true; exact rfl) | (apply W_cond_false; exact rfl) | (apply W_cond_dec; exact rfl; all_goals (intro h; try (exfalso; omega))) | (apply W_cond; exact rfl; all_goals intro h) | (apply G_off; exact rfl; exact rfl) | ((fail_if_success (apply G_on; exact rfl)); apply G_split_dec; exact rfl; exact rfl; all_goals (intro h; try (exfalso; omega))) | ((fail_if_success (apply G_on; exact rfl)); apply G_split; exact rfl; exact rfl; all_goals intro h) | apply W_skip | apply W_exit | apply W_ret | apply W_block | apply Post_then_ret | apply Post_block_ret | apply Post_then_exit | apply Post_block_exit | (apply Post_block_other; exact rfl) | apply Post_block_normal)
  all_goals
    refine Post_ret Try.results85 ⟨_, _, rfl, rfl, rfl⟩ ?_
    refine ⟨?_, (by repeat first | assumption | exact Ext.rfl' | apply Ext.drew | apply Ext.alloc | refine Ext.trans ?_ (by assumption))⟩
    show Value.int .i64 _ = _
    congr 1
    unfold cmpI
    simp [*]
theorem cmp_str {a b : ByteArray} {w : World} : Ctr Try.prog 86 [.string a, .string b] w (fun v w' => v = .int .i64 (cmpS a b) ∧ Ext w w') := by
  refine Ctr_of Try.func86 Try.ntmps86 rfl rfl rfl ?_
  repeat' (first | (apply G_on; exact rfl; first | ((first | apply G1_assign | apply G1_move); exact rfl; exact rfl) | (apply G1_call (f := 88); exact rfl; exact rfl; exact rfl; exact nan_str; rintro _ w2 ⟨rfl, hx2⟩; refine ⟨(by first | exact .inl rfl | exact .inr (by assumption)), ?_⟩) | ((first | apply G1_slss | apply G1_sgtr); exact rfl; exact rfl; exact rfl)) | apply G_nil | apply Post_next | apply W_seq | apply W_region | (apply W_cond_true; exact rfl) | (apply W_cond_false; exact rfl) | (apply W_cond_dec; exact rfl; all_goals (intro h; try (exfalso; omega))) | (apply W_cond; exact rfl; all_goals intro h) | (apply G_off; exact rfl; exact rfl) | ((fail_if_success (apply G_on; exact rfl)); apply G_split_dec; exact rfl; exact rfl; all_goals (intro h; try (exfalso; omega))) | ((fail_if_success (apply G_on; exact rfl)); apply G_split; exact rfl; exact rfl; all_goals intro h) | apply W_skip | apply W_exit | apply W_ret | apply W_block | apply Post_then_ret | apply Post_block_ret | apply Post_then_exit | apply Post_block_exit | (apply Post_block_other; exact rfl) | apply Post_block_normal)
  all_goals
    refine Post_ret Try.results86 ⟨_, _, rfl, rfl, rfl⟩ ?_
    refine ⟨?_, (by repeat first | assumption | exact Ext.rfl' | apply Ext.drew | apply Ext.alloc | refine Ext.trans ?_ (by assumption))⟩
    show Value.int .i64 _ = _
    congr 1
    unfold cmpS
    simp [*]

theorem cmp_or {p : Option Addr} {c : Nat} {xs : List Int} {w : World} (hC : Sl w.heap eInt p c xs) :
    Ctr Try.prog 84 [.slice p xs.length c] w (fun v w' => v = .int .i64 ((xs.find? (fun x => decide (x ≠ 0))).getD 0) ∧ Ext w w') := by
  have n1 := hC.bound
  refine Ctr_of Try.func84 Try.ntmps84 rfl rfl rfl ?_
  repeat' (first | (apply G_on; exact rfl; first | ((first | apply G1_assign | apply G1_move); exact rfl; exact rfl) | (apply G1_len; exact T.s107; exact rfl; exact rfl) | ((first | apply G1_lss | apply G1_neq); exact rfl; exact rfl; exact rfl) | (apply G1_indexAddrN; exact T.s107; exact rfl; exact rfl; (first | assumption | exact Sl.ok (by assumption) | exact (Own.sl (by assumption)).ok); omega; exact rfl) | (apply G1_indexAddr; exact T.s107; exact rfl; exact rfl; (first | assumption | exact Sl.ok (by assumption) | exact (Own.sl (by assumption)).ok); omega; omega; exact rfl) | (apply G1_loadB; exact T.p3; exact rfl; assumption; exact rfl; exact rfl) | (apply G1_loadBS; exact T.p3; exact rfl; assumption; exact rfl; (first | assumption | (focus (simp [exempt]; omega))); exact rfl) | (apply G1_loadFld; exact T.p3; exact rfl; assumption; assumption; exact rfl; exact rfl; exact rfl) | (apply G1_loadEl1; exact T.p3; exact rfl; assumption; assumption; exact rfl; exact rfl; exact rfl) | (apply G1_add; exact rfl; exact rfl; omega; omega; exact rfl)) | apply G_nil | apply Post_next | apply W_seq | apply W_region | (apply W_cond_true; exact rfl) | (apply W_cond_false; exact rfl) | (apply W_cond_dec; exact rfl; all_goals (intro h; try (exfalso; omega))) | (apply W_cond; exact rfl; all_goals intro h) | (apply G_off; exact rfl; exact rfl) | ((fail_if_success (apply G_on; exact rfl)); apply G_split_dec; exact rfl; exact rfl; all_goals (intro h; try (exfalso; omega))) | ((fail_if_success (apply G_on; exact rfl)); apply G_split; exact rfl; exact rfl; all_goals intro h) | apply W_skip | apply W_exit | apply W_ret | apply W_block | apply Post_then_ret | apply Post_block_ret | apply Post_then_exit | apply Post_block_exit | (apply Post_block_other; exact rfl) | apply Post_block_normal)
  refine W_loop (ι := Nat) (fun k => [(3, .int .i64 0), (6, .slice p xs.length c), (7, .int .i64 (xs.length : Int)), (8, .int .i64 k)]) (fun k w' => Ext w w' ∧ k ≤ xs.length ∧ xs.find? (fun x => decide (x ≠ 0)) = (xs.drop k).find? (fun x => decide (x ≠ 0))) (fun k => xs.length - k) 0 ⟨rfl, rfl, rfl, rfl, trivial⟩ ⟨(by repeat first | assumption | exact Ext.rfl' | apply Ext.drew | apply Ext.alloc | refine Ext.trans ?_ (by assumption)), by omega, by simp⟩ ?_
  intro k w1 ⟨hx, hk, hq⟩
  have hs1 := hC.ext hx
  by_cases hlt : k < xs.length
  · obtain ⟨x, hxk⟩ := get_some hlt
    have hdrop : xs.drop k = x :: xs.drop (k + 1) := by
      rw [List.drop_eq_getElem_cons hlt]
      congr 1
      rw [List.getElem?_eq_getElem hlt] at hxk
      simpa using hxk
    rw [hdrop] at hq
    repeat' (first | (apply G_on; exact rfl; first | ((first | apply G1_assign | apply G1_move); exact rfl; exact rfl) | (apply G1_len; exact T.s107; exact rfl; exact rfl) | ((first | apply G1_lss | apply G1_neq); exact rfl; exact rfl; exact rfl) | (apply G1_indexAddrN; exact T.s107; exact rfl; exact rfl; (first | assumption | exact Sl.ok (by assumption) | exact (Own.sl (by assumption)).ok); omega; exact rfl) | (apply G1_indexAddr; exact T.s107; exact rfl; exact rfl; (first | assumption | exact Sl.ok (by assumption) | exact (Own.sl (by assumption)).ok); omega; omega; exact rfl) | (apply G1_loadB; exact T.p3; exact rfl; assumption; exact rfl; exact rfl) | (apply G1_loadBS; exact T.p3; exact rfl; assumption; exact rfl; (first | assumption | (focus (simp [exempt]; omega))); exact rfl) | (apply G1_loadFld; exact T.p3; exact rfl; assumption; assumption; exact rfl; exact rfl; exact rfl) | (apply G1_loadEl1; exact T.p3; exact rfl; assumption; assumption; exact rfl; exact rfl; exact rfl) | (apply G1_add; exact rfl; exact rfl; omega; omega; exact rfl)) | apply G_nil | apply Post_next | apply W_seq | apply W_region | (apply W_cond_true; exact rfl) | (apply W_cond_false; exact rfl) | (apply W_cond_dec; exact rfl; all_goals (intro h; try (exfalso; omega))) | (apply W_cond; exact rfl; all_goals intro h) | (apply G_off; exact rfl; exact rfl) | ((fail_if_success (apply G_on; exact rfl)); apply G_split_dec; exact rfl; exact rfl; all_goals (intro h; try (exfalso; omega))) | ((fail_if_success (apply G_on; exact rfl)); apply G_split; exact rfl; exact rfl; all_goals intro h) | apply W_skip | apply W_exit | apply W_ret | apply W_block | apply Post_then_ret | apply Post_block_ret | apply Post_then_exit | apply Post_block_exit | (apply Post_block_other; exact rfl) | apply Post_block_normal)
    · refine Post_ret Try.results84 ⟨_, _, rfl, rfl, rfl⟩ ?_
      refine ⟨?_, (by repeat first | assumption | exact Ext.rfl' | apply Ext.drew | apply Ext.alloc | refine Ext.trans ?_ (by assumption))⟩
      show Value.int .i64 _ = _
      congr 1
      rw [hq]
      simp [h]
    · refine Post_round (k + 1) ⟨rfl, rfl, rfl, rfl, trivial⟩ ⟨(by repeat first | assumption | exact Ext.rfl' | apply Ext.drew | apply Ext.alloc | refine Ext.trans ?_ (by assumption)), by omega, ?_⟩ (by omega)
      rw [hq]
      have h0 : x = 0 := Classical.not_not.1 h
      simp [h0]
  · repeat' (first | (apply G_on; exact rfl; first | ((first | apply G1_assign | apply G1_move); exact rfl; exact rfl) | (apply G1_len; exact T.s107; exact rfl; exact rfl) | ((first | apply G1_lss | apply G1_neq); exact rfl; exact rfl; exact rfl) | (apply G1_indexAddrN; exact T.s107; exact rfl; exact rfl; (first | assumption | exact Sl.ok (by assumption) | exact (Own.sl (by assumption)).ok); omega; exact rfl) | (apply G1_indexAddr; exact T.s107; exact rfl; exact rfl; (first | assumption | exact Sl.ok (by assumption) | exact (Own.sl (by assumption)).ok); omega; omega; exact rfl) | (apply G1_loadB; exact T.p3; exact rfl; assumption; exact rfl; exact rfl) | (apply G1_loadBS; exact T.p3; exact rfl; assumption; exact rfl; (first | assumption | (focus (simp [exempt]; omega))); exact rfl) | (apply G1_loadFld; exact T.p3; exact rfl; assumption; assumption; exact rfl; exact rfl; exact rfl) | (apply G1_loadEl1; exact T.p3; exact rfl; assumption; assumption; exact rfl; exact rfl; exact rfl) | (apply G1_add; exact rfl; exact rfl; omega; omega; exact rfl)) | apply G_nil | apply Post_next | apply W_seq | apply W_region | (apply W_cond_true; exact rfl) | (apply W_cond_false; exact rfl) | (apply W_cond_dec; exact rfl; all_goals (intro h; try (exfalso; omega))) | (apply W_cond; exact rfl; all_goals intro h) | (apply G_off; exact rfl; exact rfl) | ((fail_if_success (apply G_on; exact rfl)); apply G_split_dec; exact rfl; exact rfl; all_goals (intro h; try (exfalso; omega))) | ((fail_if_success (apply G_on; exact rfl)); apply G_split; exact rfl; exact rfl; all_goals intro h) | apply W_skip | apply W_exit | apply W_ret | apply W_block | apply Post_then_ret | apply Post_block_ret | apply Post_then_exit | apply Post_block_exit | (apply Post_block_other; exact rfl) | apply Post_block_normal)
    refine Post_ret Try.results84 ⟨_, _, rfl, rfl, rfl⟩ ?_
    refine ⟨?_, (by repeat first | assumption | exact Ext.rfl' | apply Ext.drew | apply Ext.alloc | refine Ext.trans ?_ (by assumption))⟩
    show Value.int .i64 _ = _
    congr 1
    rw [hq, List.drop_of_length_le (by omega)]
    rfl

theorem zset_compare {a b : Int × ByteArray} {w : World} : Ctr Try.prog 80 [.agg (eMem.enc a).toArray, .agg (eMem.enc b).toArray] w (fun v w' => v = .int .i64 (cmpM a b) ∧ Ext w w') := by
  refine Ctr_of Try.func80 Try.ntmps80 rfl rfl rfl ?_
  repeat' (first | (apply G_on; exact rfl; first | (apply G1_assign; exact rfl; exact rfl) | (apply G1_fieldAddr; (first | exact T.f45_0 | exact T.f45_1); exact rfl; exact rfl) | (apply G1_loadB; (first | exact T.p3 | exact T.p9); exact rfl; assumption; exact rfl; exact rfl) | (apply G1_loadBS; (first | exact T.p3 | exact T.p9); exact rfl; assumption; exact rfl; (first | assumption | (focus (simp [exempt]; omega))); exact rfl) | (apply G1_loadFld; (first | exact T.p3 | exact T.p9); exact rfl; assumption; assumption; exact rfl; exact rfl; exact rfl) | (apply G1_loadEl1; (first | exact T.p3 | exact T.p9); exact rfl; assumption; assumption; exact rfl; exact rfl; exact rfl)) | apply G_nil | apply Post_next | apply W_seq | apply W_region | (apply W_cond_true; exact rfl) | (apply W_cond_false; exact rfl) | (apply W_cond_dec; exact rfl; all_goals (intro h; try (exfalso; omega))) | (apply W_cond; exact rfl; all_goals intro h) | (apply G_off; exact rfl; exact rfl) | ((fail_if_success (apply G_on; exact rfl)); apply G_split_dec; exact rfl; exact rfl; all_goals (intro h; try (exfalso; omega))) | ((fail_if_success (apply G_on; exact rfl)); apply G_split; exact rfl; exact rfl; all_goals intro h) | refine W_drawn 1 [] [0,1,2,3,5,6,7,8,4,9,10,11,12] mixed (by decide +kernel) ?_ | apply W_skip | apply W_exit | apply W_ret | apply W_block | apply Post_then_ret | apply Post_block_ret | apply Post_then_exit | apply Post_block_exit | (apply Post_block_other; exact rfl) | apply Post_block_normal)
  apply G_on; exact rfl; apply G1_box; exact rfl; exact rfl; exact rfl; intro a1 w1 ha1 hA1 hx1 hs1
  replace hA1 : Blk w1.heap a1 45 [.int .i64 a.1, .string a.2] := hA1
  repeat' (first | (apply G_on; exact rfl; first | (apply G1_assign; exact rfl; exact rfl) | (apply G1_fieldAddr; (first | exact T.f45_0 | exact T.f45_1); exact rfl; exact rfl) | (apply G1_loadB; (first | exact T.p3 | exact T.p9); exact rfl; assumption; exact rfl; exact rfl) | (apply G1_loadBS; (first | exact T.p3 | exact T.p9); exact rfl; assumption; exact rfl; (first | assumption | (focus (simp [exempt]; omega))); exact rfl) | (apply G1_loadFld; (first | exact T.p3 | exact T.p9); exact rfl; assumption; assumption; exact rfl; exact rfl; exact rfl) | (apply G1_loadEl1; (first | exact T.p3 | exact T.p9); exact rfl; assumption; assumption; exact rfl; exact rfl; exact rfl)) | apply G_nil | apply Post_next | apply W_seq | apply W_region | (apply W_cond_true; exact rfl) | (apply W_cond_false; exact rfl) | (apply W_cond_dec; exact rfl; all_goals (intro h; try (exfalso; omega))) | (apply W_cond; exact rfl; all_goals intro h) | (apply G_off; exact rfl; exact rfl) | ((fail_if_success (apply G_on; exact rfl)); apply G_split_dec; exact rfl; exact rfl; all_goals (intro h; try (exfalso; omega))) | ((fail_if_success (apply G_on; exact rfl)); apply G_split; exact rfl; exact rfl; all_goals intro h) | refine W_drawn 1 [] [0,1,2,3,5,6,7,8,4,9,10,11,12] mixed (by decide +kernel) ?_ | apply W_skip | apply W_exit | apply W_ret | apply W_block | apply Post_then_ret | apply Post_block_ret | apply Post_then_exit | apply Post_block_exit | (apply Post_block_other; exact rfl) | apply Post_block_normal)
  apply G_on; exact rfl; apply G1_box; exact rfl; exact rfl; exact rfl; intro a2 w2 ha2 hA2 hx2 hs2
  replace hA2 : Blk w2.heap a2 45 [.int .i64 b.1, .string b.2] := hA2
  replace hA1 := hA1.ext hx2
  have hx := hx1.trans hx2
  repeat' (first | (apply G_on; exact rfl; first | (apply G1_assign; exact rfl; exact rfl) | (apply G1_call (f := 85); exact rfl; exact rfl; exact rfl; exact cmp_int; rintro _ w3 ⟨rfl, hx3⟩; refine ⟨(by first | exact .inl rfl | exact .inr (by assumption)), ?_⟩; (first | replace hA1 := hA1.ext hx3 | replace hA1 := hA1.ext ((Ext.drew Ext.rfl').trans hx3)); (first | replace hA2 := hA2.ext hx3 | replace hA2 := hA2.ext ((Ext.drew Ext.rfl').trans hx3))) | (apply G1_call (f := 86); exact rfl; exact rfl; exact rfl; exact cmp_str; rintro _ w4 ⟨rfl, hx4⟩; refine ⟨(by first | exact .inl rfl | exact .inr (by assumption)), ?_⟩; (first | replace hA1 := hA1.ext hx4 | replace hA1 := hA1.ext ((Ext.drew Ext.rfl').trans hx4)); (first | replace hA2 := hA2.ext hx4 | replace hA2 := hA2.ext ((Ext.drew Ext.rfl').trans hx4))) | (apply G1_fieldAddr; (first | exact T.f45_0 | exact T.f45_1); exact rfl; exact rfl) | (apply G1_loadB; (first | exact T.p3 | exact T.p9); exact rfl; assumption; exact rfl; exact rfl) | (apply G1_loadBS; (first | exact T.p3 | exact T.p9); exact rfl; assumption; exact rfl; (first | assumption | (focus (simp [exempt]; omega))); exact rfl) | (apply G1_loadFld; (first | exact T.p3 | exact T.p9); exact rfl; assumption; assumption; exact rfl; exact rfl; exact rfl) | (apply G1_loadEl1; (first | exact T.p3 | exact T.p9); exact rfl; assumption; assumption; exact rfl; exact rfl; exact rfl)) | apply G_nil | apply Post_next | apply W_seq | apply W_region | (apply W_cond_true; exact rfl) | (apply W_cond_false; exact rfl) | (apply W_cond_dec; exact rfl; all_goals (intro h; try (exfalso; omega))) | (apply W_cond; exact rfl; all_goals intro h) | (apply G_off; exact rfl; exact rfl) | ((fail_if_success (apply G_on; exact rfl)); apply G_split_dec; exact rfl; exact rfl; all_goals (intro h; try (exfalso; omega))) | ((fail_if_success (apply G_on; exact rfl)); apply G_split; exact rfl; exact rfl; all_goals intro h) | refine W_drawn 1 [] [0,1,2,3,5,6,7,8,4,9,10,11,12] mixed (by decide +kernel) ?_ | apply W_skip | apply W_exit | apply W_ret | apply W_block | apply Post_then_ret | apply Post_block_ret | apply Post_then_exit | apply Post_block_exit | (apply Post_block_other; exact rfl) | apply Post_block_normal)
  apply G_on; exact rfl
  apply G1_buildN eInt [cmpI a.1 b.1, cmpS a.2 b.2]; exact T.s107; exact rfl; exact rfl; exact rfl; exact rfl; exact rfl; exact Nat.succ_pos _; exact Nat.le_of_ble_eq_true rfl; exact rfl; exact rfl
  intro p5 w5 ho5 hx5 hz5
  repeat' (first | (apply G_on; exact rfl; first | (apply G1_assign; exact rfl; exact rfl) | (apply G1_call (f := 84); exact rfl; exact rfl; exact rfl; exact cmp_or ho5.sl; rintro _ w6 ⟨rfl, hx6⟩; refine ⟨(by first | exact .inl rfl | exact .inr (by assumption)), ?_⟩) | (apply G1_fieldAddr; (first | exact T.f45_0 | exact T.f45_1); exact rfl; exact rfl) | (apply G1_loadB; (first | exact T.p3 | exact T.p9); exact rfl; assumption; exact rfl; exact rfl) | (apply G1_loadBS; (first | exact T.p3 | exact T.p9); exact rfl; assumption; exact rfl; (first | assumption | (focus (simp [exempt]; omega))); exact rfl) | (apply G1_loadFld; (first | exact T.p3 | exact T.p9); exact rfl; assumption; assumption; exact rfl; exact rfl; exact rfl) | (apply G1_loadEl1; (first | exact T.p3 | exact T.p9); exact rfl; assumption; assumption; exact rfl; exact rfl; exact rfl)) | apply G_nil | apply Post_next | apply W_seq | apply W_region | (apply W_cond_true; exact rfl) | (apply W_cond_false; exact rfl) | (apply W_cond_dec; exact rfl; all_goals (intro h; try (exfalso; omega))) | (apply W_cond; exact rfl; all_goals intro h) | (apply G_off; exact rfl; exact rfl) | ((fail_if_success (apply G_on; exact rfl)); apply G_split_dec; exact rfl; exact rfl; all_goals (intro h; try (exfalso; omega))) | ((fail_if_success (apply G_on; exact rfl)); apply G_split; exact rfl; exact rfl; all_goals intro h) | refine W_drawn 1 [] [0,1,2,3,5,6,7,8,4,9,10,11,12] mixed (by decide +kernel) ?_ | apply W_skip | apply W_exit | apply W_ret | apply W_block | apply Post_then_ret | apply Post_block_ret | apply Post_then_exit | apply Post_block_exit | (apply Post_block_other; exact rfl) | apply Post_block_normal)
  refine Post_ret Try.results80 ⟨_, _, rfl, rfl, rfl⟩ ?_
  refine ⟨?_, (by repeat first | assumption | exact Ext.rfl' | apply Ext.drew | apply Ext.alloc | refine Ext.trans ?_ (by assumption))⟩
  show Value.int .i64 _ = _
  congr 1
  unfold cmpM
  by_cases h1 : cmpI a.1 b.1 = 0
  · by_cases h2 : cmpS a.2 b.2 = 0
    · simp [h1, h2]
    · simp [h1, h2]
  · simp [h1]



theorem zset_right {p : Option Addr} {c : Nat} {zs : List (Int × ByteArray)} {w : World} (hC : Sl w.heap eMem p c zs) (hf : ∀ x ∈ zs, x.2.size ≤ maxLen) :
    Ctr Try.prog 63 [.slice p zs.length c] w (fun v w' => ∃ b, v = .bool b ∧ (b = true ↔ okZ zs) ∧ Ext w w') := by
  have n1 := hC.bound
  refine Ctr_of Try.func63 Try.ntmps63 rfl rfl rfl ?_
  repeat' (first | (apply G_on; exact rfl; first | ((first | apply G1_assign | apply G1_move); exact rfl; exact rfl) | (apply G1_call (f := 78); exact rfl; exact rfl; exact rfl; exact any_mems (pr := fun x => decide (4096 < x.2.size)) hC (fun x _ w1 _ => zset_long); rintro _ w2 ⟨rfl, hx2⟩; refine ⟨(by first | exact .inl rfl | exact .inr (by assumption)), ?_⟩) | (apply G1_len; exact T.s28; exact rfl; exact rfl) | ((first | apply G1_gtr | apply G1_lss | apply G1_geq | apply G1_eql); exact rfl; exact rfl; exact rfl) | (apply G1_pick_t; exact rfl; exact rfl; exact rfl) | (apply G1_pick_f; exact rfl; exact rfl; exact rfl) | (apply G1_indexAddrN; exact T.s28; exact rfl; exact rfl; (first | assumption | exact Sl.ok (by assumption) | exact (Own.sl (by assumption)).ok); omega; exact rfl) | (apply G1_indexAddr; exact T.s28; exact rfl; exact rfl; (first | assumption | exact Sl.ok (by assumption) | exact (Own.sl (by assumption)).ok); omega; omega; exact rfl) | (apply G1_loadBAgg; exact T.a45; exact rfl; assumption; exact rfl; exact rfl) | (apply G1_loadEl; exact T.a45; exact rfl; assumption; assumption; exact rfl; exact rfl) | (apply G1_loadElSub; exact T.a45; exact rfl; assumption; assumption; exact rfl; exact rfl; exact rfl; exact rfl) | (apply G1_loadBSub; exact T.a45; exact rfl; assumption; exact rfl; exact rfl; exact rfl) | (apply G1_sub; exact rfl; exact rfl; omega; omega; exact rfl) | (apply G1_fieldAddr; exact T.f45_1; exact rfl; exact rfl) | (apply G1_loadB; exact T.p9; exact rfl; assumption; exact rfl; exact rfl) | (apply G1_loadBS; exact T.p9; exact rfl; assumption; exact rfl; (first | assumption | (focus (simp [exempt]; omega))); exact rfl) | (apply G1_loadFld; exact T.p9; exact rfl; assumption; assumption; exact rfl; exact rfl; exact rfl) | (apply G1_loadEl1; exact T.p9; exact rfl; assumption; assumption; exact rfl; exact rfl; exact rfl) | (apply G1_add; exact rfl; exact rfl; omega; omega; exact rfl)) | apply G_nil | apply Post_next | apply W_seq | apply W_region | (apply W_cond_true; exact rfl) | (apply W_cond_false; exact rfl) | (apply W_cond_dec; exact rfl; all_goals (intro h; try (exfalso; omega))) | (apply W_cond; exact rfl; all_goals intro h) | (apply G_off; exact rfl; exact rfl) | ((fail_if_success (apply G_on; exact rfl)); apply G_split_dec; exact rfl; exact rfl; all_goals (intro h; try (exfalso; omega))) | ((fail_if_success (apply G_on; exact rfl)); apply G_split; exact rfl; exact rfl; all_goals intro h) | refine W_drawn 1 [] [0,1,2,3,4,5,6,7,8,9,10,11] mixed (by decide +kernel) ?_ | apply W_skip | apply W_exit | apply W_ret | apply W_block | apply Post_then_ret | apply Post_block_ret | apply Post_then_exit | apply Post_block_exit | (apply Post_block_other; exact rfl) | apply Post_block_normal)
  · refine Post_ret Try.results63 ⟨_, _, rfl, rfl, rfl⟩ ?_
    exact ⟨_, rfl, ⟨fun e => by simp at e, fun e => by have := e.1; omega⟩, (by repeat first | assumption | exact Ext.rfl' | apply Ext.drew | apply Ext.alloc | refine Ext.trans ?_ (by assumption))⟩
  · refine Post_ret Try.results63 ⟨_, _, rfl, rfl, rfl⟩ ?_
    refine ⟨_, rfl, ⟨fun e => by simp at e, fun e => ?_⟩, (by repeat first | assumption | exact Ext.rfl' | apply Ext.drew | apply Ext.alloc | refine Ext.trans ?_ (by assumption))⟩
    obtain ⟨x, hx, hl⟩ := List.any_eq_true.1 h
    obtain ⟨i, hi⟩ := List.getElem?_of_mem hx
    have := (e.2 i (get_lt hi) x hi).1
    simp at hl
    omega
  have hlen : zs.length ≤ 512 := by omega
  have hsmall : ∀ x ∈ zs, x.2.size ≤ 4096 := by
    intro x hx
    have := List.any_eq_false.1 h x hx
    simp at this
    omega
  have hxA : Ext w w2 := (by repeat first | assumption | exact Ext.rfl' | apply Ext.drew | apply Ext.alloc | refine Ext.trans ?_ (by assumption))
  apply G_on; exact rfl
  apply G1_makeMap; exact Try.underlying98; exact rfl; exact rfl; exact rfl
  intro b3 w3 hb3 hm3 hx3 hs3
  have hx := hxA.trans hx3
  have z3 := hxA.size
  repeat' (first | (apply G_on; exact rfl; first | ((first | apply G1_assign | apply G1_move); exact rfl; exact rfl) | (apply G1_len; exact T.s28; exact rfl; exact rfl) | ((first | apply G1_gtr | apply G1_lss | apply G1_geq | apply G1_eql); exact rfl; exact rfl; exact rfl) | (apply G1_pick_t; exact rfl; exact rfl; exact rfl) | (apply G1_pick_f; exact rfl; exact rfl; exact rfl) | (apply G1_indexAddrN; exact T.s28; exact rfl; exact rfl; (first | assumption | exact Sl.ok (by assumption) | exact (Own.sl (by assumption)).ok); omega; exact rfl) | (apply G1_indexAddr; exact T.s28; exact rfl; exact rfl; (first | assumption | exact Sl.ok (by assumption) | exact (Own.sl (by assumption)).ok); omega; omega; exact rfl) | (apply G1_loadBAgg; exact T.a45; exact rfl; assumption; exact rfl; exact rfl) | (apply G1_loadEl; exact T.a45; exact rfl; assumption; assumption; exact rfl; exact rfl) | (apply G1_loadElSub; exact T.a45; exact rfl; assumption; assumption; exact rfl; exact rfl; exact rfl; exact rfl) | (apply G1_loadBSub; exact T.a45; exact rfl; assumption; exact rfl; exact rfl; exact rfl) | (apply G1_sub; exact rfl; exact rfl; omega; omega; exact rfl) | (apply G1_fieldAddr; exact T.f45_1; exact rfl; exact rfl) | (apply G1_loadB; exact T.p9; exact rfl; assumption; exact rfl; exact rfl) | (apply G1_loadBS; exact T.p9; exact rfl; assumption; exact rfl; (first | assumption | (focus (simp [exempt]; omega))); exact rfl) | (apply G1_loadFld; exact T.p9; exact rfl; assumption; assumption; exact rfl; exact rfl; exact rfl) | (apply G1_loadEl1; exact T.p9; exact rfl; assumption; assumption; exact rfl; exact rfl; exact rfl) | (apply G1_add; exact rfl; exact rfl; omega; omega; exact rfl)) | apply G_nil | apply Post_next | apply W_seq | apply W_region | (apply W_cond_true; exact rfl) | (apply W_cond_false; exact rfl) | (apply W_cond_dec; exact rfl; all_goals (intro h; try (exfalso; omega))) | (apply W_cond; exact rfl; all_goals intro h) | (apply G_off; exact rfl; exact rfl) | ((fail_if_success (apply G_on; exact rfl)); apply G_split_dec; exact rfl; exact rfl; all_goals (intro h; try (exfalso; omega))) | ((fail_if_success (apply G_on; exact rfl)); apply G_split; exact rfl; exact rfl; all_goals intro h) | refine W_drawn 1 [] [0,1,2,3,4,5,6,7,8,9,10,11] mixed (by decide +kernel) ?_ | apply W_skip | apply W_exit | apply W_ret | apply W_block | apply Post_then_ret | apply Post_block_ret | apply Post_then_exit | apply Post_block_exit | (apply Post_block_other; exact rfl) | apply Post_block_normal)
  refine W_loop (ι := Nat × Nat) (fun k => [(0, .slice p zs.length c), (3, .map (some b3)), (16, .slice p zs.length c), (17, .int .i64 (zs.length : Int)), (18, .int .i64 (k.1 : Int))])
    (fun k w' => Ext w w' ∧ k.1 ≤ zs.length ∧ KeySet Try.prog w' 9 3 b3 (fun s => ∃ (j : Nat) (y : Int × ByteArray), j < k.1 ∧ zs[j]? = some y ∧ y.2 = s) k.2 k.1 ∧ k.2 ≤ k.1 ∧
      (∀ i x, 0 < i → i < k.1 → zs[i]? = some x → ∀ y, zs[i - 1]? = some y → before y x) ∧ (k.2 = k.1 ↔ ∀ i x, i < k.1 → zs[i]? = some x → ∀ j y, j < i → zs[j]? = some y → y.2 ≠ x.2)) (fun k => zs.length - k.1) (0, 0) ⟨rfl, rfl, rfl, rfl, rfl, trivial⟩
    ⟨hx, Nat.zero_le _, hm3.iff (fun s => ⟨False.elim, fun ⟨j, _, hj, _⟩ => by simp only at hj; omega⟩), Nat.le_refl _, fun i x _ hi => by simp only at hi; omega, ⟨fun _ i x hi => by simp only at hi; omega, fun _ => rfl⟩⟩ ?_
  rintro ⟨k, cn⟩ w4 ⟨hx4, hk, hm4, hcn, hbf, hiff⟩
  simp only at hk hm4 hcn hbf hiff
  have hs1 := hC.ext hx4
  have z4 := hx4.size
  by_cases hlt : k < zs.length
  · obtain ⟨x, hxk⟩ := get_some hlt
    have hxs := hsmall x (List.mem_of_getElem? hxk)
    have hxm : x.2.size ≤ maxLen := by simp only [maxLen]; omega
    repeat' (first | (apply G_on; exact rfl; first | ((first | apply G1_assign | apply G1_move); exact rfl; exact rfl) | (apply G1_len; exact T.s28; exact rfl; exact rfl) | ((first | apply G1_gtr | apply G1_lss | apply G1_geq | apply G1_eql); exact rfl; exact rfl; exact rfl) | (apply G1_pick_t; exact rfl; exact rfl; exact rfl) | (apply G1_pick_f; exact rfl; exact rfl; exact rfl) | (apply G1_indexAddrN; exact T.s28; exact rfl; exact rfl; (first | assumption | exact Sl.ok (by assumption) | exact (Own.sl (by assumption)).ok); omega; exact rfl) | (apply G1_indexAddr; exact T.s28; exact rfl; exact rfl; (first | assumption | exact Sl.ok (by assumption) | exact (Own.sl (by assumption)).ok); omega; omega; exact rfl) | (apply G1_loadBAgg; exact T.a45; exact rfl; assumption; exact rfl; exact rfl) | (apply G1_loadEl; exact T.a45; exact rfl; assumption; assumption; exact rfl; exact rfl) | (apply G1_loadElSub; exact T.a45; exact rfl; assumption; assumption; exact rfl; exact rfl; exact rfl; exact rfl) | (apply G1_loadBSub; exact T.a45; exact rfl; assumption; exact rfl; exact rfl; exact rfl) | (apply G1_sub; exact rfl; exact rfl; omega; omega; exact rfl) | (apply G1_fieldAddr; exact T.f45_1; exact rfl; exact rfl) | (apply G1_loadB; exact T.p9; exact rfl; assumption; exact rfl; exact rfl) | (apply G1_loadBS; exact T.p9; exact rfl; assumption; exact rfl; (first | assumption | (focus (simp [exempt]; omega))); exact rfl) | (apply G1_loadFld; exact T.p9; exact rfl; assumption; assumption; exact rfl; exact rfl; exact rfl) | (apply G1_loadEl1; exact T.p9; exact rfl; assumption; assumption; exact rfl; exact rfl; exact rfl) | (apply G1_add; exact rfl; exact rfl; omega; omega; exact rfl)) | apply G_nil | apply Post_next | apply W_seq | apply W_region | (apply W_cond_true; exact rfl) | (apply W_cond_false; exact rfl) | (apply W_cond_dec; exact rfl; all_goals (intro h; try (exfalso; omega))) | (apply W_cond; exact rfl; all_goals intro h) | (apply G_off; exact rfl; exact rfl) | ((fail_if_success (apply G_on; exact rfl)); apply G_split_dec; exact rfl; exact rfl; all_goals (intro h; try (exfalso; omega))) | ((fail_if_success (apply G_on; exact rfl)); apply G_split; exact rfl; exact rfl; all_goals intro h) | refine W_drawn 1 [] [0,1,2,3,4,5,6,7,8,9,10,11] mixed (by decide +kernel) ?_ | apply W_skip | apply W_exit | apply W_ret | apply W_block | apply Post_then_ret | apply Post_block_ret | apply Post_then_exit | apply Post_block_exit | (apply Post_block_other; exact rfl) | apply Post_block_normal)
    apply G_on; exact rfl; apply G1_alloc; exact T.zero45; exact rfl; exact rfl; intro a5 w5 ha5 hA5 hx5 hs5
    replace hs1 := hs1.ext hx5
    repeat' (first | (apply G_on; exact rfl; first | ((first | apply G1_assign | apply G1_move); exact rfl; exact rfl) | (apply G1_len; exact T.s28; exact rfl; exact rfl) | ((first | apply G1_gtr | apply G1_lss | apply G1_geq | apply G1_eql); exact rfl; exact rfl; exact rfl) | (apply G1_pick_t; exact rfl; exact rfl; exact rfl) | (apply G1_pick_f; exact rfl; exact rfl; exact rfl) | (apply G1_indexAddrN; exact T.s28; exact rfl; exact rfl; (first | assumption | exact Sl.ok (by assumption) | exact (Own.sl (by assumption)).ok); omega; exact rfl) | (apply G1_indexAddr; exact T.s28; exact rfl; exact rfl; (first | assumption | exact Sl.ok (by assumption) | exact (Own.sl (by assumption)).ok); omega; omega; exact rfl) | (apply G1_loadBAgg; exact T.a45; exact rfl; assumption; exact rfl; exact rfl) | (apply G1_loadEl; exact T.a45; exact rfl; assumption; assumption; exact rfl; exact rfl) | (apply G1_loadElSub; exact T.a45; exact rfl; assumption; assumption; exact rfl; exact rfl; exact rfl; exact rfl) | (apply G1_loadBSub; exact T.a45; exact rfl; assumption; exact rfl; exact rfl; exact rfl) | (apply G1_sub; exact rfl; exact rfl; omega; omega; exact rfl) | (apply G1_fieldAddr; exact T.f45_1; exact rfl; exact rfl) | (apply G1_loadB; exact T.p9; exact rfl; assumption; exact rfl; exact rfl) | (apply G1_loadBS; exact T.p9; exact rfl; assumption; exact rfl; (first | assumption | (focus (simp [exempt]; omega))); exact rfl) | (apply G1_loadFld; exact T.p9; exact rfl; assumption; assumption; exact rfl; exact rfl; exact rfl) | (apply G1_loadEl1; exact T.p9; exact rfl; assumption; assumption; exact rfl; exact rfl; exact rfl) | (apply G1_add; exact rfl; exact rfl; omega; omega; exact rfl)) | apply G_nil | apply Post_next | apply W_seq | apply W_region | (apply W_cond_true; exact rfl) | (apply W_cond_false; exact rfl) | (apply W_cond_dec; exact rfl; all_goals (intro h; try (exfalso; omega))) | (apply W_cond; exact rfl; all_goals intro h) | (apply G_off; exact rfl; exact rfl) | ((fail_if_success (apply G_on; exact rfl)); apply G_split_dec; exact rfl; exact rfl; all_goals (intro h; try (exfalso; omega))) | ((fail_if_success (apply G_on; exact rfl)); apply G_split; exact rfl; exact rfl; all_goals intro h) | refine W_drawn 1 [] [0,1,2,3,4,5,6,7,8,9,10,11] mixed (by decide +kernel) ?_ | apply W_skip | apply W_exit | apply W_ret | apply W_block | apply Post_then_ret | apply Post_block_ret | apply Post_then_exit | apply Post_block_exit | (apply Post_block_other; exact rfl) | apply Post_block_normal)
    apply G_on; exact rfl; apply G1_storeB; exact T.z45; exact rfl; exact rfl; exact hA5; exact rfl; exact rfl; (first | exact Nat.le_of_ble_eq_true rfl | (focus (simp [Value.cells]; done))); (first | exact Enc.one _ _ | (focus (simp [Value.oneCell']; done)) | (focus (simp [Value.cells, Value.oneCell']; done)) | exact Enc.oneAgg _ _); exact rfl; (first | exact .inl rfl | exact .inr (by simp [exempt])); exact rfl; intro w6 hA5 hg6 hs6
    replace hA5 : Blk w6.heap a5 45 (eMem.enc x) := hA5
    have hx46 : Ext w4 w6 := hx5.own hg6 (fun k hk => by injection hk; omega)
    replace hx : Ext w w6 := hx4.trans hx46
    replace hs1 := hC.ext hx
    have hma := hm4.lt
    replace hm4 := hm4.ext hx46
    have hb3lt : b3 ≠ a5 := by omega
    by_cases hk0 : 0 < k
    · obtain ⟨y, hy⟩ := get_some (xs := zs) (k := ((k : Int) - 1).toNat) (by omega)
      have hy' : zs[k - 1]? = some y := by rw [← hy]; congr 1; omega
      repeat' (first | (apply G_on; exact rfl; first | ((first | apply G1_assign | apply G1_move); exact rfl; exact rfl) | (apply G1_call (f := 80); exact rfl; exact rfl; exact rfl; exact zset_compare; rintro _ w7 ⟨rfl, hx7⟩; refine ⟨(by first | exact .inl rfl | exact .inr (by assumption)), ?_⟩; (first | replace hA5 := hA5.ext hx7 | replace hA5 := hA5.ext ((Ext.drew Ext.rfl').trans hx7)); (first | replace hs1 := hs1.ext hx7 | replace hs1 := hs1.ext ((Ext.drew Ext.rfl').trans hx7)); (first | replace hm4 := hm4.ext hx7 | replace hm4 := hm4.ext ((Ext.drew Ext.rfl').trans hx7))) | (apply G1_len; exact T.s28; exact rfl; exact rfl) | ((first | apply G1_gtr | apply G1_lss | apply G1_geq | apply G1_eql); exact rfl; exact rfl; exact rfl) | (apply G1_pick_t; exact rfl; exact rfl; exact rfl) | (apply G1_pick_f; exact rfl; exact rfl; exact rfl) | (apply G1_indexAddrN; exact T.s28; exact rfl; exact rfl; (first | assumption | exact Sl.ok (by assumption) | exact (Own.sl (by assumption)).ok); omega; exact rfl) | (apply G1_indexAddr; exact T.s28; exact rfl; exact rfl; (first | assumption | exact Sl.ok (by assumption) | exact (Own.sl (by assumption)).ok); omega; omega; exact rfl) | (apply G1_loadBAgg; exact T.a45; exact rfl; assumption; exact rfl; exact rfl) | (apply G1_loadEl; exact T.a45; exact rfl; assumption; assumption; exact rfl; exact rfl) | (apply G1_loadElSub; exact T.a45; exact rfl; assumption; assumption; exact rfl; exact rfl; exact rfl; exact rfl) | (apply G1_loadBSub; exact T.a45; exact rfl; assumption; exact rfl; exact rfl; exact rfl) | (apply G1_sub; exact rfl; exact rfl; omega; omega; exact rfl) | (apply G1_fieldAddr; exact T.f45_1; exact rfl; exact rfl) | (apply G1_loadB; exact T.p9; exact rfl; assumption; exact rfl; exact rfl) | (apply G1_loadBS; exact T.p9; exact rfl; assumption; exact rfl; (first | assumption | (focus (simp [exempt]; omega))); exact rfl) | (apply G1_loadFld; exact T.p9; exact rfl; assumption; assumption; exact rfl; exact rfl; exact rfl) | (apply G1_loadEl1; exact T.p9; exact rfl; assumption; assumption; exact rfl; exact rfl; exact rfl) | (apply G1_add; exact rfl; exact rfl; omega; omega; exact rfl)) | apply G_nil | apply Post_next | apply W_seq | apply W_region | (apply W_cond_true; exact rfl) | (apply W_cond_false; exact rfl) | (apply W_cond_dec; exact rfl; all_goals (intro h; try (exfalso; omega))) | (apply W_cond; exact rfl; all_goals intro h) | (apply G_off; exact rfl; exact rfl) | ((fail_if_success (apply G_on; exact rfl)); apply G_split_dec; exact rfl; exact rfl; all_goals (intro h; try (exfalso; omega))) | ((fail_if_success (apply G_on; exact rfl)); apply G_split; exact rfl; exact rfl; all_goals intro h) | refine W_drawn 1 [] [0,1,2,3,4,5,6,7,8,9,10,11] mixed (by decide +kernel) ?_ | apply W_skip | apply W_exit | apply W_ret | apply W_block | apply Post_then_ret | apply Post_block_ret | apply Post_then_exit | apply Post_block_exit | (apply Post_block_other; exact rfl) | apply Post_block_normal)
      · refine Post_ret Try.results63 ⟨_, _, rfl, rfl, rfl⟩ ?_
        refine ⟨_, rfl, ⟨fun e => by simp at e, fun e => ?_⟩, (by repeat first | assumption | exact Ext.rfl' | apply Ext.drew | apply Ext.alloc | refine Ext.trans ?_ (by assumption))⟩
        have := (cmpM_neg y x).2 ((e.2 k hlt x hxk).2.1 hk0 y hy')
        omega
      · have hbk : 0 < k → ∀ y', zs[k - 1]? = some y' → before y' x := fun _ y' h2 => by
          rw [hy'] at h2; injection h2 with h2; rw [← h2]; exact (cmpM_neg y x).1 (by omega)
        replace hx : Ext w w7 := (by repeat first | assumption | exact Ext.rfl' | apply Ext.drew | apply Ext.alloc | refine Ext.trans ?_ (by assumption))
        have z7 := hx.size
        apply G_on; exact rfl
        apply G1_mapUpdate (m := k); exact Try.underlying98; exact Try.underlying9; exact rfl; exact rfl; exact rfl; exact hxm; exact plainElem_int Try.underlying3 (by simp [Lit.wf, IntKind.min, IntKind.max, IntKind.bits, IntKind.signed]; omega); (simp only [maxLen]; omega); exact hm4; exact rfl; exact rfl; exact rfl
        intro w8 cn8 hm8 hg8 hc1 hc2
        replace hx : Ext w w8 := hx.own hg8 (fun k hk => by injection hk; omega)
        repeat' (first | (apply G_on; exact rfl; first | ((first | apply G1_assign | apply G1_move); exact rfl; exact rfl) | (apply G1_len; exact T.s28; exact rfl; exact rfl) | ((first | apply G1_gtr | apply G1_lss | apply G1_geq | apply G1_eql); exact rfl; exact rfl; exact rfl) | (apply G1_pick_t; exact rfl; exact rfl; exact rfl) | (apply G1_pick_f; exact rfl; exact rfl; exact rfl) | (apply G1_indexAddrN; exact T.s28; exact rfl; exact rfl; (first | assumption | exact Sl.ok (by assumption) | exact (Own.sl (by assumption)).ok); omega; exact rfl) | (apply G1_indexAddr; exact T.s28; exact rfl; exact rfl; (first | assumption | exact Sl.ok (by assumption) | exact (Own.sl (by assumption)).ok); omega; omega; exact rfl) | (apply G1_loadBAgg; exact T.a45; exact rfl; assumption; exact rfl; exact rfl) | (apply G1_loadEl; exact T.a45; exact rfl; assumption; assumption; exact rfl; exact rfl) | (apply G1_loadElSub; exact T.a45; exact rfl; assumption; assumption; exact rfl; exact rfl; exact rfl; exact rfl) | (apply G1_loadBSub; exact T.a45; exact rfl; assumption; exact rfl; exact rfl; exact rfl) | (apply G1_sub; exact rfl; exact rfl; omega; omega; exact rfl) | (apply G1_fieldAddr; exact T.f45_1; exact rfl; exact rfl) | (apply G1_loadB; exact T.p9; exact rfl; assumption; exact rfl; exact rfl) | (apply G1_loadBS; exact T.p9; exact rfl; assumption; exact rfl; (first | assumption | (focus (simp [exempt]; omega))); exact rfl) | (apply G1_loadFld; exact T.p9; exact rfl; assumption; assumption; exact rfl; exact rfl; exact rfl) | (apply G1_loadEl1; exact T.p9; exact rfl; assumption; assumption; exact rfl; exact rfl; exact rfl) | (apply G1_add; exact rfl; exact rfl; omega; omega; exact rfl)) | apply G_nil | apply Post_next | apply W_seq | apply W_region | (apply W_cond_true; exact rfl) | (apply W_cond_false; exact rfl) | (apply W_cond_dec; exact rfl; all_goals (intro h; try (exfalso; omega))) | (apply W_cond; exact rfl; all_goals intro h) | (apply G_off; exact rfl; exact rfl) | ((fail_if_success (apply G_on; exact rfl)); apply G_split_dec; exact rfl; exact rfl; all_goals (intro h; try (exfalso; omega))) | ((fail_if_success (apply G_on; exact rfl)); apply G_split; exact rfl; exact rfl; all_goals intro h) | refine W_drawn 1 [] [0,1,2,3,4,5,6,7,8,9,10,11] mixed (by decide +kernel) ?_ | apply W_skip | apply W_exit | apply W_ret | apply W_block | apply Post_then_ret | apply Post_block_ret | apply Post_then_exit | apply Post_block_exit | (apply Post_block_other; exact rfl) | apply Post_block_normal)
        refine Post_round (k + 1, cn8) ⟨rfl, rfl, rfl, rfl, rfl, trivial⟩ ⟨hx, by simp only; omega, hm8.iff (fun s => ?_), ?_, ?_, ?_⟩ (by simp only; omega)
        · constructor
          · rintro (rfl | ⟨j, y, hj, hy, e⟩)
            · exact ⟨k, x, by simp only; omega, hxk, rfl⟩
            · exact ⟨j, y, by simp only; omega, hy, e⟩
          · rintro ⟨j, y, hj, hy, e⟩
            simp only at hj
            rcases Nat.lt_or_ge j k with h2 | h2
            · exact .inr ⟨j, y, h2, hy, e⟩
            · have : j = k := by omega
              rw [this, hxk] at hy
              injection hy with hy
              exact .inl (by rw [← e, ← hy])
        · simp only
          by_cases hh : ∃ (j : Nat) (y : Int × ByteArray), j < k ∧ zs[j]? = some y ∧ y.2 = x.2
          · have := hc1 hh; omega
          · have := hc2 hh; omega
        · simp only
          intro i x' h0 hi hxi y2 hy2
          rcases Nat.lt_or_ge i k with h2 | h2
          · exact hbf i x' h0 h2 hxi y2 hy2
          · have : i = k := by omega
            subst this
            rw [hxk] at hxi
            injection hxi with hxi
            subst hxi
            exact hbk h0 y2 hy2
        · simp only
          constructor
          · intro e i x' hi hxi j y2 hj hy2
            have hh : ¬ ∃ (j : Nat) (y : Int × ByteArray), j < k ∧ zs[j]? = some y ∧ y.2 = x.2 := fun hh => by have := hc1 hh; omega
            have e2 := hc2 hh
            rcases Nat.lt_or_ge i k with h2 | h2
            · exact hiff.1 (by omega) i x' h2 hxi j y2 hj hy2
            · have : i = k := by omega
              subst this
              rw [hxk] at hxi
              injection hxi with hxi
              subst hxi
              exact fun e3 => hh ⟨j, y2, hj, hy2, e3⟩
          · intro e
            have e1 := hiff.2 (fun i x' hi hxi j y hj hy => e i x' (by omega) hxi j y hj hy)
            have hh : ¬ ∃ (j : Nat) (y : Int × ByteArray), j < k ∧ zs[j]? = some y ∧ y.2 = x.2 := fun ⟨j, y, hj, hy, e3⟩ => e k x (by omega) hxk j y hj hy e3
            have := hc2 hh
            omega
    · have hbk : 0 < k → ∀ y', zs[k - 1]? = some y' → before y' x := fun h0 => absurd h0 hk0
      repeat' (first | (apply G_on; exact rfl; first | ((first | apply G1_assign | apply G1_move); exact rfl; exact rfl) | (apply G1_len; exact T.s28; exact rfl; exact rfl) | ((first | apply G1_gtr | apply G1_lss | apply G1_geq | apply G1_eql); exact rfl; exact rfl; exact rfl) | (apply G1_pick_t; exact rfl; exact rfl; exact rfl) | (apply G1_pick_f; exact rfl; exact rfl; exact rfl) | (apply G1_indexAddrN; exact T.s28; exact rfl; exact rfl; (first | assumption | exact Sl.ok (by assumption) | exact (Own.sl (by assumption)).ok); omega; exact rfl) | (apply G1_indexAddr; exact T.s28; exact rfl; exact rfl; (first | assumption | exact Sl.ok (by assumption) | exact (Own.sl (by assumption)).ok); omega; omega; exact rfl) | (apply G1_loadBAgg; exact T.a45; exact rfl; assumption; exact rfl; exact rfl) | (apply G1_loadEl; exact T.a45; exact rfl; assumption; assumption; exact rfl; exact rfl) | (apply G1_loadElSub; exact T.a45; exact rfl; assumption; assumption; exact rfl; exact rfl; exact rfl; exact rfl) | (apply G1_loadBSub; exact T.a45; exact rfl; assumption; exact rfl; exact rfl; exact rfl) | (apply G1_sub; exact rfl; exact rfl; omega; omega; exact rfl) | (apply G1_fieldAddr; exact T.f45_1; exact rfl; exact rfl) | (apply G1_loadB; exact T.p9; exact rfl; assumption; exact rfl; exact rfl) | (apply G1_loadBS; exact T.p9; exact rfl; assumption; exact rfl; (first | assumption | (focus (simp [exempt]; omega))); exact rfl) | (apply G1_loadFld; exact T.p9; exact rfl; assumption; assumption; exact rfl; exact rfl; exact rfl) | (apply G1_loadEl1; exact T.p9; exact rfl; assumption; assumption; exact rfl; exact rfl; exact rfl) | (apply G1_add; exact rfl; exact rfl; omega; omega; exact rfl)) | apply G_nil | apply Post_next | apply W_seq | apply W_region | (apply W_cond_true; exact rfl) | (apply W_cond_false; exact rfl) | (apply W_cond_dec; exact rfl; all_goals (intro h; try (exfalso; omega))) | (apply W_cond; exact rfl; all_goals intro h) | (apply G_off; exact rfl; exact rfl) | ((fail_if_success (apply G_on; exact rfl)); apply G_split_dec; exact rfl; exact rfl; all_goals (intro h; try (exfalso; omega))) | ((fail_if_success (apply G_on; exact rfl)); apply G_split; exact rfl; exact rfl; all_goals intro h) | refine W_drawn 1 [] [0,1,2,3,4,5,6,7,8,9,10,11] mixed (by decide +kernel) ?_ | apply W_skip | apply W_exit | apply W_ret | apply W_block | apply Post_then_ret | apply Post_block_ret | apply Post_then_exit | apply Post_block_exit | (apply Post_block_other; exact rfl) | apply Post_block_normal)
      replace hx := hx.drew
      replace hm4 := hm4.ext (Ext.drew Ext.rfl')
      apply G_on; exact rfl
      apply G1_mapUpdate (m := k); exact Try.underlying98; exact Try.underlying9; exact rfl; exact rfl; exact rfl; exact hxm; exact plainElem_int Try.underlying3 (by simp [Lit.wf, IntKind.min, IntKind.max, IntKind.bits, IntKind.signed]; omega); (simp only [maxLen]; omega); exact hm4; exact rfl; exact rfl; exact rfl
      intro w8 cn8 hm8 hg8 hc1 hc2
      replace hx : Ext w w8 := hx.own hg8 (fun k hk => by injection hk; omega)
      repeat' (first | (apply G_on; exact rfl; first | ((first | apply G1_assign | apply G1_move); exact rfl; exact rfl) | (apply G1_len; exact T.s28; exact rfl; exact rfl) | ((first | apply G1_gtr | apply G1_lss | apply G1_geq | apply G1_eql); exact rfl; exact rfl; exact rfl) | (apply G1_pick_t; exact rfl; exact rfl; exact rfl) | (apply G1_pick_f; exact rfl; exact rfl; exact rfl) | (apply G1_indexAddrN; exact T.s28; exact rfl; exact rfl; (first | assumption | exact Sl.ok (by assumption) | exact (Own.sl (by assumption)).ok); omega; exact rfl) | (apply G1_indexAddr; exact T.s28; exact rfl; exact rfl; (first | assumption | exact Sl.ok (by assumption) | exact (Own.sl (by assumption)).ok); omega; omega; exact rfl) | (apply G1_loadBAgg; exact T.a45; exact rfl; assumption; exact rfl; exact rfl) | (apply G1_loadEl; exact T.a45; exact rfl; assumption; assumption; exact rfl; exact rfl) | (apply G1_loadElSub; exact T.a45; exact rfl; assumption; assumption; exact rfl; exact rfl; exact rfl; exact rfl) | (apply G1_loadBSub; exact T.a45; exact rfl; assumption; exact rfl; exact rfl; exact rfl) | (apply G1_sub; exact rfl; exact rfl; omega; omega; exact rfl) | (apply G1_fieldAddr; exact T.f45_1; exact rfl; exact rfl) | (apply G1_loadB; exact T.p9; exact rfl; assumption; exact rfl; exact rfl) | (apply G1_loadBS; exact T.p9; exact rfl; assumption; exact rfl; (first | assumption | (focus (simp [exempt]; omega))); exact rfl) | (apply G1_loadFld; exact T.p9; exact rfl; assumption; assumption; exact rfl; exact rfl; exact rfl) | (apply G1_loadEl1; exact T.p9; exact rfl; assumption; assumption; exact rfl; exact rfl; exact rfl) | (apply G1_add; exact rfl; exact rfl; omega; omega; exact rfl)) | apply G_nil | apply Post_next | apply W_seq | apply W_region | (apply W_cond_true; exact rfl) | (apply W_cond_false; exact rfl) | (apply W_cond_dec; exact rfl; all_goals (intro h; try (exfalso; omega))) | (apply W_cond; exact rfl; all_goals intro h) | (apply G_off; exact rfl; exact rfl) | ((fail_if_success (apply G_on; exact rfl)); apply G_split_dec; exact rfl; exact rfl; all_goals (intro h; try (exfalso; omega))) | ((fail_if_success (apply G_on; exact rfl)); apply G_split; exact rfl; exact rfl; all_goals intro h) | refine W_drawn 1 [] [0,1,2,3,4,5,6,7,8,9,10,11] mixed (by decide +kernel) ?_ | apply W_skip | apply W_exit | apply W_ret | apply W_block | apply Post_then_ret | apply Post_block_ret | apply Post_then_exit | apply Post_block_exit | (apply Post_block_other; exact rfl) | apply Post_block_normal)
      refine Post_round (k + 1, cn8) ⟨rfl, rfl, rfl, rfl, rfl, trivial⟩ ⟨hx, by simp only; omega, hm8.iff (fun s => ?_), ?_, ?_, ?_⟩ (by simp only; omega)
      · constructor
        · rintro (rfl | ⟨j, y, hj, hy, e⟩)
          · exact ⟨k, x, by simp only; omega, hxk, rfl⟩
          · exact ⟨j, y, by simp only; omega, hy, e⟩
        · rintro ⟨j, y, hj, hy, e⟩
          simp only at hj
          rcases Nat.lt_or_ge j k with h2 | h2
          · exact .inr ⟨j, y, h2, hy, e⟩
          · have : j = k := by omega
            rw [this, hxk] at hy
            injection hy with hy
            exact .inl (by rw [← e, ← hy])
      · simp only
        by_cases hh : ∃ (j : Nat) (y : Int × ByteArray), j < k ∧ zs[j]? = some y ∧ y.2 = x.2
        · have := hc1 hh; omega
        · have := hc2 hh; omega
      · simp only
        intro i x' h0 hi hxi y2 hy2
        rcases Nat.lt_or_ge i k with h2 | h2
        · exact hbf i x' h0 h2 hxi y2 hy2
        · have : i = k := by omega
          subst this
          rw [hxk] at hxi
          injection hxi with hxi
          subst hxi
          exact hbk h0 y2 hy2
      · simp only
        constructor
        · intro e i x' hi hxi j y2 hj hy2
          have hh : ¬ ∃ (j : Nat) (y : Int × ByteArray), j < k ∧ zs[j]? = some y ∧ y.2 = x.2 := fun hh => by have := hc1 hh; omega
          have e2 := hc2 hh
          rcases Nat.lt_or_ge i k with h2 | h2
          · exact hiff.1 (by omega) i x' h2 hxi j y2 hj hy2
          · have : i = k := by omega
            subst this
            rw [hxk] at hxi
            injection hxi with hxi
            subst hxi
            exact fun e3 => hh ⟨j, y2, hj, hy2, e3⟩
        · intro e
          have e1 := hiff.2 (fun i x' hi hxi j y hj hy => e i x' (by omega) hxi j y hj hy)
          have hh : ¬ ∃ (j : Nat) (y : Int × ByteArray), j < k ∧ zs[j]? = some y ∧ y.2 = x.2 := fun ⟨j, y, hj, hy, e3⟩ => e k x (by omega) hxk j y hj hy e3
          have := hc2 hh
          omega
  · repeat' (first | (apply G_on; exact rfl; first | ((first | apply G1_assign | apply G1_move); exact rfl; exact rfl) | (apply G1_mlen (t := 98); exact Try.underlying98; exact rfl; exact hm4; exact rfl) | (apply G1_len; exact T.s28; exact rfl; exact rfl) | ((first | apply G1_gtr | apply G1_lss | apply G1_geq | apply G1_eql); exact rfl; exact rfl; exact rfl) | (apply G1_pick_t; exact rfl; exact rfl; exact rfl) | (apply G1_pick_f; exact rfl; exact rfl; exact rfl) | (apply G1_indexAddrN; exact T.s28; exact rfl; exact rfl; (first | assumption | exact Sl.ok (by assumption) | exact (Own.sl (by assumption)).ok); omega; exact rfl) | (apply G1_indexAddr; exact T.s28; exact rfl; exact rfl; (first | assumption | exact Sl.ok (by assumption) | exact (Own.sl (by assumption)).ok); omega; omega; exact rfl) | (apply G1_loadBAgg; exact T.a45; exact rfl; assumption; exact rfl; exact rfl) | (apply G1_loadEl; exact T.a45; exact rfl; assumption; assumption; exact rfl; exact rfl) | (apply G1_loadElSub; exact T.a45; exact rfl; assumption; assumption; exact rfl; exact rfl; exact rfl; exact rfl) | (apply G1_loadBSub; exact T.a45; exact rfl; assumption; exact rfl; exact rfl; exact rfl) | (apply G1_sub; exact rfl; exact rfl; omega; omega; exact rfl) | (apply G1_fieldAddr; exact T.f45_1; exact rfl; exact rfl) | (apply G1_loadB; exact T.p9; exact rfl; assumption; exact rfl; exact rfl) | (apply G1_loadBS; exact T.p9; exact rfl; assumption; exact rfl; (first | assumption | (focus (simp [exempt]; omega))); exact rfl) | (apply G1_loadFld; exact T.p9; exact rfl; assumption; assumption; exact rfl; exact rfl; exact rfl) | (apply G1_loadEl1; exact T.p9; exact rfl; assumption; assumption; exact rfl; exact rfl; exact rfl) | (apply G1_add; exact rfl; exact rfl; omega; omega; exact rfl)) | apply G_nil | apply Post_next | apply W_seq | apply W_region | (apply W_cond_true; exact rfl) | (apply W_cond_false; exact rfl) | (apply W_cond_dec; exact rfl; all_goals (intro h; try (exfalso; omega))) | (apply W_cond; exact rfl; all_goals intro h) | (apply G_off; exact rfl; exact rfl) | ((fail_if_success (apply G_on; exact rfl)); apply G_split_dec; exact rfl; exact rfl; all_goals (intro h; try (exfalso; omega))) | ((fail_if_success (apply G_on; exact rfl)); apply G_split; exact rfl; exact rfl; all_goals intro h) | refine W_drawn 1 [] [0,1,2,3,4,5,6,7,8,9,10,11] mixed (by decide +kernel) ?_ | apply W_skip | apply W_exit | apply W_ret | apply W_block | apply Post_then_ret | apply Post_block_ret | apply Post_then_exit | apply Post_block_exit | (apply Post_block_other; exact rfl) | apply Post_block_normal)
    refine Post_ret Try.results63 ⟨_, _, rfl, rfl, rfl⟩ ?_
    have hk' : k = zs.length := by omega
    subst hk'
    refine ⟨_, rfl, ⟨fun e => ⟨hlen, fun i hi x hxi => ⟨hsmall x (List.mem_of_getElem? hxi), fun h0 y hy => hbf i x h0 hi hxi y hy, fun j y hj hy => hiff.1 (by have := of_decide_eq_true e; omega) i x hi hxi j y hj hy⟩⟩, fun e => decide_eq_true ?_⟩, hx4⟩
    have := hiff.2 (fun i x hi hxi j y hj hy => (e.2 i hi x hxi).2.2 j y hj hy)
    omega
end Go.Proofs.Ytomgghelhalaeaa
