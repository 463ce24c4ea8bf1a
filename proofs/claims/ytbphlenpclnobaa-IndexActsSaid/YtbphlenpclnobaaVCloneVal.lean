/- The functions that clone slices. -/
import Derived.Test.YtbphlenpclnobaaVTypes
namespace Go.Proofs.Ytbphlenpclnobaa
open Go.V
attribute [local irreducible] Blk Own hcell IntT SliceT PlainT AggT SizeT StrT FieldT ZeroT EqT ArrT
 theorem clone_pairs {p : Option Addr} {c : Nat} {xs : List (ByteArray × ByteArray)} {w : World} (hx : Sl w.heap ePair p c xs) (hb : xs.length ≤ 1000000) :
    Ctr Try.prog 56 [.slice p xs.length c] w (fun v w' => ∃ p' c', v = .slice p' xs.length c' ∧ Own w' w.heap.size 101 ePair p' c' xs ∧ Ext w w') := by
  refine Ctr_of Try.func56 Try.ntmps56 rfl rfl rfl ?_
  repeat' (first | (apply G_on; exact rfl; first | ((first | apply G1_assign | apply G1_move); exact rfl; exact rfl) | (apply G1_nileql; exact T.s45; exact rfl; exact rfl; exact rfl)) | apply G_nil | apply Post_next | apply W_seq | apply W_region | (apply W_cond_true; exact rfl) | (apply W_cond_false; exact rfl) | (apply W_cond_dec; exact rfl; all_goals (intro h; try (exfalso; omega))) | (apply W_cond; exact rfl; all_goals intro h) | (apply G_off; exact rfl; exact rfl) | ((fail_if_success (apply G_on; exact rfl)); apply G_split_dec; exact rfl; exact rfl; all_goals (intro h; try (exfalso; omega))) | ((fail_if_success (apply G_on; exact rfl)); apply G_split; exact rfl; exact rfl; all_goals intro h) | apply W_skip | apply W_exit | apply W_ret | apply W_block | apply Post_then_ret | apply Post_block_ret | apply Post_then_exit | apply Post_block_exit | (apply Post_block_other; exact rfl) | apply Post_block_normal)
  · refine Post_ret Try.results56 ⟨_, _, rfl, rfl, rfl⟩ ?_
    have hn : p = none := by simpa using h
    have h1 := hx.ok.nul hn
    have h2 := hx.ok.le
    obtain rfl : xs = [] := List.eq_nil_of_length_eq_zero (by omega)
    exact ⟨none, 0, rfl, Own.nil _ _ _ _, (by repeat first | assumption | exact Ext.rfl' | apply Ext.drew | apply Ext.alloc | refine Ext.trans ?_ (by assumption))⟩
  · apply G_on; exact rfl
    apply G1_build0 ePair; exact T.s45; exact rfl; exact rfl
    intro p1 w1 ho hx1 hs1
    have hsl := hx.ext hx1
    repeat' (first | (apply G_on; exact rfl; first | ((first | apply G1_assign | apply G1_move); exact rfl; exact rfl) | (apply G1_append; exact T.s45; exact rfl; exact rfl; exact ho; exact hsl; exact rfl; omega; (simp; omega); (simp; omega); exact rfl; exact rfl; exact rfl; intro p2 c2 w2 ho2 hg2 hn2) | (apply G1_nileql; exact T.s45; exact rfl; exact rfl; exact rfl)) | apply G_nil | apply Post_next | apply W_seq | apply W_region | (apply W_cond_true; exact rfl) | (apply W_cond_false; exact rfl) | (apply W_cond_dec; exact rfl; all_goals (intro h; try (exfalso; omega))) | (apply W_cond; exact rfl; all_goals intro h) | (apply G_off; exact rfl; exact rfl) | ((fail_if_success (apply G_on; exact rfl)); apply G_split_dec; exact rfl; exact rfl; all_goals (intro h; try (exfalso; omega))) | ((fail_if_success (apply G_on; exact rfl)); apply G_split; exact rfl; exact rfl; all_goals intro h) | apply W_skip | apply W_exit | apply W_ret | apply W_block | apply Post_then_ret | apply Post_block_ret | apply Post_then_exit | apply Post_block_exit | (apply Post_block_other; exact rfl) | apply Post_block_normal)
    refine Post_ret Try.results56 ⟨_, _, rfl, rfl, rfl⟩ ?_
    exact ⟨p2, c2, rfl, ho2, Ext.own hx1 hg2 (fun k hk => (ho.ge k hk).1)⟩

 theorem clone_strs {p : Option Addr} {c : Nat} {xs : List ByteArray} {w : World} (hx : Sl w.heap eStr p c xs) (hb : xs.length ≤ 1000000) :
    Ctr Try.prog 57 [.slice p xs.length c] w (fun v w' => ∃ p' c', v = .slice p' xs.length c' ∧ Own w' w.heap.size 9 eStr p' c' xs ∧ Ext w w') := by
  refine Ctr_of Try.func57 Try.ntmps57 rfl rfl rfl ?_
  repeat' (first | (apply G_on; exact rfl; first | ((first | apply G1_assign | apply G1_move); exact rfl; exact rfl) | (apply G1_nileql; exact T.s26; exact rfl; exact rfl; exact rfl)) | apply G_nil | apply Post_next | apply W_seq | apply W_region | (apply W_cond_true; exact rfl) | (apply W_cond_false; exact rfl) | (apply W_cond_dec; exact rfl; all_goals (intro h; try (exfalso; omega))) | (apply W_cond; exact rfl; all_goals intro h) | (apply G_off; exact rfl; exact rfl) | ((fail_if_success (apply G_on; exact rfl)); apply G_split_dec; exact rfl; exact rfl; all_goals (intro h; try (exfalso; omega))) | ((fail_if_success (apply G_on; exact rfl)); apply G_split; exact rfl; exact rfl; all_goals intro h) | apply W_skip | apply W_exit | apply W_ret | apply W_block | apply Post_then_ret | apply Post_block_ret | apply Post_then_exit | apply Post_block_exit | (apply Post_block_other; exact rfl) | apply Post_block_normal)
  · refine Post_ret Try.results57 ⟨_, _, rfl, rfl, rfl⟩ ?_
    have hn : p = none := by simpa using h
    have h1 := hx.ok.nul hn
    have h2 := hx.ok.le
    obtain rfl : xs = [] := List.eq_nil_of_length_eq_zero (by omega)
    exact ⟨none, 0, rfl, Own.nil _ _ _ _, (by repeat first | assumption | exact Ext.rfl' | apply Ext.drew | apply Ext.alloc | refine Ext.trans ?_ (by assumption))⟩
  · apply G_on; exact rfl
    apply G1_build0 eStr; exact T.s26; exact rfl; exact rfl
    intro p1 w1 ho hx1 hs1
    have hsl := hx.ext hx1
    repeat' (first | (apply G_on; exact rfl; first | ((first | apply G1_assign | apply G1_move); exact rfl; exact rfl) | (apply G1_append; exact T.s26; exact rfl; exact rfl; exact ho; exact hsl; exact rfl; omega; (simp; omega); (simp; omega); exact rfl; exact rfl; exact rfl; intro p2 c2 w2 ho2 hg2 hn2) | (apply G1_nileql; exact T.s26; exact rfl; exact rfl; exact rfl)) | apply G_nil | apply Post_next | apply W_seq | apply W_region | (apply W_cond_true; exact rfl) | (apply W_cond_false; exact rfl) | (apply W_cond_dec; exact rfl; all_goals (intro h; try (exfalso; omega))) | (apply W_cond; exact rfl; all_goals intro h) | (apply G_off; exact rfl; exact rfl) | ((fail_if_success (apply G_on; exact rfl)); apply G_split_dec; exact rfl; exact rfl; all_goals (intro h; try (exfalso; omega))) | ((fail_if_success (apply G_on; exact rfl)); apply G_split; exact rfl; exact rfl; all_goals intro h) | apply W_skip | apply W_exit | apply W_ret | apply W_block | apply Post_then_ret | apply Post_block_ret | apply Post_then_exit | apply Post_block_exit | (apply Post_block_other; exact rfl) | apply Post_block_normal)
    refine Post_ret Try.results57 ⟨_, _, rfl, rfl, rfl⟩ ?_
    exact ⟨p2, c2, rfl, ho2, Ext.own hx1 hg2 (fun k hk => (ho.ge k hk).1)⟩

 theorem clone_mems {p : Option Addr} {c : Nat} {xs : List (Int × ByteArray)} {w : World} (hx : Sl w.heap eMem p c xs) (hb : xs.length ≤ 1000000) :
    Ctr Try.prog 58 [.slice p xs.length c] w (fun v w' => ∃ p' c', v = .slice p' xs.length c' ∧ Own w' w.heap.size 105 eMem p' c' xs ∧ Ext w w') := by
  refine Ctr_of Try.func58 Try.ntmps58 rfl rfl rfl ?_
  repeat' (first | (apply G_on; exact rfl; first | ((first | apply G1_assign | apply G1_move); exact rfl; exact rfl) | (apply G1_nileql; exact T.s46; exact rfl; exact rfl; exact rfl)) | apply G_nil | apply Post_next | apply W_seq | apply W_region | (apply W_cond_true; exact rfl) | (apply W_cond_false; exact rfl) | (apply W_cond_dec; exact rfl; all_goals (intro h; try (exfalso; omega))) | (apply W_cond; exact rfl; all_goals intro h) | (apply G_off; exact rfl; exact rfl) | ((fail_if_success (apply G_on; exact rfl)); apply G_split_dec; exact rfl; exact rfl; all_goals (intro h; try (exfalso; omega))) | ((fail_if_success (apply G_on; exact rfl)); apply G_split; exact rfl; exact rfl; all_goals intro h) | apply W_skip | apply W_exit | apply W_ret | apply W_block | apply Post_then_ret | apply Post_block_ret | apply Post_then_exit | apply Post_block_exit | (apply Post_block_other; exact rfl) | apply Post_block_normal)
  · refine Post_ret Try.results58 ⟨_, _, rfl, rfl, rfl⟩ ?_
    have hn : p = none := by simpa using h
    have h1 := hx.ok.nul hn
    have h2 := hx.ok.le
    obtain rfl : xs = [] := List.eq_nil_of_length_eq_zero (by omega)
    exact ⟨none, 0, rfl, Own.nil _ _ _ _, (by repeat first | assumption | exact Ext.rfl' | apply Ext.drew | apply Ext.alloc | refine Ext.trans ?_ (by assumption))⟩
  · apply G_on; exact rfl
    apply G1_build0 eMem; exact T.s46; exact rfl; exact rfl
    intro p1 w1 ho hx1 hs1
    have hsl := hx.ext hx1
    repeat' (first | (apply G_on; exact rfl; first | ((first | apply G1_assign | apply G1_move); exact rfl; exact rfl) | (apply G1_append; exact T.s46; exact rfl; exact rfl; exact ho; exact hsl; exact rfl; omega; (simp; omega); (simp; omega); exact rfl; exact rfl; exact rfl; intro p2 c2 w2 ho2 hg2 hn2) | (apply G1_nileql; exact T.s46; exact rfl; exact rfl; exact rfl)) | apply G_nil | apply Post_next | apply W_seq | apply W_region | (apply W_cond_true; exact rfl) | (apply W_cond_false; exact rfl) | (apply W_cond_dec; exact rfl; all_goals (intro h; try (exfalso; omega))) | (apply W_cond; exact rfl; all_goals intro h) | (apply G_off; exact rfl; exact rfl) | ((fail_if_success (apply G_on; exact rfl)); apply G_split_dec; exact rfl; exact rfl; all_goals (intro h; try (exfalso; omega))) | ((fail_if_success (apply G_on; exact rfl)); apply G_split; exact rfl; exact rfl; all_goals intro h) | apply W_skip | apply W_exit | apply W_ret | apply W_block | apply Post_then_ret | apply Post_block_ret | apply Post_then_exit | apply Post_block_exit | (apply Post_block_other; exact rfl) | apply Post_block_normal)
    refine Post_ret Try.results58 ⟨_, _, rfl, rfl, rfl⟩ ?_
    exact ⟨p2, c2, rfl, ho2, Ext.own hx1 hg2 (fun k hk => (ho.ge k hk).1)⟩

end Go.Proofs.Ytbphlenpclnobaa
