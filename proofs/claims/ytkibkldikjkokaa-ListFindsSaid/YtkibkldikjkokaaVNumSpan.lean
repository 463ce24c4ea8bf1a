/- num.Span, num.Place (for seats without strconv). -/
import Derived.Test.YtkibkldikjkokaaVTypes
namespace Go.V
def fitI (n : Int) : Prop := -9223372036854775808 ≤ n ∧ n ≤ 9223372036854775807
def spanI (start stop n : Int) : Int × Int :=
  if (if start < 0 then max (start + n) 0 else start) > min (if stop < 0 then stop + n else stop) (n - 1) then (0, 0) else ((if start < 0 then max (start + n) 0 else start), min (if stop < 0 then stop + n else stop) (n - 1) + 1)
end Go.V
namespace Go.Proofs.Ytkibkldikjkokaa
open Go.V
attribute [local irreducible] Blk Own hcell IntT SliceT PlainT AggT SizeT StrT FieldT ZeroT EqT ArrT
theorem tupI {x y x' y' : Int} (h1 : x = x') (h2 : y = y') : Value.tuple #[.int .i64 x, .int .i64 y] = .tuple #[.int .i64 x', .int .i64 y'] := by rw [h1, h2]
theorem span_spec {a b n : Int} {w : World} (ha : fitI a) (hb : fitI b) (h0 : 0 ≤ n) (hn : n ≤ 4611686018427387904) {x y : Int} (hxy : spanI a b n = (x, y)) : Ctr Try.prog 75 [.int .i64 a, .int .i64 b, .int .i64 n] w (fun v w' => v = .tuple #[.int .i64 x, .int .i64 y] ∧ Ext w w') := by
  have e1 : x = (spanI a b n).1 := by rw [hxy]
  have e2 : y = (spanI a b n).2 := by rw [hxy]
  rw [e1, e2]
  clear e1 e2 hxy
  unfold fitI at ha hb
  have hm : max n 0 = n := by omega
  refine Ctr_of Try.func75 Try.ntmps75 rfl rfl rfl ?_
  repeat' (first | (apply G_on; exact rfl; first | ((first | apply G1_assign | apply G1_move); exact rfl; exact rfl) | ((first | apply G1_max | apply G1_lss | apply G1_min | apply G1_gtr); exact rfl; exact rfl; exact rfl) | (apply G1_add; exact rfl; exact rfl; omega; omega; exact rfl) | (apply G1_sub; exact rfl; exact rfl; omega; omega; exact rfl)) | apply G_nil | apply Post_next | apply W_seq | apply W_region | (apply W_cond_true; exact rfl) | (apply W_cond_false; exact rfl) | (apply W_cond_dec; exact rfl; all_goals (intro h; try (exfalso; omega))) | (apply W_cond; exact rfl; all_goals intro h) | (apply G_off; exact rfl; exact rfl) | ((fail_if_success (apply G_on; exact rfl)); apply G_split_dec; exact rfl; exact rfl; all_goals (intro h; try (exfalso; omega))) | ((fail_if_success (apply G_on; exact rfl)); apply G_split; exact rfl; exact rfl; all_goals intro h) | apply W_skip | apply W_exit | apply W_ret | apply W_block | apply Post_then_ret | apply Post_block_ret | apply Post_then_exit | apply Post_block_exit | (apply Post_block_other; exact rfl) | apply Post_block_normal)
  all_goals
    refine Post_ret Try.results75 ⟨_, _, rfl, rfl, _, _, rfl, rfl, rfl⟩ ?_
    refine ⟨tupI (by unfold spanI; (repeat' split) <;> (first | omega | (simp only; done) | (simp only; omega))) (by unfold spanI; (repeat' split) <;> (first | omega | (simp only; done) | (simp only; omega))), (by repeat first | assumption | exact Ext.rfl' | apply Ext.drew | apply Ext.alloc | refine Ext.trans ?_ (by assumption))⟩
theorem place_spec {i n : Nat} {w : World} (hi : i < n) (hn : n ≤ 1000000) : Ctr Try.prog 81 [.int .i64 (i : Int), .int .i64 (n : Int)] w (fun v w' => v = .tuple #[.int .i64 (i : Int), .bool true] ∧ Ext w w') := by
  have hm : max (n : Int) 0 = n := by omega
  refine Ctr_of Try.func81 Try.ntmps81 rfl rfl rfl ?_
  repeat' (first | (apply G_on; exact rfl; first | ((first | apply G1_assign | apply G1_move); exact rfl; exact rfl) | ((first | apply G1_max | apply G1_lss | apply G1_geq); exact rfl; exact rfl; exact rfl) | (apply G1_add; exact rfl; exact rfl; omega; omega; exact rfl) | (apply G1_pick_t; exact rfl; exact rfl; exact rfl) | (apply G1_pick_f; exact rfl; exact rfl; exact rfl)) | apply G_nil | apply Post_next | apply W_seq | apply W_region | (apply W_cond_true; exact rfl) | (apply W_cond_false; exact rfl) | (apply W_cond_dec; exact rfl; all_goals (intro h; try (exfalso; omega))) | (apply W_cond; exact rfl; all_goals intro h) | (apply G_off; exact rfl; exact rfl) | ((fail_if_success (apply G_on; exact rfl)); apply G_split_dec; exact rfl; exact rfl; all_goals (intro h; try (exfalso; omega))) | ((fail_if_success (apply G_on; exact rfl)); apply G_split; exact rfl; exact rfl; all_goals intro h) | apply W_skip | apply W_exit | apply W_ret | apply W_block | apply Post_then_ret | apply Post_block_ret | apply Post_then_exit | apply Post_block_exit | (apply Post_block_other; exact rfl) | apply Post_block_normal)
  all_goals try (exfalso; omega)
  refine Post_ret Try.results81 ⟨_, _, rfl, rfl, _, _, rfl, rfl, rfl⟩ ?_
  exact ⟨rfl, (by repeat first | assumption | exact Ext.rfl' | apply Ext.drew | apply Ext.alloc | refine Ext.trans ?_ (by assumption))⟩
end Go.Proofs.Ytkibkldikjkokaa
