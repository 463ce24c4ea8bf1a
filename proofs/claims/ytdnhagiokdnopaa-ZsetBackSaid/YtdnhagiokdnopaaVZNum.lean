/- Sums that may not fit. -/
import Derived.Test.YtdnhagiokdnopaaVTypes
import Derived.Test.YtdnhagiokdnopaaVPlain
namespace Go.V
def lo64 : Int := -9223372036854775808
def fit64 (n : Int) : Prop := -9223372036854775808 ≤ n ∧ n ≤ 9223372036854775807
instance (n : Int) : Decidable (fit64 n) := inferInstanceAs (Decidable (_ ∧ _))
/-- a sum, if it fits -/
def sum2 (a b : Int) : Int × Bool := if fit64 (a + b) then (a + b, true) else (0, false)
def sub2 (a b : Int) : Int × Bool := if fit64 (a - b) then (a - b, true) else (0, false)
def sums : Int → List Int → Int × Bool
  | a, [] => (a, true)
  | a, b :: bs => if fit64 (a + b) then sums (a + b) bs else (0, false)
theorem sums_one (a b : Int) : sums a [b] = sum2 a b := rfl
end Go.V
namespace Go.Proofs.Ytdnhagiokdnopaa
open Go.V
attribute [local irreducible] Blk Own hcell IntT SliceT PlainT AggT SizeT StrT FieldT ZeroT EqT ArrT
theorem num_add {p : Option Addr} {c : Nat} {a : Int} {bs : List Int} {w : World} (ha : fit64 a) (hC : Sl w.heap eInt p c bs) (hb : ∀ b ∈ bs, fit64 b) : Ctr Try.prog 32 [.int .i64 a, .slice p bs.length c] w (fun v w' => v = .tuple #[.int .i64 (sums a bs).1, .bool (sums a bs).2] ∧ Ext w w') := by
  have n1 := hC.bound
  refine Ctr_of Try.func32 Try.ntmps32 rfl rfl rfl ?_
  repeat' (first | (apply G_on; exact rfl; first | ((first | apply G1_assign | apply G1_move); exact rfl; exact rfl) | (apply G1_len; exact T.s66; exact rfl; exact rfl) | ((first | apply G1_lss | apply G1_gtr); exact rfl; exact rfl; exact rfl) | (apply G1_indexAddrN; exact T.s66; exact rfl; exact rfl; (first | assumption | exact Sl.ok (by assumption) | exact (Own.sl (by assumption)).ok); omega; exact rfl) | (apply G1_indexAddr; exact T.s66; exact rfl; exact rfl; (first | assumption | exact Sl.ok (by assumption) | exact (Own.sl (by assumption)).ok); omega; omega; exact rfl) | (apply G1_loadB; exact T.p3; exact rfl; assumption; exact rfl; exact rfl) | (apply G1_loadBS; exact T.p3; exact rfl; assumption; exact rfl; (first | assumption | (focus (simp [exempt]; omega))); exact rfl) | (apply G1_loadFld; exact T.p3; exact rfl; assumption; assumption; exact rfl; exact rfl; exact rfl) | (apply G1_loadEl1; exact T.p3; exact rfl; assumption; assumption; exact rfl; exact rfl; exact rfl) | (apply G1_sub; exact rfl; exact rfl; omega; omega; exact rfl) | (apply G1_pick_t; exact rfl; exact rfl; exact rfl) | (apply G1_pick_f; exact rfl; exact rfl; exact rfl) | (apply G1_add; exact rfl; exact rfl; omega; omega; exact rfl)) | apply G_nil | apply Post_next | apply W_seq | apply W_region | (apply W_cond_true; exact rfl) | (apply W_cond_false; exact rfl) | (apply W_cond_dec; exact rfl; all_goals (intro h; try (exfalso; omega))) | (apply W_cond; exact rfl; all_goals intro h) | (apply G_off; exact rfl; exact rfl) | ((fail_if_success (apply G_on; exact rfl)); apply G_split_dec; exact rfl; exact rfl; all_goals (intro h; try (exfalso; omega))) | ((fail_if_success (apply G_on; exact rfl)); apply G_split; exact rfl; exact rfl; all_goals intro h) | apply W_skip | apply W_exit | apply W_ret | apply W_block | apply Post_then_ret | apply Post_block_ret | apply Post_then_exit | apply Post_block_exit | (apply Post_block_other; exact rfl) | apply Post_block_normal)
  refine W_loop (ι := Nat × Int) (fun y => [(6, .int .i64 y.2), (10, .slice p bs.length c), (11, .int .i64 (bs.length : Int)), (12, .int .i64 (y.1 : Int))]) (fun y w' => Ext w w' ∧ y.1 ≤ bs.length ∧ fit64 y.2 ∧ sums a bs = sums y.2 (bs.drop y.1)) (fun y => bs.length - y.1) (0, a) ⟨rfl, rfl, rfl, rfl, trivial⟩ ⟨(by repeat first | assumption | exact Ext.rfl' | apply Ext.drew | apply Ext.alloc | refine Ext.trans ?_ (by assumption)), Nat.zero_le _, ha, rfl⟩ ?_
  rintro ⟨k, s⟩ w1 ⟨hx, hk, hs, hsum⟩
  simp only at hk hs hsum
  refine W_keep [(6, .int .i64 s), (10, .slice p bs.length c), (11, .int .i64 (bs.length : Int)), (12, .int .i64 (k : Int))] ⟨rfl, rfl, rfl, rfl, trivial⟩ ?_
  have hC1 := hC.ext hx
  by_cases hlt : k < bs.length
  · obtain ⟨b, hbk⟩ := get_some hlt
    have hfb := hb b (List.mem_of_getElem? hbk)
    have hd : bs.drop k = b :: bs.drop (k + 1) := by
      rw [List.drop_eq_getElem_cons hlt]
      rw [List.getElem?_eq_getElem hlt] at hbk
      injection hbk with hbk
      rw [hbk]
    rw [hd, sums] at hsum
    unfold fit64 at hs hfb
    by_cases hf : -9223372036854775808 ≤ s + b ∧ s + b ≤ 9223372036854775807
    · replace hsum := hsum.trans (if_pos hf)
      repeat' (first | (apply G_on; exact rfl; first | ((first | apply G1_assign | apply G1_move); exact rfl; exact rfl) | (apply G1_len; exact T.s66; exact rfl; exact rfl) | ((first | apply G1_lss | apply G1_gtr); exact rfl; exact rfl; exact rfl) | (apply G1_indexAddrN; exact T.s66; exact rfl; exact rfl; (first | assumption | exact Sl.ok (by assumption) | exact (Own.sl (by assumption)).ok); omega; exact rfl) | (apply G1_indexAddr; exact T.s66; exact rfl; exact rfl; (first | assumption | exact Sl.ok (by assumption) | exact (Own.sl (by assumption)).ok); omega; omega; exact rfl) | (apply G1_loadB; exact T.p3; exact rfl; assumption; exact rfl; exact rfl) | (apply G1_loadBS; exact T.p3; exact rfl; assumption; exact rfl; (first | assumption | (focus (simp [exempt]; omega))); exact rfl) | (apply G1_loadFld; exact T.p3; exact rfl; assumption; assumption; exact rfl; exact rfl; exact rfl) | (apply G1_loadEl1; exact T.p3; exact rfl; assumption; assumption; exact rfl; exact rfl; exact rfl) | (apply G1_sub; exact rfl; exact rfl; omega; omega; exact rfl) | (apply G1_pick_t; exact rfl; exact rfl; exact rfl) | (apply G1_pick_f; exact rfl; exact rfl; exact rfl) | (apply G1_add; exact rfl; exact rfl; omega; omega; exact rfl)) | apply G_nil | apply Post_next | apply W_seq | apply W_region | (apply W_cond_true; exact rfl) | (apply W_cond_false; exact rfl) | (apply W_cond_dec; exact rfl; all_goals (intro h; try (exfalso; omega))) | (apply W_cond; exact rfl; all_goals intro h) | (apply G_off; exact rfl; exact rfl) | ((fail_if_success (apply G_on; exact rfl)); apply G_split_dec; exact rfl; exact rfl; all_goals (intro h; try (exfalso; omega))) | ((fail_if_success (apply G_on; exact rfl)); apply G_split; exact rfl; exact rfl; all_goals intro h) | apply W_skip | apply W_exit | apply W_ret | apply W_block | apply Post_then_ret | apply Post_block_ret | apply Post_then_exit | apply Post_block_exit | (apply Post_block_other; exact rfl) | apply Post_block_normal)
      all_goals try (exfalso; omega)
      all_goals exact Post_round (k + 1, s + b) ⟨rfl, rfl, rfl, rfl, trivial⟩ ⟨(by repeat first | assumption | exact Ext.rfl' | apply Ext.drew | apply Ext.alloc | refine Ext.trans ?_ (by assumption)), by simp only; omega, hf, hsum⟩ (by simp only; omega)
    · replace hsum := hsum.trans (if_neg hf)
      repeat' (first | (apply G_on; exact rfl; first | ((first | apply G1_assign | apply G1_move); exact rfl; exact rfl) | (apply G1_len; exact T.s66; exact rfl; exact rfl) | ((first | apply G1_lss | apply G1_gtr); exact rfl; exact rfl; exact rfl) | (apply G1_indexAddrN; exact T.s66; exact rfl; exact rfl; (first | assumption | exact Sl.ok (by assumption) | exact (Own.sl (by assumption)).ok); omega; exact rfl) | (apply G1_indexAddr; exact T.s66; exact rfl; exact rfl; (first | assumption | exact Sl.ok (by assumption) | exact (Own.sl (by assumption)).ok); omega; omega; exact rfl) | (apply G1_loadB; exact T.p3; exact rfl; assumption; exact rfl; exact rfl) | (apply G1_loadBS; exact T.p3; exact rfl; assumption; exact rfl; (first | assumption | (focus (simp [exempt]; omega))); exact rfl) | (apply G1_loadFld; exact T.p3; exact rfl; assumption; assumption; exact rfl; exact rfl; exact rfl) | (apply G1_loadEl1; exact T.p3; exact rfl; assumption; assumption; exact rfl; exact rfl; exact rfl) | (apply G1_sub; exact rfl; exact rfl; omega; omega; exact rfl) | (apply G1_pick_t; exact rfl; exact rfl; exact rfl) | (apply G1_pick_f; exact rfl; exact rfl; exact rfl) | (apply G1_add; exact rfl; exact rfl; omega; omega; exact rfl)) | apply G_nil | apply Post_next | apply W_seq | apply W_region | (apply W_cond_true; exact rfl) | (apply W_cond_false; exact rfl) | (apply W_cond_dec; exact rfl; all_goals (intro h; try (exfalso; omega))) | (apply W_cond; exact rfl; all_goals intro h) | (apply G_off; exact rfl; exact rfl) | ((fail_if_success (apply G_on; exact rfl)); apply G_split_dec; exact rfl; exact rfl; all_goals (intro h; try (exfalso; omega))) | ((fail_if_success (apply G_on; exact rfl)); apply G_split; exact rfl; exact rfl; all_goals intro h) | apply W_skip | apply W_exit | apply W_ret | apply W_block | apply Post_then_ret | apply Post_block_ret | apply Post_then_exit | apply Post_block_exit | (apply Post_block_other; exact rfl) | apply Post_block_normal)
      all_goals try (exfalso; omega)
      all_goals
        refine Post_ret Try.results32 ⟨_, _, rfl, rfl, _, _, rfl, rfl, rfl⟩ ?_
        rw [hsum]
        exact ⟨rfl, (by repeat first | assumption | exact Ext.rfl' | apply Ext.drew | apply Ext.alloc | refine Ext.trans ?_ (by assumption))⟩
  · rw [List.drop_of_length_le (by omega)] at hsum
    repeat' (first | (apply G_on; exact rfl; first | ((first | apply G1_assign | apply G1_move); exact rfl; exact rfl) | (apply G1_len; exact T.s66; exact rfl; exact rfl) | ((first | apply G1_lss | apply G1_gtr); exact rfl; exact rfl; exact rfl) | (apply G1_indexAddrN; exact T.s66; exact rfl; exact rfl; (first | assumption | exact Sl.ok (by assumption) | exact (Own.sl (by assumption)).ok); omega; exact rfl) | (apply G1_indexAddr; exact T.s66; exact rfl; exact rfl; (first | assumption | exact Sl.ok (by assumption) | exact (Own.sl (by assumption)).ok); omega; omega; exact rfl) | (apply G1_loadB; exact T.p3; exact rfl; assumption; exact rfl; exact rfl) | (apply G1_loadBS; exact T.p3; exact rfl; assumption; exact rfl; (first | assumption | (focus (simp [exempt]; omega))); exact rfl) | (apply G1_loadFld; exact T.p3; exact rfl; assumption; assumption; exact rfl; exact rfl; exact rfl) | (apply G1_loadEl1; exact T.p3; exact rfl; assumption; assumption; exact rfl; exact rfl; exact rfl) | (apply G1_sub; exact rfl; exact rfl; omega; omega; exact rfl) | (apply G1_pick_t; exact rfl; exact rfl; exact rfl) | (apply G1_pick_f; exact rfl; exact rfl; exact rfl) | (apply G1_add; exact rfl; exact rfl; omega; omega; exact rfl)) | apply G_nil | apply Post_next | apply W_seq | apply W_region | (apply W_cond_true; exact rfl) | (apply W_cond_false; exact rfl) | (apply W_cond_dec; exact rfl; all_goals (intro h; try (exfalso; omega))) | (apply W_cond; exact rfl; all_goals intro h) | (apply G_off; exact rfl; exact rfl) | ((fail_if_success (apply G_on; exact rfl)); apply G_split_dec; exact rfl; exact rfl; all_goals (intro h; try (exfalso; omega))) | ((fail_if_success (apply G_on; exact rfl)); apply G_split; exact rfl; exact rfl; all_goals intro h) | apply W_skip | apply W_exit | apply W_ret | apply W_block | apply Post_then_ret | apply Post_block_ret | apply Post_then_exit | apply Post_block_exit | (apply Post_block_other; exact rfl) | apply Post_block_normal)
    refine Post_ret Try.results32 ⟨_, _, rfl, rfl, _, _, rfl, rfl, rfl⟩ ?_
    rw [hsum]
    exact ⟨rfl, (by repeat first | assumption | exact Ext.rfl' | apply Ext.drew | apply Ext.alloc | refine Ext.trans ?_ (by assumption))⟩
theorem wrap64_add (a b : Int) : IntKind.i64.wrap (IntKind.u64.wrap (IntKind.u64.wrap a + IntKind.u64.wrap b)) = IntKind.i64.wrap (a + b) := by
  simp only [IntKind.wrap_i64, IntKind.wrap_u64]; omega

theorem ref_add {a b : Int} {w : World} (ha : fit64 a) (hb : fit64 b) : Ctr Try.prog 20 [.int .i64 a, .int .i64 b] w (fun v w' => v = .tuple #[.int .i64 (sum2 a b).1, .bool (sum2 a b).2] ∧ Ext w w') := by
  unfold fit64 at ha hb
  have hw : IntKind.i64.wrap (a + b) = a + b ∨ (a + b < -9223372036854775808 ∧ IntKind.i64.wrap (a + b) = a + b + 18446744073709551616) ∨ (9223372036854775807 < a + b ∧ IntKind.i64.wrap (a + b) = a + b - 18446744073709551616) := by
    simp only [IntKind.wrap_i64]; omega
  obtain ⟨s, hs⟩ : ∃ s, s = IntKind.i64.wrap (a + b) := ⟨_, rfl⟩
  rw [← hs] at hw
  have hsr : -9223372036854775808 ≤ s ∧ s ≤ 9223372036854775807 := by rw [hs]; simp only [IntKind.wrap_i64]; omega
  have hwr : IntKind.i64.wrap (IntKind.u64.wrap (IntKind.u64.wrap a + IntKind.u64.wrap b)) = s := by rw [hs]; exact wrap64_add a b
  refine Ctr_of Try.func20 Try.ntmps20 rfl rfl rfl ?_
  by_cases hf : -9223372036854775808 ≤ a + b ∧ a + b ≤ 9223372036854775807
  · have e : sum2 a b = (a + b, true) := if_pos hf
    have hsa : s = a + b := by rw [hs]; exact wrap_i64 hf.1 hf.2
    repeat' (first | (apply G_on; exact rfl; first | ((first | apply G1_assign | apply G1_move); exact rfl; exact rfl) | (apply G1_convE (j := IntKind.u64.wrap a); exact rfl; exact T.i3; exact T.i58; exact rfl; exact rfl) | (apply G1_convE (j := IntKind.u64.wrap b); exact rfl; exact T.i3; exact T.i58; exact rfl; exact rfl) | (apply G1_convE (j := s); exact rfl; exact T.i58; exact T.i3; exact hwr; exact rfl) | (apply G1_addw; exact rfl; exact rfl; exact rfl) | (apply G1_convu64; exact rfl; exact T.i3; exact T.i58; omega; omega; exact rfl) | (apply G1_convi64; exact rfl; exact T.i58; exact T.i3; omega; omega; exact rfl) | ((first | apply G1_geq | apply G1_lss); exact rfl; exact rfl; exact rfl) | (apply G1_pick_t; exact rfl; exact rfl; exact rfl) | (apply G1_pick_f; exact rfl; exact rfl; exact rfl)) | apply G_nil | apply Post_next | apply W_seq | apply W_region | (apply W_cond_true; exact rfl) | (apply W_cond_false; exact rfl) | (apply W_cond_dec; exact rfl; all_goals (intro h; try (exfalso; omega))) | (apply W_cond; exact rfl; all_goals intro h) | (apply G_off; exact rfl; exact rfl) | ((fail_if_success (apply G_on; exact rfl)); apply G_split_dec; exact rfl; exact rfl; all_goals (intro h; try (exfalso; omega))) | ((fail_if_success (apply G_on; exact rfl)); apply G_split; exact rfl; exact rfl; all_goals intro h) | apply W_skip | apply W_exit | apply W_ret | apply W_block | apply Post_then_ret | apply Post_block_ret | apply Post_then_exit | apply Post_block_exit | (apply Post_block_other; exact rfl) | apply Post_block_normal)
    all_goals try (exfalso; omega)
    all_goals
      refine Post_ret Try.results20 ⟨_, _, rfl, rfl, _, _, rfl, rfl, rfl⟩ ?_
      rw [e, ← hsa]
      exact ⟨rfl, (by repeat first | assumption | exact Ext.rfl' | apply Ext.drew | apply Ext.alloc | refine Ext.trans ?_ (by assumption))⟩
  · have e : sum2 a b = (0, false) := if_neg hf
    repeat' (first | (apply G_on; exact rfl; first | ((first | apply G1_assign | apply G1_move); exact rfl; exact rfl) | (apply G1_convE (j := IntKind.u64.wrap a); exact rfl; exact T.i3; exact T.i58; exact rfl; exact rfl) | (apply G1_convE (j := IntKind.u64.wrap b); exact rfl; exact T.i3; exact T.i58; exact rfl; exact rfl) | (apply G1_convE (j := s); exact rfl; exact T.i58; exact T.i3; exact hwr; exact rfl) | (apply G1_addw; exact rfl; exact rfl; exact rfl) | (apply G1_convu64; exact rfl; exact T.i3; exact T.i58; omega; omega; exact rfl) | (apply G1_convi64; exact rfl; exact T.i58; exact T.i3; omega; omega; exact rfl) | ((first | apply G1_geq | apply G1_lss); exact rfl; exact rfl; exact rfl) | (apply G1_pick_t; exact rfl; exact rfl; exact rfl) | (apply G1_pick_f; exact rfl; exact rfl; exact rfl)) | apply G_nil | apply Post_next | apply W_seq | apply W_region | (apply W_cond_true; exact rfl) | (apply W_cond_false; exact rfl) | (apply W_cond_dec; exact rfl; all_goals (intro h; try (exfalso; omega))) | (apply W_cond; exact rfl; all_goals intro h) | (apply G_off; exact rfl; exact rfl) | ((fail_if_success (apply G_on; exact rfl)); apply G_split_dec; exact rfl; exact rfl; all_goals (intro h; try (exfalso; omega))) | ((fail_if_success (apply G_on; exact rfl)); apply G_split; exact rfl; exact rfl; all_goals intro h) | apply W_skip | apply W_exit | apply W_ret | apply W_block | apply Post_then_ret | apply Post_block_ret | apply Post_then_exit | apply Post_block_exit | (apply Post_block_other; exact rfl) | apply Post_block_normal)
    all_goals try (exfalso; omega)
    all_goals
      refine Post_ret Try.results20 ⟨_, _, rfl, rfl, _, _, rfl, rfl, rfl⟩ ?_
      rw [e]
      exact ⟨rfl, (by repeat first | assumption | exact Ext.rfl' | apply Ext.drew | apply Ext.alloc | refine Ext.trans ?_ (by assumption))⟩
theorem add_at {p : Option Addr} {c : Nat} {a : Int} {bs : List Int} {w : World} (ha : fit64 a) (hC : Sl w.heap eInt p c bs) (hb : ∀ b ∈ bs, fit64 b) {x : Int} {b : Bool} (hs : sums a bs = (x, b)) : Ctr Try.prog 32 [.int .i64 a, .slice p bs.length c] w (fun v w' => v = .tuple #[.int .i64 x, .bool b] ∧ Ext w w') :=
  (num_add ha hC hb).mono fun v w' ⟨h1, h2⟩ => ⟨by rw [h1, hs], h2⟩
theorem radd_at {a b : Int} {w : World} (ha : fit64 a) (hb : fit64 b) {x : Int} {ok : Bool} (hs : sum2 a b = (x, ok)) : Ctr Try.prog 20 [.int .i64 a, .int .i64 b] w (fun v w' => v = .tuple #[.int .i64 x, .bool ok] ∧ Ext w w') :=
  (ref_add ha hb).mono fun v w' ⟨h1, h2⟩ => ⟨by rw [h1, hs], h2⟩
end Go.Proofs.Ytdnhagiokdnopaa
