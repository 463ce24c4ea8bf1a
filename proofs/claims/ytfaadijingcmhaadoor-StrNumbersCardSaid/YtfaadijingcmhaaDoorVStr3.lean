/- str: Count, Find. -/
import Derived.Test.YtfaadijingcmhaaDoorVStr2
namespace Go.V
def onesF (f : UInt8 → Nat) (l : List UInt8) : Nat := (l.map f).sum
theorem onesF_app (f : UInt8 → Nat) (a b : List UInt8) : onesF f (a ++ b) = onesF f a + onesF f b := by simp [onesF]
theorem onesF_le {f : UInt8 → Nat} (hf : ∀ c, f c ≤ 255) : ∀ l : List UInt8, onesF f l ≤ 255 * l.length
  | [] => by simp [onesF]
  | c :: l => by
    have := onesF_le hf l
    have h2 := hf c
    simp only [onesF, List.map_cons, List.sum_cons, List.length_cons] at this ⊢
    omega
theorem list_bget' {s : ByteArray} {k : Nat} (h : k < s.size) : s.data.toList[k]? = some (bget s k) := by
  have h' : k < s.data.toList.length := by rw [Array.length_toList]; exact h
  have h2 : k < s.data.size := h
  rw [List.getElem?_eq_getElem h', bget_list, List.getD_eq_getElem?_getD, List.getElem?_eq_getElem h']
  rfl
/-- what is between -/
def cutL (s : ByteArray) (x y : Nat) : List UInt8 := (s.data.toList.drop x).take (y - x)
theorem cutL_succ {s : ByteArray} {x y : Nat} (h1 : x ≤ y) (h2 : y < s.size) : cutL s x (y + 1) = cutL s x y ++ [bget s y] := by
  have hc := list_bget' h2
  unfold cutL
  rw [show y + 1 - x = (y - x) + 1 by omega, List.take_add_one, List.getElem?_drop, show x + (y - x) = y by omega, hc]
  rfl
theorem cutL_self (s : ByteArray) (x : Nat) : cutL s x x = [] := by unfold cutL; simp
theorem cutL_cat (s : ByteArray) {k : Nat} (hk : k ≤ s.size) : cutL s 0 k ++ cutL s k s.size = cutL s 0 s.size := by
  have hl : s.data.toList.length = s.size := by rw [Array.length_toList]; rfl
  unfold cutL
  rw [Nat.sub_zero, Nat.sub_zero, List.drop_zero, List.take_of_length_le (show (s.data.toList.drop k).length ≤ s.size - k by rw [List.length_drop, hl]; exact Nat.le_refl _), List.take_append_drop, List.take_of_length_le (by rw [hl]; exact Nat.le_refl _)]
end Go.V
namespace Go.Proofs.YtfaadijingcmhaaDoor
open Go.V
attribute [local irreducible] Blk Own hcell IntT SliceT PlainT AggT SizeT StrT FieldT ZeroT EqT ArrT
def popS : ByteArray := ⟨#[0, 1, 1, 2, 1, 2, 2, 3, 1, 2, 2, 3, 2, 3, 3, 4, 1, 2, 2, 3, 2, 3, 3, 4, 2, 3, 3, 4, 3, 4, 4, 5, 1, 2, 2, 3, 2, 3, 3, 4, 2, 3, 3, 4, 3, 4, 4, 5, 2, 3, 3, 4, 3, 4, 4, 5, 3, 4, 4, 5, 4, 5, 5, 6, 1, 2, 2, 3, 2, 3, 3, 4, 2, 3, 3, 4, 3, 4, 4, 5, 2, 3, 3, 4, 3, 4, 4, 5, 3, 4, 4, 5, 4, 5, 5, 6, 2, 3, 3, 4, 3, 4, 4, 5, 3, 4, 4, 5, 4, 5, 5, 6, 3, 4, 4, 5, 4, 5, 5, 6, 4, 5, 5, 6, 5, 6, 6, 7, 1, 2, 2, 3, 2, 3, 3, 4, 2, 3, 3, 4, 3, 4, 4, 5, 2, 3, 3, 4, 3, 4, 4, 5, 3, 4, 4, 5, 4, 5, 5, 6, 2, 3, 3, 4, 3, 4, 4, 5, 3, 4, 4, 5, 4, 5, 5, 6, 3, 4, 4, 5, 4, 5, 5, 6, 4, 5, 5, 6, 5, 6, 6, 7, 2, 3, 3, 4, 3, 4, 4, 5, 3, 4, 4, 5, 4, 5, 5, 6, 3, 4, 4, 5, 4, 5, 5, 6, 4, 5, 5, 6, 5, 6, 6, 7, 3, 4, 4, 5, 4, 5, 5, 6, 4, 5, 5, 6, 5, 6, 6, 7, 4, 5, 5, 6, 5, 6, 6, 7, 5, 6, 6, 7, 6, 7, 7, 8]⟩
def pop (c : UInt8) : Nat := (bget popS c.toNat).toNat
theorem pop_le (c : UInt8) : pop c ≤ 255 := by unfold pop; have h9 := UInt8.toNat_lt (bget popS c.toNat); omega
theorem popS_size : popS.size = 256 := by decide +kernel
theorem ones_spec (c : UInt8) {w : World} : Ctr Tryd.prog 28 [.int .u8 (c.toNat : Int)] w (fun v w' => v = .int .i64 (pop c : Int) ∧ Ext w w') := by
  have hc := c.toNat_lt
  have hp := pop_le c
  have hsz := popS_size
  refine Ctr_of Tryd.func28 Tryd.ntmps28 rfl rfl rfl ?_
  repeat' (first | (apply G_on; exact rfl; first | ((first | apply G1_assign | apply G1_move); exact rfl; exact rfl) | (apply G1_sindex; exact T.str9; exact rfl; exact rfl; omega; omega; exact rfl) | (apply G1_convi64; exact rfl; exact T.i5; exact T.i3; omega; omega; exact rfl)) | apply G_nil | apply Post_next | apply W_seq | apply W_region | (apply W_cond_true; exact rfl) | (apply W_cond_false; exact rfl) | (apply W_cond_dec; exact rfl; all_goals (intro h; try (exfalso; omega))) | (apply W_cond; exact rfl; all_goals intro h) | (apply G_off; exact rfl; exact rfl) | ((fail_if_success (apply G_on; exact rfl)); apply G_split_dec; exact rfl; exact rfl; all_goals (intro h; try (exfalso; omega))) | ((fail_if_success (apply G_on; exact rfl)); apply G_split; exact rfl; exact rfl; all_goals intro h) | apply W_skip | apply W_exit | apply W_ret | apply W_block | apply Post_then_ret | apply Post_block_ret | apply Post_then_exit | apply Post_block_exit | (apply Post_block_other; exact rfl) | apply Post_block_normal)
  apply G_on; exact rfl
  apply G1_sindexJ (q := c.toNat) (s := popS); exact T.str9
  · show some (Value.string _) = some (Value.string popS)
    refine congrArg (fun z => some (Value.string z)) ?_
    kernel_rfl
  · exact rfl
  · exact rfl
  · omega
  · exact rfl
  repeat' (first | (apply G_on; exact rfl; first | ((first | apply G1_assign | apply G1_move); exact rfl; exact rfl) | (apply G1_convE (j := (pop c : Int)); exact rfl; exact T.i5; exact T.i3; (show IntKind.i64.wrap (pop c : Int) = (pop c : Int); exact wrap_i64 (by omega) (by omega)); exact rfl) | (apply G1_sindex; exact T.str9; exact rfl; exact rfl; omega; omega; exact rfl) | (apply G1_convi64; exact rfl; exact T.i5; exact T.i3; omega; omega; exact rfl)) | apply G_nil | apply Post_next | apply W_seq | apply W_region | (apply W_cond_true; exact rfl) | (apply W_cond_false; exact rfl) | (apply W_cond_dec; exact rfl; all_goals (intro h; try (exfalso; omega))) | (apply W_cond; exact rfl; all_goals intro h) | (apply G_off; exact rfl; exact rfl) | ((fail_if_success (apply G_on; exact rfl)); apply G_split_dec; exact rfl; exact rfl; all_goals (intro h; try (exfalso; omega))) | ((fail_if_success (apply G_on; exact rfl)); apply G_split; exact rfl; exact rfl; all_goals intro h) | apply W_skip | apply W_exit | apply W_ret | apply W_block | apply Post_then_ret | apply Post_block_ret | apply Post_then_exit | apply Post_block_exit | (apply Post_block_other; exact rfl) | apply Post_block_normal)
  refine Post_ret Tryd.results28 ⟨_, _, rfl, rfl, rfl⟩ ?_
  exact ⟨rfl, (by repeat first | assumption | exact Ext.rfl' | apply Ext.drew | apply Ext.alloc | refine Ext.trans ?_ (by assumption))⟩
theorem count_spec {s : ByteArray} {a b : Int} {w : World} (ha : fit64 a) (hb : fit64 b) (hs : s.size ≤ 1000000) {x y : Nat} (hsp0 : spanF a b (s.size : Int) = ((x : Int), (y : Int))) (h1 : x ≤ y) (h2 : y ≤ s.size) :
    Ctr Tryd.prog 20 [.string s, .int .i64 a, .int .i64 b] w (fun v w' => v = .int .i64 (onesF pop (cutL s x y) : Int) ∧ Ext w w') := by
  have hsp : ∀ w, Ctr Tryd.prog 24 [.int .i64 a, .int .i64 b, .int .i64 (s.size : Int)] w (fun v w' => v = .tuple #[.int .i64 (x : Int), .int .i64 (y : Int)] ∧ Ext w w') := fun w => by
    have := num_span (w := w) ha hb (show (0 : Int) ≤ (s.size : Int) by omega) (by omega)
    rw [hsp0] at this; exact this
  refine Ctr_of Tryd.func20 Tryd.ntmps20 rfl rfl rfl ?_
  repeat' (first | (apply G_on; exact rfl; first | ((first | apply G1_assign | apply G1_move); exact rfl; exact rfl) | (apply G1_call (f := 24); exact rfl; exact rfl; exact rfl; exact hsp _; rintro _ w1 ⟨rfl, hx1⟩; refine ⟨(by first | exact .inl rfl | exact .inr (by assumption)), ?_⟩) | (apply G1_slen; exact T.str9; exact rfl; exact rfl) | ((first | apply G1_extract | apply G1_lss); exact rfl; exact rfl; exact rfl) | (apply G1_sindex; exact T.str9; exact rfl; exact rfl; omega; omega; exact rfl) | (apply G1_add; exact rfl; exact rfl; omega; omega; exact rfl)) | apply G_nil | apply Post_next | apply W_seq | apply W_region | (apply W_cond_true; exact rfl) | (apply W_cond_false; exact rfl) | (apply W_cond_dec; exact rfl; all_goals (intro h; try (exfalso; omega))) | (apply W_cond; exact rfl; all_goals intro h) | (apply G_off; exact rfl; exact rfl) | ((fail_if_success (apply G_on; exact rfl)); apply G_split_dec; exact rfl; exact rfl; all_goals (intro h; try (exfalso; omega))) | ((fail_if_success (apply G_on; exact rfl)); apply G_split; exact rfl; exact rfl; all_goals intro h) | apply W_skip | apply W_exit | apply W_ret | apply W_block | apply Post_then_ret | apply Post_block_ret | apply Post_then_exit | apply Post_block_exit | (apply Post_block_other; exact rfl) | apply Post_block_normal)
  refine W_loop (ι := Nat) (fun k => [(0, .string s), (8, .int .i64 (y : Int)), (9, .int .i64 (onesF pop (cutL s x k) : Int)), (10, .int .i64 (k : Int))]) (fun k w' => Ext w w' ∧ x ≤ k ∧ k ≤ y) (fun k => y - k) x ⟨rfl, rfl, by rw [cutL_self]; rfl, rfl, trivial⟩ ⟨(by repeat first | assumption | exact Ext.rfl' | apply Ext.drew | apply Ext.alloc | refine Ext.trans ?_ (by assumption)), Nat.le_refl _, h1⟩ ?_
  rintro k w2 ⟨hx, hk1, hk2⟩
  have hle : ∀ k, onesF pop (cutL s x k) ≤ 255000000 := fun k => by
    have h3 := onesF_le pop_le (cutL s x k)
    have h4 : (cutL s x k).length ≤ s.size := by unfold cutL; rw [List.length_take, List.length_drop, sdl]; omega
    omega
  have hlk := hle k
  by_cases hlt : k < y
  · have hc := cutL_succ (s := s) hk1 (show k < s.size by omega)
    have hle1 := pop_le (bget s k)
    repeat' (first | (apply G_on; exact rfl; first | ((first | apply G1_assign | apply G1_move); exact rfl; exact rfl) | (apply G1_sindexJ (q := k); exact T.str9; exact rfl; exact rfl; exact rfl; omega; exact rfl) | (apply G1_call (f := 28); exact rfl; exact rfl; exact rfl; exact ones_spec _; rintro _ w3 ⟨rfl, hx3⟩; refine ⟨(by first | exact .inl rfl | exact .inr (by assumption)), ?_⟩) | (apply G1_slen; exact T.str9; exact rfl; exact rfl) | ((first | apply G1_extract | apply G1_lss); exact rfl; exact rfl; exact rfl) | (apply G1_sindex; exact T.str9; exact rfl; exact rfl; omega; omega; exact rfl) | (apply G1_add; exact rfl; exact rfl; omega; omega; exact rfl)) | apply G_nil | apply Post_next | apply W_seq | apply W_region | (apply W_cond_true; exact rfl) | (apply W_cond_false; exact rfl) | (apply W_cond_dec; exact rfl; all_goals (intro h; try (exfalso; omega))) | (apply W_cond; exact rfl; all_goals intro h) | (apply G_off; exact rfl; exact rfl) | ((fail_if_success (apply G_on; exact rfl)); apply G_split_dec; exact rfl; exact rfl; all_goals (intro h; try (exfalso; omega))) | ((fail_if_success (apply G_on; exact rfl)); apply G_split; exact rfl; exact rfl; all_goals intro h) | apply W_skip | apply W_exit | apply W_ret | apply W_block | apply Post_then_ret | apply Post_block_ret | apply Post_then_exit | apply Post_block_exit | (apply Post_block_other; exact rfl) | apply Post_block_normal)
    have e : (onesF pop (cutL s x (k + 1)) : Int) = (onesF pop (cutL s x k) : Int) + (pop (bget s k) : Int) := by
      rw [hc, onesF_app]; simp [onesF]
    exact Post_round (k + 1) ⟨rfl, rfl, by rw [e]; rfl, rfl, trivial⟩ ⟨(by repeat first | assumption | exact Ext.rfl' | apply Ext.drew | apply Ext.alloc | refine Ext.trans ?_ (by assumption)), by omega, by omega⟩ (by omega)
  · obtain rfl : k = y := by omega
    repeat' (first | (apply G_on; exact rfl; first | ((first | apply G1_assign | apply G1_move); exact rfl; exact rfl) | (apply G1_slen; exact T.str9; exact rfl; exact rfl) | ((first | apply G1_extract | apply G1_lss); exact rfl; exact rfl; exact rfl) | (apply G1_sindex; exact T.str9; exact rfl; exact rfl; omega; omega; exact rfl) | (apply G1_add; exact rfl; exact rfl; omega; omega; exact rfl)) | apply G_nil | apply Post_next | apply W_seq | apply W_region | (apply W_cond_true; exact rfl) | (apply W_cond_false; exact rfl) | (apply W_cond_dec; exact rfl; all_goals (intro h; try (exfalso; omega))) | (apply W_cond; exact rfl; all_goals intro h) | (apply G_off; exact rfl; exact rfl) | ((fail_if_success (apply G_on; exact rfl)); apply G_split_dec; exact rfl; exact rfl; all_goals (intro h; try (exfalso; omega))) | ((fail_if_success (apply G_on; exact rfl)); apply G_split; exact rfl; exact rfl; all_goals intro h) | apply W_skip | apply W_exit | apply W_ret | apply W_block | apply Post_then_ret | apply Post_block_ret | apply Post_then_exit | apply Post_block_exit | (apply Post_block_other; exact rfl) | apply Post_block_normal)
    refine Post_ret Tryd.results20 ⟨_, _, rfl, rfl, rfl⟩ ?_
    exact ⟨rfl, (by repeat first | assumption | exact Ext.rfl' | apply Ext.drew | apply Ext.alloc | refine Ext.trans ?_ (by assumption))⟩
/-- what Find gives -/
def Found (s : ByteArray) (b r : Int) : Prop := r = -1 ∨ ∃ m : Nat, r = (m : Int) ∧ m < 8 * s.size ∧ bitP s m = b ∧ ∀ i, i < m → bitP s i ≠ b
theorem find_spec {s : ByteArray} {b : Int} {w : World} (hs : s.size ≤ 1000000) : Ctr Tryd.prog 21 [.string s, .int .i64 b] w (fun v w' => ∃ r, v = .int .i64 r ∧ Found s b r ∧ Ext w w') := by
  refine Ctr_of Tryd.func21 Tryd.ntmps21 rfl rfl rfl ?_
  repeat' (first | (apply G_on; exact rfl; first | ((first | apply G1_assign | apply G1_move); exact rfl; exact rfl) | (apply G1_slen; exact T.str9; exact rfl; exact rfl) | (apply G1_mul; exact rfl; exact rfl; omega; omega; exact rfl) | ((first | apply G1_lss | apply G1_eql); exact rfl; exact rfl; exact rfl) | (apply G1_add; exact rfl; exact rfl; omega; omega; exact rfl)) | apply G_nil | apply Post_next | apply W_seq | apply W_region | (apply W_cond_true; exact rfl) | (apply W_cond_false; exact rfl) | (apply W_cond_dec; exact rfl; all_goals (intro h; try (exfalso; omega))) | (apply W_cond; exact rfl; all_goals intro h) | (apply G_off; exact rfl; exact rfl) | ((fail_if_success (apply G_on; exact rfl)); apply G_split_dec; exact rfl; exact rfl; all_goals (intro h; try (exfalso; omega))) | ((fail_if_success (apply G_on; exact rfl)); apply G_split; exact rfl; exact rfl; all_goals intro h) | apply W_skip | apply W_exit | apply W_ret | apply W_block | apply Post_then_ret | apply Post_block_ret | apply Post_then_exit | apply Post_block_exit | (apply Post_block_other; exact rfl) | apply Post_block_normal)
  refine W_loop (ι := Nat) (fun k => [(0, .string s), (1, .int .i64 b), (8, .int .i64 (8 * (s.size : Int))), (9, .int .i64 (k : Int))]) (fun k w' => Ext w w' ∧ k ≤ 8 * s.size ∧ ∀ i, i < k → bitP s i ≠ b) (fun k => 8 * s.size - k) 0 ⟨rfl, rfl, rfl, rfl, trivial⟩ ⟨(by repeat first | assumption | exact Ext.rfl' | apply Ext.drew | apply Ext.alloc | refine Ext.trans ?_ (by assumption)), Nat.zero_le _, fun i hi => absurd hi (Nat.not_lt_zero _)⟩ ?_
  rintro k w2 ⟨hx, hk, hno⟩
  by_cases hlt : k < 8 * s.size
  · repeat' (first | (apply G_on; exact rfl; first | ((first | apply G1_assign | apply G1_move); exact rfl; exact rfl) | (apply G1_call (f := 22); exact rfl; exact rfl; exact rfl; exact bit_spec (by omega) hs; rintro _ w3 ⟨rfl, hx3⟩; refine ⟨(by first | exact .inl rfl | exact .inr (by assumption)), ?_⟩) | (apply G1_slen; exact T.str9; exact rfl; exact rfl) | (apply G1_mul; exact rfl; exact rfl; omega; omega; exact rfl) | ((first | apply G1_lss | apply G1_eql); exact rfl; exact rfl; exact rfl) | (apply G1_add; exact rfl; exact rfl; omega; omega; exact rfl)) | apply G_nil | apply Post_next | apply W_seq | apply W_region | (apply W_cond_true; exact rfl) | (apply W_cond_false; exact rfl) | (apply W_cond_dec; exact rfl; all_goals (intro h; try (exfalso; omega))) | (apply W_cond; exact rfl; all_goals intro h) | (apply G_off; exact rfl; exact rfl) | ((fail_if_success (apply G_on; exact rfl)); apply G_split_dec; exact rfl; exact rfl; all_goals (intro h; try (exfalso; omega))) | ((fail_if_success (apply G_on; exact rfl)); apply G_split; exact rfl; exact rfl; all_goals intro h) | apply W_skip | apply W_exit | apply W_ret | apply W_block | apply Post_then_ret | apply Post_block_ret | apply Post_then_exit | apply Post_block_exit | (apply Post_block_other; exact rfl) | apply Post_block_normal)
    · refine Post_ret Tryd.results21 ⟨_, _, rfl, rfl, rfl⟩ ?_
      exact ⟨k, rfl, .inr ⟨k, rfl, hlt, h, hno⟩, (by repeat first | assumption | exact Ext.rfl' | apply Ext.drew | apply Ext.alloc | refine Ext.trans ?_ (by assumption))⟩
    · exact Post_round (k + 1) ⟨rfl, rfl, rfl, rfl, trivial⟩ ⟨(by repeat first | assumption | exact Ext.rfl' | apply Ext.drew | apply Ext.alloc | refine Ext.trans ?_ (by assumption)), by omega, fun i hi => by
        by_cases he : i = k
        · rw [he]; exact h
        · exact hno i (by omega)⟩ (by omega)
  · repeat' (first | (apply G_on; exact rfl; first | ((first | apply G1_assign | apply G1_move); exact rfl; exact rfl) | (apply G1_slen; exact T.str9; exact rfl; exact rfl) | (apply G1_mul; exact rfl; exact rfl; omega; omega; exact rfl) | ((first | apply G1_lss | apply G1_eql); exact rfl; exact rfl; exact rfl) | (apply G1_add; exact rfl; exact rfl; omega; omega; exact rfl)) | apply G_nil | apply Post_next | apply W_seq | apply W_region | (apply W_cond_true; exact rfl) | (apply W_cond_false; exact rfl) | (apply W_cond_dec; exact rfl; all_goals (intro h; try (exfalso; omega))) | (apply W_cond; exact rfl; all_goals intro h) | (apply G_off; exact rfl; exact rfl) | ((fail_if_success (apply G_on; exact rfl)); apply G_split_dec; exact rfl; exact rfl; all_goals (intro h; try (exfalso; omega))) | ((fail_if_success (apply G_on; exact rfl)); apply G_split; exact rfl; exact rfl; all_goals intro h) | apply W_skip | apply W_exit | apply W_ret | apply W_block | apply Post_then_ret | apply Post_block_ret | apply Post_then_exit | apply Post_block_exit | (apply Post_block_other; exact rfl) | apply Post_block_normal)
    refine Post_ret Tryd.results21 ⟨_, _, rfl, rfl, rfl⟩ ?_
    exact ⟨-1, rfl, .inl rfl, (by repeat first | assumption | exact Ext.rfl' | apply Ext.drew | apply Ext.alloc | refine Ext.trans ?_ (by assumption))⟩
end Go.Proofs.YtfaadijingcmhaaDoor
