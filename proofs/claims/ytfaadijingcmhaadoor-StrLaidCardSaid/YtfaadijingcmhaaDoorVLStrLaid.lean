/- StrLaid: the plain law and the walk. -/
import Derived.Test.YtfaadijingcmhaaDoorVStr2
namespace Go.V
theorem ext_eq {a b : ByteArray} (h : a.data.toList = b.data.toList) : a = b := by
  cases a; cases b; simp at h; rw [h]
theorem extract_list (s : ByteArray) (i j : Nat) : (s.extract i j).data.toList = (s.data.toList.drop i).take (j - i) := by
  rw [ByteArray.data_extract, Array.toList_extract]
end Go.V
namespace Go.Proofs.YtfaadijingcmhaaDoor
open Go.V
attribute [local irreducible] Blk Own hcell IntT SliceT PlainT AggT SizeT StrT FieldT ZeroT EqT ArrT
theorem mkStr_toL (l : List UInt8) : (mkStr l).data.toList = l := by simp [mkStr]
section
variable {s t : ByteArray} {k : Nat}
theorem laid_A {L : Nat} (h : s.size ≤ L) : over (List.replicate L 0) 0 s.data.toList = s.data.toList ++ List.replicate (L - s.size) 0 := by
  unfold over
  rw [List.take_zero, List.nil_append, Nat.zero_add, sdl, List.drop_replicate]
theorem laid_mid : (mkStr (layP s k t)).extract k (k + t.size) = t := by
  apply ext_eq
  rw [extract_list, mkStr_toL]
  unfold layP
  rw [laid_A (by omega)]
  generalize hA : s.data.toList ++ List.replicate (max s.size (k + t.size) - s.size) 0 = A
  have hl : A.length = max s.size (k + t.size) := by rw [← hA, List.length_append, sdl, List.length_replicate]; omega
  unfold over
  rw [List.append_assoc, List.drop_left' (by rw [List.length_take]; omega), List.take_left' (by rw [sdl]; omega)]
theorem laid_low {n : Nat} (h1 : n ≤ k) (h2 : n ≤ s.size) : (mkStr (layP s k t)).extract 0 n = s.extract 0 n := by
  apply ext_eq
  rw [extract_list, extract_list, mkStr_toL]
  unfold layP
  rw [laid_A (by omega), List.drop_zero, List.drop_zero, Nat.sub_zero]
  unfold over
  rw [List.append_assoc, List.take_append_of_le_length (by rw [List.length_take, List.length_append, sdl, List.length_replicate]; omega), List.take_take, Nat.min_eq_left h1, List.take_append_of_le_length (by rw [sdl]; omega)]
theorem laid_high (h : k + t.size < s.size) : (mkStr (layP s k t)).extract (k + t.size) s.size = s.extract (k + t.size) s.size := by
  apply ext_eq
  rw [extract_list, extract_list, mkStr_toL]
  unfold layP
  rw [laid_A (by omega), show max s.size (k + t.size) - s.size = 0 by omega, List.replicate_zero, List.append_nil]
  unfold over
  rw [List.drop_left' (by rw [List.length_append, List.length_take, sdl, sdl]; omega), sdl]
end
theorem strLaid_spec {s t : ByteArray} {a : Int} {w : World} (ha : fit64 a) (hT : Pow w) (hs : s.size ≤ 9223372036854775807) (ht : t.size ≤ 9223372036854775807) :
    Ctr Tryd.prog 7 [.string s, .int .i64 a, .string t] w (fun v w' => v = .bool true ∧ Ext w w') := by
  obtain ⟨r, hr⟩ : ∃ r, a.tmod 1500 = r := ⟨_, rfl⟩
  have hr1 : -1500 < r ∧ r < 1500 := by
    rw [← hr]
    exact ⟨by have := Int.lt_tmod_of_pos a (show (0 : Int) < 1500 by decide); omega, Int.tmod_lt_of_pos a (by decide)⟩
  obtain ⟨k, hk, hk1⟩ : ∃ k : Nat, (r + 1500).tmod 1500 = (k : Int) ∧ k < 1500 := by
    refine ⟨((r + 1500) % 1500).toNat, ?_, by omega⟩
    rw [Int.tmod_eq_emod_of_nonneg (by omega)]; omega
  have hlay := fun (w : World) (h1 : s.size ≤ 4096) h2 h3 => lay_spec (s := s) (t := t) (k := k) (w := w) h1 h2 h3
  have hmid := laid_mid (s := s) (k := k) (t := t)
  have hlow := fun n => laid_low (s := s) (k := k) (t := t) (n := n)
  have hhigh := laid_high (s := s) (k := k) (t := t)
  have hsz : (mkStr (layP s k t)).size = max s.size (k + t.size) := by rw [mkStr_size, layP_length]
  generalize mkStr (layP s k t) = A at hlay hmid hlow hhigh hsz
  refine Ctr_of Tryd.func7 Tryd.ntmps7 rfl rfl rfl ?_
  repeat' (first | (apply G_on; exact rfl; first | ((first | apply G1_assign | apply G1_move); exact rfl; exact rfl) | (apply G1_call (f := 15); exact rfl; exact rfl; exact rfl; exact awake09 (TabIs.ext hT (by repeat first | assumption | exact Ext.rfl' | apply Ext.drew | apply Ext.alloc | refine Ext.trans ?_ (by assumption))); rintro _ w2 ⟨rfl, hx2⟩; refine ⟨(by first | exact .inl rfl | exact .inr (by assumption)), ?_⟩) | (apply G1_remE (r := r); exact rfl; exact rfl; decide; exact hr; exact rfl) | (apply G1_remE (r := (k : Int)); exact rfl; exact rfl; decide; exact hk; exact rfl) | (apply G1_not_t; exact rfl; exact rfl) | (apply G1_not_f; exact rfl; exact rfl) | (apply G1_not_dec; exact rfl; exact rfl) | (apply G1_not; exact rfl; exact rfl) | (apply G1_slen; exact T.str9; exact rfl; exact rfl) | ((first | apply G1_gtr | apply G1_extract | apply G1_max | apply G1_min | apply G1_leq); exact rfl; exact rfl; exact rfl) | (apply G1_pick_t; exact rfl; exact rfl; exact rfl) | (apply G1_pick_f; exact rfl; exact rfl; exact rfl) | (apply G1_eql; exact rfl; exact rfl; exact rfl) | (apply G1_rem; exact rfl; exact rfl; omega; exact rfl) | (apply G1_add; exact rfl; exact rfl; omega; omega; exact rfl) | (apply G1_neq; exact rfl; exact rfl; exact rfl) | (apply G1_sub; exact rfl; exact rfl; omega; omega; exact rfl) | (apply G1_sneq; exact rfl; exact rfl; exact rfl) | (apply G1_ssliceHi; exact T.str9; exact rfl; exact rfl; omega; omega; exact rfl) | (apply G1_seql; exact rfl; exact rfl; exact rfl) | (apply G1_ssliceLo; exact T.str9; exact rfl; exact rfl; omega; omega; exact rfl)) | apply G_nil | apply Post_next | apply W_seq | apply W_region | (apply W_cond_true; exact rfl) | (apply W_cond_false; exact rfl) | (apply W_cond_dec; exact rfl; all_goals (intro h; try (exfalso; omega))) | (apply W_cond; exact rfl; all_goals intro h) | (apply G_off; exact rfl; exact rfl) | ((fail_if_success (apply G_on; exact rfl)); apply G_split_dec; exact rfl; exact rfl; all_goals (intro h; try (exfalso; omega))) | ((fail_if_success (apply G_on; exact rfl)); apply G_split; exact rfl; exact rfl; all_goals intro h) | refine W_drawn 1 [] [0,1,2,3,4,5,6,7,8,9,10,11,12,13,14,15,16,17,18,19,20,21,22,23,24,25,26,27,28,29,30,31] mixed (by decide +kernel) ?_ | apply W_skip | apply W_exit | apply W_ret | apply W_block | apply Post_then_ret | apply Post_block_ret | apply Post_then_exit | apply Post_block_exit | (apply Post_block_other; exact rfl) | apply Post_block_normal)
  rotate_right 1
  all_goals try
    refine Post_ret Tryd.results7 ⟨_, _, rfl, rfl, rfl⟩ ?_
    exact ⟨by simp [resVal], (by repeat first | assumption | exact Ext.rfl' | apply Ext.drew | apply Ext.alloc | refine Ext.trans ?_ (by assumption))⟩
  have hsp : spanF (k : Int) ((k : Int) + t.size - 1) (A.size : Int) = ((k : Int), ((k + t.size : Nat) : Int)) := by
    unfold spanF
    rw [if_neg (show ¬ (k : Int) < 0 by omega), if_neg (show ¬ (k : Int) + t.size - 1 < 0 by omega), if_neg (by omega)]
    congr 1
    omega
  repeat' (first | (apply G_on; exact rfl; first | ((first | apply G1_assign | apply G1_move); exact rfl; exact rfl) | (apply G1_call (f := 18); exact rfl; exact rfl; exact rfl; exact hlay _ (by omega) (by omega) (by omega); rintro _ w3 ⟨rfl, hx3⟩; refine ⟨(by first | exact .inl rfl | exact .inr (by assumption)), ?_⟩) | (apply G1_call (f := 19); exact rfl; exact rfl; exact rfl; exact range_spec (x := k) (y := k + t.size) (by unfold fit64; omega) (by unfold fit64; omega) (by omega) hsp (by omega) (by omega); rintro _ w4 ⟨rfl, hx4⟩; refine ⟨(by first | exact .inl rfl | exact .inr (by assumption)), ?_⟩) | (apply G1_ssliceHi; exact T.str9; exact rfl; exact rfl; omega; omega; exact rfl) | (apply G1_ssliceLo; exact T.str9; exact rfl; exact rfl; omega; omega; exact rfl) | (apply G1_not_t; exact rfl; exact rfl) | (apply G1_not_f; exact rfl; exact rfl) | (apply G1_not_dec; exact rfl; exact rfl) | (apply G1_not; exact rfl; exact rfl) | (apply G1_slen; exact T.str9; exact rfl; exact rfl) | ((first | apply G1_gtr | apply G1_extract | apply G1_max | apply G1_min | apply G1_leq); exact rfl; exact rfl; exact rfl) | (apply G1_pick_t; exact rfl; exact rfl; exact rfl) | (apply G1_pick_f; exact rfl; exact rfl; exact rfl) | (apply G1_eql; exact rfl; exact rfl; exact rfl) | (apply G1_rem; exact rfl; exact rfl; omega; exact rfl) | (apply G1_add; exact rfl; exact rfl; omega; omega; exact rfl) | (apply G1_neq; exact rfl; exact rfl; exact rfl) | (apply G1_sub; exact rfl; exact rfl; omega; omega; exact rfl) | (apply G1_sneq; exact rfl; exact rfl; exact rfl) | (apply G1_ssliceHi; exact T.str9; exact rfl; exact rfl; omega; omega; exact rfl) | (apply G1_seql; exact rfl; exact rfl; exact rfl) | (apply G1_ssliceLo; exact T.str9; exact rfl; exact rfl; omega; omega; exact rfl)) | apply G_nil | apply Post_next | apply W_seq | apply W_region | (apply W_cond_true; exact rfl) | (apply W_cond_false; exact rfl) | (apply W_cond_dec; exact rfl; all_goals (intro h; try (exfalso; omega))) | (apply W_cond; exact rfl; all_goals intro h) | (apply G_off; exact rfl; exact rfl) | ((fail_if_success (apply G_on; exact rfl)); apply G_split_dec; exact rfl; exact rfl; all_goals (intro h; try (exfalso; omega))) | ((fail_if_success (apply G_on; exact rfl)); apply G_split; exact rfl; exact rfl; all_goals intro h) | refine W_drawn 1 [] [0,1,2,3,4,5,6,7,8,9,10,11,12,13,14,15,16,17,18,19,20,21,22,23,24,25,26,27,28,29,30,31] mixed (by decide +kernel) ?_ | apply W_skip | apply W_exit | apply W_ret | apply W_block | apply Post_then_ret | apply Post_block_ret | apply Post_then_exit | apply Post_block_exit | (apply Post_block_other; exact rfl) | apply Post_block_normal)
  · exact absurd hmid h
  · refine Post_ret Tryd.results7 ⟨_, _, rfl, rfl, rfl⟩ ?_
    exact ⟨by simp [resVal], (by repeat first | assumption | exact Ext.rfl' | apply Ext.drew | apply Ext.alloc | refine Ext.trans ?_ (by assumption))⟩
  · have e1 : A.size = s.size := by omega
    have e2 : ((k : Int) + t.size).toNat = k + t.size := by omega
    have := hhigh (by omega)
    refine Post_ret Tryd.results7 ⟨_, _, rfl, rfl, rfl⟩ ?_
    exact ⟨by simp [resVal, e1, e2, this], (by repeat first | assumption | exact Ext.rfl' | apply Ext.drew | apply Ext.alloc | refine Ext.trans ?_ (by assumption))⟩
  · exact absurd (hlow (min (k : Int) s.size).toNat (by omega) (by omega)) h
end Go.Proofs.YtfaadijingcmhaaDoor
