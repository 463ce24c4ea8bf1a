/- The document's Parse. -/
import Derived.Test.YtikjnmpijflnaaaDoorVRefNum
import Derived.Test.YtikjnmpijflnaaaDoorVStrPiece
import Derived.Test.YtikjnmpijflnaaaDoorVStrRule
namespace Go.Proofs.YtikjnmpijflnaaaDoor
open Go.V
attribute [local irreducible] Blk Own hcell IntT SliceT PlainT AggT SizeT StrT FieldT ZeroT EqT ArrT
theorem valN_app (acc : Nat) (a b : List UInt8) : valN acc (a ++ b) = valN (valN acc a) b := by unfold valN; rw [List.foldl_append]

theorem rparse_no {s : ByteArray} {w : World} (hno : ∀ n, ¬ IsNum s n) : Ctr Tryd.prog 61 [.string s] w (fun r w' => r = .tuple #[.int .i64 0, .bool false] ∧ Ext w w') := by
  have hfit : ∀ i, fit64 (IntKind.i64.wrap i) := fun i => by unfold fit64; simp only [IntKind.wrap_i64]; omega
  have hne : ∀ i, ¬ itoaB (IntKind.i64.wrap i) = s := fun i he => hno _ ⟨hfit i, he⟩
  refine Ctr_of Tryd.func61 Tryd.ntmps61 rfl rfl rfl ?_
  by_cases hl : s.size = 0 ∨ 20 < s.size
  · repeat' (first | (apply G_on; exact rfl; first | ((first | apply G1_assign | apply G1_move); exact rfl; exact rfl) | (apply G1_slen; exact T.str9; exact rfl; exact rfl) | ((first | apply G1_eql | apply G1_gtr); exact rfl; exact rfl; exact rfl) | (apply G1_pick_t; exact rfl; exact rfl; exact rfl) | (apply G1_pick_f; exact rfl; exact rfl; exact rfl)) | apply G_nil | apply Post_next | apply W_seq | apply W_region | (apply W_cond_true; exact rfl) | (apply W_cond_dec; exact rfl; all_goals (intro h; try (exfalso; omega))) | (apply G_off; exact rfl; exact rfl) | ((fail_if_success (apply G_on; exact rfl)); apply G_split_dec; exact rfl; exact rfl; all_goals (intro h; try (exfalso; omega))) | apply W_ret | apply Post_then_ret)
    all_goals
      refine Post_ret Tryd.results61 ⟨_, _, rfl, rfl, _, _, rfl, rfl, rfl⟩ ?_
      exact ⟨rfl, (by repeat first | assumption | exact Ext.rfl' | apply Ext.drew | apply Ext.alloc | refine Ext.trans ?_ (by assumption))⟩
  · repeat' (first | (apply G_on; exact rfl; first | ((first | apply G1_assign | apply G1_move); exact rfl; exact rfl) | (apply G1_slen; exact T.str9; exact rfl; exact rfl) | ((first | apply G1_eql | apply G1_gtr); exact rfl; exact rfl; exact rfl) | (apply G1_pick_f; exact rfl; exact rfl; exact rfl) | (apply G1_sindex; exact T.str9; exact rfl; exact rfl; omega; omega; exact rfl)) | apply G_nil | apply Post_next | apply W_seq | apply W_region | (apply W_cond_dec; exact rfl; all_goals (intro h; try (exfalso; omega))) | ((fail_if_success (apply G_on; exact rfl)); apply G_split_dec; exact rfl; exact rfl; all_goals (intro h; try (exfalso; omega))) | apply W_skip | apply W_block)
    · refine W_loop (ι := Nat × Int) (fun y => [(0, .string s), (4, .int .i64 1), (5, .int .u64 y.2), (6, .int .i64 (y.1 : Int))]) (fun y w' => Ext w w' ∧ y.1 ≤ s.size) (fun y => s.size - y.1) (1, 0) ⟨rfl, rfl, rfl, rfl, trivial⟩ ⟨(by repeat first | assumption | exact Ext.rfl' | apply Ext.drew | apply Ext.alloc | refine Ext.trans ?_ (by assumption)), by simp only; omega⟩ ?_
      rintro ⟨i, U⟩ w2 ⟨hx, hi⟩
      simp only at hi
      refine W_keep [(0, .string s), (4, .int .i64 1), (5, .int .u64 U), (6, .int .i64 (i : Int))] ⟨rfl, rfl, rfl, rfl, trivial⟩ ?_
      by_cases hlt : i < s.size
      · repeat' (first | (apply G_on; exact rfl; first | ((first | apply G1_assign | apply G1_move); exact rfl; exact rfl) | (apply G1_sindexJ (q := i); exact T.str9; exact rfl; exact rfl; exact rfl; omega; exact rfl) | (apply G1_mulw (k := .u64); exact rfl; exact rfl; exact rfl) | (apply G1_addw (k := .u64); exact rfl; exact rfl; exact rfl) | (apply G1_subw (k := .u8); exact rfl; exact rfl; exact rfl) | (apply G1_convE; exact rfl; exact T.i5; exact T.i105; exact rfl; exact rfl) | (apply G1_slen; exact T.str9; exact rfl; exact rfl) | ((first | apply G1_gtr | apply G1_lss); exact rfl; exact rfl; exact rfl) | (apply G1_pick_t; exact rfl; exact rfl; exact rfl) | (apply G1_pick_f; exact rfl; exact rfl; exact rfl) | (apply G1_add; exact rfl; exact rfl; omega; omega; exact rfl)) | apply G_nil | apply Post_next | apply W_seq | apply W_region | (apply W_cond_true; exact rfl) | (apply W_cond_dec; exact rfl; all_goals (intro h; try (exfalso; omega))) | (apply G_off; exact rfl; exact rfl) | ((fail_if_success (apply G_on; exact rfl)); apply G_split_dec; exact rfl; exact rfl; all_goals (intro h; try (exfalso; omega))) | apply W_skip | apply W_ret | apply W_block | apply Post_then_ret | apply Post_block_ret | apply Post_block_normal)
        all_goals first
          | exact Post_round (i + 1, _) ⟨rfl, rfl, rfl, rfl, trivial⟩ ⟨(by repeat first | assumption | exact Ext.rfl' | apply Ext.drew | apply Ext.alloc | refine Ext.trans ?_ (by assumption)), by simp only; omega⟩ (by simp only; omega)
          | (refine Post_ret Tryd.results61 ⟨_, _, rfl, rfl, _, _, rfl, rfl, rfl⟩ ?_
             exact ⟨rfl, (by repeat first | assumption | exact Ext.rfl' | apply Ext.drew | apply Ext.alloc | refine Ext.trans ?_ (by assumption))⟩)
      · repeat' (first | (apply G_on; exact rfl; first | ((first | apply G1_assign | apply G1_move | apply G1_neg); exact rfl; exact rfl) | (apply G1_convE; exact rfl; exact T.i105; exact T.i3; exact rfl; exact rfl) | (apply G1_call (f := 56); exact rfl; exact rfl; exact rfl; exact rprint_spec (hfit _); rintro _ w3 ⟨rfl, hx3⟩; refine ⟨(by first | exact .inl rfl | exact .inr (by assumption)), ?_⟩) | (apply G1_slen; exact T.str9; exact rfl; exact rfl) | ((first | apply G1_eql | apply G1_lss | apply G1_sneq); exact rfl; exact rfl; exact rfl)) | apply G_nil | apply Post_next | apply W_seq | apply W_region | (apply W_cond_true; exact rfl) | (apply W_cond_dec; exact rfl; all_goals (intro h; try (exfalso; omega))) | apply W_skip | apply W_exit | apply W_ret | apply Post_then_ret | apply Post_then_exit | apply Post_block_exit)
        all_goals try exact absurd (by first | assumption | (simpa using h)) (hne _)
        all_goals
          refine Post_ret Tryd.results61 ⟨_, _, rfl, rfl, _, _, rfl, rfl, rfl⟩ ?_
          exact ⟨rfl, (by repeat first | assumption | exact Ext.rfl' | apply Ext.drew | apply Ext.alloc | refine Ext.trans ?_ (by assumption))⟩
    · refine W_loop (ι := Nat × Int) (fun y => [(0, .string s), (4, .int .i64 0), (5, .int .u64 y.2), (6, .int .i64 (y.1 : Int))]) (fun y w' => Ext w w' ∧ y.1 ≤ s.size) (fun y => s.size - y.1) (0, 0) ⟨rfl, rfl, rfl, rfl, trivial⟩ ⟨(by repeat first | assumption | exact Ext.rfl' | apply Ext.drew | apply Ext.alloc | refine Ext.trans ?_ (by assumption)), by simp only; omega⟩ ?_
      rintro ⟨i, U⟩ w2 ⟨hx, hi⟩
      simp only at hi
      refine W_keep [(0, .string s), (4, .int .i64 0), (5, .int .u64 U), (6, .int .i64 (i : Int))] ⟨rfl, rfl, rfl, rfl, trivial⟩ ?_
      by_cases hlt : i < s.size
      · repeat' (first | (apply G_on; exact rfl; first | ((first | apply G1_assign | apply G1_move); exact rfl; exact rfl) | (apply G1_sindexJ (q := i); exact T.str9; exact rfl; exact rfl; exact rfl; omega; exact rfl) | (apply G1_mulw (k := .u64); exact rfl; exact rfl; exact rfl) | (apply G1_addw (k := .u64); exact rfl; exact rfl; exact rfl) | (apply G1_subw (k := .u8); exact rfl; exact rfl; exact rfl) | (apply G1_convE; exact rfl; exact T.i5; exact T.i105; exact rfl; exact rfl) | (apply G1_slen; exact T.str9; exact rfl; exact rfl) | ((first | apply G1_gtr | apply G1_lss); exact rfl; exact rfl; exact rfl) | (apply G1_pick_t; exact rfl; exact rfl; exact rfl) | (apply G1_pick_f; exact rfl; exact rfl; exact rfl) | (apply G1_add; exact rfl; exact rfl; omega; omega; exact rfl)) | apply G_nil | apply Post_next | apply W_seq | apply W_region | (apply W_cond_true; exact rfl) | (apply W_cond_dec; exact rfl; all_goals (intro h; try (exfalso; omega))) | (apply G_off; exact rfl; exact rfl) | ((fail_if_success (apply G_on; exact rfl)); apply G_split_dec; exact rfl; exact rfl; all_goals (intro h; try (exfalso; omega))) | apply W_skip | apply W_ret | apply W_block | apply Post_then_ret | apply Post_block_ret | apply Post_block_normal)
        all_goals first
          | exact Post_round (i + 1, _) ⟨rfl, rfl, rfl, rfl, trivial⟩ ⟨(by repeat first | assumption | exact Ext.rfl' | apply Ext.drew | apply Ext.alloc | refine Ext.trans ?_ (by assumption)), by simp only; omega⟩ (by simp only; omega)
          | (refine Post_ret Tryd.results61 ⟨_, _, rfl, rfl, _, _, rfl, rfl, rfl⟩ ?_
             exact ⟨rfl, (by repeat first | assumption | exact Ext.rfl' | apply Ext.drew | apply Ext.alloc | refine Ext.trans ?_ (by assumption))⟩)
      · repeat' (first | (apply G_on; exact rfl; first | ((first | apply G1_assign | apply G1_move); exact rfl; exact rfl) | (apply G1_convE; exact rfl; exact T.i105; exact T.i3; exact rfl; exact rfl) | (apply G1_call (f := 56); exact rfl; exact rfl; exact rfl; exact rprint_spec (hfit _); rintro _ w3 ⟨rfl, hx3⟩; refine ⟨(by first | exact .inl rfl | exact .inr (by assumption)), ?_⟩) | (apply G1_slen; exact T.str9; exact rfl; exact rfl) | ((first | apply G1_eql | apply G1_lss | apply G1_sneq); exact rfl; exact rfl; exact rfl)) | apply G_nil | apply Post_next | apply W_seq | apply W_region | (apply W_cond_false; exact rfl) | (apply W_cond_dec; exact rfl; all_goals (intro h; try (exfalso; omega))) | apply W_skip | apply W_exit | apply W_ret | apply Post_then_ret | apply Post_then_exit | apply Post_block_exit)
        all_goals try exact absurd (by first | assumption | (simpa using h)) (hne _)
        all_goals
          refine Post_ret Tryd.results61 ⟨_, _, rfl, rfl, _, _, rfl, rfl, rfl⟩ ?_
          exact ⟨rfl, (by repeat first | assumption | exact Ext.rfl' | apply Ext.drew | apply Ext.alloc | refine Ext.trans ?_ (by assumption))⟩

theorem rparse_yes {s : ByteArray} {m : Int} {w : World} (h0 : IsNum s m) : Ctr Tryd.prog 61 [.string s] w (fun r w' => r = .tuple #[.int .i64 m, .bool true] ∧ Ext w w') := by
  obtain ⟨hf, hs⟩ := h0
  have hsl : s.data.toList = Lib.itoa m := by rw [← hs, itoaB_list]
  have hsz := itoa_size hf
  rw [hs] at hsz
  have hlen : s.data.toList.length = s.size := by rw [Array.length_toList]; rfl
  obtain ⟨D, hDe⟩ : ∃ D, D = Lib.decDigits m.natAbs := ⟨_, rfl⟩
  have hval : valN 0 D = m.natAbs := by rw [hDe, val_dec]
  have hdig : ∀ c ∈ D, 48 ≤ c.toNat ∧ c.toNat ≤ 57 := fun c hc => by rw [hDe] at hc; exact ⟨dec_ge _ c hc, dec_le _ c hc⟩
  have hpos : 0 < D.length := by rw [hDe, Lib.decDigits_length]; have := Lib.nDigits_pos m.natAbs; omega
  unfold fit64 at hf
  by_cases hneg : m < 0
  · have hsD : s.data.toList = 45 :: D := by rw [hsl, hDe]; unfold Lib.itoa; rw [if_pos hneg]
    have hD : s.data.toList.drop 1 = D := by rw [hsD]; rfl
    have hDl : s.size = 1 + D.length := by rw [← hlen, hsD, List.length_cons]; omega
    have hb0 : bget s 0 = 45 := by
      have h1 := list_bget' (s := s) (k := 0) (by omega)
      rw [hsD] at h1
      injection h1 with h1; exact h1.symm
    have hz1 : IntKind.i64.wrap (IntKind.u64.wrap (0 - (m.natAbs : Int))) = m := by simp only [IntKind.wrap_i64, IntKind.wrap_u64]; omega
    have hz2 := hz1
    refine Ctr_of Tryd.func61 Tryd.ntmps61 rfl rfl rfl ?_
    repeat' (first | (apply G_on; exact rfl; first | ((first | apply G1_assign | apply G1_move); exact rfl; exact rfl) | (apply G1_sindexJ (q := 0); exact T.str9; exact rfl; exact rfl; exact rfl; omega; exact rfl; rw [hb0]) | (apply G1_slen; exact T.str9; exact rfl; exact rfl) | ((first | apply G1_eql | apply G1_gtr); exact rfl; exact rfl; exact rfl) | (apply G1_pick_f; exact rfl; exact rfl; exact rfl)) | apply G_nil | apply Post_next | apply W_seq | apply W_region | (apply W_cond_true; exact rfl) | (apply W_cond_dec; exact rfl; all_goals (intro h; try (exfalso; omega))) | ((fail_if_success (apply G_on; exact rfl)); apply G_split_dec; exact rfl; exact rfl; all_goals (intro h; try (exfalso; omega))) | apply W_skip | apply W_block)
    refine W_loop (ι := Nat) (fun j => [(0, .string s), (4, .int .i64 1), (5, .int .u64 (valN 0 (D.take j) : Int)), (6, .int .i64 ((1 + j : Nat) : Int))]) (fun j w' => Ext w w' ∧ j ≤ D.length) (fun j => D.length - j) 0 ⟨rfl, rfl, rfl, rfl, trivial⟩ ⟨(by repeat first | assumption | exact Ext.rfl' | apply Ext.drew | apply Ext.alloc | refine Ext.trans ?_ (by assumption)), Nat.zero_le _⟩ ?_
    rintro j w2 ⟨hx, hj⟩
    by_cases hlt : j < D.length
    · obtain ⟨c, hc⟩ := get_some hlt
      have hbc : bget s (1 + j) = c := by
        have h1 := list_bget' (s := s) (k := 1 + j) (by omega)
        rw [← List.getElem?_drop, hD, hc] at h1
        injection h1 with h1; exact h1.symm
      have hd := hdig c (List.mem_of_getElem? hc)
      have hst : D.take (j + 1) = D.take j ++ [c] := by rw [List.take_add_one, hc]; rfl
      have hv1 : valN 0 (D.take (j + 1)) = valN 0 (D.take j) * 10 + (c.toNat - 48) := by rw [hst, valN_snoc]
      have hv2 : valN 0 (D.take (j + 1)) ≤ m.natAbs := by
        have h3 := valN_ge (D.drop (j + 1)) (valN 0 (D.take (j + 1)))
        rw [← valN_app, List.take_append_drop, hval] at h3; exact h3
      have q1 : IntKind.u64.wrap ((valN 0 (D.take j) : Int) * 10) = ((valN 0 (D.take j) * 10 : Nat) : Int) := by simp only [IntKind.wrap_u64]; omega
      have q2 : IntKind.u8.wrap ((c.toNat : Int) - 48) = ((c.toNat - 48 : Nat) : Int) := by rw [wrap_u8 (by omega) (by omega)]; omega
      have q3 : IntKind.u64.wrap ((c.toNat - 48 : Nat) : Int) = ((c.toNat - 48 : Nat) : Int) := wrap_u64 (by omega) (by omega)
      have q4 : IntKind.u64.wrap (((valN 0 (D.take j) * 10 : Nat) : Int) + ((c.toNat - 48 : Nat) : Int)) = (valN 0 (D.take (j + 1)) : Int) := by rw [hv1] at hv2 ⊢; simp only [IntKind.wrap_u64]; omega
      repeat' (first | (apply G_on; exact rfl; first | ((first | apply G1_assign | apply G1_move); exact rfl; exact rfl) | (apply G1_sindexJ (q := 1 + j); exact T.str9; exact rfl; exact rfl; exact rfl; omega; exact rfl; rw [hbc]) | (apply G1_mulE (k := .u64) (r := ((valN 0 (D.take j) * 10 : Nat) : Int)); exact rfl; exact rfl; exact q1; exact rfl) | (apply G1_addE (k := .u64) (r := (valN 0 (D.take (j + 1)) : Int)); exact rfl; exact rfl; exact q4; exact rfl) | (apply G1_convE (j := ((c.toNat - 48 : Nat) : Int)); exact rfl; exact T.i5; exact T.i105; exact q3; exact rfl) | (refine G1_subw (k := .u8) rfl rfl rfl ?_; rw [q2]) | (apply G1_slen; exact T.str9; exact rfl; exact rfl) | ((first | apply G1_gtr | apply G1_lss); exact rfl; exact rfl; exact rfl) | (apply G1_pick_f; exact rfl; exact rfl; exact rfl) | (apply G1_add; exact rfl; exact rfl; omega; omega; exact rfl)) | apply G_nil | apply Post_next | apply W_seq | apply W_region | (apply W_cond_dec; exact rfl; all_goals (intro h; try (exfalso; omega))) | ((fail_if_success (apply G_on; exact rfl)); apply G_split_dec; exact rfl; exact rfl; all_goals (intro h; try (exfalso; omega))) | apply W_skip | apply W_block | apply Post_block_normal)
      all_goals exact Post_round (j + 1) ⟨rfl, rfl, rfl, rfl, trivial⟩ ⟨(by repeat first | assumption | exact Ext.rfl' | apply Ext.drew | apply Ext.alloc | refine Ext.trans ?_ (by assumption)), by omega⟩ (by omega)
    · have hjD : D.take j = D := List.take_of_length_le (by omega)
      rw [hjD, hval]
      repeat' (first | (apply G_on; exact rfl; first | ((first | apply G1_assign | apply G1_move | apply G1_neg); exact rfl; exact rfl) | (apply G1_convE (j := m); exact rfl; exact T.i105; exact T.i3; (first | exact hz1 | exact hz2); exact rfl) | (apply G1_convE; exact rfl; exact T.i105; exact T.i3; exact rfl; exact rfl) | (apply G1_call (f := 56); exact rfl; exact rfl; exact rfl; exact rprint_spec hf; rintro _ w3 ⟨rfl, hx3⟩; refine ⟨(by first | exact .inl rfl | exact .inr (by assumption)), ?_⟩) | (apply G1_slen; exact T.str9; exact rfl; exact rfl) | ((first | apply G1_eql | apply G1_lss | apply G1_sneq); exact rfl; exact rfl; exact rfl)) | apply G_nil | apply Post_next | apply W_seq | apply W_region | (apply W_cond_true; exact rfl) | (apply W_cond_dec; exact rfl; all_goals (intro h; try (exfalso; omega))) | apply W_skip | apply W_exit | apply W_ret | apply Post_then_ret | apply Post_then_exit | apply Post_block_exit)
      all_goals try contradiction
      all_goals
        refine Post_ret Tryd.results61 ⟨_, _, rfl, rfl, _, _, rfl, rfl, rfl⟩ ?_
        exact ⟨rfl, (by repeat first | assumption | exact Ext.rfl' | apply Ext.drew | apply Ext.alloc | refine Ext.trans ?_ (by assumption))⟩
  · have hsD : s.data.toList = D := by rw [hsl, hDe]; unfold Lib.itoa; rw [if_neg hneg]; congr 1; omega
    have hD : s.data.toList.drop 0 = D := by rw [hsD]; rfl
    have hDl : s.size = 0 + D.length := by rw [← hlen, hsD]; omega
    obtain ⟨c0, hc0⟩ := get_some hpos
    have hb0 : bget s 0 = c0 := by
      have h1 := list_bget' (s := s) (k := 0) (by omega)
      rw [hsD, hc0] at h1
      injection h1 with h1; exact h1.symm
    have hd0 := hdig c0 (List.mem_of_getElem? hc0)
    have hz1 : IntKind.i64.wrap (m.natAbs : Int) = m := by simp only [IntKind.wrap_i64]; omega
    have hz2 := hz1
    refine Ctr_of Tryd.func61 Tryd.ntmps61 rfl rfl rfl ?_
    repeat' (first | (apply G_on; exact rfl; first | ((first | apply G1_assign | apply G1_move); exact rfl; exact rfl) | (apply G1_sindexJ (q := 0); exact T.str9; exact rfl; exact rfl; exact rfl; omega; exact rfl; rw [hb0]) | (apply G1_slen; exact T.str9; exact rfl; exact rfl) | ((first | apply G1_eql | apply G1_gtr); exact rfl; exact rfl; exact rfl) | (apply G1_pick_f; exact rfl; exact rfl; exact rfl)) | apply G_nil | apply Post_next | apply W_seq | apply W_region | (apply W_cond_dec; exact rfl; all_goals (intro h; try (exfalso; omega))) | ((fail_if_success (apply G_on; exact rfl)); apply G_split_dec; exact rfl; exact rfl; all_goals (intro h; try (exfalso; omega))) | apply W_skip | apply W_block)
    refine W_loop (ι := Nat) (fun j => [(0, .string s), (4, .int .i64 0), (5, .int .u64 (valN 0 (D.take j) : Int)), (6, .int .i64 ((0 + j : Nat) : Int))]) (fun j w' => Ext w w' ∧ j ≤ D.length) (fun j => D.length - j) 0 ⟨rfl, rfl, rfl, rfl, trivial⟩ ⟨(by repeat first | assumption | exact Ext.rfl' | apply Ext.drew | apply Ext.alloc | refine Ext.trans ?_ (by assumption)), Nat.zero_le _⟩ ?_
    rintro j w2 ⟨hx, hj⟩
    by_cases hlt : j < D.length
    · obtain ⟨c, hc⟩ := get_some hlt
      have hbc : bget s (0 + j) = c := by
        have h1 := list_bget' (s := s) (k := 0 + j) (by omega)
        rw [← List.getElem?_drop, hD, hc] at h1
        injection h1 with h1; exact h1.symm
      have hd := hdig c (List.mem_of_getElem? hc)
      have hst : D.take (j + 1) = D.take j ++ [c] := by rw [List.take_add_one, hc]; rfl
      have hv1 : valN 0 (D.take (j + 1)) = valN 0 (D.take j) * 10 + (c.toNat - 48) := by rw [hst, valN_snoc]
      have hv2 : valN 0 (D.take (j + 1)) ≤ m.natAbs := by
        have h3 := valN_ge (D.drop (j + 1)) (valN 0 (D.take (j + 1)))
        rw [← valN_app, List.take_append_drop, hval] at h3; exact h3
      have q1 : IntKind.u64.wrap ((valN 0 (D.take j) : Int) * 10) = ((valN 0 (D.take j) * 10 : Nat) : Int) := by simp only [IntKind.wrap_u64]; omega
      have q2 : IntKind.u8.wrap ((c.toNat : Int) - 48) = ((c.toNat - 48 : Nat) : Int) := by rw [wrap_u8 (by omega) (by omega)]; omega
      have q3 : IntKind.u64.wrap ((c.toNat - 48 : Nat) : Int) = ((c.toNat - 48 : Nat) : Int) := wrap_u64 (by omega) (by omega)
      have q4 : IntKind.u64.wrap (((valN 0 (D.take j) * 10 : Nat) : Int) + ((c.toNat - 48 : Nat) : Int)) = (valN 0 (D.take (j + 1)) : Int) := by rw [hv1] at hv2 ⊢; simp only [IntKind.wrap_u64]; omega
      repeat' (first | (apply G_on; exact rfl; first | ((first | apply G1_assign | apply G1_move); exact rfl; exact rfl) | (apply G1_sindexJ (q := 0 + j); exact T.str9; exact rfl; exact rfl; exact rfl; omega; exact rfl; rw [hbc]) | (apply G1_mulE (k := .u64) (r := ((valN 0 (D.take j) * 10 : Nat) : Int)); exact rfl; exact rfl; exact q1; exact rfl) | (apply G1_addE (k := .u64) (r := (valN 0 (D.take (j + 1)) : Int)); exact rfl; exact rfl; exact q4; exact rfl) | (apply G1_convE (j := ((c.toNat - 48 : Nat) : Int)); exact rfl; exact T.i5; exact T.i105; exact q3; exact rfl) | (refine G1_subw (k := .u8) rfl rfl rfl ?_; rw [q2]) | (apply G1_slen; exact T.str9; exact rfl; exact rfl) | ((first | apply G1_gtr | apply G1_lss); exact rfl; exact rfl; exact rfl) | (apply G1_pick_f; exact rfl; exact rfl; exact rfl) | (apply G1_add; exact rfl; exact rfl; omega; omega; exact rfl)) | apply G_nil | apply Post_next | apply W_seq | apply W_region | (apply W_cond_dec; exact rfl; all_goals (intro h; try (exfalso; omega))) | ((fail_if_success (apply G_on; exact rfl)); apply G_split_dec; exact rfl; exact rfl; all_goals (intro h; try (exfalso; omega))) | apply W_skip | apply W_block | apply Post_block_normal)
      all_goals exact Post_round (j + 1) ⟨rfl, rfl, rfl, rfl, trivial⟩ ⟨(by repeat first | assumption | exact Ext.rfl' | apply Ext.drew | apply Ext.alloc | refine Ext.trans ?_ (by assumption)), by omega⟩ (by omega)
    · have hjD : D.take j = D := List.take_of_length_le (by omega)
      rw [hjD, hval]
      repeat' (first | (apply G_on; exact rfl; first | ((first | apply G1_assign | apply G1_move); exact rfl; exact rfl) | (apply G1_convE (j := m); exact rfl; exact T.i105; exact T.i3; (first | exact hz1 | exact hz2); exact rfl) | (apply G1_call (f := 56); exact rfl; exact rfl; exact rfl; exact rprint_spec hf; rintro _ w3 ⟨rfl, hx3⟩; refine ⟨(by first | exact .inl rfl | exact .inr (by assumption)), ?_⟩) | (apply G1_slen; exact T.str9; exact rfl; exact rfl) | ((first | apply G1_eql | apply G1_lss | apply G1_sneq); exact rfl; exact rfl; exact rfl)) | apply G_nil | apply Post_next | apply W_seq | apply W_region | (apply W_cond_false; exact rfl) | (apply W_cond_dec; exact rfl; all_goals (intro h; try (exfalso; omega))) | apply W_skip | apply W_exit | apply W_ret | apply Post_then_ret | apply Post_then_exit | apply Post_block_exit)
      all_goals try contradiction
      all_goals
        refine Post_ret Tryd.results61 ⟨_, _, rfl, rfl, _, _, rfl, rfl, rfl⟩ ?_
        exact ⟨rfl, (by repeat first | assumption | exact Ext.rfl' | apply Ext.drew | apply Ext.alloc | refine Ext.trans ?_ (by assumption))⟩
end Go.Proofs.YtikjnmpijflnaaaDoor
