/- The walk of GlobQuotes. -/
import Derived.Test.YtbphlenpclnobaaVLGlobStars
import Derived.Test.YtbphlenpclnobaaVGlobAny
namespace Go.Proofs.Ytbphlenpclnobaa
open Go.V
attribute [local irreducible] Blk Own hcell IntT SliceT PlainT AggT SizeT StrT FieldT ZeroT EqT ArrT
theorem any_sign : ∀ l : List UInt8, decide (0 ≤ Lib.indexAny l signs.data.toList) = hasSign l
  | [] => by decide
  | b :: l => by
    have ih := any_sign l
    have hc : signs.data.toList.contains b = isSign b := by
      show [(42 : UInt8), 63, 91, 92].contains b = _
      simp [isSign, Bool.or_assoc]; rfl
    have hg := Lib.indexAny_ge signs.data.toList l
    unfold Lib.indexAny
    rw [hc]
    have e : hasSign (b :: l) = (isSign b || hasSign l) := rfl
    rw [e]
    cases hb : isSign b with
    | true => simp
    | false =>
      rw [← ih]
      simp only [Bool.false_eq_true, if_false, Bool.false_or]
      by_cases h1 : Lib.indexAny l signs.data.toList = -1
      · rw [h1]; decide
      · rw [if_neg (by simpa using h1)]
        apply decide_eq_decide.2
        omega
theorem h116 : ((Try.prog).info? (Try.layIA_ren.t 116)).map (fun i => (i.zero, i.size)) = some (some (.agg (Array.replicate 256 (.bool false))), 256) := by kernel_rfl
theorem any_long {s : ByteArray} {w : World} (h8 : 8 < s.size) (hs : s.size ≤ 100000) : Ctr Try.prog 50 [.string s, .string signs] w (fun v w' => ∃ r, v = .int .i64 r ∧ decide (0 ≤ r) = hasSign s.data.toList ∧ Ext w w') := by
  unfold Ctr
  refine ⟨⟨Try.f50, Try.func50, by decide, rfl⟩, ?_⟩
  refine Calls.mono (Any.strings_IndexAny_long Try.layIA (zero_of_info h116).1 (zero_of_info h116).2 s signs w (by decide) h8 (by omega) (by decide) (fun j b hb => by
    have hlt : j < signs.size := by
      have := (List.getElem?_eq_some_iff.1 hb).1
      rw [Array.length_toList] at this; exact this
    have h2 := list_bget (s := signs) (k := j) hlt
    rw [h2] at hb
    injection hb with hb
    rw [← hb]
    exact (signs_get hlt).2)) fun e w' ⟨he, hw⟩ => ⟨_, he, ⟨_, rfl, any_sign _, ?_⟩⟩
  rw [hw]
  exact (Ext.alloc Ext.rfl' _).trans (Ext.alloc Ext.rfl' _)
theorem indexAny_spec {s : ByteArray} {w : World} (hs : s.size ≤ 100000) : Ctr Try.prog 50 [.string s, .string signs] w (fun v w' => ∃ r, v = .int .i64 r ∧ decide (0 ≤ r) = hasSign s.data.toList ∧ Ext w w') := by
  by_cases h8 : s.size ≤ 8
  · exact any_short h8
  · exact any_long (by omega) hs
theorem plain_spec {s : ByteArray} {w : World} (hs : s.size ≤ 100000) : Ctr Try.prog 24 [.string s] w (fun v w' => v = .bool (!hasSign s.data.toList) ∧ Ext w w') := by
  have hca : ∀ w, Ctr Try.prog 34 [.string s, .string signs] w (fun v w' => v = .bool (hasSign s.data.toList) ∧ Ext w w') := fun w => by
    refine Ctr_of Try.func34 Try.ntmps34 rfl rfl rfl ?_
    repeat' (first | (apply G_on; exact rfl; first | ((first | apply G1_assign | apply G1_move); exact rfl; exact rfl) | (apply G1_call (f := 50); exact rfl; exact rfl; exact rfl; exact indexAny_spec hs; rintro _ w1 ⟨r, rfl, hr, hx1⟩; refine ⟨(by first | exact .inl rfl | exact .inr (by assumption)), ?_⟩) | (apply G1_geq; exact rfl; exact rfl; exact rfl)) | apply G_nil | apply Post_next | apply W_seq | apply W_region | (apply W_cond_true; exact rfl) | (apply W_cond_false; exact rfl) | (apply W_cond_dec; exact rfl; all_goals (intro h; try (exfalso; omega))) | (apply W_cond; exact rfl; all_goals intro h) | (apply G_off; exact rfl; exact rfl) | ((fail_if_success (apply G_on; exact rfl)); apply G_split_dec; exact rfl; exact rfl; all_goals (intro h; try (exfalso; omega))) | ((fail_if_success (apply G_on; exact rfl)); apply G_split; exact rfl; exact rfl; all_goals intro h) | apply W_skip | apply W_exit | apply W_ret | apply W_block | apply Post_then_ret | apply Post_block_ret | apply Post_then_exit | apply Post_block_exit | (apply Post_block_other; exact rfl) | apply Post_block_normal)
    refine Post_ret Try.results34 ⟨_, _, rfl, rfl, rfl⟩ ?_
    exact ⟨congrArg Value.bool hr, (by repeat first | assumption | exact Ext.rfl' | apply Ext.drew | apply Ext.alloc | refine Ext.trans ?_ (by assumption))⟩
  refine Ctr_of Try.func24 Try.ntmps24 rfl rfl rfl ?_
  repeat' (first | (apply G_on; exact rfl; first | ((first | apply G1_assign | apply G1_move); exact rfl; exact rfl) | (apply G1_call (f := 34); exact rfl; exact rfl; exact rfl; exact hca _; rintro _ w1 ⟨rfl, hx1⟩; refine ⟨(by first | exact .inl rfl | exact .inr (by assumption)), ?_⟩) | (apply G1_not_t; exact rfl; exact rfl) | (apply G1_not_f; exact rfl; exact rfl) | (apply G1_not_dec; exact rfl; exact rfl) | (apply G1_not; exact rfl; exact rfl)) | apply G_nil | apply Post_next | apply W_seq | apply W_region | (apply W_cond_true; exact rfl) | (apply W_cond_false; exact rfl) | (apply W_cond_dec; exact rfl; all_goals (intro h; try (exfalso; omega))) | (apply W_cond; exact rfl; all_goals intro h) | (apply G_off; exact rfl; exact rfl) | ((fail_if_success (apply G_on; exact rfl)); apply G_split_dec; exact rfl; exact rfl; all_goals (intro h; try (exfalso; omega))) | ((fail_if_success (apply G_on; exact rfl)); apply G_split; exact rfl; exact rfl; all_goals intro h) | apply W_skip | apply W_exit | apply W_ret | apply W_block | apply Post_then_ret | apply Post_block_ret | apply Post_then_exit | apply Post_block_exit | (apply Post_block_other; exact rfl) | apply Post_block_normal)
  refine Post_ret Try.results24 ⟨_, _, rfl, rfl, rfl⟩ ?_
  exact ⟨rfl, (by repeat first | assumption | exact Ext.rfl' | apply Ext.drew | apply Ext.alloc | refine Ext.trans ?_ (by assumption))⟩
theorem match_all : ∀ p l : List UInt8, matchP (ones p) l = decide (p = l)
  | [], [] => rfl
  | [], c :: l => rfl
  | c :: p, [] => by rw [show ones (c :: p) = oneP c.toNat :: ones p from rfl, matchP_no (oneP_star _)]; simp
  | c :: p, d :: l => by
    rw [show ones (c :: p) = oneP c.toNat :: ones p from rfl, matchP_one (oneP_star _), oneP_has, match_all p l, ← Bool.decide_and]
    apply decide_eq_decide.2
    constructor
    · rintro ⟨rfl, rfl⟩; rfl
    · intro h; injection h with h1 h2; exact ⟨h1.symm, h2⟩
theorem quote_plain : ∀ l : List UInt8, hasSign l = false → quoteL l = l
  | [], _ => rfl
  | c :: l, h => by
    have e : hasSign (c :: l) = (isSign c || hasSign l) := rfl
    rw [e, Bool.or_eq_false_iff] at h
    have e2 : quoteL (c :: l) = (if isSign c = true then [92, c] else [c]) ++ quoteL l := rfl
    rw [e2, quote_plain l h.2, if_neg (by rw [h.1]; simp)]
    rfl
theorem bytes_inj {a b : ByteArray} : a.data.toList = b.data.toList ↔ a = b := by
  constructor
  · intro h; cases a; cases b; simp at h; rw [h]
  · intro h; rw [h]
theorem globQuotes_spec {s t : ByteArray} {w : World} (bs : s.size ≤ maxLen) (bt : t.size ≤ maxLen) :
    Ctr Try.prog 7 [.string s, .string t] w (fun v w' => v = .bool true ∧ Ext w w') := by
  simp only [maxLen] at bs bt
  refine Ctr_of Try.func7 Try.ntmps7 rfl rfl rfl ?_
  by_cases h2 : s.size ≤ 300 ∧ t.size ≤ 300
  rotate_left
  · repeat' (first | (apply G_on; exact rfl; first | ((first | apply G1_assign | apply G1_move); exact rfl; exact rfl) | (apply G1_call (f := 8); exact rfl; exact rfl; exact rfl; exact awake02; rintro _ w1 ⟨rfl, hx1⟩; refine ⟨(by first | exact .inl rfl | exact .inr (by assumption)), ?_⟩) | (apply G1_not_t; exact rfl; exact rfl) | (apply G1_not_f; exact rfl; exact rfl) | (apply G1_not_dec; exact rfl; exact rfl) | (apply G1_not; exact rfl; exact rfl) | (apply G1_slen; exact T.str9; exact rfl; exact rfl) | (apply G1_gtr; exact rfl; exact rfl; exact rfl) | (apply G1_pick_t; exact rfl; exact rfl; exact rfl) | (apply G1_pick_f; exact rfl; exact rfl; exact rfl) | (apply G1_seql; exact rfl; exact rfl; exact rfl) | (apply G1_beql; exact Try.underlying4; exact rfl; exact rfl; exact rfl)) | apply G_nil | apply Post_next | apply W_seq | apply W_region | (apply W_cond_true; exact rfl) | (apply W_cond_false; exact rfl) | (apply W_cond_dec; exact rfl; all_goals (intro h; try (exfalso; omega))) | (apply W_cond; exact rfl; all_goals intro h) | (apply G_off; exact rfl; exact rfl) | ((fail_if_success (apply G_on; exact rfl)); apply G_split_dec; exact rfl; exact rfl; all_goals (intro h; try (exfalso; omega))) | ((fail_if_success (apply G_on; exact rfl)); apply G_split; exact rfl; exact rfl; all_goals intro h) | apply W_skip | apply W_exit | apply W_ret | apply W_block | apply Post_then_ret | apply Post_block_ret | apply Post_then_exit | apply Post_block_exit | (apply Post_block_other; exact rfl) | apply Post_block_normal)
    all_goals
      refine Post_ret Try.results7 ⟨_, _, rfl, rfl, rfl⟩ ?_
      exact ⟨rfl, (by repeat first | assumption | exact Ext.rfl' | apply Ext.drew | apply Ext.alloc | refine Ext.trans ?_ (by assumption))⟩
  obtain ⟨q, hqe⟩ : ∃ q, mkStr (quoteL s.data.toList) = q := ⟨_, rfl⟩
  have hqd : q.data.toList = quoteL s.data.toList := by rw [← hqe, bytes_mk]
  have hqs : q.size ≤ 600 := by
    have h3 := quoteL_len s.data.toList
    have h4 : s.data.toList.length = s.size := by rw [Array.length_toList]; rfl
    rw [← hqe, mkStr_size']; omega
  have hparts : partsOf q = ones s.data.toList := by
    have := quote_divs (p := s.data.toList) .nil
    rw [List.append_nil, List.append_nil, ← hqd] at this
    exact this.parts
  have hm : ∀ l : ByteArray, matchP (partsOf q) l.data.toList = decide (s = l) := fun l => by
    rw [hparts, match_all]; exact decide_eq_decide.2 bytes_inj
  have m1 := hm t
  have m2 : matchP (partsOf q) s.data.toList = true := by rw [hm s]; exact decide_eq_true rfl
  have hquote : ∀ w, Ctr Try.prog 10 [.string s] w (fun v w' => v = .string q ∧ Ext w w') := fun w => by rw [← hqe]; exact quote_spec (by omega)
  cases hsg : hasSign s.data.toList with
  | true =>
    have hpl : ∀ w, Ctr Try.prog 24 [.string s] w (fun v w' => v = .bool false ∧ Ext w w') := fun w => (plain_spec (by omega)).mono fun v w' ⟨a1, a2⟩ => ⟨by rw [a1, hsg]; rfl, a2⟩
    repeat' (first | (apply G_on; exact rfl; first | ((first | apply G1_assign | apply G1_move); exact rfl; exact rfl) | (apply G1_call (f := 8); exact rfl; exact rfl; exact rfl; exact awake02; rintro _ w1 ⟨rfl, hx1⟩; refine ⟨(by first | exact .inl rfl | exact .inr (by assumption)), ?_⟩) | (apply G1_call (f := 10); exact rfl; exact rfl; exact rfl; exact hquote _; rintro _ w2 ⟨rfl, hx2⟩; refine ⟨(by first | exact .inl rfl | exact .inr (by assumption)), ?_⟩) | (apply G1_call (f := 9); exact rfl; exact rfl; exact rfl; exact match_at (by omega) (by omega) m2; rintro _ w3 ⟨rfl, hx3⟩; refine ⟨(by first | exact .inl rfl | exact .inr (by assumption)), ?_⟩) | (apply G1_call (f := 9); exact rfl; exact rfl; exact rfl; exact match_at (by omega) (by omega) m1; rintro _ w4 ⟨rfl, hx4⟩; refine ⟨(by first | exact .inl rfl | exact .inr (by assumption)), ?_⟩) | (apply G1_call (f := 24); exact rfl; exact rfl; exact rfl; exact hpl _; rintro _ w5 ⟨rfl, hx5⟩; refine ⟨(by first | exact .inl rfl | exact .inr (by assumption)), ?_⟩) | (apply G1_not_t; exact rfl; exact rfl) | (apply G1_not_f; exact rfl; exact rfl) | (apply G1_not_dec; exact rfl; exact rfl) | (apply G1_not; exact rfl; exact rfl) | (apply G1_slen; exact T.str9; exact rfl; exact rfl) | (apply G1_gtr; exact rfl; exact rfl; exact rfl) | (apply G1_pick_t; exact rfl; exact rfl; exact rfl) | (apply G1_pick_f; exact rfl; exact rfl; exact rfl) | (apply G1_seql; exact rfl; exact rfl; exact rfl) | (apply G1_beql; exact Try.underlying4; exact rfl; exact rfl; exact rfl)) | apply G_nil | apply Post_next | apply W_seq | apply W_region | (apply W_cond_true; exact rfl) | (apply W_cond_false; exact rfl) | (apply W_cond_dec; exact rfl; all_goals (intro h; try (exfalso; omega))) | (apply W_cond; exact rfl; all_goals intro h) | (apply G_off; exact rfl; exact rfl) | ((fail_if_success (apply G_on; exact rfl)); apply G_split_dec; exact rfl; exact rfl; all_goals (intro h; try (exfalso; omega))) | ((fail_if_success (apply G_on; exact rfl)); apply G_split; exact rfl; exact rfl; all_goals intro h) | apply W_skip | apply W_exit | apply W_ret | apply W_block | apply Post_then_ret | apply Post_block_ret | apply Post_then_exit | apply Post_block_exit | (apply Post_block_other; exact rfl) | apply Post_block_normal)
    all_goals try (exfalso; simp at h; done)
    all_goals
      refine Post_ret Try.results7 ⟨_, _, rfl, rfl, rfl⟩ ?_
      exact ⟨by simp [resVal], (by repeat first | assumption | exact Ext.rfl' | apply Ext.drew | apply Ext.alloc | refine Ext.trans ?_ (by assumption))⟩
  | false =>
    have hpl : ∀ w, Ctr Try.prog 24 [.string s] w (fun v w' => v = .bool true ∧ Ext w w') := fun w => (plain_spec (by omega)).mono fun v w' ⟨a1, a2⟩ => ⟨by rw [a1, hsg]; rfl, a2⟩
    have hqs2 : q = s := by rw [← bytes_inj, hqd, quote_plain _ hsg]
    have m3 := m1
    rw [hqs2] at m3
    repeat' (first | (apply G_on; exact rfl; first | ((first | apply G1_assign | apply G1_move); exact rfl; exact rfl) | (apply G1_call (f := 8); exact rfl; exact rfl; exact rfl; exact awake02; rintro _ w1 ⟨rfl, hx1⟩; refine ⟨(by first | exact .inl rfl | exact .inr (by assumption)), ?_⟩) | (apply G1_call (f := 10); exact rfl; exact rfl; exact rfl; exact hquote _; rintro _ w2 ⟨rfl, hx2⟩; refine ⟨(by first | exact .inl rfl | exact .inr (by assumption)), ?_⟩) | (apply G1_call (f := 9); exact rfl; exact rfl; exact rfl; exact match_at (by omega) (by omega) m2; rintro _ w3 ⟨rfl, hx3⟩; refine ⟨(by first | exact .inl rfl | exact .inr (by assumption)), ?_⟩) | (apply G1_call (f := 9); exact rfl; exact rfl; exact rfl; exact match_at (by omega) (by omega) m1; rintro _ w4 ⟨rfl, hx4⟩; refine ⟨(by first | exact .inl rfl | exact .inr (by assumption)), ?_⟩) | (apply G1_call (f := 9); exact rfl; exact rfl; exact rfl; exact match_at (by omega) (by omega) m3; rintro _ w6 ⟨rfl, hx6⟩; refine ⟨(by first | exact .inl rfl | exact .inr (by assumption)), ?_⟩) | (apply G1_call (f := 24); exact rfl; exact rfl; exact rfl; exact hpl _; rintro _ w5 ⟨rfl, hx5⟩; refine ⟨(by first | exact .inl rfl | exact .inr (by assumption)), ?_⟩) | (apply G1_not_t; exact rfl; exact rfl) | (apply G1_not_f; exact rfl; exact rfl) | (apply G1_not_dec; exact rfl; exact rfl) | (apply G1_not; exact rfl; exact rfl) | (apply G1_slen; exact T.str9; exact rfl; exact rfl) | (apply G1_gtr; exact rfl; exact rfl; exact rfl) | (apply G1_pick_t; exact rfl; exact rfl; exact rfl) | (apply G1_pick_f; exact rfl; exact rfl; exact rfl) | (apply G1_seql; exact rfl; exact rfl; exact rfl) | (apply G1_beql; exact Try.underlying4; exact rfl; exact rfl; exact rfl)) | apply G_nil | apply Post_next | apply W_seq | apply W_region | (apply W_cond_true; exact rfl) | (apply W_cond_false; exact rfl) | (apply W_cond_dec; exact rfl; all_goals (intro h; try (exfalso; omega))) | (apply W_cond; exact rfl; all_goals intro h) | (apply G_off; exact rfl; exact rfl) | ((fail_if_success (apply G_on; exact rfl)); apply G_split_dec; exact rfl; exact rfl; all_goals (intro h; try (exfalso; omega))) | ((fail_if_success (apply G_on; exact rfl)); apply G_split; exact rfl; exact rfl; all_goals intro h) | apply W_skip | apply W_exit | apply W_ret | apply W_block | apply Post_then_ret | apply Post_block_ret | apply Post_then_exit | apply Post_block_exit | (apply Post_block_other; exact rfl) | apply Post_block_normal)
    all_goals try (exfalso; simp [hqs2] at h; done)
    all_goals
      refine Post_ret Try.results7 ⟨_, _, rfl, rfl, rfl⟩ ?_
      exact ⟨by simp [resVal], (by repeat first | assumption | exact Ext.rfl' | apply Ext.drew | apply Ext.alloc | refine Ext.trans ?_ (by assumption))⟩
end Go.Proofs.Ytbphlenpclnobaa
