/- The document's Size, Right, Same of replies: the walks. -/
import Derived.Test.YtikjnmpijflnaaaDoorVRepBase
namespace Go.V
theorem sizeT_le : ∀ (d : Nat) (t : Rep), 0 ≤ sizeT d t ∧ sizeT d t ≤ 100000 * (d + 1)
  | 0, t => by simp [sizeT]
  | d + 1, t => by
    have key : ∀ (l : List Rep) (n : Int), 0 ≤ n → n ≤ 100000 * (d + 2) → 0 ≤ sizeL (sizeT d) l n ∧ sizeL (sizeT d) l n ≤ 100000 * (d + 2) := by
      intro l
      induction l with
      | nil => intro n h1 h2; exact ⟨h1, h2⟩
      | cons x l ih =>
        intro n h1 h2
        unfold sizeL
        split
        · have := sizeT_le d x
          exact ih _ (by omega) (by omega)
        · exact ⟨h1, h2⟩
    unfold sizeT
    split
    · constructor
      · omega
      · have : (0 : Int) ≤ (d : Int) := by omega
        push_cast; omega
    · have := key t.l 1 (by omega) (by omega)
      push_cast
      constructor
      · exact this.1
      · have := this.2; omega
theorem sizeL_stop (f : Rep → Int) (l : List Rep) (n : Int) (h : ¬ n < 100000) : sizeL f l n = n := by
  cases l with
  | nil => rfl
  | cons x l => unfold sizeL; rw [if_neg h]
theorem sizeL_cons (f : Rep → Int) (x : Rep) (l : List Rep) (n : Int) (h : n < 100000) : sizeL f (x :: l) n = sizeL f l (n + f x) := by
  conv => lhs; unfold sizeL
  rw [if_pos h]
theorem dropc {α : Type} {xs : List α} {k : Nat} {x : α} (h : xs[k]? = some x) : xs.drop k = x :: xs.drop (k + 1) := by
  rw [List.drop_eq_getElem_cons (get_lt h)]
  rw [List.getElem?_eq_getElem (get_lt h)] at h
  injection h with h
  rw [h]
end Go.V
namespace Go.Proofs.YtikjnmpijflnaaaDoor
open Go.V
attribute [local irreducible] Blk Own hcell IntT SliceT PlainT AggT SizeT StrT FieldT ZeroT EqT ArrT
theorem size_spec : ∀ (d e : Nat) {r : RawR} {t : Rep} {w : World}, d ≤ 20 → RepAt w.heap e r t →
    Ctr Tryd.prog 13 [.agg (eRep.enc r).toArray, .int .i64 (d : Int)] w (fun v w' => v = .int .i64 (sizeT d t) ∧ Ext w w') := by
  intro d
  induction d with
  | zero =>
    intro e r t w _ hr
    refine Ctr_of Tryd.func13 Tryd.ntmps13 rfl rfl rfl ?_
    repeat' (first | apply W_seq | apply W_region)
    apply G_on; exact rfl; apply G1_box; exact rfl; exact rfl; exact rfl; intro a1 w1 ha1 hA1 hx1 hs1
    repeat' (first | (apply G_on; exact rfl; first | ((first | apply G1_assign | apply G1_move); exact rfl; exact rfl) | (apply G1_eql; exact rfl; exact rfl; exact rfl) | (apply G1_pick_t; exact rfl; exact rfl; exact rfl)) | apply G_nil | apply Post_next | apply W_seq | apply W_region | (apply W_cond_true; exact rfl) | (apply G_off; exact rfl; exact rfl) | apply W_ret | apply Post_then_ret)
    refine Post_ret Tryd.results13 ⟨_, _, rfl, rfl, rfl⟩ ?_
    exact ⟨rfl, (by repeat first | assumption | exact Ext.rfl' | apply Ext.drew | apply Ext.alloc | refine Ext.trans ?_ (by assumption))⟩
  | succ d ih =>
    intro e r t w hd hr
    obtain ⟨e, rs, rfl, hk, hs, hn, hl, hsz, hfit, hL⟩ := hr.open
    refine Ctr_of Tryd.func13 Tryd.ntmps13 rfl rfl rfl ?_
    repeat' (first | apply W_seq | apply W_region)
    apply G_on; exact rfl; apply G1_box; exact rfl; exact rfl; exact rfl; intro a1 w1 ha1 hA1 hx1 hs1
    replace hA1 : Blk w1.heap a1 24 [.int .i64 r.kind, .string r.s, .int .i64 r.n, .slice r.p r.len r.cap] := hA1
    rw [hk, hs, hn, hl] at hA1
    simp only [maxLen] at hsz
    by_cases h2 : 2000 < t.s.size
    · repeat' (first | (apply G_on; exact rfl; first | ((first | apply G1_assign | apply G1_move); exact rfl; exact rfl) | ((first | apply G1_eql | apply G1_gtr); exact rfl; exact rfl; exact rfl) | (apply G1_fieldAddr; exact T.f24_1; exact rfl; exact rfl) | (apply G1_loadB; exact T.p9; exact rfl; assumption; exact rfl; exact rfl) | (apply G1_slen; exact T.str9; exact rfl; exact rfl) | (apply G1_pick_f; exact rfl; exact rfl; exact rfl)) | apply G_nil | apply Post_next | apply W_seq | apply W_region | (apply W_cond_dec; exact rfl; all_goals (intro h; try (exfalso; omega))) | apply W_ret | apply Post_then_ret)
      all_goals try (exfalso; omega)
      refine Post_ret Tryd.results13 ⟨_, _, rfl, rfl, rfl⟩ ?_
      exact ⟨by unfold sizeT; rw [if_pos h2]; rfl, (by repeat first | assumption | exact Ext.rfl' | apply Ext.drew | apply Ext.alloc | refine Ext.trans ?_ (by assumption))⟩
    · have hst : sizeT (d + 1) t = sizeL (sizeT d) t.l 1 := by
        conv => lhs; unfold sizeT
        rw [if_neg h2]
      rw [hst]
      have n1 := hL.sl.bound
      have hlen := hL.len
      repeat' (first | (apply G_on; exact rfl; first | ((first | apply G1_assign | apply G1_move); exact rfl; exact rfl) | ((first | apply G1_eql | apply G1_gtr); exact rfl; exact rfl; exact rfl) | (apply G1_fieldAddr; exact T.f24_1; exact rfl; exact rfl) | (apply G1_loadB; exact T.p9; exact rfl; assumption; exact rfl; exact rfl) | (apply G1_slen; exact T.str9; exact rfl; exact rfl) | (apply G1_pick_f; exact rfl; exact rfl; exact rfl)) | apply G_nil | apply Post_next | apply W_seq | apply W_region | (apply W_cond_dec; exact rfl; all_goals (intro h; try (exfalso; omega))) | apply W_skip | apply W_block)
      all_goals try (exfalso; omega)
      refine W_loop (ι := Nat × Int) (fun y => [(1, .int .i64 ((d : Int) + 1)), (2, .pointer (some (adr (bx a1) 0))), (5, .int .i64 y.2), (6, .int .i64 (y.1 : Int))])
        (fun y w' => Ext w1 w' ∧ y.1 ≤ rs.length ∧ 0 ≤ y.2 ∧ y.2 ≤ 100000 * (d + 2) ∧ sizeL (sizeT d) t.l 1 = sizeL (sizeT d) (t.l.drop y.1) y.2) (fun y => rs.length - y.1) (0, 1) ⟨rfl, rfl, rfl, rfl, trivial⟩ ⟨(by repeat first | assumption | exact Ext.rfl' | apply Ext.drew | apply Ext.alloc | refine Ext.trans ?_ (by assumption)), Nat.zero_le _, by omega, by simp only; omega, rfl⟩ ?_
      rintro ⟨i, n⟩ w2 ⟨hx2, hi, h0, hm, hq⟩
      simp only at hi h0 hm hq
      refine W_keep [(1, .int .i64 ((d : Int) + 1)), (2, .pointer (some (adr (bx a1) 0))), (5, .int .i64 n), (6, .int .i64 (i : Int))] ⟨rfl, rfl, rfl, rfl, trivial⟩ ?_
      have hA2 := hA1.ext hx2
      have hL2 := (hL.ext hx1).ext hx2
      have hsl := hL2.sl
      by_cases hlt : i < rs.length
      · obtain ⟨r', hr'⟩ := get_some hlt
        obtain ⟨t', ht'⟩ := get_some (xs := t.l) (k := i) (by omega)
        rw [dropc ht'] at hq
        by_cases h100 : n < 100000
        · rw [sizeL_cons _ _ _ _ h100] at hq
          have hle := sizeT_le d t'
          have e1 : ((d : Int) + 1) - 1 = d := by omega
          have ih' : Ctr Tryd.prog 13 [.agg (eRep.enc r').toArray, .int .i64 ((d : Int) + 1 - 1)] w2 (fun v w' => v = .int .i64 (sizeT d t') ∧ Ext w2 w') := by
            rw [e1]; exact ih e (by omega) (hL2.get i r' t' hr' ht')
          repeat' (first | (apply G_on; exact rfl; first | ((first | apply G1_assign | apply G1_move); exact rfl; exact rfl) | (apply G1_call (f := 13); exact rfl; exact rfl; exact rfl; exact ih'; rintro _ w3 ⟨rfl, hx3⟩; refine ⟨(by first | exact .inl rfl | exact .inr (by assumption)), ?_⟩) | (apply G1_lss; exact rfl; exact rfl; exact rfl) | (apply G1_fieldAddr; exact T.f24_3; exact rfl; exact rfl) | (apply G1_loadB; exact T.p22; exact rfl; assumption; exact rfl; exact rfl) | (apply G1_pick_t; exact rfl; exact rfl; exact rfl) | (apply G1_len; exact T.s22; exact rfl; exact rfl) | (apply G1_indexAddrN; exact T.s22; exact rfl; exact rfl; (first | assumption | exact Sl.ok (by assumption) | exact (Own.sl (by assumption)).ok); omega; exact rfl) | (apply G1_loadEl; exact T.a24; exact rfl; assumption; assumption; exact rfl; exact rfl) | (apply G1_sub; exact rfl; exact rfl; omega; omega; exact rfl) | (apply G1_add; exact rfl; exact rfl; omega; omega; exact rfl)) | apply G_nil | apply Post_next | apply W_seq | apply W_region | (apply W_cond_dec; exact rfl; all_goals (intro h; try (exfalso; omega))) | ((fail_if_success (apply G_on; exact rfl)); apply G_split_dec; exact rfl; exact rfl; all_goals (intro h; try (exfalso; omega))) | apply W_skip | apply W_block | apply Post_block_normal)
          exact Post_round (i + 1, n + sizeT d t') ⟨rfl, rfl, rfl, rfl, trivial⟩ ⟨(by repeat first | assumption | exact Ext.rfl' | apply Ext.drew | apply Ext.alloc | refine Ext.trans ?_ (by assumption)), by simp only; omega, by simp only; omega, by simp only; omega, hq⟩ (by simp only; omega)
        · rw [sizeL_stop _ _ _ h100] at hq
          repeat' (first | (apply G_on; exact rfl; first | ((first | apply G1_assign | apply G1_move); exact rfl; exact rfl) | (apply G1_lss; exact rfl; exact rfl; exact rfl) | (apply G1_fieldAddr; exact T.f24_3; exact rfl; exact rfl) | (apply G1_loadB; exact T.p22; exact rfl; assumption; exact rfl; exact rfl) | (apply G1_pick_t; exact rfl; exact rfl; exact rfl) | (apply G1_len; exact T.s22; exact rfl; exact rfl)) | apply G_nil | apply Post_next | apply W_seq | apply W_region | (apply W_cond_dec; exact rfl; all_goals (intro h; try (exfalso; omega))) | ((fail_if_success (apply G_on; exact rfl)); apply G_split_dec; exact rfl; exact rfl; all_goals (intro h; try (exfalso; omega))) | apply W_exit | apply W_ret | apply Post_then_exit | apply Post_block_exit)
          refine Post_ret Tryd.results13 ⟨_, _, rfl, rfl, rfl⟩ ?_
          exact ⟨by rw [hq]; rfl, (by repeat first | assumption | exact Ext.rfl' | apply Ext.drew | apply Ext.alloc | refine Ext.trans ?_ (by assumption))⟩
      · rw [List.drop_of_length_le (by omega)] at hq
        repeat' (first | (apply G_on; exact rfl; first | ((first | apply G1_assign | apply G1_move); exact rfl; exact rfl) | (apply G1_lss; exact rfl; exact rfl; exact rfl) | (apply G1_fieldAddr; exact T.f24_3; exact rfl; exact rfl) | (apply G1_loadB; exact T.p22; exact rfl; assumption; exact rfl; exact rfl) | (apply G1_pick_f; exact rfl; exact rfl; exact rfl) | (apply G1_len; exact T.s22; exact rfl; exact rfl)) | apply G_nil | apply Post_next | apply W_seq | apply W_region | (apply W_cond_false; exact rfl) | (apply G_off; exact rfl; exact rfl) | ((fail_if_success (apply G_on; exact rfl)); apply G_split_dec; exact rfl; exact rfl; all_goals (intro h; try (exfalso; omega))) | apply W_exit | apply W_ret | apply Post_then_exit | apply Post_block_exit)
        refine Post_ret Tryd.results13 ⟨_, _, rfl, rfl, rfl⟩ ?_
        exact ⟨by rw [hq]; rfl, (by repeat first | assumption | exact Ext.rfl' | apply Ext.drew | apply Ext.alloc | refine Ext.trans ?_ (by assumption))⟩
/-- what Right looks at first -/
structure Head (t : Rep) : Prop where
  lo : 0 ≤ t.kind
  hi : t.kind ≤ 5
  list : t.kind ≠ 5 → t.l.length = 0
  num : t.kind ≠ 2 → t.n = 0
  text : t.kind ≠ 0 → t.kind ≠ 1 → t.kind ≠ 3 → t.s = ⟨#[]⟩
theorem leaf_iff {t : Rep} : leafOk t = true ↔ Head t ∧ (t.kind < 2 → nobr t.s = true) := by
  unfold leafOk
  simp only [Bool.and_eq_true, Bool.or_eq_true, decide_eq_true_eq, List.isEmpty_iff]
  constructor
  · rintro ⟨⟨⟨⟨⟨h1, h2⟩, h3⟩, h4⟩, h5⟩, h6⟩
    refine ⟨⟨h1, h2, fun e => by rw [h3.resolve_left e]; rfl, fun e => h4.resolve_left e, fun e1 e2 e3 => ?_⟩, fun e => h6.resolve_left (by omega)⟩
    rcases h5 with ((h5 | h5) | h5) | h5
    · exact absurd h5 e1
    · exact absurd h5 e2
    · exact absurd h5 e3
    · exact h5
  · rintro ⟨⟨h1, h2, h3, h4, h5⟩, h6⟩
    refine ⟨⟨⟨⟨⟨h1, h2⟩, ?_⟩, ?_⟩, ?_⟩, ?_⟩
    · by_cases e : t.kind = 5
      · exact .inl e
      · exact .inr (List.eq_nil_of_length_eq_zero (h3 e))
    · by_cases e : t.kind = 2
      · exact .inl e
      · exact .inr (h4 e)
    · by_cases e : t.kind = 0 ∨ t.kind = 1 ∨ t.kind = 3
      · rcases e with e | e | e
        · exact .inl (.inl (.inl e))
        · exact .inl (.inl (.inr e))
        · exact .inl (.inr e)
      · exact .inr (h5 (by omega) (by omega) (by omega))
    · by_cases e : t.kind < 2
      · exact .inr (h6 e)
      · exact .inl (by omega)
theorem right_zero (t : Rep) : rightT 0 t = (leafOk t && decide (t.kind ≠ 5)) := rfl
theorem right_succ (d : Nat) (t : Rep) : rightT (d + 1) t = (leafOk t && t.l.all (rightT d)) := rfl
theorem right_no {d : Nat} {t : Rep} (h : leafOk t = false) : rightT d t = false := by
  cases d <;> simp [rightT, h]

theorem leaf_no {t : Rep} (h : ¬ Head t) : leafOk t = false := by
  cases e : leafOk t with
  | false => rfl
  | true => exact absurd (leaf_iff.1 e).1 h


theorem right_spec : ∀ (d e : Nat) {r : RawR} {t : Rep} {w : World}, d ≤ 20 → RepAt w.heap e r t →
    Ctr Tryd.prog 14 [.agg (eRep.enc r).toArray, .int .i64 (d : Int)] w (fun v w' => v = .bool (rightT d t) ∧ Ext w w') := by
  intro d
  induction d with
  | zero =>
    intro e r t w _ hr
    obtain ⟨e, rs, rfl, hk, hs, hn, hl, hsz, hfit, hL⟩ := hr.open
    have n1 := hL.sl.bound
    have hlen := hL.len
    simp only [maxLen] at hsz
    refine Ctr_of Tryd.func14 Tryd.ntmps14 rfl rfl rfl ?_
    repeat' (first | apply W_seq | apply W_region)
    apply G_on; exact rfl; apply G1_box; exact rfl; exact rfl; exact rfl; intro a1 w1 ha1 hA1 hx1 hs1
    replace hA1 : Blk w1.heap a1 24 [.int .i64 r.kind, .string r.s, .int .i64 r.n, .slice r.p r.len r.cap] := hA1
    rw [hk, hs, hn, hl] at hA1
    rcases Classical.em (Head t) with hh | hh
    rotate_left
    · repeat' (first | (refine W_cutR (id := 1) [(1, .int .i64 (0 : Int)), (2, .pointer (some (adr (bx a1) 0))), (55, .bool true)] (fun w' => w' = w1) ?_ ?_) | (refine Post_cut ⟨rfl, rfl, rfl, trivial⟩ rfl) | (apply G_on; exact rfl; first | ((first | apply G1_assign | apply G1_move); exact rfl; exact rfl) | (apply G1_fieldAddr; (first | exact T.f24_0 | exact T.f24_3 | exact T.f24_2 | exact T.f24_1); exact rfl; exact rfl) | (apply G1_loadB; (first | exact T.p3 | exact T.p22 | exact T.p9); exact rfl; assumption; exact rfl; exact rfl) | ((first | apply G1_lss | apply G1_gtr); exact rfl; exact rfl; exact rfl) | (apply G1_pick_t; exact rfl; exact rfl; exact rfl) | (apply G1_pick_f; exact rfl; exact rfl; exact rfl) | (apply G1_neq; exact rfl; exact rfl; exact rfl) | (apply G1_len; exact T.s22; exact rfl; exact rfl) | (apply G1_sneq; exact rfl; exact rfl; exact rfl)) | apply G_nil | apply Post_next | apply W_seq | apply W_region | (apply G_off; exact rfl; exact rfl) | ((fail_if_success (apply G_on; exact rfl)); apply G_split_dec; exact rfl; exact rfl; all_goals (intro h; try (exfalso; omega))))
      all_goals try first
        | exact absurd (⟨by omega, by omega, by intro _; omega, by intro _; omega, by intro _ _ _; omega⟩ : Head t) hh
        | (refine Post_cut ⟨rfl, rfl, ?_, trivial⟩ rfl
           show some (Value.bool (decide _)) = _
           have hns : ¬ t.s = ⟨#[]⟩ := fun he => hh ⟨by omega, by omega, by intro _; omega, by intro _; omega, fun _ _ _ => he⟩
           rw [decide_eq_true hns])
      intro w' e'; rw [e']; clear e' w'
      repeat' (first | (apply G_on; exact rfl; (apply G1_assign; exact rfl; exact rfl)) | apply G_nil | apply Post_next | apply W_seq | apply W_region | (apply W_cond_true; exact rfl) | apply W_ret | apply Post_then_ret)
      refine Post_ret Tryd.results14 ⟨_, _, rfl, rfl, rfl⟩ ?_
      exact ⟨by rw [right_no (leaf_no hh)]; rfl, (by repeat first | assumption | exact Ext.rfl' | apply Ext.drew | apply Ext.alloc | refine Ext.trans ?_ (by assumption))⟩
    have h1 := hh.lo
    have h2 := hh.hi
    have h3 := hh.list
    have h4 := hh.num
    repeat' (first | (refine W_cutR (id := 1) [(1, .int .i64 (0 : Int)), (2, .pointer (some (adr (bx a1) 0))), (55, .bool false)] (fun w' => w' = w1) ?_ ?_) | (refine Post_cut ⟨rfl, rfl, rfl, trivial⟩ rfl) | (apply G_on; exact rfl; first | ((first | apply G1_assign | apply G1_move); exact rfl; exact rfl) | (apply G1_fieldAddr; (first | exact T.f24_0 | exact T.f24_3 | exact T.f24_2 | exact T.f24_1); exact rfl; exact rfl) | (apply G1_loadB; (first | exact T.p3 | exact T.p22 | exact T.p9); exact rfl; assumption; exact rfl; exact rfl) | ((first | apply G1_lss | apply G1_gtr); exact rfl; exact rfl; exact rfl) | (apply G1_pick_t; exact rfl; exact rfl; exact rfl) | (apply G1_pick_f; exact rfl; exact rfl; exact rfl) | (apply G1_neq; exact rfl; exact rfl; exact rfl) | (apply G1_len; exact T.s22; exact rfl; exact rfl) | (apply G1_sneq; exact rfl; exact rfl; exact rfl)) | apply G_nil | apply Post_next | apply W_seq | apply W_region | (apply G_off; exact rfl; exact rfl) | ((fail_if_success (apply G_on; exact rfl)); apply G_split_dec; exact rfl; exact rfl; all_goals (intro h; try (exfalso; omega))))
    all_goals try
      refine Post_cut ⟨rfl, rfl, ?_, trivial⟩ rfl
      show some (Value.bool (decide _)) = _
      rw [decide_eq_false (fun h => h (hh.text (by omega) (by omega) (by omega)))]
    intro w' e'; rw [e']; clear e' w'
    repeat' (first | (apply G_on; exact rfl; (apply G1_assign; exact rfl; exact rfl)) | apply G_nil | apply Post_next | apply W_seq | apply W_region | (apply W_cond_false; exact rfl) | apply W_skip | apply W_block)
    refine W_loop (ι := Nat) (fun k => [(1, .int .i64 (0 : Int)), (2, .pointer (some (adr (bx a1) 0))), (5, .int .i64 (k : Int))])
      (fun k w' => Ext w w' ∧ Blk w'.heap a1 24 [.int .i64 t.kind, .string t.s, .int .i64 t.n, .slice r.p rs.length r.cap] ∧ k ≤ t.s.size ∧ (t.kind < 2 → ∀ j, j < k → bget t.s j ≠ 13 ∧ bget t.s j ≠ 10)) (fun k => t.s.size - k) 0 ⟨rfl, rfl, rfl, trivial⟩ ⟨hx1, hA1, Nat.zero_le _, fun _ j hj => by omega⟩ ?_
    rintro k w2 ⟨hx2, hA2, hk2, hb⟩
    rcases Classical.em (t.kind < 2 ∧ k < t.s.size) with hk3 | hk3
    · by_cases hbad : bget t.s k = 13 ∨ bget t.s k = 10
      · have hno : leafOk t = false := by
          cases e : leafOk t with
          | false => rfl
          | true =>
            have := (nobr_iff t.s).1 ((leaf_iff.1 e).2 hk3.1) k hk3.2
            rcases hbad with hb | hb
            · exact absurd hb this.1
            · exact absurd hb this.2
        have hbn : ((bget t.s ((k : Int).toNat)).toNat : Int) = 13 ∨ ((bget t.s ((k : Int).toNat)).toNat : Int) = 10 := by
          rw [Int.toNat_natCast]
          rcases hbad with hb | hb <;> rw [hb] <;> simp
        repeat' (first | (apply G_on; exact rfl; first | ((first | apply G1_assign | apply G1_move); exact rfl; exact rfl) | (apply G1_fieldAddr; (first | exact T.f24_0 | exact T.f24_1); exact rfl; exact rfl) | (apply G1_loadB; (first | exact T.p3 | exact T.p9); exact rfl; assumption; exact rfl; exact rfl) | ((first | apply G1_lss | apply G1_eql); exact rfl; exact rfl; exact rfl) | (apply G1_pick_t; exact rfl; exact rfl; exact rfl) | (apply G1_pick_f; exact rfl; exact rfl; exact rfl) | (apply G1_slen; exact T.str9; exact rfl; exact rfl) | (apply G1_sindex; exact T.str9; exact rfl; exact rfl; omega; omega; exact rfl)) | apply G_nil | apply Post_next | apply W_seq | apply W_region | (apply W_cond_true; exact rfl) | (apply W_cond_dec; exact rfl; all_goals (intro h; try (exfalso; omega))) | (apply G_off; exact rfl; exact rfl) | ((fail_if_success (apply G_on; exact rfl)); apply G_split_dec; exact rfl; exact rfl; all_goals (intro h; try (exfalso; omega))) | apply W_skip | apply W_ret | apply W_block | apply Post_then_ret | apply Post_block_ret)
        all_goals
          refine Post_ret Tryd.results14 ⟨_, _, rfl, rfl, rfl⟩ ?_
          exact ⟨by rw [right_no hno]; rfl, (by repeat first | assumption | exact Ext.rfl' | apply Ext.drew | apply Ext.alloc | refine Ext.trans ?_ (by assumption))⟩
      · have hbn : ¬ ((bget t.s ((k : Int).toNat)).toNat : Int) = 13 ∧ ¬ ((bget t.s ((k : Int).toNat)).toNat : Int) = 10 := by
          rw [Int.toNat_natCast]
          constructor
          · intro e; exact hbad (.inl (UInt8.toNat_inj.1 (by show (bget t.s k).toNat = 13; omega)))
          · intro e; exact hbad (.inr (UInt8.toNat_inj.1 (by show (bget t.s k).toNat = 10; omega)))
        repeat' (first | (apply G_on; exact rfl; first | ((first | apply G1_assign | apply G1_move); exact rfl; exact rfl) | (apply G1_fieldAddr; (first | exact T.f24_0 | exact T.f24_1); exact rfl; exact rfl) | (apply G1_loadB; (first | exact T.p3 | exact T.p9); exact rfl; assumption; exact rfl; exact rfl) | ((first | apply G1_lss | apply G1_eql); exact rfl; exact rfl; exact rfl) | (apply G1_pick_t; exact rfl; exact rfl; exact rfl) | (apply G1_pick_f; exact rfl; exact rfl; exact rfl) | (apply G1_slen; exact T.str9; exact rfl; exact rfl) | (apply G1_sindex; exact T.str9; exact rfl; exact rfl; omega; omega; exact rfl) | (apply G1_add; exact rfl; exact rfl; omega; omega; exact rfl)) | apply G_nil | apply Post_next | apply W_seq | apply W_region | (apply W_cond_dec; exact rfl; all_goals (intro h; try (exfalso; omega))) | ((fail_if_success (apply G_on; exact rfl)); apply G_split_dec; exact rfl; exact rfl; all_goals (intro h; try (exfalso; omega))) | apply W_skip | apply W_block | apply Post_block_normal)
        refine Post_round (k + 1) ⟨rfl, rfl, rfl, trivial⟩ ⟨(by repeat first | assumption | exact Ext.rfl' | apply Ext.drew | apply Ext.alloc | refine Ext.trans ?_ (by assumption)), hA2, by omega, fun hk j hj => ?_⟩ (by omega)
        by_cases e : j = k
        · subst e; exact ⟨fun e => hbad (.inl e), fun e => hbad (.inr e)⟩
        · exact hb hk j (by omega)
    have hleaf : leafOk t = true := leaf_iff.2 ⟨hh, fun hk => (nobr_iff t.s).2 (fun j hj => hb hk j (by omega))⟩
    have hL2 := hL.ext hx2
    have hsl := hL2.sl
    repeat' (first | (refine W_cutR (id := 4) [(1, .int .i64 (0 : Int)), (2, .pointer (some (adr (bx a1) 0))), (65, .bool false)] (fun w' => w' = w2) ?_ ?_) | (apply G_on; exact rfl; first | (apply G1_move; exact rfl; exact rfl) | (apply G1_fieldAddr; (first | exact T.f24_0 | exact T.f24_1); exact rfl; exact rfl) | (apply G1_loadB; (first | exact T.p3 | exact T.p9); exact rfl; assumption; exact rfl; exact rfl) | (apply G1_lss; exact rfl; exact rfl; exact rfl) | (apply G1_pick_t; exact rfl; exact rfl; exact rfl) | (apply G1_pick_f; exact rfl; exact rfl; exact rfl) | (apply G1_slen; exact T.str9; exact rfl; exact rfl)) | apply G_nil | apply W_seq | apply W_region | (refine Post_cut ⟨rfl, rfl, rfl, trivial⟩ rfl) | (apply G_off; exact rfl; exact rfl) | ((fail_if_success (apply G_on; exact rfl)); apply G_split_dec; exact rfl; exact rfl; all_goals (intro h; try (exfalso; omega))))
    all_goals try
      refine Post_cut ⟨rfl, rfl, ?_, trivial⟩ rfl
      show some (Value.bool (decide _)) = _
      rw [decide_eq_false (by omega)]
    intro w' e'; rw [e']; clear e' w'
    by_cases hk5 : t.kind = 5
    · repeat' (first | (apply G_on; exact rfl; first | ((first | apply G1_assign | apply G1_move); exact rfl; exact rfl) | (apply G1_fieldAddr; exact T.f24_0; exact rfl; exact rfl) | (apply G1_loadB; exact T.p3; exact rfl; assumption; exact rfl; exact rfl) | (apply G1_eql; exact rfl; exact rfl; exact rfl) | (apply G1_pick_t; exact rfl; exact rfl; exact rfl)) | apply G_nil | apply Post_next | apply W_seq | apply W_region | (apply W_cond_true; exact rfl) | (apply W_cond_false; exact rfl) | ((fail_if_success (apply G_on; exact rfl)); apply G_split_dec; exact rfl; exact rfl; all_goals (intro h; try (exfalso; omega))) | apply W_exit | apply W_ret | apply Post_then_ret | apply Post_then_exit | apply Post_block_exit)
      refine Post_ret Tryd.results14 ⟨_, _, rfl, rfl, rfl⟩ ?_
      exact ⟨by rw [right_zero, hk5]; simp; rfl, (by repeat first | assumption | exact Ext.rfl' | apply Ext.drew | apply Ext.alloc | refine Ext.trans ?_ (by assumption))⟩
    · have hl0 := h3 hk5
      repeat' (first | (apply G_on; exact rfl; first | ((first | apply G1_assign | apply G1_move); exact rfl; exact rfl) | (apply G1_fieldAddr; exact T.f24_0; exact rfl; exact rfl) | (apply G1_loadB; exact T.p3; exact rfl; assumption; exact rfl; exact rfl) | (apply G1_eql; exact rfl; exact rfl; exact rfl) | (apply G1_pick_f; exact rfl; exact rfl; exact rfl)) | apply G_nil | apply Post_next | apply W_seq | apply W_region | (apply W_cond_false; exact rfl) | (apply G_off; exact rfl; exact rfl) | ((fail_if_success (apply G_on; exact rfl)); apply G_split_dec; exact rfl; exact rfl; all_goals (intro h; try (exfalso; omega))) | apply W_skip | apply W_exit | apply W_block | apply Post_then_exit | apply Post_block_exit)
      refine W_loop (ι := Unit) (fun _ => [(2, .pointer (some (adr (bx a1) 0))), (6, .int .i64 0)]) (fun _ w' => w' = w2) (fun _ => 0) () ⟨rfl, rfl, trivial⟩ rfl ?_
      rintro _ _ rfl
      repeat' (first | (apply G_on; exact rfl; first | ((first | apply G1_assign | apply G1_move); exact rfl; exact rfl) | (apply G1_fieldAddr; exact T.f24_3; exact rfl; exact rfl) | (apply G1_loadB; exact T.p22; exact rfl; assumption; exact rfl; exact rfl) | (apply G1_lss; exact rfl; exact rfl; exact rfl) | (apply G1_len; exact T.s22; exact rfl; exact rfl)) | apply G_nil | apply Post_next | apply W_seq | apply W_region | (apply W_cond_dec; exact rfl; all_goals (intro h; try (exfalso; omega))) | apply W_exit | apply W_ret | apply Post_then_exit | apply Post_block_exit)
      refine Post_ret Tryd.results14 ⟨_, _, rfl, rfl, rfl⟩ ?_
      exact ⟨by rw [right_zero, hleaf, decide_eq_true hk5]; rfl, (by repeat first | assumption | exact Ext.rfl' | apply Ext.drew | apply Ext.alloc | refine Ext.trans ?_ (by assumption))⟩
  | succ d ih =>
    intro e r t w hd hr
    obtain ⟨e, rs, rfl, hk, hs, hn, hl, hsz, hfit, hL⟩ := hr.open
    have n1 := hL.sl.bound
    have hlen := hL.len
    simp only [maxLen] at hsz
    refine Ctr_of Tryd.func14 Tryd.ntmps14 rfl rfl rfl ?_
    repeat' (first | apply W_seq | apply W_region)
    apply G_on; exact rfl; apply G1_box; exact rfl; exact rfl; exact rfl; intro a1 w1 ha1 hA1 hx1 hs1
    replace hA1 : Blk w1.heap a1 24 [.int .i64 r.kind, .string r.s, .int .i64 r.n, .slice r.p r.len r.cap] := hA1
    rw [hk, hs, hn, hl] at hA1
    rcases Classical.em (Head t) with hh | hh
    rotate_left
    · repeat' (first | (refine W_cutR (id := 1) [(1, .int .i64 ((d : Int) + 1)), (2, .pointer (some (adr (bx a1) 0))), (55, .bool true)] (fun w' => w' = w1) ?_ ?_) | (refine Post_cut ⟨rfl, rfl, rfl, trivial⟩ rfl) | (apply G_on; exact rfl; first | ((first | apply G1_assign | apply G1_move); exact rfl; exact rfl) | (apply G1_fieldAddr; (first | exact T.f24_0 | exact T.f24_3 | exact T.f24_2 | exact T.f24_1); exact rfl; exact rfl) | (apply G1_loadB; (first | exact T.p3 | exact T.p22 | exact T.p9); exact rfl; assumption; exact rfl; exact rfl) | ((first | apply G1_lss | apply G1_gtr); exact rfl; exact rfl; exact rfl) | (apply G1_pick_t; exact rfl; exact rfl; exact rfl) | (apply G1_pick_f; exact rfl; exact rfl; exact rfl) | (apply G1_neq; exact rfl; exact rfl; exact rfl) | (apply G1_len; exact T.s22; exact rfl; exact rfl) | (apply G1_sneq; exact rfl; exact rfl; exact rfl)) | apply G_nil | apply Post_next | apply W_seq | apply W_region | (apply G_off; exact rfl; exact rfl) | ((fail_if_success (apply G_on; exact rfl)); apply G_split_dec; exact rfl; exact rfl; all_goals (intro h; try (exfalso; omega))))
      all_goals try first
        | exact absurd (⟨by omega, by omega, by intro _; omega, by intro _; omega, by intro _ _ _; omega⟩ : Head t) hh
        | (refine Post_cut ⟨rfl, rfl, ?_, trivial⟩ rfl
           show some (Value.bool (decide _)) = _
           have hns : ¬ t.s = ⟨#[]⟩ := fun he => hh ⟨by omega, by omega, by intro _; omega, by intro _; omega, fun _ _ _ => he⟩
           rw [decide_eq_true hns])
      intro w' e'; rw [e']; clear e' w'
      repeat' (first | (apply G_on; exact rfl; (apply G1_assign; exact rfl; exact rfl)) | apply G_nil | apply Post_next | apply W_seq | apply W_region | (apply W_cond_true; exact rfl) | apply W_ret | apply Post_then_ret)
      refine Post_ret Tryd.results14 ⟨_, _, rfl, rfl, rfl⟩ ?_
      exact ⟨by rw [right_no (leaf_no hh)]; rfl, (by repeat first | assumption | exact Ext.rfl' | apply Ext.drew | apply Ext.alloc | refine Ext.trans ?_ (by assumption))⟩
    have h1 := hh.lo
    have h2 := hh.hi
    have h3 := hh.list
    have h4 := hh.num
    repeat' (first | (refine W_cutR (id := 1) [(1, .int .i64 ((d : Int) + 1)), (2, .pointer (some (adr (bx a1) 0))), (55, .bool false)] (fun w' => w' = w1) ?_ ?_) | (refine Post_cut ⟨rfl, rfl, rfl, trivial⟩ rfl) | (apply G_on; exact rfl; first | ((first | apply G1_assign | apply G1_move); exact rfl; exact rfl) | (apply G1_fieldAddr; (first | exact T.f24_0 | exact T.f24_3 | exact T.f24_2 | exact T.f24_1); exact rfl; exact rfl) | (apply G1_loadB; (first | exact T.p3 | exact T.p22 | exact T.p9); exact rfl; assumption; exact rfl; exact rfl) | ((first | apply G1_lss | apply G1_gtr); exact rfl; exact rfl; exact rfl) | (apply G1_pick_t; exact rfl; exact rfl; exact rfl) | (apply G1_pick_f; exact rfl; exact rfl; exact rfl) | (apply G1_neq; exact rfl; exact rfl; exact rfl) | (apply G1_len; exact T.s22; exact rfl; exact rfl) | (apply G1_sneq; exact rfl; exact rfl; exact rfl)) | apply G_nil | apply Post_next | apply W_seq | apply W_region | (apply G_off; exact rfl; exact rfl) | ((fail_if_success (apply G_on; exact rfl)); apply G_split_dec; exact rfl; exact rfl; all_goals (intro h; try (exfalso; omega))))
    all_goals try
      refine Post_cut ⟨rfl, rfl, ?_, trivial⟩ rfl
      show some (Value.bool (decide _)) = _
      rw [decide_eq_false (fun h => h (hh.text (by omega) (by omega) (by omega)))]
    intro w' e'; rw [e']; clear e' w'
    repeat' (first | (apply G_on; exact rfl; (apply G1_assign; exact rfl; exact rfl)) | apply G_nil | apply Post_next | apply W_seq | apply W_region | (apply W_cond_false; exact rfl) | apply W_skip | apply W_block)
    refine W_loop (ι := Nat) (fun k => [(1, .int .i64 ((d : Int) + 1)), (2, .pointer (some (adr (bx a1) 0))), (5, .int .i64 (k : Int))])
      (fun k w' => Ext w w' ∧ Blk w'.heap a1 24 [.int .i64 t.kind, .string t.s, .int .i64 t.n, .slice r.p rs.length r.cap] ∧ k ≤ t.s.size ∧ (t.kind < 2 → ∀ j, j < k → bget t.s j ≠ 13 ∧ bget t.s j ≠ 10)) (fun k => t.s.size - k) 0 ⟨rfl, rfl, rfl, trivial⟩ ⟨hx1, hA1, Nat.zero_le _, fun _ j hj => by omega⟩ ?_
    rintro k w2 ⟨hx2, hA2, hk2, hb⟩
    rcases Classical.em (t.kind < 2 ∧ k < t.s.size) with hk3 | hk3
    · by_cases hbad : bget t.s k = 13 ∨ bget t.s k = 10
      · have hno : leafOk t = false := by
          cases e : leafOk t with
          | false => rfl
          | true =>
            have := (nobr_iff t.s).1 ((leaf_iff.1 e).2 hk3.1) k hk3.2
            rcases hbad with hb | hb
            · exact absurd hb this.1
            · exact absurd hb this.2
        have hbn : ((bget t.s ((k : Int).toNat)).toNat : Int) = 13 ∨ ((bget t.s ((k : Int).toNat)).toNat : Int) = 10 := by
          rw [Int.toNat_natCast]
          rcases hbad with hb | hb <;> rw [hb] <;> simp
        repeat' (first | (apply G_on; exact rfl; first | ((first | apply G1_assign | apply G1_move); exact rfl; exact rfl) | (apply G1_fieldAddr; (first | exact T.f24_0 | exact T.f24_1); exact rfl; exact rfl) | (apply G1_loadB; (first | exact T.p3 | exact T.p9); exact rfl; assumption; exact rfl; exact rfl) | ((first | apply G1_lss | apply G1_eql); exact rfl; exact rfl; exact rfl) | (apply G1_pick_t; exact rfl; exact rfl; exact rfl) | (apply G1_pick_f; exact rfl; exact rfl; exact rfl) | (apply G1_slen; exact T.str9; exact rfl; exact rfl) | (apply G1_sindex; exact T.str9; exact rfl; exact rfl; omega; omega; exact rfl)) | apply G_nil | apply Post_next | apply W_seq | apply W_region | (apply W_cond_true; exact rfl) | (apply W_cond_dec; exact rfl; all_goals (intro h; try (exfalso; omega))) | (apply G_off; exact rfl; exact rfl) | ((fail_if_success (apply G_on; exact rfl)); apply G_split_dec; exact rfl; exact rfl; all_goals (intro h; try (exfalso; omega))) | apply W_skip | apply W_ret | apply W_block | apply Post_then_ret | apply Post_block_ret)
        all_goals
          refine Post_ret Tryd.results14 ⟨_, _, rfl, rfl, rfl⟩ ?_
          exact ⟨by rw [right_no hno]; rfl, (by repeat first | assumption | exact Ext.rfl' | apply Ext.drew | apply Ext.alloc | refine Ext.trans ?_ (by assumption))⟩
      · have hbn : ¬ ((bget t.s ((k : Int).toNat)).toNat : Int) = 13 ∧ ¬ ((bget t.s ((k : Int).toNat)).toNat : Int) = 10 := by
          rw [Int.toNat_natCast]
          constructor
          · intro e; exact hbad (.inl (UInt8.toNat_inj.1 (by show (bget t.s k).toNat = 13; omega)))
          · intro e; exact hbad (.inr (UInt8.toNat_inj.1 (by show (bget t.s k).toNat = 10; omega)))
        repeat' (first | (apply G_on; exact rfl; first | ((first | apply G1_assign | apply G1_move); exact rfl; exact rfl) | (apply G1_fieldAddr; (first | exact T.f24_0 | exact T.f24_1); exact rfl; exact rfl) | (apply G1_loadB; (first | exact T.p3 | exact T.p9); exact rfl; assumption; exact rfl; exact rfl) | ((first | apply G1_lss | apply G1_eql); exact rfl; exact rfl; exact rfl) | (apply G1_pick_t; exact rfl; exact rfl; exact rfl) | (apply G1_pick_f; exact rfl; exact rfl; exact rfl) | (apply G1_slen; exact T.str9; exact rfl; exact rfl) | (apply G1_sindex; exact T.str9; exact rfl; exact rfl; omega; omega; exact rfl) | (apply G1_add; exact rfl; exact rfl; omega; omega; exact rfl)) | apply G_nil | apply Post_next | apply W_seq | apply W_region | (apply W_cond_dec; exact rfl; all_goals (intro h; try (exfalso; omega))) | ((fail_if_success (apply G_on; exact rfl)); apply G_split_dec; exact rfl; exact rfl; all_goals (intro h; try (exfalso; omega))) | apply W_skip | apply W_block | apply Post_block_normal)
        refine Post_round (k + 1) ⟨rfl, rfl, rfl, trivial⟩ ⟨(by repeat first | assumption | exact Ext.rfl' | apply Ext.drew | apply Ext.alloc | refine Ext.trans ?_ (by assumption)), hA2, by omega, fun hk j hj => ?_⟩ (by omega)
        by_cases e : j = k
        · subst e; exact ⟨fun e => hbad (.inl e), fun e => hbad (.inr e)⟩
        · exact hb hk j (by omega)
    have hleaf : leafOk t = true := leaf_iff.2 ⟨hh, fun hk => (nobr_iff t.s).2 (fun j hj => hb hk j (by omega))⟩
    have hL2 := hL.ext hx2
    have hsl := hL2.sl
    repeat' (first | (refine W_cutR (id := 4) [(1, .int .i64 ((d : Int) + 1)), (2, .pointer (some (adr (bx a1) 0))), (65, .bool false)] (fun w' => w' = w2) ?_ ?_) | (apply G_on; exact rfl; first | (apply G1_move; exact rfl; exact rfl) | (apply G1_fieldAddr; (first | exact T.f24_0 | exact T.f24_1); exact rfl; exact rfl) | (apply G1_loadB; (first | exact T.p3 | exact T.p9); exact rfl; assumption; exact rfl; exact rfl) | (apply G1_lss; exact rfl; exact rfl; exact rfl) | (apply G1_pick_t; exact rfl; exact rfl; exact rfl) | (apply G1_pick_f; exact rfl; exact rfl; exact rfl) | (apply G1_slen; exact T.str9; exact rfl; exact rfl)) | apply G_nil | apply W_seq | apply W_region | (refine Post_cut ⟨rfl, rfl, rfl, trivial⟩ rfl) | (apply G_off; exact rfl; exact rfl) | ((fail_if_success (apply G_on; exact rfl)); apply G_split_dec; exact rfl; exact rfl; all_goals (intro h; try (exfalso; omega))))
    all_goals try
      refine Post_cut ⟨rfl, rfl, ?_, trivial⟩ rfl
      show some (Value.bool (decide _)) = _
      rw [decide_eq_false (by omega)]
    intro w' e'; rw [e']; clear e' w'
    by_cases hk5 : t.kind = 5
    all_goals
      repeat' (first | (apply G_on; exact rfl; first | ((first | apply G1_assign | apply G1_move); exact rfl; exact rfl) | (apply G1_fieldAddr; exact T.f24_0; exact rfl; exact rfl) | (apply G1_loadB; exact T.p3; exact rfl; assumption; exact rfl; exact rfl) | (apply G1_eql; exact rfl; exact rfl; exact rfl) | (apply G1_pick_t; exact rfl; exact rfl; exact rfl) | (apply G1_pick_f; exact rfl; exact rfl; exact rfl)) | apply G_nil | apply Post_next | apply W_seq | apply W_region | (apply W_cond_false; exact rfl) | (apply G_off; exact rfl; exact rfl) | ((fail_if_success (apply G_on; exact rfl)); apply G_split_dec; exact rfl; exact rfl; all_goals (intro h; try (exfalso; omega))) | apply W_skip | apply W_exit | apply W_block | apply Post_then_exit | apply Post_block_exit)
      refine W_loop (ι := Nat) (fun k => [(1, .int .i64 ((d : Int) + 1)), (2, .pointer (some (adr (bx a1) 0))), (6, .int .i64 (k : Int))])
        (fun k w' => Ext w w' ∧ Ext w2 w' ∧ k ≤ rs.length ∧ (t.l.take k).all (rightT d) = true) (fun k => rs.length - k) 0 ⟨rfl, rfl, rfl, trivial⟩ ⟨(by repeat first | assumption | exact Ext.rfl' | apply Ext.drew | apply Ext.alloc | refine Ext.trans ?_ (by assumption)), (by repeat first | assumption | exact Ext.rfl' | apply Ext.drew | apply Ext.alloc | refine Ext.trans ?_ (by assumption)), Nat.zero_le _, rfl⟩ ?_
      rintro i w3 ⟨hx3, hx23, hi, hq⟩
      have hA3 := hA2.ext hx23
      have hL3 := hL2.ext hx23
      have hsl3 := hL3.sl
      by_cases hlt : i < rs.length
      · obtain ⟨r', hr'⟩ := get_some hlt
        obtain ⟨t', ht'⟩ := get_some (xs := t.l) (k := i) (by omega)
        have e1 : ((d : Int) + 1) - 1 = d := by omega
        have ih' : Ctr Tryd.prog 14 [.agg (eRep.enc r').toArray, .int .i64 ((d : Int) + 1 - 1)] w3 (fun v w' => v = .bool (rightT d t') ∧ Ext w3 w') := by
          rw [e1]; exact ih e (by omega) (hL3.get i r' t' hr' ht')
        have hts := take_snoc ht'
        cases hrt : rightT d t' with
        | true =>
          rw [hrt] at ih'
          repeat' (first | (apply G_on; exact rfl; first | ((first | apply G1_assign | apply G1_move); exact rfl; exact rfl) | (apply G1_call (f := 14); exact rfl; exact rfl; exact rfl; exact ih'; rintro _ w4 ⟨rfl, hx4⟩; refine ⟨(by first | exact .inl rfl | exact .inr (by assumption)), ?_⟩) | (apply G1_fieldAddr; exact T.f24_3; exact rfl; exact rfl) | (apply G1_loadB; exact T.p22; exact rfl; assumption; exact rfl; exact rfl) | (apply G1_lss; exact rfl; exact rfl; exact rfl) | (apply G1_len; exact T.s22; exact rfl; exact rfl) | (apply G1_add; exact rfl; exact rfl; omega; omega; exact rfl) | (apply G1_indexAddrN; exact T.s22; exact rfl; exact rfl; (first | assumption | exact Sl.ok (by assumption) | exact (Own.sl (by assumption)).ok); omega; exact rfl) | (apply G1_loadEl; exact T.a24; exact rfl; assumption; assumption; exact rfl; exact rfl) | (apply G1_sub; exact rfl; exact rfl; omega; omega; exact rfl) | (apply G1_not_t; exact rfl; exact rfl)) | apply G_nil | apply Post_next | apply W_seq | apply W_region | (apply W_cond_false; exact rfl) | (apply W_cond_dec; exact rfl; all_goals (intro h; try (exfalso; omega))) | apply W_skip | apply W_block | apply Post_block_normal)
          all_goals exact Post_round (i + 1) ⟨rfl, rfl, rfl, trivial⟩ ⟨(by repeat first | assumption | exact Ext.rfl' | apply Ext.drew | apply Ext.alloc | refine Ext.trans ?_ (by assumption)), (by repeat first | assumption | exact Ext.rfl' | apply Ext.drew | apply Ext.alloc | refine Ext.trans ?_ (by assumption)), by omega, by rw [hts, List.all_append, hq]; simp [hrt]⟩ (by omega)
        | false =>
          rw [hrt] at ih'
          repeat' (first | (apply G_on; exact rfl; first | ((first | apply G1_assign | apply G1_move); exact rfl; exact rfl) | (apply G1_call (f := 14); exact rfl; exact rfl; exact rfl; exact ih'; rintro _ w4 ⟨rfl, hx4⟩; refine ⟨(by first | exact .inl rfl | exact .inr (by assumption)), ?_⟩) | (apply G1_fieldAddr; exact T.f24_3; exact rfl; exact rfl) | (apply G1_loadB; exact T.p22; exact rfl; assumption; exact rfl; exact rfl) | (apply G1_lss; exact rfl; exact rfl; exact rfl) | (apply G1_len; exact T.s22; exact rfl; exact rfl) | (apply G1_indexAddrN; exact T.s22; exact rfl; exact rfl; (first | assumption | exact Sl.ok (by assumption) | exact (Own.sl (by assumption)).ok); omega; exact rfl) | (apply G1_loadEl; exact T.a24; exact rfl; assumption; assumption; exact rfl; exact rfl) | (apply G1_sub; exact rfl; exact rfl; omega; omega; exact rfl) | (apply G1_not_f; exact rfl; exact rfl)) | apply G_nil | apply Post_next | apply W_seq | apply W_region | (apply W_cond_true; exact rfl) | (apply W_cond_dec; exact rfl; all_goals (intro h; try (exfalso; omega))) | apply W_skip | apply W_ret | apply W_block | apply Post_then_ret | apply Post_block_ret)
          all_goals
            refine Post_ret Tryd.results14 ⟨_, _, rfl, rfl, rfl⟩ ?_
            refine ⟨?_, (by repeat first | assumption | exact Ext.rfl' | apply Ext.drew | apply Ext.alloc | refine Ext.trans ?_ (by assumption))⟩
            have : t.l.all (rightT d) = false := List.all_eq_false.2 ⟨t', List.mem_of_getElem? ht', by simp [hrt]⟩
            rw [right_succ, this]; simp; rfl
      · rw [List.take_of_length_le (by omega)] at hq
        repeat' (first | (apply G_on; exact rfl; first | ((first | apply G1_assign | apply G1_move); exact rfl; exact rfl) | (apply G1_fieldAddr; exact T.f24_3; exact rfl; exact rfl) | (apply G1_loadB; exact T.p22; exact rfl; assumption; exact rfl; exact rfl) | (apply G1_lss; exact rfl; exact rfl; exact rfl) | (apply G1_len; exact T.s22; exact rfl; exact rfl)) | apply G_nil | apply Post_next | apply W_seq | apply W_region | (apply W_cond_dec; exact rfl; all_goals (intro h; try (exfalso; omega))) | apply W_exit | apply W_ret | apply Post_then_exit | apply Post_block_exit)
        refine Post_ret Tryd.results14 ⟨_, _, rfl, rfl, rfl⟩ ?_
        exact ⟨by rw [right_succ, hleaf, hq]; rfl, (by repeat first | assumption | exact Ext.rfl' | apply Ext.drew | apply Ext.alloc | refine Ext.trans ?_ (by assumption))⟩

theorem refsame_spec : ∀ (d d' : Nat) {a b : RawR} {t u : Rep} {w : World}, RepAt w.heap d a t → RepAt w.heap d' b u →
    Ctr Tryd.prog 16 [.agg (eRep.enc a).toArray, .agg (eRep.enc b).toArray] w (fun v w' => ∃ r, v = .bool r ∧ (r = true ↔ t = u) ∧ Ext w w') := by
  intro d
  induction d with
  | zero => intro d' a b t u w h; exact h.elim
  | succ d ih =>
    intro d' a b t u w ha hb
    obtain ⟨d0, rs, e0, hk, hs, hn, hl, hsz, hfit, hL⟩ := ha.open
    obtain rfl : d = d0 := by omega
    obtain ⟨d1, qs, rfl, hk', hs', hn', hl', hsz', hfit', hM⟩ := hb.open
    have n1 := hL.sl.bound
    have n2 := hM.sl.bound
    have hlen := hL.len
    have hlen' := hM.len
    refine Ctr_of Tryd.func16 Tryd.ntmps16 rfl rfl rfl ?_
    repeat' (first | apply W_seq | apply W_region)
    apply G_on; exact rfl; apply G1_box; exact rfl; exact rfl; exact rfl; intro a1 w1 ha1 hA1 hx1 hs1
    replace hA1 : Blk w1.heap a1 24 [.int .i64 a.kind, .string a.s, .int .i64 a.n, .slice a.p a.len a.cap] := hA1
    rw [hk, hs, hn, hl] at hA1
    skip
    apply G_on; exact rfl; apply G1_box; exact rfl; exact rfl; exact rfl; intro a2 w2 ha2 hA2 hx2 hs2
    replace hA2 : Blk w2.heap a2 24 [.int .i64 b.kind, .string b.s, .int .i64 b.n, .slice b.p b.len b.cap] := hA2
    rw [hk', hs', hn', hl'] at hA2
    replace hA1 := hA1.ext hx2
    have hx02 := hx1.trans hx2
    by_cases hhead : t.kind = u.kind ∧ t.s = u.s ∧ t.n = u.n ∧ rs.length = qs.length
    · obtain ⟨h1, h2, h3, h4⟩ := hhead
      rw [← h1, ← h2, ← h3] at hA2
      repeat' (first | (apply G_on; exact rfl; first | ((first | apply G1_assign | apply G1_move); exact rfl; exact rfl) | (apply G1_fieldAddr; (first | exact T.f24_0 | exact T.f24_1 | exact T.f24_2 | exact T.f24_3); exact rfl; exact rfl) | (apply G1_loadB; (first | exact T.p3 | exact T.p9 | exact T.p22); exact rfl; assumption; exact rfl; exact rfl) | (apply G1_neq; exact rfl; exact rfl; exact rfl) | (apply G1_sneq; exact rfl; exact rfl; exact rfl) | (apply G1_pick_t; exact rfl; exact rfl; exact rfl) | (apply G1_pick_f; exact rfl; exact rfl; exact rfl) | (apply G1_len; exact T.s22; exact rfl; exact rfl)) | apply G_nil | apply Post_next | apply W_seq | apply W_region | (apply W_cond_true; exact rfl) | (apply W_cond_dec; exact rfl; all_goals (intro h; try (exfalso; omega))) | (apply G_off; exact rfl; exact rfl) | ((fail_if_success (apply G_on; exact rfl)); apply G_split_dec; exact rfl; exact rfl; all_goals (intro h; try (exfalso; omega))) | apply W_skip | apply W_ret | apply W_block | apply Post_then_ret)
      all_goals try contradiction
      refine W_loop (ι := Nat) (fun k => [(2, .pointer (some (adr (bx a1) 0))), (3, .pointer (some (adr (bx a2) 0))), (5, .int .i64 (k : Int))])
        (fun k w' => Ext w w' ∧ Ext w2 w' ∧ k ≤ rs.length ∧ t.l.take k = u.l.take k) (fun k => rs.length - k) 0 ⟨rfl, rfl, rfl, trivial⟩ ⟨(by repeat first | assumption | exact Ext.rfl' | apply Ext.drew | apply Ext.alloc | refine Ext.trans ?_ (by assumption)), (by repeat first | assumption | exact Ext.rfl' | apply Ext.drew | apply Ext.alloc | refine Ext.trans ?_ (by assumption)), Nat.zero_le _, rfl⟩ ?_
      rintro i w3 ⟨hx3, hx23, hi, hq⟩
      have hA13 := hA1.ext hx23
      have hA23 := hA2.ext hx23
      have hL3 := hL.ext hx3
      have hM3 := hM.ext hx3
      have hsl := hL3.sl
      have hsm := hM3.sl
      by_cases hlt : i < rs.length
      · obtain ⟨r', hr'⟩ := get_some hlt
        obtain ⟨t', ht'⟩ := get_some (xs := t.l) (k := i) (by omega)
        obtain ⟨q', hq'⟩ := get_some (xs := qs) (k := i) (by omega)
        obtain ⟨u', hu'⟩ := get_some (xs := u.l) (k := i) (by omega)
        have ih' := fun (v : World) (hv : v.heap = w3.heap) => ih d1 (w := v) (by rw [hv]; exact hL3.get i r' t' hr' ht') (by rw [hv]; exact hM3.get i q' u' hq' hu')
        repeat' (first | (apply G_on; exact rfl; first | ((first | apply G1_assign | apply G1_move); exact rfl; exact rfl) | (apply G1_call (f := 16); exact rfl; exact rfl; exact rfl; exact ih' _ rfl; rintro _ w4 ⟨rb, rfl, hrb, hx4⟩; refine ⟨(by first | exact .inl rfl | exact .inr (by assumption)), ?_⟩) | (apply G1_fieldAddr; exact T.f24_3; exact rfl; exact rfl) | (apply G1_loadB; exact T.p22; exact rfl; assumption; exact rfl; exact rfl) | (apply G1_len; exact T.s22; exact rfl; exact rfl) | (apply G1_lss; exact rfl; exact rfl; exact rfl) | (apply G1_indexAddrN; exact T.s22; exact rfl; exact rfl; (first | assumption | exact Sl.ok (by assumption) | exact (Own.sl (by assumption)).ok); omega; exact rfl) | (apply G1_loadEl; exact T.a24; exact rfl; assumption; assumption; exact rfl; exact rfl) | (apply G1_not; exact rfl; exact rfl) | (apply G1_add; exact rfl; exact rfl; omega; omega; exact rfl)) | apply G_nil | apply Post_next | apply W_seq | apply W_region | (apply W_cond_dec; exact rfl; all_goals (intro h; try (exfalso; omega))) | (apply W_cond; exact rfl; all_goals intro h) | refine W_drawn 1 [] [0,1,2,3,4,5,6,7,8,9,10,11] mixed (by decide +kernel) ?_ | apply W_skip | apply W_ret | apply W_block | apply Post_then_ret | apply Post_block_ret | apply Post_block_normal)
        · refine Post_ret Tryd.results16 ⟨_, _, rfl, rfl, rfl⟩ ?_
          refine ⟨false, rfl, ⟨fun e => by simp at e, fun e => ?_⟩, (by repeat first | assumption | exact Ext.rfl' | apply Ext.drew | apply Ext.alloc | refine Ext.trans ?_ (by assumption))⟩
          subst e
          rw [ht'] at hu'
          injection hu' with hu'
          rw [hrb.2 hu'] at h
          simp at h
        · refine Post_round (i + 1) ⟨rfl, rfl, rfl, trivial⟩ ⟨(by repeat first | assumption | exact Ext.rfl' | apply Ext.drew | apply Ext.alloc | refine Ext.trans ?_ (by assumption)), (by repeat first | assumption | exact Ext.rfl' | apply Ext.drew | apply Ext.alloc | refine Ext.trans ?_ (by assumption)), by omega, ?_⟩ (by omega)
          have : rb = true := by cases rb with | true => rfl | false => simp at h
          rw [take_snoc ht', take_snoc hu', hq, hrb.1 this]
      · repeat' (first | (apply G_on; exact rfl; first | ((first | apply G1_assign | apply G1_move); exact rfl; exact rfl) | (apply G1_fieldAddr; exact T.f24_3; exact rfl; exact rfl) | (apply G1_loadB; exact T.p22; exact rfl; assumption; exact rfl; exact rfl) | (apply G1_len; exact T.s22; exact rfl; exact rfl) | (apply G1_lss; exact rfl; exact rfl; exact rfl)) | apply G_nil | apply Post_next | apply W_seq | apply W_region | (apply W_cond_dec; exact rfl; all_goals (intro h; try (exfalso; omega))) | apply W_exit | apply W_ret | apply Post_then_exit | apply Post_block_exit)
        refine Post_ret Tryd.results16 ⟨_, _, rfl, rfl, rfl⟩ ?_
        rw [List.take_of_length_le (by omega), List.take_of_length_le (by omega)] at hq
        exact ⟨true, rfl, ⟨fun _ => Rep.ext' h1 h2 h3 hq, fun _ => rfl⟩, (by repeat first | assumption | exact Ext.rfl' | apply Ext.drew | apply Ext.alloc | refine Ext.trans ?_ (by assumption))⟩
    · repeat' (first | (apply G_on; exact rfl; first | ((first | apply G1_assign | apply G1_move); exact rfl; exact rfl) | (apply G1_fieldAddr; (first | exact T.f24_0 | exact T.f24_1 | exact T.f24_2 | exact T.f24_3); exact rfl; exact rfl) | (apply G1_loadB; (first | exact T.p3 | exact T.p9 | exact T.p22); exact rfl; assumption; exact rfl; exact rfl) | (apply G1_neq; exact rfl; exact rfl; exact rfl) | (apply G1_sneq; exact rfl; exact rfl; exact rfl) | (apply G1_pick_t; exact rfl; exact rfl; exact rfl) | (apply G1_pick_f; exact rfl; exact rfl; exact rfl) | (apply G1_len; exact T.s22; exact rfl; exact rfl)) | apply G_nil | apply Post_next | apply W_seq | apply W_region | (apply W_cond_true; exact rfl) | (apply W_cond_dec; exact rfl; all_goals (intro h; try (exfalso; omega))) | (apply G_off; exact rfl; exact rfl) | ((fail_if_success (apply G_on; exact rfl)); apply G_split_dec; exact rfl; exact rfl; all_goals (intro h; try (exfalso; omega))) | apply W_skip | apply W_ret | apply W_block | apply Post_then_ret)
      all_goals first
        | exact absurd ⟨by omega, Classical.not_not.1 (by assumption), by omega, by omega⟩ hhead
        | (refine Post_ret Tryd.results16 ⟨_, _, rfl, rfl, rfl⟩ ?_
           exact ⟨false, rfl, ⟨fun e => by simp at e, fun e => by subst e; exact absurd ⟨rfl, rfl, rfl, by omega⟩ hhead⟩, (by repeat first | assumption | exact Ext.rfl' | apply Ext.drew | apply Ext.alloc | refine Ext.trans ?_ (by assumption))⟩)
end Go.Proofs.YtikjnmpijflnaaaDoor
