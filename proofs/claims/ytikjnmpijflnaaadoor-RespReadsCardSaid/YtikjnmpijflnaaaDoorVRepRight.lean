/- resp.right and resp.Right: the walks. -/
import Derived.Test.YtikjnmpijflnaaaDoorVRepRef
import Derived.Test.YtikjnmpijflnaaaDoorVBrAny
namespace Go.Proofs.YtikjnmpijflnaaaDoor
open Go.V
attribute [local irreducible] Blk Own hcell IntT SliceT PlainT AggT SizeT StrT FieldT ZeroT EqT ArrT
/-- no text is long, so deep -/
def smallT : Nat → Rep → Prop
  | 0, _ => True
  | d + 1, t => t.s.size ≤ 2000 ∧ ∀ x ∈ t.l, smallT d x
theorem small_of : ∀ (d : Nat) (t : Rep), sizeT d t < 100000 → smallT d t
  | 0, _, _ => trivial
  | d + 1, t, h => by
    unfold sizeT at h
    split at h
    · omega
    · rename_i h2
      refine ⟨by omega, fun x hx => small_of d x ?_⟩
      have key : ∀ (l : List Rep) (n : Int), 0 ≤ n → sizeL (sizeT d) l n < 100000 → n ≤ sizeL (sizeT d) l n ∧ ∀ x ∈ l, sizeT d x ≤ sizeL (sizeT d) l n := by
        intro l
        induction l with
        | nil => intro n _ _; exact ⟨Int.le_refl _, by simp⟩
        | cons y l ih =>
          intro n h0 hn
          unfold sizeL at hn ⊢
          split at hn
          · rename_i h3
            rw [if_pos h3]
            have hy := (sizeT_le d y).1
            obtain ⟨i1, i2⟩ := ih _ (by omega) hn
            refine ⟨by omega, fun x hx => ?_⟩
            rcases List.mem_cons.1 hx with rfl | hx
            · omega
            · exact i2 x hx
          · rename_i h3; exact absurd hn h3
      have := (key t.l 1 (by omega) h).2 x hx
      omega
theorem smallT.mono : ∀ {d e : Nat} {t : Rep}, smallT d t → e ≤ d → smallT e t
  | _, 0, _, _, _ => trivial
  | 0, e + 1, _, _, h => by omega
  | d + 1, e + 1, t, ⟨h1, h2⟩, h => ⟨h1, fun x hx => smallT.mono (h2 x hx) (by omega)⟩
theorem right_leafk {d : Nat} {t : Rep} (h : t.kind ≠ 5) : rightT d t = leafOk t := by
  cases hl : leafOk t with
  | false => exact right_no hl
  | true =>
    have h0 : t.l = [] := List.eq_nil_of_length_eq_zero ((leaf_iff.1 hl).1.list h)
    cases d with
    | zero => rw [right_zero, hl, decide_eq_true h]; rfl
    | succ d => rw [right_succ, hl, h0]; rfl
theorem leaf_val (t : Rep) (b : Bool) (h : b = true ↔ Head t ∧ (t.kind < 2 → nobr t.s = true)) : leafOk t = b := by
  rw [Bool.eq_iff_iff, leaf_iff, h]
theorem leaf_falsy (t : Rep) (h : (Head t ∧ (t.kind < 2 → nobr t.s = true)) → False) : leafOk t = false := by
  cases e : leafOk t with
  | false => rfl
  | true => exact (h (leaf_iff.1 e)).elim

theorem pright_spec : ∀ (d : Nat) {k : Int} {e : Nat} {r : RawR} {t : Rep} {w : World}, d ≤ 4 → k + d = 4 → smallT (d + 1) t → RepAt w.heap e r t →
    Ctr Tryd.prog 63 [.agg (eRep.enc r).toArray, .int .i64 k] w (fun v w' => v = .bool (rightT d t) ∧ Ext w w') := by
  intro d
  induction d with
  | zero =>
    intro k e r t w hd4 hkd hs0 hr
    obtain ⟨e, rs, rfl, hk, hs, hn, hl, hsz, hfit, hL⟩ := hr.open
    have n1 := hL.sl.bound
    have hlen := hL.len
    have hsm := hs0.1
    refine Ctr_of Tryd.func63 Tryd.ntmps63 rfl rfl rfl ?_
    repeat' (first | apply W_seq | apply W_region)
    apply G_on; exact rfl; apply G1_box; exact rfl; exact rfl; exact rfl; intro a1 w1 ha1 hA1 hx1 hs1
    replace hA1 : Blk w1.heap a1 24 [.int .i64 r.kind, .string r.s, .int .i64 r.n, .slice r.p r.len r.cap] := hA1
    rw [hk, hs, hn, hl] at hA1
    by_cases hk5 : t.kind = 5
    rotate_left
    · rw [right_leafk hk5]
      by_cases hk01 : t.kind = 0 ∨ t.kind = 1
      · by_cases hn0 : t.n = 0 ∧ rs.length = 0
        · rw [leaf_val t (nobr t.s) ⟨fun h => ⟨⟨by omega, by omega, by omega, by omega, by omega⟩, fun _ => h⟩, fun h => h.2 (by omega)⟩]
          repeat' (first | (apply G_on; exact rfl; first | ((first | apply G1_assign | apply G1_move); exact rfl; exact rfl) | (apply G1_call (f := 77); exact rfl; exact rfl; exact rfl; exact containsBr (by omega); rintro _ w2 ⟨rfl, hx2⟩; refine ⟨(by first | exact .inl rfl | exact .inr (by assumption)), ?_⟩) | (apply G1_fieldAddr; (first | exact T.f24_0 | exact T.f24_2 | exact T.f24_3 | exact T.f24_1); exact rfl; exact rfl) | (apply G1_loadB; (first | exact T.p3 | exact T.p22 | exact T.p9); exact rfl; assumption; exact rfl; exact rfl) | (apply G1_eql; exact rfl; exact rfl; exact rfl) | (apply G1_len; exact T.s22; exact rfl; exact rfl) | (apply G1_pick_t; exact rfl; exact rfl; exact rfl) | (apply G1_not; exact rfl; exact rfl)) | apply G_nil | apply Post_next | apply W_seq | apply W_region | (apply W_cond_dec; exact rfl; all_goals (intro h; try (exfalso; omega))) | ((fail_if_success (apply G_on; exact rfl)); apply G_split_dec; exact rfl; exact rfl; all_goals (intro h; try (exfalso; omega))) | apply W_skip | apply W_ret | apply W_block | apply Post_then_ret | apply Post_block_ret)
          all_goals
            refine Post_ret Tryd.results63 ⟨_, _, rfl, rfl, rfl⟩ ?_
            exact ⟨by show Value.bool (!(!nobr t.s)) = _; rw [Bool.not_not], (by repeat first | assumption | exact Ext.rfl' | apply Ext.drew | apply Ext.alloc | refine Ext.trans ?_ (by assumption))⟩
        · rw [leaf_falsy t (fun h => absurd ⟨h.1.num (by omega), by have := h.1.list (by omega); omega⟩ hn0)]
          repeat' (first | (apply G_on; exact rfl; first | ((first | apply G1_assign | apply G1_move); exact rfl; exact rfl) | (apply G1_fieldAddr; (first | exact T.f24_0 | exact T.f24_2 | exact T.f24_3); exact rfl; exact rfl) | (apply G1_loadB; (first | exact T.p3 | exact T.p22); exact rfl; assumption; exact rfl; exact rfl) | (apply G1_eql; exact rfl; exact rfl; exact rfl) | (apply G1_len; exact T.s22; exact rfl; exact rfl) | (apply G1_pick_t; exact rfl; exact rfl; exact rfl) | (apply G1_pick_f; exact rfl; exact rfl; exact rfl)) | apply G_nil | apply Post_next | apply W_seq | apply W_region | (apply W_cond_dec; exact rfl; all_goals (intro h; try (exfalso; omega))) | (apply G_off; exact rfl; exact rfl) | ((fail_if_success (apply G_on; exact rfl)); apply G_split_dec; exact rfl; exact rfl; all_goals (intro h; try (exfalso; omega))) | apply W_skip | apply W_ret | apply W_block | apply Post_then_ret | apply Post_block_ret)
          all_goals
            refine Post_ret Tryd.results63 ⟨_, _, rfl, rfl, rfl⟩ ?_
            exact ⟨rfl, (by repeat first | assumption | exact Ext.rfl' | apply Ext.drew | apply Ext.alloc | refine Ext.trans ?_ (by assumption))⟩
      by_cases hk2 : t.kind = 2
      · by_cases hse : t.s = ⟨#[]⟩
        · rw [leaf_val t (decide ((rs.length : Int) = 0)) ⟨fun h => ⟨⟨by omega, by omega, by have := of_decide_eq_true h; omega, by omega, fun _ _ _ => hse⟩, by omega⟩, fun h => decide_eq_true (by have := h.1.list (by omega); omega)⟩]
          repeat' (first | (apply G_on; exact rfl; first | ((first | apply G1_assign | apply G1_move); exact rfl; exact rfl) | (apply G1_fieldAddr; (first | exact T.f24_0 | exact T.f24_3 | exact T.f24_1); exact rfl; exact rfl) | (apply G1_loadB; (first | exact T.p3 | exact T.p22 | exact T.p9); exact rfl; assumption; exact rfl; exact rfl) | (apply G1_eql; exact rfl; exact rfl; exact rfl) | (apply G1_len; exact T.s22; exact rfl; exact rfl) | (apply G1_pick_t; exact rfl; exact rfl; exact rfl) | (apply G1_pick_f; exact rfl; exact rfl; exact rfl) | (apply G1_seql; exact rfl; exact rfl; exact rfl)) | apply G_nil | apply Post_next | apply W_seq | apply W_region | (apply W_cond_dec; exact rfl; all_goals (intro h; try (exfalso; omega))) | (apply G_off; exact rfl; exact rfl) | ((fail_if_success (apply G_on; exact rfl)); apply G_split_dec; exact rfl; exact rfl; all_goals (intro h; try (exfalso; omega))) | apply W_ret | apply W_block | apply Post_then_ret | apply Post_block_ret)
          all_goals try contradiction
          refine Post_ret Tryd.results63 ⟨_, _, rfl, rfl, rfl⟩ ?_
          exact ⟨rfl, (by repeat first | assumption | exact Ext.rfl' | apply Ext.drew | apply Ext.alloc | refine Ext.trans ?_ (by assumption))⟩
        · rw [leaf_falsy t (fun h => absurd (h.1.text (by omega) (by omega) (by omega)) hse)]
          repeat' (first | (apply G_on; exact rfl; first | ((first | apply G1_assign | apply G1_move); exact rfl; exact rfl) | (apply G1_fieldAddr; (first | exact T.f24_0 | exact T.f24_3 | exact T.f24_1); exact rfl; exact rfl) | (apply G1_loadB; (first | exact T.p3 | exact T.p22 | exact T.p9); exact rfl; assumption; exact rfl; exact rfl) | (apply G1_eql; exact rfl; exact rfl; exact rfl) | (apply G1_len; exact T.s22; exact rfl; exact rfl) | (apply G1_pick_t; exact rfl; exact rfl; exact rfl) | (apply G1_pick_f; exact rfl; exact rfl; exact rfl) | (apply G1_seql; exact rfl; exact rfl; exact rfl)) | apply G_nil | apply Post_next | apply W_seq | apply W_region | (apply W_cond_dec; exact rfl; all_goals (intro h; try (exfalso; omega))) | (apply G_off; exact rfl; exact rfl) | ((fail_if_success (apply G_on; exact rfl)); apply G_split_dec; exact rfl; exact rfl; all_goals (intro h; try (exfalso; omega))) | apply W_ret | apply W_block | apply Post_then_ret | apply Post_block_ret)
          all_goals try contradiction
          refine Post_ret Tryd.results63 ⟨_, _, rfl, rfl, rfl⟩ ?_
          exact ⟨rfl, (by repeat first | assumption | exact Ext.rfl' | apply Ext.drew | apply Ext.alloc | refine Ext.trans ?_ (by assumption))⟩
      by_cases hk3 : t.kind = 3
      · by_cases hn0 : t.n = 0
        · rw [leaf_val t (decide ((rs.length : Int) = 0)) ⟨fun h => ⟨⟨by omega, by omega, by have := of_decide_eq_true h; omega, by omega, by omega⟩, by omega⟩, fun h => decide_eq_true (by have := h.1.list (by omega); omega)⟩]
          repeat' (first | (apply G_on; exact rfl; first | ((first | apply G1_assign | apply G1_move); exact rfl; exact rfl) | (apply G1_fieldAddr; (first | exact T.f24_0 | exact T.f24_2 | exact T.f24_3); exact rfl; exact rfl) | (apply G1_loadB; (first | exact T.p3 | exact T.p22); exact rfl; assumption; exact rfl; exact rfl) | (apply G1_eql; exact rfl; exact rfl; exact rfl) | (apply G1_len; exact T.s22; exact rfl; exact rfl) | (apply G1_pick_t; exact rfl; exact rfl; exact rfl)) | apply G_nil | apply Post_next | apply W_seq | apply W_region | (apply W_cond_dec; exact rfl; all_goals (intro h; try (exfalso; omega))) | ((fail_if_success (apply G_on; exact rfl)); apply G_split_dec; exact rfl; exact rfl; all_goals (intro h; try (exfalso; omega))) | apply W_ret | apply W_block | apply Post_then_ret | apply Post_block_ret)
          refine Post_ret Tryd.results63 ⟨_, _, rfl, rfl, rfl⟩ ?_
          exact ⟨rfl, (by repeat first | assumption | exact Ext.rfl' | apply Ext.drew | apply Ext.alloc | refine Ext.trans ?_ (by assumption))⟩
        · rw [leaf_falsy t (fun h => absurd (h.1.num (by omega)) hn0)]
          repeat' (first | (apply G_on; exact rfl; first | ((first | apply G1_assign | apply G1_move); exact rfl; exact rfl) | (apply G1_fieldAddr; (first | exact T.f24_0 | exact T.f24_2); exact rfl; exact rfl) | (apply G1_loadB; exact T.p3; exact rfl; assumption; exact rfl; exact rfl) | (apply G1_eql; exact rfl; exact rfl; exact rfl) | (apply G1_pick_f; exact rfl; exact rfl; exact rfl)) | apply G_nil | apply Post_next | apply W_seq | apply W_region | (apply W_cond_dec; exact rfl; all_goals (intro h; try (exfalso; omega))) | (apply G_off; exact rfl; exact rfl) | ((fail_if_success (apply G_on; exact rfl)); apply G_split_dec; exact rfl; exact rfl; all_goals (intro h; try (exfalso; omega))) | apply W_ret | apply W_block | apply Post_then_ret | apply Post_block_ret)
          refine Post_ret Tryd.results63 ⟨_, _, rfl, rfl, rfl⟩ ?_
          exact ⟨rfl, (by repeat first | assumption | exact Ext.rfl' | apply Ext.drew | apply Ext.alloc | refine Ext.trans ?_ (by assumption))⟩
      by_cases hk4 : t.kind = 4
      · by_cases hse : t.s = ⟨#[]⟩
        · by_cases hn0 : t.n = 0
          · rw [leaf_val t (decide ((rs.length : Int) = 0)) ⟨fun h => ⟨⟨by omega, by omega, by have := of_decide_eq_true h; omega, by omega, fun _ _ _ => hse⟩, by omega⟩, fun h => decide_eq_true (by have := h.1.list (by omega); omega)⟩]
            repeat' (first | (apply G_on; exact rfl; first | ((first | apply G1_assign | apply G1_move); exact rfl; exact rfl) | (apply G1_fieldAddr; (first | exact T.f24_0 | exact T.f24_2 | exact T.f24_3 | exact T.f24_1); exact rfl; exact rfl) | (apply G1_loadB; (first | exact T.p3 | exact T.p22 | exact T.p9); exact rfl; assumption; exact rfl; exact rfl) | (apply G1_eql; exact rfl; exact rfl; exact rfl) | (apply G1_len; exact T.s22; exact rfl; exact rfl) | (apply G1_pick_t; exact rfl; exact rfl; exact rfl) | (apply G1_pick_f; exact rfl; exact rfl; exact rfl) | (apply G1_seql; exact rfl; exact rfl; exact rfl)) | apply G_nil | apply Post_next | apply W_seq | apply W_region | (apply W_cond_dec; exact rfl; all_goals (intro h; try (exfalso; omega))) | (apply G_off; exact rfl; exact rfl) | ((fail_if_success (apply G_on; exact rfl)); apply G_split_dec; exact rfl; exact rfl; all_goals (intro h; try (exfalso; omega))) | apply W_ret | apply W_block | apply Post_then_ret | apply Post_block_ret)
            all_goals try contradiction
            refine Post_ret Tryd.results63 ⟨_, _, rfl, rfl, rfl⟩ ?_
            exact ⟨rfl, (by repeat first | assumption | exact Ext.rfl' | apply Ext.drew | apply Ext.alloc | refine Ext.trans ?_ (by assumption))⟩
          · rw [leaf_falsy t (fun h => absurd (h.1.num (by omega)) hn0)]
            repeat' (first | (apply G_on; exact rfl; first | ((first | apply G1_assign | apply G1_move); exact rfl; exact rfl) | (apply G1_fieldAddr; (first | exact T.f24_0 | exact T.f24_2 | exact T.f24_1); exact rfl; exact rfl) | (apply G1_loadB; (first | exact T.p3 | exact T.p9); exact rfl; assumption; exact rfl; exact rfl) | (apply G1_eql; exact rfl; exact rfl; exact rfl) | (apply G1_pick_t; exact rfl; exact rfl; exact rfl) | (apply G1_pick_f; exact rfl; exact rfl; exact rfl) | (apply G1_seql; exact rfl; exact rfl; exact rfl)) | apply G_nil | apply Post_next | apply W_seq | apply W_region | (apply W_cond_dec; exact rfl; all_goals (intro h; try (exfalso; omega))) | (apply G_off; exact rfl; exact rfl) | ((fail_if_success (apply G_on; exact rfl)); apply G_split_dec; exact rfl; exact rfl; all_goals (intro h; try (exfalso; omega))) | apply W_ret | apply W_block | apply Post_then_ret | apply Post_block_ret)
            all_goals try contradiction
            refine Post_ret Tryd.results63 ⟨_, _, rfl, rfl, rfl⟩ ?_
            exact ⟨rfl, (by repeat first | assumption | exact Ext.rfl' | apply Ext.drew | apply Ext.alloc | refine Ext.trans ?_ (by assumption))⟩
        · rw [leaf_falsy t (fun h => absurd (h.1.text (by omega) (by omega) (by omega)) hse)]
          repeat' (first | (apply G_on; exact rfl; first | ((first | apply G1_assign | apply G1_move); exact rfl; exact rfl) | (apply G1_fieldAddr; (first | exact T.f24_0 | exact T.f24_2 | exact T.f24_3 | exact T.f24_1); exact rfl; exact rfl) | (apply G1_loadB; (first | exact T.p3 | exact T.p22 | exact T.p9); exact rfl; assumption; exact rfl; exact rfl) | (apply G1_eql; exact rfl; exact rfl; exact rfl) | (apply G1_len; exact T.s22; exact rfl; exact rfl) | (apply G1_pick_t; exact rfl; exact rfl; exact rfl) | (apply G1_pick_f; exact rfl; exact rfl; exact rfl) | (apply G1_seql; exact rfl; exact rfl; exact rfl)) | apply G_nil | apply Post_next | apply W_seq | apply W_region | (apply W_cond_dec; exact rfl; all_goals (intro h; try (exfalso; omega))) | (apply G_off; exact rfl; exact rfl) | ((fail_if_success (apply G_on; exact rfl)); apply G_split_dec; exact rfl; exact rfl; all_goals (intro h; try (exfalso; omega))) | apply W_ret | apply W_block | apply Post_then_ret | apply Post_block_ret)
          all_goals try contradiction
          refine Post_ret Tryd.results63 ⟨_, _, rfl, rfl, rfl⟩ ?_
          exact ⟨rfl, (by repeat first | assumption | exact Ext.rfl' | apply Ext.drew | apply Ext.alloc | refine Ext.trans ?_ (by assumption))⟩
      · rw [leaf_falsy t (fun h => by have := h.1.lo; have := h.1.hi; omega)]
        repeat' (first | (apply G_on; exact rfl; first | (apply G1_assign; exact rfl; exact rfl) | (apply G1_fieldAddr; exact T.f24_0; exact rfl; exact rfl) | (apply G1_loadB; exact T.p3; exact rfl; assumption; exact rfl; exact rfl) | (apply G1_eql; exact rfl; exact rfl; exact rfl)) | apply G_nil | apply Post_next | apply W_seq | apply W_region | (apply W_cond_dec; exact rfl; all_goals (intro h; try (exfalso; omega))) | apply W_skip | apply W_ret | apply W_block | apply Post_block_normal)
        refine Post_ret Tryd.results63 ⟨_, _, rfl, rfl, rfl⟩ ?_
        exact ⟨rfl, (by repeat first | assumption | exact Ext.rfl' | apply Ext.drew | apply Ext.alloc | refine Ext.trans ?_ (by assumption))⟩
    rw [right_zero, hk5]
    repeat' (first | (apply G_on; exact rfl; first | ((first | apply G1_assign | apply G1_move); exact rfl; exact rfl) | (apply G1_fieldAddr; (first | exact T.f24_0 | exact T.f24_2 | exact T.f24_1); exact rfl; exact rfl) | (apply G1_loadB; (first | exact T.p3 | exact T.p9); exact rfl; assumption; exact rfl; exact rfl) | (apply G1_eql; exact rfl; exact rfl; exact rfl) | (apply G1_pick_t; exact rfl; exact rfl; exact rfl) | (apply G1_pick_f; exact rfl; exact rfl; exact rfl) | (apply G1_sneq; exact rfl; exact rfl; exact rfl) | (apply G1_neq; exact rfl; exact rfl; exact rfl) | (apply G1_geq; exact rfl; exact rfl; exact rfl)) | apply G_nil | apply Post_next | apply W_seq | apply W_region | (apply W_cond_true; exact rfl) | (apply W_cond_dec; exact rfl; all_goals (intro h; try (exfalso; omega))) | (apply G_off; exact rfl; exact rfl) | ((fail_if_success (apply G_on; exact rfl)); apply G_split_dec; exact rfl; exact rfl; all_goals (intro h; try (exfalso; omega))) | apply W_ret | apply W_block | apply Post_then_ret | apply Post_block_ret)
    all_goals
      refine Post_ret Tryd.results63 ⟨_, _, rfl, rfl, rfl⟩ ?_
      exact ⟨by simp; rfl, (by repeat first | assumption | exact Ext.rfl' | apply Ext.drew | apply Ext.alloc | refine Ext.trans ?_ (by assumption))⟩
  | succ d ih =>
    intro k e r t w hd4 hkd hs0 hr
    obtain ⟨e, rs, rfl, hk, hs, hn, hl, hsz, hfit, hL⟩ := hr.open
    have n1 := hL.sl.bound
    have hlen := hL.len
    have hsm := hs0.1
    refine Ctr_of Tryd.func63 Tryd.ntmps63 rfl rfl rfl ?_
    repeat' (first | apply W_seq | apply W_region)
    apply G_on; exact rfl; apply G1_box; exact rfl; exact rfl; exact rfl; intro a1 w1 ha1 hA1 hx1 hs1
    replace hA1 : Blk w1.heap a1 24 [.int .i64 r.kind, .string r.s, .int .i64 r.n, .slice r.p r.len r.cap] := hA1
    rw [hk, hs, hn, hl] at hA1
    by_cases hk5 : t.kind = 5
    rotate_left
    · rw [right_leafk hk5]
      by_cases hk01 : t.kind = 0 ∨ t.kind = 1
      · by_cases hn0 : t.n = 0 ∧ rs.length = 0
        · rw [leaf_val t (nobr t.s) ⟨fun h => ⟨⟨by omega, by omega, by omega, by omega, by omega⟩, fun _ => h⟩, fun h => h.2 (by omega)⟩]
          repeat' (first | (apply G_on; exact rfl; first | ((first | apply G1_assign | apply G1_move); exact rfl; exact rfl) | (apply G1_call (f := 77); exact rfl; exact rfl; exact rfl; exact containsBr (by omega); rintro _ w2 ⟨rfl, hx2⟩; refine ⟨(by first | exact .inl rfl | exact .inr (by assumption)), ?_⟩) | (apply G1_fieldAddr; (first | exact T.f24_0 | exact T.f24_2 | exact T.f24_3 | exact T.f24_1); exact rfl; exact rfl) | (apply G1_loadB; (first | exact T.p3 | exact T.p22 | exact T.p9); exact rfl; assumption; exact rfl; exact rfl) | (apply G1_eql; exact rfl; exact rfl; exact rfl) | (apply G1_len; exact T.s22; exact rfl; exact rfl) | (apply G1_pick_t; exact rfl; exact rfl; exact rfl) | (apply G1_not; exact rfl; exact rfl)) | apply G_nil | apply Post_next | apply W_seq | apply W_region | (apply W_cond_dec; exact rfl; all_goals (intro h; try (exfalso; omega))) | ((fail_if_success (apply G_on; exact rfl)); apply G_split_dec; exact rfl; exact rfl; all_goals (intro h; try (exfalso; omega))) | apply W_skip | apply W_ret | apply W_block | apply Post_then_ret | apply Post_block_ret)
          all_goals
            refine Post_ret Tryd.results63 ⟨_, _, rfl, rfl, rfl⟩ ?_
            exact ⟨by show Value.bool (!(!nobr t.s)) = _; rw [Bool.not_not], (by repeat first | assumption | exact Ext.rfl' | apply Ext.drew | apply Ext.alloc | refine Ext.trans ?_ (by assumption))⟩
        · rw [leaf_falsy t (fun h => absurd ⟨h.1.num (by omega), by have := h.1.list (by omega); omega⟩ hn0)]
          repeat' (first | (apply G_on; exact rfl; first | ((first | apply G1_assign | apply G1_move); exact rfl; exact rfl) | (apply G1_fieldAddr; (first | exact T.f24_0 | exact T.f24_2 | exact T.f24_3); exact rfl; exact rfl) | (apply G1_loadB; (first | exact T.p3 | exact T.p22); exact rfl; assumption; exact rfl; exact rfl) | (apply G1_eql; exact rfl; exact rfl; exact rfl) | (apply G1_len; exact T.s22; exact rfl; exact rfl) | (apply G1_pick_t; exact rfl; exact rfl; exact rfl) | (apply G1_pick_f; exact rfl; exact rfl; exact rfl)) | apply G_nil | apply Post_next | apply W_seq | apply W_region | (apply W_cond_dec; exact rfl; all_goals (intro h; try (exfalso; omega))) | (apply G_off; exact rfl; exact rfl) | ((fail_if_success (apply G_on; exact rfl)); apply G_split_dec; exact rfl; exact rfl; all_goals (intro h; try (exfalso; omega))) | apply W_skip | apply W_ret | apply W_block | apply Post_then_ret | apply Post_block_ret)
          all_goals
            refine Post_ret Tryd.results63 ⟨_, _, rfl, rfl, rfl⟩ ?_
            exact ⟨rfl, (by repeat first | assumption | exact Ext.rfl' | apply Ext.drew | apply Ext.alloc | refine Ext.trans ?_ (by assumption))⟩
      by_cases hk2 : t.kind = 2
      · by_cases hse : t.s = ⟨#[]⟩
        · rw [leaf_val t (decide ((rs.length : Int) = 0)) ⟨fun h => ⟨⟨by omega, by omega, by have := of_decide_eq_true h; omega, by omega, fun _ _ _ => hse⟩, by omega⟩, fun h => decide_eq_true (by have := h.1.list (by omega); omega)⟩]
          repeat' (first | (apply G_on; exact rfl; first | ((first | apply G1_assign | apply G1_move); exact rfl; exact rfl) | (apply G1_fieldAddr; (first | exact T.f24_0 | exact T.f24_3 | exact T.f24_1); exact rfl; exact rfl) | (apply G1_loadB; (first | exact T.p3 | exact T.p22 | exact T.p9); exact rfl; assumption; exact rfl; exact rfl) | (apply G1_eql; exact rfl; exact rfl; exact rfl) | (apply G1_len; exact T.s22; exact rfl; exact rfl) | (apply G1_pick_t; exact rfl; exact rfl; exact rfl) | (apply G1_pick_f; exact rfl; exact rfl; exact rfl) | (apply G1_seql; exact rfl; exact rfl; exact rfl)) | apply G_nil | apply Post_next | apply W_seq | apply W_region | (apply W_cond_dec; exact rfl; all_goals (intro h; try (exfalso; omega))) | (apply G_off; exact rfl; exact rfl) | ((fail_if_success (apply G_on; exact rfl)); apply G_split_dec; exact rfl; exact rfl; all_goals (intro h; try (exfalso; omega))) | apply W_ret | apply W_block | apply Post_then_ret | apply Post_block_ret)
          all_goals try contradiction
          refine Post_ret Tryd.results63 ⟨_, _, rfl, rfl, rfl⟩ ?_
          exact ⟨rfl, (by repeat first | assumption | exact Ext.rfl' | apply Ext.drew | apply Ext.alloc | refine Ext.trans ?_ (by assumption))⟩
        · rw [leaf_falsy t (fun h => absurd (h.1.text (by omega) (by omega) (by omega)) hse)]
          repeat' (first | (apply G_on; exact rfl; first | ((first | apply G1_assign | apply G1_move); exact rfl; exact rfl) | (apply G1_fieldAddr; (first | exact T.f24_0 | exact T.f24_3 | exact T.f24_1); exact rfl; exact rfl) | (apply G1_loadB; (first | exact T.p3 | exact T.p22 | exact T.p9); exact rfl; assumption; exact rfl; exact rfl) | (apply G1_eql; exact rfl; exact rfl; exact rfl) | (apply G1_len; exact T.s22; exact rfl; exact rfl) | (apply G1_pick_t; exact rfl; exact rfl; exact rfl) | (apply G1_pick_f; exact rfl; exact rfl; exact rfl) | (apply G1_seql; exact rfl; exact rfl; exact rfl)) | apply G_nil | apply Post_next | apply W_seq | apply W_region | (apply W_cond_dec; exact rfl; all_goals (intro h; try (exfalso; omega))) | (apply G_off; exact rfl; exact rfl) | ((fail_if_success (apply G_on; exact rfl)); apply G_split_dec; exact rfl; exact rfl; all_goals (intro h; try (exfalso; omega))) | apply W_ret | apply W_block | apply Post_then_ret | apply Post_block_ret)
          all_goals try contradiction
          refine Post_ret Tryd.results63 ⟨_, _, rfl, rfl, rfl⟩ ?_
          exact ⟨rfl, (by repeat first | assumption | exact Ext.rfl' | apply Ext.drew | apply Ext.alloc | refine Ext.trans ?_ (by assumption))⟩
      by_cases hk3 : t.kind = 3
      · by_cases hn0 : t.n = 0
        · rw [leaf_val t (decide ((rs.length : Int) = 0)) ⟨fun h => ⟨⟨by omega, by omega, by have := of_decide_eq_true h; omega, by omega, by omega⟩, by omega⟩, fun h => decide_eq_true (by have := h.1.list (by omega); omega)⟩]
          repeat' (first | (apply G_on; exact rfl; first | ((first | apply G1_assign | apply G1_move); exact rfl; exact rfl) | (apply G1_fieldAddr; (first | exact T.f24_0 | exact T.f24_2 | exact T.f24_3); exact rfl; exact rfl) | (apply G1_loadB; (first | exact T.p3 | exact T.p22); exact rfl; assumption; exact rfl; exact rfl) | (apply G1_eql; exact rfl; exact rfl; exact rfl) | (apply G1_len; exact T.s22; exact rfl; exact rfl) | (apply G1_pick_t; exact rfl; exact rfl; exact rfl)) | apply G_nil | apply Post_next | apply W_seq | apply W_region | (apply W_cond_dec; exact rfl; all_goals (intro h; try (exfalso; omega))) | ((fail_if_success (apply G_on; exact rfl)); apply G_split_dec; exact rfl; exact rfl; all_goals (intro h; try (exfalso; omega))) | apply W_ret | apply W_block | apply Post_then_ret | apply Post_block_ret)
          refine Post_ret Tryd.results63 ⟨_, _, rfl, rfl, rfl⟩ ?_
          exact ⟨rfl, (by repeat first | assumption | exact Ext.rfl' | apply Ext.drew | apply Ext.alloc | refine Ext.trans ?_ (by assumption))⟩
        · rw [leaf_falsy t (fun h => absurd (h.1.num (by omega)) hn0)]
          repeat' (first | (apply G_on; exact rfl; first | ((first | apply G1_assign | apply G1_move); exact rfl; exact rfl) | (apply G1_fieldAddr; (first | exact T.f24_0 | exact T.f24_2); exact rfl; exact rfl) | (apply G1_loadB; exact T.p3; exact rfl; assumption; exact rfl; exact rfl) | (apply G1_eql; exact rfl; exact rfl; exact rfl) | (apply G1_pick_f; exact rfl; exact rfl; exact rfl)) | apply G_nil | apply Post_next | apply W_seq | apply W_region | (apply W_cond_dec; exact rfl; all_goals (intro h; try (exfalso; omega))) | (apply G_off; exact rfl; exact rfl) | ((fail_if_success (apply G_on; exact rfl)); apply G_split_dec; exact rfl; exact rfl; all_goals (intro h; try (exfalso; omega))) | apply W_ret | apply W_block | apply Post_then_ret | apply Post_block_ret)
          refine Post_ret Tryd.results63 ⟨_, _, rfl, rfl, rfl⟩ ?_
          exact ⟨rfl, (by repeat first | assumption | exact Ext.rfl' | apply Ext.drew | apply Ext.alloc | refine Ext.trans ?_ (by assumption))⟩
      by_cases hk4 : t.kind = 4
      · by_cases hse : t.s = ⟨#[]⟩
        · by_cases hn0 : t.n = 0
          · rw [leaf_val t (decide ((rs.length : Int) = 0)) ⟨fun h => ⟨⟨by omega, by omega, by have := of_decide_eq_true h; omega, by omega, fun _ _ _ => hse⟩, by omega⟩, fun h => decide_eq_true (by have := h.1.list (by omega); omega)⟩]
            repeat' (first | (apply G_on; exact rfl; first | ((first | apply G1_assign | apply G1_move); exact rfl; exact rfl) | (apply G1_fieldAddr; (first | exact T.f24_0 | exact T.f24_2 | exact T.f24_3 | exact T.f24_1); exact rfl; exact rfl) | (apply G1_loadB; (first | exact T.p3 | exact T.p22 | exact T.p9); exact rfl; assumption; exact rfl; exact rfl) | (apply G1_eql; exact rfl; exact rfl; exact rfl) | (apply G1_len; exact T.s22; exact rfl; exact rfl) | (apply G1_pick_t; exact rfl; exact rfl; exact rfl) | (apply G1_pick_f; exact rfl; exact rfl; exact rfl) | (apply G1_seql; exact rfl; exact rfl; exact rfl)) | apply G_nil | apply Post_next | apply W_seq | apply W_region | (apply W_cond_dec; exact rfl; all_goals (intro h; try (exfalso; omega))) | (apply G_off; exact rfl; exact rfl) | ((fail_if_success (apply G_on; exact rfl)); apply G_split_dec; exact rfl; exact rfl; all_goals (intro h; try (exfalso; omega))) | apply W_ret | apply W_block | apply Post_then_ret | apply Post_block_ret)
            all_goals try contradiction
            refine Post_ret Tryd.results63 ⟨_, _, rfl, rfl, rfl⟩ ?_
            exact ⟨rfl, (by repeat first | assumption | exact Ext.rfl' | apply Ext.drew | apply Ext.alloc | refine Ext.trans ?_ (by assumption))⟩
          · rw [leaf_falsy t (fun h => absurd (h.1.num (by omega)) hn0)]
            repeat' (first | (apply G_on; exact rfl; first | ((first | apply G1_assign | apply G1_move); exact rfl; exact rfl) | (apply G1_fieldAddr; (first | exact T.f24_0 | exact T.f24_2 | exact T.f24_1); exact rfl; exact rfl) | (apply G1_loadB; (first | exact T.p3 | exact T.p9); exact rfl; assumption; exact rfl; exact rfl) | (apply G1_eql; exact rfl; exact rfl; exact rfl) | (apply G1_pick_t; exact rfl; exact rfl; exact rfl) | (apply G1_pick_f; exact rfl; exact rfl; exact rfl) | (apply G1_seql; exact rfl; exact rfl; exact rfl)) | apply G_nil | apply Post_next | apply W_seq | apply W_region | (apply W_cond_dec; exact rfl; all_goals (intro h; try (exfalso; omega))) | (apply G_off; exact rfl; exact rfl) | ((fail_if_success (apply G_on; exact rfl)); apply G_split_dec; exact rfl; exact rfl; all_goals (intro h; try (exfalso; omega))) | apply W_ret | apply W_block | apply Post_then_ret | apply Post_block_ret)
            all_goals try contradiction
            refine Post_ret Tryd.results63 ⟨_, _, rfl, rfl, rfl⟩ ?_
            exact ⟨rfl, (by repeat first | assumption | exact Ext.rfl' | apply Ext.drew | apply Ext.alloc | refine Ext.trans ?_ (by assumption))⟩
        · rw [leaf_falsy t (fun h => absurd (h.1.text (by omega) (by omega) (by omega)) hse)]
          repeat' (first | (apply G_on; exact rfl; first | ((first | apply G1_assign | apply G1_move); exact rfl; exact rfl) | (apply G1_fieldAddr; (first | exact T.f24_0 | exact T.f24_2 | exact T.f24_3 | exact T.f24_1); exact rfl; exact rfl) | (apply G1_loadB; (first | exact T.p3 | exact T.p22 | exact T.p9); exact rfl; assumption; exact rfl; exact rfl) | (apply G1_eql; exact rfl; exact rfl; exact rfl) | (apply G1_len; exact T.s22; exact rfl; exact rfl) | (apply G1_pick_t; exact rfl; exact rfl; exact rfl) | (apply G1_pick_f; exact rfl; exact rfl; exact rfl) | (apply G1_seql; exact rfl; exact rfl; exact rfl)) | apply G_nil | apply Post_next | apply W_seq | apply W_region | (apply W_cond_dec; exact rfl; all_goals (intro h; try (exfalso; omega))) | (apply G_off; exact rfl; exact rfl) | ((fail_if_success (apply G_on; exact rfl)); apply G_split_dec; exact rfl; exact rfl; all_goals (intro h; try (exfalso; omega))) | apply W_ret | apply W_block | apply Post_then_ret | apply Post_block_ret)
          all_goals try contradiction
          refine Post_ret Tryd.results63 ⟨_, _, rfl, rfl, rfl⟩ ?_
          exact ⟨rfl, (by repeat first | assumption | exact Ext.rfl' | apply Ext.drew | apply Ext.alloc | refine Ext.trans ?_ (by assumption))⟩
      · rw [leaf_falsy t (fun h => by have := h.1.lo; have := h.1.hi; omega)]
        repeat' (first | (apply G_on; exact rfl; first | (apply G1_assign; exact rfl; exact rfl) | (apply G1_fieldAddr; exact T.f24_0; exact rfl; exact rfl) | (apply G1_loadB; exact T.p3; exact rfl; assumption; exact rfl; exact rfl) | (apply G1_eql; exact rfl; exact rfl; exact rfl)) | apply G_nil | apply Post_next | apply W_seq | apply W_region | (apply W_cond_dec; exact rfl; all_goals (intro h; try (exfalso; omega))) | apply W_skip | apply W_ret | apply W_block | apply Post_block_normal)
        refine Post_ret Tryd.results63 ⟨_, _, rfl, rfl, rfl⟩ ?_
        exact ⟨rfl, (by repeat first | assumption | exact Ext.rfl' | apply Ext.drew | apply Ext.alloc | refine Ext.trans ?_ (by assumption))⟩
    by_cases hh : t.s = ⟨#[]⟩ ∧ t.n = 0
    · obtain ⟨hse, hn0⟩ := hh
      have hleaf : leafOk t = true := leaf_iff.2 ⟨⟨by omega, by omega, by omega, by omega, fun _ _ _ => hse⟩, by omega⟩
      repeat' (first | (apply G_on; exact rfl; first | ((first | apply G1_assign | apply G1_move); exact rfl; exact rfl) | (apply G1_fieldAddr; (first | exact T.f24_0 | exact T.f24_2 | exact T.f24_3 | exact T.f24_1); exact rfl; exact rfl) | (apply G1_loadB; (first | exact T.p3 | exact T.p22 | exact T.p9); exact rfl; assumption; exact rfl; exact rfl) | (apply G1_eql; exact rfl; exact rfl; exact rfl) | (apply G1_len; exact T.s22; exact rfl; exact rfl) | (apply G1_pick_t; exact rfl; exact rfl; exact rfl) | (apply G1_pick_f; exact rfl; exact rfl; exact rfl) | (apply G1_sneq; exact rfl; exact rfl; exact rfl) | (apply G1_neq; exact rfl; exact rfl; exact rfl) | (apply G1_geq; exact rfl; exact rfl; exact rfl)) | apply G_nil | apply Post_next | apply W_seq | apply W_region | (apply W_cond_true; exact rfl) | (apply W_cond_dec; exact rfl; all_goals (intro h; try (exfalso; omega))) | (apply G_off; exact rfl; exact rfl) | ((fail_if_success (apply G_on; exact rfl)); apply G_split_dec; exact rfl; exact rfl; all_goals (intro h; try (exfalso; omega))) | apply W_skip | apply W_ret | apply W_block | apply Post_then_ret | apply Post_block_ret)
      all_goals try contradiction
      refine W_loop (ι := Nat) (fun i => [(1, .int .i64 k), (80, .slice r.p rs.length r.cap), (81, .int .i64 (rs.length : Int)), (82, .int .i64 (i : Int))])
        (fun i w' => Ext w w' ∧ i ≤ rs.length ∧ (t.l.take i).all (rightT d) = true) (fun i => rs.length - i) 0 ⟨rfl, rfl, rfl, rfl, trivial⟩ ⟨(by repeat first | assumption | exact Ext.rfl' | apply Ext.drew | apply Ext.alloc | refine Ext.trans ?_ (by assumption)), Nat.zero_le _, rfl⟩ ?_
      rintro i w3 ⟨hx3, hi, hq⟩
      have hL3 := hL.ext hx3
      have hsl3 := hL3.sl
      by_cases hlt : i < rs.length
      · obtain ⟨r', hr'⟩ := get_some hlt
        obtain ⟨t', ht'⟩ := get_some (xs := t.l) (k := i) (by omega)
        have hat := hL3.get i r' t' hr' ht'
        have hst := hs0.2 t' (List.mem_of_getElem? ht')
        have hts := take_snoc ht'
        repeat' (first | (apply G_on; exact rfl; first | (apply G1_lss; exact rfl; exact rfl; exact rfl) | (apply G1_indexAddrN; exact T.s22; exact rfl; exact rfl; (first | assumption | exact Sl.ok (by assumption) | exact (Own.sl (by assumption)).ok); omega; exact rfl) | (apply G1_loadEl; exact T.a24; exact rfl; assumption; assumption; exact rfl; exact rfl)) | apply G_nil | apply Post_next | apply W_seq | apply W_region | (apply W_cond_dec; exact rfl; all_goals (intro h; try (exfalso; omega))) | apply W_skip | apply W_block)
        apply G_on; exact rfl; apply G1_alloc; exact T.zero24; exact rfl; exact rfl; intro a4 w4 ha4 hA4 hx4 hs4
        replace hsl3 := hsl3.ext hx4
        skip
        apply G_on; exact rfl; apply G1_storeB; exact T.z24; exact rfl; exact rfl; exact hA4; exact rfl; exact rfl; (first | exact Nat.le_of_ble_eq_true rfl | (focus (simp [Value.cells]; done))); (first | exact Enc.one _ _ | (focus (simp [Value.oneCell']; done)) | (focus (simp [Value.cells, Value.oneCell']; done)) | exact Enc.oneAgg _ _); exact rfl; (first | exact .inl rfl | exact .inr (by simp [exempt])); exact rfl; intro w5 hA5 hg5 hs5
        replace hA5 : Blk w5.heap a4 24 (eRep.enc r') := hA5
        have hx35 : Ext w3 w5 := hx4.own hg5 (fun k hk => by injection hk; omega)
        replace hat := hat.ext hx35
        have hx5 := hx3.trans hx35
        repeat' (first | (apply G_on; exact rfl; first | (apply G1_move; exact rfl; exact rfl) | (apply G1_loadBAgg; exact T.a24; exact rfl; assumption; exact rfl; exact rfl) | (apply G1_add; exact rfl; exact rfl; omega; omega; exact rfl)) | apply G_nil | apply Post_next | apply W_seq | apply W_region)
        apply G_on; exact rfl; apply G1_call; exact rfl; exact rfl; exact rfl; exact ih (by omega) (by omega) hst hat; rintro _ w6 ⟨rfl, hx6⟩; refine ⟨(by first | exact .inl rfl | exact .inr (by assumption)), ?_⟩
        cases hrt : rightT d t' with
        | true =>
          repeat' (first | (apply G_on; exact rfl; first | (apply G1_move; exact rfl; exact rfl) | (apply G1_not_t; exact rfl; exact rfl) | (apply G1_add; exact rfl; exact rfl; omega; omega; exact rfl)) | apply G_nil | apply Post_next | apply W_region | (apply W_cond_false; exact rfl) | apply W_skip | apply Post_block_normal)
          exact Post_round (i + 1) ⟨rfl, rfl, rfl, rfl, trivial⟩ ⟨(by repeat first | assumption | exact Ext.rfl' | apply Ext.drew | apply Ext.alloc | refine Ext.trans ?_ (by assumption)), by omega, by rw [hts, List.all_append, hq]; simp [hrt]⟩ (by omega)
        | false =>
          repeat' (first | (apply G_on; exact rfl; first | (apply G1_assign; exact rfl; exact rfl) | (apply G1_not_f; exact rfl; exact rfl)) | apply G_nil | apply Post_next | apply W_seq | apply W_region | (apply W_cond_true; exact rfl) | apply W_ret | apply Post_then_ret | apply Post_block_ret)
          refine Post_ret Tryd.results63 ⟨_, _, rfl, rfl, rfl⟩ ?_
          refine ⟨?_, (by repeat first | assumption | exact Ext.rfl' | apply Ext.drew | apply Ext.alloc | refine Ext.trans ?_ (by assumption))⟩
          have : t.l.all (rightT d) = false := List.all_eq_false.2 ⟨t', List.mem_of_getElem? ht', by simp [hrt]⟩
          rw [right_succ, this]; simp; rfl
      · rw [List.take_of_length_le (by omega)] at hq
        repeat' (first | (apply G_on; exact rfl; first | (apply G1_assign; exact rfl; exact rfl) | (apply G1_lss; exact rfl; exact rfl; exact rfl)) | apply G_nil | apply Post_next | apply W_seq | apply W_region | (apply W_cond_dec; exact rfl; all_goals (intro h; try (exfalso; omega))) | apply W_exit | apply W_ret | apply Post_then_ret | apply Post_block_ret | apply Post_then_exit | apply Post_block_exit)
        refine Post_ret Tryd.results63 ⟨_, _, rfl, rfl, rfl⟩ ?_
        exact ⟨by rw [right_succ, hleaf, hq]; rfl, (by repeat first | assumption | exact Ext.rfl' | apply Ext.drew | apply Ext.alloc | refine Ext.trans ?_ (by assumption))⟩
    · have hleaf : leafOk t = false := by
        cases h : leafOk t with
        | false => rfl
        | true => exact absurd ⟨(leaf_iff.1 h).1.text (by omega) (by omega) (by omega), (leaf_iff.1 h).1.num (by omega)⟩ hh
      rw [right_no hleaf]
      repeat' (first | (apply G_on; exact rfl; first | ((first | apply G1_assign | apply G1_move); exact rfl; exact rfl) | (apply G1_fieldAddr; (first | exact T.f24_0 | exact T.f24_2 | exact T.f24_3 | exact T.f24_1); exact rfl; exact rfl) | (apply G1_loadB; (first | exact T.p3 | exact T.p22 | exact T.p9); exact rfl; assumption; exact rfl; exact rfl) | (apply G1_eql; exact rfl; exact rfl; exact rfl) | (apply G1_len; exact T.s22; exact rfl; exact rfl) | (apply G1_pick_t; exact rfl; exact rfl; exact rfl) | (apply G1_pick_f; exact rfl; exact rfl; exact rfl) | (apply G1_sneq; exact rfl; exact rfl; exact rfl) | (apply G1_neq; exact rfl; exact rfl; exact rfl) | (apply G1_geq; exact rfl; exact rfl; exact rfl)) | apply G_nil | apply Post_next | apply W_seq | apply W_region | (apply W_cond_true; exact rfl) | (apply W_cond_dec; exact rfl; all_goals (intro h; try (exfalso; omega))) | (apply G_off; exact rfl; exact rfl) | ((fail_if_success (apply G_on; exact rfl)); apply G_split_dec; exact rfl; exact rfl; all_goals (intro h; try (exfalso; omega))) | apply W_skip | apply W_ret | apply W_block | apply Post_then_ret | apply Post_block_ret)
      all_goals first
        | exact absurd ⟨Classical.not_not.1 (by assumption), by omega⟩ hh
        | (refine Post_ret Tryd.results63 ⟨_, _, rfl, rfl, rfl⟩ ?_
           exact ⟨rfl, (by repeat first | assumption | exact Ext.rfl' | apply Ext.drew | apply Ext.alloc | refine Ext.trans ?_ (by assumption))⟩)
theorem presp_spec {e : Nat} {r : RawR} {t : Rep} {w : World} (hs0 : smallT 5 t) (hr : RepAt w.heap e r t) :
    Ctr Tryd.prog 37 [.agg (eRep.enc r).toArray] w (fun v w' => v = .bool (rightT 4 t) ∧ Ext w w') := by
  refine Ctr_of Tryd.func37 Tryd.ntmps37 rfl rfl rfl ?_
  repeat' (first | apply W_seq | apply W_region)
  apply G_on; exact rfl; apply G1_box; exact rfl; exact rfl; exact rfl; intro a1 w1 ha1 hA1 hx1 hs1
  replace hA1 : Blk w1.heap a1 24 (eRep.enc r) := hA1
  replace hr := hr.ext hx1
  repeat' (first | (apply G_on; exact rfl; first | (apply G1_assign; exact rfl; exact rfl) | (apply G1_loadBAgg; exact T.a24; exact rfl; assumption; exact rfl; exact rfl)) | apply G_nil | apply Post_next | apply W_seq | apply W_region)
  apply G_on; exact rfl; apply G1_call; exact rfl; exact rfl; exact rfl; exact pright_spec 4 (by omega) (by omega) hs0 hr; rintro _ w2 ⟨rfl, hx2⟩; refine ⟨(by first | exact .inl rfl | exact .inr (by assumption)), ?_⟩
  repeat' (first | (apply G_on; exact rfl; (apply G1_assign; exact rfl; exact rfl)) | apply G_nil | apply Post_next | apply W_ret)
  refine Post_ret Tryd.results37 ⟨_, _, rfl, rfl, rfl⟩ ?_
  exact ⟨rfl, (by repeat first | assumption | exact Ext.rfl' | apply Ext.drew | apply Ext.alloc | refine Ext.trans ?_ (by assumption))⟩
end Go.Proofs.YtikjnmpijflnaaaDoor
