/- list.Find: the function that it makes. -/
import Derived.Test.YtkibkldikjkokaaVListRight
namespace Go.V
def findStep (x s : ByteArray) (i : Int) (st : Int × List Int) : Int × List Int := if x = s then (if 0 < st.1 then (st.1 - 1, st.2) else (st.1, st.2 ++ [i])) else st
theorem Blk.neT {H : Array Obj} {a b t t' : Nat} {cs ds : List Value} (h : Blk H a t cs) (k : Blk H b t' ds) (hne : t ≠ t') : some a ≠ some b := by
  intro e; injection e with e; subst e
  unfold Blk at h k
  rw [h] at k
  injection k with k
  injection k with _ k
  exact hne k
end Go.V
namespace Go.Proofs.Ytkibkldikjkokaa
open Go.V
attribute [local irreducible] Blk Own hcell IntT SliceT PlainT AggT SizeT StrT FieldT ZeroT EqT ArrT
structure FSt (w0 w : World) (B : Nat) (p : Option Addr) (c : Nat) (l : List ByteArray) (s : ByteArray) (most : Int) (a4 a5 a7 a9 a10 : Nat) (st : Int × List Int) : Prop where
  ext : Ext w0 w
  base : B ≤ w.heap.size
  b4 : Blk w.heap a4 37 [.slice p l.length c]
  b5 : Blk w.heap a5 9 [.string s]
  b7 : Blk w.heap a7 3 [.int .i64 most]
  b10 : Blk w.heap a10 3 [.int .i64 st.1]
  out : ∃ po co, Blk w.heap a9 50 [.slice po st.2.length co] ∧ Own w B 3 eInt po co st.2
theorem more_spec {w0 w : World} {B : Nat} {p : Option Addr} {c : Nat} {l : List ByteArray} {s x : ByteArray} {most : Int} {a4 a5 a7 a9 a10 : Nat} {st : Int × List Int} {i : Nat}
    (hl : Sl w0.heap eStr p c l) (hix : l[i]? = some x) (hS : FSt w0 w B p c l s most a4 a5 a7 a9 a10 st) (hb : w0.heap.size ≤ a10 ∧ w0.heap.size ≤ a9 ∧ w0.heap.size ≤ B ∧ a10 < B ∧ a9 < B ∧ a7 < B ∧ a10 ≠ a7) (hsk : -9223372036854775808 < st.1 ∧ st.1 ≤ 9223372036854775807) (hlen : st.2.length ≤ 1000000) (hil : i ≤ 1000000) :
    Ctr Try.prog 68 [.int .i64 (i : Int), .pointer (some (adr (bx a4) 0)), .pointer (some (adr (bx a5) 0)), .pointer (some (adr (bx a10) 0)), .pointer (some (adr (bx a9) 0)), .pointer (some (adr (bx a7) 0))] w (fun v w' => v = .bool (decide (most < 1) || decide (((findStep x s i st).2.length : Int) < most)) ∧ FSt w0 w' B p c l s most a4 a5 a7 a9 a10 (findStep x s i st)) := by
  obtain ⟨hx, hB, h4, h5, h7, h10, po, co, h9, ho⟩ := hS
  obtain ⟨skip, out⟩ := st
  simp only at h10 h9 ho hsk hlen
  have hlw := hl.ext hx
  have hit := get_lt hix
  obtain ⟨q1, q2, q3, q4, q5, q6, q7⟩ := hb
  refine Ctr_of Try.func68 Try.ntmps68 rfl rfl rfl ?_
  by_cases hxs : x = s
  · subst hxs
    by_cases h0 : 0 < skip
    · have e : findStep x x i (skip, out) = (skip - 1, out) := by unfold findStep; rw [if_pos rfl, if_pos h0]
      rw [e]
      repeat' (first | (apply G_on; exact rfl; first | ((first | apply G1_assign | apply G1_move); exact rfl; exact rfl) | (apply G1_loadB; (first | exact T.p37 | exact T.p9 | exact T.p3 | exact T.p50); exact rfl; assumption; exact rfl; exact rfl) | (apply G1_loadBS; (first | exact T.p37 | exact T.p9 | exact T.p3 | exact T.p50); exact rfl; assumption; exact rfl; (first | assumption | (focus (simp [exempt]; omega))); exact rfl) | (apply G1_loadFld; (first | exact T.p37 | exact T.p9 | exact T.p3 | exact T.p50); exact rfl; assumption; assumption; exact rfl; exact rfl; exact rfl) | (apply G1_loadEl1; (first | exact T.p37 | exact T.p9 | exact T.p3 | exact T.p50); exact rfl; assumption; assumption; exact rfl; exact rfl; exact rfl) | (apply G1_indexAddrN; exact T.s37; exact rfl; exact rfl; (first | assumption | exact Sl.ok (by assumption) | exact (Own.sl (by assumption)).ok); omega; exact rfl) | (apply G1_indexAddr; exact T.s37; exact rfl; exact rfl; (first | assumption | exact Sl.ok (by assumption) | exact (Own.sl (by assumption)).ok); omega; omega; exact rfl) | ((first | apply G1_sneq | apply G1_gtr | apply G1_lss); exact rfl; exact rfl; exact rfl) | (apply G1_sub; exact rfl; exact rfl; omega; omega; exact rfl) | (apply G1_len; exact T.s50; exact rfl; exact rfl) | (apply G1_pick_t; exact rfl; exact rfl; exact rfl) | (apply G1_pick_f; exact rfl; exact rfl; exact rfl)) | apply G_nil | apply Post_next | apply W_seq | apply W_region | (apply W_cond_true; exact rfl) | (apply W_cond_false; exact rfl) | (apply W_cond_dec; exact rfl; all_goals (intro h; try (exfalso; omega))) | (apply W_cond; exact rfl; all_goals intro h) | (apply G_off; exact rfl; exact rfl) | ((fail_if_success (apply G_on; exact rfl)); apply G_split_dec; exact rfl; exact rfl; all_goals (intro h; try (exfalso; omega))) | ((fail_if_success (apply G_on; exact rfl)); apply G_split; exact rfl; exact rfl; all_goals intro h) | refine W_drawn 1 [] [0,1,2,3,4,5,6] mixed (by decide +kernel) ?_ | apply W_skip | apply W_exit | apply W_ret | apply W_block | apply Post_then_ret | apply Post_block_ret | apply Post_then_exit | apply Post_block_exit | (apply Post_block_other; exact rfl) | apply Post_block_normal)
      all_goals try (exfalso; omega)
      all_goals try (exact absurd rfl ‹¬ x = x›)
      have hd : Ext w w.drew := Ext.drew Ext.rfl'
      have zd : w.drew.heap.size = w.heap.size := rfl
      replace ho := ho.ext hd
      replace h4 := h4.ext hd
      replace h5 := h5.ext hd
      replace h7 := h7.ext hd
      replace h9 := h9.ext hd
      replace h10 := h10.ext hd
      replace hx := hx.trans hd
      apply G_on; exact rfl; apply G1_storeB; exact T.z3; exact rfl; exact rfl; exact h10; exact rfl; exact rfl; (first | exact Nat.le_of_ble_eq_true rfl | (focus (simp [Value.cells]; done))); (first | exact Enc.one _ _ | (focus (simp [Value.oneCell']; done)) | (focus (simp [Value.cells, Value.oneCell']; done)) | exact Enc.oneAgg _ _); exact rfl; (first | exact .inl rfl | exact .inr (by simp [exempt])); exact rfl; intro w2 g10 hg2 hz2
      replace g10 : Blk w2.heap a10 3 [.int .i64 (skip - 1)] := g10
      have g4 := h4.grown hg2 (h10.neT h4 (by decide))
      have g5 := h5.grown hg2 (h10.neT h5 (by decide))
      have g9 := h9.grown hg2 (h10.neT h9 (by decide))
      have g7 := h7.grown hg2 (by intro e; injection e with e; exact q7 e)
      have go := ho.kept hg2 (fun a ha e => by injection e with e; have := (ho.ge a.block (by rw [ha]; rfl)).1; omega)
      have gx : Ext w0 w2 := hx.own hg2 (fun k hk => by injection hk; omega)
      clear h4 h5 h7 h9 h10 ho hlw
      repeat' (first | (apply G_on; exact rfl; first | ((first | apply G1_assign | apply G1_move); exact rfl; exact rfl) | (apply G1_loadB; (first | exact T.p37 | exact T.p9 | exact T.p3 | exact T.p50); exact rfl; assumption; exact rfl; exact rfl) | (apply G1_loadBS; (first | exact T.p37 | exact T.p9 | exact T.p3 | exact T.p50); exact rfl; assumption; exact rfl; (first | assumption | (focus (simp [exempt]; omega))); exact rfl) | (apply G1_loadFld; (first | exact T.p37 | exact T.p9 | exact T.p3 | exact T.p50); exact rfl; assumption; assumption; exact rfl; exact rfl; exact rfl) | (apply G1_loadEl1; (first | exact T.p37 | exact T.p9 | exact T.p3 | exact T.p50); exact rfl; assumption; assumption; exact rfl; exact rfl; exact rfl) | (apply G1_indexAddrN; exact T.s37; exact rfl; exact rfl; (first | assumption | exact Sl.ok (by assumption) | exact (Own.sl (by assumption)).ok); omega; exact rfl) | (apply G1_indexAddr; exact T.s37; exact rfl; exact rfl; (first | assumption | exact Sl.ok (by assumption) | exact (Own.sl (by assumption)).ok); omega; omega; exact rfl) | ((first | apply G1_sneq | apply G1_gtr | apply G1_lss); exact rfl; exact rfl; exact rfl) | (apply G1_sub; exact rfl; exact rfl; omega; omega; exact rfl) | (apply G1_len; exact T.s50; exact rfl; exact rfl) | (apply G1_pick_t; exact rfl; exact rfl; exact rfl) | (apply G1_pick_f; exact rfl; exact rfl; exact rfl)) | apply G_nil | apply Post_next | apply W_seq | apply W_region | (apply W_cond_true; exact rfl) | (apply W_cond_false; exact rfl) | (apply W_cond_dec; exact rfl; all_goals (intro h; try (exfalso; omega))) | (apply W_cond; exact rfl; all_goals intro h) | (apply G_off; exact rfl; exact rfl) | ((fail_if_success (apply G_on; exact rfl)); apply G_split_dec; exact rfl; exact rfl; all_goals (intro h; try (exfalso; omega))) | ((fail_if_success (apply G_on; exact rfl)); apply G_split; exact rfl; exact rfl; all_goals intro h) | refine W_drawn 1 [] [0,1,2,3,4,5,6] mixed (by decide +kernel) ?_ | apply W_skip | apply W_exit | apply W_ret | apply W_block | apply Post_then_ret | apply Post_block_ret | apply Post_then_exit | apply Post_block_exit | (apply Post_block_other; exact rfl) | apply Post_block_normal)
      all_goals
        refine Post_ret Try.results68 ⟨_, _, rfl, rfl, rfl⟩ ?_
        exact ⟨by first | (simp [resVal, h]; done) | (simp [resVal]; omega), ⟨gx, by omega, g4, g5, g7, g10, po, co, g9, go⟩⟩
    · have e : findStep x x i (skip, out) = (skip, out ++ [(i : Int)]) := by unfold findStep; rw [if_pos rfl, if_neg h0]
      rw [e]
      repeat' (first | (apply G_on; exact rfl; first | ((first | apply G1_assign | apply G1_move); exact rfl; exact rfl) | (apply G1_loadB; (first | exact T.p37 | exact T.p9 | exact T.p3 | exact T.p50); exact rfl; assumption; exact rfl; exact rfl) | (apply G1_loadBS; (first | exact T.p37 | exact T.p9 | exact T.p3 | exact T.p50); exact rfl; assumption; exact rfl; (first | assumption | (focus (simp [exempt]; omega))); exact rfl) | (apply G1_loadFld; (first | exact T.p37 | exact T.p9 | exact T.p3 | exact T.p50); exact rfl; assumption; assumption; exact rfl; exact rfl; exact rfl) | (apply G1_loadEl1; (first | exact T.p37 | exact T.p9 | exact T.p3 | exact T.p50); exact rfl; assumption; assumption; exact rfl; exact rfl; exact rfl) | (apply G1_indexAddrN; exact T.s37; exact rfl; exact rfl; (first | assumption | exact Sl.ok (by assumption) | exact (Own.sl (by assumption)).ok); omega; exact rfl) | (apply G1_indexAddr; exact T.s37; exact rfl; exact rfl; (first | assumption | exact Sl.ok (by assumption) | exact (Own.sl (by assumption)).ok); omega; omega; exact rfl) | ((first | apply G1_sneq | apply G1_gtr | apply G1_lss); exact rfl; exact rfl; exact rfl) | (apply G1_sub; exact rfl; exact rfl; omega; omega; exact rfl) | (apply G1_len; exact T.s50; exact rfl; exact rfl) | (apply G1_pick_t; exact rfl; exact rfl; exact rfl) | (apply G1_pick_f; exact rfl; exact rfl; exact rfl)) | apply G_nil | apply Post_next | apply W_seq | apply W_region | (apply W_cond_true; exact rfl) | (apply W_cond_false; exact rfl) | (apply W_cond_dec; exact rfl; all_goals (intro h; try (exfalso; omega))) | (apply W_cond; exact rfl; all_goals intro h) | (apply G_off; exact rfl; exact rfl) | ((fail_if_success (apply G_on; exact rfl)); apply G_split_dec; exact rfl; exact rfl; all_goals (intro h; try (exfalso; omega))) | ((fail_if_success (apply G_on; exact rfl)); apply G_split; exact rfl; exact rfl; all_goals intro h) | refine W_drawn 1 [] [0,1,2,3,4,5,6] mixed (by decide +kernel) ?_ | apply W_skip | apply W_exit | apply W_ret | apply W_block | apply Post_then_ret | apply Post_block_ret | apply Post_then_exit | apply Post_block_exit | (apply Post_block_other; exact rfl) | apply Post_block_normal)
      all_goals try (exfalso; omega)
      all_goals try (exact absurd rfl ‹¬ x = x›)
      have hd : Ext w w.drew := Ext.drew Ext.rfl'
      have zd : w.drew.heap.size = w.heap.size := rfl
      replace ho := ho.ext hd
      replace h4 := h4.ext hd
      replace h5 := h5.ext hd
      replace h7 := h7.ext hd
      replace h9 := h9.ext hd
      replace h10 := h10.ext hd
      replace hx := hx.trans hd
      apply G_on; exact rfl
      apply G1_build1 eInt (i : Int); exact T.s50; exact rfl; exact rfl; exact rfl; decide; exact rfl; exact rfl
      intro p3 w3 hp3 hs3 _ hx3 hz3
      replace ho := ho.ext hx3
      replace h4 := h4.ext hx3
      replace h5 := h5.ext hx3
      replace h7 := h7.ext hx3
      replace h9 := h9.ext hx3
      replace h10 := h10.ext hx3
      replace hx := hx.trans hx3
      have z3 := hx3.size
      repeat' (first | (apply G_on; exact rfl; first | ((first | apply G1_assign | apply G1_move); exact rfl; exact rfl) | (apply G1_loadB; (first | exact T.p37 | exact T.p9 | exact T.p3 | exact T.p50); exact rfl; assumption; exact rfl; exact rfl) | (apply G1_loadBS; (first | exact T.p37 | exact T.p9 | exact T.p3 | exact T.p50); exact rfl; assumption; exact rfl; (first | assumption | (focus (simp [exempt]; omega))); exact rfl) | (apply G1_loadFld; (first | exact T.p37 | exact T.p9 | exact T.p3 | exact T.p50); exact rfl; assumption; assumption; exact rfl; exact rfl; exact rfl) | (apply G1_loadEl1; (first | exact T.p37 | exact T.p9 | exact T.p3 | exact T.p50); exact rfl; assumption; assumption; exact rfl; exact rfl; exact rfl) | (apply G1_indexAddrN; exact T.s37; exact rfl; exact rfl; (first | assumption | exact Sl.ok (by assumption) | exact (Own.sl (by assumption)).ok); omega; exact rfl) | (apply G1_indexAddr; exact T.s37; exact rfl; exact rfl; (first | assumption | exact Sl.ok (by assumption) | exact (Own.sl (by assumption)).ok); omega; omega; exact rfl) | ((first | apply G1_sneq | apply G1_gtr | apply G1_lss); exact rfl; exact rfl; exact rfl) | (apply G1_sub; exact rfl; exact rfl; omega; omega; exact rfl) | (apply G1_len; exact T.s50; exact rfl; exact rfl) | (apply G1_pick_t; exact rfl; exact rfl; exact rfl) | (apply G1_pick_f; exact rfl; exact rfl; exact rfl)) | apply G_nil | apply Post_next | apply W_seq | apply W_region | (apply W_cond_true; exact rfl) | (apply W_cond_false; exact rfl) | (apply W_cond_dec; exact rfl; all_goals (intro h; try (exfalso; omega))) | (apply W_cond; exact rfl; all_goals intro h) | (apply G_off; exact rfl; exact rfl) | ((fail_if_success (apply G_on; exact rfl)); apply G_split_dec; exact rfl; exact rfl; all_goals (intro h; try (exfalso; omega))) | ((fail_if_success (apply G_on; exact rfl)); apply G_split; exact rfl; exact rfl; all_goals intro h) | refine W_drawn 1 [] [0,1,2,3,4,5,6] mixed (by decide +kernel) ?_ | apply W_skip | apply W_exit | apply W_ret | apply W_block | apply Post_then_ret | apply Post_block_ret | apply Post_then_exit | apply Post_block_exit | (apply Post_block_other; exact rfl) | apply Post_block_normal)
      apply G_on; exact rfl
      apply G1_appendA (xs := out) (ys := [(i : Int)]); exact T.s50; exact rfl; exact rfl; exact ho; exact hs3; exact rfl; omega; (simp only [List.length_cons, List.length_nil]; omega); (simp only [List.length_cons, List.length_nil]; omega); exact rfl; exact rfl; exact rfl
      intro p4 c4 w4 ha4
      have hge := ho.ge
      have k9 := h9.grown ha4.grown (fun e => by have := (hge _ e).1; omega)
      have k4 := h4.grown ha4.grown (fun e => (ho.neB h4 (by decide)) e)
      have k5 := h5.grown ha4.grown (fun e => (ho.neB h5 (by decide)) e)
      have k7 := h7.grown ha4.grown (fun e => by have := (hge _ e).1; omega)
      have k10 := h10.grown ha4.grown (fun e => by have := (hge _ e).1; omega)
      have kx : Ext w0 w4 := hx.app ha4 (fun k hk => by have := (hge _ hk).1; omega)
      clear h4 h5 h7 h9 h10 hlw
      repeat' (first | (apply G_on; exact rfl; first | ((first | apply G1_assign | apply G1_move); exact rfl; exact rfl) | (apply G1_loadB; (first | exact T.p37 | exact T.p9 | exact T.p3 | exact T.p50); exact rfl; assumption; exact rfl; exact rfl) | (apply G1_loadBS; (first | exact T.p37 | exact T.p9 | exact T.p3 | exact T.p50); exact rfl; assumption; exact rfl; (first | assumption | (focus (simp [exempt]; omega))); exact rfl) | (apply G1_loadFld; (first | exact T.p37 | exact T.p9 | exact T.p3 | exact T.p50); exact rfl; assumption; assumption; exact rfl; exact rfl; exact rfl) | (apply G1_loadEl1; (first | exact T.p37 | exact T.p9 | exact T.p3 | exact T.p50); exact rfl; assumption; assumption; exact rfl; exact rfl; exact rfl) | (apply G1_indexAddrN; exact T.s37; exact rfl; exact rfl; (first | assumption | exact Sl.ok (by assumption) | exact (Own.sl (by assumption)).ok); omega; exact rfl) | (apply G1_indexAddr; exact T.s37; exact rfl; exact rfl; (first | assumption | exact Sl.ok (by assumption) | exact (Own.sl (by assumption)).ok); omega; omega; exact rfl) | ((first | apply G1_sneq | apply G1_gtr | apply G1_lss); exact rfl; exact rfl; exact rfl) | (apply G1_sub; exact rfl; exact rfl; omega; omega; exact rfl) | (apply G1_len; exact T.s50; exact rfl; exact rfl) | (apply G1_pick_t; exact rfl; exact rfl; exact rfl) | (apply G1_pick_f; exact rfl; exact rfl; exact rfl)) | apply G_nil | apply Post_next | apply W_seq | apply W_region | (apply W_cond_true; exact rfl) | (apply W_cond_false; exact rfl) | (apply W_cond_dec; exact rfl; all_goals (intro h; try (exfalso; omega))) | (apply W_cond; exact rfl; all_goals intro h) | (apply G_off; exact rfl; exact rfl) | ((fail_if_success (apply G_on; exact rfl)); apply G_split_dec; exact rfl; exact rfl; all_goals (intro h; try (exfalso; omega))) | ((fail_if_success (apply G_on; exact rfl)); apply G_split; exact rfl; exact rfl; all_goals intro h) | refine W_drawn 1 [] [0,1,2,3,4,5,6] mixed (by decide +kernel) ?_ | apply W_skip | apply W_exit | apply W_ret | apply W_block | apply Post_then_ret | apply Post_block_ret | apply Post_then_exit | apply Post_block_exit | (apply Post_block_other; exact rfl) | apply Post_block_normal)
      apply G_on; exact rfl; apply G1_storeB; exact T.z50; exact rfl; exact rfl; exact k9; exact rfl; exact rfl; (first | exact Nat.le_of_ble_eq_true rfl | (focus (simp [Value.cells]; done))); (first | exact Enc.one _ _ | (focus (simp [Value.oneCell']; done)) | (focus (simp [Value.cells, Value.oneCell']; done)) | exact Enc.oneAgg _ _); exact rfl; (first | exact .inl rfl | exact .inr (by simp [exempt])); exact rfl; intro w5 g9 hg5 hz5
      replace g9 : Blk w5.heap a9 50 [.slice p4 (out ++ [(i : Int)]).length c4] := g9
      have g4 := k4.grown hg5 (k9.neT k4 (by decide))
      have g5 := k5.grown hg5 (k9.neT k5 (by decide))
      have g7 := k7.grown hg5 (k9.neT k7 (by decide))
      have g10 := k10.grown hg5 (k9.neT k10 (by decide))
      have go := ha4.own.kept hg5 (fun a ha e => by injection e with e; have := (ha4.own.ge a.block (by rw [ha]; rfl)).1; omega)
      have gx : Ext w0 w5 := kx.own hg5 (fun k hk => by injection hk; omega)
      have gb : B ≤ w5.heap.size := by have := ha4.base; omega
      clear k4 k5 k7 k9 k10
      repeat' (first | (apply G_on; exact rfl; first | ((first | apply G1_assign | apply G1_move); exact rfl; exact rfl) | (apply G1_loadB; (first | exact T.p37 | exact T.p9 | exact T.p3 | exact T.p50); exact rfl; assumption; exact rfl; exact rfl) | (apply G1_loadBS; (first | exact T.p37 | exact T.p9 | exact T.p3 | exact T.p50); exact rfl; assumption; exact rfl; (first | assumption | (focus (simp [exempt]; omega))); exact rfl) | (apply G1_loadFld; (first | exact T.p37 | exact T.p9 | exact T.p3 | exact T.p50); exact rfl; assumption; assumption; exact rfl; exact rfl; exact rfl) | (apply G1_loadEl1; (first | exact T.p37 | exact T.p9 | exact T.p3 | exact T.p50); exact rfl; assumption; assumption; exact rfl; exact rfl; exact rfl) | (apply G1_indexAddrN; exact T.s37; exact rfl; exact rfl; (first | assumption | exact Sl.ok (by assumption) | exact (Own.sl (by assumption)).ok); omega; exact rfl) | (apply G1_indexAddr; exact T.s37; exact rfl; exact rfl; (first | assumption | exact Sl.ok (by assumption) | exact (Own.sl (by assumption)).ok); omega; omega; exact rfl) | ((first | apply G1_sneq | apply G1_gtr | apply G1_lss); exact rfl; exact rfl; exact rfl) | (apply G1_sub; exact rfl; exact rfl; omega; omega; exact rfl) | (apply G1_len; exact T.s50; exact rfl; exact rfl) | (apply G1_pick_t; exact rfl; exact rfl; exact rfl) | (apply G1_pick_f; exact rfl; exact rfl; exact rfl)) | apply G_nil | apply Post_next | apply W_seq | apply W_region | (apply W_cond_true; exact rfl) | (apply W_cond_false; exact rfl) | (apply W_cond_dec; exact rfl; all_goals (intro h; try (exfalso; omega))) | (apply W_cond; exact rfl; all_goals intro h) | (apply G_off; exact rfl; exact rfl) | ((fail_if_success (apply G_on; exact rfl)); apply G_split_dec; exact rfl; exact rfl; all_goals (intro h; try (exfalso; omega))) | ((fail_if_success (apply G_on; exact rfl)); apply G_split; exact rfl; exact rfl; all_goals intro h) | refine W_drawn 1 [] [0,1,2,3,4,5,6] mixed (by decide +kernel) ?_ | apply W_skip | apply W_exit | apply W_ret | apply W_block | apply Post_then_ret | apply Post_block_ret | apply Post_then_exit | apply Post_block_exit | (apply Post_block_other; exact rfl) | apply Post_block_normal)
      all_goals
        refine Post_ret Try.results68 ⟨_, _, rfl, rfl, rfl⟩ ?_
        exact ⟨by first | (simp [resVal, h]; done) | (simp [resVal]; omega), ⟨gx, gb, g4, g5, g7, g10, p4, c4, g9, go⟩⟩
  · have e : findStep x s i (skip, out) = (skip, out) := by unfold findStep; rw [if_neg hxs]
    rw [e]
    repeat' (first | (apply G_on; exact rfl; first | ((first | apply G1_assign | apply G1_move); exact rfl; exact rfl) | (apply G1_loadB; (first | exact T.p37 | exact T.p9 | exact T.p3 | exact T.p50); exact rfl; assumption; exact rfl; exact rfl) | (apply G1_loadBS; (first | exact T.p37 | exact T.p9 | exact T.p3 | exact T.p50); exact rfl; assumption; exact rfl; (first | assumption | (focus (simp [exempt]; omega))); exact rfl) | (apply G1_loadFld; (first | exact T.p37 | exact T.p9 | exact T.p3 | exact T.p50); exact rfl; assumption; assumption; exact rfl; exact rfl; exact rfl) | (apply G1_loadEl1; (first | exact T.p37 | exact T.p9 | exact T.p3 | exact T.p50); exact rfl; assumption; assumption; exact rfl; exact rfl; exact rfl) | (apply G1_indexAddrN; exact T.s37; exact rfl; exact rfl; (first | assumption | exact Sl.ok (by assumption) | exact (Own.sl (by assumption)).ok); omega; exact rfl) | (apply G1_indexAddr; exact T.s37; exact rfl; exact rfl; (first | assumption | exact Sl.ok (by assumption) | exact (Own.sl (by assumption)).ok); omega; omega; exact rfl) | ((first | apply G1_sneq | apply G1_gtr | apply G1_lss); exact rfl; exact rfl; exact rfl) | (apply G1_sub; exact rfl; exact rfl; omega; omega; exact rfl) | (apply G1_len; exact T.s50; exact rfl; exact rfl) | (apply G1_pick_t; exact rfl; exact rfl; exact rfl) | (apply G1_pick_f; exact rfl; exact rfl; exact rfl)) | apply G_nil | apply Post_next | apply W_seq | apply W_region | (apply W_cond_true; exact rfl) | (apply W_cond_false; exact rfl) | (apply W_cond_dec; exact rfl; all_goals (intro h; try (exfalso; omega))) | (apply W_cond; exact rfl; all_goals intro h) | (apply G_off; exact rfl; exact rfl) | ((fail_if_success (apply G_on; exact rfl)); apply G_split_dec; exact rfl; exact rfl; all_goals (intro h; try (exfalso; omega))) | ((fail_if_success (apply G_on; exact rfl)); apply G_split; exact rfl; exact rfl; all_goals intro h) | refine W_drawn 1 [] [0,1,2,3,4,5,6] mixed (by decide +kernel) ?_ | apply W_skip | apply W_exit | apply W_ret | apply W_block | apply Post_then_ret | apply Post_block_ret | apply Post_then_exit | apply Post_block_exit | (apply Post_block_other; exact rfl) | apply Post_block_normal)
    all_goals try contradiction
    all_goals
      have hd : Ext w w.drew := Ext.drew Ext.rfl'
      refine Post_ret Try.results68 ⟨_, _, rfl, rfl, rfl⟩ ?_
      exact ⟨by first | (simp [resVal, h]; done) | (simp [resVal]; omega), ⟨hx.trans hd, hB, h4.ext hd, h5.ext hd, h7.ext hd, h10.ext hd, po, co, h9.ext hd, ho.ext hd⟩⟩
end Go.Proofs.Ytkibkldikjkokaa
