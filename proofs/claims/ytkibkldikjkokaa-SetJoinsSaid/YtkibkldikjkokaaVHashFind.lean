/- Layer 10: find. -/
import Derived.Test.YtkibkldikjkokaaVTypes
import Derived.Test.YtkibkldikjkokaaVPlain
import Derived.Test.YtkibkldikjkokaaVVals
import Derived.Test.YtkibkldikjkokaaVSearch
namespace Go.Proofs.Ytkibkldikjkokaa
open Go.V
attribute [local irreducible] Blk Own hcell IntT SliceT PlainT AggT SizeT StrT FieldT ZeroT EqT ArrT

/-- the fields rise -/
def SortedP (ps : List (ByteArray × ByteArray)) : Prop := ∀ (i : Nat) a b, ps[i]? = some a → ps[i + 1]? = some b → blt a.1 b.1 = true
theorem SortedP.lt {ps : List (ByteArray × ByteArray)} (h : SortedP ps) {i : Nat} {a : ByteArray × ByteArray} (hi : ps[i]? = some a) : ∀ (d : Nat) b, ps[i + 1 + d]? = some b → blt a.1 b.1 = true
  | 0, b, hb => h i a b hi hb
  | d + 1, b, hb => by
    have hl := get_lt hb
    obtain ⟨c, hc⟩ := get_some (xs := ps) (k := i + 1 + d) (by omega)
    exact blt_trans (h.lt hi d c hc) (h _ c b hc hb)
/-- the place of a field: how many lie ahead of it -/
def IsPos (ps : List (ByteArray × ByteArray)) (s : ByteArray) (n : Nat) : Prop := n ≤ ps.length ∧ (∀ i x, i < n → ps[i]? = some x → blt x.1 s = true) ∧ ∀ i x, n ≤ i → ps[i]? = some x → blt x.1 s = false
theorem IsPos.unique {ps : List (ByteArray × ByteArray)} {s : ByteArray} {n m : Nat} (h : IsPos ps s n) (k : IsPos ps s m) : n = m := by
  have key : ∀ {n m : Nat}, IsPos ps s n → IsPos ps s m → ¬ n < m := by
    intro n m h k hlt
    have h1 := k.1
    obtain ⟨x, hx⟩ := get_some (xs := ps) (k := n) (by omega)
    have e1 := k.2.1 n x hlt hx
    have e2 := h.2.2 n x (Nat.le_refl _) hx
    rw [e1] at e2; cases e2
  have a1 := key h k
  have a2 := key k h
  omega

theorem find1_spec {p : Option Addr} {c : Nat} {ps : List (ByteArray × ByteArray)} {x : ByteArray × ByteArray} {s : ByteArray} {i : Int} {b1 b2 : Nat} {w : World} (h1 : Sl w.heap ePair p c ps) (hA1 : Blk w.heap b1 22 [.slice p ps.length c]) (hA2 : Blk w.heap b2 9 [.string s]) (h0 : 0 ≤ i) (hl : i < ps.length) (hx : ps[i.toNat]? = some x) :
    Ctr Try.prog 85 [.int .i64 i, .pointer (some (adr (bx b1) 0)), .pointer (some (adr (bx b2) 0))] w (fun v w' => v = .bool (!(blt x.1 s)) ∧ Ext w w') := by
  refine Ctr_of Try.func85 Try.ntmps85 rfl rfl rfl ?_
  repeat' (first | (apply G_on; exact rfl; first | ((first | apply G1_assign | apply G1_move); exact rfl; exact rfl) | (apply G1_loadB; (first | exact T.p22 | exact T.p9); exact rfl; assumption; exact rfl; exact rfl) | (apply G1_loadBS; (first | exact T.p22 | exact T.p9); exact rfl; assumption; exact rfl; (first | assumption | (focus (simp [exempt]; omega))); exact rfl) | (apply G1_loadFld; (first | exact T.p22 | exact T.p9); exact rfl; assumption; assumption; exact rfl; exact rfl; exact rfl) | (apply G1_loadEl1; (first | exact T.p22 | exact T.p9); exact rfl; assumption; assumption; exact rfl; exact rfl; exact rfl) | (apply G1_indexAddrN; exact T.s22; exact rfl; exact rfl; (first | assumption | exact Sl.ok (by assumption) | exact (Own.sl (by assumption)).ok); omega; exact rfl) | (apply G1_indexAddr; exact T.s22; exact rfl; exact rfl; (first | assumption | exact Sl.ok (by assumption) | exact (Own.sl (by assumption)).ok); omega; omega; exact rfl) | (apply G1_fieldAddr; exact T.f25_0; exact rfl; exact rfl) | (apply G1_sgeq; exact rfl; exact rfl; exact rfl)) | apply G_nil | apply Post_next | apply W_seq | apply W_region | (apply W_cond_true; exact rfl) | (apply W_cond_false; exact rfl) | (apply W_cond_dec; exact rfl; all_goals (intro h; try (exfalso; omega))) | (apply W_cond; exact rfl; all_goals intro h) | (apply G_off; exact rfl; exact rfl) | ((fail_if_success (apply G_on; exact rfl)); apply G_split_dec; exact rfl; exact rfl; all_goals (intro h; try (exfalso; omega))) | ((fail_if_success (apply G_on; exact rfl)); apply G_split; exact rfl; exact rfl; all_goals intro h) | refine W_drawn 1 [] [0,1,2,3,4,5,6,7] mixed (by decide +kernel) ?_ | apply W_skip | apply W_exit | apply W_ret | apply W_block | apply Post_then_ret | apply Post_block_ret | apply Post_then_exit | apply Post_block_exit | (apply Post_block_other; exact rfl) | apply Post_block_normal)
  refine Post_ret Try.results85 ⟨_, _, rfl, rfl, rfl⟩ ?_
  exact ⟨rfl, (by repeat first | assumption | exact Ext.rfl' | apply Ext.drew | apply Ext.alloc | refine Ext.trans ?_ (by assumption))⟩

theorem find_spec {p : Option Addr} {c : Nat} {ps : List (ByteArray × ByteArray)} {s : ByteArray} {w : World} (hC : Sl w.heap ePair p c ps) (hr : SortedP ps) (hl : ps.length ≤ 1000000) :
    Ctr Try.prog 63 [.slice p ps.length c, .string s] w (fun v w' => ∃ (n : Nat) (ok : Bool), v = .tuple #[.int .i64 n, .bool ok] ∧ IsPos ps s n ∧ (ok = true ↔ ∃ x, ps[n]? = some x ∧ x.1 = s) ∧ Ext w w') := by
  refine Ctr_of Try.func63 Try.ntmps63 rfl rfl rfl ?_
  repeat' (first | (apply G_on; exact rfl; first | ((first | apply G1_assign | apply G1_move | apply G1_makeFunc); exact rfl; exact rfl) | (apply G1_loadB; (first | exact T.p22 | exact T.p9); exact rfl; assumption; exact rfl; exact rfl) | (apply G1_loadBS; (first | exact T.p22 | exact T.p9); exact rfl; assumption; exact rfl; (first | assumption | (focus (simp [exempt]; omega))); exact rfl) | (apply G1_loadFld; (first | exact T.p22 | exact T.p9); exact rfl; assumption; assumption; exact rfl; exact rfl; exact rfl) | (apply G1_loadEl1; (first | exact T.p22 | exact T.p9); exact rfl; assumption; assumption; exact rfl; exact rfl; exact rfl) | (apply G1_len; exact T.s22; exact rfl; exact rfl) | ((first | apply G1_lss | apply G1_seql); exact rfl; exact rfl; exact rfl) | (apply G1_indexAddrN; exact T.s22; exact rfl; exact rfl; (first | assumption | exact Sl.ok (by assumption) | exact (Own.sl (by assumption)).ok); omega; exact rfl) | (apply G1_indexAddr; exact T.s22; exact rfl; exact rfl; (first | assumption | exact Sl.ok (by assumption) | exact (Own.sl (by assumption)).ok); omega; omega; exact rfl) | (apply G1_fieldAddr; exact T.f25_0; exact rfl; exact rfl) | (apply G1_pick_t; exact rfl; exact rfl; exact rfl) | (apply G1_pick_f; exact rfl; exact rfl; exact rfl)) | apply G_nil | apply Post_next | apply W_seq | apply W_region | (apply W_cond_true; exact rfl) | (apply W_cond_false; exact rfl) | (apply W_cond_dec; exact rfl; all_goals (intro h; try (exfalso; omega))) | (apply W_cond; exact rfl; all_goals intro h) | (apply G_off; exact rfl; exact rfl) | ((fail_if_success (apply G_on; exact rfl)); apply G_split_dec; exact rfl; exact rfl; all_goals (intro h; try (exfalso; omega))) | ((fail_if_success (apply G_on; exact rfl)); apply G_split; exact rfl; exact rfl; all_goals intro h) | refine W_drawn 1 [] [0,1,2,3,4,5,6,7,8,9,10,11,12,13,14,15] mixed (by decide +kernel) ?_ | apply W_skip | apply W_exit | apply W_ret | apply W_block | apply Post_then_ret | apply Post_block_ret | apply Post_then_exit | apply Post_block_exit | (apply Post_block_other; exact rfl) | apply Post_block_normal)
  apply G_on; exact rfl; apply G1_box; exact rfl; exact rfl; exact rfl; intro a1 w1 ha1 hA1 hx1 hs1
  replace hA1 : Blk w1.heap a1 22 [.slice p ps.length c] := hA1
  repeat' (first | (apply G_on; exact rfl; first | ((first | apply G1_assign | apply G1_move | apply G1_makeFunc); exact rfl; exact rfl) | (apply G1_loadB; (first | exact T.p22 | exact T.p9); exact rfl; assumption; exact rfl; exact rfl) | (apply G1_loadBS; (first | exact T.p22 | exact T.p9); exact rfl; assumption; exact rfl; (first | assumption | (focus (simp [exempt]; omega))); exact rfl) | (apply G1_loadFld; (first | exact T.p22 | exact T.p9); exact rfl; assumption; assumption; exact rfl; exact rfl; exact rfl) | (apply G1_loadEl1; (first | exact T.p22 | exact T.p9); exact rfl; assumption; assumption; exact rfl; exact rfl; exact rfl) | (apply G1_len; exact T.s22; exact rfl; exact rfl) | ((first | apply G1_lss | apply G1_seql); exact rfl; exact rfl; exact rfl) | (apply G1_indexAddrN; exact T.s22; exact rfl; exact rfl; (first | assumption | exact Sl.ok (by assumption) | exact (Own.sl (by assumption)).ok); omega; exact rfl) | (apply G1_indexAddr; exact T.s22; exact rfl; exact rfl; (first | assumption | exact Sl.ok (by assumption) | exact (Own.sl (by assumption)).ok); omega; omega; exact rfl) | (apply G1_fieldAddr; exact T.f25_0; exact rfl; exact rfl) | (apply G1_pick_t; exact rfl; exact rfl; exact rfl) | (apply G1_pick_f; exact rfl; exact rfl; exact rfl)) | apply G_nil | apply Post_next | apply W_seq | apply W_region | (apply W_cond_true; exact rfl) | (apply W_cond_false; exact rfl) | (apply W_cond_dec; exact rfl; all_goals (intro h; try (exfalso; omega))) | (apply W_cond; exact rfl; all_goals intro h) | (apply G_off; exact rfl; exact rfl) | ((fail_if_success (apply G_on; exact rfl)); apply G_split_dec; exact rfl; exact rfl; all_goals (intro h; try (exfalso; omega))) | ((fail_if_success (apply G_on; exact rfl)); apply G_split; exact rfl; exact rfl; all_goals intro h) | refine W_drawn 1 [] [0,1,2,3,4,5,6,7,8,9,10,11,12,13,14,15] mixed (by decide +kernel) ?_ | apply W_skip | apply W_exit | apply W_ret | apply W_block | apply Post_then_ret | apply Post_block_ret | apply Post_then_exit | apply Post_block_exit | (apply Post_block_other; exact rfl) | apply Post_block_normal)
  apply G_on; exact rfl; apply G1_box; exact rfl; exact rfl; exact rfl; intro a2 w2 ha2 hA2 hx2 hs2
  replace hA2 : Blk w2.heap a2 9 [.string s] := hA2
  replace hA1 := hA1.ext hx2
  have hx := hx1.trans hx2
  have h2 := hC.ext hx
  repeat' (first | (apply G_on; exact rfl; first | ((first | apply G1_assign | apply G1_move | apply G1_makeFunc); exact rfl; exact rfl) | (apply G1_loadB; (first | exact T.p22 | exact T.p9); exact rfl; assumption; exact rfl; exact rfl) | (apply G1_loadBS; (first | exact T.p22 | exact T.p9); exact rfl; assumption; exact rfl; (first | assumption | (focus (simp [exempt]; omega))); exact rfl) | (apply G1_loadFld; (first | exact T.p22 | exact T.p9); exact rfl; assumption; assumption; exact rfl; exact rfl; exact rfl) | (apply G1_loadEl1; (first | exact T.p22 | exact T.p9); exact rfl; assumption; assumption; exact rfl; exact rfl; exact rfl) | (apply G1_len; exact T.s22; exact rfl; exact rfl) | ((first | apply G1_lss | apply G1_seql); exact rfl; exact rfl; exact rfl) | (apply G1_indexAddrN; exact T.s22; exact rfl; exact rfl; (first | assumption | exact Sl.ok (by assumption) | exact (Own.sl (by assumption)).ok); omega; exact rfl) | (apply G1_indexAddr; exact T.s22; exact rfl; exact rfl; (first | assumption | exact Sl.ok (by assumption) | exact (Own.sl (by assumption)).ok); omega; omega; exact rfl) | (apply G1_fieldAddr; exact T.f25_0; exact rfl; exact rfl) | (apply G1_pick_t; exact rfl; exact rfl; exact rfl) | (apply G1_pick_f; exact rfl; exact rfl; exact rfl)) | apply G_nil | apply Post_next | apply W_seq | apply W_region | (apply W_cond_true; exact rfl) | (apply W_cond_false; exact rfl) | (apply W_cond_dec; exact rfl; all_goals (intro h; try (exfalso; omega))) | (apply W_cond; exact rfl; all_goals intro h) | (apply G_off; exact rfl; exact rfl) | ((fail_if_success (apply G_on; exact rfl)); apply G_split_dec; exact rfl; exact rfl; all_goals (intro h; try (exfalso; omega))) | ((fail_if_success (apply G_on; exact rfl)); apply G_split; exact rfl; exact rfl; all_goals intro h) | refine W_drawn 1 [] [0,1,2,3,4,5,6,7,8,9,10,11,12,13,14,15] mixed (by decide +kernel) ?_ | apply W_skip | apply W_exit | apply W_ret | apply W_block | apply Post_then_ret | apply Post_block_ret | apply Post_then_exit | apply Post_block_exit | (apply Post_block_other; exact rfl) | apply Post_block_normal)
  apply G_on; exact rfl; apply G1_call; exact rfl; exact rfl; exact rfl; exact search_spec (pr := fun i => decide (∃ x, ps[i.toNat]? = some x ∧ blt x.1 s = false)) (n := (ps.length : Int)) (fc := 85) (by omega) (by omega) (fun i w3 h0 hi hx3 => by
      obtain ⟨x, hxi⟩ := get_some (xs := ps) (k := i.toNat) (by omega)
      refine (find1_spec (h2.ext hx3) (hA1.ext hx3) (hA2.ext hx3) h0 hi hxi).mono fun v w' ⟨hv, hx4⟩ => ⟨?_, hx4⟩
      rw [hv]
      congr 1
      rw [Bool.eq_iff_iff]
      simp only [Bool.not_eq_true', decide_eq_true_eq]
      exact ⟨fun e => ⟨x, hxi, e⟩, fun ⟨y, hy, e⟩ => by rw [hxi] at hy; injection hy with hy; rw [hy]; exact e⟩); rintro _ w3 ⟨n, rfl, hn0, hn1, hn2, hn3, hx3⟩; refine ⟨(by first | exact .inl rfl | exact .inr (by assumption)), ?_⟩
  replace hA1 := hA1.ext hx3
  replace hA2 := hA2.ext hx3
  have hx03 := hx.trans hx3
  have hs3 := hC.ext hx03
  obtain ⟨m, rfl⟩ := Int.eq_ofNat_of_zero_le hn0
  have hpos : IsPos ps s m := by
    refine ⟨by omega, fun i v hi hv => ?_, fun i v hi hv => ?_⟩
    · have hlt := get_lt hv
      rcases hn3 with e | e
      · omega
      · obtain ⟨r1, hr1⟩ := get_some (xs := ps) (k := m - 1) (by omega)
        have e' := of_decide_eq_false e
        have hm : ((m : Int) - 1).toNat = m - 1 := by omega
        rw [hm] at e'
        have hs1' : blt r1.1 s = true := by
          cases hb : blt r1.1 s with
          | true => rfl
          | false => exact absurd ⟨r1, hr1, hb⟩ e'
        rcases Nat.lt_or_ge i (m - 1) with h3 | h3
        · exact blt_trans (hr.lt hv (m - 1 - (i + 1)) r1 (by rw [← hr1]; congr 1; omega)) hs1'
        · have : i = m - 1 := by omega
          subst this
          rw [hv] at hr1; injection hr1 with hr1; subst hr1; exact hs1'
    · have hlt := get_lt hv
      rcases hn2 with e | e
      · omega
      · obtain ⟨r1, hr1, hs1'⟩ := of_decide_eq_true e
        rw [Int.toNat_natCast] at hr1
        rcases Nat.lt_or_ge m i with h3 | h3
        · have hlt2 := hr.lt hr1 (i - (m + 1)) v (by rw [← hv]; congr 1; omega)
          cases hb : blt v.1 s with
          | false => rfl
          | true => have := blt_trans hlt2 hb; rw [hs1'] at this; cases this
        · have : i = m := by omega
          subst this
          rw [hv] at hr1; injection hr1 with hr1; subst hr1; exact hs1'
  by_cases hm : m < ps.length
  · obtain ⟨x, hxm⟩ := get_some hm
    repeat' (first | (apply G_on; exact rfl; first | ((first | apply G1_assign | apply G1_move | apply G1_makeFunc); exact rfl; exact rfl) | (apply G1_loadB; (first | exact T.p22 | exact T.p9); exact rfl; assumption; exact rfl; exact rfl) | (apply G1_loadBS; (first | exact T.p22 | exact T.p9); exact rfl; assumption; exact rfl; (first | assumption | (focus (simp [exempt]; omega))); exact rfl) | (apply G1_loadFld; (first | exact T.p22 | exact T.p9); exact rfl; assumption; assumption; exact rfl; exact rfl; exact rfl) | (apply G1_loadEl1; (first | exact T.p22 | exact T.p9); exact rfl; assumption; assumption; exact rfl; exact rfl; exact rfl) | (apply G1_len; exact T.s22; exact rfl; exact rfl) | ((first | apply G1_lss | apply G1_seql); exact rfl; exact rfl; exact rfl) | (apply G1_indexAddrN; exact T.s22; exact rfl; exact rfl; (first | assumption | exact Sl.ok (by assumption) | exact (Own.sl (by assumption)).ok); omega; exact rfl) | (apply G1_indexAddr; exact T.s22; exact rfl; exact rfl; (first | assumption | exact Sl.ok (by assumption) | exact (Own.sl (by assumption)).ok); omega; omega; exact rfl) | (apply G1_fieldAddr; exact T.f25_0; exact rfl; exact rfl) | (apply G1_pick_t; exact rfl; exact rfl; exact rfl) | (apply G1_pick_f; exact rfl; exact rfl; exact rfl)) | apply G_nil | apply Post_next | apply W_seq | apply W_region | (apply W_cond_true; exact rfl) | (apply W_cond_false; exact rfl) | (apply W_cond_dec; exact rfl; all_goals (intro h; try (exfalso; omega))) | (apply W_cond; exact rfl; all_goals intro h) | (apply G_off; exact rfl; exact rfl) | ((fail_if_success (apply G_on; exact rfl)); apply G_split_dec; exact rfl; exact rfl; all_goals (intro h; try (exfalso; omega))) | ((fail_if_success (apply G_on; exact rfl)); apply G_split; exact rfl; exact rfl; all_goals intro h) | refine W_drawn 1 [] [0,1,2,3,4,5,6,7,8,9,10,11,12,13,14,15] mixed (by decide +kernel) ?_ | apply W_skip | apply W_exit | apply W_ret | apply W_block | apply Post_then_ret | apply Post_block_ret | apply Post_then_exit | apply Post_block_exit | (apply Post_block_other; exact rfl) | apply Post_block_normal)
    all_goals
      refine Post_ret Try.results63 ⟨_, _, rfl, rfl, _, _, rfl, rfl, rfl⟩ ?_
      refine ⟨m, _, rfl, hpos, ⟨fun e => ⟨x, hxm, of_decide_eq_true e⟩, fun ⟨y, hy, e⟩ => decide_eq_true (by rw [hxm] at hy; injection hy with hy; rw [hy]; exact e)⟩, (by repeat first | assumption | exact Ext.rfl' | apply Ext.drew | apply Ext.alloc | refine Ext.trans ?_ (by assumption))⟩
  · repeat' (first | (apply G_on; exact rfl; first | ((first | apply G1_assign | apply G1_move | apply G1_makeFunc); exact rfl; exact rfl) | (apply G1_loadB; (first | exact T.p22 | exact T.p9); exact rfl; assumption; exact rfl; exact rfl) | (apply G1_loadBS; (first | exact T.p22 | exact T.p9); exact rfl; assumption; exact rfl; (first | assumption | (focus (simp [exempt]; omega))); exact rfl) | (apply G1_loadFld; (first | exact T.p22 | exact T.p9); exact rfl; assumption; assumption; exact rfl; exact rfl; exact rfl) | (apply G1_loadEl1; (first | exact T.p22 | exact T.p9); exact rfl; assumption; assumption; exact rfl; exact rfl; exact rfl) | (apply G1_len; exact T.s22; exact rfl; exact rfl) | ((first | apply G1_lss | apply G1_seql); exact rfl; exact rfl; exact rfl) | (apply G1_indexAddrN; exact T.s22; exact rfl; exact rfl; (first | assumption | exact Sl.ok (by assumption) | exact (Own.sl (by assumption)).ok); omega; exact rfl) | (apply G1_indexAddr; exact T.s22; exact rfl; exact rfl; (first | assumption | exact Sl.ok (by assumption) | exact (Own.sl (by assumption)).ok); omega; omega; exact rfl) | (apply G1_fieldAddr; exact T.f25_0; exact rfl; exact rfl) | (apply G1_pick_t; exact rfl; exact rfl; exact rfl) | (apply G1_pick_f; exact rfl; exact rfl; exact rfl)) | apply G_nil | apply Post_next | apply W_seq | apply W_region | (apply W_cond_true; exact rfl) | (apply W_cond_false; exact rfl) | (apply W_cond_dec; exact rfl; all_goals (intro h; try (exfalso; omega))) | (apply W_cond; exact rfl; all_goals intro h) | (apply G_off; exact rfl; exact rfl) | ((fail_if_success (apply G_on; exact rfl)); apply G_split_dec; exact rfl; exact rfl; all_goals (intro h; try (exfalso; omega))) | ((fail_if_success (apply G_on; exact rfl)); apply G_split; exact rfl; exact rfl; all_goals intro h) | refine W_drawn 1 [] [0,1,2,3,4,5,6,7,8,9,10,11,12,13,14,15] mixed (by decide +kernel) ?_ | apply W_skip | apply W_exit | apply W_ret | apply W_block | apply Post_then_ret | apply Post_block_ret | apply Post_then_exit | apply Post_block_exit | (apply Post_block_other; exact rfl) | apply Post_block_normal)
    all_goals
      refine Post_ret Try.results63 ⟨_, _, rfl, rfl, _, _, rfl, rfl, rfl⟩ ?_
      exact ⟨m, false, rfl, hpos, ⟨(fun e => by cases e), fun ⟨y, hy, _⟩ => by have := get_lt hy; omega⟩, (by repeat first | assumption | exact Ext.rfl' | apply Ext.drew | apply Ext.alloc | refine Ext.trans ?_ (by assumption))⟩
end Go.Proofs.Ytkibkldikjkokaa
