/- Encodings: none is the beginning of another one. Pack. -/
import Derived.Test.YtomgghelhalaeaaVPackVal
namespace Go.Proofs.Ytomgghelhalaeaa
open Go.V
attribute [local irreducible] Blk Own hcell IntT SliceT PlainT AggT SizeT StrT FieldT ZeroT EqT ArrT

theorem octet_nat {n : Int} {i : Nat} : ((octet n i).toNat : Int) = n / 2 ^ (8 * i) % 256 := by
  unfold octet
  have h1 : 0 ≤ n / 2 ^ (8 * i) % 256 := Int.emod_nonneg _ (by omega)
  have h2 : n / 2 ^ (8 * i) % 256 < 256 := Int.emod_lt_of_pos _ (by omega)
  generalize n / 2 ^ (8 * i) % 256 = q at *
  have : (UInt8.ofNat q.toNat).toNat = q.toNat := by simp; omega
  rw [this]; omega

theorem octet_inj {n m : Int} {i : Nat} (h : octet n i = octet m i) : n / 2 ^ (8 * i) % 256 = m / 2 ^ (8 * i) % 256 := by
  rw [← octet_nat, ← octet_nat, h]

theorem octets2_inj {n m : Int} (h : octets n 2 = octets m 2) (h1 : 0 ≤ n ∧ n < 65536) (h2 : 0 ≤ m ∧ m < 65536) : n = m := by
  simp only [octets, List.cons.injEq, and_true] at h
  have a := octet_inj h.1
  have b := octet_inj h.2
  simp only [Nat.mul_one, Nat.mul_zero, Int.pow_zero, Int.ediv_one] at a b
  have e : (2 : Int) ^ 8 = 256 := by decide
  rw [e] at a
  omega

theorem octets8_inj {n m : Int} (h : octets n 8 = octets m 8) (h1 : -9223372036854775808 ≤ n ∧ n ≤ 9223372036854775807) (h2 : -9223372036854775808 ≤ m ∧ m ≤ 9223372036854775807) : n = m := by
  simp only [octets, List.cons.injEq, and_true] at h
  obtain ⟨a7, a6, a5, a4, a3, a2, a1, a0⟩ := h
  replace a7 := octet_inj a7
  replace a6 := octet_inj a6
  replace a5 := octet_inj a5
  replace a4 := octet_inj a4
  replace a3 := octet_inj a3
  replace a2 := octet_inj a2
  replace a1 := octet_inj a1
  replace a0 := octet_inj a0
  have e0 : (2 : Int) ^ (8 * 0) = 1 := by decide
  have e1 : (2 : Int) ^ (8 * 1) = 256 := by decide
  have e2 : (2 : Int) ^ (8 * 2) = 65536 := by decide
  have e3 : (2 : Int) ^ (8 * 3) = 16777216 := by decide
  have e4 : (2 : Int) ^ (8 * 4) = 4294967296 := by decide
  have e5 : (2 : Int) ^ (8 * 5) = 1099511627776 := by decide
  have e6 : (2 : Int) ^ (8 * 6) = 281474976710656 := by decide
  have e7 : (2 : Int) ^ (8 * 7) = 72057594037927936 := by decide
  rw [e0] at a0
  rw [e1] at a1
  rw [e2] at a2
  rw [e3] at a3
  rw [e4] at a4
  rw [e5] at a5
  rw [e6] at a6
  rw [e7] at a7
  omega

/-- f's values can be told where they end -/
def PF {α : Type} (ok : α → Prop) (f : α → List UInt8) : Prop := ∀ a b x y, ok a → ok b → f a ++ x = f b ++ y → a = b ∧ x = y

theorem app_len {α : Type} {a b x y : List α} (h : a ++ x = b ++ y) (hl : a.length = b.length) : a = b ∧ x = y := List.append_inj h hl

theorem pf_encT : PF (fun s => s.size < 65536) encT := by
  intro a b x y ha hb h
  unfold encT at h
  rw [List.append_assoc, List.append_assoc] at h
  obtain ⟨h1, h2⟩ := app_len h (by rw [octets_len, octets_len])
  have h3 := octets2_inj h1 ⟨by omega, by omega⟩ ⟨by omega, by omega⟩
  have h4 : a.size = b.size := by omega
  obtain ⟨h5, h6⟩ := app_len h2 (by rw [← size_list, ← size_list]; exact h4)
  exact ⟨by cases a; cases b; simp_all, h6⟩
theorem pf_encP : PF (fun x => x.1.size < 65536 ∧ x.2.size < 65536) encP := by
  intro a b x y ha hb h
  unfold encP at h
  rw [List.append_assoc, List.append_assoc] at h
  obtain ⟨h1, h2⟩ := pf_encT _ _ _ _ ha.1 hb.1 h
  obtain ⟨h3, h4⟩ := pf_encT _ _ _ _ ha.2 hb.2 h2
  exact ⟨Prod.ext h1 h3, h4⟩
theorem pf_encZ : PF (fun x => (-9223372036854775808 ≤ x.1 ∧ x.1 ≤ 9223372036854775807) ∧ x.2.size < 65536) encZ := by
  intro a b x y ha hb h
  unfold encZ at h
  rw [List.append_assoc, List.append_assoc] at h
  obtain ⟨h1, h2⟩ := app_len h (by rw [octets_len, octets_len])
  have h3 := octets8_inj h1 ha.1 hb.1
  obtain ⟨h4, h5⟩ := pf_encT _ _ _ _ ha.2 hb.2 h2
  exact ⟨Prod.ext h3 h4, h5⟩
theorem PF.flat {α : Type} {ok : α → Prop} {f : α → List UInt8} (h : PF ok f) : ∀ (xs ys : List α) (x y : List UInt8), xs.length = ys.length → (∀ a ∈ xs, ok a) → (∀ a ∈ ys, ok a) → xs.flatMap f ++ x = ys.flatMap f ++ y → xs = ys ∧ x = y
  | [], [], x, y, _, _, _, e => ⟨rfl, by simpa using e⟩
  | [], _ :: _, _, _, hl, _, _, _ => by simp at hl
  | _ :: _, [], _, _, hl, _, _, _ => by simp at hl
  | a :: xs, b :: ys, x, y, hl, h1, h2, e => by
    rw [List.flatMap_cons, List.flatMap_cons, List.append_assoc, List.append_assoc] at e
    obtain ⟨e1, e2⟩ := h a b _ _ (h1 a (by simp)) (h2 b (by simp)) e
    obtain ⟨e3, e4⟩ := h.flat xs ys x y (by simpa using hl) (fun c hc => h1 c (by simp [hc])) (fun c hc => h2 c (by simp [hc])) e2
    exact ⟨by rw [e1, e3], e4⟩

structure Bits (v : Val) : Prop where
  text : v.text.size < 65536
  ps : ∀ x ∈ v.ps, x.1.size < 65536 ∧ x.2.size < 65536
  ts : ∀ x ∈ v.ts, x.size < 65536
  zs : ∀ x ∈ v.zs, (-9223372036854775808 ≤ x.1 ∧ x.1 ≤ 9223372036854775807) ∧ x.2.size < 65536
  lens : v.ps.length ≤ 600 ∧ v.ts.length ≤ 600 ∧ v.zs.length ≤ 600

theorem right_bits {v : Val} (h : RightV v) (hf : Fits v) : Bits v := by
  have hk := h.kind
  refine ⟨?_, fun x hx => ?_, fun x hx => ?_, fun x hx => ?_, ?_, ?_, ?_⟩
  · by_cases h1 : v.kind = 1
    · have := h.str h1; omega
    · rw [h.text h1]; decide
  · by_cases h2 : v.kind = 2
    · obtain ⟨i, hi⟩ := List.getElem?_of_mem hx
      have := (h.hash h2).2.2 i (get_lt hi) x hi
      omega
    · rw [h.ps h2] at hx; simp at hx
  · obtain ⟨i, hi⟩ := List.getElem?_of_mem hx
    by_cases h3 : v.kind = 3
    · have := (h.list h3).2.2 i (get_lt hi) x hi
      omega
    · by_cases h4 : v.kind = 4
      · have := ((h.set h4).2.2 i (get_lt hi) x hi).1
        omega
      · rw [h.ts h3 h4] at hx; simp at hx
  · by_cases h5 : v.kind = 5
    · obtain ⟨i, hi⟩ := List.getElem?_of_mem hx
      have := ((h.zset h5).2.2 i (get_lt hi) x hi).1
      exact ⟨(hf.zs x hx).1, by omega⟩
    · rw [h.zs h5] at hx; simp at hx
  · by_cases h2 : v.kind = 2
    · have := (h.hash h2).2.1; omega
    · rw [h.ps h2]; simp
  · by_cases h3 : v.kind = 3
    · have := (h.list h3).2.1; omega
    · by_cases h4 : v.kind = 4
      · have := (h.set h4).2.1; omega
      · rw [h.ts h3 h4]; simp
  · by_cases h5 : v.kind = 5
    · have := (h.zset h5).2.1; omega
    · rw [h.zs h5]; simp

theorem encV_pf {a b : Val} {x y : List UInt8} (ha : RightV a) (hb : RightV b) (fa : Fits a) (fb : Fits b) (h : encV a ++ x = encV b ++ y) : a = b ∧ x = y := by
  have ka := ha.kind
  have kb := hb.kind
  have ba := right_bits ha fa
  have bb := right_bits hb fb
  have la := ha.lens
  have lb := hb.lens
  unfold encV at h
  rw [List.cons_append, List.cons_append] at h
  injection h with h0 h
  have hk := octet_inj h0
  simp only [Nat.mul_zero, Int.pow_zero, Int.ediv_one] at hk
  have hkk : a.kind = b.kind := by omega
  by_cases h1 : a.kind = 1
  · have h1' : b.kind = 1 := by omega
    rw [if_pos h1, if_pos h1'] at h
    obtain ⟨e1, e2⟩ := pf_encT _ _ _ _ ba.text bb.text h
    refine ⟨?_, e2⟩
    have q1 := ha.ps (by omega); have q2 := hb.ps (by omega)
    have q3 := ha.ts (by omega) (by omega); have q4 := hb.ts (by omega) (by omega)
    have q5 := ha.zs (by omega); have q6 := hb.zs (by omega)
    cases a; cases b; simp_all
  · have h1' : ¬ b.kind = 1 := by omega
    rw [if_neg h1, if_neg h1'] at h
    simp only [List.append_assoc] at h
    obtain ⟨e1, e2⟩ := app_len h (by rw [octets_len, octets_len])
    have l1 := ba.lens
    have l2 := bb.lens
    have e3 := octets2_inj e1 (by unfold sizeV; rw [if_neg h1]; omega) (by unfold sizeV; rw [if_neg h1']; omega)
    unfold sizeV at e3
    rw [if_neg h1, if_neg h1'] at e3
    obtain ⟨e4, e5⟩ := pf_encP.flat _ _ _ _ (by omega) ba.ps bb.ps e2
    obtain ⟨e6, e7⟩ := pf_encT.flat _ _ _ _ (by omega) ba.ts bb.ts e5
    obtain ⟨e8, e9⟩ := pf_encZ.flat _ _ _ _ (by omega) ba.zs bb.zs e7
    refine ⟨?_, e9⟩
    have q1 := ha.text h1; have q2 := hb.text h1'
    cases a; cases b; simp_all

open Classical in
/-- what Pack writes of v -/
noncomputable def packOf (v : Val) : List UInt8 := if RightV v then encV v else []
theorem packOf_right {v : Val} (h : RightV v) : packOf v = encV v := by unfold packOf; rw [if_pos h]
theorem packOf_not {v : Val} (h : ¬ RightV v) : packOf v = [] := by unfold packOf; rw [if_neg h]
theorem encV_le {v : Val} (h : smallVal v) : (encV v).length ≤ 500000 := by
  obtain ⟨t1, t2, t3⟩ := lens_of h
  have a1 := t1 v.ps.length
  have a2 := t2 v.ts.length
  have a3 := t3 v.zs.length
  rw [List.take_length] at a1 a2 a3
  have := h.lens.1
  unfold encV
  split
  · rw [List.length_cons, encT_len]; omega
  · simp only [List.length_cons, List.length_append, octets_len]; omega
theorem packOf_le {v : Val} (h : smallVal v) : (packOf v).length ≤ 500000 := by
  unfold packOf; split
  · exact encV_le h
  · simp

theorem pack_spec {p : Option Addr} {c : Nat} {rs : List RawV} {vs : List Val} {w : World} (hS : Sl w.heap eRaw p c rs) (hlen : rs.length = vs.length) (hget : ∀ (i : Nat) r v, rs[i]? = some r → vs[i]? = some v → Rv w.heap r v) (hf : ∀ v ∈ vs, Fits v ∧ smallVal v) (hn : vs.length ≤ 10) :
    Ctr Try.prog 19 [.slice p rs.length c] w (fun x w' => ∃ p' c', x = .slice p' (vs.flatMap packOf).length c' ∧ Own w' w.heap.size 5 eByte p' c' (vs.flatMap packOf) ∧ Ext w w') := by
  refine Ctr_of Try.func19 Try.ntmps19 rfl rfl rfl ?_
  repeat' (first | (apply G_on; exact rfl; first | ((first | apply G1_assign | apply G1_move); exact rfl; exact rfl) | (apply G1_len; exact T.s56; exact rfl; exact rfl) | (apply G1_lss; exact rfl; exact rfl; exact rfl) | (apply G1_indexAddrN; exact T.s56; exact rfl; exact rfl; (first | assumption | exact Sl.ok (by assumption) | exact (Own.sl (by assumption)).ok); omega; exact rfl) | (apply G1_indexAddr; exact T.s56; exact rfl; exact rfl; (first | assumption | exact Sl.ok (by assumption) | exact (Own.sl (by assumption)).ok); omega; omega; exact rfl) | (apply G1_loadBAgg; exact T.a30; exact rfl; assumption; exact rfl; exact rfl) | (apply G1_loadEl; exact T.a30; exact rfl; assumption; assumption; exact rfl; exact rfl) | (apply G1_loadElSub; exact T.a30; exact rfl; assumption; assumption; exact rfl; exact rfl; exact rfl; exact rfl) | (apply G1_loadBSub; exact T.a30; exact rfl; assumption; exact rfl; exact rfl; exact rfl) | (apply G1_add; exact rfl; exact rfl; omega; omega; exact rfl)) | apply G_nil | apply Post_next | apply W_seq | apply W_region | (apply W_cond_true; exact rfl) | (apply W_cond_false; exact rfl) | (apply W_cond_dec; exact rfl; all_goals (intro h; try (exfalso; omega))) | (apply W_cond; exact rfl; all_goals intro h) | (apply G_off; exact rfl; exact rfl) | ((fail_if_success (apply G_on; exact rfl)); apply G_split_dec; exact rfl; exact rfl; all_goals (intro h; try (exfalso; omega))) | ((fail_if_success (apply G_on; exact rfl)); apply G_split; exact rfl; exact rfl; all_goals intro h) | apply W_skip | apply W_exit | apply W_ret | apply W_block | apply Post_then_ret | apply Post_block_ret | apply Post_then_exit | apply Post_block_exit | (apply Post_block_other; exact rfl) | apply Post_block_normal)
  refine W_loop (ι := Nat × Option Addr × Nat) (fun x => [(3, .slice x.2.1 ((vs.take x.1).flatMap packOf).length x.2.2), (6, .slice p rs.length c), (7, .int .i64 (rs.length : Int)), (8, .int .i64 (x.1 : Int))])
    (fun x w' => Ext w w' ∧ x.1 ≤ rs.length ∧ Own w' w.heap.size 5 eByte x.2.1 x.2.2 ((vs.take x.1).flatMap packOf)) (fun x => rs.length - x.1) (0, none, 0) ⟨by simp; rfl, rfl, rfl, rfl, trivial⟩ ⟨Ext.rfl', Nat.zero_le _, by simp; exact Own.nil _ _ _ _⟩ ?_
  rintro ⟨j, q, d⟩ w1 ⟨hx1, hj, ho1⟩
  simp only at hj ho1
  by_cases hlt : j < rs.length
  · obtain ⟨r, hr⟩ := get_some hlt
    obtain ⟨v, hv⟩ := get_some (xs := vs) (k := j) (by omega)
    obtain ⟨fv, sv⟩ := hf v (List.mem_of_getElem? hv)
    have lv := sv.lens
    have hs1 := hS.ext hx1
    have z1 := hx1.size
    have hjl : ((vs.take j).flatMap packOf).length ≤ 5000000 := by
      have h1 := flat_le (f := packOf) (M := 500000) (xs := vs.take j) (fun u hu => packOf_le (hf u (List.mem_of_mem_take hu)).2)
      have h2 : (vs.take j).length ≤ 10 := by simp; omega
      have := Nat.mul_le_mul_right 500000 h2
      omega
    repeat' (first | (apply G_on; exact rfl; first | ((first | apply G1_assign | apply G1_move); exact rfl; exact rfl) | (apply G1_len; exact T.s56; exact rfl; exact rfl) | (apply G1_lss; exact rfl; exact rfl; exact rfl) | (apply G1_indexAddrN; exact T.s56; exact rfl; exact rfl; (first | assumption | exact Sl.ok (by assumption) | exact (Own.sl (by assumption)).ok); omega; exact rfl) | (apply G1_indexAddr; exact T.s56; exact rfl; exact rfl; (first | assumption | exact Sl.ok (by assumption) | exact (Own.sl (by assumption)).ok); omega; omega; exact rfl) | (apply G1_loadBAgg; exact T.a30; exact rfl; assumption; exact rfl; exact rfl) | (apply G1_loadEl; exact T.a30; exact rfl; assumption; assumption; exact rfl; exact rfl) | (apply G1_loadElSub; exact T.a30; exact rfl; assumption; assumption; exact rfl; exact rfl; exact rfl; exact rfl) | (apply G1_loadBSub; exact T.a30; exact rfl; assumption; exact rfl; exact rfl; exact rfl) | (apply G1_add; exact rfl; exact rfl; omega; omega; exact rfl)) | apply G_nil | apply Post_next | apply W_seq | apply W_region | (apply W_cond_true; exact rfl) | (apply W_cond_false; exact rfl) | (apply W_cond_dec; exact rfl; all_goals (intro h; try (exfalso; omega))) | (apply W_cond; exact rfl; all_goals intro h) | (apply G_off; exact rfl; exact rfl) | ((fail_if_success (apply G_on; exact rfl)); apply G_split_dec; exact rfl; exact rfl; all_goals (intro h; try (exfalso; omega))) | ((fail_if_success (apply G_on; exact rfl)); apply G_split; exact rfl; exact rfl; all_goals intro h) | apply W_skip | apply W_exit | apply W_ret | apply W_block | apply Post_then_ret | apply Post_block_ret | apply Post_then_exit | apply Post_block_exit | (apply Post_block_other; exact rfl) | apply Post_block_normal)
    apply G_on; exact rfl; apply G1_alloc; exact T.zero30; exact rfl; exact rfl; intro a2 w2 ha2 hA2 hx2 hs2
    replace hs1 := hs1.ext hx2
    repeat' (first | (apply G_on; exact rfl; first | ((first | apply G1_assign | apply G1_move); exact rfl; exact rfl) | (apply G1_len; exact T.s56; exact rfl; exact rfl) | (apply G1_lss; exact rfl; exact rfl; exact rfl) | (apply G1_indexAddrN; exact T.s56; exact rfl; exact rfl; (first | assumption | exact Sl.ok (by assumption) | exact (Own.sl (by assumption)).ok); omega; exact rfl) | (apply G1_indexAddr; exact T.s56; exact rfl; exact rfl; (first | assumption | exact Sl.ok (by assumption) | exact (Own.sl (by assumption)).ok); omega; omega; exact rfl) | (apply G1_loadBAgg; exact T.a30; exact rfl; assumption; exact rfl; exact rfl) | (apply G1_loadEl; exact T.a30; exact rfl; assumption; assumption; exact rfl; exact rfl) | (apply G1_loadElSub; exact T.a30; exact rfl; assumption; assumption; exact rfl; exact rfl; exact rfl; exact rfl) | (apply G1_loadBSub; exact T.a30; exact rfl; assumption; exact rfl; exact rfl; exact rfl) | (apply G1_add; exact rfl; exact rfl; omega; omega; exact rfl)) | apply G_nil | apply Post_next | apply W_seq | apply W_region | (apply W_cond_true; exact rfl) | (apply W_cond_false; exact rfl) | (apply W_cond_dec; exact rfl; all_goals (intro h; try (exfalso; omega))) | (apply W_cond; exact rfl; all_goals intro h) | (apply G_off; exact rfl; exact rfl) | ((fail_if_success (apply G_on; exact rfl)); apply G_split_dec; exact rfl; exact rfl; all_goals (intro h; try (exfalso; omega))) | ((fail_if_success (apply G_on; exact rfl)); apply G_split; exact rfl; exact rfl; all_goals intro h) | apply W_skip | apply W_exit | apply W_ret | apply W_block | apply Post_then_ret | apply Post_block_ret | apply Post_then_exit | apply Post_block_exit | (apply Post_block_other; exact rfl) | apply Post_block_normal)
    apply G_on; exact rfl; apply G1_storeB; exact T.z30; exact rfl; exact rfl; exact hA2; exact rfl; exact rfl; (first | exact Nat.le_of_ble_eq_true rfl | (focus (simp [Value.cells]; done))); (first | exact Enc.one _ _ | (focus (simp [Value.oneCell']; done)) | (focus (simp [Value.cells, Value.oneCell']; done)) | exact Enc.oneAgg _ _); exact rfl; (first | exact .inl rfl | exact .inr (by simp [exempt])); exact rfl; intro w3 hA2 hg3 hs3
    replace hA2 : Blk w3.heap a2 30 (eRaw.enc r) := hA2
    have hx13 : Ext w1 w3 := hx2.own hg3 (fun k hk => by injection hk; omega)
    have hx3 := hx1.trans hx13
    repeat' (first | (apply G_on; exact rfl; first | ((first | apply G1_assign | apply G1_move); exact rfl; exact rfl) | (apply G1_len; exact T.s56; exact rfl; exact rfl) | (apply G1_lss; exact rfl; exact rfl; exact rfl) | (apply G1_indexAddrN; exact T.s56; exact rfl; exact rfl; (first | assumption | exact Sl.ok (by assumption) | exact (Own.sl (by assumption)).ok); omega; exact rfl) | (apply G1_indexAddr; exact T.s56; exact rfl; exact rfl; (first | assumption | exact Sl.ok (by assumption) | exact (Own.sl (by assumption)).ok); omega; omega; exact rfl) | (apply G1_loadBAgg; exact T.a30; exact rfl; assumption; exact rfl; exact rfl) | (apply G1_loadEl; exact T.a30; exact rfl; assumption; assumption; exact rfl; exact rfl) | (apply G1_loadElSub; exact T.a30; exact rfl; assumption; assumption; exact rfl; exact rfl; exact rfl; exact rfl) | (apply G1_loadBSub; exact T.a30; exact rfl; assumption; exact rfl; exact rfl; exact rfl) | (apply G1_add; exact rfl; exact rfl; omega; omega; exact rfl)) | apply G_nil | apply Post_next | apply W_seq | apply W_region | (apply W_cond_true; exact rfl) | (apply W_cond_false; exact rfl) | (apply W_cond_dec; exact rfl; all_goals (intro h; try (exfalso; omega))) | (apply W_cond; exact rfl; all_goals intro h) | (apply G_off; exact rfl; exact rfl) | ((fail_if_success (apply G_on; exact rfl)); apply G_split_dec; exact rfl; exact rfl; all_goals (intro h; try (exfalso; omega))) | ((fail_if_success (apply G_on; exact rfl)); apply G_split; exact rfl; exact rfl; all_goals intro h) | apply W_skip | apply W_exit | apply W_ret | apply W_block | apply Post_then_ret | apply Post_block_ret | apply Post_then_exit | apply Post_block_exit | (apply Post_block_other; exact rfl) | apply Post_block_normal)
    apply G_on; exact rfl; apply G1_call; exact rfl; exact rfl; exact rfl; exact value_right ((hget j r v hr hv).ext hx3) fv ⟨by omega, by omega, by omega⟩; rintro _ w4 ⟨b, rfl, hb, hx4⟩; refine ⟨(by first | exact .inl rfl | exact .inr (by assumption)), ?_⟩
    have hx14 := hx13.trans hx4
    replace ho1 := ho1.ext hx14
    replace hA2 := hA2.ext hx4
    have hx4' := hx1.trans hx14
    have z4 := hx4'.size
    by_cases hR : RightV v
    · obtain rfl : b = true := hb.2 hR
      have e1 := flat_take_snoc (f := packOf) hv
      rw [packOf_right hR] at e1
      repeat' (first | (apply G_on; exact rfl; first | ((first | apply G1_assign | apply G1_move); exact rfl; exact rfl) | (apply G1_len; exact T.s56; exact rfl; exact rfl) | (apply G1_lss; exact rfl; exact rfl; exact rfl) | (apply G1_indexAddrN; exact T.s56; exact rfl; exact rfl; (first | assumption | exact Sl.ok (by assumption) | exact (Own.sl (by assumption)).ok); omega; exact rfl) | (apply G1_indexAddr; exact T.s56; exact rfl; exact rfl; (first | assumption | exact Sl.ok (by assumption) | exact (Own.sl (by assumption)).ok); omega; omega; exact rfl) | (apply G1_loadBAgg; exact T.a30; exact rfl; assumption; exact rfl; exact rfl) | (apply G1_loadEl; exact T.a30; exact rfl; assumption; assumption; exact rfl; exact rfl) | (apply G1_loadElSub; exact T.a30; exact rfl; assumption; assumption; exact rfl; exact rfl; exact rfl; exact rfl) | (apply G1_loadBSub; exact T.a30; exact rfl; assumption; exact rfl; exact rfl; exact rfl) | (apply G1_add; exact rfl; exact rfl; omega; omega; exact rfl)) | apply G_nil | apply Post_next | apply W_seq | apply W_region | (apply W_cond_true; exact rfl) | (apply W_cond_false; exact rfl) | (apply W_cond_dec; exact rfl; all_goals (intro h; try (exfalso; omega))) | (apply W_cond; exact rfl; all_goals intro h) | (apply G_off; exact rfl; exact rfl) | ((fail_if_success (apply G_on; exact rfl)); apply G_split_dec; exact rfl; exact rfl; all_goals (intro h; try (exfalso; omega))) | ((fail_if_success (apply G_on; exact rfl)); apply G_split; exact rfl; exact rfl; all_goals intro h) | apply W_skip | apply W_exit | apply W_ret | apply W_block | apply Post_then_ret | apply Post_block_ret | apply Post_then_exit | apply Post_block_exit | (apply Post_block_other; exact rfl) | apply Post_block_normal)
      apply G_on; exact rfl; apply G1_call; exact rfl; exact rfl; exact rfl; exact put_spec (hget j r v hr hv) hx4' (Nat.le_refl _) z4 ho1 (by simp only; omega) sv; rintro _ w5 ⟨q5, d5, rfl, ha5⟩; refine ⟨(by first | exact .inl rfl | exact .inr (by assumption)), ?_⟩
      repeat' (first | (apply G_on; exact rfl; first | ((first | apply G1_assign | apply G1_move); exact rfl; exact rfl) | (apply G1_len; exact T.s56; exact rfl; exact rfl) | (apply G1_lss; exact rfl; exact rfl; exact rfl) | (apply G1_indexAddrN; exact T.s56; exact rfl; exact rfl; (first | assumption | exact Sl.ok (by assumption) | exact (Own.sl (by assumption)).ok); omega; exact rfl) | (apply G1_indexAddr; exact T.s56; exact rfl; exact rfl; (first | assumption | exact Sl.ok (by assumption) | exact (Own.sl (by assumption)).ok); omega; omega; exact rfl) | (apply G1_loadBAgg; exact T.a30; exact rfl; assumption; exact rfl; exact rfl) | (apply G1_loadEl; exact T.a30; exact rfl; assumption; assumption; exact rfl; exact rfl) | (apply G1_loadElSub; exact T.a30; exact rfl; assumption; assumption; exact rfl; exact rfl; exact rfl; exact rfl) | (apply G1_loadBSub; exact T.a30; exact rfl; assumption; exact rfl; exact rfl; exact rfl) | (apply G1_add; exact rfl; exact rfl; omega; omega; exact rfl)) | apply G_nil | apply Post_next | apply W_seq | apply W_region | (apply W_cond_true; exact rfl) | (apply W_cond_false; exact rfl) | (apply W_cond_dec; exact rfl; all_goals (intro h; try (exfalso; omega))) | (apply W_cond; exact rfl; all_goals intro h) | (apply G_off; exact rfl; exact rfl) | ((fail_if_success (apply G_on; exact rfl)); apply G_split_dec; exact rfl; exact rfl; all_goals (intro h; try (exfalso; omega))) | ((fail_if_success (apply G_on; exact rfl)); apply G_split; exact rfl; exact rfl; all_goals intro h) | apply W_skip | apply W_exit | apply W_ret | apply W_block | apply Post_then_ret | apply Post_block_ret | apply Post_then_exit | apply Post_block_exit | (apply Post_block_other; exact rfl) | apply Post_block_normal)
      refine Post_round (j + 1, q5, d5) ⟨by simp only; rw [e1]; rfl, rfl, rfl, rfl, trivial⟩ ⟨hx4'.app ha5 (fun k hk => (ho1.ge k hk).1), by simp only; omega, by simp only; rw [e1]; exact ha5.own⟩ (by simp only; omega)
    · obtain rfl : b = false := by
        cases b with
        | false => rfl
        | true => exact absurd (hb.1 rfl) hR
      have e1 := flat_take_snoc (f := packOf) hv
      rw [packOf_not hR, List.append_nil] at e1
      repeat' (first | (apply G_on; exact rfl; first | ((first | apply G1_assign | apply G1_move); exact rfl; exact rfl) | (apply G1_len; exact T.s56; exact rfl; exact rfl) | (apply G1_lss; exact rfl; exact rfl; exact rfl) | (apply G1_indexAddrN; exact T.s56; exact rfl; exact rfl; (first | assumption | exact Sl.ok (by assumption) | exact (Own.sl (by assumption)).ok); omega; exact rfl) | (apply G1_indexAddr; exact T.s56; exact rfl; exact rfl; (first | assumption | exact Sl.ok (by assumption) | exact (Own.sl (by assumption)).ok); omega; omega; exact rfl) | (apply G1_loadBAgg; exact T.a30; exact rfl; assumption; exact rfl; exact rfl) | (apply G1_loadEl; exact T.a30; exact rfl; assumption; assumption; exact rfl; exact rfl) | (apply G1_loadElSub; exact T.a30; exact rfl; assumption; assumption; exact rfl; exact rfl; exact rfl; exact rfl) | (apply G1_loadBSub; exact T.a30; exact rfl; assumption; exact rfl; exact rfl; exact rfl) | (apply G1_add; exact rfl; exact rfl; omega; omega; exact rfl)) | apply G_nil | apply Post_next | apply W_seq | apply W_region | (apply W_cond_true; exact rfl) | (apply W_cond_false; exact rfl) | (apply W_cond_dec; exact rfl; all_goals (intro h; try (exfalso; omega))) | (apply W_cond; exact rfl; all_goals intro h) | (apply G_off; exact rfl; exact rfl) | ((fail_if_success (apply G_on; exact rfl)); apply G_split_dec; exact rfl; exact rfl; all_goals (intro h; try (exfalso; omega))) | ((fail_if_success (apply G_on; exact rfl)); apply G_split; exact rfl; exact rfl; all_goals intro h) | apply W_skip | apply W_exit | apply W_ret | apply W_block | apply Post_then_ret | apply Post_block_ret | apply Post_then_exit | apply Post_block_exit | (apply Post_block_other; exact rfl) | apply Post_block_normal)
      refine Post_round (j + 1, q, d) ⟨by simp only; rw [e1]; rfl, rfl, rfl, rfl, trivial⟩ ⟨hx4', by simp only; omega, by simp only; rw [e1]; exact ho1⟩ (by simp only; omega)
  · repeat' (first | (apply G_on; exact rfl; first | ((first | apply G1_assign | apply G1_move); exact rfl; exact rfl) | (apply G1_len; exact T.s56; exact rfl; exact rfl) | (apply G1_lss; exact rfl; exact rfl; exact rfl) | (apply G1_indexAddrN; exact T.s56; exact rfl; exact rfl; (first | assumption | exact Sl.ok (by assumption) | exact (Own.sl (by assumption)).ok); omega; exact rfl) | (apply G1_indexAddr; exact T.s56; exact rfl; exact rfl; (first | assumption | exact Sl.ok (by assumption) | exact (Own.sl (by assumption)).ok); omega; omega; exact rfl) | (apply G1_loadBAgg; exact T.a30; exact rfl; assumption; exact rfl; exact rfl) | (apply G1_loadEl; exact T.a30; exact rfl; assumption; assumption; exact rfl; exact rfl) | (apply G1_loadElSub; exact T.a30; exact rfl; assumption; assumption; exact rfl; exact rfl; exact rfl; exact rfl) | (apply G1_loadBSub; exact T.a30; exact rfl; assumption; exact rfl; exact rfl; exact rfl) | (apply G1_add; exact rfl; exact rfl; omega; omega; exact rfl)) | apply G_nil | apply Post_next | apply W_seq | apply W_region | (apply W_cond_true; exact rfl) | (apply W_cond_false; exact rfl) | (apply W_cond_dec; exact rfl; all_goals (intro h; try (exfalso; omega))) | (apply W_cond; exact rfl; all_goals intro h) | (apply G_off; exact rfl; exact rfl) | ((fail_if_success (apply G_on; exact rfl)); apply G_split_dec; exact rfl; exact rfl; all_goals (intro h; try (exfalso; omega))) | ((fail_if_success (apply G_on; exact rfl)); apply G_split; exact rfl; exact rfl; all_goals intro h) | apply W_skip | apply W_exit | apply W_ret | apply W_block | apply Post_then_ret | apply Post_block_ret | apply Post_then_exit | apply Post_block_exit | (apply Post_block_other; exact rfl) | apply Post_block_normal)
    refine Post_ret Try.results19 ⟨_, _, rfl, rfl, rfl⟩ ?_
    have e : vs.take j = vs := List.take_of_length_le (by omega)
    rw [e] at ho1
    exact ⟨q, d, by simp only; rw [e]; rfl, ho1, hx1⟩
end Go.Proofs.Ytomgghelhalaeaa
