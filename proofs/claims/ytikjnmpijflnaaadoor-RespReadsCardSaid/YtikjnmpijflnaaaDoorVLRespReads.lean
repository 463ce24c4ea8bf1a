/- RespReads: the law's walk. -/
import Derived.Test.YtikjnmpijflnaaaDoorVRepRead
import Derived.Test.YtikjnmpijflnaaaDoorVRefRead
import Derived.Test.YtikjnmpijflnaaaDoorVRepSame2
namespace Go.Proofs.YtikjnmpijflnaaaDoor
open Go.V
attribute [local irreducible] Blk Own hcell IntT SliceT PlainT AggT SizeT StrT FieldT ZeroT EqT ArrT
theorem rdL_cnt {d : Nat} {f : List UInt8 → Option (Rep × Nat)} (hf : ∀ bs t j, f bs = some (t, j) → cntT d t ≤ j) : ∀ (n : Nat) (bs : List UInt8) (l : List Rep) (j : Nat), rdL f n bs = some (l, j) → cntL d l ≤ j
  | 0, bs, l, j, h => by
    simp only [rdL, Option.some.injEq, Prod.mk.injEq] at h
    obtain ⟨rfl, rfl⟩ := h
    exact Nat.le_refl _
  | n + 1, bs, l, j, h => by
    unfold rdL at h
    split at h
    · cases h
    rename_i t k e
    split at h
    · cases h
    rename_i l' j' e'
    cases h
    have h1 := hf _ _ _ e
    have h2 := rdL_cnt hf n _ _ _ e'
    rw [cntL_cons]
    omega
theorem leaf_cnt {bs : List UInt8} {t : Rep} {k : Nat} (h : rdHead bs = .leaf t k) : t.l = [] := by
  by_cases h0 : brAt bs = 0 ∨ ¬ (bs.drop (brAt bs)).take 2 = [13, 10]
  · rw [rdHead_no h0] at h; cases h
  · have h1 : brAt bs ≠ 0 := fun e => h0 (.inl e)
    have h2 : (bs.drop (brAt bs)).take 2 = [13, 10] := Classical.byContradiction fun e => h0 (.inr e)
    have h3 := brAt_two h2
    obtain ⟨m, s, hms⟩ : ∃ m s, bs.take (brAt bs) = m :: s := by
      cases e : bs.take (brAt bs) with
      | nil => have := congrArg List.length e; rw [List.length_take, List.length_nil] at this; omega
      | cons m s => exact ⟨m, s, rfl⟩
    rw [rdHead_line hms h2] at h
    unfold rdLine at h
    split at h
    · cases h; rfl
    split at h
    · cases h; rfl
    split at h
    · cases h
    split at h
    · cases h; rfl
    split at h
    · split at h
      · cases h; rfl
      · split at h
        · cases h; rfl
        · cases h
    · split at h <;> cases h
theorem rdT_cnt : ∀ (d : Nat) (bs : List UInt8) (t : Rep) (j : Nat), rdT d bs = some (t, j) → cntT (d + 1) t ≤ j
  | 0, bs, t, j, h => by
    have h3 := (rdT_len 0 bs t j h).1
    cases e : rdHead bs with
    | none => rw [rdT_none e] at h; cases h
    | leaf t' k' =>
      rw [rdT_leaf e] at h; cases h
      rw [cntT_succ, leaf_cnt e]
      show 1 + 0 ≤ j
      omega
    | list n k' => rw [rdT_list0 e] at h; cases h
  | d + 1, bs, t, j, h => by
    have h3 := (rdT_len (d + 1) bs t j h).1
    cases e : rdHead bs with
    | none => rw [rdT_none e] at h; cases h
    | leaf t' k' =>
      rw [rdT_leaf e] at h; cases h
      rw [cntT_succ, leaf_cnt e]
      show 1 + 0 ≤ j
      omega
    | list n k' =>
      rw [rdT_list e] at h
      have h1 := (rdHead_len.2 _ _ e).1
      cases e2 : rdL (rdT d) n (bs.drop k') with
      | none => rw [e2] at h; cases h
      | some x =>
        rw [e2] at h
        cases h
        have h2 := rdL_cnt (rdT_cnt d) n _ x.1 x.2 e2
        rw [cntT_succ]
        show 1 + cntL (d + 1) x.1 ≤ _
        omega
theorem zRep_at {H : Array Obj} : RepAt H 1 zRep (.mk 0 ⟨#[]⟩ 0 []) := leaf_at nil_size fit0
set_option maxHeartbeats 4000000 in
theorem respReads_spec {p : Option Addr} {c : Nat} {bs : List UInt8} {w : World} (hC : Sl w.heap eByte p c bs) (hU : Utf w) (hT : Pow w) (hE : Errs w) :
    Ctr Tryd.prog 10 [.slice p bs.length c] w (fun v w' => v = .bool true ∧ Ext w w') := by
  have n1 := hC.bound
  refine Ctr_of Tryd.func10 Tryd.ntmps10 rfl rfl rfl ?_
  repeat' (first | (apply G_on; exact rfl; first | ((first | apply G1_assign | apply G1_move); exact rfl; exact rfl) | (apply G1_call (f := 12); exact rfl; exact rfl; exact rfl; exact awake04 (TabIs.ext hT (by repeat first | assumption | exact Ext.rfl' | apply Ext.drew | apply Ext.alloc | refine Ext.trans ?_ (by assumption))); rintro _ w1 ⟨rfl, hx1⟩; refine ⟨(by first | exact .inl rfl | exact .inr (by assumption)), ?_⟩) | (apply G1_not_t; exact rfl; exact rfl) | (apply G1_len; exact T.s28; exact rfl; exact rfl) | (apply G1_gtr; exact rfl; exact rfl; exact rfl) | (apply G1_pick_f; exact rfl; exact rfl; exact rfl)) | apply G_nil | apply Post_next | apply W_seq | apply W_region | (apply W_cond_dec; exact rfl; all_goals (intro h; try (exfalso; omega))) | apply W_skip | apply W_ret | apply Post_then_ret)
  · refine Post_ret Tryd.results10 ⟨_, _, rfl, rfl, rfl⟩ ?_
    exact ⟨rfl, (by repeat first | assumption | exact Ext.rfl' | apply Ext.drew | apply Ext.alloc | refine Ext.trans ?_ (by assumption))⟩
  have hx01 : Ext w w1 := (by repeat first | assumption | exact Ext.rfl' | apply Ext.drew | apply Ext.alloc | refine Ext.trans ?_ (by assumption))
  have hN : ¬ (4000 : Int) < (bs.length : Int) := by assumption
  have hsl := hC.ext hx01
  apply G_on; exact rfl
  apply G1_build0 eByte; exact T.s28; exact rfl; exact rfl
  intro p2 w2 hO2 hx2 hs2
  replace hsl := hsl.ext hx2
  repeat' (apply G_on; exact rfl; first | (apply G1_move; exact rfl; exact rfl) | (apply G1_append; exact T.s28; exact rfl; exact rfl; exact hO2; exact hsl; exact rfl; omega; (simp only [List.length_nil]; omega); (simp only [List.length_nil]; omega); exact rfl; exact rfl; exact rfl; intro p3 c3 w3 hO3 hg3 hn3))
  have hx03 : Ext w w3 := ((hx01.trans hx2)).own hg3 (fun k hk => by have := (hO2.ge k hk).1; have := hx01.size; omega)
  rw [List.nil_append] at hO3 ⊢
  have hread := read_spec hO3.sl (by omega) (hU.ext hx03) (TabIs.ext hT hx03) (hE.ext hx03)
  apply G_on; exact rfl; apply G1_call (f := 33); exact rfl; exact rfl; exact rfl; exact hread; intro v w4 hv; refine ⟨(by first | exact .inl rfl | exact .inr hv.1), ?_⟩
  obtain ⟨hx4, hv⟩ := hv
  have hx04 := hx03.trans hx4
  have href := fun w' (hx : Ext w w') => refRead_spec 4 (w := w') (k := 0) (Nat.zero_le _) (by omega) (Nat.le_refl _) (hC.ext hx)
  rw [show ((0 : Nat) : Int) = 0 from rfl, show ((4 : Nat) : Int) = 4 from rfl] at href
  rcases hv with ⟨t, j, r, hr1, rfl, hr2⟩ | ⟨hr1, rfl⟩
  · have hjl := rdT_len _ _ _ _ hr1
    have hcnt := rdT_cnt _ _ _ _ hr1
    repeat' (apply G_on; exact rfl; first | (apply G1_move; exact rfl; exact rfl) | (apply G1_extract; exact rfl; exact rfl; exact rfl))
    apply G_on; exact rfl; apply G1_alloc; exact T.zero24; exact rfl; exact rfl; intro a5 w5 ha5 hA5 hx5 hs5
    skip
    apply G_on; exact rfl; apply G1_storeB; exact T.z24; exact rfl; exact rfl; exact hA5; exact rfl; exact rfl; (first | exact Nat.le_of_ble_eq_true rfl | (focus (simp [Value.cells]; done))); (first | exact Enc.one _ _ | (focus (simp [Value.oneCell']; done)) | (focus (simp [Value.cells, Value.oneCell']; done)) | exact Enc.oneAgg _ _); exact rfl; (first | exact .inl rfl | exact .inr (by simp [exempt])); exact rfl; intro w6 hA6 hg6 hs6
    replace hA6 : Blk w6.heap a5 24 (eRep.enc r) := hA6
    have hx46 : Ext w4 w6 := hx5.own hg6 (fun k hk => by injection hk; omega)
    have hx06 := hx04.trans hx46
    repeat' (first | (apply G_on; exact rfl; ((first | apply G1_assign | apply G1_move); exact rfl; exact rfl)) | apply G_nil | apply Post_next | apply W_seq | apply W_region)
    apply G_on; exact rfl; apply G1_call (f := 34); exact rfl; exact rfl; exact rfl; exact href _ hx06; intro v w7 hv; refine ⟨(by first | exact .inl rfl | exact .inr hv.1), ?_⟩
    unfold RefR at hv
    rw [List.drop_zero] at hv
    obtain ⟨hx7, ⟨t', j', r', hq1, rfl, hq2⟩ | ⟨hq1, _⟩⟩ := hv
    rotate_left
    · rw [hr1] at hq1; cases hq1
    rw [hr1] at hq1
    simp only [Option.some.injEq, Prod.mk.injEq] at hq1
    obtain ⟨rfl, rfl⟩ := hq1
    have hA7 := hA6.ext hx7
    repeat' (apply G_on; exact rfl; first | (apply G1_move; exact rfl; exact rfl) | (apply G1_extract; exact rfl; exact rfl; exact rfl))
    apply G_on; exact rfl; apply G1_alloc; exact T.zero24; exact rfl; exact rfl; intro a8 w8 ha8 hA8 hx8 hs8
    replace hA7 := hA7.ext hx8
    skip
    apply G_on; exact rfl; apply G1_storeB; exact T.z24; exact rfl; exact rfl; exact hA8; exact rfl; exact rfl; (first | exact Nat.le_of_ble_eq_true rfl | (focus (simp [Value.cells]; done))); (first | exact Enc.one _ _ | (focus (simp [Value.oneCell']; done)) | (focus (simp [Value.cells, Value.oneCell']; done)) | exact Enc.oneAgg _ _); exact rfl; (first | exact .inl rfl | exact .inr (by simp [exempt])); exact rfl; intro w9 hA9 hg9 hs9
    replace hA9 : Blk w9.heap a8 24 (eRep.enc r') := hA9
    have l7 := hA7.lt
    have l6 := hA6.lt
    replace hA7 := hA7.grown hg9 (fun e => by injection e; have := hx7.size; omega)
    have hx79 : Ext w7 w9 := hx8.own hg9 (fun k hk => by injection hk; omega)
    have hx09 : Ext w w9 := (hx06.trans hx7).trans hx79
    have hR1 : RepAt (clear w9.heap) 5 r t := (hr2.hide (fun b hb hbl => ⟨fun h => h, rfl⟩)).cells (clear_ext (hx46.trans (hx7.trans hx79)))
    have hR2 : RepAt (clear w9.heap) 5 r' t := (hq2.hide (fun b hb hbl => ⟨fun h => h, rfl⟩)).cells (clear_ext hx79)
    repeat' (first | (apply G_on; exact rfl; first | ((first | apply G1_assign | apply G1_move); exact rfl; exact rfl) | (apply G1_call (f := 16); exact rfl; exact rfl; exact rfl; exact refsame_spec _ _ (hR1.shown.ext (by repeat first | assumption | exact Ext.rfl' | apply Ext.drew | apply Ext.alloc | refine Ext.trans ?_ (by assumption))) (hR2.shown.ext (by repeat first | assumption | exact Ext.rfl' | apply Ext.drew | apply Ext.alloc | refine Ext.trans ?_ (by assumption))); rintro _ w10 ⟨b10, rfl, hb10, hx10⟩; refine ⟨(by first | exact .inl rfl | exact .inr (by assumption)), ?_⟩; (first | replace hA7 := hA7.ext hx10 | replace hA7 := hA7.ext ((Ext.drew Ext.rfl').trans hx10)); (first | replace hA9 := hA9.ext hx10 | replace hA9 := hA9.ext ((Ext.drew Ext.rfl').trans hx10))) | (apply G1_call (f := 35); exact rfl; exact rfl; exact rfl; exact same_spec (hR1.cells (clear_ext (by repeat first | assumption | exact Ext.rfl' | apply Ext.drew | apply Ext.alloc | refine Ext.trans ?_ (by assumption)))) (hR2.cells (clear_ext (by repeat first | assumption | exact Ext.rfl' | apply Ext.drew | apply Ext.alloc | refine Ext.trans ?_ (by assumption)))) (by decide) (Nat.le_trans hcnt (by omega)); rintro _ w11 ⟨b11, rfl, hb11, hx11⟩; refine ⟨(by first | exact .inl rfl | exact .inr (by assumption)), ?_⟩) | ((first | apply G1_lss | apply G1_eql); exact rfl; exact rfl; exact rfl) | (apply G1_pick_t; exact rfl; exact rfl; exact rfl) | (apply G1_pick_f; exact rfl; exact rfl; exact rfl) | (apply G1_loadBAgg; exact T.a24; exact rfl; assumption; exact rfl; exact rfl)) | apply G_nil | apply Post_next | apply W_seq | apply W_region | (apply W_cond_false; exact rfl) | (apply G_off; exact rfl; exact rfl) | ((fail_if_success (apply G_on; exact rfl)); apply G_split_dec; exact rfl; exact rfl; all_goals (intro h; try (exfalso; omega))) | ((fail_if_success (apply G_on; exact rfl)); apply G_split; exact rfl; exact rfl; all_goals intro h) | apply W_skip | apply W_ret)
    all_goals try (exfalso; rw [hb10.2 rfl] at h; cases h; done)
    refine Post_ret Tryd.results10 ⟨_, _, rfl, rfl, rfl⟩ ?_
    refine ⟨?_, (by repeat first | assumption | exact Ext.rfl' | apply Ext.drew | apply Ext.alloc | refine Ext.trans ?_ (by assumption))⟩
    rw [hb11.2 rfl]
    rfl
  · repeat' (apply G_on; exact rfl; first | (apply G1_move; exact rfl; exact rfl) | (apply G1_extract; exact rfl; exact rfl; exact rfl))
    apply G_on; exact rfl; apply G1_alloc; exact T.zero24; exact rfl; exact rfl; intro a5 w5 ha5 hA5 hx5 hs5
    skip
    apply G_on; exact rfl; apply G1_storeB; exact T.z24; exact rfl; exact rfl; exact hA5; exact rfl; exact rfl; (first | exact Nat.le_of_ble_eq_true rfl | (focus (simp [Value.cells]; done))); (first | exact Enc.one _ _ | (focus (simp [Value.oneCell']; done)) | (focus (simp [Value.cells, Value.oneCell']; done)) | exact Enc.oneAgg _ _); exact rfl; (first | exact .inl rfl | exact .inr (by simp [exempt])); exact rfl; intro w6 hA6 hg6 hs6
    replace hA6 : Blk w6.heap a5 24 (eRep.enc zRep) := hA6
    have hx46 : Ext w4 w6 := hx5.own hg6 (fun k hk => by injection hk; omega)
    have hx06 := hx04.trans hx46
    repeat' (first | (apply G_on; exact rfl; ((first | apply G1_assign | apply G1_move); exact rfl; exact rfl)) | apply G_nil | apply Post_next | apply W_seq | apply W_region)
    apply G_on; exact rfl; apply G1_call (f := 34); exact rfl; exact rfl; exact rfl; exact href _ hx06; intro v w7 hv; refine ⟨(by first | exact .inl rfl | exact .inr hv.1), ?_⟩
    unfold RefR at hv
    rw [List.drop_zero] at hv
    obtain ⟨hx7, ⟨t', j', r', hq1, _⟩ | ⟨hq1, rfl⟩⟩ := hv
    · rw [hr1] at hq1; cases hq1
    have hA7 := hA6.ext hx7
    repeat' (apply G_on; exact rfl; first | (apply G1_move; exact rfl; exact rfl) | (apply G1_extract; exact rfl; exact rfl; exact rfl))
    apply G_on; exact rfl; apply G1_alloc; exact T.zero24; exact rfl; exact rfl; intro a8 w8 ha8 hA8 hx8 hs8
    replace hA7 := hA7.ext hx8
    skip
    apply G_on; exact rfl; apply G1_storeB; exact T.z24; exact rfl; exact rfl; exact hA8; exact rfl; exact rfl; (first | exact Nat.le_of_ble_eq_true rfl | (focus (simp [Value.cells]; done))); (first | exact Enc.one _ _ | (focus (simp [Value.oneCell']; done)) | (focus (simp [Value.cells, Value.oneCell']; done)) | exact Enc.oneAgg _ _); exact rfl; (first | exact .inl rfl | exact .inr (by simp [exempt])); exact rfl; intro w9 hA9 hg9 hs9
    have l6 := hA6.lt
    replace hA7 := hA7.grown hg9 (fun e => by injection e; have := hx7.size; omega)
    have hx79 : Ext w7 w9 := hx8.own hg9 (fun k hk => by injection hk; omega)
    have hx09 : Ext w w9 := (hx06.trans hx7).trans hx79
    repeat' (first | (apply G_on; exact rfl; first | ((first | apply G1_assign | apply G1_move); exact rfl; exact rfl) | (apply G1_build (.agg (eRep.enc zRep).toArray); exact rfl; exact bldZ; exact rfl) | (apply G1_call (f := 16); exact rfl; exact rfl; exact rfl; exact refsame_spec 1 1 zRep_at zRep_at; rintro _ w10 ⟨b10, rfl, hb10, hx10⟩; refine ⟨(by first | exact .inl rfl | exact .inr (by assumption)), ?_⟩) | (apply G1_not_f; exact rfl; exact rfl) | ((first | apply G1_lss | apply G1_eql); exact rfl; exact rfl; exact rfl) | (apply G1_pick_t; exact rfl; exact rfl; exact rfl) | (apply G1_loadBAgg; exact T.a24; exact rfl; assumption; exact rfl; exact rfl)) | apply G_nil | apply Post_next | apply W_seq | apply W_region | (apply W_cond_true; exact rfl) | apply W_ret | apply Post_then_ret)
    refine Post_ret Tryd.results10 ⟨_, _, rfl, rfl, rfl⟩ ?_
    refine ⟨?_, (by repeat first | assumption | exact Ext.rfl' | apply Ext.drew | apply Ext.alloc | refine Ext.trans ?_ (by assumption))⟩
    rw [hb10.2 rfl]
    rfl
end Go.Proofs.YtikjnmpijflnaaaDoor
