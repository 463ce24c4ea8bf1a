/- RespMany: the law's walk. -/
import Derived.Test.YtikjnmpijflnaaaDoorVRepRead
import Derived.Test.YtikjnmpijflnaaaDoorVLRespApart
namespace Go.Proofs.YtikjnmpijflnaaaDoor
open Go.V
attribute [local irreducible] Blk Own hcell IntT SliceT PlainT AggT SizeT StrT FieldT ZeroT EqT ArrT
theorem wR_filter (ts : List Rep) : wR ts = (ts.filter (rightT 4)).flatMap (wT 4) := by
  unfold wR
  induction ts with
  | nil => rfl
  | cons t ts ih =>
    rw [List.flatMap_cons, ih, List.filter_cons]
    cases h : rightT 4 t <;> simp
theorem filter_snoc {ts : List Rep} {i : Nat} {t : Rep} (h : ts[i]? = some t) : (ts.take (i + 1)).filter (rightT 4) = (ts.take i).filter (rightT 4) ++ (if rightT 4 t = true then [t] else []) := by
  rw [take_snoc h, List.filter_append]
  cases h : rightT 4 t <;> simp [h]
theorem many_len {H : Array Obj} {d : Nat} {p : Option Addr} {c : Nat} {rs : List RawR} {ts : List Rep} (hC : RepsAt H d p c rs ts) (hs : ∀ t ∈ ts, sizeT 9 t ≤ 100) (hl : ts.length ≤ 20) : (wR ts).length ≤ 10000000 := by
  have key : ∀ l : List Rep, (∀ t ∈ l, (if rightT 4 t = true then wT 4 t else []).length ≤ 210000) → (wR l).length ≤ 210000 * l.length := by
    intro l
    unfold wR
    induction l with
    | nil => intro _; simp
    | cons x l ih =>
      intro h
      have h1 := h x (by simp)
      have h2 := ih (fun y hy => h y (List.mem_cons_of_mem _ hy))
      rw [List.flatMap_cons, List.length_append, List.length_cons]
      omega
  have := key ts (fun t ht => by
    split
    · obtain ⟨i, hi⟩ := List.getElem?_of_mem ht
      obtain ⟨r, hr⟩ := get_some (xs := rs) (k := i) (by rw [hC.len]; exact get_lt hi)
      have h1 := wT_len 4 9 (by omega) (hC.get i r t hr hi) (by have := hs t ht; omega)
      have h2 := hs t ht
      omega
    · simp)
  have : 210000 * ts.length ≤ 210000 * 20 := Nat.mul_le_mul_left _ hl
  omega
set_option maxHeartbeats 4000000 in
theorem respMany_spec {p : Option Addr} {c e : Nat} {rs : List RawR} {ts : List Rep} {w : World} (hC : RepsAt w.heap e p c rs ts) (hU : Utf w) (hT : Pow w) (hE : Errs w) :
    Ctr Tryd.prog 9 [.slice p rs.length c] w (fun v w' => v = .bool true ∧ Ext w w') := by
  have n1 := hC.sl.bound
  have hlen := hC.len
  have hok := hC.sl.ok
  refine Ctr_of Tryd.func9 Tryd.ntmps9 rfl rfl rfl ?_
  repeat' (first | (apply G_on; exact rfl; first | ((first | apply G1_assign | apply G1_move); exact rfl; exact rfl) | (apply G1_call (f := 12); exact rfl; exact rfl; exact rfl; exact awake04 (TabIs.ext hT (by repeat first | assumption | exact Ext.rfl' | apply Ext.drew | apply Ext.alloc | refine Ext.trans ?_ (by assumption))); rintro _ w1 ⟨rfl, hx1⟩; refine ⟨(by first | exact .inl rfl | exact .inr (by assumption)), ?_⟩) | (apply G1_not_t; exact rfl; exact rfl) | (apply G1_len; exact T.s22; exact rfl; exact rfl) | (apply G1_gtr; exact rfl; exact rfl; exact rfl) | (apply G1_pick_f; exact rfl; exact rfl; exact rfl)) | apply G_nil | apply Post_next | apply W_seq | apply W_region | (apply W_cond_dec; exact rfl; all_goals (intro h; try (exfalso; omega))) | apply W_skip | apply W_ret | apply W_block | apply Post_then_ret)
  · refine Post_ret Tryd.results9 ⟨_, _, rfl, rfl, rfl⟩ ?_
    exact ⟨rfl, (by repeat first | assumption | exact Ext.rfl' | apply Ext.drew | apply Ext.alloc | refine Ext.trans ?_ (by assumption))⟩
  have hx01 : Ext w w1 := (by repeat first | assumption | exact Ext.rfl' | apply Ext.drew | apply Ext.alloc | refine Ext.trans ?_ (by assumption))
  refine W_loop (ι := Nat × Option Addr × Nat × List RawR) (fun y => [(0, .slice p rs.length c), (3, .slice y.2.1 y.2.2.2.length y.2.2.1), (4, .int .i64 (y.1 : Int))])
    (fun y w' => Ext w w' ∧ y.1 ≤ rs.length ∧ Own w' w.heap.size 24 eRep y.2.1 y.2.2.1 y.2.2.2 ∧ y.2.2.2.length = ((ts.take y.1).filter (rightT 4)).length ∧ y.2.2.2.length ≤ y.1 ∧
      (∀ (q : Nat) r t, y.2.2.2[q]? = some r → ((ts.take y.1).filter (rightT 4))[q]? = some t → RepAt w.heap e r t) ∧ (∀ t ∈ ts.take y.1, sizeT 9 t ≤ 100)) (fun y => rs.length - y.1) (0, none, 0, []) ⟨rfl, rfl, rfl, trivial⟩
    ⟨hx01, Nat.zero_le _, Own.nil _ _ _ _, rfl, Nat.le_refl _, fun q r t hq => by simp at hq, by simp⟩ ?_
  clear hx01 hx1
  rintro ⟨i, pw, cw, ws⟩ w2 ⟨hx2, hi, hO, hwl, hwi, hg, hsm⟩
  simp only at hi hO hwl hwi hg hsm
  refine W_keep [(0, .slice p rs.length c), (3, .slice pw ws.length cw), (4, .int .i64 (i : Int))] ⟨rfl, rfl, rfl, trivial⟩ ?_
  have hC2 := hC.ext hx2
  have hsl2 := hC2.sl
  have hge := hO.ge
  by_cases hlt : i < rs.length
  · obtain ⟨r, hr⟩ := get_some hlt
    obtain ⟨t, ht⟩ := get_some (xs := ts) (k := i) (by omega)
    have hat := hC2.get i r t hr ht
    have hfs := filter_snoc ht
    by_cases h100 : sizeT 9 t ≤ 100
    · have hsm2 : ∀ x ∈ ts.take (i + 1), sizeT 9 x ≤ 100 := fun x hx => by
        rw [take_snoc ht] at hx
        rcases List.mem_append.1 hx with hx | hx
        · exact hsm x hx
        · rw [List.mem_singleton.1 hx]; exact h100
      cases hrt : rightT 4 t with
      | true =>
        rw [hrt, if_pos rfl] at hfs
        have hrs := fun w' (hx : Ext w2 w') => right_spec 4 e (by omega) (hat.ext hx)
        rw [hrt] at hrs
        repeat' (first | (apply G_on; exact rfl; first | (apply G1_move; exact rfl; exact rfl) | (apply G1_call (f := 13); exact rfl; exact rfl; exact rfl; exact size_spec 9 e (by omega) (hat.ext (by repeat first | assumption | exact Ext.rfl' | apply Ext.drew | apply Ext.alloc | refine Ext.trans ?_ (by assumption))); rintro _ w3 ⟨rfl, hx3⟩; refine ⟨(by first | exact .inl rfl | exact .inr (by assumption)), ?_⟩; (first | replace hsl2 := hsl2.ext hx3 | replace hsl2 := hsl2.ext ((Ext.drew Ext.rfl').trans hx3)); (first | replace hO := hO.ext hx3 | replace hO := hO.ext ((Ext.drew Ext.rfl').trans hx3))) | (apply G1_call (f := 14); exact rfl; exact rfl; exact rfl; exact hrs _ (by repeat first | assumption | exact Ext.rfl' | apply Ext.drew | apply Ext.alloc | refine Ext.trans ?_ (by assumption)); rintro _ w4 ⟨rfl, hx4⟩; refine ⟨(by first | exact .inl rfl | exact .inr (by assumption)), ?_⟩; (first | replace hsl2 := hsl2.ext hx4 | replace hsl2 := hsl2.ext ((Ext.drew Ext.rfl').trans hx4)); (first | replace hO := hO.ext hx4 | replace hO := hO.ext ((Ext.drew Ext.rfl').trans hx4))) | (apply G1_len; exact T.s22; exact rfl; exact rfl) | ((first | apply G1_gtr | apply G1_lss); exact rfl; exact rfl; exact rfl) | (apply G1_indexAddrN; exact T.s22; exact rfl; exact rfl; (first | assumption | exact Sl.ok (by assumption) | exact (Own.sl (by assumption)).ok); omega; exact rfl) | (apply G1_loadEl; exact T.a24; exact rfl; assumption; assumption; exact rfl; exact rfl)) | apply G_nil | apply Post_next | apply W_seq | apply W_region | (apply W_cond_true; exact rfl) | (apply W_cond_dec; exact rfl; all_goals (intro h; try (exfalso; omega))) | apply W_skip | apply W_block)
        all_goals try (exfalso; omega)
        apply G_on; exact rfl
        apply G1_build1 eRep r; exact T.s22; exact rfl; exact rfl; exact rfl; decide; exact rfl; exact rfl
        intro p5 w5 hp5 hs5 _ hx5 hz5
        replace hO := hO.ext hx5
        have hx05 : Ext w w5 := (by repeat first | assumption | exact Ext.rfl' | apply Ext.drew | apply Ext.alloc | refine Ext.trans ?_ (by assumption))
        have hz05 := hx05.size
        repeat' (first | (apply G_on; exact rfl; first | ((first | apply G1_assign | apply G1_move); exact rfl; exact rfl) | (apply G1_appendA; exact T.s22; exact rfl; exact rfl; exact hO; exact hs5; exact rfl; omega; (simp only [List.length_cons, List.length_nil]; omega); (simp only [List.length_cons, List.length_nil]; omega); exact rfl; exact rfl; exact rfl; intro p6 c6 w6 ha6) | (apply G1_add; exact rfl; exact rfl; omega; omega; exact rfl)) | apply G_nil | apply Post_next | apply W_region | apply Post_block_normal)
        refine Post_round (i + 1, p6, c6, ws ++ [r]) ⟨rfl, rfl, rfl, trivial⟩ ⟨hx05.app ha6 (fun k hk => (hge k hk).1), by simp only; omega, ha6.own, ?_, by simp only [List.length_append, List.length_singleton]; omega, ?_, hsm2⟩ (by simp only; omega)
        · simp only
          rw [hfs, List.length_append, List.length_append, hwl]; rfl
        · intro q r' t' hr' ht'
          simp only at hr' ht'
          rw [hfs] at ht'
          by_cases hq : q < ws.length
          · rw [List.getElem?_append_left hq] at hr'
            rw [List.getElem?_append_left (by omega)] at ht'
            exact hg q r' t' hr' ht'
          · have e1 := get_lt hr'
            rw [List.length_append, List.length_singleton] at e1
            obtain rfl : q = ws.length := by omega
            rw [List.getElem?_append_right (Nat.le_refl _), Nat.sub_self] at hr'
            rw [List.getElem?_append_right (by omega), hwl, Nat.sub_self] at ht'
            obtain rfl : r = r' := by simpa using hr'
            obtain rfl : t = t' := by simpa using ht'
            exact hC.get i r t hr ht
      | false =>
        rw [hrt, if_neg (by simp), List.append_nil] at hfs
        have hrs := fun w' (hx : Ext w2 w') => right_spec 4 e (by omega) (hat.ext hx)
        rw [hrt] at hrs
        repeat' (first | (apply G_on; exact rfl; first | ((first | apply G1_assign | apply G1_move); exact rfl; exact rfl) | (apply G1_call (f := 13); exact rfl; exact rfl; exact rfl; exact size_spec 9 e (by omega) (hat.ext (by repeat first | assumption | exact Ext.rfl' | apply Ext.drew | apply Ext.alloc | refine Ext.trans ?_ (by assumption))); rintro _ w3 ⟨rfl, hx3⟩; refine ⟨(by first | exact .inl rfl | exact .inr (by assumption)), ?_⟩; (first | replace hsl2 := hsl2.ext hx3 | replace hsl2 := hsl2.ext ((Ext.drew Ext.rfl').trans hx3)); (first | replace hO := hO.ext hx3 | replace hO := hO.ext ((Ext.drew Ext.rfl').trans hx3))) | (apply G1_call (f := 14); exact rfl; exact rfl; exact rfl; exact hrs _ (by repeat first | assumption | exact Ext.rfl' | apply Ext.drew | apply Ext.alloc | refine Ext.trans ?_ (by assumption)); rintro _ w4 ⟨rfl, hx4⟩; refine ⟨(by first | exact .inl rfl | exact .inr (by assumption)), ?_⟩; (first | replace hsl2 := hsl2.ext hx4 | replace hsl2 := hsl2.ext ((Ext.drew Ext.rfl').trans hx4)); (first | replace hO := hO.ext hx4 | replace hO := hO.ext ((Ext.drew Ext.rfl').trans hx4))) | (apply G1_len; exact T.s22; exact rfl; exact rfl) | ((first | apply G1_gtr | apply G1_lss); exact rfl; exact rfl; exact rfl) | (apply G1_indexAddrN; exact T.s22; exact rfl; exact rfl; (first | assumption | exact Sl.ok (by assumption) | exact (Own.sl (by assumption)).ok); omega; exact rfl) | (apply G1_loadEl; exact T.a24; exact rfl; assumption; assumption; exact rfl; exact rfl) | (apply G1_add; exact rfl; exact rfl; omega; omega; exact rfl)) | apply G_nil | apply Post_next | apply W_seq | apply W_region | (apply W_cond_false; exact rfl) | (apply W_cond_dec; exact rfl; all_goals (intro h; try (exfalso; omega))) | apply W_skip | apply W_block | apply Post_block_normal)
        all_goals try (exfalso; omega)
        exact Post_round (i + 1, pw, cw, ws) ⟨rfl, rfl, rfl, trivial⟩ ⟨(by repeat first | assumption | exact Ext.rfl' | apply Ext.drew | apply Ext.alloc | refine Ext.trans ?_ (by assumption)), by simp only; omega, hO, by simp only; rw [hfs]; exact hwl, by simp only; omega, fun q r' t' hr' ht' => hg q r' t' hr' (by simp only at ht'; rw [hfs] at ht'; exact ht'), hsm2⟩ (by simp only; omega)
    · repeat' (first | (apply G_on; exact rfl; first | ((first | apply G1_assign | apply G1_move); exact rfl; exact rfl) | (apply G1_call (f := 13); exact rfl; exact rfl; exact rfl; exact size_spec 9 e (by omega) (hat.ext (by repeat first | assumption | exact Ext.rfl' | apply Ext.drew | apply Ext.alloc | refine Ext.trans ?_ (by assumption))); rintro _ w3 ⟨rfl, hx3⟩; refine ⟨(by first | exact .inl rfl | exact .inr (by assumption)), ?_⟩; (first | replace hsl2 := hsl2.ext hx3 | replace hsl2 := hsl2.ext ((Ext.drew Ext.rfl').trans hx3)); (first | replace hO := hO.ext hx3 | replace hO := hO.ext ((Ext.drew Ext.rfl').trans hx3))) | (apply G1_len; exact T.s22; exact rfl; exact rfl) | ((first | apply G1_gtr | apply G1_lss); exact rfl; exact rfl; exact rfl) | (apply G1_indexAddrN; exact T.s22; exact rfl; exact rfl; (first | assumption | exact Sl.ok (by assumption) | exact (Own.sl (by assumption)).ok); omega; exact rfl) | (apply G1_loadEl; exact T.a24; exact rfl; assumption; assumption; exact rfl; exact rfl)) | apply G_nil | apply Post_next | apply W_seq | apply W_region | (apply W_cond_dec; exact rfl; all_goals (intro h; try (exfalso; omega))) | apply W_skip | apply W_ret | apply W_block | apply Post_then_ret | apply Post_block_ret)
      all_goals try (exfalso; omega)
      refine Post_ret Tryd.results9 ⟨_, _, rfl, rfl, rfl⟩ ?_
      exact ⟨rfl, (by repeat first | assumption | exact Ext.rfl' | apply Ext.drew | apply Ext.alloc | refine Ext.trans ?_ (by assumption))⟩
  · have hil : i = ts.length := by omega
    rw [hil, List.take_of_length_le (Nat.le_refl _)] at hsm hwl hg
    obtain ⟨us, hus⟩ : ∃ us, ts.filter (rightT 4) = us := ⟨_, rfl⟩
    have hwR := wR_filter ts
    have hNl : ¬ (20 : Int) < (rs.length : Int) := by assumption
    have hN := many_len hC hsm (by omega)
    have huR : ∀ u ∈ us, rightT 4 u = true ∧ u ∈ ts := fun u hu => by
      rw [← hus] at hu
      exact ⟨(List.mem_filter.1 hu).2, (List.mem_filter.1 hu).1⟩
    have hfit : ∀ u ∈ us, fitsT 4 u := fun u hu => by
      obtain ⟨q, hq⟩ := List.getElem?_of_mem (huR u hu).2
      obtain ⟨r, hr⟩ := get_some (xs := rs) (k := q) (by rw [hlen]; exact get_lt hq)
      exact fits_of e (hC.get q r u hr hq) 4
    rw [hus] at hwR hwl hg
    have hws := write_spec hC2 (fun t ht => (small_of 9 t (by have := hsm t ht; omega)).mono (by omega)) (by omega) (TabIs.ext hT hx2)
    repeat' (first | (apply G_on; exact rfl; first | ((first | apply G1_assign | apply G1_move); exact rfl; exact rfl) | (apply G1_call (f := 15); exact rfl; exact rfl; exact rfl; exact hws; rintro _ w3 ⟨p3, c3, rfl, hs3, hx3⟩; refine ⟨(by first | exact .inl rfl | exact .inr (by assumption)), ?_⟩; (first | replace hO := hO.ext hx3 | replace hO := hO.ext ((Ext.drew Ext.rfl').trans hx3))) | (apply G1_len; exact T.s22; exact rfl; exact rfl) | (apply G1_lss; exact rfl; exact rfl; exact rfl)) | apply G_nil | apply Post_next | apply W_seq | apply W_region | (apply W_cond_dec; exact rfl; all_goals (intro h; try (exfalso; omega))) | apply W_exit | apply W_block | apply Post_then_exit | apply Post_block_exit)
    have hx03 : Ext w w3 := (by repeat first | assumption | exact Ext.rfl' | apply Ext.drew | apply Ext.alloc | refine Ext.trans ?_ (by assumption))
    refine W_loop (ι := Nat × Option Addr × Nat) (fun y => [(3, .slice pw ws.length cw), (5, .slice y.2.1 ((us.drop y.1).flatMap (wT 4)).length y.2.2), (6, .int .i64 (y.1 : Int))])
      (fun y w' => Ext w w' ∧ Own w' w.heap.size 24 eRep pw cw ws ∧ Sl w'.heap eByte y.2.1 y.2.2 ((us.drop y.1).flatMap (wT 4)) ∧ y.1 ≤ us.length ∧ ((us.drop y.1).flatMap (wT 4)).length ≤ 10000000) (fun y => us.length - y.1) (0, p3, c3) ⟨rfl, by rw [List.drop_zero, ← hwR]; rfl, rfl, trivial⟩
      ⟨hx03, hO, by rw [List.drop_zero, ← hwR]; exact hs3, Nat.zero_le _, by rw [List.drop_zero, ← hwR]; exact hN⟩ ?_
    clear hx03 hx3 hs3 hws hO
    rintro ⟨j, p4, c4⟩ w4 ⟨hx4, hO, hs4, hj, hl4⟩
    simp only at hs4 hj hl4
    refine W_keep [(3, .slice pw ws.length cw), (5, .slice p4 ((us.drop j).flatMap (wT 4)).length c4), (6, .int .i64 (j : Int))] ⟨rfl, rfl, rfl, trivial⟩ ?_
    by_cases hlt4 : j < us.length
    · obtain ⟨u, hu⟩ := get_some hlt4
      obtain ⟨r, hr⟩ := get_some (xs := ws) (k := j) (by omega)
      have hum := List.mem_of_getElem? hu
      have hdr := drop_at hu
      obtain ⟨bs, hbs⟩ : ∃ bs, bs = (us.drop j).flatMap (wT 4) := ⟨_, rfl⟩
      have hbs2 : bs = wT 4 u ++ (us.drop (j + 1)).flatMap (wT 4) := by rw [hbs, hdr, List.flatMap_cons]
      rw [← hbs] at hs4 hl4 ⊢
      have hrd := rdT_w 4 u (huR u hum).1 (hfit u hum) ((us.drop (j + 1)).flatMap (wT 4))
      rw [← hbs2] at hrd
      have hat := hg j r u hr hu
      have hread := read_spec hs4 (by omega) (hU.ext hx4) (TabIs.ext hT hx4) (hE.ext hx4)
      have hok4 := hs4.ok
      have hsl4 := hO.sl
      have hbl : (wT 4 u).length ≤ bs.length := by rw [hbs2, List.length_append]; omega
      repeat' (first | (apply G_on; exact rfl; first | (apply G1_move; exact rfl; exact rfl) | (apply G1_call (f := 33); exact rfl; exact rfl; exact rfl; exact hread; intro v w5 hv; refine ⟨(by first | exact .inl rfl | exact .inr hv.1), ?_⟩) | (apply G1_len; exact T.s22; exact rfl; exact rfl) | ((first | apply G1_lss | apply G1_extract); exact rfl; exact rfl; exact rfl)) | apply G_nil | apply Post_next | apply W_seq | apply W_region | (apply W_cond_dec; exact rfl; all_goals (intro h; try (exfalso; omega))) | apply W_skip | apply W_block)
      obtain ⟨hx5, ⟨t', j', r', hr1, rfl, hr2⟩ | ⟨hr1, _⟩⟩ := hv
      rotate_left
      · rw [hrd] at hr1; cases hr1
      rw [hrd] at hr1
      simp only [Option.some.injEq, Prod.mk.injEq] at hr1
      obtain ⟨rfl, rfl⟩ := hr1
      replace hsl4 := hsl4.ext hx5
      repeat' (apply G_on; exact rfl; (apply G1_extract; exact rfl; exact rfl; exact rfl))
      apply G_on; exact rfl; apply G1_alloc; exact T.zero24; exact rfl; exact rfl; intro a6 w6 ha6 hA6 hx6 hs6
      replace hsl4 := hsl4.ext hx6
      skip
      apply G_on; exact rfl; apply G1_storeB; exact T.z24; exact rfl; exact rfl; exact hA6; exact rfl; exact rfl; (first | exact Nat.le_of_ble_eq_true rfl | (focus (simp [Value.cells]; done))); (first | exact Enc.one _ _ | (focus (simp [Value.oneCell']; done)) | (focus (simp [Value.cells, Value.oneCell']; done)) | exact Enc.oneAgg _ _); exact rfl; (first | exact .inl rfl | exact .inr (by simp [exempt])); exact rfl; intro w7 hA7 hg7 hs7
      replace hA7 : Blk w7.heap a6 24 (eRep.enc r') := hA7
      have hx57 : Ext w5 w7 := hx6.own hg7 (fun k hk => by injection hk; omega)
      have hx47 : Ext w4 w7 := hx5.trans hx57
      replace hsl4 := (hO.sl).ext hx47
      have hat7 := hat.ext (hx4.trans hx47)
      have hr7 := hr2.shown.ext hx57
      repeat' (first | (apply G_on; exact rfl; first | ((first | apply G1_assign | apply G1_move); exact rfl; exact rfl) | (apply G1_call (f := 16); exact rfl; exact rfl; exact rfl; exact refsame_spec _ _ (hr7.ext (by repeat first | assumption | exact Ext.rfl' | apply Ext.drew | apply Ext.alloc | refine Ext.trans ?_ (by assumption))) (hat7.ext (by repeat first | assumption | exact Ext.rfl' | apply Ext.drew | apply Ext.alloc | refine Ext.trans ?_ (by assumption))); rintro _ w8 ⟨b8, rfl, hb8, hx8⟩; refine ⟨(by first | exact .inl rfl | exact .inr (by assumption)), ?_⟩) | (apply G1_sliceLoJ (q := (wT 4 u).length); exact T.s28; exact rfl; exact rfl; exact rfl; exact hok4; omega; exact rfl) | (apply G1_not_t; exact rfl; exact rfl) | (apply G1_not; exact rfl; exact rfl) | (apply G1_pick_f; exact rfl; exact rfl; exact rfl) | (apply G1_indexAddrN; exact T.s22; exact rfl; exact rfl; (first | assumption | exact Sl.ok (by assumption) | exact (Own.sl (by assumption)).ok); omega; exact rfl) | (apply G1_loadBAgg; exact T.a24; exact rfl; assumption; exact rfl; exact rfl) | (apply G1_loadEl; exact T.a24; exact rfl; assumption; assumption; exact rfl; exact rfl) | (apply G1_add; exact rfl; exact rfl; omega; omega; exact rfl)) | apply G_nil | apply Post_next | apply W_seq | apply W_region | (apply W_cond; exact rfl; all_goals intro h) | refine W_drawn 1 [] [0,1,2,3,4,5,6,7,8,9,10] mixed (by decide +kernel) ?_ | apply W_skip | apply W_ret | apply Post_then_ret | apply Post_block_ret | apply Post_block_normal)
      · exfalso
        rw [hb8.2 rfl] at h
        cases h
      · have hl5 : ((us.drop (j + 1)).flatMap (wT 4)).length = bs.length - (wT 4 u).length := by rw [hbs2, List.length_append]; omega
        have hdp := hs4.drop (l := (wT 4 u).length) (by have := hok4.le; omega)
        have hdd : bs.drop (wT 4 u).length = (us.drop (j + 1)).flatMap (wT 4) := by rw [hbs2]; exact List.drop_left' rfl
        rw [hdd] at hdp
        exact Post_round (j + 1, subp p4 c4 (wT 4 u).length 1, c4 - (wT 4 u).length) ⟨rfl, by show _ = some (Value.slice _ ((us.drop (j + 1)).flatMap (wT 4)).length _); rw [hl5]; rfl, rfl, trivial⟩ ⟨(by repeat first | assumption | exact Ext.rfl' | apply Ext.drew | apply Ext.alloc | refine Ext.trans ?_ (by assumption)), hO.ext (by repeat first | assumption | exact Ext.rfl' | apply Ext.drew | apply Ext.alloc | refine Ext.trans ?_ (by assumption)), hdp.ext (by repeat first | assumption | exact Ext.rfl' | apply Ext.drew | apply Ext.alloc | refine Ext.trans ?_ (by assumption)), by simp only; omega, by simp only; omega⟩ (by simp only; omega)
    · have hj' : j = us.length := by omega
      subst hj'
      rw [List.drop_of_length_le (Nat.le_refl _)]
      repeat' (first | (apply G_on; exact rfl; first | ((first | apply G1_assign | apply G1_move); exact rfl; exact rfl) | (apply G1_len; (first | exact T.s22 | exact T.s28); exact rfl; exact rfl) | ((first | apply G1_lss | apply G1_eql); exact rfl; exact rfl; exact rfl)) | apply G_nil | apply Post_next | apply W_seq | apply W_region | (apply W_cond_dec; exact rfl; all_goals (intro h; try (exfalso; omega))) | apply W_exit | apply W_ret | apply Post_then_exit | apply Post_block_exit)
      refine Post_ret Tryd.results9 ⟨_, _, rfl, rfl, rfl⟩ ?_
      exact ⟨rfl, (by repeat first | assumption | exact Ext.rfl' | apply Ext.drew | apply Ext.alloc | refine Ext.trans ?_ (by assumption))⟩
end Go.Proofs.YtikjnmpijflnaaaDoor
