/- resp.Same: the walk. -/
import Derived.Test.YtikjnmpijflnaaaDoorVRepSame
import Derived.Test.YtikjnmpijflnaaaDoorVRepAwake
namespace Go.V
/-- a pair that waits: as it lies, how deep, the lists -/
structure GP where
  r : RawP
  e : Nat
  ls : List Rep
  us : List Rep
def wtG (gs : List GP) : Nat := (gs.map (fun g => cntL g.e g.ls)).sum
theorem wtG_app (a b : List GP) : wtG (a ++ b) = wtG a + wtG b := by simp [wtG]
theorem wtG_one (g : GP) : wtG [g] = cntL g.e g.ls := by simp [wtG]
theorem rep_eq {x y : Rep} : x = y ↔ x.kind = y.kind ∧ x.s = y.s ∧ x.n = y.n ∧ x.l.length = y.l.length ∧ x.l = y.l :=
  ⟨fun h => by subst h; exact ⟨rfl, rfl, rfl, rfl, rfl⟩, fun ⟨h1, h2, h3, _, h4⟩ => Rep.ext' h1 h2 h3 h4⟩
theorem drop_eq {α : Type} {ls us : List α} {i : Nat} {x y : α} (hx : ls[i]? = some x) (hy : us[i]? = some y) : ls.drop i = us.drop i ↔ x = y ∧ ls.drop (i + 1) = us.drop (i + 1) := by
  rw [List.drop_eq_getElem_cons (get_lt hx), List.drop_eq_getElem_cons (get_lt hy)]
  rw [List.getElem?_eq_getElem (get_lt hx)] at hx
  rw [List.getElem?_eq_getElem (get_lt hy)] at hy
  injection hx with hx
  injection hy with hy
  rw [hx, hy, List.cons.injEq]
end Go.V
namespace Go.Proofs.YtikjnmpijflnaaaDoor
open Go.V
attribute [local irreducible] Blk Own hcell IntT SliceT PlainT AggT SizeT StrT FieldT ZeroT EqT ArrT
theorem init_last {α : Type} {l : List α} (h : 0 < l.length) : ∃ b x, l = b ++ [x] ∧ b.length + 1 = l.length := by
  refine ⟨l.take (l.length - 1), l[l.length - 1], ?_, by simp; omega⟩
  have h1 := take_snoc (xs := l) (k := l.length - 1) (x := l[l.length - 1]) (List.getElem?_eq_getElem _)
  rw [show l.length - 1 + 1 = l.length by omega, List.take_of_length_le (Nat.le_refl _)] at h1
  exact h1
theorem oneB_iff {p q : Option Addr} {n m : Nat} : oneB p n q m = true ↔ 0 < n ∧ n = m ∧ adr p 0 = adr q 0 := by
  unfold oneB
  simp only [Bool.and_eq_true, decide_eq_true_eq]



set_option maxHeartbeats 8000000 in
theorem same_spec {r1 r2 : RawR} {a b : Rep} {D D' : Nat} {w : World} (hA : RepAt (clear w.heap) D r1 a) (hB : RepAt (clear w.heap) D' r2 b) (hD : D ≤ 1000000) (hcn : cntT D a ≤ 1000000) :
    Ctr Tryd.prog 35 [.agg (eRep.enc r1).toArray, .agg (eRep.enc r2).toArray] w (fun v w' => ∃ r, v = .bool r ∧ (r = true ↔ a = b) ∧ Ext w w') := by
  refine Ctr_of Tryd.func35 Tryd.ntmps35 rfl rfl rfl ?_
  repeat' (first | apply W_seq | apply W_region)
  apply G_on; exact rfl; apply G1_box; exact rfl; exact rfl; exact rfl; intro a2 w1 ha2 hA2 hx1 hs1
  replace hA2 : Blk w1.heap a2 24 (eRep.enc r1) := hA2
  skip
  apply G_on; exact rfl; apply G1_box; exact rfl; exact rfl; exact rfl; intro a3 w2 ha3 hA3 hx2 hs2
  replace hA3 : Blk w2.heap a3 24 (eRep.enc r2) := hA3
  replace hA2 := hA2.ext hx2
  repeat' (first | (apply G_on; exact rfl; first | (apply G1_assign; exact rfl; exact rfl) | (apply G1_loadBAgg; exact T.a24; exact rfl; assumption; exact rfl; exact rfl)) | apply G_nil | apply Post_next | apply W_seq | apply W_region)
  apply G_on; exact rfl
  apply G1_buildN eRep [r1]; exact T.s22; exact rfl; exact rfl; exact rfl; exact rfl; exact rfl; exact Nat.succ_pos _; exact Nat.le_of_ble_eq_true rfl; exact rfl; exact rfl
  intro p3 w3 hO3 hx3 hz3
  replace hA3 := hA3.ext hx3
  repeat' (apply G_on; exact rfl; (apply G1_loadBAgg; exact T.a24; exact rfl; assumption; exact rfl; exact rfl))
  apply G_on; exact rfl
  apply G1_buildN eRep [r2]; exact T.s22; exact rfl; exact rfl; exact rfl; exact rfl; exact rfl; exact Nat.succ_pos _; exact Nat.le_of_ble_eq_true rfl; exact rfl; exact rfl
  intro p4 w4 hO4 hx4 hz4
  replace hO3 := hO3.ext hx4
  have hx04 : Ext w w4 := ((hx1.trans hx2).trans hx3).trans hx4
  have hg0 : PairOk w4.heap D ⟨p3, 1, 1, p4, 1, 1, 0, 0, none, 0, 0, none, 0, 0⟩ D [a] [b] := by
    refine ⟨⟨[r1], ⟨hO3.hidden (fun _ _ h => h), rfl, fun i r t hr ht => ?_⟩, rfl⟩, ⟨D', [r2], ⟨hO4.hidden (fun _ _ h => h), rfl, fun i r t hr ht => ?_⟩, rfl⟩, rfl, Nat.one_pos, ⟨Int.le_refl _, (by show (0 : Int) ≤ _; omega), Int.le_refl _, (by show (0 : Int) ≤ _; omega), ⟨Nat.le_refl _, Nat.zero_le _, fun _ => rfl, fun _ h _ => by cases h⟩, ⟨Nat.le_refl _, Nat.zero_le _, fun _ => rfl, fun _ h _ => by cases h⟩, .inl rfl, .inl rfl⟩, Nat.le_refl _⟩
    · cases i with
      | zero => simp at hr ht; subst hr ht; exact hA.cells (clear_ext hx04)
      | succ i => simp at hr
    · cases i with
      | zero => simp at hr ht; subst hr ht; exact hB.cells (clear_ext hx04)
      | succ i => simp at hr
  repeat' (apply G_on; exact rfl; (apply G1_build (.agg (ePr.enc ⟨p3, 1, 1, p4, 1, 1, 0, 0, none, 0, 0, none, 0, 0⟩).toArray); exact rfl; exact bldPr0 _ _ _ _ _ _; exact rfl))
  apply G_on; exact rfl
  apply G1_buildN ePr [⟨p3, 1, 1, p4, 1, 1, 0, 0, none, 0, 0, none, 0, 0⟩]; exact T.s99; exact rfl; exact rfl; exact rfl; exact rfl; exact rfl; exact Nat.succ_pos _; exact Nat.le_of_ble_eq_true rfl; exact rfl; exact rfl
  intro p5 w5 hO5 hx5 hz5
  repeat' (first | (apply G_on; exact rfl; (apply G1_assign; exact rfl; exact rfl)) | apply G_nil | apply Post_next | apply W_seq | apply W_block)
  refine W_loop (ι := Option Addr × Nat × List GP) (fun y => [(5, .slice y.1 (y.2.2.map GP.r).length y.2.1)])
    (fun y w' => Ext w4 w' ∧ Own w' w4.heap.size 98 ePr y.1 y.2.1 (y.2.2.map GP.r) ∧ (∀ g ∈ y.2.2, PairOk w4.heap D g.r g.e g.ls g.us) ∧ (a = b ↔ ∀ g ∈ y.2.2, g.ls = g.us) ∧ wtG y.2.2 ≤ 1000000) (fun y => wtG y.2.2)
    (p5, 1, [⟨⟨p3, 1, 1, p4, 1, 1, 0, 0, none, 0, 0, none, 0, 0⟩, D, [a], [b]⟩]) ⟨rfl, trivial⟩ ⟨hx5, hO5, ?_, ?_, ?_⟩ ?_
  · intro g hg
    simp only [List.mem_singleton] at hg
    subst hg
    exact hg0
  · simp
  · simp only [wtG, List.map_cons, List.map_nil, List.sum_cons, List.sum_nil, cntL]
    omega
  clear hO5 hx5 hO3 hO4 hA2 hA3
  rintro ⟨pp, cc, gs⟩ w6 ⟨hx6, hO, hok, hiff, hwt⟩
  simp only at hO hok hiff hwt
  refine W_keep [(5, .slice pp (gs.map GP.r).length cc)] ⟨rfl, trivial⟩ ?_
  have hlm : (gs.map GP.r).length = gs.length := by simp
  have hoks := hO.sl.ok
  have hles := hoks.le
  by_cases hpos : 0 < gs.length
  rotate_left
  · obtain rfl : gs = [] := List.eq_nil_of_length_eq_zero (by omega)
    repeat' (first | (apply G_on; exact rfl; first | ((first | apply G1_assign | apply G1_move); exact rfl; exact rfl) | (apply G1_len; exact T.s99; exact rfl; exact rfl) | (apply G1_gtr; exact rfl; exact rfl; exact rfl)) | apply G_nil | apply Post_next | apply W_seq | apply W_region | (apply W_cond_false; exact rfl) | apply W_exit | apply W_ret | apply Post_then_exit | apply Post_block_exit)
    refine Post_ret Tryd.results35 ⟨_, _, rfl, rfl, rfl⟩ ?_
    exact ⟨true, rfl, ⟨fun _ => hiff.2 (fun g hg => by cases hg), fun _ => rfl⟩, (by repeat first | assumption | exact Ext.rfl' | apply Ext.drew | apply Ext.alloc | refine Ext.trans ?_ (by assumption))⟩
  obtain ⟨gi, g, hgs, hgl⟩ := init_last hpos
  subst hgs
  have hgok := hok g (by simp)
  have hgi : ∀ x ∈ gi, PairOk w4.heap D x.r x.e x.ls x.us := fun x hx => hok x (by simp [hx])
  have hq : ((gi ++ [g]).map GP.r)[gi.length]? = some g.r := by simp
  obtain ⟨⟨pa, na, ca, pb, nb, cb, L, N, ta, tn, tc, ua, un, uc⟩, e, ls, us⟩ := g
  obtain ⟨rs, hra, hna⟩ := hgok.a
  obtain ⟨e', rs', hrb, hnb⟩ := hgok.b
  simp only at hra hna hrb hnb hq
  subst hna hnb
  have hlu := hgok.len
  have htr := hgok.tr
  have hMe := hgok.le
  simp only at hlu htr hMe
  have hl1 := hra.len
  have hl2 := hrb.len
  have hsl := hO.sl
  have hlen1 : ((gi ++ [(⟨⟨pa, rs.length, ca, pb, rs'.length, cb, L, N, ta, tn, tc, ua, un, uc⟩, e, ls, us⟩ : GP)]).map GP.r).length = gi.length + 1 := by simp
  have nb1 := hO.sl.bound
  repeat' (first | (apply G_on; exact rfl; first | (apply G1_move; exact rfl; exact rfl) | (apply G1_indexAddrJ (q := gi.length); exact T.s99; exact rfl; exact rfl; omega; exact hoks; omega; exact rfl) | (apply G1_loadEl; exact T.a98; exact rfl; assumption; assumption; exact rfl; exact rfl) | (apply G1_len; exact T.s99; exact rfl; exact rfl) | (apply G1_gtr; exact rfl; exact rfl; exact rfl) | (apply G1_sub; exact rfl; exact rfl; omega; omega; exact rfl)) | apply G_nil | apply Post_next | apply W_seq | apply W_region | (apply W_cond_dec; exact rfl; all_goals (intro h; try (exfalso; omega))) | apply W_skip | apply W_block)
  apply G_on; exact rfl; apply G1_alloc; exact T.zero98; exact rfl; exact rfl; intro a6 w7 ha6 hA6 hx7 hs7
  skip
  apply G_on; exact rfl; apply G1_storeB; exact T.z98; exact rfl; exact rfl; exact hA6; exact rfl; exact rfl; (first | exact Nat.le_of_ble_eq_true rfl | (focus (simp [Value.cells]; done))); (first | exact Enc.one _ _ | (focus (simp [Value.oneCell']; done)) | (focus (simp [Value.cells, Value.oneCell']; done)) | exact Enc.oneAgg _ _); exact rfl; (first | exact .inl rfl | exact .inr (by simp [exempt])); exact rfl; intro w8 hA8 hg8 hs8
  replace hA8 : Blk w8.heap a6 98 (ePr.enc ⟨pa, rs.length, ca, pb, rs'.length, cb, L, N, ta, tn, tc, ua, un, uc⟩) := hA8
  have hx68 : Ext w6 w8 := hx7.own hg8 (fun k hk => by injection hk; omega)
  have hx8 := hx6.trans hx68
  have z46 := hx6.size
  have z68 := hx68.size
  have hge6 := hO.ge
  replace hO := (hO.ext hx68).take gi.length
  have htk : ((gi ++ [(⟨⟨pa, rs.length, ca, pb, rs'.length, cb, L, N, ta, tn, tc, ua, un, uc⟩, e, ls, us⟩ : GP)]).map GP.r).take gi.length = gi.map GP.r := by simp
  rw [htk] at hO
  have hlg : (gi.map GP.r).length = gi.length := by simp
  have hwt2 : wtG gi + cntL e ls ≤ 1000000 := by rw [wtG_app, wtG_one] at hwt; exact hwt
  repeat' (first | (apply G_on; exact rfl; first | ((first | apply G1_assign | apply G1_move); exact rfl; exact rfl) | (apply G1_sliceHiJ (q := gi.length); exact T.s99; exact rfl; exact rfl; omega; omega; exact rfl) | (apply G1_len; (first | exact T.s99 | exact T.s22); exact rfl; exact rfl) | (apply G1_sub; exact rfl; exact rfl; omega; omega; exact rfl) | (apply G1_fieldAddr; exact T.f98_0; exact rfl; exact rfl) | (apply G1_loadB; exact T.p22; exact rfl; assumption; exact rfl; exact rfl)) | apply G_nil | apply Post_next | apply W_seq | apply W_region | apply W_block)
  refine W_loop (ι := Nat × Option Addr × Nat × List GP) (fun y => [(5, .slice y.2.1 (y.2.2.2.map GP.r).length y.2.2.1), (6, .pointer (some (adr (bx a6) 0))), (33, .slice pa rs.length ca), (34, .int .i64 (rs.length : Int)), (35, .int .i64 (y.1 : Int))])
    (fun y w' => Ext w4 w' ∧ Blk w'.heap a6 98 (ePr.enc ⟨pa, rs.length, ca, pb, rs'.length, cb, L, N, ta, tn, tc, ua, un, uc⟩) ∧ Own w' w4.heap.size 98 ePr y.2.1 y.2.2.1 (y.2.2.2.map GP.r) ∧ (∀ g ∈ y.2.2.2, PairOk w4.heap D g.r g.e g.ls g.us) ∧
      (a = b ↔ (∀ g ∈ y.2.2.2, g.ls = g.us) ∧ ls.drop y.1 = us.drop y.1) ∧ wtG y.2.2.2 + cntL e (ls.drop y.1) + y.1 ≤ wtG gi + cntL e ls ∧ y.1 ≤ rs.length ∧ (∀ k, blk y.2.1 = some k → k ≠ a6) ∧ w8.heap.size ≤ w'.heap.size) (fun y => rs.length - y.1)
    (0, pp, cc, gi) ⟨by show _ = some (Value.slice pp (gi.map GP.r).length cc); rw [hlg]; rfl, rfl, rfl, rfl, rfl, trivial⟩ ⟨hx8, hA8, hO, hgi, ?_, ?_, Nat.zero_le _, fun k hk h => ?_, Nat.le_refl _⟩ ?_
  · rw [hiff]
    simp only [List.mem_append, List.mem_singleton, List.drop_zero]
    constructor
    · exact fun h => ⟨fun x hx => h x (.inl hx), h _ (.inr rfl)⟩
    · rintro ⟨h1, h2⟩ x (hx | rfl)
      · exact h1 x hx
      · exact h2
  · simp
  · have := hge6 k hk; omega
  clear hA8 hO
  rintro ⟨i, p9, c9, gj⟩ w9 ⟨hx9, hA9, hO, hokj, hifj, hwtj, hi, hne9, hz9⟩
  simp only at hO hokj hifj hwtj hi hne9
  refine W_keep [(5, .slice p9 (gj.map GP.r).length c9), (6, .pointer (some (adr (bx a6) 0))), (33, .slice pa rs.length ca), (34, .int .i64 (rs.length : Int)), (35, .int .i64 (i : Int))] ⟨rfl, rfl, rfl, rfl, rfl, trivial⟩ ?_
  have hge9 := hO.ge
  have hlj : (gj.map GP.r).length = gj.length := by simp
  have ha6l : a6 < w8.heap.size := by omega
  by_cases hlt : i < rs.length
  rotate_left
  · have hil : i = ls.length := by omega
    have hd1 : ls.drop i = [] := List.drop_of_length_le (by omega)
    have hd2 : us.drop i = [] := List.drop_of_length_le (by omega)
    rw [hd1, hd2] at hifj
    rw [hd1] at hwtj
    have hc0 : cntL e [] = 0 := rfl
    have hpos2 := hgok.pos
    simp only at hpos2
    have hw1 : wtG (gi ++ [(⟨⟨pa, rs.length, ca, pb, rs'.length, cb, L, N, ta, tn, tc, ua, un, uc⟩, e, ls, us⟩ : GP)]) = wtG gi + cntL e ls := by rw [wtG_app, wtG_one]
    repeat' (first | (apply G_on; exact rfl; (apply G1_lss; exact rfl; exact rfl; exact rfl)) | apply G_nil | apply Post_next | apply W_seq | apply W_region | (apply W_cond_dec; exact rfl; all_goals (intro h; try (exfalso; omega))) | apply W_exit | apply Post_then_exit | apply Post_block_exit | apply Post_block_normal)
    exact Post_round (p9, c9, gj) ⟨rfl, trivial⟩ ⟨hx9, hO, hokj, by rw [hifj]; simp, by simp only; omega⟩ (by simp only; rw [hw1]; omega)
  obtain ⟨x, hx⟩ := get_some hlt
  obtain ⟨X, hX⟩ := get_some (xs := ls) (k := i) (by omega)
  have hlt' : i < rs'.length := by omega
  obtain ⟨y, hy⟩ := get_some hlt'
  obtain ⟨Y, hY⟩ := get_some (xs := us) (k := i) (by omega)
  have hatx := hra.get i x X hx hX
  have haty := hrb.get i y Y hy hY
  obtain ⟨e1, rx, rfl, kx, sx, nx, lx, szx, fx, hRx⟩ := hatx.open
  obtain ⟨e2, ry, rfl, ky, sy, ny, ly, szy, fy, hRy⟩ := haty.open
  simp only [maxLen] at szx szy
  have hslx : Sl w9.heap eRep pa ca rs := (hra.sl.cells clear_shown).ext hx9
  have hsly : Sl w9.heap eRep pb cb rs' := (hrb.sl.cells clear_shown).ext hx9
  have hoky := hsly.ok
  rw [drop_eq hX hY] at hifj
  have hdl : ls.drop i = X :: ls.drop (i + 1) := by
    rw [List.drop_eq_getElem_cons (get_lt hX)]
    rw [List.getElem?_eq_getElem (get_lt hX)] at hX
    injection hX with hX
    rw [hX]
  rw [hdl, cntL_cons, cntT_succ] at hwtj
  have hlX := hRx.len
  have hlY := hRy.len
  repeat' (first | (apply G_on; exact rfl; first | (apply G1_move; exact rfl; exact rfl) | (apply G1_loadEl; exact T.a24; exact rfl; assumption; assumption; exact rfl; exact rfl) | (apply G1_lss; exact rfl; exact rfl; exact rfl) | (apply G1_indexAddrN; exact T.s22; exact rfl; exact rfl; (first | assumption | exact Sl.ok (by assumption) | exact (Own.sl (by assumption)).ok); omega; exact rfl)) | apply G_nil | apply Post_next | apply W_seq | apply W_region | (apply W_cond_dec; exact rfl; all_goals (intro h; try (exfalso; omega))) | apply W_skip | apply W_block)
  apply G_on; exact rfl; apply G1_alloc; exact T.zero24; exact rfl; exact rfl; intro a10 w10 ha10 hA10 hx10 hs10
  replace hslx := hslx.ext hx10
  repeat' (apply G_on; exact rfl; (apply G1_assign; exact rfl; exact rfl))
  apply G_on; exact rfl; apply G1_storeB; exact T.z24; exact rfl; exact rfl; exact hA10; exact rfl; exact rfl; (first | exact Nat.le_of_ble_eq_true rfl | (focus (simp [Value.cells]; done))); (first | exact Enc.one _ _ | (focus (simp [Value.oneCell']; done)) | (focus (simp [Value.cells, Value.oneCell']; done)) | exact Enc.oneAgg _ _); exact rfl; (first | exact .inl rfl | exact .inr (by simp [exempt])); exact rfl; intro w11 hA11 hg11 hs11
  replace hA11 : Blk w11.heap a10 24 [.int .i64 x.kind, .string x.s, .int .i64 x.n, .slice x.p x.len x.cap] := hA11
  have hx911 : Ext w9 w11 := hx10.own hg11 (fun k hk => by injection hk; omega)
  replace hsly := hsly.ext hx911
  replace hA9 := hA9.ext hx911
  replace hO := hO.ext hx911
  repeat' (first | (apply G_on; exact rfl; first | (apply G1_move; exact rfl; exact rfl) | (apply G1_indexAddrN (q := i); exact T.s22; exact rfl; exact rfl; exact hoky; exact hlt'; exact rfl) | (apply G1_loadEl; exact T.a24; exact rfl; assumption; assumption; exact rfl; exact rfl) | (apply G1_fieldAddr; exact T.f98_1; exact rfl; exact rfl) | (apply G1_loadB; exact T.p22; exact rfl; assumption; exact rfl; exact rfl)) | apply G_nil | apply Post_next | apply W_seq | apply W_region)
  apply G_on; exact rfl; apply G1_alloc; exact T.zero24; exact rfl; exact rfl; intro a12 w12 ha12 hA12 hx12 hs12
  replace hsly := hsly.ext hx12
  replace hA9 := hA9.ext hx12
  replace hA11 := hA11.ext hx12
  replace hO := hO.ext hx12
  skip
  apply G_on; exact rfl; apply G1_storeB; exact T.z24; exact rfl; exact rfl; exact hA12; exact rfl; exact rfl; (first | exact Nat.le_of_ble_eq_true rfl | (focus (simp [Value.cells]; done))); (first | exact Enc.one _ _ | (focus (simp [Value.oneCell']; done)) | (focus (simp [Value.cells, Value.oneCell']; done)) | exact Enc.oneAgg _ _); exact rfl; (first | exact .inl rfl | exact .inr (by simp [exempt])); exact rfl; intro w13 hA13 hg13 hs13
  replace hA13 : Blk w13.heap a12 24 [.int .i64 y.kind, .string y.s, .int .i64 y.n, .slice y.p y.len y.cap] := hA13
  have hx1113 : Ext w11 w13 := hx12.own hg13 (fun k hk => by injection hk; omega)
  replace hA9 := hA9.grown hg13 (fun e => by injection e; have := hx911.size; omega)
  replace hA11 := hA11.grown hg13 (fun e => by injection e; omega)
  replace hO := hO.kept hg13 (fun a ha e => by injection e with e; have := hge9 a.block (by rw [ha]; rfl); have := hx911.size; omega)
  have hx13 : Ext w4 w13 := (hx9.trans hx911).trans hx1113
  have hx013 : Ext w w13 := hx04.trans hx13
  have hz13 := hx911.size
  have hz13' := hx1113.size
  by_cases hk : x.kind = y.kind
  rotate_left
  · repeat' (first | (apply G_on; exact rfl; first | ((first | apply G1_assign | apply G1_move); exact rfl; exact rfl) | (apply G1_fieldAddr; exact T.f24_0; exact rfl; exact rfl) | (apply G1_loadB; exact T.p3; exact rfl; assumption; exact rfl; exact rfl) | (apply G1_neq; exact rfl; exact rfl; exact rfl) | (apply G1_pick_t; exact rfl; exact rfl; exact rfl)) | apply G_nil | apply Post_next | apply W_seq | apply W_region | (apply W_cond_true; exact rfl) | (apply G_off; exact rfl; exact rfl) | ((fail_if_success (apply G_on; exact rfl)); apply G_split_dec; exact rfl; exact rfl; all_goals (intro h; try (exfalso; omega))) | apply W_ret | apply Post_then_ret | apply Post_block_ret)
    all_goals try (exfalso; omega)
    refine Post_ret Tryd.results35 ⟨_, _, rfl, rfl, rfl⟩ ?_
    refine ⟨false, rfl, ⟨fun h => (by cases h), fun h => ?_⟩, (by repeat first | assumption | exact Ext.rfl' | apply Ext.drew | apply Ext.alloc | refine Ext.trans ?_ (by assumption))⟩
    exfalso
    have hXY := (hifj.1 h).2.1
    exact hk (by rw [kx, ky, hXY])
  by_cases hs : x.s = y.s
  rotate_left
  · repeat' (first | (apply G_on; exact rfl; first | ((first | apply G1_assign | apply G1_move); exact rfl; exact rfl) | (apply G1_sneqT; exact rfl; exact rfl; exact hs; exact rfl) | (apply G1_fieldAddr; (first | exact T.f24_0 | exact T.f24_1); exact rfl; exact rfl) | (apply G1_loadB; (first | exact T.p3 | exact T.p9); exact rfl; assumption; exact rfl; exact rfl) | (apply G1_neq; exact rfl; exact rfl; exact rfl) | (apply G1_pick_t; exact rfl; exact rfl; exact rfl) | (apply G1_pick_f; exact rfl; exact rfl; exact rfl)) | apply G_nil | apply Post_next | apply W_seq | apply W_region | (apply W_cond_true; exact rfl) | (apply G_off; exact rfl; exact rfl) | ((fail_if_success (apply G_on; exact rfl)); apply G_split_dec; exact rfl; exact rfl; all_goals (intro h; try (exfalso; omega))) | apply W_ret | apply Post_then_ret | apply Post_block_ret)
    all_goals try (exfalso; omega)
    refine Post_ret Tryd.results35 ⟨_, _, rfl, rfl, rfl⟩ ?_
    refine ⟨false, rfl, ⟨fun h => (by cases h), fun h => ?_⟩, (by repeat first | assumption | exact Ext.rfl' | apply Ext.drew | apply Ext.alloc | refine Ext.trans ?_ (by assumption))⟩
    exfalso
    have hXY := (hifj.1 h).2.1
    exact hs (by rw [sx, sy, hXY])
  by_cases hn : x.n = y.n
  rotate_left
  · repeat' (first | (apply G_on; exact rfl; first | ((first | apply G1_assign | apply G1_move); exact rfl; exact rfl) | (apply G1_sneqF; exact rfl; exact rfl; exact hs; exact rfl) | (apply G1_fieldAddr; (first | exact T.f24_0 | exact T.f24_1 | exact T.f24_2); exact rfl; exact rfl) | (apply G1_loadB; (first | exact T.p3 | exact T.p9); exact rfl; assumption; exact rfl; exact rfl) | (apply G1_neq; exact rfl; exact rfl; exact rfl) | (apply G1_pick_t; exact rfl; exact rfl; exact rfl) | (apply G1_pick_f; exact rfl; exact rfl; exact rfl)) | apply G_nil | apply Post_next | apply W_seq | apply W_region | (apply W_cond_true; exact rfl) | (apply G_off; exact rfl; exact rfl) | ((fail_if_success (apply G_on; exact rfl)); apply G_split_dec; exact rfl; exact rfl; all_goals (intro h; try (exfalso; omega))) | apply W_ret | apply Post_then_ret | apply Post_block_ret)
    all_goals try (exfalso; omega)
    refine Post_ret Tryd.results35 ⟨_, _, rfl, rfl, rfl⟩ ?_
    refine ⟨false, rfl, ⟨fun h => (by cases h), fun h => ?_⟩, (by repeat first | assumption | exact Ext.rfl' | apply Ext.drew | apply Ext.alloc | refine Ext.trans ?_ (by assumption))⟩
    exfalso
    have hXY := (hifj.1 h).2.1
    exact hn (by rw [nx, ny, hXY])
  by_cases hl : x.len = y.len
  rotate_left
  · repeat' (first | (apply G_on; exact rfl; first | ((first | apply G1_assign | apply G1_move); exact rfl; exact rfl) | (apply G1_sneqF; exact rfl; exact rfl; exact hs; exact rfl) | (apply G1_len; exact T.s22; exact rfl; exact rfl) | (apply G1_fieldAddr; (first | exact T.f24_0 | exact T.f24_1 | exact T.f24_2 | exact T.f24_3); exact rfl; exact rfl) | (apply G1_loadB; (first | exact T.p22 | exact T.p3 | exact T.p9); exact rfl; assumption; exact rfl; exact rfl) | (apply G1_neq; exact rfl; exact rfl; exact rfl) | (apply G1_pick_f; exact rfl; exact rfl; exact rfl)) | apply G_nil | apply Post_next | apply W_seq | apply W_region | (apply W_cond_dec; exact rfl; all_goals (intro h; try (exfalso; omega))) | ((fail_if_success (apply G_on; exact rfl)); apply G_split_dec; exact rfl; exact rfl; all_goals (intro h; try (exfalso; omega))) | apply W_ret | apply Post_then_ret | apply Post_block_ret)
    all_goals try (exfalso; omega)
    refine Post_ret Tryd.results35 ⟨_, _, rfl, rfl, rfl⟩ ?_
    refine ⟨false, rfl, ⟨fun h => (by cases h), fun h => ?_⟩, (by repeat first | assumption | exact Ext.rfl' | apply Ext.drew | apply Ext.alloc | refine Ext.trans ?_ (by assumption))⟩
    exfalso
    have hXY := (hifj.1 h).2.1
    exact hl (by rw [lx, ly, hlX, hlY, hXY])
  have hOx : Okp x.p x.len x.cap := lx ▸ hRx.sl.ok
  have hOy : Okp y.p y.len y.cap := ly ▸ hRy.sl.ok
  have hone := fun w' (hx' : Ext w4 w') => one_spec (w := w') hOx hOy (fun h0 he => ⟨(bare_of hRx.sl (by omega)).ext hx', (bare_of hRy.sl (by omega)).ext hx'⟩)
  have hne13 : ∀ k, blk p9 = some k → k ≠ a6 := hne9
  have hXm : X ∈ ls := List.mem_of_getElem? hX
  cases ho1 : oneB x.p x.len y.p y.len with
  | true =>
    rw [ho1] at hone
    obtain ⟨o1, o2, o3⟩ := oneB_iff.1 ho1
    have hXYl : X.l = Y.l := hRx.det hRy (by omega) o3
    have hXY : X = Y := rep_eq.2 ⟨by rw [← kx, ← ky, hk], by rw [← sx, ← sy, hs], by rw [← nx, ← ny, hn], by rw [hXYl], hXYl⟩
    repeat' (first | (apply G_on; exact rfl; first | (apply G1_move; exact rfl; exact rfl) | (apply G1_sneqF; exact rfl; exact rfl; exact hs; exact rfl) | (apply G1_call (f := 62); exact rfl; exact rfl; exact rfl; exact hone _ (by repeat first | assumption | exact Ext.rfl' | apply Ext.drew | apply Ext.alloc | refine Ext.trans ?_ (by assumption)); rintro _ w14 ⟨rfl, hx14⟩; refine ⟨(by first | exact .inl rfl | exact .inr (by assumption)), ?_⟩; (first | replace hA9 := hA9.ext hx14 | replace hA9 := hA9.ext ((Ext.drew Ext.rfl').trans hx14)); (first | replace hO := hO.ext hx14 | replace hO := hO.ext ((Ext.drew Ext.rfl').trans hx14))) | (apply G1_len; exact T.s22; exact rfl; exact rfl) | (apply G1_fieldAddr; (first | exact T.f24_0 | exact T.f24_1 | exact T.f24_2 | exact T.f24_3); exact rfl; exact rfl) | (apply G1_loadB; (first | exact T.p22 | exact T.p3 | exact T.p9); exact rfl; assumption; exact rfl; exact rfl) | (apply G1_neq; exact rfl; exact rfl; exact rfl) | (apply G1_pick_f; exact rfl; exact rfl; exact rfl) | (apply G1_add; exact rfl; exact rfl; omega; omega; exact rfl)) | apply G_nil | apply Post_next | apply W_seq | apply W_region | (apply W_cond_true; exact rfl) | (apply W_cond_dec; exact rfl; all_goals (intro h; try (exfalso; omega))) | ((fail_if_success (apply G_on; exact rfl)); apply G_split_dec; exact rfl; exact rfl; all_goals (intro h; try (exfalso; omega))) | apply W_skip | apply W_exit | apply Post_then_exit | apply Post_block_exit)
    all_goals try (exfalso; omega)
    exact Post_round (i + 1, p9, c9, gj) ⟨rfl, rfl, rfl, rfl, rfl, trivial⟩ ⟨(by repeat first | assumption | exact Ext.rfl' | apply Ext.drew | apply Ext.alloc | refine Ext.trans ?_ (by assumption)), hA9, hO, hokj, by rw [hifj]; exact ⟨fun h => ⟨h.1, h.2.2⟩, fun h => ⟨h.1, hXY, h.2⟩⟩, by simp only; omega, by simp only; omega, hne13, by have := hx14.size; omega⟩ (by simp only; omega)
  | false =>
    rw [ho1] at hone
    by_cases hx0 : x.len = 0
    · have hX0 : X.l = [] := List.eq_nil_of_length_eq_zero (by omega)
      have hY0 : Y.l = [] := List.eq_nil_of_length_eq_zero (by omega)
      have hXY : X = Y := rep_eq.2 ⟨by rw [← kx, ← ky, hk], by rw [← sx, ← sy, hs], by rw [← nx, ← ny, hn], by rw [hX0, hY0], by rw [hX0, hY0]⟩
      rw [hx0] at hone hA11
      have hy0 : y.len = 0 := by omega
      repeat' (first | (apply G_on; exact rfl; first | (apply G1_move; exact rfl; exact rfl) | (apply G1_sneqF; exact rfl; exact rfl; exact hs; exact rfl) | (apply G1_call (f := 62); exact rfl; exact rfl; exact rfl; exact hone _ (by repeat first | assumption | exact Ext.rfl' | apply Ext.drew | apply Ext.alloc | refine Ext.trans ?_ (by assumption)); rintro _ w14 ⟨rfl, hx14⟩; refine ⟨(by first | exact .inl rfl | exact .inr (by assumption)), ?_⟩; (first | replace hA9 := hA9.ext hx14 | replace hA9 := hA9.ext ((Ext.drew Ext.rfl').trans hx14)); (first | replace hO := hO.ext hx14 | replace hO := hO.ext ((Ext.drew Ext.rfl').trans hx14)); (first | replace hA11 := hA11.ext hx14 | replace hA11 := hA11.ext ((Ext.drew Ext.rfl').trans hx14)); (first | replace hA13 := hA13.ext hx14 | replace hA13 := hA13.ext ((Ext.drew Ext.rfl').trans hx14))) | (apply G1_call (f := 42); exact rfl; exact rfl; exact rfl; exact enter_nil (r := ⟨pa, rs.length, ca, pb, rs'.length, cb, L, N, ta, tn, tc, ua, un, uc⟩); rintro _ w15 ⟨rfl, hx15⟩; refine ⟨(by first | exact .inl rfl | exact .inr (by assumption)), ?_⟩; (first | replace hA9 := hA9.ext hx15 | replace hA9 := hA9.ext ((Ext.drew Ext.rfl').trans hx15)); (first | replace hO := hO.ext hx15 | replace hO := hO.ext ((Ext.drew Ext.rfl').trans hx15))) | (apply G1_loadBSub; exact T.a68; exact rfl; assumption; exact rfl; exact rfl; exact rfl) | (apply G1_len; exact T.s22; exact rfl; exact rfl) | (apply G1_extract; exact rfl; exact rfl; exact rfl) | (apply G1_fieldAddr; (first | exact T.f24_0 | exact T.f24_1 | exact T.f24_2 | exact T.f24_3 | exact T.f98_2); exact rfl; exact rfl) | (apply G1_loadB; (first | exact T.p22 | exact T.p3 | exact T.p9); exact rfl; assumption; exact rfl; exact rfl) | (apply G1_neq; exact rfl; exact rfl; exact rfl) | (apply G1_pick_f; exact rfl; exact rfl; exact rfl)) | apply G_nil | apply Post_next | apply W_seq | apply W_region | (apply W_cond_false; exact rfl) | (apply W_cond_dec; exact rfl; all_goals (intro h; try (exfalso; omega))) | ((fail_if_success (apply G_on; exact rfl)); apply G_split_dec; exact rfl; exact rfl; all_goals (intro h; try (exfalso; omega))) | apply W_skip)
      all_goals try (exfalso; omega)
      apply G_on; exact rfl; apply G1_alloc; exact T.zero68; exact rfl; exact rfl; intro a16 w16 ha16 hA16 hx16 hs16
      replace hA9 := hA9.ext hx16
      replace hO := hO.ext hx16
      skip
      apply G_on; exact rfl; apply G1_storeB; exact T.z68; exact rfl; exact rfl; exact hA16; exact rfl; exact rfl; (first | exact Nat.le_of_ble_eq_true rfl | (focus (simp [Value.cells]; done))); (first | exact Enc.one _ _ | (focus (simp [Value.oneCell']; done)) | (focus (simp [Value.cells, Value.oneCell']; done)) | exact Enc.oneAgg _ _); exact rfl; (first | exact .inl rfl | exact .inr (by simp [exempt])); exact rfl; intro w17 hA17 hg17 hs17
      have hx1517 : Ext w15 w17 := hx16.own hg17 (fun k hk => by injection hk; omega)
      have hz15 := hx14.size
      have hz15' := hx15.size
      replace hA9 := hA9.grown hg17 (fun e => by injection e; omega)
      replace hO := hO.kept hg17 (fun a ha e => by injection e with e; have := hge9 a.block (by rw [ha]; rfl); omega)
      repeat' (first | (apply G_on; exact rfl; first | ((first | apply G1_assign | apply G1_move); exact rfl; exact rfl) | (apply G1_add; exact rfl; exact rfl; omega; omega; exact rfl)) | apply G_nil | apply Post_next | apply W_seq | apply W_region | (apply W_cond_false; exact rfl) | apply W_skip | apply Post_block_normal)
      exact Post_round (i + 1, p9, c9, gj) ⟨rfl, rfl, rfl, rfl, rfl, trivial⟩ ⟨(by repeat first | assumption | exact Ext.rfl' | apply Ext.drew | apply Ext.alloc | refine Ext.trans ?_ (by assumption)), hA9, hO, hokj, by rw [hifj]; exact ⟨fun h => ⟨h.1, h.2.2⟩, fun h => ⟨h.1, hXY, h.2⟩⟩, by simp only; omega, by simp only; omega, hne13, by have := hx1517.size; omega⟩ (by simp only; omega)
    · have hxp : 0 < x.len := by omega
      have hno : oneB x.p x.len ta tn = false := by
        cases ho2 : oneB x.p x.len ta tn with
        | false => rfl
        | true =>
          exfalso
          obtain ⟨q1, q2, q3⟩ := oneB_iff.1 ho2
          rcases htr.old with h0 | ⟨e0, rt, tst, t1, t2, t3⟩
          · simp only at h0; omega
          · simp only at t1 t2
            have hd := hRx.det t1 (by omega) q3
            have := sizeOf_l hXm
            rw [hd] at this
            omega
      have hbT : x.len = tn → Bare w4.heap ta := fun he => by
        rcases htr.old with h0 | ⟨e0, rt, tst, t1, t2, t3⟩
        · simp only at h0; omega
        · simp only at t1 t2
          exact bare_of t1.sl (by omega)
      have hbX := bare_of hRx.sl (show 0 < rx.length by omega)
      have hbY := bare_of hRy.sl (show 0 < ry.length by omega)
      have tlo := htr.lo
      have thi := htr.hi
      have tn0 := htr.n0
      have tn1 := htr.n1
      simp only at tlo thi tn0 tn1
      obtain ⟨r', hr'⟩ : ∃ r', r' = (⟨pa, rs.length, ca, pb, rs'.length, cb, L, N, ta, tn, tc, ua, un, uc⟩ : RawP).step x.p x.len x.cap y.p y.len y.cap := ⟨_, rfl⟩
      have hgo := fun w' (hx' : Ext w4 w') => enter_go (w := w') (r := ⟨pa, rs.length, ca, pb, rs'.length, cb, L, N, ta, tn, tc, ua, un, uc⟩) (q := y.p) (m := y.len) (d := y.cap) hxp hno hOx htr.oka (hbX.ext hx') (fun he => (hbT he).ext hx') tlo (by simp only; omega) tn0 (by simp only; omega)
      rw [← hr'] at hgo
      repeat' (first | (apply G_on; exact rfl; first | (apply G1_move; exact rfl; exact rfl) | (apply G1_sneqF; exact rfl; exact rfl; exact hs; exact rfl) | (apply G1_call (f := 62); exact rfl; exact rfl; exact rfl; exact hone _ (by repeat first | assumption | exact Ext.rfl' | apply Ext.drew | apply Ext.alloc | refine Ext.trans ?_ (by assumption)); rintro _ w14 ⟨rfl, hx14⟩; refine ⟨(by first | exact .inl rfl | exact .inr (by assumption)), ?_⟩; (first | replace hA9 := hA9.ext hx14 | replace hA9 := hA9.ext ((Ext.drew Ext.rfl').trans hx14)); (first | replace hO := hO.ext hx14 | replace hO := hO.ext ((Ext.drew Ext.rfl').trans hx14)); (first | replace hA11 := hA11.ext hx14 | replace hA11 := hA11.ext ((Ext.drew Ext.rfl').trans hx14)); (first | replace hA13 := hA13.ext hx14 | replace hA13 := hA13.ext ((Ext.drew Ext.rfl').trans hx14))) | (apply G1_call (f := 42); exact rfl; exact rfl; exact rfl; exact hgo _ (by repeat first | assumption | exact Ext.rfl' | apply Ext.drew | apply Ext.alloc | refine Ext.trans ?_ (by assumption)); rintro _ w15 ⟨rfl, hx15⟩; refine ⟨(by first | exact .inl rfl | exact .inr (by assumption)), ?_⟩; (first | replace hA9 := hA9.ext hx15 | replace hA9 := hA9.ext ((Ext.drew Ext.rfl').trans hx15)); (first | replace hO := hO.ext hx15 | replace hO := hO.ext ((Ext.drew Ext.rfl').trans hx15)); (first | replace hA11 := hA11.ext hx15 | replace hA11 := hA11.ext ((Ext.drew Ext.rfl').trans hx15)); (first | replace hA13 := hA13.ext hx15 | replace hA13 := hA13.ext ((Ext.drew Ext.rfl').trans hx15))) | (apply G1_loadBSub; exact T.a68; exact rfl; assumption; exact rfl; exact rfl; exact rfl) | (apply G1_len; exact T.s22; exact rfl; exact rfl) | (apply G1_extract; exact rfl; exact rfl; exact rfl) | (apply G1_fieldAddr; (first | exact T.f24_0 | exact T.f24_1 | exact T.f24_2 | exact T.f24_3 | exact T.f98_2); exact rfl; exact rfl) | (apply G1_loadB; (first | exact T.p22 | exact T.p3 | exact T.p9); exact rfl; assumption; exact rfl; exact rfl) | (apply G1_neq; exact rfl; exact rfl; exact rfl) | (apply G1_pick_f; exact rfl; exact rfl; exact rfl)) | apply G_nil | apply Post_next | apply W_seq | apply W_region | (apply W_cond_false; exact rfl) | (apply W_cond_dec; exact rfl; all_goals (intro h; try (exfalso; omega))) | ((fail_if_success (apply G_on; exact rfl)); apply G_split_dec; exact rfl; exact rfl; all_goals (intro h; try (exfalso; omega))) | apply W_skip)
      all_goals try (exfalso; omega)
      apply G_on; exact rfl; apply G1_alloc; exact T.zero68; exact rfl; exact rfl; intro a16 w16 ha16 hA16 hx16 hs16
      replace hA9 := hA9.ext hx16
      replace hO := hO.ext hx16
      replace hA11 := hA11.ext hx16
      replace hA13 := hA13.ext hx16
      skip
      apply G_on; exact rfl; apply G1_storeB; exact T.z68; exact rfl; exact rfl; exact hA16; exact rfl; exact rfl; (first | exact Nat.le_of_ble_eq_true rfl | (focus (simp [Value.cells]; done))); (first | exact Enc.one _ _ | (focus (simp [Value.oneCell']; done)) | (focus (simp [Value.cells, Value.oneCell']; done)) | exact Enc.oneAgg _ _); exact rfl; (first | exact .inl rfl | exact .inr (by simp [exempt])); exact rfl; intro w17 hA17 hg17 hs17
      replace hA17 : Blk w17.heap a16 68 [.int .i64 r'.L, .int .i64 r'.N, .slice r'.ta r'.tn r'.tc, .slice r'.ua r'.un r'.uc] := hA17
      have hx1517 : Ext w15 w17 := hx16.own hg17 (fun k hk => by injection hk; omega)
      have hz15 := hx14.size
      have hz15' := hx15.size
      have l11 := hA11.lt
      have l13 := hA13.lt
      replace hA9 := hA9.grown hg17 (fun e => by injection e; omega)
      replace hA11 := hA11.grown hg17 (fun e => by injection e; omega)
      replace hA13 := hA13.grown hg17 (fun e => by injection e; omega)
      replace hO := hO.kept hg17 (fun a ha e => by injection e with e; have := hge9 a.block (by rw [ha]; rfl); omega)
      have hx417 : Ext w4 w17 := (by repeat first | assumption | exact Ext.rfl' | apply Ext.drew | apply Ext.alloc | refine Ext.trans ?_ (by assumption))
      have hwl := hO.sl.bound
      have hgjl : gj.length ≤ wtG gj := by
        have : ∀ l : List GP, (∀ g ∈ l, PairOk w4.heap D g.r g.e g.ls g.us) → l.length ≤ wtG l := by
          intro l
          induction l with
          | nil => intro _; exact Nat.zero_le _
          | cons g l ih =>
            intro h
            have h1 := ih (fun x hx => h x (List.mem_cons_of_mem _ hx))
            have h2 := (h g (by simp)).pos
            have h3 := cntL_len g.e g.ls
            have h4 : wtG (g :: l) = cntL g.e g.ls + wtG l := by simp [wtG]
            rw [h4, List.length_cons]
            omega
        exact this gj hokj
      repeat' (first | (apply G_on; exact rfl; first | ((first | apply G1_assign | apply G1_move); exact rfl; exact rfl) | (apply G1_build (.agg (ePr.enc ⟨x.p, x.len, x.cap, y.p, y.len, y.cap, r'.L, r'.N, r'.ta, r'.tn, r'.tc, r'.ua, r'.un, r'.uc⟩).toArray); exact rfl; exact bldPr _ _ _ _ _ _ _ _ _ _ _ _ _ _; exact rfl) | (apply G1_loadBAgg; exact T.a68; exact rfl; assumption; exact rfl; exact rfl) | (apply G1_fieldAddr; exact T.f24_3; exact rfl; exact rfl) | (apply G1_loadB; exact T.p22; exact rfl; assumption; exact rfl; exact rfl)) | apply G_nil | apply Post_next | apply W_seq | apply W_region | (apply W_cond_true; exact rfl))
      apply G_on; exact rfl
      apply G1_build1 ePr ⟨x.p, x.len, x.cap, y.p, y.len, y.cap, r'.L, r'.N, r'.ta, r'.tn, r'.tc, r'.ua, r'.un, r'.uc⟩; exact T.s99; exact rfl; exact rfl; exact rfl; decide; exact rfl; exact rfl
      intro p18 w18 hp18 hS18 _ hx18 hz18
      replace hA9 := hA9.ext hx18
      replace hO := hO.ext hx18
      have hz17 := hx417.size
      have hz1517 := hx1517.size
      repeat' (first | (apply G_on; exact rfl; first | ((first | apply G1_assign | apply G1_move); exact rfl; exact rfl) | (apply G1_appendA; exact T.s99; exact rfl; exact rfl; exact hO; exact hS18; exact rfl; omega; (simp only [List.length_cons, List.length_nil]; omega); (simp only [List.length_cons, List.length_nil]; omega); exact rfl; exact rfl; exact rfl; intro p19 c19 w19 ha19) | (apply G1_add; exact rfl; exact rfl; omega; omega; exact rfl)) | apply G_nil | apply Post_next | apply W_region | apply Post_block_normal)
      have hx419 : Ext w4 w19 := (hx417.trans hx18).own ha19.grown (fun k hk => (hge9 k hk).1)
      replace hA9 := hA9.grown ha19.grown (fun e => hne13 _ e rfl)
      have hz19 := ha19.grown.size
      have hmp : ∀ g : GP, (gj ++ [g]).map GP.r = gj.map GP.r ++ [g.r] := fun g => by simp
      refine Post_round (i + 1, p19, c19, gj ++ [⟨⟨x.p, x.len, x.cap, y.p, y.len, y.cap, r'.L, r'.N, r'.ta, r'.tn, r'.tc, r'.ua, r'.un, r'.uc⟩, e1, X.l, Y.l⟩]) ⟨by simp only; rw [hmp]; rfl, rfl, rfl, rfl, rfl, trivial⟩ ⟨hx419, hA9, by simp only; rw [hmp]; exact ha19.own, ?_, ?_, ?_, by simp only; omega, ?_, by omega⟩ (by simp only; omega)
      · intro g hg
        simp only [List.mem_append, List.mem_singleton] at hg
        rcases hg with hg | rfl
        · exact hokj g hg
        · refine ⟨⟨rx, hRx, lx.symm⟩, ⟨_, ry, hRy, ly.symm⟩, by simp only; omega, by simp only; omega, ?_, by simp only; omega⟩
          by_cases hN : N ≤ L + 1
          · have hst : r' = ⟨pa, rs.length, ca, pb, rs'.length, cb, L + 1, 2 * (L + 1), x.p, x.len, x.cap, y.p, y.len, y.cap⟩ := hr'.trans (if_pos hN)
            subst hst
            exact ⟨by simp only; omega, by simp only; omega, by simp only; omega, by simp only; omega, hOx, hOy, .inr ⟨e1, rx, X.l, hRx, lx.symm, Nat.le_refl _⟩, .inr hbY⟩
          · have hst : r' = ⟨pa, rs.length, ca, pb, rs'.length, cb, L + 1, N, ta, tn, tc, ua, un, uc⟩ := hr'.trans (if_neg hN)
            subst hst
            refine ⟨by simp only; omega, by simp only; omega, by simp only; omega, by simp only; omega, htr.oka, htr.okb, ?_, htr.oldb⟩
            rcases htr.old with h0 | ⟨e0, rt, tst, t1, t2, t3⟩
            · exact .inl h0
            · exact .inr ⟨e0, rt, tst, t1, t2, by have := sizeOf_l hXm; show SizeOf.sizeOf X.l ≤ SizeOf.sizeOf tst; exact Nat.le_trans (Nat.le_of_lt this) t3⟩
      · simp only
        rw [hifj]
        have hXY : X = Y ↔ X.l = Y.l := ⟨fun h => by rw [h], fun h => rep_eq.2 ⟨by rw [← kx, ← ky, hk], by rw [← sx, ← sy, hs], by rw [← nx, ← ny, hn], by rw [h], h⟩⟩
        simp only [List.mem_append, List.mem_singleton]
        constructor
        · rintro ⟨h1, h2, h3⟩
          refine ⟨fun g hg => ?_, h3⟩
          rcases hg with hg | rfl
          · exact h1 g hg
          · exact hXY.1 h2
        · rintro ⟨h1, h3⟩
          exact ⟨fun g hg => h1 g (.inl hg), hXY.2 (h1 _ (.inr rfl)), h3⟩
      · simp only
        rw [wtG_app, wtG_one]
        simp only
        omega
      · intro k hk hke
        have hnp := ha19.new
        unfold NewP at hnp
        rcases hnp with h | h
        · rw [h] at hk; exact hne13 k hk hke
        · have := h k hk; have := hx18.size; omega
end Go.Proofs.YtikjnmpijflnaaaDoor
