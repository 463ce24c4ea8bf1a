/- Texts of this proof laid together: ReqRead8, ReqRun, ReqPrint, ReqAwake, ReqFeeds, ReqCut, LRequestBack. -/
import Derived.Test.YtikjnmpijflnaaaDoorVM6
/- Requests: Feed at one part; the walk. -/
namespace Go.Proofs.YtikjnmpijflnaaaDoor
open Go.V
attribute [local irreducible] Blk Own hcell IntT SliceT PlainT AggT SizeT StrT FieldT ZeroT EqT ArrT



theorem feed_spec {w0 : World} {ar B : Nat} {p : Option Addr} {c : Nat} {inp : List UInt8} {pw : Option Addr} {cw : Nat} {r : RS} {q : Option Addr} {d : Nat} {ks : List Hdr} {parts : List (List UInt8)} {w : World} (hR : RdSt w0 w ar B p c inp 0 pw cw r 0)
    (hS : Sl w.heap eSlc q d ks) (hSn : ∀ x, q = some x → ks ≠ [] → ¬ (x.block = ar ∨ blk p = some x.block)) (hb : PartsAt w.heap (fun k => k = ar ∨ blk p = some k) ks parts) (hN : inp.length + parts.flatten.length ≤ 100000000) (hH : r.held ≤ 100000000) (hT : Pow w0) (hE : Errs w0) (hg0 : GoodR r) :
    Ctr Tryd.prog 26 [.pointer (some (adr (bx ar) 0)), .slice q ks.length d] w (FeedA w0 w ar B p pw (runP r (inp ++ parts.flatten))) := by
  have hbk := hR.blk
  have hlen := hb.len
  have hsb := hS.bound
  have hok := hS.ok
  refine Ctr_of Tryd.func26 Tryd.ntmps26 rfl rfl rfl ?_
  repeat' (first | apply W_seq | apply W_region)
  apply G_on; exact rfl; apply G1_box; exact rfl; exact rfl; exact rfl; intro a2 w1 ha1 hA2 hx1 hs1
  replace hA2 : Blk w1.heap a2 38 [.pointer (some (adr (bx ar) 0))] := hA2
  replace hbk := hbk.ext hx1
  repeat' (first | (apply G_on; exact rfl; first | ((first | apply G1_assign | apply G1_move | apply G1_nilCheck); exact rfl; exact rfl) | (apply G1_loadB; (first | exact T.p38 | exact T.p41); exact rfl; assumption; exact rfl; exact rfl) | (apply G1_fieldAddr; exact T.f75_6; exact rfl; exact rfl) | (apply G1_neq; exact rfl; exact rfl; exact rfl) | (apply G1_len; exact T.s76; exact rfl; exact rfl)) | apply G_nil | apply Post_next | apply W_seq | apply W_region | apply W_scopeI | (apply W_cond_false; exact rfl) | apply W_skip | apply W_block)
  all_goals try (exfalso; omega)
  refine W_loop (ι := Nat × Option Addr × Nat) (fun y => [(2, .pointer (some (adr (bx a2) 0))), (26, .slice q ks.length d), (27, .int .i64 (ks.length : Int)), (28, .int .i64 (y.1 : Int))])
    (fun y w' => y.1 ≤ ks.length ∧ RdSt w0 w' ar B y.2.1 y.2.2 (inp ++ (parts.take y.1).flatten) 0 pw cw r 0 ∧ Blk w'.heap a2 38 [.pointer (some (adr (bx ar) 0))] ∧ FrS (fun k => k = ar ∨ blk p = some k) w w' ∧ ∀ k, blk y.2.1 = some k → blk p = some k ∨ w.heap.size ≤ k) (fun y => ks.length - y.1) (0, p, c) ⟨rfl, rfl, rfl, rfl, trivial⟩
    ⟨Nat.zero_le _, by rw [List.take_zero, List.flatten_nil, List.append_nil]; exact hR.xt (by repeat first | assumption | exact Ext.rfl' | apply Ext.drew | apply Ext.alloc | refine Ext.trans ?_ (by assumption)), hA2.ext (by repeat first | assumption | exact Ext.rfl' | apply Ext.drew | apply Ext.alloc | refine Ext.trans ?_ (by assumption)), FrS.of_ext (by repeat first | assumption | exact Ext.rfl' | apply Ext.drew | apply Ext.alloc | refine Ext.trans ?_ (by assumption)), fun k hk => .inl hk⟩ ?_
  rintro ⟨i, p1, c1⟩ w2 ⟨hi, hR2, hA2, hF2, hnp2⟩
  simp only at hi hR2 hnp2
  refine W_keep [(2, .pointer (some (adr (bx a2) 0))), (26, .slice q ks.length d), (27, .int .i64 (ks.length : Int)), (28, .int .i64 (i : Int))] ⟨rfl, rfl, rfl, rfl, trivial⟩ ?_
  by_cases hi0 : i < ks.length
  · obtain ⟨⟨q1, n1, d1⟩, hq1⟩ := get_some hi0
    obtain ⟨b, hgb⟩ := get_some (xs := parts) (k := i) (by omega)
    obtain ⟨e1, hb1, hn1⟩ := hb.get i _ b hq1 hgb
    simp only at e1 hb1 hn1
    subst e1
    have hb2 : Sl w2.heap eByte q1 d1 b := hb1.fr' hF2 hn1
    have hS2 := hS.fr' hF2 hSn
    have hts := flat_snoc hgb
    have htl := flat_le parts (i + 1)
    rw [hts, List.length_append] at htl
    have hxd : Ext w2 w2.drew := Ext.drew Ext.rfl'
    have nA2 := (hR2.row.ext hxd).apartB (hA2.ext hxd) (by decide)
    have nAr := (hR2.row.ext hxd).apartB (hR2.blk.ext hxd) (by decide)
    have nW := (hR2.row.ext hxd).apartR (hR2.wds.ext hxd) (by decide)
    have hbk2 := hR2.blk
    repeat' (first | (apply G_on; exact rfl; first | (apply G1_assign; exact rfl; exact rfl) | (apply G1_indexAddrJ (q := i); exact T.s76; exact rfl; exact rfl; exact rfl; exact hok; exact hi0; exact rfl) | (apply G1_loadEl1 (q := i) (e := eSlc); exact T.p28; exact rfl; exact hS2; exact hq1; exact rfl; exact rfl; exact rfl) | (apply G1_lss; exact rfl; exact rfl; exact rfl)) | apply G_nil | apply Post_next | apply W_seq | apply W_region | (apply W_cond_dec; exact rfl; all_goals (intro h; try (exfalso; omega))) | apply W_skip | apply W_block)
    all_goals try (exfalso; omega)
    refine W_drawnT 1 [] (.node [5] (.alt 0 (.node [] (.alt 1 (.leaf [2,3,4,6,7,8,9]) .stop)) (.alt 1 (.node [2,3,4] (.alt 0 (.leaf [6,7,8,9]) (.alt 6 (.leaf [0,7,8,9]) .stop))) .stop))) mixed (by decide +kernel) ?_
    repeat' (first | (apply G_on; exact rfl; first | ((first | apply G1_move | apply G1_nilCheck); exact rfl; exact rfl) | (apply G1_appendA; exact T.s28; exact rfl; exact rfl; exact hR2.row.ext (Ext.drew Ext.rfl'); exact hb2.ext (Ext.drew Ext.rfl'); exact rfl; exact hR2.hB; (simp only [List.length_append]; omega); (simp only [List.length_append]; omega); exact rfl; exact rfl; exact rfl; intro p5 c5 w5 ha5; have hA25 := (hA2.ext hxd).grown ha5.grown nA2; have hbk5 := (hbk2.ext hxd).grown ha5.grown nAr) | (apply G1_loadB; (first | exact T.p38 | exact T.p28); exact rfl; assumption; exact rfl; exact rfl) | (apply G1_fieldAddr; exact T.f75_0; exact rfl; exact rfl)) | apply G_nil | (refine GT_leaf ?_) | (refine GT_node ?_) | (apply GT_alt) | (exact GT_stop))
    all_goals
      rw [List.append_assoc, ← hts] at ha5
      apply G_on; exact rfl; apply G1_storeB; exact T.z28; exact rfl; exact rfl; exact hbk5; exact rfl; exact rfl; (first | exact Nat.le_of_ble_eq_true rfl | (focus (simp [Value.cells]; done))); (first | exact Enc.one _ _ | (focus (simp [Value.oneCell']; done)) | (focus (simp [Value.cells, Value.oneCell']; done)) | exact Enc.oneAgg _ _); exact rfl; (first | exact .inl rfl | exact .inr (by simp [exempt])); exact rfl; intro w6 hA6 hg6 hs6
      replace hA6 : Blk w6.heap ar 75 [.slice p5 (inp ++ (parts.take i).flatten ++ b).length c5, .int .i64 ((0 : Nat) : Int), .int .i64 (r.left : Int), .int .i64 r.size, .slice pw r.words.length cw, .int .i64 (r.held : Int), .int .i64 0] := hA6
      rw [List.append_assoc, ← hts] at hA6
      have hR6 : RdSt w0 w6 ar B p5 c5 (inp ++ (parts.take (i + 1)).flatten) 0 pw cw r 0 :=
        ⟨hA6, ha5.own.kept hg6 (fun x hx e => by injection e with e; exact ha5.own.apart hx hbk5 (by decide) e), ((hR2.wds.ext hxd).kept ha5.grown nW).kept hg6 (fun x hx e => by injection e with e; exact ((hR2.wds.ext hxd).kept ha5.grown nW).apart hx hbk5 (by decide) e), ((hR2.ext.trans hxd).own ha5.grown (fun k hk => by have := (hR2.row.ext hxd).ge k hk; have := hR.h0; have := hR.lt; omega)).own hg6 (fun k hk => by injection hk with hk; have := hR.h0; omega), hR.h0, hR.lt, Nat.le_trans ha5.base hg6.size, Nat.zero_le _⟩
      have hA26 := hA25.grown hg6 (fun e => by injection e with e; exact blk_ne hbk5 hA25 (by decide) e)
      repeat' (first | (apply G_on; exact rfl; first | (apply G1_move; exact rfl; exact rfl) | (apply G1_add; exact rfl; exact rfl; omega; omega; exact rfl)) | apply G_nil | apply Post_next | apply W_region | apply Post_block_normal)
      have hnn := ha5.new
      unfold NewP at hnn
      have hz2 := hF2.size
      have hz6 := hg6.size
      have hF5 : FrS (fun k => k = ar ∨ blk p = some k) w w6 := ((hF2.trans (FrS.of_ext hxd) (fun _ _ h => h)).trans (FrS.of_grown (F := fun k => k = ar ∨ blk p1 = some k) ha5.grown (fun k hk => .inr hk)) (fun k hk e => e.elim .inl (fun e => (hnp2 k e).elim .inr (fun e => by omega)))).trans (FrS.of_grown (F := fun k => k = ar ∨ blk p1 = some k) hg6 (fun k hk => by injection hk with hk; exact .inl hk.symm)) (fun k hk e => e.elim .inl (fun e => (hnp2 k e).elim .inr (fun e => by omega)))
      exact Post_round (i + 1, p5, c5) ⟨rfl, rfl, rfl, rfl, trivial⟩ ⟨hi0, hR6, hA26, hF5, fun k hk => hnn.elim (fun e => hnp2 k (by rw [← e]; exact hk)) (fun e => .inr (Nat.le_trans hz2 (e k hk)))⟩ (by simp only; omega)
  · obtain ⟨bs, hbs⟩ : ∃ bs, parts.flatten = bs := ⟨_, rfl⟩
    rw [List.take_of_length_le (by omega), hbs] at hR2
    rw [hbs] at hN ⊢
    repeat' (first | (apply G_on; exact rfl; (apply G1_lss; exact rfl; exact rfl; exact rfl)) | apply G_nil | apply Post_next | apply W_seq | apply W_region | (apply W_cond_dec; exact rfl; all_goals (intro h; try (exfalso; omega))) | apply W_exit | apply Post_then_exit | apply Post_block_exit)
    all_goals try (exfalso; omega)
    apply G_on; exact rfl; apply G1_alloc; exact T.zero40; exact rfl; exact rfl; intro a8 w3 ha8 hA8 hx3 hs3
    replace hA8 : Blk w3.heap a8 40 [.slice none 0 0] := hA8
    repeat' (first | (apply G_on; exact rfl; ((first | apply G1_assign | apply G1_makeFunc); exact rfl; exact rfl)) | apply G_nil | apply Post_next | apply W_seq | apply W_region | apply W_label | apply W_block)
    have z2 := hF2.size
    refine W_loop (ι := FdY) (fun y => [(2, .pointer (some (adr (bx a2) 0))), (8, .pointer (some (adr (bx a8) 0))), (9, .func (.func 43) #[] #[.pointer (some (adr (bx a8) 0)), .pointer (some (adr (bx a2) 0))])])
      (fun y w' => FdI w0 w w' ar B a2 a8 p pw p1 c1 (inp ++ bs) r y) (fun y => (inp ++ bs).length - y.a) ⟨0, r, pw, cw, [], [], none, 0⟩ ⟨rfl, rfl, rfl, trivial⟩ ?_ ?_
    · exact ⟨hR2.xt hx3, ⟨⟨hA2.ext hx3, hA8, Own.nil _ _ _ _⟩, WordsAt.nil, (hF2.trans (FrS.of_ext hx3) (fun _ _ h => h)).mono (fun k e => e.elim .inl (fun e => .inr (.inl e))), hnp2, fun k hk => .inl hk, by omega, by omega⟩, by simp, by simp only [List.length_append]; omega, hg0, Nat.zero_le _⟩
    rintro y w4 hI
    refine W_keep [(2, .pointer (some (adr (bx a2) 0))), (8, .pointer (some (adr (bx a8) 0))), (9, .func (.func 43) #[] #[.pointer (some (adr (bx a8) 0)), .pointer (some (adr (bx a2) 0))])] ⟨rfl, rfl, rfl, trivial⟩ ?_
    repeat' (first | apply W_seq | apply W_block)
    refine W_loop (ι := FdY) (fun y => [(2, .pointer (some (adr (bx a2) 0))), (8, .pointer (some (adr (bx a8) 0))), (9, .func (.func 43) #[] #[.pointer (some (adr (bx a8) 0)), .pointer (some (adr (bx a2) 0))])])
      (fun z w' => FdI w0 w w' ar B a2 a8 p pw p1 c1 (inp ++ bs) r z ∧ y.a ≤ z.a) (fun z => (inp ++ bs).length - z.a) y ⟨rfl, rfl, rfl, trivial⟩ ⟨hI, Nat.le_refl _⟩ ?_
    rintro z w5 ⟨hI5, hyz⟩
    refine W_keep [(2, .pointer (some (adr (bx a2) 0))), (8, .pointer (some (adr (bx a8) 0))), (9, .func (.func 43) #[] #[.pointer (some (adr (bx a8) 0)), .pointer (some (adr (bx a2) 0))])] ⟨rfl, rfl, rfl, trivial⟩ ?_
    have hbk5 := hI5.rd.blk
    have hA25 := hI5.o.gv.ptr
    have hrun := hI5.run
    have hdl : ((inp ++ bs).drop z.a).length = (inp ++ bs).length - z.a := List.length_drop
    have hIl : (inp ++ bs).length = inp.length + bs.length := List.length_append
    have hza := hI5.rd.la
    have hcnt := hI5.cnt
    have hhl := hI5.o.cm.len
    by_cases hl0 : z.r.left = 0
    · have hr0 := hI5.good.zero hl0
      have hln := line_spec hI5.rd (by omega)
      cases hL : lineP ((inp ++ bs).drop z.a) with
      | more =>
        rw [hL] at hln
        repeat' (first | (apply G_on; exact rfl; first | (apply G1_nilCheck; exact rfl; exact rfl) | (apply G1_loadB; (first | exact T.p38 | exact T.p3); exact rfl; assumption; exact rfl; exact rfl) | (apply G1_fieldAddr; exact T.f75_2; exact rfl; exact rfl) | (apply G1_gtr; exact rfl; exact rfl; exact rfl)) | apply G_nil | apply Post_next | apply W_seq | apply W_region | (apply W_cond_dec; exact rfl; all_goals (intro h; try (exfalso; omega))) | apply W_exit | apply Post_then_exit | apply Post_block_exit)
        all_goals try (exfalso; omega)
        apply G_on; exact rfl; apply G1_call (f := 45); exact rfl; exact rfl; exact rfl; exact hln; intro v w6 hv; refine ⟨.inl rfl, ?_⟩
        obtain ⟨hf6, rfl, hR6⟩ := hv
        have hO6 := hI5.o.own hI5.rd.blk hf6
        have hstep : stepP z.r ((inp ++ bs).drop z.a) = .stop := by
          unfold stepP
          rw [if_pos hl0, hL]
        rw [run_stop hstep, List.append_nil] at hrun
        have hti := tidy_ok hR6 (show (inp ++ bs).length ≤ 1000000000 by rw [List.length_append]; omega)
        have hA2e := (hO6).gv.ptr
        repeat' (first | (apply G_on; exact rfl; first | ((first | apply G1_assign | apply G1_move); exact rfl; exact rfl) | (apply G1_loadB; exact T.p38; exact rfl; assumption; exact rfl; exact rfl) | (apply G1_extract; exact rfl; exact rfl; exact rfl) | (apply G1_not_f; exact rfl; exact rfl)) | apply G_nil | apply Post_next | apply W_seq | apply W_region | (apply W_cond_true; exact rfl) | apply W_exit | apply Post_then_exit | apply Post_block_exit | (apply Post_block_other; exact rfl))
        apply G_on; exact rfl; apply G1_call (f := 49); exact rfl; exact rfl; exact rfl; exact hti; rintro vT wT ⟨hfT, hRT⟩; refine ⟨.inl rfl, ?_⟩
        obtain ⟨hGT, hFA⟩ := feed_done hR6 hO6 hfT hRT hrun
        have hbkT := hRT.blk
        have hA2T := hGT.ptr
        have hA8T := hGT.box
        repeat' (first | (apply G_on; exact rfl; first | ((first | apply G1_assign | apply G1_nilCheck); exact rfl; exact rfl) | (apply G1_loadB; (first | exact T.p38 | exact T.p41 | exact T.p40); exact rfl; assumption; exact rfl; exact rfl) | (apply G1_fieldAddr; exact T.f75_6; exact rfl; exact rfl)) | apply G_nil | apply Post_next | apply W_seq | apply Post_scopeR | refine W_drawn 1 [] [0,1,2,3,4,5,6] mixed (by decide +kernel) ?_ | apply W_ret)
        refine Post_ret Tryd.results26 ⟨_, _, rfl, rfl, _, _, rfl, rfl, rfl⟩ ?_
        exact hFA _ (by repeat first | assumption | exact Ext.rfl' | apply Ext.drew | apply Ext.alloc | refine Ext.trans ?_ (by assumption))
      | err e =>
        rw [hL] at hln
        repeat' (first | (apply G_on; exact rfl; first | (apply G1_nilCheck; exact rfl; exact rfl) | (apply G1_loadB; (first | exact T.p38 | exact T.p3); exact rfl; assumption; exact rfl; exact rfl) | (apply G1_fieldAddr; exact T.f75_2; exact rfl; exact rfl) | (apply G1_gtr; exact rfl; exact rfl; exact rfl)) | apply G_nil | apply Post_next | apply W_seq | apply W_region | (apply W_cond_dec; exact rfl; all_goals (intro h; try (exfalso; omega))) | apply W_exit | apply Post_then_exit | apply Post_block_exit)
        all_goals try (exfalso; omega)
        apply G_on; exact rfl; apply G1_call (f := 45); exact rfl; exact rfl; exact rfl; exact hln; intro v w6 hv; refine ⟨.inl rfl, ?_⟩
        obtain ⟨hf6, rfl, hR6⟩ := hv
        have hO6 := hI5.o.own hI5.rd.blk hf6
        have hstep : stepP z.r ((inp ++ bs).drop z.a) = .fault e := by
          unfold stepP
          rw [if_pos hl0, hL]
        have he := line_err hL
        rw [run_fault hstep, List.append_nil] at hrun
        have hti := tidy_bad hR6 (by omega)
        have hA2e := (hO6).gv.ptr
        repeat' (first | (apply G_on; exact rfl; first | ((first | apply G1_assign | apply G1_move); exact rfl; exact rfl) | (apply G1_loadB; exact T.p38; exact rfl; assumption; exact rfl; exact rfl) | (apply G1_extract; exact rfl; exact rfl; exact rfl) | (apply G1_not_f; exact rfl; exact rfl)) | apply G_nil | apply Post_next | apply W_seq | apply W_region | (apply W_cond_true; exact rfl) | apply W_exit | apply Post_then_exit | apply Post_block_exit | (apply Post_block_other; exact rfl))
        apply G_on; exact rfl; apply G1_call (f := 49); exact rfl; exact rfl; exact rfl; exact hti; rintro vT wT ⟨hfT, hRT⟩; refine ⟨.inl rfl, ?_⟩
        obtain ⟨hGT, hFA⟩ := feed_fail hR6 hO6 hfT hRT (by omega) ⟨congrArg Res.out hrun, congrArg Res.err hrun⟩
        have hbkT := hRT.blk
        have hA2T := hGT.ptr
        have hA8T := hGT.box
        repeat' (first | (apply G_on; exact rfl; first | ((first | apply G1_assign | apply G1_nilCheck); exact rfl; exact rfl) | (apply G1_loadB; (first | exact T.p38 | exact T.p41 | exact T.p40); exact rfl; assumption; exact rfl; exact rfl) | (apply G1_fieldAddr; exact T.f75_6; exact rfl; exact rfl)) | apply G_nil | apply Post_next | apply W_seq | apply Post_scopeR | refine W_drawn 1 [] [0,1,2,3,4,5,6] mixed (by decide +kernel) ?_ | apply W_ret)
        refine Post_ret Tryd.results26 ⟨_, _, rfl, rfl, _, _, rfl, rfl, rfl⟩ ?_
        exact hFA _ (by repeat first | assumption | exact Ext.rfl' | apply Ext.drew | apply Ext.alloc | refine Ext.trans ?_ (by assumption))
      | ok s k =>
        rw [hL] at hln
        repeat' (first | (apply G_on; exact rfl; first | (apply G1_nilCheck; exact rfl; exact rfl) | (apply G1_loadB; (first | exact T.p38 | exact T.p3); exact rfl; assumption; exact rfl; exact rfl) | (apply G1_fieldAddr; exact T.f75_2; exact rfl; exact rfl) | (apply G1_gtr; exact rfl; exact rfl; exact rfl)) | apply G_nil | apply Post_next | apply W_seq | apply W_region | (apply W_cond_dec; exact rfl; all_goals (intro h; try (exfalso; omega))) | apply W_exit | apply Post_then_exit | apply Post_block_exit)
        all_goals try (exfalso; omega)
        apply G_on; exact rfl; apply G1_call (f := 45); exact rfl; exact rfl; exact rfl; exact hln; intro v w6 hv; refine ⟨.inl rfl, ?_⟩
        obtain ⟨hf6, rfl, hR6⟩ := hv
        have hlk := line_len hL
        obtain ⟨hk1, hk2, hk3, hk4, hk5, hk6⟩ := line_ok hL
        have hs1 : s.length ≤ 1026 := by rw [hk5, List.length_take]; omega
        have hpre := fun w' => hasAst_spec (w := w') (s := s) (by omega)
        repeat' (first | (apply G_on; exact rfl; first | ((first | apply G1_assign | apply G1_move); exact rfl; exact rfl) | (apply G1_call (f := 46); exact rfl; exact rfl; exact rfl; exact hpre _; rintro _ w7 ⟨rfl, hx7⟩; refine ⟨(by first | exact .inl rfl | exact .inr (by assumption)), ?_⟩) | (apply G1_extract; exact rfl; exact rfl; exact rfl) | (apply G1_not_t; exact rfl; exact rfl)) | apply G_nil | apply Post_next | apply W_seq | apply W_region | (apply W_cond_false; exact rfl) | (apply W_cond_dec; exact rfl; all_goals (intro h; try (exfalso; omega))) | apply W_skip)
        all_goals try (exfalso; omega)
        · have hx7' : FrS (fun q => q = ar) w5 w7 := hf6.trans (FrS.of_ext (F := fun q => q = ar) hx7) (fun _ _ h => h)
          have h42 : s.head? = some 42 := by simpa using ‹_›
          have hO7 := hI5.o.own hI5.rd.blk hx7'
          have hR7 := hR6.xt hx7
          have hA27 := hO7.gv.ptr
          have hnum := number_spec (s := s) (m := 42) (mi := 42) (lo := 1) (hi := 128) hR7 rfl (by omega) hT hE
          cases hNm : numP s 42 1 128 with
          | error e =>
            rw [hNm] at hnum
            repeat' (apply G_on; exact rfl; first | (apply G1_move; exact rfl; exact rfl) | (apply G1_loadB; exact T.p38; exact rfl; assumption; exact rfl; exact rfl))
            apply G_on; exact rfl; apply G1_call (f := 47); exact rfl; exact rfl; exact rfl; exact hnum; intro v w8 hv; refine ⟨.inl rfl, ?_⟩
            obtain ⟨hf8, rfl, hR8⟩ := hv
            have hO8 := hO7.own hR7.blk hf8
            have hstep : stepP z.r ((inp ++ bs).drop z.a) = .fault e := by
              unfold stepP
              rw [if_pos hl0, hL]
              simp only
              rw [if_pos h42, hNm]
            have he := num_err hNm
            rw [run_fault hstep, List.append_nil] at hrun
            have hti := tidy_bad hR8 (by omega)
            have hA2e := (hO8).gv.ptr
            repeat' (first | (apply G_on; exact rfl; first | ((first | apply G1_assign | apply G1_move); exact rfl; exact rfl) | (apply G1_loadB; exact T.p38; exact rfl; assumption; exact rfl; exact rfl) | (apply G1_extract; exact rfl; exact rfl; exact rfl) | (apply G1_not_f; exact rfl; exact rfl)) | apply G_nil | apply Post_next | apply W_seq | apply W_region | (apply W_cond_true; exact rfl) | apply W_exit | apply Post_then_exit | apply Post_block_exit | (apply Post_block_other; exact rfl))
            apply G_on; exact rfl; apply G1_call (f := 49); exact rfl; exact rfl; exact rfl; exact hti; rintro vT wT ⟨hfT, hRT⟩; refine ⟨.inl rfl, ?_⟩
            obtain ⟨hGT, hFA⟩ := feed_fail hR8 hO8 hfT hRT (by omega) ⟨congrArg Res.out hrun, congrArg Res.err hrun⟩
            have hbkT := hRT.blk
            have hA2T := hGT.ptr
            have hA8T := hGT.box
            repeat' (first | (apply G_on; exact rfl; first | ((first | apply G1_assign | apply G1_nilCheck); exact rfl; exact rfl) | (apply G1_loadB; (first | exact T.p38 | exact T.p41 | exact T.p40); exact rfl; assumption; exact rfl; exact rfl) | (apply G1_fieldAddr; exact T.f75_6; exact rfl; exact rfl)) | apply G_nil | apply Post_next | apply W_seq | apply Post_scopeR | refine W_drawn 1 [] [0,1,2,3,4,5,6] mixed (by decide +kernel) ?_ | apply W_ret)
            refine Post_ret Tryd.results26 ⟨_, _, rfl, rfl, _, _, rfl, rfl, rfl⟩ ?_
            exact hFA _ (by repeat first | assumption | exact Ext.rfl' | apply Ext.drew | apply Ext.alloc | refine Ext.trans ?_ (by assumption))
          | ok n =>
            rw [hNm] at hnum
            repeat' (apply G_on; exact rfl; first | (apply G1_move; exact rfl; exact rfl) | (apply G1_loadB; exact T.p38; exact rfl; assumption; exact rfl; exact rfl))
            apply G_on; exact rfl; apply G1_call (f := 47); exact rfl; exact rfl; exact rfl; exact hnum; intro v w8 hv; refine ⟨.inl rfl, ?_⟩
            obtain ⟨hf8, rfl, hR8⟩ := hv
            have hO8 := hO7.own hR7.blk hf8
            have hA28 := hO8.gv.ptr
            have hbk8 := hR8.blk
            have hsz8 := mkStr_size s
            have nA8 := blk_ne hA28 hbk8 (by decide)
            repeat' (first | (apply G_on; exact rfl; first | ((first | apply G1_assign | apply G1_move); exact rfl; exact rfl) | (apply G1_extract; exact rfl; exact rfl; exact rfl) | (apply G1_not_t; exact rfl; exact rfl)) | apply G_nil | apply Post_next | apply W_seq | apply W_region | (apply W_cond_false; exact rfl) | apply W_skip)
            all_goals try (exfalso; omega)
            refine W_drawn 3 [ar] [0,1,2,3,4,5,6,7,8,9,10,11] mixed (by decide +kernel) ?_
            repeat' (apply G_on; exact rfl; first | ((first | apply G1_move | apply G1_nilCheck); exact rfl; exact rfl) | (apply G1_loadBS; exact T.p38; exact rfl; assumption; exact rfl; (first | assumption | (focus (simp [exempt]; omega))); exact rfl) | (apply G1_fieldAddr; exact T.f75_2; exact rfl; exact rfl) | (apply G1_add; exact rfl; exact rfl; omega; omega; exact rfl) | (apply G1_slen; exact T.str9; exact rfl; exact rfl))
            apply G_on; exact rfl; apply G1_storeB; exact T.z3; exact rfl; exact rfl; exact hbk8; exact rfl; exact rfl; (first | exact Nat.le_of_ble_eq_true rfl | (focus (simp [Value.cells]; done))); (first | exact Enc.one _ _ | (focus (simp [Value.oneCell']; done)) | (focus (simp [Value.cells, Value.oneCell']; done)) | exact Enc.oneAgg _ _); exact rfl; (first | exact .inl rfl | exact .inr (by simp [exempt])); exact rfl; intro w9 hA9 hg9 hs9
            repeat' (apply G_on; exact rfl; first | (apply G1_nilCheck; exact rfl; exact rfl) | (apply G1_fieldAddr; exact T.f75_5; exact rfl; exact rfl))
            apply G_on; exact rfl; apply G1_storeB; exact T.z3; exact rfl; exact rfl; exact hA9; exact rfl; exact rfl; (first | exact Nat.le_of_ble_eq_true rfl | (focus (simp [Value.cells]; done))); (first | exact Enc.one _ _ | (focus (simp [Value.oneCell']; done)) | (focus (simp [Value.cells, Value.oneCell']; done)) | exact Enc.oneAgg _ _); exact rfl; (first | exact .inl rfl | exact .inr (by simp [exempt])); exact rfl; intro w10 hA10 hg10 hs10
            repeat' (first | apply G_nil | apply Post_next | apply W_exit | apply Post_then_exit | apply Post_block_exit)
            obtain ⟨hn1, hn2⟩ := num_ok hNm
            have hd8 : Ext w8 w8.drew := Ext.drew Ext.rfl'
            have hg := grown_same hg9 hg10
            replace hA10 : Blk w10.heap ar 75 [.slice p1 (inp ++ bs).length c1, .int .i64 ((z.a + k : Nat) : Int), .int .i64 n, .int .i64 z.r.size, .slice z.pw z.r.words.length z.cw, .int .i64 (((mkStr s).size : Int) + 2), .int .i64 0] := hA10
            have e1 : n = ((n.toNat : Nat) : Int) := by omega
            have e2 : ((mkStr s).size : Int) + 2 = ((k : Nat) : Int) := by omega
            rw [e2, hr0] at hA10
            rw [e1] at hA10
            have hR10 : RdSt w0 w10 ar B p1 c1 (inp ++ bs) (z.a + k) z.pw z.cw ⟨n.toNat, -1, [], k⟩ 0 := (hR8.xt hd8).set hg hA10 (by rw [hr0]; rfl) (by omega)
            have hO10 := hO8.own hR8.blk ((FrS.of_ext (F := fun q => q = ar) hd8).trans (FrS.of_grown (F := fun q => q = ar) hg (fun k hk => by injection hk with hk; exact hk.symm)) (fun _ _ h => h))
            have hstep : stepP z.r ((inp ++ bs).drop z.a) = .go ⟨n.toNat, -1, [], k⟩ k [] := by
              unfold stepP
              rw [if_pos hl0, hL]
              simp only
              rw [if_pos h42, hNm]
            have hgd := step_good hI5.good hstep
            rw [run_go hstep, List.nil_append, List.drop_drop] at hrun
            refine Post_round (⟨z.a + k, ⟨n.toNat, -1, [], k⟩, z.pw, z.cw, z.hs, z.ls, z.pd, z.cd⟩ : FdY) ⟨rfl, rfl, rfl, trivial⟩ ⟨hR10, ⟨hO10.gv, hO10.cm, hO10.fr, hO10.np, hO10.npw, hO10.h8, hO10.h2⟩, hrun, by simp only; omega, hgd.1, by simp only; omega⟩ (by simp only; omega)
        · have hx7' : FrS (fun q => q = ar) w5 w7 := hf6.trans (FrS.of_ext (F := fun q => q = ar) hx7) (fun _ _ h => h)
          have h42 : ¬ s.head? = some 42 := by simpa using ‹¬ _›
          have hspl := split_spec (w := w7) (s := s) (by omega)
          apply G_on; exact rfl; apply G1_call (f := 48); exact rfl; exact rfl; exact rfl; exact hspl; rintro v w8 ⟨ps, cs, rfl, hO8s, hx8⟩; refine ⟨.inl rfl, ?_⟩
          have hx8' : FrS (fun q => q = ar) w5 w8 := hx7'.trans (FrS.of_ext (F := fun q => q = ar) hx8) (fun _ _ h => h)
          have hO7 := hI5.o.own hI5.rd.blk hx7'
          have hO8 := hI5.o.own hI5.rd.blk hx8'
          have hR8 := (hR6.xt hx7).xt hx8
          have hA28 := hO8.gv.ptr
          have hbk8 := hR8.blk
          repeat' (first | (apply G_on; exact rfl; first | ((first | apply G1_assign | apply G1_move | apply G1_nilCheck); exact rfl; exact rfl) | (apply G1_loadB; exact T.p38; exact rfl; assumption; exact rfl; exact rfl) | (apply G1_fieldAddr; exact T.f75_6; exact rfl; exact rfl) | (apply G1_gtr; exact rfl; exact rfl; exact rfl) | (apply G1_len; exact T.s31; exact rfl; exact rfl)) | apply G_nil | apply Post_next | apply W_seq | apply W_region | (apply W_cond_dec; exact rfl; all_goals (intro h; try (exfalso; omega))) | apply W_skip | apply Post_block_normal)
          · apply G_on; exact rfl; apply G1_storeB; exact T.z41; exact rfl; exact rfl; exact hbk8; exact rfl; exact rfl; (first | exact Nat.le_of_ble_eq_true rfl | (focus (simp [Value.cells]; done))); (first | exact Enc.one _ _ | (focus (simp [Value.oneCell']; done)) | (focus (simp [Value.cells, Value.oneCell']; done)) | exact Enc.oneAgg _ _); exact rfl; (first | exact .inl rfl | exact .inr (by simp [exempt])); exact rfl; intro w9 hA9 hg9 hs9
            replace hA9 : Blk w9.heap ar 75 [.slice p1 (inp ++ bs).length c1, .int .i64 ((z.a + k : Nat) : Int), .int .i64 (z.r.left : Int), .int .i64 z.r.size, .slice z.pw z.r.words.length z.cw, .int .i64 (z.r.held : Int), .int .i64 12] := hA9
            have hR9 := hR8.set (r' := z.r) (ft' := 12) hg9 hA9 rfl (by omega)
            have hO9 := hO8.own hR8.blk (FrS.of_grown (F := fun q => q = ar) hg9 (fun k hk => by injection hk with hk; exact hk.symm))
            have hstep : stepP z.r ((inp ++ bs).drop z.a) = .fault 12 := by
              unfold stepP
              rw [if_pos hl0, hL]
              simp only
              rw [if_neg h42, if_pos (by omega)]
            rw [run_fault hstep, List.append_nil] at hrun
            have hA29 := hO9.gv.ptr
            have hti := tidy_bad hR9 (by decide)
            have hA2e := (hO9).gv.ptr
            repeat' (first | (apply G_on; exact rfl; (apply G1_loadB; exact T.p38; exact rfl; assumption; exact rfl; exact rfl)) | apply G_nil | apply Post_next | apply W_seq | apply W_region | apply W_exit | apply Post_then_exit | apply Post_block_exit | (apply Post_block_other; exact rfl))
            apply G_on; exact rfl; apply G1_call (f := 49); exact rfl; exact rfl; exact rfl; exact hti; rintro vT wT ⟨hfT, hRT⟩; refine ⟨.inl rfl, ?_⟩
            obtain ⟨hGT, hFA⟩ := feed_fail hR9 hO9 hfT hRT (by decide) ⟨congrArg Res.out hrun, congrArg Res.err hrun⟩
            have hbkT := hRT.blk
            have hA2T := hGT.ptr
            have hA8T := hGT.box
            repeat' (first | (apply G_on; exact rfl; first | ((first | apply G1_assign | apply G1_nilCheck); exact rfl; exact rfl) | (apply G1_loadB; (first | exact T.p38 | exact T.p41 | exact T.p40); exact rfl; assumption; exact rfl; exact rfl) | (apply G1_fieldAddr; exact T.f75_6; exact rfl; exact rfl)) | apply G_nil | apply Post_next | apply W_seq | apply Post_scopeR | refine W_drawn 1 [] [0,1,2,3,4,5,6] mixed (by decide +kernel) ?_ | apply W_ret)
            refine Post_ret Tryd.results26 ⟨_, _, rfl, rfl, _, _, rfl, rfl, rfl⟩ ?_
            exact hFA _ (by repeat first | assumption | exact Ext.rfl' | apply Ext.drew | apply Ext.alloc | refine Ext.trans ?_ (by assumption))
          · have hgv := give_spec (q := ps) (m := (cutG [] s).length) (d := cs) hR8 hO8.gv (by have := hR.ext.size; have := hO8.h8; omega) hR.ext.size hO8.fr.size (by omega)
            apply G_on; exact rfl; apply G1_callv; exact rfl; exact rfl; exact rfl; exact rfl; exact hgv; rintro v9 w9 ⟨pd', cd', hR9, hG9, hF9, hnd9⟩; refine ⟨(by first | exact .inl rfl | exact .inr (by assumption)), ?_⟩
            have hc0 : cutG [] s ≠ [] := fun e => by have h0 := congrArg List.length e; rw [List.length_nil] at h0; omega
            have hstep : stepP z.r ((inp ++ bs).drop z.a) = .go rs0 k [(cutG [] s).map mkStr] := by
              unfold stepP
              rw [if_pos hl0, hL]
              simp only
              rw [if_neg h42, if_neg (by omega), if_neg hc0]
            have hgd := step_good hI5.good hstep
            rw [run_go hstep, List.drop_drop] at hrun
            have hrs : { z.r with words := [], held := 0 } = rs0 := by rw [hr0]; rfl
            rw [hrs] at hR9
            have hO9 := hO8.give (a' := z.a + k) (r' := rs0) (l := (cutG [] s).map mkStr) hR8 hG9 hF9 hnd9 (by rw [List.length_map]) hO8s
            repeat' (first | apply G_nil | apply Post_block_normal)
            refine Post_round (⟨z.a + k, rs0, none, 0, z.hs ++ [(ps, (cutG [] s).length, cs)], z.ls ++ [(cutG [] s).map mkStr], pd', cd'⟩ : FdY) ⟨rfl, rfl, rfl, trivial⟩ ⟨hR9, hO9, by rw [hrun]; simp, by simp only [rs0]; omega, good0, by simp only [List.length_append, List.length_singleton]; omega⟩ (by simp only; omega)
          · have hc0 : cutG [] s = [] := List.eq_nil_of_length_eq_zero (by omega)
            have hstep : stepP z.r ((inp ++ bs).drop z.a) = .go rs0 k [] := by
              unfold stepP
              rw [if_pos hl0, hL]
              simp only
              rw [if_neg h42, if_neg (by rw [hc0]; decide), if_pos hc0]
            rw [run_go hstep, List.nil_append, List.drop_drop] at hrun
            rw [hr0] at hR8
            refine Post_round (⟨z.a + k, rs0, z.pw, z.cw, z.hs, z.ls, z.pd, z.cd⟩ : FdY) ⟨rfl, rfl, rfl, trivial⟩ ⟨hR8, ⟨hO8.gv, hO8.cm, hO8.fr, hO8.np, hO8.npw, hO8.h8, hO8.h2⟩, hrun, by simp only [rs0]; omega, good0, by simp only; omega⟩ (by simp only; omega)
    · have hwd := word_spec hI5.rd (by omega) hI5.held hI5.good.size.1 hI5.good.size.2 hT hE
      have hwr := word_run (cs := (inp ++ bs).drop z.a) (r := z.r) (by omega)
      have hwh := word_held (cs := (inp ++ bs).drop z.a) (r := z.r)
      cases hW : wordP z.r ((inp ++ bs).drop z.a) with
      | more r' k =>
        rw [hW] at hwd hwr hwh
        repeat' (first | (apply G_on; exact rfl; first | (apply G1_nilCheck; exact rfl; exact rfl) | (apply G1_loadB; (first | exact T.p38 | exact T.p3); exact rfl; assumption; exact rfl; exact rfl) | (apply G1_fieldAddr; exact T.f75_2; exact rfl; exact rfl) | (apply G1_gtr; exact rfl; exact rfl; exact rfl)) | apply G_nil | apply Post_next | apply W_seq | apply W_region | (apply W_cond_dec; exact rfl; all_goals (intro h; try (exfalso; omega))) | apply W_skip | apply W_block)
        all_goals try (exfalso; omega)
        apply G_on; exact rfl; apply G1_call (f := 44); exact rfl; exact rfl; exact rfl; exact hwd; intro v w6 hv; refine ⟨.inl rfl, ?_⟩
        obtain ⟨hf6, rfl, hR6⟩ := hv
        have hO6 := hI5.o.own hI5.rd.blk hf6
        obtain ⟨hk, hrl, hrw, hrr⟩ := hwr
        rw [hrr, List.append_nil, List.drop_drop] at hrun
        have hO6' : FdO w w6 ar a2 a8 p pw p1 ⟨z.a + k, r', z.pw, z.cw, z.hs, z.ls, z.pd, z.cd⟩ := ⟨hO6.gv, hO6.cm, hO6.fr, hO6.np, hO6.npw, hO6.h8, hO6.h2⟩
        have hti := tidy_ok hR6 (show (inp ++ bs).length ≤ 1000000000 by rw [List.length_append]; omega)
        have hA2e := (hO6').gv.ptr
        repeat' (first | (apply G_on; exact rfl; first | ((first | apply G1_assign | apply G1_move); exact rfl; exact rfl) | (apply G1_loadB; exact T.p38; exact rfl; assumption; exact rfl; exact rfl) | (apply G1_extract; exact rfl; exact rfl; exact rfl) | (apply G1_not_f; exact rfl; exact rfl)) | apply G_nil | apply Post_next | apply W_seq | apply W_region | (apply W_cond_true; exact rfl) | apply W_exit | apply Post_then_exit | apply Post_block_exit | (apply Post_block_other; exact rfl))
        apply G_on; exact rfl; apply G1_call (f := 49); exact rfl; exact rfl; exact rfl; exact hti; rintro vT wT ⟨hfT, hRT⟩; refine ⟨.inl rfl, ?_⟩
        obtain ⟨hGT, hFA⟩ := feed_done hR6 hO6' hfT hRT hrun
        have hbkT := hRT.blk
        have hA2T := hGT.ptr
        have hA8T := hGT.box
        repeat' (first | (apply G_on; exact rfl; first | ((first | apply G1_assign | apply G1_nilCheck); exact rfl; exact rfl) | (apply G1_loadB; (first | exact T.p38 | exact T.p41 | exact T.p40); exact rfl; assumption; exact rfl; exact rfl) | (apply G1_fieldAddr; exact T.f75_6; exact rfl; exact rfl)) | apply G_nil | apply Post_next | apply W_seq | apply Post_scopeR | refine W_drawn 1 [] [0,1,2,3,4,5,6] mixed (by decide +kernel) ?_ | apply W_ret)
        refine Post_ret Tryd.results26 ⟨_, _, rfl, rfl, _, _, rfl, rfl, rfl⟩ ?_
        exact hFA _ (by repeat first | assumption | exact Ext.rfl' | apply Ext.drew | apply Ext.alloc | refine Ext.trans ?_ (by assumption))
      | err e =>
        rw [hW] at hwd hwr
        repeat' (first | (apply G_on; exact rfl; first | (apply G1_nilCheck; exact rfl; exact rfl) | (apply G1_loadB; (first | exact T.p38 | exact T.p3); exact rfl; assumption; exact rfl; exact rfl) | (apply G1_fieldAddr; exact T.f75_2; exact rfl; exact rfl) | (apply G1_gtr; exact rfl; exact rfl; exact rfl)) | apply G_nil | apply Post_next | apply W_seq | apply W_region | (apply W_cond_dec; exact rfl; all_goals (intro h; try (exfalso; omega))) | apply W_skip | apply W_block)
        all_goals try (exfalso; omega)
        apply G_on; exact rfl; apply G1_call (f := 44); exact rfl; exact rfl; exact rfl; exact hwd; intro v w6 hv; refine ⟨.inl rfl, ?_⟩
        obtain ⟨hf6, rfl, a', r', hR6⟩ := hv
        have hO6 := hI5.o.own hI5.rd.blk hf6
        have he := word_err hW
        have hX : (runP r (inp ++ bs)).out = z.ls ∧ (runP r (inp ++ bs)).err = e := by
          rw [hrun]
          exact ⟨by simp only; rw [hwr.1, List.append_nil], hwr.2⟩
        have hti := tidy_bad hR6 (by omega)
        have hA2e := (hO6).gv.ptr
        repeat' (first | (apply G_on; exact rfl; first | ((first | apply G1_assign | apply G1_move); exact rfl; exact rfl) | (apply G1_loadB; exact T.p38; exact rfl; assumption; exact rfl; exact rfl) | (apply G1_extract; exact rfl; exact rfl; exact rfl) | (apply G1_not_f; exact rfl; exact rfl)) | apply G_nil | apply Post_next | apply W_seq | apply W_region | (apply W_cond_true; exact rfl) | apply W_exit | apply Post_then_exit | apply Post_block_exit | (apply Post_block_other; exact rfl))
        apply G_on; exact rfl; apply G1_call (f := 49); exact rfl; exact rfl; exact rfl; exact hti; rintro vT wT ⟨hfT, hRT⟩; refine ⟨.inl rfl, ?_⟩
        obtain ⟨hGT, hFA⟩ := feed_fail hR6 hO6 hfT hRT (by omega) hX
        have hbkT := hRT.blk
        have hA2T := hGT.ptr
        have hA8T := hGT.box
        repeat' (first | (apply G_on; exact rfl; first | ((first | apply G1_assign | apply G1_nilCheck); exact rfl; exact rfl) | (apply G1_loadB; (first | exact T.p38 | exact T.p41 | exact T.p40); exact rfl; assumption; exact rfl; exact rfl) | (apply G1_fieldAddr; exact T.f75_6; exact rfl; exact rfl)) | apply G_nil | apply Post_next | apply W_seq | apply Post_scopeR | refine W_drawn 1 [] [0,1,2,3,4,5,6] mixed (by decide +kernel) ?_ | apply W_ret)
        refine Post_ret Tryd.results26 ⟨_, _, rfl, rfl, _, _, rfl, rfl, rfl⟩ ?_
        exact hFA _ (by repeat first | assumption | exact Ext.rfl' | apply Ext.drew | apply Ext.alloc | refine Ext.trans ?_ (by assumption))
      | ok s hh k =>
        rw [hW] at hwd hwr hwh
        repeat' (first | (apply G_on; exact rfl; first | (apply G1_nilCheck; exact rfl; exact rfl) | (apply G1_loadB; (first | exact T.p38 | exact T.p3); exact rfl; assumption; exact rfl; exact rfl) | (apply G1_fieldAddr; exact T.f75_2; exact rfl; exact rfl) | (apply G1_gtr; exact rfl; exact rfl; exact rfl)) | apply G_nil | apply Post_next | apply W_seq | apply W_region | (apply W_cond_dec; exact rfl; all_goals (intro h; try (exfalso; omega))) | apply W_skip | apply W_block)
        all_goals try (exfalso; omega)
        apply G_on; exact rfl; apply G1_call (f := 44); exact rfl; exact rfl; exact rfl; exact hwd; intro v w6 hv; refine ⟨.inl rfl, ?_⟩
        obtain ⟨hf6, rfl, hR6⟩ := hv
        have hO6 := hI5.o.own hI5.rd.blk hf6
        obtain ⟨hk, hk0, hrr⟩ := hwr
        have hA26 := hO6.gv.ptr
        have hbk6 := hR6.blk
        simp only at hbk6 hwh
        have hO6w := hR6.wds
        simp only at hO6w
        have hwl := hI5.good.words
        repeat' (first | (refine W_cutR (id := 13) [(2, .pointer (some (adr (bx a2) 0))), (8, .pointer (some (adr (bx a8) 0))), (9, .func (.func 43) #[] #[.pointer (some (adr (bx a8) 0)), .pointer (some (adr (bx a2) 0))])] (fun w' => ∃ p8 c8, RdSt w0 w' ar B p1 c1 (inp ++ bs) (z.a + k) p8 c8 ⟨z.r.left, -1, z.r.words ++ [mkStr s], hh⟩ 0 ∧ FdO w w' ar a2 a8 p pw p1 ⟨z.a + k, ⟨z.r.left, -1, z.r.words ++ [mkStr s], hh⟩, p8, c8, z.hs, z.ls, z.pd, z.cd⟩) ?_ ?_) | (apply G_on; exact rfl; first | ((first | apply G1_assign | apply G1_move); exact rfl; exact rfl) | (apply G1_extract; exact rfl; exact rfl; exact rfl) | (apply G1_not_t; exact rfl; exact rfl)) | apply G_nil | apply Post_next | apply W_seq | apply W_region | (apply W_cond_false; exact rfl) | apply W_skip)
        · refine W_drawnT 1 [] (.node [5] (.alt 0 (.node [] (.alt 1 (.leaf [2,3,4,6,7,8,9,10]) (.alt 6 (.node [] (.alt 1 (.leaf [2,3,4,7,8,9,10]) .stop)) .stop))) (.alt 1 (.node [2,3,4] (.alt 0 (.leaf [6,7,8,9,10]) (.alt 6 (.node [] (.alt 0 (.leaf [7,8,9,10]) (.alt 7 (.leaf [0,8,9,10]) .stop))) .stop))) (.alt 6 (.node [] (.alt 0 (.node [] (.alt 1 (.leaf [2,3,4,7,8,9,10]) .stop)) (.alt 1 (.node [2,3,4] (.alt 0 (.leaf [7,8,9,10]) (.alt 7 (.leaf [0,8,9,10]) .stop))) .stop))) .stop)))) mixed (by decide +kernel) ?_
          repeat' (first | (apply G_on; exact rfl; first | ((first | apply G1_move | apply G1_nilCheck); exact rfl; exact rfl) | (apply G1_loadB; (first | exact T.p38 | exact T.p31); exact rfl; assumption; exact rfl; exact rfl) | (apply G1_fieldAddr; exact T.f75_4; exact rfl; exact rfl)) | apply G_nil | (refine GT_leaf ?_) | (refine GT_node ?_) | (apply GT_alt) | (exact GT_stop))
          all_goals
            apply G_on; exact rfl
            apply G1_build1 eStr (mkStr s); exact T.s31; exact rfl; exact rfl; exact rfl; decide; exact rfl; exact rfl
            intro p7 w7 hp7 hs7 _ hx7 hz7
            have hx67 : Ext w6 w7 := (by repeat first | assumption | exact Ext.rfl' | apply Ext.drew | apply Ext.alloc | refine Ext.trans ?_ (by assumption))
            have hA27 := hA26.ext hx67
            have hbk7 := hbk6.ext hx67
            have hB7 := Nat.le_trans hR6.hB hx67.size
            have nA2 := (hO6w.ext hx67).apartB hA27 (by decide)
            have nAr := (hO6w.ext hx67).apartB hbk7 (by decide)
            repeat' (first | (apply G_on; exact rfl; first | (apply G1_nilCheck; exact rfl; exact rfl) | (apply G1_appendA; exact T.s31; exact rfl; exact rfl; exact hO6w.ext hx67; exact hs7; exact rfl; exact hB7; (simp only [List.length_cons, List.length_nil]; omega); (simp only [List.length_cons, List.length_nil]; omega); exact rfl; exact rfl; exact rfl; intro p8 c8 w8 ha8; have hA28 := hA27.grown ha8.grown nA2; have hbk8 := hbk7.grown ha8.grown nAr) | (apply G1_loadB; (first | exact T.p38 | exact T.p31); exact rfl; assumption; exact rfl; exact rfl) | (apply G1_fieldAddr; exact T.f75_4; exact rfl; exact rfl)) | apply G_nil | (refine GT_leaf ?_) | (refine GT_node ?_) | (apply GT_alt) | (exact GT_stop))
          all_goals
            apply G_on; exact rfl; apply G1_storeB; exact T.z31; exact rfl; exact rfl; exact hbk8; exact rfl; exact rfl; (first | exact Nat.le_of_ble_eq_true rfl | (focus (simp [Value.cells]; done))); (first | exact Enc.one _ _ | (focus (simp [Value.oneCell']; done)) | (focus (simp [Value.cells, Value.oneCell']; done)) | exact Enc.oneAgg _ _); exact rfl; (first | exact .inl rfl | exact .inr (by simp [exempt])); exact rfl; intro w9 hA9 hg9 hs9
            replace hA9 : Blk w9.heap ar 75 [.slice p1 (inp ++ bs).length c1, .int .i64 ((z.a + k : Nat) : Int), .int .i64 (z.r.left : Int), .int .i64 (-1), .slice p8 (z.r.words ++ [mkStr s]).length c8, .int .i64 (hh : Int), .int .i64 0] := hA9
            have hRO := feed_word hI5.rd hI5.o hf6 hR6 hO6 hx67 ha8 hg9 hA9
            repeat' (first | apply G_nil | (refine Post_cut ⟨rfl, rfl, rfl, trivial⟩ ⟨p8, c8, hRO⟩))
        rintro w9 ⟨p8, c8, hR9, hO9⟩
        have hA29 := hO9.gv.ptr
        have hbk9 := hR9.blk
        simp only at hbk9
        repeat' (first | (apply G_on; exact rfl; first | (apply G1_nilCheck; exact rfl; exact rfl) | (apply G1_loadB; (first | exact T.p38 | exact T.p3); exact rfl; assumption; exact rfl; exact rfl) | (apply G1_fieldAddr; exact T.f75_2; exact rfl; exact rfl) | (apply G1_sub; exact rfl; exact rfl; omega; omega; exact rfl)) | apply W_seq | apply W_region)
        apply G_on; exact rfl; apply G1_storeB; exact T.z3; exact rfl; exact rfl; exact hbk9; exact rfl; exact rfl; (first | exact Nat.le_of_ble_eq_true rfl | (focus (simp [Value.cells]; done))); (first | exact Enc.one _ _ | (focus (simp [Value.oneCell']; done)) | (focus (simp [Value.cells, Value.oneCell']; done)) | exact Enc.oneAgg _ _); exact rfl; (first | exact .inl rfl | exact .inr (by simp [exempt])); exact rfl; intro w10 hA10 hg10 hs10
        replace hA10 : Blk w10.heap ar 75 [.slice p1 (inp ++ bs).length c1, .int .i64 ((z.a + k : Nat) : Int), .int .i64 ((z.r.left : Int) - 1), .int .i64 (-1), .slice p8 (z.r.words ++ [mkStr s]).length c8, .int .i64 (hh : Int), .int .i64 0] := hA10
        rw [show (z.r.left : Int) - 1 = ((z.r.left - 1 : Nat) : Int) by omega] at hA10
        have hR10 : RdSt w0 w10 ar B p1 c1 (inp ++ bs) (z.a + k) p8 c8 ⟨z.r.left - 1, -1, z.r.words ++ [mkStr s], hh⟩ 0 := hR9.set hg10 hA10 rfl (by omega)
        have hO10 := hO9.own hR9.blk (FrS.of_grown (F := fun q => q = ar) hg10 (fun k hk => by injection hk with hk; exact hk.symm))
        have hA210 := hO10.gv.ptr
        clear hbk9
        by_cases hl1 : z.r.left = 1
        · rw [if_pos hl1] at hrr
          have hl1' : ((z.r.left - 1 : Nat) : Int) = 0 := by omega
          repeat' (first | (apply G_on; exact rfl; first | ((first | apply G1_move | apply G1_nilCheck); exact rfl; exact rfl) | (apply G1_loadB; (first | exact T.p38 | exact T.p3 | exact T.p31); exact rfl; assumption; exact rfl; exact rfl) | (apply G1_fieldAddr; (first | exact T.f75_2 | exact T.f75_4); exact rfl; exact rfl) | (apply G1_eql; exact rfl; exact rfl; exact rfl)) | apply G_nil | apply Post_next | apply W_seq | apply W_region | (apply W_cond_dec; exact rfl; all_goals (intro h; try (exfalso; omega))))
          all_goals try (exfalso; omega)
          have hgv := give_spec (q := p8) (m := (z.r.words ++ [mkStr s]).length) (d := c8) hR10 hO10.gv (by have := hR.ext.size; have := hO10.h8; omega) hR.ext.size hO10.fr.size (by simp only; omega)
          apply G_on; exact rfl; apply G1_callv; exact rfl; exact rfl; exact rfl; exact rfl; exact hgv; rintro v11 w11 ⟨pd', cd', hR11, hG11, hF11, hnd11⟩; refine ⟨(by first | exact .inl rfl | exact .inr (by assumption)), ?_⟩
          have hrs : (⟨z.r.left - 1, -1, [], 0⟩ : RS) = rs0 := by rw [hl1]; rfl
          simp only at hR11 hG11 hF11 hnd11
          rw [hrs] at hR11
          have hO11 := hO10.give (a' := z.a + k) (r' := rs0) (l := z.r.words ++ [mkStr s]) hR10 hG11 hF11 hnd11 rfl hR10.wds
          rw [hrr, List.drop_drop] at hrun
          repeat' (first | apply G_nil | apply Post_next | apply W_exit | apply Post_then_exit | apply Post_block_exit | (apply Post_block_other; exact rfl))
          refine Post_round (⟨z.a + k, rs0, none, 0, z.hs ++ [(p8, (z.r.words ++ [mkStr s]).length, c8)], z.ls ++ [z.r.words ++ [mkStr s]], pd', cd'⟩ : FdY) ⟨rfl, rfl, rfl, trivial⟩ ⟨hR11, hO11, by rw [hrun]; simp, by simp only [rs0]; omega, good0, by simp only [List.length_append, List.length_singleton]; omega⟩ (by simp only; omega)
        · rw [if_neg hl1, List.drop_drop] at hrr
          rw [hrr] at hrun
          have hl1' : ¬ ((z.r.left - 1 : Nat) : Int) = 0 := by omega
          repeat' (first | (apply G_on; exact rfl; first | (apply G1_nilCheck; exact rfl; exact rfl) | (apply G1_loadB; (first | exact T.p38 | exact T.p3); exact rfl; assumption; exact rfl; exact rfl) | (apply G1_fieldAddr; exact T.f75_2; exact rfl; exact rfl) | (apply G1_eql; exact rfl; exact rfl; exact rfl)) | apply G_nil | apply Post_next | apply W_seq | apply W_region | (apply W_cond_dec; exact rfl; all_goals (intro h; try (exfalso; omega))) | apply W_skip | apply Post_block_normal)
          all_goals try (exfalso; omega)
          have hheld := hI5.held
          refine Post_round (⟨z.a + k, ⟨z.r.left - 1, -1, z.r.words ++ [mkStr s], hh⟩, p8, c8, z.hs, z.ls, z.pd, z.cd⟩ : FdY) ⟨rfl, rfl, rfl, trivial⟩ ⟨⟨hR10, ⟨hO10.gv, hO10.cm, hO10.fr, hO10.np, hO10.npw, hO10.h8, hO10.h2⟩, hrun, by simp only; omega, ⟨⟨by simp only; omega, by simp only; omega⟩, by simp only [List.length_append, List.length_singleton]; omega, fun e => by simp only at e; omega⟩, by simp only; omega⟩, by simp only; omega⟩ (by simp only; omega)
end Go.Proofs.YtikjnmpijflnaaaDoor

/- Requests: what a printed command is, and that a reader takes it back; in plain Lean. -/
namespace Go.Proofs.YtikjnmpijflnaaaDoor
open Go.V
attribute [local irreducible] Blk Own hcell IntT SliceT PlainT AggT SizeT StrT FieldT ZeroT EqT ArrT
def dec (n : Nat) : List UInt8 := Lib.itoa (n : Int)
theorem dec_eq (n : Nat) : dec n = Lib.decDigits n := by
  unfold dec Lib.itoa
  rw [if_neg (by omega), Int.toNat_natCast]
theorem dec_ne10 {n : Nat} : ∀ c ∈ dec n, c ≠ 10 := by
  intro c hc e
  rw [dec_eq] at hc
  have := dec_ge n c hc
  rw [e] at this
  simp at this
theorem dec_len {n : Nat} (h : n ≤ 1000000000) : (dec n).length ≤ 20 := by
  have := itoa_size (n := (n : Int)) (by unfold fit64; omega)
  rw [size_list, itoaB_list] at this
  exact this
theorem dec_num {n : Nat} (h : n ≤ 1000000000) : numOf (dec n) = some (n : Int) := num_itoa (by unfold fit64; omega)
theorem nlAt_app10 : ∀ {s : List UInt8} (m : List UInt8), (∀ c ∈ s, c ≠ 10) → nlAt (s ++ 10 :: m) = s.length
  | [], m, _ => by simp [nlAt]
  | b :: s, m, h => by
    rw [List.cons_append]
    unfold nlAt
    rw [if_neg (h b (by simp)), nlAt_app10 m (fun c hc => h c (by simp [hc])), List.length_cons]
/-- a line that is short enough, and what is behind it -/
theorem line_of {s : List UInt8} (m : List UInt8) (h : ∀ c ∈ s, c ≠ 10) (hl : s.length ≤ 1024) : lineP (s ++ 13 :: 10 :: m) = .ok s (s.length + 2) := by
  have e1 : s ++ 13 :: 10 :: m = (s ++ [13]) ++ 10 :: m := by simp
  have e2 : nlAt (s ++ 13 :: 10 :: m) = s.length + 1 := by
    rw [e1, nlAt_app10 m (fun c hc => by
      rcases List.mem_append.1 hc with hc | hc
      · exact h c hc
      · rw [List.mem_singleton.1 hc]; decide)]
    simp
  unfold lineP
  rw [e2, if_pos ⟨by simp, by omega⟩]
  have e3 : (s ++ 13 :: 10 :: m).getD (s.length + 1 - 1) 0 = 13 := by
    rw [List.getD_eq_getElem?_getD, Nat.add_sub_cancel, List.getElem?_append_right (Nat.le_refl _), Nat.sub_self]
    rfl
  rw [e3, if_neg (by simp), Nat.add_sub_cancel, List.take_left' rfl]
theorem step_star {n : Nat} (m : List UInt8) (h1 : 1 ≤ n) (h2 : n ≤ 128) : stepP rs0 ((42 :: dec n) ++ 13 :: 10 :: m) = .go ⟨n, -1, [], (dec n).length + 3⟩ ((dec n).length + 3) [] := by
  have hd := dec_len (n := n) (by omega)
  have hl := line_of m (s := 42 :: dec n) (fun c hc => by
    rcases List.mem_cons.1 hc with hc | hc
    · rw [hc]; decide
    · exact dec_ne10 c hc) (by rw [List.length_cons]; omega)
  unfold stepP
  rw [if_pos (show rs0.left = 0 from rfl), hl]
  simp only
  rw [if_pos (show (42 :: dec n).head? = some 42 from rfl)]
  have e : numP (42 :: dec n) 42 1 128 = .ok (n : Int) := by
    unfold numP
    simp only
    rw [if_pos trivial, dec_num (by omega)]
    simp only
    rw [if_neg (by omega), if_neg (by omega)]
  rw [e]
  simp only [List.length_cons, Int.toNat_natCast]
theorem step_dollar {r : RS} {n : Nat} (m : List UInt8) (hr : 0 < r.left) (hz : r.size < 0) (h2 : n ≤ 4096) : stepP r ((36 :: dec n) ++ 13 :: 10 :: m) = .go { r with size := (n : Int), held := r.held + ((dec n).length + 3) } ((dec n).length + 3) [] := by
  have hd := dec_len (n := n) (by omega)
  have hl := line_of m (s := 36 :: dec n) (fun c hc => by
    rcases List.mem_cons.1 hc with hc | hc
    · rw [hc]; decide
    · exact dec_ne10 c hc) (by rw [List.length_cons]; omega)
  unfold stepP
  rw [if_neg (by omega), if_pos hz, hl]
  simp only
  have e : numP (36 :: dec n) 36 0 4096 = .ok (n : Int) := by
    unfold numP
    simp only
    rw [if_pos trivial, dec_num (by omega)]
    simp only
    rw [if_neg (by omega), if_neg (by omega)]
  rw [e]
  simp only [List.length_cons]
theorem step_word {r : RS} {s : List UInt8} (m : List UInt8) (hr : 0 < r.left) (hz : r.size = (s.length : Int)) : stepP r (s ++ 13 :: 10 :: m) = if r.left = 1 then .go rs0 (s.length + 2) [r.words ++ [mkStr s]] else .go ⟨r.left - 1, -1, r.words ++ [mkStr s], r.held + (s.length + 2)⟩ (s.length + 2) [] := by
  have hn : r.size.toNat = s.length := by rw [hz, Int.toNat_natCast]
  unfold stepP
  rw [if_neg (by omega), if_neg (by omega), hn, if_neg (by simp), List.drop_left' rfl, if_pos (show List.take 2 (13 :: 10 :: m) = [13, 10] from rfl), List.take_left' rfl]
def bytesOf (w : ByteArray) : List UInt8 := w.data.toList
theorem mk_bytes (w : ByteArray) : mkStr (bytesOf w) = w := by
  unfold mkStr bytesOf
  simp
theorem bytes_len (w : ByteArray) : (bytesOf w).length = w.size := by
  unfold bytesOf
  rw [Array.length_toList]; rfl
/-- a word, and a command, as they are printed -/
def prW (w : ByteArray) : List UInt8 := (36 :: dec w.size) ++ 13 :: 10 :: (bytesOf w ++ [13, 10])
def prHead (n : Nat) : List UInt8 := (42 :: dec n) ++ [13, 10]
def prB (l : List ByteArray) : List UInt8 := prHead l.length ++ l.flatMap prW
structure PrOk (l : List ByteArray) : Prop where
  pos : l ≠ []
  len : l.length ≤ 128
  words : ∀ w ∈ l, w.size ≤ 4096
open Classical in
noncomputable def prC (l : List ByteArray) : List UInt8 := if PrOk l then prB l else []
theorem run_word {n : Nat} {ws : List ByteArray} {h : Nat} {w : ByteArray} (m : List UInt8) (hw : w.size ≤ 4096) :
    ∃ h', runP ⟨n + 1, -1, ws, h⟩ (prW w ++ m) = if n = 0 then { runP rs0 m with out := (ws ++ [w]) :: (runP rs0 m).out } else runP ⟨n, -1, ws ++ [w], h'⟩ m := by
  have e1 : prW w ++ m = (36 :: dec w.size) ++ 13 :: 10 :: (bytesOf w ++ 13 :: 10 :: m) := by unfold prW; simp
  have s1 := step_dollar (r := ⟨n + 1, -1, ws, h⟩) (n := w.size) (bytesOf w ++ 13 :: 10 :: m) (by simp) (by simp) hw
  have s2 := step_word (r := ⟨n + 1, (w.size : Int), ws, h + ((dec w.size).length + 3)⟩) (s := bytesOf w) m (by simp) (by rw [bytes_len])
  have d1 : ((36 :: dec w.size) ++ 13 :: 10 :: (bytesOf w ++ 13 :: 10 :: m)).drop ((dec w.size).length + 3) = bytesOf w ++ 13 :: 10 :: m := by
    rw [show (36 :: dec w.size) ++ 13 :: 10 :: (bytesOf w ++ 13 :: 10 :: m) = ((36 :: dec w.size) ++ [13, 10]) ++ (bytesOf w ++ 13 :: 10 :: m) by simp]
    exact List.drop_left' (by simp)
  have d2 : (bytesOf w ++ 13 :: 10 :: m).drop ((bytesOf w).length + 2) = m := by
    rw [show bytesOf w ++ 13 :: 10 :: m = (bytesOf w ++ [13, 10]) ++ m by simp]
    exact List.drop_left' (by simp)
  rw [e1, run_go s1, d1, List.nil_append]
  simp only
  rw [mk_bytes] at s2
  by_cases hn : n = 0
  · subst hn
    refine ⟨0, ?_⟩
    rw [if_pos rfl] at s2 ⊢
    rw [run_go s2, d2]
    rfl
  · refine ⟨h + ((dec w.size).length + 3) + ((bytesOf w).length + 2), ?_⟩
    rw [if_neg (by simp only; omega)] at s2
    rw [if_neg hn, run_go s2, d2]
    rfl
theorem run_words : ∀ (l : List ByteArray) (ws : List ByteArray) (h : Nat) (m : List UInt8), l ≠ [] → (∀ w ∈ l, w.size ≤ 4096) → runP ⟨l.length, -1, ws, h⟩ (l.flatMap prW ++ m) = { runP rs0 m with out := (ws ++ l) :: (runP rs0 m).out }
  | [], _, _, _, h, _ => absurd rfl h
  | w :: l, ws, h, m, _, hw => by
    rw [List.flatMap_cons, List.append_assoc, List.length_cons]
    obtain ⟨h', e⟩ := run_word (n := l.length) (ws := ws) (h := h) (l.flatMap prW ++ m) (hw w (by simp))
    rw [e]
    by_cases hl : l.length = 0
    · obtain rfl : l = [] := List.eq_nil_of_length_eq_zero hl
      rw [if_pos (show ([] : List ByteArray).length = 0 from rfl)]
      rfl
    · rw [if_neg hl, run_words l (ws ++ [w]) h' m (fun e => hl (by rw [e]; rfl)) (fun x hx => hw x (by simp [hx]))]
      simp
/-- a printed command is taken back -/
theorem run_print {l : List ByteArray} (m : List UInt8) (h : PrOk l) : runP rs0 (prB l ++ m) = { runP rs0 m with out := l :: (runP rs0 m).out } := by
  have hl : 0 < l.length := List.length_pos_iff.2 h.pos
  have s1 := step_star (n := l.length) (l.flatMap prW ++ m) hl h.len
  have e1 : prB l ++ m = (42 :: dec l.length) ++ 13 :: 10 :: (l.flatMap prW ++ m) := by unfold prB prHead; simp
  have d1 : ((42 :: dec l.length) ++ 13 :: 10 :: (l.flatMap prW ++ m)).drop ((dec l.length).length + 3) = l.flatMap prW ++ m := by
    rw [show (42 :: dec l.length) ++ 13 :: 10 :: (l.flatMap prW ++ m) = ((42 :: dec l.length) ++ [13, 10]) ++ (l.flatMap prW ++ m) by simp]
    exact List.drop_left' (by simp)
  rw [e1, run_go s1, d1, run_words l [] _ m h.pos h.words]
  rfl
theorem run_nil : runP rs0 [] = ⟨[], rs0, [], 0⟩ := by
  refine run_stop ?_
  unfold stepP
  rw [if_pos (show rs0.left = 0 from rfl)]
  rfl
theorem pr_len {l : List ByteArray} (hl : l.length ≤ 200) (hw : ∀ w ∈ l, w.size ≤ 5000) : (prB l).length ≤ 30 + l.length * 6000 := by
  have key : ∀ l : List ByteArray, (∀ w ∈ l, w.size ≤ 5000) → (l.flatMap prW).length ≤ l.length * 6000 := by
    intro l
    induction l with
    | nil => intro _; simp
    | cons w l ih =>
      intro h
      have h1 := ih (fun x hx => h x (by simp [hx]))
      have h2 := h w (by simp)
      have h3 := dec_len (n := w.size) (by omega)
      rw [List.flatMap_cons, List.length_append, List.length_cons]
      have h4 : (prW w).length = (dec w.size).length + 5 + w.size := by unfold prW; simp [bytes_len]; omega
      omega
  have h1 := key l hw
  have h2 := dec_len (n := l.length) (by omega)
  unfold prB prHead
  simp only [List.length_append, List.length_cons, List.length_nil]
  omega
end Go.Proofs.YtikjnmpijflnaaaDoor

/- Requests: Print; the walks. -/
namespace Go.Proofs.YtikjnmpijflnaaaDoor
open Go.V
attribute [local irreducible] Blk Own hcell IntT SliceT PlainT AggT SizeT StrT FieldT ZeroT EqT ArrT
section
variable {P : Program} {n : Nat} {ops : Array Oper} {dr : Nat × List Nat} {l : List Oper} {E : Env} {w : World} {K : Env → World → Prop}
variable {d : Option Nat} {ty : TypeId} {pos : String} {af : Array Edge} {g : Option (Nat × Bool)} {x y : Operand} {t t' : TypeId} {s u : ByteArray}
theorem G1_saddL {a b : List UInt8} (hx : E.look x = some (.string s)) (hy : E.look y = some (.string u)) (ha : s = mkStr a) (hb : u = mkStr b) (hl : a.length + b.length ≤ 9223372036854775807) (hd : dstOk n d = true) (h : G P n ops dr l (E.put d (.string (mkStr (a ++ b)))) w K) : G1 P n ops dr ⟨d, .binOp .add t x y t', ty, pos, af, g⟩ l E w K := by
  subst ha hb
  exact G1_sadd hx hy (by rw [size_list, size_list]; simpa [mkStr] using hl) hd (by rw [mkStr_app]; exact h)
end
/-- bytes that are being written, in a box -/
structure PrSt (w0 w : World) (B a : Nat) (p : Option Addr) (c : Nat) (bs : List UInt8) : Prop where
  ext : Ext w0 w
  box : Blk w.heap a 28 [.slice p bs.length c]
  own : Own w B 5 eByte p c bs
  h0 : w0.heap.size ≤ a
  h1 : a < B
  hB : B ≤ w.heap.size
theorem PrSt.xt {w0 w w' : World} {B a c : Nat} {p : Option Addr} {bs : List UInt8} (h : PrSt w0 w B a p c bs) (hx : Ext w w') : PrSt w0 w' B a p c bs :=
  ⟨h.ext.trans hx, h.box.ext hx, h.own.ext hx, h.h0, h.h1, Nat.le_trans h.hB hx.size⟩
theorem PrSt.bx {w0 w w1 : World} {B a c c' : Nat} {p p' : Option Addr} {bs bs' : List UInt8} (h : PrSt w0 w B a p c bs) (ha : App w w1 B 5 eByte p p' c' bs') : Blk w1.heap a 28 [.slice p bs.length c] :=
  h.box.grown ha.grown (fun e => by have := (h.own.ge a e).1; have := h.h1; omega)
theorem PrSt.app {w0 w w1 w2 : World} {B a c c' : Nat} {p p' : Option Addr} {bs bs' : List UInt8} (h : PrSt w0 w B a p c bs) (ha : App w w1 B 5 eByte p p' c' bs') (hb : Blk w2.heap a 28 [.slice p' bs'.length c']) (hg : w1.grownBy w2 (some a)) : PrSt w0 w2 B a p' c' bs' := by
  have hge := h.own.ge
  have hge1 := ha.own.ge
  have h0 := h.h0
  have h1 := h.h1
  have e1 : Ext w0 w1 := h.ext.app ha (fun k hk => by have := (hge k hk).1; omega)
  exact ⟨e1.own hg (fun k hk => by injection hk with hk; omega), hb, ha.own.kept hg (fun a' ha' e => by injection e with e; have := (hge1 a'.block (by rw [ha']; rfl)).1; omega), h0, h1, Nat.le_trans ha.base hg.size⟩

def crlfB : ByteArray := ⟨#[13, 10]⟩
theorem prLine_spec {w0 w : World} {B a c : Nat} {p : Option Addr} {bs : List UInt8} {m : UInt8} {mi : Int} {n : Nat} (hm : mi = (m.toNat : Int)) (h : PrSt w0 w B a p c bs) (hl : bs.length ≤ 1000000000) (hn : n ≤ 1000000000) (hT : Pow w0) :
    Ctr Tryd.prog 55 [.int .u8 mi, .int .i64 (n : Int), .pointer (some (adr (bx a) 0))] w (fun v w' => v = .tuple #[] ∧ ∃ p' c', PrSt w0 w' B a p' c' (bs ++ ((m :: dec n) ++ [13, 10]))) := by
  subst hm
  have hdl := dec_len (n := n) hn
  have hss : (itoaB (n : Int)).size = (dec n).length := by rw [itoaS]; rfl
  have hsl : (itoaB (n : Int)).data.toList = dec n := itoaL _
  refine Ctr_of Tryd.func55 Tryd.ntmps55 rfl rfl rfl ?_
  have hb := h.box
  repeat' (first | (apply G_on; exact rfl; first | (apply G1_move; exact rfl; exact rfl) | (apply G1_loadB; exact T.p28; exact rfl; assumption; exact rfl; exact rfl)) | apply W_seq | apply W_region)
  apply G_on; exact rfl
  apply G1_build1 eByte m; exact T.s28; exact rfl; exact rfl; exact rfl; decide; exact rfl; exact rfl
  intro p1 w1 hp1 hs1 _ hx1 hz1
  have h1 := h.xt hx1
  have hb := h1.box
  have hO := h1.own
  have hBB := h1.hB
  repeat' (apply G_on; exact rfl; (apply G1_appendA; exact T.s28; exact rfl; exact rfl; exact hO; exact hs1; exact rfl; omega; (simp only [List.length_cons, List.length_nil]; omega); (simp only [List.length_cons, List.length_nil]; omega); exact rfl; exact rfl; exact rfl; intro p2 c2 w2 ha2))
  have hb3 := (h1).bx ha2
  apply G_on; exact rfl; apply G1_storeB; exact T.z28; exact rfl; exact rfl; exact hb3; exact rfl; exact rfl; (first | exact Nat.le_of_ble_eq_true rfl | (focus (simp [Value.cells]; done))); (first | exact Enc.one _ _ | (focus (simp [Value.oneCell']; done)) | (focus (simp [Value.cells, Value.oneCell']; done)) | exact Enc.oneAgg _ _); exact rfl; (first | exact .inl rfl | exact .inr (by simp [exempt])); exact rfl; intro w3 hc3 hg3 hs3
  replace hc3 : Blk w3.heap a 28 [.slice _ _ _] := hc3
  have h3 := (h1).app ha2 hc3 hg3
  have hb := h3.box
  have hO := h3.own
  have hBB := h3.hB
  have hprt := fun w' (hx : Ext w3 w') => print_spec (n := (n : Int)) (w := w') (by omega) (by omega) (TabIs.ext hT (h3.ext.trans hx))
  have hx3 : Ext w3 w3.drew := Ext.drew Ext.rfl'
  repeat' (first | (apply G_on; exact rfl; first | (apply G1_move; exact rfl; exact rfl) | (apply G1_call (f := 40); exact rfl; exact rfl; exact rfl; exact hprt _ (by repeat first | assumption | exact Ext.rfl' | apply Ext.drew | apply Ext.alloc | refine Ext.trans ?_ (by assumption)); rintro _ w4 ⟨rfl, hx4⟩; refine ⟨(by first | exact .inl rfl | exact .inr (by assumption)), ?_⟩) | (apply G1_loadB; exact T.p28; exact rfl; assumption; exact rfl; exact rfl)) | apply G_nil | apply Post_next | apply W_seq | refine W_drawn 1 [] [0,1,2,3,4] mixed (by decide +kernel) ?_)
  have hx34 : Ext w3 w4 := (by repeat first | assumption | exact Ext.rfl' | apply Ext.drew | apply Ext.alloc | refine Ext.trans ?_ (by assumption))
  have h4 := h3.xt hx34
  have hb := h4.box
  have hO := h4.own
  have hBB := h4.hB
  repeat' (apply G_on; exact rfl; (apply G1_appendStr; exact T.s28; exact T.str9; exact rfl; exact rfl; exact hO; exact hBB; (simp only [List.length_append, List.length_cons, List.length_nil]; omega); (simp only [List.length_append, List.length_cons, List.length_nil]; omega); exact rfl; exact rfl; exact rfl; intro p5 c5 w5 ha5))
  have hb6 := (h4).bx ha5
  apply G_on; exact rfl; apply G1_storeB; exact T.z28; exact rfl; exact rfl; exact hb6; exact rfl; exact rfl; (first | exact Nat.le_of_ble_eq_true rfl | (focus (simp [Value.cells]; done))); (first | exact Enc.one _ _ | (focus (simp [Value.oneCell']; done)) | (focus (simp [Value.cells, Value.oneCell']; done)) | exact Enc.oneAgg _ _); exact rfl; (first | exact .inl rfl | exact .inr (by simp [exempt])); exact rfl; intro w6 hc6 hg6 hs6
  replace hc6 : Blk w6.heap a 28 [.slice _ _ _] := hc6
  have h6 := (h4).app ha5 hc6 hg6
  have hb := h6.box
  have hO := h6.own
  have hBB := h6.hB
  repeat' (first | (apply G_on; exact rfl; first | (apply G1_appendStr (s := crlfB); exact T.s28; exact T.str9; exact rfl; exact rfl; exact hO; exact hBB; (simp only [List.length_append, List.length_cons, List.length_nil, hsl]; show (_ + 2) * _ ≤ _; omega); (simp only [List.length_append, List.length_cons, List.length_nil, hsl]; show _ + 2 ≤ _; omega); exact rfl; exact rfl; exact rfl; intro p7 c7 w7 ha7) | (apply G1_loadB; exact T.p28; exact rfl; assumption; exact rfl; exact rfl)) | apply G_nil | apply Post_next | apply W_region)
  have hb8 := (h6).bx ha7
  apply G_on; exact rfl; apply G1_storeB; exact T.z28; exact rfl; exact rfl; exact hb8; exact rfl; exact rfl; (first | exact Nat.le_of_ble_eq_true rfl | (focus (simp [Value.cells]; done))); (first | exact Enc.one _ _ | (focus (simp [Value.oneCell']; done)) | (focus (simp [Value.cells, Value.oneCell']; done)) | exact Enc.oneAgg _ _); exact rfl; (first | exact .inl rfl | exact .inr (by simp [exempt])); exact rfl; intro w8 hc8 hg8 hs8
  replace hc8 : Blk w8.heap a 28 [.slice _ _ _] := hc8
  have h8 := (h6).app ha7 hc8 hg8
  have hb := h8.box
  have hO := h8.own
  have hBB := h8.hB
  repeat' apply G_nil
  refine Post_end Tryd.results55 (vs := []) rfl ?_
  have e0 : bs ++ [m] ++ (itoaB (n : Int)).data.toList ++ crlfB.data.toList = bs ++ ((m :: dec n) ++ [13, 10]) := by rw [hsl]; simp [crlfB]
  rw [e0] at h8
  exact ⟨rfl, p7, c7, h8⟩
theorem pr_snoc {l : List ByteArray} {i : Nat} {x : ByteArray} (h : l[i]? = some x) : prHead l.length ++ (l.take (i + 1)).flatMap prW = prHead l.length ++ (l.take i).flatMap prW ++ ((36 :: dec x.size) ++ [13, 10]) ++ bytesOf x ++ [13, 10] := by
  rw [take_snoc h, List.flatMap_append]
  simp [prW]
theorem prTake_len {l : List ByteArray} (hl : l.length ≤ 128) : ∀ {i : Nat}, (∀ w ∈ l.take i, w.size ≤ 4096) → (prHead l.length ++ (l.take i).flatMap prW).length ≤ 1000000 := by
  intro i h
  have key : ∀ l : List ByteArray, (∀ w ∈ l, w.size ≤ 4096) → (l.flatMap prW).length ≤ l.length * 6000 := by
    intro l
    induction l with
    | nil => intro _; simp
    | cons w l ih =>
      intro h
      have h1 := ih (fun x hx => h x (by simp [hx]))
      have h2 := h w (by simp)
      have h3 := dec_len (n := w.size) (by omega)
      rw [List.flatMap_cons, List.length_append, List.length_cons]
      have h4 : (prW w).length = (dec w.size).length + 5 + w.size := by unfold prW; simp [bytes_len]; omega
      omega
  have h1 := key _ h
  have h2 := dec_len (n := l.length) (by omega)
  have h3 : (l.take i).length ≤ 128 := by rw [List.length_take]; omega
  unfold prHead
  simp only [List.length_append, List.length_cons, List.length_nil]
  omega
theorem prC_of {l : List ByteArray} (h : PrOk l) : prC l = prB l := if_pos h
theorem prC_no {l : List ByteArray} (h : ¬ PrOk l) : prC l = [] := if_neg h
/-- request.Print -/
theorem print05_spec {q : Option Addr} {d : Nat} {l : List ByteArray} {w : World} (hS : Sl w.heap eStr q d l) (hT : Pow w) :
    Ctr Tryd.prog 31 [.slice q l.length d] w (fun v w' => Ext w w' ∧ ∃ p c, v = .slice p (prC l).length c ∧ Own w' w.heap.size 5 eByte p c (prC l)) := by
  have hsb := hS.bound
  have hok := hS.ok
  refine Ctr_of Tryd.func31 Tryd.ntmps31 rfl rfl rfl ?_
  by_cases h0 : l.length = 0
  · have hn : ¬ PrOk l := fun h => h.pos (List.eq_nil_of_length_eq_zero h0)
    repeat' (first | (apply G_on; exact rfl; first | ((first | apply G1_assign | apply G1_move); exact rfl; exact rfl) | (apply G1_len; exact T.s31; exact rfl; exact rfl) | (apply G1_eql; exact rfl; exact rfl; exact rfl) | (apply G1_pick_t; exact rfl; exact rfl; exact rfl)) | apply G_nil | apply Post_next | apply W_seq | apply W_region | (apply W_cond_true; exact rfl) | (apply G_off; exact rfl; exact rfl) | ((fail_if_success (apply G_on; exact rfl)); apply G_split_dec; exact rfl; exact rfl; all_goals (intro h; try (exfalso; omega))) | apply W_ret | apply Post_then_ret)
    all_goals try (exfalso; omega)
    all_goals
      refine Post_ret Tryd.results31 ⟨_, _, rfl, rfl, rfl⟩ ?_
      rw [prC_no hn]
      exact ⟨(by repeat first | assumption | exact Ext.rfl' | apply Ext.drew | apply Ext.alloc | refine Ext.trans ?_ (by assumption)), none, 0, rfl, Own.nil _ _ _ _⟩
  by_cases h128 : 128 < l.length
  · have hn : ¬ PrOk l := fun h => by have := h.len; omega
    repeat' (first | (apply G_on; exact rfl; first | ((first | apply G1_assign | apply G1_move); exact rfl; exact rfl) | (apply G1_len; exact T.s31; exact rfl; exact rfl) | ((first | apply G1_eql | apply G1_gtr); exact rfl; exact rfl; exact rfl) | (apply G1_pick_f; exact rfl; exact rfl; exact rfl)) | apply G_nil | apply Post_next | apply W_seq | apply W_region | (apply W_cond_dec; exact rfl; all_goals (intro h; try (exfalso; omega))) | ((fail_if_success (apply G_on; exact rfl)); apply G_split_dec; exact rfl; exact rfl; all_goals (intro h; try (exfalso; omega))) | apply W_ret | apply Post_then_ret)
    all_goals try (exfalso; omega)
    all_goals
      refine Post_ret Tryd.results31 ⟨_, _, rfl, rfl, rfl⟩ ?_
      rw [prC_no hn]
      exact ⟨(by repeat first | assumption | exact Ext.rfl' | apply Ext.drew | apply Ext.alloc | refine Ext.trans ?_ (by assumption)), none, 0, rfl, Own.nil _ _ _ _⟩
  repeat' (first | (apply G_on; exact rfl; first | ((first | apply G1_assign | apply G1_move); exact rfl; exact rfl) | (apply G1_len; exact T.s31; exact rfl; exact rfl) | ((first | apply G1_eql | apply G1_gtr); exact rfl; exact rfl; exact rfl) | (apply G1_pick_f; exact rfl; exact rfl; exact rfl)) | apply G_nil | apply Post_next | apply W_seq | apply W_region | (apply W_cond_dec; exact rfl; all_goals (intro h; try (exfalso; omega))) | ((fail_if_success (apply G_on; exact rfl)); apply G_split_dec; exact rfl; exact rfl; all_goals (intro h; try (exfalso; omega))) | apply W_skip)
  all_goals try (exfalso; omega)
  all_goals
    apply G_on; exact rfl; apply G1_alloc; exact T.zero28; exact rfl; exact rfl; intro a3 w3 ha3 hA3 hx3 hs3
    replace hA3 : Blk w3.heap a3 28 [.slice none 0 0] := hA3
    have h3 : PrSt w w3 (a3 + 1) a3 none 0 [] := ⟨by first | exact hx3 | exact (Ext.drew Ext.rfl').trans hx3, hA3, Own.nil _ _ _ _, by first | (show w.heap.size ≤ a3; rw [ha3]; exact Nat.le_refl _) | omega, by omega, by omega⟩
    repeat' (first | (apply G_on; exact rfl; first | ((first | apply G1_assign | apply G1_move | apply G1_makeFunc); exact rfl; exact rfl) | (apply G1_len; exact T.s31; exact rfl; exact rfl)) | apply G_nil | apply Post_next | apply W_seq | apply W_region)
    apply G_on; exact rfl; apply G1_callv; exact rfl; exact rfl; exact rfl; exact rfl; exact prLine_spec (m := 42) rfl h3 (by simp) (n := l.length) (by omega) hT; rintro _ w4 ⟨rfl, p4, c4, h4⟩; refine ⟨(by first | exact .inl rfl | exact .inr (by assumption)), ?_⟩
    rw [List.nil_append] at h4
    repeat' (first | (apply G_on; exact rfl; first | (apply G1_move; exact rfl; exact rfl) | (apply G1_len; exact T.s31; exact rfl; exact rfl)) | apply G_nil | apply Post_next | apply W_seq | apply W_region | apply W_block)
    refine W_loop (ι := Nat × Option Addr × Nat) (fun y => [(3, .pointer (some (adr (bx a3) 0))), (4, .func (.func 55) #[] #[.pointer (some (adr (bx a3) 0))]), (20, .slice q l.length d), (21, .int .i64 (l.length : Int)), (22, .int .i64 (y.1 : Int))])
      (fun y w' => y.1 ≤ l.length ∧ (∀ x ∈ l.take y.1, x.size ≤ 4096) ∧ PrSt w w' (a3 + 1) a3 y.2.1 y.2.2 (prHead l.length ++ (l.take y.1).flatMap prW)) (fun y => l.length - y.1) (0, p4, c4) ⟨rfl, rfl, rfl, rfl, rfl, trivial⟩
      ⟨Nat.zero_le _, by simp, by simpa [prHead] using h4⟩ ?_
    clear h4
    rintro ⟨i, p5, c5⟩ w5 ⟨hi, hsm, h5⟩
    simp only at hi hsm h5
    refine W_keep [(3, .pointer (some (adr (bx a3) 0))), (4, .func (.func 55) #[] #[.pointer (some (adr (bx a3) 0))]), (20, .slice q l.length d), (21, .int .i64 (l.length : Int)), (22, .int .i64 (i : Int))] ⟨rfl, rfl, rfl, rfl, rfl, trivial⟩ ?_
    have hlen5 := prTake_len (l := l) (by omega) hsm
    obtain ⟨bs, hbs⟩ : ∃ bs, prHead l.length ++ (l.take i).flatMap prW = bs := ⟨_, rfl⟩
    rw [hbs] at h5 hlen5
    by_cases hlt : i < l.length
    · obtain ⟨x, hx⟩ := get_some hlt
      by_cases hxl : x.size ≤ 4096
      · have hb5 := h5.box
        have hS5 := hS.ext h5.ext
        repeat' (first | (apply G_on; exact rfl; first | ((first | apply G1_assign | apply G1_move); exact rfl; exact rfl) | (apply G1_indexAddrJ (q := i); exact T.s31; exact rfl; exact rfl; exact rfl; exact hok; exact hlt; exact rfl) | (apply G1_loadEl1 (q := i) (e := eStr); exact T.p9; exact rfl; exact hS5; exact hx; exact rfl; exact rfl; exact rfl) | ((first | apply G1_gtr | apply G1_lss); exact rfl; exact rfl; exact rfl) | (apply G1_slen; exact T.str9; exact rfl; exact rfl)) | apply G_nil | apply Post_next | apply W_seq | apply W_region | (apply W_cond_dec; exact rfl; all_goals (intro h; try (exfalso; omega))) | apply W_skip | apply W_block)
        all_goals try (exfalso; omega)
        apply G_on; exact rfl; apply G1_callv; exact rfl; exact rfl; exact rfl; exact rfl; exact prLine_spec (m := 36) rfl h5 (by omega) (n := x.size) (by omega) hT; rintro _ w6 ⟨rfl, p6, c6, h6⟩; refine ⟨(by first | exact .inl rfl | exact .inr (by assumption)), ?_⟩
        have hd6 := dec_len (n := x.size) (by omega)
        have hl6 : (bs ++ ((36 :: dec x.size) ++ [13, 10])).length ≤ 1000100 := by simp only [List.length_append, List.length_cons, List.length_nil]; omega
        have hsx : x.data.toList.length = x.size := bytes_len x
        have hb := h6.box
        have hO := h6.own
        have hBB := h6.hB
        repeat' (first | (apply G_on; exact rfl; first | (apply G1_move; exact rfl; exact rfl) | (apply G1_appendStr (s := x); exact T.s28; exact T.str9; exact rfl; exact rfl; exact hO; exact hBB; omega; omega; exact rfl; exact rfl; exact rfl; intro p7 c7 w7 ha7) | (apply G1_loadB; exact T.p28; exact rfl; assumption; exact rfl; exact rfl)) | apply G_nil | apply Post_next | apply W_seq | apply W_region)
        have hb8 := (h6).bx ha7
        apply G_on; exact rfl; apply G1_storeB; exact T.z28; exact rfl; exact rfl; exact hb8; exact rfl; exact rfl; (first | exact Nat.le_of_ble_eq_true rfl | (focus (simp [Value.cells]; done))); (first | exact Enc.one _ _ | (focus (simp [Value.oneCell']; done)) | (focus (simp [Value.cells, Value.oneCell']; done)) | exact Enc.oneAgg _ _); exact rfl; (first | exact .inl rfl | exact .inr (by simp [exempt])); exact rfl; intro w8 hc8 hg8 hs8
        replace hc8 : Blk w8.heap a3 28 [.slice _ _ _] := hc8
        have h8 := (h6).app ha7 hc8 hg8
        have hb := h8.box
        have hO := h8.own
        have hBB := h8.hB
        repeat' (first | (apply G_on; exact rfl; first | (apply G1_appendStr (s := crlfB); exact T.s28; exact T.str9; exact rfl; exact rfl; exact hO; exact hBB; (rw [List.length_append, hsx]; show (_ + 2) * _ ≤ _; omega); (rw [List.length_append, hsx]; show _ + 2 ≤ _; omega); exact rfl; exact rfl; exact rfl; intro p9 c9 w9 ha9) | (apply G1_loadB; exact T.p28; exact rfl; assumption; exact rfl; exact rfl)) | apply G_nil | apply Post_next | apply W_region)
        have hb10 := (h8).bx ha9
        apply G_on; exact rfl; apply G1_storeB; exact T.z28; exact rfl; exact rfl; exact hb10; exact rfl; exact rfl; (first | exact Nat.le_of_ble_eq_true rfl | (focus (simp [Value.cells]; done))); (first | exact Enc.one _ _ | (focus (simp [Value.oneCell']; done)) | (focus (simp [Value.cells, Value.oneCell']; done)) | exact Enc.oneAgg _ _); exact rfl; (first | exact .inl rfl | exact .inr (by simp [exempt])); exact rfl; intro w10 hc10 hg10 hs10
        replace hc10 : Blk w10.heap a3 28 [.slice _ _ _] := hc10
        have h10 := (h8).app ha9 hc10 hg10
        have hb := h10.box
        have hO := h10.own
        have hBB := h10.hB
        repeat' (first | (apply G_on; exact rfl; first | (apply G1_move; exact rfl; exact rfl) | (apply G1_add; exact rfl; exact rfl; omega; omega; exact rfl)) | apply G_nil | apply Post_next | apply W_region | apply Post_block_normal)
        refine Post_round (i + 1, p9, c9) ⟨rfl, rfl, rfl, rfl, rfl, trivial⟩ ⟨hlt, fun y hy => ?_, ?_⟩ (by simp only; omega)
        · simp only [take_snoc hx] at hy
          rcases List.mem_append.1 hy with hy | hy
          · exact hsm y hy
          · rw [List.mem_singleton.1 hy]; exact hxl
        · simp only
          rw [pr_snoc hx, hbs]
          have e0 : bs ++ ((36 :: dec x.size) ++ [13, 10]) ++ x.data.toList ++ crlfB.data.toList = bs ++ ((36 :: dec x.size) ++ [13, 10]) ++ bytesOf x ++ [13, 10] := by simp [crlfB, bytesOf]
          rw [e0] at h10
          exact h10
      · have hS5 := hS.ext h5.ext
        have hn : ¬ PrOk l := fun h => hxl (h.words x (List.mem_of_getElem? hx))
        repeat' (first | (apply G_on; exact rfl; first | ((first | apply G1_assign | apply G1_move); exact rfl; exact rfl) | (apply G1_indexAddrJ (q := i); exact T.s31; exact rfl; exact rfl; exact rfl; exact hok; exact hlt; exact rfl) | (apply G1_loadEl1 (q := i) (e := eStr); exact T.p9; exact rfl; exact hS5; exact hx; exact rfl; exact rfl; exact rfl) | ((first | apply G1_gtr | apply G1_lss); exact rfl; exact rfl; exact rfl) | (apply G1_slen; exact T.str9; exact rfl; exact rfl)) | apply G_nil | apply Post_next | apply W_seq | apply W_region | (apply W_cond_dec; exact rfl; all_goals (intro h; try (exfalso; omega))) | apply W_skip | apply W_ret | apply W_block | apply Post_then_ret | apply Post_block_ret)
        all_goals try (exfalso; omega)
        refine Post_ret Tryd.results31 ⟨_, _, rfl, rfl, rfl⟩ ?_
        rw [prC_no hn]
        exact ⟨h5.ext, none, 0, rfl, Own.nil _ _ _ _⟩
    · have hil : i = l.length := by omega
      have hpo : PrOk l := ⟨fun e => h0 (by rw [e]; rfl), by omega, by rw [hil, List.take_of_length_le (Nat.le_refl _)] at hsm; exact hsm⟩
      rw [hil, List.take_of_length_le (Nat.le_refl _)] at hbs
      have hb5 := h5.box
      repeat' (first | (apply G_on; exact rfl; first | (apply G1_assign; exact rfl; exact rfl) | (apply G1_lss; exact rfl; exact rfl; exact rfl) | (apply G1_loadB; exact T.p28; exact rfl; assumption; exact rfl; exact rfl)) | apply G_nil | apply Post_next | apply W_seq | apply W_region | (apply W_cond_dec; exact rfl; all_goals (intro h; try (exfalso; omega))) | apply W_exit | apply W_ret | apply Post_then_exit | apply Post_block_exit)
      all_goals try (exfalso; omega)
      refine Post_ret Tryd.results31 ⟨_, _, rfl, rfl, rfl⟩ ?_
      rw [prC_of hpo]
      have hbs' : prB l = bs := hbs
      rw [hbs']
      exact ⟨h5.ext, p5, c5, rfl, h5.own.base (by omega)⟩
/-- the document's Print -/
theorem refPrint05_spec {q : Option Addr} {d : Nat} {l : List ByteArray} {w : World} (hS : Sl w.heap eStr q d l) :
    Ctr Tryd.prog 32 [.slice q l.length d] w (fun v w' => Ext w w' ∧ v = .string (mkStr (prC l))) := by
  have hsb := hS.bound
  have hok := hS.ok
  refine Ctr_of Tryd.func32 Tryd.ntmps32 rfl rfl rfl ?_
  by_cases h0 : l.length = 0
  · have hn : ¬ PrOk l := fun h => h.pos (List.eq_nil_of_length_eq_zero h0)
    repeat' (first | (apply G_on; exact rfl; first | ((first | apply G1_assign | apply G1_move); exact rfl; exact rfl) | (apply G1_len; exact T.s31; exact rfl; exact rfl) | (apply G1_eql; exact rfl; exact rfl; exact rfl) | (apply G1_pick_t; exact rfl; exact rfl; exact rfl)) | apply G_nil | apply Post_next | apply W_seq | apply W_region | (apply W_cond_true; exact rfl) | (apply G_off; exact rfl; exact rfl) | ((fail_if_success (apply G_on; exact rfl)); apply G_split_dec; exact rfl; exact rfl; all_goals (intro h; try (exfalso; omega))) | apply W_ret | apply Post_then_ret)
    all_goals try (exfalso; omega)
    all_goals
      refine Post_ret Tryd.results32 ⟨_, _, rfl, rfl, rfl⟩ ?_
      rw [prC_no hn]
      exact ⟨(by repeat first | assumption | exact Ext.rfl' | apply Ext.drew | apply Ext.alloc | refine Ext.trans ?_ (by assumption)), rfl⟩
  by_cases h128 : 128 < l.length
  · have hn : ¬ PrOk l := fun h => by have := h.len; omega
    repeat' (first | (apply G_on; exact rfl; first | ((first | apply G1_assign | apply G1_move); exact rfl; exact rfl) | (apply G1_len; exact T.s31; exact rfl; exact rfl) | ((first | apply G1_eql | apply G1_gtr); exact rfl; exact rfl; exact rfl) | (apply G1_pick_f; exact rfl; exact rfl; exact rfl)) | apply G_nil | apply Post_next | apply W_seq | apply W_region | (apply W_cond_dec; exact rfl; all_goals (intro h; try (exfalso; omega))) | ((fail_if_success (apply G_on; exact rfl)); apply G_split_dec; exact rfl; exact rfl; all_goals (intro h; try (exfalso; omega))) | apply W_ret | apply Post_then_ret)
    all_goals try (exfalso; omega)
    all_goals
      refine Post_ret Tryd.results32 ⟨_, _, rfl, rfl, rfl⟩ ?_
      rw [prC_no hn]
      exact ⟨(by repeat first | assumption | exact Ext.rfl' | apply Ext.drew | apply Ext.alloc | refine Ext.trans ?_ (by assumption)), rfl⟩
  have hss : (itoaB (l.length : Int)).size = (dec l.length).length := by rw [itoaS]; rfl
  have hsl : (itoaB (l.length : Int)).data.toList = dec l.length := itoaL _
  have hdl := dec_len (n := l.length) (by omega)
  have eS : (⟨#[42]⟩ : ByteArray) = mkStr [42] := rfl
  have eC : (⟨#[13, 10]⟩ : ByteArray) = mkStr [13, 10] := rfl
  have eD : (⟨#[36]⟩ : ByteArray) = mkStr [36] := rfl
  have eI : ∀ n : Nat, itoaB (n : Int) = mkStr (dec n) := fun n => rfl
  repeat' (first | (apply G_on; exact rfl; first | ((first | apply G1_assign | apply G1_move); exact rfl; exact rfl) | (apply G1_call (f := 56); exact rfl; exact rfl; exact rfl; exact rprint_spec (by unfold fit64; omega); rintro _ w3 ⟨rfl, hx3⟩; refine ⟨(by first | exact .inl rfl | exact .inr (by assumption)), ?_⟩) | (apply G1_saddL; exact rfl; exact rfl; (first | exact eS | exact eC | exact eI _ | exact rfl); (first | exact eS | exact eC | exact eI _ | exact rfl); (simp only [List.length_append, List.length_cons, List.length_nil]; omega); exact rfl) | (apply G1_len; exact T.s31; exact rfl; exact rfl) | ((first | apply G1_eql | apply G1_gtr); exact rfl; exact rfl; exact rfl) | (apply G1_pick_f; exact rfl; exact rfl; exact rfl)) | apply G_nil | apply Post_next | apply W_seq | apply W_region | (apply W_cond_dec; exact rfl; all_goals (intro h; try (exfalso; omega))) | ((fail_if_success (apply G_on; exact rfl)); apply G_split_dec; exact rfl; exact rfl; all_goals (intro h; try (exfalso; omega))) | apply W_skip | apply W_block)
  all_goals try (exfalso; omega)
  all_goals
    refine W_loop (ι := Nat) (fun y => [(0, .slice q l.length d), (3, .string (mkStr (prHead l.length ++ (l.take y).flatMap prW))), (4, .int .i64 (y : Int))])
      (fun y w' => Ext w w' ∧ y ≤ l.length ∧ ∀ x ∈ l.take y, x.size ≤ 4096) (fun y => l.length - y) 0 ⟨rfl, by simp [prHead]; rfl, rfl, trivial⟩ ⟨(by repeat first | assumption | exact Ext.rfl' | apply Ext.drew | apply Ext.alloc | refine Ext.trans ?_ (by assumption)), Nat.zero_le _, by simp⟩ ?_
    rintro i w5 ⟨hx5, hi, hsm⟩
    refine W_keep [(0, .slice q l.length d), (3, .string (mkStr (prHead l.length ++ (l.take i).flatMap prW))), (4, .int .i64 (i : Int))] ⟨rfl, rfl, rfl, trivial⟩ ?_
    have hlen5 := prTake_len (l := l) (by omega) hsm
    obtain ⟨bs, hbs⟩ : ∃ bs, prHead l.length ++ (l.take i).flatMap prW = bs := ⟨_, rfl⟩
    rw [hbs] at hlen5 ⊢
    have hS5 := hS.ext hx5
    by_cases hlt : i < l.length
    · obtain ⟨x, hx⟩ := get_some hlt
      by_cases hxl : x.size ≤ 4096
      · have hd6 := dec_len (n := x.size) (by omega)
        have hsx : (bytesOf x).length = x.size := bytes_len x
        have eX : x = mkStr (bytesOf x) := (mk_bytes x).symm
        repeat' (first | (apply G_on; exact rfl; first | ((first | apply G1_assign | apply G1_move); exact rfl; exact rfl) | (apply G1_indexAddrJ (q := i); exact T.s31; exact rfl; exact rfl; exact rfl; exact hok; exact hlt; exact rfl) | (apply G1_loadEl1 (q := i) (e := eStr); exact T.p9; exact rfl; exact hS5.ext (by repeat first | assumption | exact Ext.rfl' | apply Ext.drew | apply Ext.alloc | refine Ext.trans ?_ (by assumption)); exact hx; exact rfl; exact rfl; exact rfl) | (apply G1_call (f := 56); exact rfl; exact rfl; exact rfl; exact rprint_spec (by unfold fit64; omega); rintro _ w6 ⟨rfl, hx6⟩; refine ⟨(by first | exact .inl rfl | exact .inr (by assumption)), ?_⟩) | (apply G1_saddL; exact rfl; exact rfl; (first | exact eD | exact eC | exact eI _ | exact rfl); (first | exact eD | exact eC | exact eI _ | exact eX); (simp only [List.length_append, List.length_cons, List.length_nil]; omega); exact rfl) | (apply G1_len; exact T.s31; exact rfl; exact rfl) | ((first | apply G1_gtr | apply G1_lss); exact rfl; exact rfl; exact rfl) | (apply G1_slen; exact T.str9; exact rfl; exact rfl) | (apply G1_add; exact rfl; exact rfl; omega; omega; exact rfl)) | apply G_nil | apply Post_next | apply W_seq | apply W_region | (apply W_cond_dec; exact rfl; all_goals (intro h; try (exfalso; omega))) | refine W_drawn 1 [] [0,1,2,3,4,5,6,10,11,12,13,7,8,9,14,15,16] mixed (by decide +kernel) ?_ | apply W_skip | apply W_block | apply Post_block_normal)
        all_goals try (exfalso; omega)
        all_goals
          refine Post_round (i + 1) ⟨rfl, ?_, rfl, trivial⟩ ⟨(by repeat first | assumption | exact Ext.rfl' | apply Ext.drew | apply Ext.alloc | refine Ext.trans ?_ (by assumption)), hlt, fun y hy => ?_⟩ (by omega)
          · rw [pr_snoc hx, hbs]
            show some (Value.string (mkStr _)) = _
            congr 3
            simp
          · simp only [take_snoc hx] at hy
            rcases List.mem_append.1 hy with hy | hy
            · exact hsm y hy
            · rw [List.mem_singleton.1 hy]; exact hxl
      · have hn : ¬ PrOk l := fun h => hxl (h.words x (List.mem_of_getElem? hx))
        repeat' (first | (apply G_on; exact rfl; first | ((first | apply G1_assign | apply G1_move); exact rfl; exact rfl) | (apply G1_indexAddrJ (q := i); exact T.s31; exact rfl; exact rfl; exact rfl; exact hok; exact hlt; exact rfl) | (apply G1_loadEl1 (q := i) (e := eStr); exact T.p9; exact rfl; exact hS5.ext (by repeat first | assumption | exact Ext.rfl' | apply Ext.drew | apply Ext.alloc | refine Ext.trans ?_ (by assumption)); exact hx; exact rfl; exact rfl; exact rfl) | (apply G1_len; exact T.s31; exact rfl; exact rfl) | ((first | apply G1_gtr | apply G1_lss); exact rfl; exact rfl; exact rfl) | (apply G1_slen; exact T.str9; exact rfl; exact rfl)) | apply G_nil | apply Post_next | apply W_seq | apply W_region | (apply W_cond_dec; exact rfl; all_goals (intro h; try (exfalso; omega))) | apply W_skip | apply W_ret | apply W_block | apply Post_then_ret | apply Post_block_ret)
        all_goals try (exfalso; omega)
        all_goals
          refine Post_ret Tryd.results32 ⟨_, _, rfl, rfl, rfl⟩ ?_
          rw [prC_no hn]
          exact ⟨(by repeat first | assumption | exact Ext.rfl' | apply Ext.drew | apply Ext.alloc | refine Ext.trans ?_ (by assumption)), rfl⟩
    · have hil : i = l.length := by omega
      have hpo : PrOk l := ⟨fun e => h0 (by rw [e]; rfl), by omega, by rw [hil, List.take_of_length_le (Nat.le_refl _)] at hsm; exact hsm⟩
      rw [hil, List.take_of_length_le (Nat.le_refl _)] at hbs
      repeat' (first | (apply G_on; exact rfl; first | ((first | apply G1_assign | apply G1_move); exact rfl; exact rfl) | (apply G1_len; exact T.s31; exact rfl; exact rfl) | (apply G1_lss; exact rfl; exact rfl; exact rfl)) | apply G_nil | apply Post_next | apply W_seq | apply W_region | (apply W_cond_dec; exact rfl; all_goals (intro h; try (exfalso; omega))) | apply W_exit | apply W_ret | apply Post_then_exit | apply Post_block_exit)
      all_goals try (exfalso; omega)
      all_goals
        refine Post_ret Tryd.results32 ⟨_, _, rfl, rfl, rfl⟩ ?_
        rw [prC_of hpo]
        have hbs' : prB l = bs := hbs
        rw [hbs']
        exact ⟨(by repeat first | assumption | exact Ext.rfl' | apply Ext.drew | apply Ext.alloc | refine Ext.trans ?_ (by assumption)), rfl⟩
end Go.Proofs.YtikjnmpijflnaaaDoor

/- The document's example for requests. -/
namespace Go.V
section
variable {P : Program} {n : Nat} {ops : Array Oper} {dr : Nat × List Nat} {l : List Oper} {E : Env} {w : World} {K : Env → World → Prop}
variable {d : Option Nat} {ty : TypeId} {pos : String} {af : Array Edge} {g : Option (Nat × Bool)} {x y : Operand} {t t' u : TypeId} {a : Addr}
theorem run_equal_pnil (hu : P.underlying t = some (.pointer u)) (w : World) : (Op.equal t (.pointer (some a)) (.pointer none)).run P w = .ok false w := by
  have key : ∀ d, (Op.equalIn (d + 1) t (.pointer (some a)) (.pointer none)).run P w = .ok false w := by
    intro d
    rw [Op.equalIn.eq_def]
    simp [run_underlying hu]
  exact key _
theorem G1_pnileql (hu : P.underlying t = some (.pointer u)) (hx : E.look x = some (.pointer (some a))) (hy : E.look y = some (.pointer none)) (hd : dstOk n d = true) (h : G P n ops dr l (E.put d (.bool false)) w K) : G1 P n ops dr ⟨d, .binOp .eql t x y t', ty, pos, af, g⟩ l E w K :=
  G1_quiet _ hd (fun a ha w' _ => by simp [execOp, ha.eval hx, ha.eval hy, eqGuard, binOp, run_equal_pnil hu]) h
end
end Go.V
namespace Go.Proofs.YtikjnmpijflnaaaDoor
open Go.V
attribute [local irreducible] Blk Own hcell IntT SliceT PlainT AggT SizeT StrT FieldT ZeroT EqT ArrT
/-- a line of words -/
theorem step_inline {s : List UInt8} (m : List UInt8) (h : ∀ c ∈ s, c ≠ 10) (hl : s.length ≤ 1024) (h42 : s.head? ≠ some 42) (hw : (cutG [] s).length ≤ 128) : stepP rs0 (s ++ 13 :: 10 :: m) = .go rs0 (s.length + 2) (if cutG [] s = [] then [] else [(cutG [] s).map mkStr]) := by
  unfold stepP
  rw [if_pos (show rs0.left = 0 from rfl), line_of m h hl]
  simp only
  rw [if_neg h42, if_neg (by omega)]
def exB : List UInt8 := [42, 49, 13, 10, 36, 52, 13, 10, 80, 73, 78, 71, 13, 10, 32, 83, 69, 84, 32, 97, 32, 32, 98, 32, 13, 10, 42]
def exP : ByteArray := ⟨#[80, 73, 78, 71]⟩
def exS : List ByteArray := [⟨#[83, 69, 84]⟩, ⟨#[97]⟩, ⟨#[98]⟩]
def exLn : List UInt8 := [32, 83, 69, 84, 32, 97, 32, 32, 98, 32]
theorem ex_split : exB = prB [exP] ++ (exLn ++ 13 :: 10 :: [42]) := by decide +kernel
theorem ex_cut : (cutG [] exLn).map mkStr = exS := by decide +kernel
theorem ex_run : runP rs0 ([] ++ exB) = ⟨[[exP], exS], rs0, [42], 0⟩ := by
  have e0 : [] ++ exB = exB := rfl
  have s1 := step_inline (s := exLn) [42] (by decide) (by decide) (by decide) (by decide)
  rw [if_neg (by decide), ex_cut] at s1
  have s2 : stepP rs0 [42] = .stop := by
    unfold stepP
    rw [if_pos (show rs0.left = 0 from rfl)]
    rfl
  rw [e0, ex_split, run_print _ ⟨by simp, by simp, by intro w hw; rw [List.mem_singleton.1 hw]; decide⟩, run_go s1]
  have d1 : (exLn ++ 13 :: 10 :: [42]).drop (exLn.length + 2) = [42] := rfl
  rw [d1, run_stop s2]
  rfl
/-- one slice of bytes is handed to Feed -/
theorem parts_one {H : Array Obj} {F : Nat → Prop} {q : Option Addr} {d : Nat} {bs : List UInt8} (h : Sl H eByte q d bs) (hf : ∀ x, q = some x → bs ≠ [] → ¬ F x.block) : PartsAt H F [(q, bs.length, d)] [bs] :=
  ⟨rfl, fun i h1 b hi hb => by
    match i with
    | 0 =>
      obtain rfl : (q, bs.length, d) = h1 := by simpa using hi
      obtain rfl : bs = b := by simpa using hb
      exact ⟨rfl, h, hf⟩
    | k + 1 => simp at hi⟩
/-- a newer block is none of the reader's -/
theorem rd_apart {w0 w : World} {ar B : Nat} {p : Option Addr} {c : Nat} {inp : List UInt8} {a : Nat} {pw : Option Addr} {cw : Nat} {r : RS} {ft : Int} (h : RdSt w0 w ar B p c inp a pw cw r ft) {k : Nat} (hk : w.heap.size ≤ k) : ¬ (k = ar ∨ blk p = some k) := fun e => by
  have := h.blk.lt
  rcases e with e | e
  · omega
  · have := (h.row.ge k e).2; omega
theorem feed_one {w0 : World} {ar B : Nat} {p : Option Addr} {c : Nat} {inp : List UInt8} {pw : Option Addr} {cw : Nat} {r : RS} {q q1 : Option Addr} {d d1 : Nat} {bs : List UInt8} {w1 w : World} (hR1 : RdSt w0 w1 ar B p c inp 0 pw cw r 0) (hx : Ext w1 w)
    (hS : Sl w.heap eSlc q d [(q1, bs.length, d1)]) (hq : ∀ x, q = some x → w1.heap.size ≤ x.block) (hb : Sl w.heap eByte q1 d1 bs) (hq1 : ∀ x, q1 = some x → w1.heap.size ≤ x.block) (hN : inp.length + bs.length ≤ 100000000) (hH : r.held ≤ 100000000) (hT : Pow w0) (hE : Errs w0) (hg0 : GoodR r) :
    Ctr Tryd.prog 26 [.pointer (some (adr (bx ar) 0)), .slice q 1 d] w (FeedA w0 w ar B p pw (runP r (inp ++ bs))) := by
  have h := feed_spec (hR1.xt hx) (ks := [(q1, bs.length, d1)]) (parts := [bs]) hS (fun x hx' _ => rd_apart hR1 (hq x hx')) (parts_one hb (fun x hx' _ => rd_apart hR1 (hq1 x hx'))) (by simpa using hN) hH hT hE hg0
  simpa using h
theorem awake05 {w : World} (hT : Pow w) (hE : Errs w) : Ctr Tryd.prog 24 [] w (fun v w' => v = .bool true ∧ Ext w w') := by
  refine Ctr_of Tryd.func24 Tryd.ntmps24 rfl rfl rfl ?_
  repeat' (first | (apply G_on; exact rfl; (apply G1_assign; exact rfl; exact rfl)) | apply G_nil | apply Post_next | apply W_seq | apply W_region)
  apply G_on; exact rfl; apply G1_call; exact rfl; exact rfl; exact rfl; exact new_spec; rintro _ w1 ⟨hx1, ar, rfl, hR1⟩; refine ⟨(by first | exact .inl rfl | exact .inr (by assumption)), ?_⟩
  repeat' (first | (apply G_on; exact rfl; first | ((first | apply G1_assign | apply G1_move); exact rfl; exact rfl) | (apply G1_pnileql; exact Tryd.underlying38; exact rfl; exact rfl; exact rfl)) | apply G_nil | apply Post_next | apply W_seq | apply W_region | (apply W_cond_false; exact rfl) | apply W_skip)
  have hx1' : Ext w w1 := hx1
  have hlt1 := hR1.blk.lt
  apply G_on; exact rfl
  apply G1_buildN eByte exB; exact T.s28; exact rfl; exact rfl; exact rfl; exact rfl; exact rfl; exact Nat.succ_pos _; exact Nat.le_of_ble_eq_true rfl; exact rfl; exact rfl
  intro p2 w2 ho2 hx2 hs2
  obtain ⟨g2, cs2, rfl, hgB, hV2, _⟩ := ho2.toBlk (fun e => by have := ho2.sl.ok.nul e; cases this)
  apply G_on; exact rfl
  apply G1_convMark (bs := exB); exact Tryd.underlying28; exact Tryd.underlying5; exact rfl; exact hV2; exact ho2.sl; exact rfl; exact rfl; exact rfl
  intro w3 hs3 hg3 hz3
  have hx13 : Ext w1 w3 := hx2.own hg3 (fun k hk => by injection hk with hk; omega)
  apply G_on; exact rfl
  apply G1_build1 eSlc (bx g2, exB.length, exB.length); exact T.s76; exact rfl; exact rfl; exact rfl; decide; exact rfl; exact rfl
  intro p4 w4 hp4 hs4 _ hx4 hz4
  have hx14 := hx13.trans hx4
  have hz13 := hx13.size
  have hR4 := hR1.xt hx14
  have hfd := feed_one hR1 hx14 hs4 (fun x hx => by rw [hp4] at hx; injection hx with hx; rw [← hx]; exact hz13) (hs3.ext hx4) (fun x hx => by injection hx with hx; rw [← hx]; exact hgB) (by decide) (by decide) hT hE good0
  rw [ex_run] at hfd
  apply G_on; exact rfl; apply G1_call (f := 26); exact rfl; exact rfl; exact rfl; exact hfd; intro v w5 hv; refine ⟨.inl rfl, ?_⟩
  obtain ⟨hf5, pd, cd, hs, p', c', pw', cw', rfl, hO5, hC5, _, _, hR5, _⟩ := hv
  replace hR5 := hR5 rfl
  replace hC5 := hC5.shown
  repeat' (first | (apply G_on; exact rfl; first | ((first | apply G1_assign | apply G1_move); exact rfl; exact rfl) | ((first | apply G1_extract | apply G1_eql); exact rfl; exact rfl; exact rfl)) | apply G_nil | apply Post_next | apply W_seq | apply W_region)
  apply G_on; exact rfl
  apply G1_build1 eStr exP; exact T.s31; exact rfl; exact rfl; exact rfl; decide; exact rfl; exact rfl
  intro p6 w6 hp6 hs6 _ hx6 hz6
  apply G_on; exact rfl
  apply G1_buildN eStr exS; exact T.s31; exact rfl; exact rfl; exact rfl; exact rfl; exact rfl; exact Nat.succ_pos _; exact Nat.le_of_ble_eq_true rfl; exact rfl; exact rfl
  intro p7 w7 ho7 hx7 hs7
  apply G_on; exact rfl
  apply G1_buildN eSlc [(p6, 1, 1), (p7, 3, 3)]; exact T.s40; exact rfl; exact rfl; exact rfl; exact rfl; exact rfl; exact Nat.succ_pos _; exact Nat.le_of_ble_eq_true rfl; exact rfl; exact rfl
  intro p8 w8 ho8 hx8 hs8
  have hC8 : CmdsAt w8.heap [(p6, 1, 1), (p7, 3, 3)] [[exP], exS] :=
    ⟨rfl, fun i h l hi hl => by
      match i with
      | 0 =>
        obtain rfl : (p6, 1, 1) = h := by simpa using hi
        obtain rfl : [exP] = l := by simpa using hl
        exact ⟨rfl, (hs6.ext hx7).ext hx8⟩
      | 1 =>
        obtain rfl : (p7, 3, 3) = h := by simpa using hi
        obtain rfl : exS = l := by simpa using hl
        exact ⟨rfl, ho7.sl.ext hx8⟩
      | k + 2 => simp at hi⟩
  have hx58 : Ext w5 w8 := (hx6.trans hx7).trans hx8
  have hsm := refSame05_spec (hO5.sl.ext hx58) ho8.sl (hC5.cells (fun a v hv => hx58.cell hv)) hC8
  apply G_on; exact rfl; apply G1_call (f := 28); exact rfl; exact rfl; exact rfl; exact hsm; rintro _ w9 ⟨rfl, hx9⟩; refine ⟨.inl rfl, ?_⟩
  have hx59 : Ext w5 w9 := hx58.trans hx9
  have hw := waiting_spec (hR5.xt hx59) (by decide) (by decide)
  have hx59e : Ext w w9 := hR5.ext.trans hx59
  repeat' (first | (apply G_on; exact rfl; first | ((first | apply G1_assign | apply G1_move); exact rfl; exact rfl) | (apply G1_call (f := 29); exact rfl; exact rfl; exact rfl; exact hw; rintro _ w10 ⟨rfl, hx10⟩; refine ⟨(by first | exact .inl rfl | exact .inr (by assumption)), ?_⟩) | (apply G1_eql; exact rfl; exact rfl; exact rfl) | (apply G1_pick_t; exact rfl; exact rfl; exact rfl)) | apply G_nil | apply Post_next | apply W_ret)
  refine Post_ret Tryd.results24 ⟨_, _, rfl, rfl, rfl⟩ ?_
  exact ⟨rfl, (by repeat first | assumption | exact Ext.rfl' | apply Ext.drew | apply Ext.alloc | refine Ext.trans ?_ (by assumption))⟩
end Go.Proofs.YtikjnmpijflnaaaDoor

/- Requests: pieces fed one behind the other; what was told so far; in plain Lean. -/
namespace Go.V
section
variable {P : Program} {n : Nat} {ops : Array Oper} {dr : Nat × List Nat} {l : List Oper} {E : Env} {w : World} {K : Env → World → Prop}
variable {d : Option Nat} {ty : TypeId} {pos : String} {af : Array Edge} {g : Option (Nat × Bool)} {x y : Operand} {t t' u sz by_ c : Nat} {p : Option Addr}
/-- append where the other row's length is told by an equation -/
theorem G1_appendE {α : Type} {e : Enc α} {B m k : Nat} {xs ys : List α} {q : Option Addr} {c2 : Nat} (hu : SliceT P t u sz by_) (hx : E.look x = some (.slice p k c)) (hy : E.look y = some (.slice q m c2)) (hk : k = xs.length) (hm : m = ys.length) (hown : Own w B u e p c xs) (hsl : Sl w.heap e q c2 ys)
    (hsz : e.sz = sz) (hB : B ≤ w.heap.size) (hlen : (xs.length + ys.length) * by_ ≤ 140737488355328) (hmax : xs.length + ys.length ≤ 9223372036854775807)
    (he : effects P dr.1 ⟨d, .call ⟨.builtin .append, #[x, y], #[t, t]⟩, ty, pos, af, g⟩ = true) (hw : writes dr.1 ⟨d, .call ⟨.builtin .append, #[x, y], #[t, t]⟩, ty, pos, af, g⟩ = true) (hd : dstOk n d = true)
    (h : ∀ p' c' w', App w w' B u e p p' c' (xs ++ ys) → G P n ops dr l (E.put d (.slice p' (xs ++ ys).length c')) w' K) : G1 P n ops dr ⟨d, .call ⟨.builtin .append, #[x, y], #[t, t]⟩, ty, pos, af, g⟩ l E w K := by
  subst hm hk
  exact G1_appendA hu hx hy hown hsl hsz hB hlen hmax he hw hd h
end
end Go.V
namespace Go.Proofs.YtikjnmpijflnaaaDoor
open Go.V
attribute [local irreducible] Blk Own hcell IntT SliceT PlainT AggT SizeT StrT FieldT ZeroT EqT ArrT
/-- the reader to which F came, and the lists that were told -/
structure FeedsI (w w' : World) (ar : Nat) (F : List UInt8) (p : Option Addr) (c : Nat) (pw : Option Addr) (cw : Nat) (pa : Option Addr) (ca : Nat) (hs : List Hdr) : Prop where
  rd : RdSt w w' ar (ar + 1) p c (runP rs0 F).rest 0 pw cw (runP rs0 F).st 0
  err : (runP rs0 F).err = 0
  all : Own w' w.heap.size 31 eSlc pa ca hs
  cm : WordsAt w'.heap (fun k => blk pw = some k) hs (runP rs0 F).out
theorem FeedsI.ext {w w1 w2 : World} {ar c cw ca : Nat} {F : List UInt8} {p pw pa : Option Addr} {hs : List Hdr} (h : FeedsI w w1 ar F p c pw cw pa ca hs) (hx : Ext w1 w2) : FeedsI w w2 ar F p c pw cw pa ca hs :=
  ⟨h.rd.xt hx, h.err, h.all.ext hx, h.cm.ext hx⟩
theorem FeedsI.first {w w1 : World} {ar : Nat} (hR : RdSt w w1 ar (ar + 1) none 0 [] 0 none 0 rs0 0) : FeedsI w w1 ar [] none 0 none 0 none 0 [] := by
  refine ⟨?_, ?_, Own.nil _ _ _ _, ?_⟩
  · rw [run_nil]; exact hR
  · rw [run_nil]
  · rw [run_nil]; exact WordsAt.nil
/-- what is known behind a piece: the lists of both kinds, the reader -/
structure FeedsN (w w' : World) (ar : Nat) (F : List UInt8) (p : Option Addr) (c : Nat) (pw : Option Addr) (cw : Nat) (hs : List Hdr) : Prop where
  cm : WordsAt w'.heap (fun k => blk pw = some k) hs (runP rs0 F).out
  ok : (runP rs0 F).err = 0 → RdSt w w' ar (ar + 1) p c (runP rs0 F).rest 0 pw cw (runP rs0 F).st 0
  bad : (runP rs0 F).err ≠ 0 → RdSt w w' ar (ar + 1) p c [] 0 pw cw ⟨0, 0, [], 0⟩ (runP rs0 F).err
theorem FeedsN.ext {w w1 w2 : World} {ar c cw : Nat} {F : List UInt8} {p pw : Option Addr} {hs : List Hdr} (h : FeedsN w w1 ar F p c pw cw hs) (hx : Ext w1 w2) : FeedsN w w2 ar F p c pw cw hs :=
  ⟨h.cm.ext hx, fun e => (h.ok e).xt hx, fun e => (h.bad e).xt hx⟩
theorem FeedsI.next {w w1 w3 w4 : World} {ar c cw ca : Nat} {F m : List UInt8} {p pw pa : Option Addr} {hs : List Hdr} {v : Value} (h : FeedsI w w1 ar F p c pw cw pa ca hs) (hx : Ext w1 w3) (hA : FeedA w w3 ar (ar + 1) p pw (runP (runP rs0 F).st ((runP rs0 F).rest ++ m)) v w4) :
    ∃ pd cd hs2 p' c' pw' cw', v = .tuple #[.slice pd hs2.length cd, .int .i64 (runP rs0 (F ++ m)).err] ∧ Own w4 w.heap.size 31 eSlc pa ca hs ∧ Own w4 w3.heap.size 31 eSlc pd cd hs2 ∧ FeedsN w w4 ar (F ++ m) p' c' pw' cw' (hs ++ hs2) ∧ FrS (fun k => k = ar ∨ blk p = some k ∨ blk pw = some k) w3 w4 ∧ ∀ k, blk p' = some k → blk p = some k ∨ w3.heap.size ≤ k := by
  obtain ⟨r1, r2, r3, r4⟩ := (run_more (F.length + 1) (r := rs0) m (Nat.lt_succ_self _)).1 h.err
  obtain ⟨hf, pd, cd, hs2, p', c', pw', cw', rfl, hO, hC, hnp, hnpw, hok, hbad⟩ := hA
  have hI := h.ext hx
  have n1 : ∀ k, blk pa = some k → ¬ (k = ar ∨ blk p = some k ∨ blk pw = some k) := fun k hk e => by
    rcases e with e | e | e
    · exact hI.all.apartB hI.rd.blk (by decide) (by rw [← e]; exact hk)
    · exact blk_apart hI.all hI.rd.row (by decide) hk e
    · exact blk_apart hI.all hI.rd.wds (by decide) hk e
  refine ⟨pd, cd, hs2, p', c', pw', cw', by rw [r4], hI.all.fr hf n1, hO, ⟨?_, ?_, ?_⟩, hf, hnp⟩
  · rw [r1]
    refine WordsAt.app (hI.cm.fr hf (fun k hk hs hn => ⟨fun e => ?_, fun e => ?_⟩)) hC
    · rcases e with e | e | e
      · exact noStr hI.rd.blk (by decide) (by rw [← e]; exact hs)
      · exact own_noStr hI.rd.row (by decide) e hs
      · exact hn e
    · rcases hnpw k e with e | e
      · exact hn e
      · omega
  · intro e
    rw [r2, r3]
    exact hok (r4.symm.trans e)
  · intro e
    rw [r4] at e ⊢
    exact hbad e
theorem FeedsN.push {w w1 w2 : World} {ar c cw ca ca' : Nat} {F : List UInt8} {p pw pa pa' : Option Addr} {hs hs0 hs1 : List Hdr} (h : FeedsN w w1 ar F p c pw cw hs) (ho : Own w1 w.heap.size 31 eSlc pa ca hs0) (ha : App w1 w2 w.heap.size 31 eSlc pa pa' ca' hs1) : FeedsN w w2 ar F p c pw cw hs := by
  have hf : FrS (fun k => blk pa = some k) w1 w2 := FrS.of_grown ha.grown (fun k hk => hk)
  have hrd : ∀ {inp : List UInt8} {a : Nat} {r : RS} {ft : Int}, RdSt w w1 ar (ar + 1) p c inp a pw cw r ft → RdSt w w2 ar (ar + 1) p c inp a pw cw r ft := fun hR =>
    hR.turned ha.grown (ho.apartB hR.blk (by decide)) (fun x hx => ho.apartR hR.row (by decide) x hx) (fun x hx => ho.apartR hR.wds (by decide) x hx) (fun k hk => (ho.ge k hk).1)
  exact ⟨h.cm.fr hf (fun k _ hs hn => ⟨fun e => own_noStr ho (by decide) e hs, hn⟩), fun e => hrd (h.ok e), fun e => hrd (h.bad e)⟩
theorem no_err {F m : List UInt8} (h : (runP rs0 (F ++ m)).err = 0) : (runP rs0 F).err = 0 := by
  by_cases e : (runP rs0 F).err = 0
  · exact e
  · have := ((run_more (F.length + 1) (r := rs0) m (Nat.lt_succ_self _)).2 e).2
    rw [this] at h
    exact absurd h e
open Classical in
noncomputable def okL (l : List ByteArray) : Bool := decide (PrOk l)
theorem okL_yes {l : List ByteArray} (h : PrOk l) : okL l = true := by unfold okL; simp [h]
theorem okL_no {l : List ByteArray} (h : ¬ PrOk l) : okL l = false := by unfold okL; simp [h]
theorem run_cmds : ∀ (ls : List (List ByteArray)) (m : List UInt8), runP rs0 (ls.flatMap prC ++ m) = { runP rs0 m with out := ls.filter okL ++ (runP rs0 m).out }
  | [], m => rfl
  | l :: ls, m => by
    rw [List.flatMap_cons, List.append_assoc, List.filter_cons]
    by_cases h : PrOk l
    · have e := okL_yes h
      rw [prC_of h, run_print _ h, run_cmds ls m, if_pos e]
      rfl
    · have e := okL_no h
      rw [prC_no h, List.nil_append, run_cmds ls m, if_neg (by rw [e]; decide)]
theorem prC_pos {l : List ByteArray} : 0 < (prC l).length ↔ PrOk l := by
  by_cases h : PrOk l
  · rw [prC_of h]
    exact ⟨fun _ => h, fun _ => by unfold prB prHead; simp⟩
  · rw [prC_no h]
    exact ⟨fun e => by simp at e, fun e => absurd e h⟩
theorem prC_len {l : List ByteArray} (hl : l.length ≤ 200) (hw : ∀ w ∈ l, w.size ≤ 5000) : (prC l).length ≤ 30 + l.length * 6000 := by
  by_cases h : PrOk l
  · rw [prC_of h]; exact pr_len hl hw
  · rw [prC_no h]; exact Nat.zero_le _
theorem toldP_run (cs : List UInt8) : toldP cs = ⟨(runP rs0 cs).out, if (runP rs0 cs).err = 0 then (runP rs0 cs).st.held + (runP rs0 cs).rest.length else 0, (runP rs0 cs).err⟩ := told_run _ cs (Nat.lt_succ_self _)
end Go.Proofs.YtikjnmpijflnaaaDoor

/- The ways of a branch meet again behind it. -/
namespace Go.V
section
variable {P : Program} {n : Nat} {E : Env} {w : World} {Q : Exit → Act → World → Prop}
/-- the ways of a branch meet again behind it -/
theorem W_cutC {ι : Type} {c : Operand} {r x y z : Code} (E0 : ι → Env) (J : ι → World → Prop) (h1 : W P n (.seq r (.cond c x y)) (fun e a w' => e = .normal ∧ ∃ i, Holds n (E0 i) a ∧ J i w') E w) (h2 : ∀ i w', J i w' → W P n z Q (E0 i) w') : W P n (.seq (.seq r (.cond c x y)) z) Q E w := by
  unfold W at *
  exact fun a ha => wp_seq (wp_mono (h1 a ha) (fun e a w' ⟨he, i, hh, hj⟩ => by subst he; exact h2 i w' hj a hh))
theorem Post_cutI {ι : Type} {E0 : ι → Env} {J : ι → World → Prop} (i : ι) (hE : Env.sub (E0 i) E) (hJ : J i w) : Post n (fun e a w' => e = .normal ∧ ∃ i, Holds n (E0 i) a ∧ J i w') .normal E w := by
  unfold Post
  exact fun _ ha => ⟨rfl, i, ha.sub hE, hJ⟩
end
end Go.V

/- RequestBack: the law's walk. -/
namespace Go.V
theorem subp_blk {p : Option Addr} {c l sz : Nat} {x : Addr} (h : subp p c l sz = some x) : blk p = some x.block := by
  unfold subp at h
  split at h
  · rw [h]; rfl
  · cases p with
    | none => cases h
    | some a => injection h with h; rw [← h]; unfold Addr.add; split <;> rfl
end Go.V
namespace Go.Proofs.YtikjnmpijflnaaaDoor
open Go.V
attribute [local irreducible] Blk Own hcell IntT SliceT PlainT AggT SizeT StrT FieldT ZeroT EqT ArrT
/-- the lists that are wanted -/
structure BackO (w w' : World) (ls : List (List ByteArray)) (pa : Option Addr) (pq : Option Addr) (cq : Nat) (ks : List Hdr) : Prop where
  own : Own w' w.heap.size 31 eSlc pq cq ks
  at_ : CmdsAt w.heap ks (ls.filter okL)
  ap : ∀ k, blk pa = some k → blk pq ≠ some k
theorem BackO.ext {w w1 w2 : World} {ls : List (List ByteArray)} {pa pq : Option Addr} {cq : Nat} {ks : List Hdr} (h : BackO w w1 ls pa pq cq ks) (hx : Ext w1 w2) : BackO w w2 ls pa pq cq ks := ⟨h.own.ext hx, h.at_, h.ap⟩
/-- another row of lists is turned -/
theorem FeedsI.turn {w w1 w2 : World} {ar c cw ca cq : Nat} {F : List UInt8} {p pw pa pq : Option Addr} {hs ks : List Hdr} (h : FeedsI w w1 ar F p c pw cw pa ca hs) (ho : Own w1 w.heap.size 31 eSlc pq cq ks) (hap : ∀ k, blk pa = some k → blk pq ≠ some k) (hg : w1.grownBy w2 (blk pq)) : FeedsI w w2 ar F p c pw cw pa ca hs := by
  have hf : FrS (fun k => blk pq = some k) w1 w2 := FrS.of_grown hg (fun k hk => hk)
  exact ⟨h.rd.turned hg (ho.apartB h.rd.blk (by decide)) (fun x hx => ho.apartR h.rd.row (by decide) x hx) (fun x hx => ho.apartR h.rd.wds (by decide) x hx) (fun k hk => (ho.ge k hk).1), h.err,
    h.all.fr hf (fun k hk => hap k hk), h.cm.fr hf (fun k _ hs hn => ⟨fun e => own_noStr ho (by decide) e hs, hn⟩)⟩
theorem run_all (ls : List (List ByteArray)) : runP rs0 (ls.flatMap prC) = ⟨ls.filter okL, rs0, [], 0⟩ := by
  have h := run_cmds ls []
  rw [List.append_nil, run_nil] at h
  rw [h]
  simp
def SmallC (l : List ByteArray) : Prop := l.length ≤ 130 ∧ ∀ x ∈ l, x.size ≤ 4100
theorem flatC_len : ∀ ls : List (List ByteArray), (∀ l ∈ ls, SmallC l) → (ls.flatMap prC).length ≤ ls.length * 800000
  | [], _ => by simp
  | l :: ls, h => by
    have h1 := flatC_len ls (fun x hx => h x (by simp [hx]))
    obtain ⟨h2, h3⟩ := h l (by simp)
    have h4 := prC_len (l := l) (by omega) (fun x hx => Nat.le_trans (h3 x hx) (by decide))
    rw [List.flatMap_cons, List.length_append, List.length_cons]
    omega
theorem take_piece {bs : List UInt8} {a e : Nat} (h1 : a ≤ e) : bs.take e = bs.take a ++ (bs.drop a).take (e - a) := by
  have : bs.take e = bs.take (a + (e - a)) := by rw [show a + (e - a) = e by omega]
  rw [this, List.take_add]
structure FeY where
  i : Nat
  a : Nat
  p : Option Addr
  c : Nat
  pw : Option Addr
  cw : Nat
  pa : Option Addr
  ca : Nat
  hs : List Hdr
structure BkY where
  i : Nat
  rp : Option Addr
  rc : Nat
  pw : Option Addr
  cw : Nat
  pa : Option Addr
  ca : Nat
  hs : List Hdr
  pq : Option Addr
  cq : Nat
  ks : List Hdr

set_option maxHeartbeats 4000000 in
theorem requestBack_spec {q : Option Addr} {d : Nat} {us : List Hdr} {ls : List (List ByteArray)} {w : World} (hS : Sl w.heap eSlc q d us) (hC : CmdsAt w.heap us ls) (hT : Pow w) (hE : Errs w) :
    Ctr Tryd.prog 7 [.slice q us.length d] w (fun v w' => v = .bool true ∧ Ext w w') := by
  have n1 := hS.bound
  have hlen := hC.len
  have hokS := hS.ok
  have haw := fun w' (hx : Ext w w') => awake05 (TabIs.ext hT hx) (hE.ext hx)
  refine Ctr_of Tryd.func7 Tryd.ntmps7 rfl rfl rfl ?_
  repeat' (first | (apply G_on; exact rfl; first | ((first | apply G1_assign | apply G1_move); exact rfl; exact rfl) | (apply G1_call (f := 24); exact rfl; exact rfl; exact rfl; exact haw _ (by repeat first | assumption | exact Ext.rfl' | apply Ext.drew | apply Ext.alloc | refine Ext.trans ?_ (by assumption)); rintro _ w1 ⟨rfl, hx1⟩; refine ⟨(by first | exact .inl rfl | exact .inr (by assumption)), ?_⟩) | (apply G1_not_t; exact rfl; exact rfl) | (apply G1_len; exact T.s40; exact rfl; exact rfl) | (apply G1_gtr; exact rfl; exact rfl; exact rfl) | (apply G1_pick_f; exact rfl; exact rfl; exact rfl)) | apply G_nil | apply Post_next | apply W_seq | apply W_region | (apply W_cond_dec; exact rfl; all_goals (intro h; try (exfalso; omega))) | apply W_skip | apply W_ret | apply Post_then_ret)
  all_goals try (
    refine Post_ret Tryd.results7 ⟨_, _, rfl, rfl, rfl⟩ ?_
    exact ⟨rfl, (by repeat first | assumption | exact Ext.rfl' | apply Ext.drew | apply Ext.alloc | refine Ext.trans ?_ (by assumption))⟩)
  have hx01 : Ext w _ := (by repeat first | assumption | exact Ext.rfl' | apply Ext.drew | apply Ext.alloc | refine Ext.trans ?_ (by assumption))
  apply G_on; exact rfl; apply G1_call; exact rfl; exact rfl; exact rfl; exact new_spec; rintro _ w2 ⟨hx2, ar, rfl, hR0⟩; refine ⟨(by first | exact .inl rfl | exact .inr (by assumption)), ?_⟩
  have hx02 := hx01.trans hx2
  have har : w.heap.size ≤ ar := by have := hR0.h0; have := hx01.size; omega
  have hR2 : RdSt w w2 ar (ar + 1) none 0 [] 0 none 0 rs0 0 := ⟨hR0.blk, hR0.row, hR0.wds, hx02, har, hR0.lt, hR0.hB, hR0.la⟩
  repeat' (first | (apply G_on; exact rfl; first | ((first | apply G1_assign | apply G1_move); exact rfl; exact rfl) | (apply G1_pnileql; exact Tryd.underlying38; exact rfl; exact rfl; exact rfl)) | apply G_nil | apply Post_next | apply W_seq | apply W_region | (apply W_cond_false; exact rfl) | apply W_skip | apply W_block)
  refine W_loop (ι := BkY) (fun y => [(0, .slice q us.length d), (3, .slice y.pq y.ks.length y.cq), (4, .pointer (some (adr (bx ar) 0))), (5, .slice y.pa y.hs.length y.ca), (6, .int .i64 (y.i : Int))])
    (fun y w' => FeedsI w w' ar ((ls.take y.i).flatMap prC) y.rp y.rc y.pw y.cw y.pa y.ca y.hs ∧ BackO w w' (ls.take y.i) y.pa y.pq y.cq y.ks ∧ y.i ≤ us.length ∧ ∀ l ∈ ls.take y.i, SmallC l) (fun y => us.length - y.i) ⟨0, none, 0, none, 0, none, 0, [], none, 0, []⟩ ⟨rfl, rfl, rfl, rfl, rfl, trivial⟩
    ⟨FeedsI.first (by first | exact hR2 | exact hR2.xt (by repeat first | assumption | exact Ext.rfl' | apply Ext.drew | apply Ext.alloc | refine Ext.trans ?_ (by assumption))), ⟨Own.nil _ _ _ _, CmdsAt.nil, fun k hk => by cases hk⟩, Nat.zero_le _, by simp⟩ ?_
  rintro ⟨i, rp, rc, pw, cw, pa, ca, hs0, pq, cq, ks⟩ w3 ⟨hI, hB, hi, hsm⟩
  simp only at hI hB hi hsm
  refine W_keep [(0, .slice q us.length d), (3, .slice pq ks.length cq), (4, .pointer (some (adr (bx ar) 0))), (5, .slice pa hs0.length ca), (6, .int .i64 (i : Int))] ⟨rfl, rfl, rfl, rfl, rfl, trivial⟩ ?_
  have hx3 := hI.rd.ext
  have hok3 := hB.own.sl.ok
  by_cases hlt : i < us.length
  rotate_left
  · have hil : i = ls.length := by omega
    rw [hil, List.take_of_length_le (Nat.le_refl _)] at hI hB
    have hcm := hI.cm
    have hrd := hI.rd
    rw [run_all] at hcm hrd
    have hsm3 := fun w' (hx : Ext w3 w') => refSame05_spec (w := w') (hI.all.sl.ext hx) (hB.own.sl.ext hx) (hcm.shown.cells (fun a v hv => hx.cell hv)) (hB.at_.cells (fun a v hv => (hx3.trans hx).cell hv))
    simp only [decide_true] at hsm3
    have hwt := fun w' (hx : Ext w3 w') => waiting_spec (hrd.xt hx) (Nat.zero_le _) (Nat.zero_le _)
    repeat' (first | (apply G_on; exact rfl; first | ((first | apply G1_assign | apply G1_move); exact rfl; exact rfl) | (apply G1_call (f := 28); exact rfl; exact rfl; exact rfl; exact hsm3 _ (by repeat first | assumption | exact Ext.rfl' | apply Ext.drew | apply Ext.alloc | refine Ext.trans ?_ (by assumption)); rintro _ w4 ⟨rfl, hx4⟩; refine ⟨(by first | exact .inl rfl | exact .inr (by assumption)), ?_⟩) | (apply G1_call (f := 29); exact rfl; exact rfl; exact rfl; exact hwt _ (by repeat first | assumption | exact Ext.rfl' | apply Ext.drew | apply Ext.alloc | refine Ext.trans ?_ (by assumption)); rintro _ w5 ⟨rfl, hx5⟩; refine ⟨(by first | exact .inl rfl | exact .inr (by assumption)), ?_⟩) | (apply G1_len; exact T.s40; exact rfl; exact rfl) | ((first | apply G1_lss | apply G1_eql); exact rfl; exact rfl; exact rfl) | (apply G1_pick_t; exact rfl; exact rfl; exact rfl)) | apply G_nil | apply Post_next | apply W_seq | apply W_region | (apply W_cond_dec; exact rfl; all_goals (intro h; try (exfalso; omega))) | apply W_exit | apply W_ret | apply Post_then_exit | apply Post_block_exit)
    all_goals try (exfalso; omega)
    refine Post_ret Tryd.results7 ⟨_, _, rfl, rfl, rfl⟩ ?_
    exact ⟨rfl, (by repeat first | assumption | exact Ext.rfl' | apply Ext.drew | apply Ext.alloc | refine Ext.trans ?_ (by assumption))⟩
  obtain ⟨⟨q1, u1, d1⟩, hu⟩ := get_some hlt
  obtain ⟨l, hl⟩ := get_some (xs := ls) (k := i) (by omega)
  obtain ⟨e1, hW⟩ := hC.get i _ l hu hl
  simp only at e1 hW
  subst e1
  have hnL := hW.bound
  have hokL := hW.ok
  by_cases h130 : l.length ≤ 130
  rotate_left
  · repeat' (first | (apply G_on; exact rfl; first | ((first | apply G1_assign | apply G1_move); exact rfl; exact rfl) | (apply G1_indexAddrJ (q := i); exact T.s40; exact rfl; exact rfl; exact rfl; exact hokS; exact hlt; exact rfl) | (apply G1_loadEl1 (q := i) (e := eSlc) (v := .slice q1 l.length d1); exact T.p31; exact rfl; exact hS.ext ((hx3).trans (by repeat first | assumption | exact Ext.rfl' | apply Ext.drew | apply Ext.alloc | refine Ext.trans ?_ (by assumption))); exact hu; exact rfl; exact rfl; exact rfl) | (apply G1_len; (first | exact T.s40 | exact T.s31); exact rfl; exact rfl) | ((first | apply G1_gtr | apply G1_lss); exact rfl; exact rfl; exact rfl)) | apply G_nil | apply Post_next | apply W_seq | apply W_region | (apply W_cond_dec; exact rfl; all_goals (intro h; try (exfalso; omega))) | apply W_skip | apply W_ret | apply W_block | apply Post_then_ret | apply Post_block_ret)
    all_goals try (exfalso; omega)
    refine Post_ret Tryd.results7 ⟨_, _, rfl, rfl, rfl⟩ ?_
    exact ⟨rfl, (by repeat first | assumption | exact Ext.rfl' | apply Ext.drew | apply Ext.alloc | refine Ext.trans ?_ (by assumption))⟩
  repeat' (first | (apply G_on; exact rfl; first | ((first | apply G1_assign | apply G1_move); exact rfl; exact rfl) | (apply G1_indexAddrJ (q := i); exact T.s40; exact rfl; exact rfl; exact rfl; exact hokS; exact hlt; exact rfl) | (apply G1_loadEl1 (q := i) (e := eSlc) (v := .slice q1 l.length d1); exact T.p31; exact rfl; exact hS.ext ((hx3).trans (by repeat first | assumption | exact Ext.rfl' | apply Ext.drew | apply Ext.alloc | refine Ext.trans ?_ (by assumption))); exact hu; exact rfl; exact rfl; exact rfl) | (apply G1_len; (first | exact T.s40 | exact T.s31); exact rfl; exact rfl) | ((first | apply G1_gtr | apply G1_lss); exact rfl; exact rfl; exact rfl)) | apply G_nil | apply Post_next | apply W_seq | apply W_region | (apply W_cond_dec; exact rfl; all_goals (intro h; try (exfalso; omega))) | apply W_skip | apply W_block)
  all_goals try (exfalso; omega)
  refine W_loop (ι := Nat) (fun y => [(0, .slice q us.length d), (3, .slice pq ks.length cq), (4, .pointer (some (adr (bx ar) 0))), (5, .slice pa hs0.length ca), (6, .int .i64 (i : Int)), (7, .int .i64 (y : Int))])
    (fun y w' => Ext w3 w' ∧ y ≤ l.length ∧ ∀ x ∈ l.take y, x.size ≤ 4100) (fun y => l.length - y) 0 ⟨rfl, rfl, rfl, rfl, rfl, rfl, trivial⟩ ⟨(by repeat first | assumption | exact Ext.rfl' | apply Ext.drew | apply Ext.alloc | refine Ext.trans ?_ (by assumption)), Nat.zero_le _, by simp⟩ ?_
  rintro j w4 ⟨hx4, hj, hsw⟩
  refine W_keep [(0, .slice q us.length d), (3, .slice pq ks.length cq), (4, .pointer (some (adr (bx ar) 0))), (5, .slice pa hs0.length ca), (6, .int .i64 (i : Int)), (7, .int .i64 (j : Int))] ⟨rfl, rfl, rfl, rfl, rfl, rfl, trivial⟩ ?_
  by_cases hjl : j < l.length
  · obtain ⟨x, hx⟩ := get_some hjl
    by_cases hxs : x.size ≤ 4100
    · repeat' (first | (apply G_on; exact rfl; first | ((first | apply G1_assign | apply G1_move); exact rfl; exact rfl) | (apply G1_indexAddrJ (q := i); exact T.s40; exact rfl; exact rfl; exact rfl; exact hokS; exact hlt; exact rfl) | (apply G1_loadEl1 (q := i) (e := eSlc) (v := .slice q1 l.length d1); exact T.p31; exact rfl; exact hS.ext (((hx3.trans hx4)).trans (by repeat first | assumption | exact Ext.rfl' | apply Ext.drew | apply Ext.alloc | refine Ext.trans ?_ (by assumption))); exact hu; exact rfl; exact rfl; exact rfl) | (apply G1_indexAddrJ (q := j); exact T.s31; exact rfl; exact rfl; exact rfl; exact hokL; exact hjl; exact rfl) | (apply G1_loadEl1 (q := j) (e := eStr); exact T.p9; exact rfl; exact hW.ext ((hx3.trans hx4).trans (by repeat first | assumption | exact Ext.rfl' | apply Ext.drew | apply Ext.alloc | refine Ext.trans ?_ (by assumption))); exact hx; exact rfl; exact rfl; exact rfl) | (apply G1_len; exact T.s31; exact rfl; exact rfl) | ((first | apply G1_gtr | apply G1_lss); exact rfl; exact rfl; exact rfl) | (apply G1_slen; exact T.str9; exact rfl; exact rfl) | (apply G1_add; exact rfl; exact rfl; omega; omega; exact rfl)) | apply G_nil | apply Post_next | apply W_seq | apply W_region | (apply W_cond_dec; exact rfl; all_goals (intro h; try (exfalso; omega))) | apply W_skip | apply W_block | apply Post_block_normal)
      all_goals try (exfalso; omega)
      exact Post_round (j + 1) ⟨rfl, rfl, rfl, rfl, rfl, rfl, trivial⟩ ⟨(by repeat first | assumption | exact Ext.rfl' | apply Ext.drew | apply Ext.alloc | refine Ext.trans ?_ (by assumption)), hjl, fun y hy => by
        rw [take_snoc hx] at hy
        rcases List.mem_append.1 hy with hy | hy
        · exact hsw y hy
        · rw [List.mem_singleton.1 hy]; exact hxs⟩ (by omega)
    · repeat' (first | (apply G_on; exact rfl; first | ((first | apply G1_assign | apply G1_move); exact rfl; exact rfl) | (apply G1_indexAddrJ (q := i); exact T.s40; exact rfl; exact rfl; exact rfl; exact hokS; exact hlt; exact rfl) | (apply G1_loadEl1 (q := i) (e := eSlc) (v := .slice q1 l.length d1); exact T.p31; exact rfl; exact hS.ext (((hx3.trans hx4)).trans (by repeat first | assumption | exact Ext.rfl' | apply Ext.drew | apply Ext.alloc | refine Ext.trans ?_ (by assumption))); exact hu; exact rfl; exact rfl; exact rfl) | (apply G1_indexAddrJ (q := j); exact T.s31; exact rfl; exact rfl; exact rfl; exact hokL; exact hjl; exact rfl) | (apply G1_loadEl1 (q := j) (e := eStr); exact T.p9; exact rfl; exact hW.ext ((hx3.trans hx4).trans (by repeat first | assumption | exact Ext.rfl' | apply Ext.drew | apply Ext.alloc | refine Ext.trans ?_ (by assumption))); exact hx; exact rfl; exact rfl; exact rfl) | (apply G1_len; exact T.s31; exact rfl; exact rfl) | ((first | apply G1_gtr | apply G1_lss); exact rfl; exact rfl; exact rfl) | (apply G1_slen; exact T.str9; exact rfl; exact rfl)) | apply G_nil | apply Post_next | apply W_seq | apply W_region | (apply W_cond_dec; exact rfl; all_goals (intro h; try (exfalso; omega))) | apply W_skip | apply W_ret | apply W_block | apply Post_then_ret | apply Post_block_ret)
      all_goals try (exfalso; omega)
      refine Post_ret Tryd.results7 ⟨_, _, rfl, rfl, rfl⟩ ?_
      exact ⟨rfl, (by repeat first | assumption | exact Ext.rfl' | apply Ext.drew | apply Ext.alloc | refine Ext.trans ?_ (by assumption))⟩
  have hjl' : j = l.length := by omega
  rw [hjl', List.take_of_length_le (Nat.le_refl _)] at hsw
  have hsmC : SmallC l := ⟨h130, hsw⟩
  have hp1 := fun w' (hx : Ext w4 w') => print05_spec (w := w') (hW.ext ((hx3.trans hx4).trans hx)) (TabIs.ext hT ((hx3.trans hx4).trans hx))
  have hp2 := fun w' (hx : Ext w4 w') => refPrint05_spec (w := w') (hW.ext ((hx3.trans hx4).trans hx))
  repeat' (first | (apply G_on; exact rfl; first | ((first | apply G1_assign | apply G1_move); exact rfl; exact rfl) | (apply G1_indexAddrJ (q := i); exact T.s40; exact rfl; exact rfl; exact rfl; exact hokS; exact hlt; exact rfl) | (apply G1_loadEl1 (q := i) (e := eSlc) (v := .slice q1 l.length d1); exact T.p31; exact rfl; exact hS.ext (((hx3.trans hx4)).trans (by repeat first | assumption | exact Ext.rfl' | apply Ext.drew | apply Ext.alloc | refine Ext.trans ?_ (by assumption))); exact hu; exact rfl; exact rfl; exact rfl) | (apply G1_call (f := 31); exact rfl; exact rfl; exact rfl; exact hp1 _ (by repeat first | assumption | exact Ext.rfl' | apply Ext.drew | apply Ext.alloc | refine Ext.trans ?_ (by assumption)); rintro _ w5 ⟨hx5, ps, cps, rfl, hO5⟩; refine ⟨(by first | exact .inl rfl | exact .inr hx5), ?_⟩) | (apply G1_len; exact T.s31; exact rfl; exact rfl) | (apply G1_lss; exact rfl; exact rfl; exact rfl)) | apply G_nil | apply Post_next | apply W_seq | apply W_region | (apply W_cond_dec; exact rfl; all_goals (intro h; try (exfalso; omega))) | refine W_drawn 1 [] [0,1,2,3,4,5,6,7] mixed (by decide +kernel) ?_ | apply W_exit | apply Post_then_exit | apply Post_block_exit)
  all_goals try (exfalso; omega)
  have hx35 : Ext w3 w5 := (by repeat first | assumption | exact Ext.rfl' | apply Ext.drew | apply Ext.alloc | refine Ext.trans ?_ (by assumption))
  have hx05 : Ext w w5 := hx3.trans hx35
  have hI5 := hI.ext hx35
  have hB5 := hB.ext hx35
  have hO5b := hO5.base (B' := w.heap.size) (by have := hx3.size; have := hx4.size; omega)
  have hge5 := hO5.ge
  have hz34 := hx4.size
  have hts : ls.take (i + 1) = ls.take i ++ [l] := take_snoc hl
  have hfl : (ls.take (i + 1)).filter okL = (ls.take i).filter okL ++ (if okL l = true then [l] else []) := by
    rw [hts, List.filter_append]
    congr 1
    cases h : okL l <;> simp [h]
  have hps : ∀ k, blk rp = some k → blk ps ≠ some k := fun k hk e => by
    have := (hI.rd.row.ge k hk).2
    have := (hge5 k e).1
    omega
  repeat' (first | (refine W_cutC (c := .tmp 68) (ι := Option Addr × Nat × List Hdr) (fun y => [(0, .slice q us.length d), (3, .slice y.1 y.2.2.length y.2.1), (4, .pointer (some (adr (bx ar) 0))), (5, .slice pa hs0.length ca), (6, .int .i64 (i : Int)), (8, .slice ps (prC l).length cps)]) (fun y w' => FeedsI w w' ar ((ls.take i).flatMap prC) rp rc pw cw pa ca hs0 ∧ BackO w w' (ls.take (i + 1)) pa y.1 y.2.1 y.2.2 ∧ Own w' w.heap.size 5 eByte ps cps (prC l)) ?_ ?_) | (apply G_on; exact rfl; first | ((first | apply G1_assign | apply G1_move); exact rfl; exact rfl) | (apply G1_indexAddrJ (q := i); exact T.s40; exact rfl; exact rfl; exact rfl; exact hokS; exact hlt; exact rfl) | (apply G1_loadEl1 (q := i) (e := eSlc) (v := .slice q1 l.length d1); exact T.p31; exact rfl; exact hS.ext (((hx3.trans hx35)).trans (by repeat first | assumption | exact Ext.rfl' | apply Ext.drew | apply Ext.alloc | refine Ext.trans ?_ (by assumption))); exact hu; exact rfl; exact rfl; exact rfl) | (apply G1_toString (bs := prC l); exact T.s28; exact T.i5; exact T.str9; exact rfl; exact hO5.sl.ext (by repeat first | assumption | exact Ext.rfl' | apply Ext.drew | apply Ext.alloc | refine Ext.trans ?_ (by assumption)); exact rfl) | (apply G1_call (f := 32); exact rfl; exact rfl; exact rfl; exact hp2 _ (by repeat first | assumption | exact Ext.rfl' | apply Ext.drew | apply Ext.alloc | refine Ext.trans ?_ (by assumption)); rintro _ w6 ⟨hx6, rfl⟩; refine ⟨(by first | exact .inl rfl | exact .inr hx6), ?_⟩) | (apply G1_len; exact T.s28; exact rfl; exact rfl) | (apply G1_gtr; exact rfl; exact rfl; exact rfl) | (apply G1_sneq; exact rfl; exact rfl; exact rfl)) | apply G_nil | apply Post_next | apply W_seq | apply W_region | (apply W_cond_dec; exact rfl; all_goals (intro h; try (exfalso; omega))) | apply W_skip | apply W_ret | apply Post_then_ret | apply Post_block_ret)
  all_goals try (exfalso; exact absurd rfl (by assumption))
  · have hpo : PrOk l := prC_pos.1 (by omega)
    have hkl := hB.at_.len
    have hfl2 := List.length_filter_le okL (ls.take i)
    rw [List.length_take] at hfl2
    apply G_on; exact rfl
    apply G1_build1 eSlc (q1, l.length, d1); exact T.s40; exact rfl; exact rfl; exact rfl; decide; exact rfl; exact rfl
    intro p7 w7 hp7 hs7 _ hx7 hz7
    have hx57 : Ext w5 w7 := (by repeat first | assumption | exact Ext.rfl' | apply Ext.drew | apply Ext.alloc | refine Ext.trans ?_ (by assumption))
    have hB7 := hB5.ext hx57
    have hI7 := hI5.ext hx57
    have hz7' := (hx05.trans hx57).size
    repeat' (first | (apply G_on; exact rfl; first | (apply G1_assign; exact rfl; exact rfl) | (apply G1_appendA; exact T.s40; exact rfl; exact rfl; exact hB7.own; exact hs7; exact rfl; exact hz7'; (simp only [List.length_cons, List.length_nil]; omega); (simp only [List.length_cons, List.length_nil]; omega); exact rfl; exact rfl; exact rfl; intro p8 c8 w8 ha8)) | apply G_nil)
    have hnp := ha8.new
    unfold NewP at hnp
    refine Post_cutI (p8, c8, ks ++ [(q1, l.length, d1)]) ⟨rfl, rfl, rfl, rfl, rfl, rfl, trivial⟩ ⟨hI7.turn hB7.own hB7.ap ha8.grown, ⟨ha8.own, by rw [hfl, if_pos (okL_yes hpo)]; exact hB.at_.snoc hW, fun k hk e => ?_⟩, (hO5b.ext hx57).fr (FrS.of_grown (F := fun k => blk pq = some k) ha8.grown (fun k hk => hk)) (fun k hk e => blk_apart (hO5b.ext hx57) hB7.own (by decide) hk e)⟩
    rcases hnp with h | h
    · exact hB7.ap k hk (by rw [← h]; exact e)
    · have := h k e
      have := (hI7.all.ge k hk).2
      omega
  · have hpo : ¬ PrOk l := fun h => by have := prC_pos.2 h; omega
    have hx56 : Ext w5 w6 := (by repeat first | assumption | exact Ext.rfl' | apply Ext.drew | apply Ext.alloc | refine Ext.trans ?_ (by assumption))
    exact Post_cutI (pq, cq, ks) ⟨rfl, rfl, rfl, rfl, rfl, rfl, trivial⟩ ⟨hI5.ext hx56, ⟨(hB5.ext hx56).own, by rw [hfl, if_neg (by rw [okL_no hpo]; decide), List.append_nil]; exact hB.at_, hB5.ap⟩, hO5b.ext hx56⟩
  rintro ⟨pq6, cq6, ks6⟩ w6' ⟨hI6, hB6, hO6⟩
  simp only at hB6
  repeat' (first | (apply G_on; exact rfl; (apply G1_assign; exact rfl; exact rfl)) | apply G_nil | apply Post_next | apply W_seq | apply W_region | apply W_block)
  obtain ⟨F, hF⟩ : ∃ F, (ls.take i).flatMap prC = F := ⟨_, rfl⟩
  obtain ⟨s, hs⟩ : ∃ s, prC l = s := ⟨_, rfl⟩
  have hFl : F.length ≤ 8000000 := by
    have := flatC_len _ hsm
    rw [hF, List.length_take] at this
    omega
  have hsl : s.length ≤ 800000 := by
    have := flatC_len [l] (fun x hx => by rw [List.mem_singleton.1 hx]; exact hsmC)
    simpa [hs] using this
  have hall : (runP rs0 (F ++ s)).err = 0 := by
    have h := run_all (ls.take (i + 1))
    rw [hts, List.flatMap_append, hF] at h
    have e : [l].flatMap prC = s := by simp [hs]
    rw [e] at h
    rw [h]
  rw [hF] at hI6
  rw [hs] at hO6 ⊢
  have hokO := hO6.sl.ok
  have hleO := hokO.le
  refine W_loop (ι := FeY) (fun y => [(0, .slice q us.length d), (3, .slice pq6 ks6.length cq6), (4, .pointer (some (adr (bx ar) 0))), (5, .slice y.pa y.hs.length y.ca), (6, .int .i64 (i : Int)), (8, .slice ps s.length cps), (9, .int .i64 (y.a : Int))])
    (fun y w' => FeedsI w w' ar (F ++ s.take y.a) y.p y.c y.pw y.cw y.pa y.ca y.hs ∧ BackO w w' (ls.take (i + 1)) y.pa pq6 cq6 ks6 ∧ Own w' w.heap.size 5 eByte ps cps s ∧ (∀ k, blk y.p = some k → blk ps ≠ some k) ∧ y.a ≤ s.length + 50) (fun y => s.length + 50 - y.a) ⟨0, 0, rp, rc, pw, cw, pa, ca, hs0⟩ ⟨rfl, rfl, rfl, rfl, rfl, rfl, rfl, trivial⟩
    ⟨by rw [List.take_zero, List.append_nil]; exact hI6, hB6, hO6, hps, Nat.zero_le _⟩ ?_
  rintro ⟨i0, k, rp7, rc7, pw7, cw7, pa7, ca7, hs7⟩ w7 ⟨hI7, hB7, hO7, hps7, hk7⟩
  simp only at hI7 hB7 hps7 hk7
  refine W_keep [(0, .slice q us.length d), (3, .slice pq6 ks6.length cq6), (4, .pointer (some (adr (bx ar) 0))), (5, .slice pa7 hs7.length ca7), (6, .int .i64 (i : Int)), (8, .slice ps s.length cps), (9, .int .i64 (k : Int))] ⟨rfl, rfl, rfl, rfl, rfl, rfl, rfl, trivial⟩ ?_
  by_cases hks : k < s.length
  rotate_left
  · rw [List.take_of_length_le (by omega)] at hI7
    have hFs : F ++ s = (ls.take (i + 1)).flatMap prC := by rw [hts, List.flatMap_append, hF]; simp [hs]
    rw [hFs] at hI7
    repeat' (first | (apply G_on; exact rfl; first | ((first | apply G1_assign | apply G1_move); exact rfl; exact rfl) | (apply G1_len; exact T.s28; exact rfl; exact rfl) | (apply G1_lss; exact rfl; exact rfl; exact rfl) | (apply G1_add; exact rfl; exact rfl; omega; omega; exact rfl)) | apply G_nil | apply Post_next | apply W_seq | apply W_region | (apply W_cond_dec; exact rfl; all_goals (intro h; try (exfalso; omega))) | apply W_exit | apply Post_then_exit | apply Post_block_exit | apply Post_block_normal)
    all_goals try (exfalso; omega)
    refine Post_round (⟨i + 1, rp7, rc7, pw7, cw7, pa7, ca7, hs7, pq6, cq6, ks6⟩ : BkY) ⟨rfl, rfl, rfl, rfl, rfl, trivial⟩ ⟨hI7, hB7, hlt, fun x hx => ?_⟩ (by simp only; omega)
    rw [hts] at hx
    rcases List.mem_append.1 hx with hx | hx
    · exact hsm x hx
    · rw [List.mem_singleton.1 hx]; exact hsmC
  obtain ⟨e1, he1⟩ : ∃ e1 : Nat, min (s.length : Int) ((k : Int) + 7) = (e1 : Int) := ⟨min s.length (k + 7), by omega⟩
  obtain ⟨e2, he2⟩ : ∃ e2 : Nat, min (s.length : Int) ((k : Int) + 50) = (e2 : Int) := ⟨min s.length (k + 50), by omega⟩
  have b1 : k ≤ e1 ∧ e1 ≤ e2 ∧ e2 ≤ s.length := by omega
  obtain ⟨m1, hm1⟩ : ∃ m1, (s.drop k).take (e1 - k) = m1 := ⟨_, rfl⟩
  obtain ⟨m2, hm2⟩ : ∃ m2, (s.drop e1).take (e2 - e1) = m2 := ⟨_, rfl⟩
  have l1 : e1 - k = m1.length := by rw [← hm1, List.length_take, List.length_drop]; omega
  have l2 : e2 - e1 = m2.length := by rw [← hm2, List.length_take, List.length_drop]; omega
  have hte : s.take (k + 50) = s.take e2 := by
    by_cases h : k + 50 ≤ s.length
    · rw [show e2 = k + 50 by omega]
    · rw [List.take_of_length_le (by omega), List.take_of_length_le (by omega)]
  have htk : F ++ s.take e2 = (F ++ s.take k) ++ (m1 ++ m2) := by
    rw [take_piece b1.2.1, take_piece b1.1, hm1, hm2]
    simp
  have herr : (runP rs0 ((F ++ s.take k) ++ (m1 ++ m2))).err = 0 := by
    rw [← htk]
    refine no_err (m := s.drop e2) ?_
    rw [List.append_assoc, List.take_append_drop]
    exact hall
  have hgood := run_good _ (r := rs0) (cs := F ++ s.take k) (Nat.lt_succ_self _) good0
  have hFk : (F ++ s.take k).length ≤ 9000000 := by rw [List.length_append, List.length_take]; omega
  have hrs0 : rs0.held = 0 := rfl
  have hhl := hI7.cm.shown.len
  have hx7 := hI7.rd.ext
  repeat' (first | (apply G_on; exact rfl; first | (apply G1_move; exact rfl; exact rfl) | (apply G1_len; exact T.s28; exact rfl; exact rfl) | (apply G1_lss; exact rfl; exact rfl; exact rfl)) | apply G_nil | apply Post_next | apply W_seq | apply W_region | (apply W_cond_dec; exact rfl; all_goals (intro h; try (exfalso; omega))) | apply W_skip | apply W_block)
  all_goals try (exfalso; omega)
  refine W_drawn 2 [ar] [0,1,2,3,4,5,6,7,8,9,10,11,12,13,14,15,16,17,18,19,20,21,22,23,24,25,26,27] mixed (by decide +kernel) ?_
  have hM1 : Sl w7.heap eByte (subp ps cps k 1) (cps - k) m1 := by rw [← hm1]; exact (hO7.sl.drop (by omega)).take _
  have hM2 : Sl w7.heap eByte (subp ps cps e1 1) (cps - e1) m2 := by rw [← hm2]; exact (hO7.sl.drop (by omega)).take _
  repeat' (apply G_on; exact rfl; first | (apply G1_move; exact rfl; exact rfl) | (apply G1_sliceBothJ (q := k) (r := e1); exact T.s28; exact rfl; exact rfl; exact rfl; exact rfl; exact he1; exact b1.1; omega; exact rfl) | (apply G1_sliceBothJ (q := e1) (r := e2); exact T.s28; exact rfl; exact rfl; exact rfl; exact he1; exact he2; exact b1.2.1; omega; exact rfl) | (apply G1_len; exact T.s28; exact rfl; exact rfl) | (apply G1_min; exact rfl; exact rfl; exact rfl) | (apply G1_add; exact rfl; exact rfl; omega; omega; exact rfl))
  apply G_on; exact rfl
  apply G1_buildN eSlc [(subp ps cps k 1, e1 - k, cps - k), (subp ps cps e1 1, e2 - e1, cps - e1)]; exact T.s76; exact rfl; exact rfl; exact rfl; exact rfl; exact rfl; exact Nat.succ_pos _; exact Nat.le_of_ble_eq_true rfl; exact rfl; exact rfl
  intro p8 w8 hO8 hx8 hz8
  have hx78 : Ext w7 w8 := (by repeat first | assumption | exact Ext.rfl' | apply Ext.drew | apply Ext.alloc | refine Ext.trans ?_ (by assumption))
  have hge8 := hO8.ge
  have hap : ∀ (a n : Nat) (x : Addr), subp ps cps a n = some x → ¬ (x.block = ar ∨ blk rp7 = some x.block) := fun a n x hx e => by
    have hb := subp_blk hx
    rcases e with e | e
    · exact hO7.apartB hI7.rd.blk (by decide) (by rw [← e]; exact hb)
    · exact hps7 _ e hb
  have hP8 : PartsAt w8.heap (fun k => k = ar ∨ blk rp7 = some k) [(subp ps cps k 1, e1 - k, cps - k), (subp ps cps e1 1, e2 - e1, cps - e1)] [m1, m2] :=
    ⟨rfl, fun j h b hj hb => by
      match j with
      | 0 =>
        obtain rfl : (subp ps cps k 1, e1 - k, cps - k) = h := by simpa using hj
        obtain rfl : m1 = b := by simpa using hb
        exact ⟨l1, hM1.ext hx78, fun x hx _ => hap _ _ x hx⟩
      | 1 =>
        obtain rfl : (subp ps cps e1 1, e2 - e1, cps - e1) = h := by simpa using hj
        obtain rfl : m2 = b := by simpa using hb
        exact ⟨l2, hM2.ext hx78, fun x hx _ => hap _ _ x hx⟩
      | j + 2 => simp at hj⟩
  have hfl2 : [m1, m2].flatten = m1 ++ m2 := by simp
  have hfd := feed_spec (hI7.rd.xt hx78) hO8.sl (fun x hx _ e => by
    have hb := hge8 x.block (by rw [hx]; rfl)
    have hd0 := (Ext.drew (Ext.rfl' (w := w7))).size
    rcases e with e | e
    · have := hI7.rd.blk.lt; omega
    · have := (hI7.rd.row.ge _ e).2; omega) hP8 (by rw [hfl2, List.length_append]; omega) (by omega) hT hE hgood.1
  rw [hfl2] at hfd
  apply G_on; exact rfl; apply G1_call (f := 26); exact rfl; exact rfl; exact rfl; exact hfd; intro v w9 hv; refine ⟨.inl rfl, ?_⟩
  obtain ⟨pd, cd, hs2, rp', rc', pw', cw', rfl, hall9, hO9, hN9, hF9, hnp9⟩ := hI7.next hx78 hv
  have hsz9 : w.heap.size ≤ w9.heap.size := by have := hx7.size; have := hx78.size; have := hF9.size; omega
  have hR9 := hN9.ok herr
  have nst : ∀ {T : Nat} {α : Type} {en : Enc α} {p' : Option Addr} {c' : Nat} {xs : List α}, Own w8 w.heap.size T en p' c' xs → T ≠ 75 → T ≠ 9 → (∀ k, blk p' = some k → blk rp7 ≠ some k) → Own w9 w.heap.size T en p' c' xs := fun h h1 h2 h3 =>
    h.fr hF9 (fun k hk e => by
      rcases e with e | e | e
      · exact h.apartB (hI7.rd.xt hx78).blk h1 (by rw [← e]; exact hk)
      · exact h3 k hk e
      · exact blk_apart h (hI7.rd.xt hx78).wds h2 hk e)
  have hO99 := nst (hO7.ext hx78) (by decide) (by decide) (fun k hk e => hps7 k e hk)
  have hB99 := nst (hB7.own.ext hx78) (by decide) (by decide) (fun k hk e => blk_apart hB7.own hI7.rd.row (by decide) hk e)
  have hh2 := hN9.cm.shown.len
  rw [List.length_append] at hh2
  have hgood2 := run_good _ (r := rs0) (cs := (F ++ s.take k) ++ (m1 ++ m2)) (Nat.lt_succ_self _) good0
  have hlm : ((F ++ s.take k) ++ (m1 ++ m2)).length ≤ 9000000 := by rw [← htk, List.length_append, List.length_take]; omega
  rw [herr]
  repeat' (first | (apply G_on; exact rfl; first | ((first | apply G1_assign | apply G1_move); exact rfl; exact rfl) | (apply G1_appendA; exact T.s40; exact rfl; exact rfl; exact hall9; exact hO9.sl; exact rfl; exact hsz9; omega; omega; exact rfl; exact rfl; exact rfl; intro p10 c10 w10 ha10) | (apply G1_extract; exact rfl; exact rfl; exact rfl) | (apply G1_add; exact rfl; exact rfl; omega; omega; exact rfl) | (apply G1_neq; exact rfl; exact rfl; exact rfl)) | apply G_nil | apply Post_next | apply W_seq | apply W_region | (apply W_cond_false; exact rfl) | apply W_skip | apply Post_block_normal)
  all_goals try (exfalso; first | omega | exact absurd rfl (by assumption))
  have hN10 := hN9.push hall9 ha10
  have hf10 : FrS (fun k => blk pa7 = some k) w9 w10 := FrS.of_grown ha10.grown (fun k hk => hk)
  have hnp := ha10.new
  unfold NewP at hnp
  have hz89 := hF9.size
  have hz78 := hx78.size
  refine Post_round (⟨i0, k + 50, rp', rc', pw', cw', p10, c10, hs7 ++ hs2⟩ : FeY) ⟨rfl, rfl, rfl, rfl, rfl, rfl, rfl, trivial⟩ ⟨?_, ⟨hB99.fr hf10 (fun k hk e => hB7.ap k e hk), hB7.at_, fun k hk e => ?_⟩, hO99.fr hf10 (fun k hk e => blk_apart hO99 hall9 (by decide) hk e), fun k hk e => ?_, by simp only; omega⟩ (by simp only; omega)
  · simp only
    rw [hte, htk]
    exact ⟨hN10.ok herr, herr, ha10.own, hN10.cm⟩
  · rcases hnp with h | h
    · exact hB7.ap k (by rw [← h]; exact hk) e
    · have := h k hk
      have := (hB7.own.ge k e).2
      omega
  · rcases hnp9 k hk with h | h
    · exact hps7 k h e
    · have := (hO7.ge k e).2
      omega
end Go.Proofs.YtikjnmpijflnaaaDoor
