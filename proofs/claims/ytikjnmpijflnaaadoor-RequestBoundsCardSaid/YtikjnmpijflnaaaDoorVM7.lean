/- Texts of this proof laid together: ReqRead8, ReqRun, ReqPrint, ReqAwake, ReqFeeds, ReqCut, ToBytes, ReqDigits, LRequestBounds. -/
import Derived.Test.YtikjnmpijflnaaaDoorVM6
import Derived.Laws.IdiomStrings
/- Requests: Feed at one part; the walk. -/
namespace Go.Proofs.YtikjnmpijflnaaaDoor
open Go.V
attribute [local irreducible] Blk Own hcell IntT SliceT PlainT AggT SizeT StrT FieldT ZeroT EqT ArrT



theorem feed_spec {w0 : World} {ar B : Nat} {p : Option Addr} {c : Nat} {inp : List UInt8} {pw : Option Addr} {cw : Nat} {r : RS} {q : Option Addr} {d : Nat} {ks : List Hdr} {parts : List (List UInt8)} {w : World} (hR : RdSt w0 w ar B p c inp 0 pw cw r 0)
    (hS : Sl w.heap eSlc q d ks) (hSn : ∀ x, q = some x → ks ≠ [] → ¬ (x.block = ar ∨ blk p = some x.block)) (hb : PartsAt w.heap (fun k => k = ar ∨ blk p = some k) ks parts) (hN : inp.length + parts.flatten.length ≤ 100000000) (hH : r.held ≤ 100000000) (hT : Pow w0) (hE : Errs w0) (hg0 : GoodR r) :
    Ctr Tryd.prog 26 [.pointer (some (adr (bx ar) 0)), .slice q ks.length d] w (FeedA w0 w ar B p pw (runP r (inp ++ parts.flatten))) := by
  have hbk := hR.blk
  have hlen := hb.len
  have hsb := hS.bound
  have hok := hS.ok
  refine Ctr_of Tryd.func26 Tryd.ntmps26 rfl rfl rfl ?_
  repeat' (first | apply W_seq | apply W_region)
  apply G_on; exact rfl; apply G1_box; exact rfl; exact rfl; exact rfl; intro a2 w1 ha1 hA2 hx1 hs1
  replace hA2 : Blk w1.heap a2 38 [.pointer (some (adr (bx ar) 0))] := hA2
  replace hbk := hbk.ext hx1
  repeat' (first | (apply G_on; exact rfl; first | ((first | apply G1_assign | apply G1_move | apply G1_nilCheck); exact rfl; exact rfl) | (apply G1_loadB; (first | exact T.p38 | exact T.p41); exact rfl; assumption; exact rfl; exact rfl) | (apply G1_fieldAddr; exact T.f75_6; exact rfl; exact rfl) | (apply G1_neq; exact rfl; exact rfl; exact rfl) | (apply G1_len; exact T.s76; exact rfl; exact rfl)) | apply G_nil | apply Post_next | apply W_seq | apply W_region | apply W_scopeI | (apply W_cond_false; exact rfl) | apply W_skip | apply W_block)
  all_goals try (exfalso; omega)
  refine W_loop (ι := Nat × Option Addr × Nat) (fun y => [(2, .pointer (some (adr (bx a2) 0))), (26, .slice q ks.length d), (27, .int .i64 (ks.length : Int)), (28, .int .i64 (y.1 : Int))])
    (fun y w' => y.1 ≤ ks.length ∧ RdSt w0 w' ar B y.2.1 y.2.2 (inp ++ (parts.take y.1).flatten) 0 pw cw r 0 ∧ Blk w'.heap a2 38 [.pointer (some (adr (bx ar) 0))] ∧ FrS (fun k => k = ar ∨ blk p = some k) w w' ∧ ∀ k, blk y.2.1 = some k → blk p = some k ∨ w.heap.size ≤ k) (fun y => ks.length - y.1) (0, p, c) ⟨rfl, rfl, rfl, rfl, trivial⟩
    ⟨Nat.zero_le _, by rw [List.take_zero, List.flatten_nil, List.append_nil]; exact hR.xt (by repeat first | assumption | exact Ext.rfl' | apply Ext.drew | apply Ext.alloc | refine Ext.trans ?_ (by assumption)), hA2.ext (by repeat first | assumption | exact Ext.rfl' | apply Ext.drew | apply Ext.alloc | refine Ext.trans ?_ (by assumption)), FrS.of_ext (by repeat first | assumption | exact Ext.rfl' | apply Ext.drew | apply Ext.alloc | refine Ext.trans ?_ (by assumption)), fun k hk => .inl hk⟩ ?_
  rintro ⟨i, p1, c1⟩ w2 ⟨hi, hR2, hA2, hF2, hnp2⟩
  simp only at hi hR2 hnp2
  refine W_keep [(2, .pointer (some (adr (bx a2) 0))), (26, .slice q ks.length d), (27, .int .i64 (ks.length : Int)), (28, .int .i64 (i : Int))] ⟨rfl, rfl, rfl, rfl, trivial⟩ ?_
  by_cases hi0 : i < ks.length
  · obtain ⟨⟨q1, n1, d1⟩, hq1⟩ := get_some hi0
    obtain ⟨b, hgb⟩ := get_some (xs := parts) (k := i) (by omega)
    obtain ⟨e1, hb1, hn1⟩ := hb.get i _ b hq1 hgb
    simp only at e1 hb1 hn1
    subst e1
    have hb2 : Sl w2.heap eByte q1 d1 b := hb1.fr' hF2 hn1
    have hS2 := hS.fr' hF2 hSn
    have hts := flat_snoc hgb
    have htl := flat_le parts (i + 1)
    rw [hts, List.length_append] at htl
    have hxd : Ext w2 w2.drew := Ext.drew Ext.rfl'
    have nA2 := (hR2.row.ext hxd).apartB (hA2.ext hxd) (by decide)
    have nAr := (hR2.row.ext hxd).apartB (hR2.blk.ext hxd) (by decide)
    have nW := (hR2.row.ext hxd).apartR (hR2.wds.ext hxd) (by decide)
    have hbk2 := hR2.blk
    repeat' (first | (apply G_on; exact rfl; first | (apply G1_assign; exact rfl; exact rfl) | (apply G1_indexAddrJ (q := i); exact T.s76; exact rfl; exact rfl; exact rfl; exact hok; exact hi0; exact rfl) | (apply G1_loadEl1 (q := i) (e := eSlc); exact T.p28; exact rfl; exact hS2; exact hq1; exact rfl; exact rfl; exact rfl) | (apply G1_lss; exact rfl; exact rfl; exact rfl)) | apply G_nil | apply Post_next | apply W_seq | apply W_region | (apply W_cond_dec; exact rfl; all_goals (intro h; try (exfalso; omega))) | apply W_skip | apply W_block)
    all_goals try (exfalso; omega)
    refine W_drawnT 1 [] (.node [5] (.alt 0 (.node [] (.alt 1 (.leaf [2,3,4,6,7,8,9]) .stop)) (.alt 1 (.node [2,3,4] (.alt 0 (.leaf [6,7,8,9]) (.alt 6 (.leaf [0,7,8,9]) .stop))) .stop))) mixed (by decide +kernel) ?_
    repeat' (first | (apply G_on; exact rfl; first | ((first | apply G1_move | apply G1_nilCheck); exact rfl; exact rfl) | (apply G1_appendA; exact T.s28; exact rfl; exact rfl; exact hR2.row.ext (Ext.drew Ext.rfl'); exact hb2.ext (Ext.drew Ext.rfl'); exact rfl; exact hR2.hB; (simp only [List.length_append]; omega); (simp only [List.length_append]; omega); exact rfl; exact rfl; exact rfl; intro p5 c5 w5 ha5; have hA25 := (hA2.ext hxd).grown ha5.grown nA2; have hbk5 := (hbk2.ext hxd).grown ha5.grown nAr) | (apply G1_loadB; (first | exact T.p38 | exact T.p28); exact rfl; assumption; exact rfl; exact rfl) | (apply G1_fieldAddr; exact T.f75_0; exact rfl; exact rfl)) | apply G_nil | (refine GT_leaf ?_) | (refine GT_node ?_) | (apply GT_alt) | (exact GT_stop))
    all_goals
      rw [List.append_assoc, ← hts] at ha5
      apply G_on; exact rfl; apply G1_storeB; exact T.z28; exact rfl; exact rfl; exact hbk5; exact rfl; exact rfl; (first | exact Nat.le_of_ble_eq_true rfl | (focus (simp [Value.cells]; done))); (first | exact Enc.one _ _ | (focus (simp [Value.oneCell']; done)) | (focus (simp [Value.cells, Value.oneCell']; done)) | exact Enc.oneAgg _ _); exact rfl; (first | exact .inl rfl | exact .inr (by simp [exempt])); exact rfl; intro w6 hA6 hg6 hs6
      replace hA6 : Blk w6.heap ar 75 [.slice p5 (inp ++ (parts.take i).flatten ++ b).length c5, .int .i64 ((0 : Nat) : Int), .int .i64 (r.left : Int), .int .i64 r.size, .slice pw r.words.length cw, .int .i64 (r.held : Int), .int .i64 0] := hA6
      rw [List.append_assoc, ← hts] at hA6
      have hR6 : RdSt w0 w6 ar B p5 c5 (inp ++ (parts.take (i + 1)).flatten) 0 pw cw r 0 :=
        ⟨hA6, ha5.own.kept hg6 (fun x hx e => by injection e with e; exact ha5.own.apart hx hbk5 (by decide) e), ((hR2.wds.ext hxd).kept ha5.grown nW).kept hg6 (fun x hx e => by injection e with e; exact ((hR2.wds.ext hxd).kept ha5.grown nW).apart hx hbk5 (by decide) e), ((hR2.ext.trans hxd).own ha5.grown (fun k hk => by have := (hR2.row.ext hxd).ge k hk; have := hR.h0; have := hR.lt; omega)).own hg6 (fun k hk => by injection hk with hk; have := hR.h0; omega), hR.h0, hR.lt, Nat.le_trans ha5.base hg6.size, Nat.zero_le _⟩
      have hA26 := hA25.grown hg6 (fun e => by injection e with e; exact blk_ne hbk5 hA25 (by decide) e)
      repeat' (first | (apply G_on; exact rfl; first | (apply G1_move; exact rfl; exact rfl) | (apply G1_add; exact rfl; exact rfl; omega; omega; exact rfl)) | apply G_nil | apply Post_next | apply W_region | apply Post_block_normal)
      have hnn := ha5.new
      unfold NewP at hnn
      have hz2 := hF2.size
      have hz6 := hg6.size
      have hF5 : FrS (fun k => k = ar ∨ blk p = some k) w w6 := ((hF2.trans (FrS.of_ext hxd) (fun _ _ h => h)).trans (FrS.of_grown (F := fun k => k = ar ∨ blk p1 = some k) ha5.grown (fun k hk => .inr hk)) (fun k hk e => e.elim .inl (fun e => (hnp2 k e).elim .inr (fun e => by omega)))).trans (FrS.of_grown (F := fun k => k = ar ∨ blk p1 = some k) hg6 (fun k hk => by injection hk with hk; exact .inl hk.symm)) (fun k hk e => e.elim .inl (fun e => (hnp2 k e).elim .inr (fun e => by omega)))
      exact Post_round (i + 1, p5, c5) ⟨rfl, rfl, rfl, rfl, trivial⟩ ⟨hi0, hR6, hA26, hF5, fun k hk => hnn.elim (fun e => hnp2 k (by rw [← e]; exact hk)) (fun e => .inr (Nat.le_trans hz2 (e k hk)))⟩ (by simp only; omega)
  · obtain ⟨bs, hbs⟩ : ∃ bs, parts.flatten = bs := ⟨_, rfl⟩
    rw [List.take_of_length_le (by omega), hbs] at hR2
    rw [hbs] at hN ⊢
    repeat' (first | (apply G_on; exact rfl; (apply G1_lss; exact rfl; exact rfl; exact rfl)) | apply G_nil | apply Post_next | apply W_seq | apply W_region | (apply W_cond_dec; exact rfl; all_goals (intro h; try (exfalso; omega))) | apply W_exit | apply Post_then_exit | apply Post_block_exit)
    all_goals try (exfalso; omega)
    apply G_on; exact rfl; apply G1_alloc; exact T.zero40; exact rfl; exact rfl; intro a8 w3 ha8 hA8 hx3 hs3
    replace hA8 : Blk w3.heap a8 40 [.slice none 0 0] := hA8
    repeat' (first | (apply G_on; exact rfl; ((first | apply G1_assign | apply G1_makeFunc); exact rfl; exact rfl)) | apply G_nil | apply Post_next | apply W_seq | apply W_region | apply W_label | apply W_block)
    have z2 := hF2.size
    refine W_loop (ι := FdY) (fun y => [(2, .pointer (some (adr (bx a2) 0))), (8, .pointer (some (adr (bx a8) 0))), (9, .func (.func 43) #[] #[.pointer (some (adr (bx a8) 0)), .pointer (some (adr (bx a2) 0))])])
      (fun y w' => FdI w0 w w' ar B a2 a8 p pw p1 c1 (inp ++ bs) r y) (fun y => (inp ++ bs).length - y.a) ⟨0, r, pw, cw, [], [], none, 0⟩ ⟨rfl, rfl, rfl, trivial⟩ ?_ ?_
    · exact ⟨hR2.xt hx3, ⟨⟨hA2.ext hx3, hA8, Own.nil _ _ _ _⟩, WordsAt.nil, (hF2.trans (FrS.of_ext hx3) (fun _ _ h => h)).mono (fun k e => e.elim .inl (fun e => .inr (.inl e))), hnp2, fun k hk => .inl hk, by omega, by omega⟩, by simp, by simp only [List.length_append]; omega, hg0, Nat.zero_le _⟩
    rintro y w4 hI
    refine W_keep [(2, .pointer (some (adr (bx a2) 0))), (8, .pointer (some (adr (bx a8) 0))), (9, .func (.func 43) #[] #[.pointer (some (adr (bx a8) 0)), .pointer (some (adr (bx a2) 0))])] ⟨rfl, rfl, rfl, trivial⟩ ?_
    repeat' (first | apply W_seq | apply W_block)
    refine W_loop (ι := FdY) (fun y => [(2, .pointer (some (adr (bx a2) 0))), (8, .pointer (some (adr (bx a8) 0))), (9, .func (.func 43) #[] #[.pointer (some (adr (bx a8) 0)), .pointer (some (adr (bx a2) 0))])])
      (fun z w' => FdI w0 w w' ar B a2 a8 p pw p1 c1 (inp ++ bs) r z ∧ y.a ≤ z.a) (fun z => (inp ++ bs).length - z.a) y ⟨rfl, rfl, rfl, trivial⟩ ⟨hI, Nat.le_refl _⟩ ?_
    rintro z w5 ⟨hI5, hyz⟩
    refine W_keep [(2, .pointer (some (adr (bx a2) 0))), (8, .pointer (some (adr (bx a8) 0))), (9, .func (.func 43) #[] #[.pointer (some (adr (bx a8) 0)), .pointer (some (adr (bx a2) 0))])] ⟨rfl, rfl, rfl, trivial⟩ ?_
    have hbk5 := hI5.rd.blk
    have hA25 := hI5.o.gv.ptr
    have hrun := hI5.run
    have hdl : ((inp ++ bs).drop z.a).length = (inp ++ bs).length - z.a := List.length_drop
    have hIl : (inp ++ bs).length = inp.length + bs.length := List.length_append
    have hza := hI5.rd.la
    have hcnt := hI5.cnt
    have hhl := hI5.o.cm.len
    by_cases hl0 : z.r.left = 0
    · have hr0 := hI5.good.zero hl0
      have hln := line_spec hI5.rd (by omega)
      cases hL : lineP ((inp ++ bs).drop z.a) with
      | more =>
        rw [hL] at hln
        repeat' (first | (apply G_on; exact rfl; first | (apply G1_nilCheck; exact rfl; exact rfl) | (apply G1_loadB; (first | exact T.p38 | exact T.p3); exact rfl; assumption; exact rfl; exact rfl) | (apply G1_fieldAddr; exact T.f75_2; exact rfl; exact rfl) | (apply G1_gtr; exact rfl; exact rfl; exact rfl)) | apply G_nil | apply Post_next | apply W_seq | apply W_region | (apply W_cond_dec; exact rfl; all_goals (intro h; try (exfalso; omega))) | apply W_exit | apply Post_then_exit | apply Post_block_exit)
        all_goals try (exfalso; omega)
        apply G_on; exact rfl; apply G1_call (f := 45); exact rfl; exact rfl; exact rfl; exact hln; intro v w6 hv; refine ⟨.inl rfl, ?_⟩
        obtain ⟨hf6, rfl, hR6⟩ := hv
        have hO6 := hI5.o.own hI5.rd.blk hf6
        have hstep : stepP z.r ((inp ++ bs).drop z.a) = .stop := by
          unfold stepP
          rw [if_pos hl0, hL]
        rw [run_stop hstep, List.append_nil] at hrun
        have hti := tidy_ok hR6 (show (inp ++ bs).length ≤ 1000000000 by rw [List.length_append]; omega)
        have hA2e := (hO6).gv.ptr
        repeat' (first | (apply G_on; exact rfl; first | ((first | apply G1_assign | apply G1_move); exact rfl; exact rfl) | (apply G1_loadB; exact T.p38; exact rfl; assumption; exact rfl; exact rfl) | (apply G1_extract; exact rfl; exact rfl; exact rfl) | (apply G1_not_f; exact rfl; exact rfl)) | apply G_nil | apply Post_next | apply W_seq | apply W_region | (apply W_cond_true; exact rfl) | apply W_exit | apply Post_then_exit | apply Post_block_exit | (apply Post_block_other; exact rfl))
        apply G_on; exact rfl; apply G1_call (f := 49); exact rfl; exact rfl; exact rfl; exact hti; rintro vT wT ⟨hfT, hRT⟩; refine ⟨.inl rfl, ?_⟩
        obtain ⟨hGT, hFA⟩ := feed_done hR6 hO6 hfT hRT hrun
        have hbkT := hRT.blk
        have hA2T := hGT.ptr
        have hA8T := hGT.box
        repeat' (first | (apply G_on; exact rfl; first | ((first | apply G1_assign | apply G1_nilCheck); exact rfl; exact rfl) | (apply G1_loadB; (first | exact T.p38 | exact T.p41 | exact T.p40); exact rfl; assumption; exact rfl; exact rfl) | (apply G1_fieldAddr; exact T.f75_6; exact rfl; exact rfl)) | apply G_nil | apply Post_next | apply W_seq | apply Post_scopeR | refine W_drawn 1 [] [0,1,2,3,4,5,6] mixed (by decide +kernel) ?_ | apply W_ret)
        refine Post_ret Tryd.results26 ⟨_, _, rfl, rfl, _, _, rfl, rfl, rfl⟩ ?_
        exact hFA _ (by repeat first | assumption | exact Ext.rfl' | apply Ext.drew | apply Ext.alloc | refine Ext.trans ?_ (by assumption))
      | err e =>
        rw [hL] at hln
        repeat' (first | (apply G_on; exact rfl; first | (apply G1_nilCheck; exact rfl; exact rfl) | (apply G1_loadB; (first | exact T.p38 | exact T.p3); exact rfl; assumption; exact rfl; exact rfl) | (apply G1_fieldAddr; exact T.f75_2; exact rfl; exact rfl) | (apply G1_gtr; exact rfl; exact rfl; exact rfl)) | apply G_nil | apply Post_next | apply W_seq | apply W_region | (apply W_cond_dec; exact rfl; all_goals (intro h; try (exfalso; omega))) | apply W_exit | apply Post_then_exit | apply Post_block_exit)
        all_goals try (exfalso; omega)
        apply G_on; exact rfl; apply G1_call (f := 45); exact rfl; exact rfl; exact rfl; exact hln; intro v w6 hv; refine ⟨.inl rfl, ?_⟩
        obtain ⟨hf6, rfl, hR6⟩ := hv
        have hO6 := hI5.o.own hI5.rd.blk hf6
        have hstep : stepP z.r ((inp ++ bs).drop z.a) = .fault e := by
          unfold stepP
          rw [if_pos hl0, hL]
        have he := line_err hL
        rw [run_fault hstep, List.append_nil] at hrun
        have hti := tidy_bad hR6 (by omega)
        have hA2e := (hO6).gv.ptr
        repeat' (first | (apply G_on; exact rfl; first | ((first | apply G1_assign | apply G1_move); exact rfl; exact rfl) | (apply G1_loadB; exact T.p38; exact rfl; assumption; exact rfl; exact rfl) | (apply G1_extract; exact rfl; exact rfl; exact rfl) | (apply G1_not_f; exact rfl; exact rfl)) | apply G_nil | apply Post_next | apply W_seq | apply W_region | (apply W_cond_true; exact rfl) | apply W_exit | apply Post_then_exit | apply Post_block_exit | (apply Post_block_other; exact rfl))
        apply G_on; exact rfl; apply G1_call (f := 49); exact rfl; exact rfl; exact rfl; exact hti; rintro vT wT ⟨hfT, hRT⟩; refine ⟨.inl rfl, ?_⟩
        obtain ⟨hGT, hFA⟩ := feed_fail hR6 hO6 hfT hRT (by omega) ⟨congrArg Res.out hrun, congrArg Res.err hrun⟩
        have hbkT := hRT.blk
        have hA2T := hGT.ptr
        have hA8T := hGT.box
        repeat' (first | (apply G_on; exact rfl; first | ((first | apply G1_assign | apply G1_nilCheck); exact rfl; exact rfl) | (apply G1_loadB; (first | exact T.p38 | exact T.p41 | exact T.p40); exact rfl; assumption; exact rfl; exact rfl) | (apply G1_fieldAddr; exact T.f75_6; exact rfl; exact rfl)) | apply G_nil | apply Post_next | apply W_seq | apply Post_scopeR | refine W_drawn 1 [] [0,1,2,3,4,5,6] mixed (by decide +kernel) ?_ | apply W_ret)
        refine Post_ret Tryd.results26 ⟨_, _, rfl, rfl, _, _, rfl, rfl, rfl⟩ ?_
        exact hFA _ (by repeat first | assumption | exact Ext.rfl' | apply Ext.drew | apply Ext.alloc | refine Ext.trans ?_ (by assumption))
      | ok s k =>
        rw [hL] at hln
        repeat' (first | (apply G_on; exact rfl; first | (apply G1_nilCheck; exact rfl; exact rfl) | (apply G1_loadB; (first | exact T.p38 | exact T.p3); exact rfl; assumption; exact rfl; exact rfl) | (apply G1_fieldAddr; exact T.f75_2; exact rfl; exact rfl) | (apply G1_gtr; exact rfl; exact rfl; exact rfl)) | apply G_nil | apply Post_next | apply W_seq | apply W_region | (apply W_cond_dec; exact rfl; all_goals (intro h; try (exfalso; omega))) | apply W_exit | apply Post_then_exit | apply Post_block_exit)
        all_goals try (exfalso; omega)
        apply G_on; exact rfl; apply G1_call (f := 45); exact rfl; exact rfl; exact rfl; exact hln; intro v w6 hv; refine ⟨.inl rfl, ?_⟩
        obtain ⟨hf6, rfl, hR6⟩ := hv
        have hlk := line_len hL
        obtain ⟨hk1, hk2, hk3, hk4, hk5, hk6⟩ := line_ok hL
        have hs1 : s.length ≤ 1026 := by rw [hk5, List.length_take]; omega
        have hpre := fun w' => hasAst_spec (w := w') (s := s) (by omega)
        repeat' (first | (apply G_on; exact rfl; first | ((first | apply G1_assign | apply G1_move); exact rfl; exact rfl) | (apply G1_call (f := 46); exact rfl; exact rfl; exact rfl; exact hpre _; rintro _ w7 ⟨rfl, hx7⟩; refine ⟨(by first | exact .inl rfl | exact .inr (by assumption)), ?_⟩) | (apply G1_extract; exact rfl; exact rfl; exact rfl) | (apply G1_not_t; exact rfl; exact rfl)) | apply G_nil | apply Post_next | apply W_seq | apply W_region | (apply W_cond_false; exact rfl) | (apply W_cond_dec; exact rfl; all_goals (intro h; try (exfalso; omega))) | apply W_skip)
        all_goals try (exfalso; omega)
        · have hx7' : FrS (fun q => q = ar) w5 w7 := hf6.trans (FrS.of_ext (F := fun q => q = ar) hx7) (fun _ _ h => h)
          have h42 : s.head? = some 42 := by simpa using ‹_›
          have hO7 := hI5.o.own hI5.rd.blk hx7'
          have hR7 := hR6.xt hx7
          have hA27 := hO7.gv.ptr
          have hnum := number_spec (s := s) (m := 42) (mi := 42) (lo := 1) (hi := 128) hR7 rfl (by omega) hT hE
          cases hNm : numP s 42 1 128 with
          | error e =>
            rw [hNm] at hnum
            repeat' (apply G_on; exact rfl; first | (apply G1_move; exact rfl; exact rfl) | (apply G1_loadB; exact T.p38; exact rfl; assumption; exact rfl; exact rfl))
            apply G_on; exact rfl; apply G1_call (f := 47); exact rfl; exact rfl; exact rfl; exact hnum; intro v w8 hv; refine ⟨.inl rfl, ?_⟩
            obtain ⟨hf8, rfl, hR8⟩ := hv
            have hO8 := hO7.own hR7.blk hf8
            have hstep : stepP z.r ((inp ++ bs).drop z.a) = .fault e := by
              unfold stepP
              rw [if_pos hl0, hL]
              simp only
              rw [if_pos h42, hNm]
            have he := num_err hNm
            rw [run_fault hstep, List.append_nil] at hrun
            have hti := tidy_bad hR8 (by omega)
            have hA2e := (hO8).gv.ptr
            repeat' (first | (apply G_on; exact rfl; first | ((first | apply G1_assign | apply G1_move); exact rfl; exact rfl) | (apply G1_loadB; exact T.p38; exact rfl; assumption; exact rfl; exact rfl) | (apply G1_extract; exact rfl; exact rfl; exact rfl) | (apply G1_not_f; exact rfl; exact rfl)) | apply G_nil | apply Post_next | apply W_seq | apply W_region | (apply W_cond_true; exact rfl) | apply W_exit | apply Post_then_exit | apply Post_block_exit | (apply Post_block_other; exact rfl))
            apply G_on; exact rfl; apply G1_call (f := 49); exact rfl; exact rfl; exact rfl; exact hti; rintro vT wT ⟨hfT, hRT⟩; refine ⟨.inl rfl, ?_⟩
            obtain ⟨hGT, hFA⟩ := feed_fail hR8 hO8 hfT hRT (by omega) ⟨congrArg Res.out hrun, congrArg Res.err hrun⟩
            have hbkT := hRT.blk
            have hA2T := hGT.ptr
            have hA8T := hGT.box
            repeat' (first | (apply G_on; exact rfl; first | ((first | apply G1_assign | apply G1_nilCheck); exact rfl; exact rfl) | (apply G1_loadB; (first | exact T.p38 | exact T.p41 | exact T.p40); exact rfl; assumption; exact rfl; exact rfl) | (apply G1_fieldAddr; exact T.f75_6; exact rfl; exact rfl)) | apply G_nil | apply Post_next | apply W_seq | apply Post_scopeR | refine W_drawn 1 [] [0,1,2,3,4,5,6] mixed (by decide +kernel) ?_ | apply W_ret)
            refine Post_ret Tryd.results26 ⟨_, _, rfl, rfl, _, _, rfl, rfl, rfl⟩ ?_
            exact hFA _ (by repeat first | assumption | exact Ext.rfl' | apply Ext.drew | apply Ext.alloc | refine Ext.trans ?_ (by assumption))
          | ok n =>
            rw [hNm] at hnum
            repeat' (apply G_on; exact rfl; first | (apply G1_move; exact rfl; exact rfl) | (apply G1_loadB; exact T.p38; exact rfl; assumption; exact rfl; exact rfl))
            apply G_on; exact rfl; apply G1_call (f := 47); exact rfl; exact rfl; exact rfl; exact hnum; intro v w8 hv; refine ⟨.inl rfl, ?_⟩
            obtain ⟨hf8, rfl, hR8⟩ := hv
            have hO8 := hO7.own hR7.blk hf8
            have hA28 := hO8.gv.ptr
            have hbk8 := hR8.blk
            have hsz8 := mkStr_size s
            have nA8 := blk_ne hA28 hbk8 (by decide)
            repeat' (first | (apply G_on; exact rfl; first | ((first | apply G1_assign | apply G1_move); exact rfl; exact rfl) | (apply G1_extract; exact rfl; exact rfl; exact rfl) | (apply G1_not_t; exact rfl; exact rfl)) | apply G_nil | apply Post_next | apply W_seq | apply W_region | (apply W_cond_false; exact rfl) | apply W_skip)
            all_goals try (exfalso; omega)
            refine W_drawn 3 [ar] [0,1,2,3,4,5,6,7,8,9,10,11] mixed (by decide +kernel) ?_
            repeat' (apply G_on; exact rfl; first | ((first | apply G1_move | apply G1_nilCheck); exact rfl; exact rfl) | (apply G1_loadBS; exact T.p38; exact rfl; assumption; exact rfl; (first | assumption | (focus (simp [exempt]; omega))); exact rfl) | (apply G1_fieldAddr; exact T.f75_2; exact rfl; exact rfl) | (apply G1_add; exact rfl; exact rfl; omega; omega; exact rfl) | (apply G1_slen; exact T.str9; exact rfl; exact rfl))
            apply G_on; exact rfl; apply G1_storeB; exact T.z3; exact rfl; exact rfl; exact hbk8; exact rfl; exact rfl; (first | exact Nat.le_of_ble_eq_true rfl | (focus (simp [Value.cells]; done))); (first | exact Enc.one _ _ | (focus (simp [Value.oneCell']; done)) | (focus (simp [Value.cells, Value.oneCell']; done)) | exact Enc.oneAgg _ _); exact rfl; (first | exact .inl rfl | exact .inr (by simp [exempt])); exact rfl; intro w9 hA9 hg9 hs9
            repeat' (apply G_on; exact rfl; first | (apply G1_nilCheck; exact rfl; exact rfl) | (apply G1_fieldAddr; exact T.f75_5; exact rfl; exact rfl))
            apply G_on; exact rfl; apply G1_storeB; exact T.z3; exact rfl; exact rfl; exact hA9; exact rfl; exact rfl; (first | exact Nat.le_of_ble_eq_true rfl | (focus (simp [Value.cells]; done))); (first | exact Enc.one _ _ | (focus (simp [Value.oneCell']; done)) | (focus (simp [Value.cells, Value.oneCell']; done)) | exact Enc.oneAgg _ _); exact rfl; (first | exact .inl rfl | exact .inr (by simp [exempt])); exact rfl; intro w10 hA10 hg10 hs10
            repeat' (first | apply G_nil | apply Post_next | apply W_exit | apply Post_then_exit | apply Post_block_exit)
            obtain ⟨hn1, hn2⟩ := num_ok hNm
            have hd8 : Ext w8 w8.drew := Ext.drew Ext.rfl'
            have hg := grown_same hg9 hg10
            replace hA10 : Blk w10.heap ar 75 [.slice p1 (inp ++ bs).length c1, .int .i64 ((z.a + k : Nat) : Int), .int .i64 n, .int .i64 z.r.size, .slice z.pw z.r.words.length z.cw, .int .i64 (((mkStr s).size : Int) + 2), .int .i64 0] := hA10
            have e1 : n = ((n.toNat : Nat) : Int) := by omega
            have e2 : ((mkStr s).size : Int) + 2 = ((k : Nat) : Int) := by omega
            rw [e2, hr0] at hA10
            rw [e1] at hA10
            have hR10 : RdSt w0 w10 ar B p1 c1 (inp ++ bs) (z.a + k) z.pw z.cw ⟨n.toNat, -1, [], k⟩ 0 := (hR8.xt hd8).set hg hA10 (by rw [hr0]; rfl) (by omega)
            have hO10 := hO8.own hR8.blk ((FrS.of_ext (F := fun q => q = ar) hd8).trans (FrS.of_grown (F := fun q => q = ar) hg (fun k hk => by injection hk with hk; exact hk.symm)) (fun _ _ h => h))
            have hstep : stepP z.r ((inp ++ bs).drop z.a) = .go ⟨n.toNat, -1, [], k⟩ k [] := by
              unfold stepP
              rw [if_pos hl0, hL]
              simp only
              rw [if_pos h42, hNm]
            have hgd := step_good hI5.good hstep
            rw [run_go hstep, List.nil_append, List.drop_drop] at hrun
            refine Post_round (⟨z.a + k, ⟨n.toNat, -1, [], k⟩, z.pw, z.cw, z.hs, z.ls, z.pd, z.cd⟩ : FdY) ⟨rfl, rfl, rfl, trivial⟩ ⟨hR10, ⟨hO10.gv, hO10.cm, hO10.fr, hO10.np, hO10.npw, hO10.h8, hO10.h2⟩, hrun, by simp only; omega, hgd.1, by simp only; omega⟩ (by simp only; omega)
        · have hx7' : FrS (fun q => q = ar) w5 w7 := hf6.trans (FrS.of_ext (F := fun q => q = ar) hx7) (fun _ _ h => h)
          have h42 : ¬ s.head? = some 42 := by simpa using ‹¬ _›
          have hspl := split_spec (w := w7) (s := s) (by omega)
          apply G_on; exact rfl; apply G1_call (f := 48); exact rfl; exact rfl; exact rfl; exact hspl; rintro v w8 ⟨ps, cs, rfl, hO8s, hx8⟩; refine ⟨.inl rfl, ?_⟩
          have hx8' : FrS (fun q => q = ar) w5 w8 := hx7'.trans (FrS.of_ext (F := fun q => q = ar) hx8) (fun _ _ h => h)
          have hO7 := hI5.o.own hI5.rd.blk hx7'
          have hO8 := hI5.o.own hI5.rd.blk hx8'
          have hR8 := (hR6.xt hx7).xt hx8
          have hA28 := hO8.gv.ptr
          have hbk8 := hR8.blk
          repeat' (first | (apply G_on; exact rfl; first | ((first | apply G1_assign | apply G1_move | apply G1_nilCheck); exact rfl; exact rfl) | (apply G1_loadB; exact T.p38; exact rfl; assumption; exact rfl; exact rfl) | (apply G1_fieldAddr; exact T.f75_6; exact rfl; exact rfl) | (apply G1_gtr; exact rfl; exact rfl; exact rfl) | (apply G1_len; exact T.s31; exact rfl; exact rfl)) | apply G_nil | apply Post_next | apply W_seq | apply W_region | (apply W_cond_dec; exact rfl; all_goals (intro h; try (exfalso; omega))) | apply W_skip | apply Post_block_normal)
          · apply G_on; exact rfl; apply G1_storeB; exact T.z41; exact rfl; exact rfl; exact hbk8; exact rfl; exact rfl; (first | exact Nat.le_of_ble_eq_true rfl | (focus (simp [Value.cells]; done))); (first | exact Enc.one _ _ | (focus (simp [Value.oneCell']; done)) | (focus (simp [Value.cells, Value.oneCell']; done)) | exact Enc.oneAgg _ _); exact rfl; (first | exact .inl rfl | exact .inr (by simp [exempt])); exact rfl; intro w9 hA9 hg9 hs9
            replace hA9 : Blk w9.heap ar 75 [.slice p1 (inp ++ bs).length c1, .int .i64 ((z.a + k : Nat) : Int), .int .i64 (z.r.left : Int), .int .i64 z.r.size, .slice z.pw z.r.words.length z.cw, .int .i64 (z.r.held : Int), .int .i64 12] := hA9
            have hR9 := hR8.set (r' := z.r) (ft' := 12) hg9 hA9 rfl (by omega)
            have hO9 := hO8.own hR8.blk (FrS.of_grown (F := fun q => q = ar) hg9 (fun k hk => by injection hk with hk; exact hk.symm))
            have hstep : stepP z.r ((inp ++ bs).drop z.a) = .fault 12 := by
              unfold stepP
              rw [if_pos hl0, hL]
              simp only
              rw [if_neg h42, if_pos (by omega)]
            rw [run_fault hstep, List.append_nil] at hrun
            have hA29 := hO9.gv.ptr
            have hti := tidy_bad hR9 (by decide)
            have hA2e := (hO9).gv.ptr
            repeat' (first | (apply G_on; exact rfl; (apply G1_loadB; exact T.p38; exact rfl; assumption; exact rfl; exact rfl)) | apply G_nil | apply Post_next | apply W_seq | apply W_region | apply W_exit | apply Post_then_exit | apply Post_block_exit | (apply Post_block_other; exact rfl))
            apply G_on; exact rfl; apply G1_call (f := 49); exact rfl; exact rfl; exact rfl; exact hti; rintro vT wT ⟨hfT, hRT⟩; refine ⟨.inl rfl, ?_⟩
            obtain ⟨hGT, hFA⟩ := feed_fail hR9 hO9 hfT hRT (by decide) ⟨congrArg Res.out hrun, congrArg Res.err hrun⟩
            have hbkT := hRT.blk
            have hA2T := hGT.ptr
            have hA8T := hGT.box
            repeat' (first | (apply G_on; exact rfl; first | ((first | apply G1_assign | apply G1_nilCheck); exact rfl; exact rfl) | (apply G1_loadB; (first | exact T.p38 | exact T.p41 | exact T.p40); exact rfl; assumption; exact rfl; exact rfl) | (apply G1_fieldAddr; exact T.f75_6; exact rfl; exact rfl)) | apply G_nil | apply Post_next | apply W_seq | apply Post_scopeR | refine W_drawn 1 [] [0,1,2,3,4,5,6] mixed (by decide +kernel) ?_ | apply W_ret)
            refine Post_ret Tryd.results26 ⟨_, _, rfl, rfl, _, _, rfl, rfl, rfl⟩ ?_
            exact hFA _ (by repeat first | assumption | exact Ext.rfl' | apply Ext.drew | apply Ext.alloc | refine Ext.trans ?_ (by assumption))
          · have hgv := give_spec (q := ps) (m := (cutG [] s).length) (d := cs) hR8 hO8.gv (by have := hR.ext.size; have := hO8.h8; omega) hR.ext.size hO8.fr.size (by omega)
            apply G_on; exact rfl; apply G1_callv; exact rfl; exact rfl; exact rfl; exact rfl; exact hgv; rintro v9 w9 ⟨pd', cd', hR9, hG9, hF9, hnd9⟩; refine ⟨(by first | exact .inl rfl | exact .inr (by assumption)), ?_⟩
            have hc0 : cutG [] s ≠ [] := fun e => by have h0 := congrArg List.length e; rw [List.length_nil] at h0; omega
            have hstep : stepP z.r ((inp ++ bs).drop z.a) = .go rs0 k [(cutG [] s).map mkStr] := by
              unfold stepP
              rw [if_pos hl0, hL]
              simp only
              rw [if_neg h42, if_neg (by omega), if_neg hc0]
            have hgd := step_good hI5.good hstep
            rw [run_go hstep, List.drop_drop] at hrun
            have hrs : { z.r with words := [], held := 0 } = rs0 := by rw [hr0]; rfl
            rw [hrs] at hR9
            have hO9 := hO8.give (a' := z.a + k) (r' := rs0) (l := (cutG [] s).map mkStr) hR8 hG9 hF9 hnd9 (by rw [List.length_map]) hO8s
            repeat' (first | apply G_nil | apply Post_block_normal)
            refine Post_round (⟨z.a + k, rs0, none, 0, z.hs ++ [(ps, (cutG [] s).length, cs)], z.ls ++ [(cutG [] s).map mkStr], pd', cd'⟩ : FdY) ⟨rfl, rfl, rfl, trivial⟩ ⟨hR9, hO9, by rw [hrun]; simp, by simp only [rs0]; omega, good0, by simp only [List.length_append, List.length_singleton]; omega⟩ (by simp only; omega)
          · have hc0 : cutG [] s = [] := List.eq_nil_of_length_eq_zero (by omega)
            have hstep : stepP z.r ((inp ++ bs).drop z.a) = .go rs0 k [] := by
              unfold stepP
              rw [if_pos hl0, hL]
              simp only
              rw [if_neg h42, if_neg (by rw [hc0]; decide), if_pos hc0]
            rw [run_go hstep, List.nil_append, List.drop_drop] at hrun
            rw [hr0] at hR8
            refine Post_round (⟨z.a + k, rs0, z.pw, z.cw, z.hs, z.ls, z.pd, z.cd⟩ : FdY) ⟨rfl, rfl, rfl, trivial⟩ ⟨hR8, ⟨hO8.gv, hO8.cm, hO8.fr, hO8.np, hO8.npw, hO8.h8, hO8.h2⟩, hrun, by simp only [rs0]; omega, good0, by simp only; omega⟩ (by simp only; omega)
    · have hwd := word_spec hI5.rd (by omega) hI5.held hI5.good.size.1 hI5.good.size.2 hT hE
      have hwr := word_run (cs := (inp ++ bs).drop z.a) (r := z.r) (by omega)
      have hwh := word_held (cs := (inp ++ bs).drop z.a) (r := z.r)
      cases hW : wordP z.r ((inp ++ bs).drop z.a) with
      | more r' k =>
        rw [hW] at hwd hwr hwh
        repeat' (first | (apply G_on; exact rfl; first | (apply G1_nilCheck; exact rfl; exact rfl) | (apply G1_loadB; (first | exact T.p38 | exact T.p3); exact rfl; assumption; exact rfl; exact rfl) | (apply G1_fieldAddr; exact T.f75_2; exact rfl; exact rfl) | (apply G1_gtr; exact rfl; exact rfl; exact rfl)) | apply G_nil | apply Post_next | apply W_seq | apply W_region | (apply W_cond_dec; exact rfl; all_goals (intro h; try (exfalso; omega))) | apply W_skip | apply W_block)
        all_goals try (exfalso; omega)
        apply G_on; exact rfl; apply G1_call (f := 44); exact rfl; exact rfl; exact rfl; exact hwd; intro v w6 hv; refine ⟨.inl rfl, ?_⟩
        obtain ⟨hf6, rfl, hR6⟩ := hv
        have hO6 := hI5.o.own hI5.rd.blk hf6
        obtain ⟨hk, hrl, hrw, hrr⟩ := hwr
        rw [hrr, List.append_nil, List.drop_drop] at hrun
        have hO6' : FdO w w6 ar a2 a8 p pw p1 ⟨z.a + k, r', z.pw, z.cw, z.hs, z.ls, z.pd, z.cd⟩ := ⟨hO6.gv, hO6.cm, hO6.fr, hO6.np, hO6.npw, hO6.h8, hO6.h2⟩
        have hti := tidy_ok hR6 (show (inp ++ bs).length ≤ 1000000000 by rw [List.length_append]; omega)
        have hA2e := (hO6').gv.ptr
        repeat' (first | (apply G_on; exact rfl; first | ((first | apply G1_assign | apply G1_move); exact rfl; exact rfl) | (apply G1_loadB; exact T.p38; exact rfl; assumption; exact rfl; exact rfl) | (apply G1_extract; exact rfl; exact rfl; exact rfl) | (apply G1_not_f; exact rfl; exact rfl)) | apply G_nil | apply Post_next | apply W_seq | apply W_region | (apply W_cond_true; exact rfl) | apply W_exit | apply Post_then_exit | apply Post_block_exit | (apply Post_block_other; exact rfl))
        apply G_on; exact rfl; apply G1_call (f := 49); exact rfl; exact rfl; exact rfl; exact hti; rintro vT wT ⟨hfT, hRT⟩; refine ⟨.inl rfl, ?_⟩
        obtain ⟨hGT, hFA⟩ := feed_done hR6 hO6' hfT hRT hrun
        have hbkT := hRT.blk
        have hA2T := hGT.ptr
        have hA8T := hGT.box
        repeat' (first | (apply G_on; exact rfl; first | ((first | apply G1_assign | apply G1_nilCheck); exact rfl; exact rfl) | (apply G1_loadB; (first | exact T.p38 | exact T.p41 | exact T.p40); exact rfl; assumption; exact rfl; exact rfl) | (apply G1_fieldAddr; exact T.f75_6; exact rfl; exact rfl)) | apply G_nil | apply Post_next | apply W_seq | apply Post_scopeR | refine W_drawn 1 [] [0,1,2,3,4,5,6] mixed (by decide +kernel) ?_ | apply W_ret)
        refine Post_ret Tryd.results26 ⟨_, _, rfl, rfl, _, _, rfl, rfl, rfl⟩ ?_
        exact hFA _ (by repeat first | assumption | exact Ext.rfl' | apply Ext.drew | apply Ext.alloc | refine Ext.trans ?_ (by assumption))
      | err e =>
        rw [hW] at hwd hwr
        repeat' (first | (apply G_on; exact rfl; first | (apply G1_nilCheck; exact rfl; exact rfl) | (apply G1_loadB; (first | exact T.p38 | exact T.p3); exact rfl; assumption; exact rfl; exact rfl) | (apply G1_fieldAddr; exact T.f75_2; exact rfl; exact rfl) | (apply G1_gtr; exact rfl; exact rfl; exact rfl)) | apply G_nil | apply Post_next | apply W_seq | apply W_region | (apply W_cond_dec; exact rfl; all_goals (intro h; try (exfalso; omega))) | apply W_skip | apply W_block)
        all_goals try (exfalso; omega)
        apply G_on; exact rfl; apply G1_call (f := 44); exact rfl; exact rfl; exact rfl; exact hwd; intro v w6 hv; refine ⟨.inl rfl, ?_⟩
        obtain ⟨hf6, rfl, a', r', hR6⟩ := hv
        have hO6 := hI5.o.own hI5.rd.blk hf6
        have he := word_err hW
        have hX : (runP r (inp ++ bs)).out = z.ls ∧ (runP r (inp ++ bs)).err = e := by
          rw [hrun]
          exact ⟨by simp only; rw [hwr.1, List.append_nil], hwr.2⟩
        have hti := tidy_bad hR6 (by omega)
        have hA2e := (hO6).gv.ptr
        repeat' (first | (apply G_on; exact rfl; first | ((first | apply G1_assign | apply G1_move); exact rfl; exact rfl) | (apply G1_loadB; exact T.p38; exact rfl; assumption; exact rfl; exact rfl) | (apply G1_extract; exact rfl; exact rfl; exact rfl) | (apply G1_not_f; exact rfl; exact rfl)) | apply G_nil | apply Post_next | apply W_seq | apply W_region | (apply W_cond_true; exact rfl) | apply W_exit | apply Post_then_exit | apply Post_block_exit | (apply Post_block_other; exact rfl))
        apply G_on; exact rfl; apply G1_call (f := 49); exact rfl; exact rfl; exact rfl; exact hti; rintro vT wT ⟨hfT, hRT⟩; refine ⟨.inl rfl, ?_⟩
        obtain ⟨hGT, hFA⟩ := feed_fail hR6 hO6 hfT hRT (by omega) hX
        have hbkT := hRT.blk
        have hA2T := hGT.ptr
        have hA8T := hGT.box
        repeat' (first | (apply G_on; exact rfl; first | ((first | apply G1_assign | apply G1_nilCheck); exact rfl; exact rfl) | (apply G1_loadB; (first | exact T.p38 | exact T.p41 | exact T.p40); exact rfl; assumption; exact rfl; exact rfl) | (apply G1_fieldAddr; exact T.f75_6; exact rfl; exact rfl)) | apply G_nil | apply Post_next | apply W_seq | apply Post_scopeR | refine W_drawn 1 [] [0,1,2,3,4,5,6] mixed (by decide +kernel) ?_ | apply W_ret)
        refine Post_ret Tryd.results26 ⟨_, _, rfl, rfl, _, _, rfl, rfl, rfl⟩ ?_
        exact hFA _ (by repeat first | assumption | exact Ext.rfl' | apply Ext.drew | apply Ext.alloc | refine Ext.trans ?_ (by assumption))
      | ok s hh k =>
        rw [hW] at hwd hwr hwh
        repeat' (first | (apply G_on; exact rfl; first | (apply G1_nilCheck; exact rfl; exact rfl) | (apply G1_loadB; (first | exact T.p38 | exact T.p3); exact rfl; assumption; exact rfl; exact rfl) | (apply G1_fieldAddr; exact T.f75_2; exact rfl; exact rfl) | (apply G1_gtr; exact rfl; exact rfl; exact rfl)) | apply G_nil | apply Post_next | apply W_seq | apply W_region | (apply W_cond_dec; exact rfl; all_goals (intro h; try (exfalso; omega))) | apply W_skip | apply W_block)
        all_goals try (exfalso; omega)
        apply G_on; exact rfl; apply G1_call (f := 44); exact rfl; exact rfl; exact rfl; exact hwd; intro v w6 hv; refine ⟨.inl rfl, ?_⟩
        obtain ⟨hf6, rfl, hR6⟩ := hv
        have hO6 := hI5.o.own hI5.rd.blk hf6
        obtain ⟨hk, hk0, hrr⟩ := hwr
        have hA26 := hO6.gv.ptr
        have hbk6 := hR6.blk
        simp only at hbk6 hwh
        have hO6w := hR6.wds
        simp only at hO6w
        have hwl := hI5.good.words
        repeat' (first | (refine W_cutR (id := 13) [(2, .pointer (some (adr (bx a2) 0))), (8, .pointer (some (adr (bx a8) 0))), (9, .func (.func 43) #[] #[.pointer (some (adr (bx a8) 0)), .pointer (some (adr (bx a2) 0))])] (fun w' => ∃ p8 c8, RdSt w0 w' ar B p1 c1 (inp ++ bs) (z.a + k) p8 c8 ⟨z.r.left, -1, z.r.words ++ [mkStr s], hh⟩ 0 ∧ FdO w w' ar a2 a8 p pw p1 ⟨z.a + k, ⟨z.r.left, -1, z.r.words ++ [mkStr s], hh⟩, p8, c8, z.hs, z.ls, z.pd, z.cd⟩) ?_ ?_) | (apply G_on; exact rfl; first | ((first | apply G1_assign | apply G1_move); exact rfl; exact rfl) | (apply G1_extract; exact rfl; exact rfl; exact rfl) | (apply G1_not_t; exact rfl; exact rfl)) | apply G_nil | apply Post_next | apply W_seq | apply W_region | (apply W_cond_false; exact rfl) | apply W_skip)
        · refine W_drawnT 1 [] (.node [5] (.alt 0 (.node [] (.alt 1 (.leaf [2,3,4,6,7,8,9,10]) (.alt 6 (.node [] (.alt 1 (.leaf [2,3,4,7,8,9,10]) .stop)) .stop))) (.alt 1 (.node [2,3,4] (.alt 0 (.leaf [6,7,8,9,10]) (.alt 6 (.node [] (.alt 0 (.leaf [7,8,9,10]) (.alt 7 (.leaf [0,8,9,10]) .stop))) .stop))) (.alt 6 (.node [] (.alt 0 (.node [] (.alt 1 (.leaf [2,3,4,7,8,9,10]) .stop)) (.alt 1 (.node [2,3,4] (.alt 0 (.leaf [7,8,9,10]) (.alt 7 (.leaf [0,8,9,10]) .stop))) .stop))) .stop)))) mixed (by decide +kernel) ?_
          repeat' (first | (apply G_on; exact rfl; first | ((first | apply G1_move | apply G1_nilCheck); exact rfl; exact rfl) | (apply G1_loadB; (first | exact T.p38 | exact T.p31); exact rfl; assumption; exact rfl; exact rfl) | (apply G1_fieldAddr; exact T.f75_4; exact rfl; exact rfl)) | apply G_nil | (refine GT_leaf ?_) | (refine GT_node ?_) | (apply GT_alt) | (exact GT_stop))
          all_goals
            apply G_on; exact rfl
            apply G1_build1 eStr (mkStr s); exact T.s31; exact rfl; exact rfl; exact rfl; decide; exact rfl; exact rfl
            intro p7 w7 hp7 hs7 _ hx7 hz7
            have hx67 : Ext w6 w7 := (by repeat first | assumption | exact Ext.rfl' | apply Ext.drew | apply Ext.alloc | refine Ext.trans ?_ (by assumption))
            have hA27 := hA26.ext hx67
            have hbk7 := hbk6.ext hx67
            have hB7 := Nat.le_trans hR6.hB hx67.size
            have nA2 := (hO6w.ext hx67).apartB hA27 (by decide)
            have nAr := (hO6w.ext hx67).apartB hbk7 (by decide)
            repeat' (first | (apply G_on; exact rfl; first | (apply G1_nilCheck; exact rfl; exact rfl) | (apply G1_appendA; exact T.s31; exact rfl; exact rfl; exact hO6w.ext hx67; exact hs7; exact rfl; exact hB7; (simp only [List.length_cons, List.length_nil]; omega); (simp only [List.length_cons, List.length_nil]; omega); exact rfl; exact rfl; exact rfl; intro p8 c8 w8 ha8; have hA28 := hA27.grown ha8.grown nA2; have hbk8 := hbk7.grown ha8.grown nAr) | (apply G1_loadB; (first | exact T.p38 | exact T.p31); exact rfl; assumption; exact rfl; exact rfl) | (apply G1_fieldAddr; exact T.f75_4; exact rfl; exact rfl)) | apply G_nil | (refine GT_leaf ?_) | (refine GT_node ?_) | (apply GT_alt) | (exact GT_stop))
          all_goals
            apply G_on; exact rfl; apply G1_storeB; exact T.z31; exact rfl; exact rfl; exact hbk8; exact rfl; exact rfl; (first | exact Nat.le_of_ble_eq_true rfl | (focus (simp [Value.cells]; done))); (first | exact Enc.one _ _ | (focus (simp [Value.oneCell']; done)) | (focus (simp [Value.cells, Value.oneCell']; done)) | exact Enc.oneAgg _ _); exact rfl; (first | exact .inl rfl | exact .inr (by simp [exempt])); exact rfl; intro w9 hA9 hg9 hs9
            replace hA9 : Blk w9.heap ar 75 [.slice p1 (inp ++ bs).length c1, .int .i64 ((z.a + k : Nat) : Int), .int .i64 (z.r.left : Int), .int .i64 (-1), .slice p8 (z.r.words ++ [mkStr s]).length c8, .int .i64 (hh : Int), .int .i64 0] := hA9
            have hRO := feed_word hI5.rd hI5.o hf6 hR6 hO6 hx67 ha8 hg9 hA9
            repeat' (first | apply G_nil | (refine Post_cut ⟨rfl, rfl, rfl, trivial⟩ ⟨p8, c8, hRO⟩))
        rintro w9 ⟨p8, c8, hR9, hO9⟩
        have hA29 := hO9.gv.ptr
        have hbk9 := hR9.blk
        simp only at hbk9
        repeat' (first | (apply G_on; exact rfl; first | (apply G1_nilCheck; exact rfl; exact rfl) | (apply G1_loadB; (first | exact T.p38 | exact T.p3); exact rfl; assumption; exact rfl; exact rfl) | (apply G1_fieldAddr; exact T.f75_2; exact rfl; exact rfl) | (apply G1_sub; exact rfl; exact rfl; omega; omega; exact rfl)) | apply W_seq | apply W_region)
        apply G_on; exact rfl; apply G1_storeB; exact T.z3; exact rfl; exact rfl; exact hbk9; exact rfl; exact rfl; (first | exact Nat.le_of_ble_eq_true rfl | (focus (simp [Value.cells]; done))); (first | exact Enc.one _ _ | (focus (simp [Value.oneCell']; done)) | (focus (simp [Value.cells, Value.oneCell']; done)) | exact Enc.oneAgg _ _); exact rfl; (first | exact .inl rfl | exact .inr (by simp [exempt])); exact rfl; intro w10 hA10 hg10 hs10
        replace hA10 : Blk w10.heap ar 75 [.slice p1 (inp ++ bs).length c1, .int .i64 ((z.a + k : Nat) : Int), .int .i64 ((z.r.left : Int) - 1), .int .i64 (-1), .slice p8 (z.r.words ++ [mkStr s]).length c8, .int .i64 (hh : Int), .int .i64 0] := hA10
        rw [show (z.r.left : Int) - 1 = ((z.r.left - 1 : Nat) : Int) by omega] at hA10
        have hR10 : RdSt w0 w10 ar B p1 c1 (inp ++ bs) (z.a + k) p8 c8 ⟨z.r.left - 1, -1, z.r.words ++ [mkStr s], hh⟩ 0 := hR9.set hg10 hA10 rfl (by omega)
        have hO10 := hO9.own hR9.blk (FrS.of_grown (F := fun q => q = ar) hg10 (fun k hk => by injection hk with hk; exact hk.symm))
        have hA210 := hO10.gv.ptr
        clear hbk9
        by_cases hl1 : z.r.left = 1
        · rw [if_pos hl1] at hrr
          have hl1' : ((z.r.left - 1 : Nat) : Int) = 0 := by omega
          repeat' (first | (apply G_on; exact rfl; first | ((first | apply G1_move | apply G1_nilCheck); exact rfl; exact rfl) | (apply G1_loadB; (first | exact T.p38 | exact T.p3 | exact T.p31); exact rfl; assumption; exact rfl; exact rfl) | (apply G1_fieldAddr; (first | exact T.f75_2 | exact T.f75_4); exact rfl; exact rfl) | (apply G1_eql; exact rfl; exact rfl; exact rfl)) | apply G_nil | apply Post_next | apply W_seq | apply W_region | (apply W_cond_dec; exact rfl; all_goals (intro h; try (exfalso; omega))))
          all_goals try (exfalso; omega)
          have hgv := give_spec (q := p8) (m := (z.r.words ++ [mkStr s]).length) (d := c8) hR10 hO10.gv (by have := hR.ext.size; have := hO10.h8; omega) hR.ext.size hO10.fr.size (by simp only; omega)
          apply G_on; exact rfl; apply G1_callv; exact rfl; exact rfl; exact rfl; exact rfl; exact hgv; rintro v11 w11 ⟨pd', cd', hR11, hG11, hF11, hnd11⟩; refine ⟨(by first | exact .inl rfl | exact .inr (by assumption)), ?_⟩
          have hrs : (⟨z.r.left - 1, -1, [], 0⟩ : RS) = rs0 := by rw [hl1]; rfl
          simp only at hR11 hG11 hF11 hnd11
          rw [hrs] at hR11
          have hO11 := hO10.give (a' := z.a + k) (r' := rs0) (l := z.r.words ++ [mkStr s]) hR10 hG11 hF11 hnd11 rfl hR10.wds
          rw [hrr, List.drop_drop] at hrun
          repeat' (first | apply G_nil | apply Post_next | apply W_exit | apply Post_then_exit | apply Post_block_exit | (apply Post_block_other; exact rfl))
          refine Post_round (⟨z.a + k, rs0, none, 0, z.hs ++ [(p8, (z.r.words ++ [mkStr s]).length, c8)], z.ls ++ [z.r.words ++ [mkStr s]], pd', cd'⟩ : FdY) ⟨rfl, rfl, rfl, trivial⟩ ⟨hR11, hO11, by rw [hrun]; simp, by simp only [rs0]; omega, good0, by simp only [List.length_append, List.length_singleton]; omega⟩ (by simp only; omega)
        · rw [if_neg hl1, List.drop_drop] at hrr
          rw [hrr] at hrun
          have hl1' : ¬ ((z.r.left - 1 : Nat) : Int) = 0 := by omega
          repeat' (first | (apply G_on; exact rfl; first | (apply G1_nilCheck; exact rfl; exact rfl) | (apply G1_loadB; (first | exact T.p38 | exact T.p3); exact rfl; assumption; exact rfl; exact rfl) | (apply G1_fieldAddr; exact T.f75_2; exact rfl; exact rfl) | (apply G1_eql; exact rfl; exact rfl; exact rfl)) | apply G_nil | apply Post_next | apply W_seq | apply W_region | (apply W_cond_dec; exact rfl; all_goals (intro h; try (exfalso; omega))) | apply W_skip | apply Post_block_normal)
          all_goals try (exfalso; omega)
          have hheld := hI5.held
          refine Post_round (⟨z.a + k, ⟨z.r.left - 1, -1, z.r.words ++ [mkStr s], hh⟩, p8, c8, z.hs, z.ls, z.pd, z.cd⟩ : FdY) ⟨rfl, rfl, rfl, trivial⟩ ⟨⟨hR10, ⟨hO10.gv, hO10.cm, hO10.fr, hO10.np, hO10.npw, hO10.h8, hO10.h2⟩, hrun, by simp only; omega, ⟨⟨by simp only; omega, by simp only; omega⟩, by simp only [List.length_append, List.length_singleton]; omega, fun e => by simp only at e; omega⟩, by simp only; omega⟩, by simp only; omega⟩ (by simp only; omega)
end Go.Proofs.YtikjnmpijflnaaaDoor

/- Requests: what a printed command is, and that a reader takes it back; in plain Lean. -/
namespace Go.Proofs.YtikjnmpijflnaaaDoor
open Go.V
attribute [local irreducible] Blk Own hcell IntT SliceT PlainT AggT SizeT StrT FieldT ZeroT EqT ArrT
def dec (n : Nat) : List UInt8 := Lib.itoa (n : Int)
theorem dec_eq (n : Nat) : dec n = Lib.decDigits n := by
  unfold dec Lib.itoa
  rw [if_neg (by omega), Int.toNat_natCast]
theorem dec_ne10 {n : Nat} : ∀ c ∈ dec n, c ≠ 10 := by
  intro c hc e
  rw [dec_eq] at hc
  have := dec_ge n c hc
  rw [e] at this
  simp at this
theorem dec_len {n : Nat} (h : n ≤ 1000000000) : (dec n).length ≤ 20 := by
  have := itoa_size (n := (n : Int)) (by unfold fit64; omega)
  rw [size_list, itoaB_list] at this
  exact this
theorem dec_num {n : Nat} (h : n ≤ 1000000000) : numOf (dec n) = some (n : Int) := num_itoa (by unfold fit64; omega)
theorem nlAt_app10 : ∀ {s : List UInt8} (m : List UInt8), (∀ c ∈ s, c ≠ 10) → nlAt (s ++ 10 :: m) = s.length
  | [], m, _ => by simp [nlAt]
  | b :: s, m, h => by
    rw [List.cons_append]
    unfold nlAt
    rw [if_neg (h b (by simp)), nlAt_app10 m (fun c hc => h c (by simp [hc])), List.length_cons]
/-- a line that is short enough, and what is behind it -/
theorem line_of {s : List UInt8} (m : List UInt8) (h : ∀ c ∈ s, c ≠ 10) (hl : s.length ≤ 1024) : lineP (s ++ 13 :: 10 :: m) = .ok s (s.length + 2) := by
  have e1 : s ++ 13 :: 10 :: m = (s ++ [13]) ++ 10 :: m := by simp
  have e2 : nlAt (s ++ 13 :: 10 :: m) = s.length + 1 := by
    rw [e1, nlAt_app10 m (fun c hc => by
      rcases List.mem_append.1 hc with hc | hc
      · exact h c hc
      · rw [List.mem_singleton.1 hc]; decide)]
    simp
  unfold lineP
  rw [e2, if_pos ⟨by simp, by omega⟩]
  have e3 : (s ++ 13 :: 10 :: m).getD (s.length + 1 - 1) 0 = 13 := by
    rw [List.getD_eq_getElem?_getD, Nat.add_sub_cancel, List.getElem?_append_right (Nat.le_refl _), Nat.sub_self]
    rfl
  rw [e3, if_neg (by simp), Nat.add_sub_cancel, List.take_left' rfl]
theorem step_star {n : Nat} (m : List UInt8) (h1 : 1 ≤ n) (h2 : n ≤ 128) : stepP rs0 ((42 :: dec n) ++ 13 :: 10 :: m) = .go ⟨n, -1, [], (dec n).length + 3⟩ ((dec n).length + 3) [] := by
  have hd := dec_len (n := n) (by omega)
  have hl := line_of m (s := 42 :: dec n) (fun c hc => by
    rcases List.mem_cons.1 hc with hc | hc
    · rw [hc]; decide
    · exact dec_ne10 c hc) (by rw [List.length_cons]; omega)
  unfold stepP
  rw [if_pos (show rs0.left = 0 from rfl), hl]
  simp only
  rw [if_pos (show (42 :: dec n).head? = some 42 from rfl)]
  have e : numP (42 :: dec n) 42 1 128 = .ok (n : Int) := by
    unfold numP
    simp only
    rw [if_pos trivial, dec_num (by omega)]
    simp only
    rw [if_neg (by omega), if_neg (by omega)]
  rw [e]
  simp only [List.length_cons, Int.toNat_natCast]
theorem step_dollar {r : RS} {n : Nat} (m : List UInt8) (hr : 0 < r.left) (hz : r.size < 0) (h2 : n ≤ 4096) : stepP r ((36 :: dec n) ++ 13 :: 10 :: m) = .go { r with size := (n : Int), held := r.held + ((dec n).length + 3) } ((dec n).length + 3) [] := by
  have hd := dec_len (n := n) (by omega)
  have hl := line_of m (s := 36 :: dec n) (fun c hc => by
    rcases List.mem_cons.1 hc with hc | hc
    · rw [hc]; decide
    · exact dec_ne10 c hc) (by rw [List.length_cons]; omega)
  unfold stepP
  rw [if_neg (by omega), if_pos hz, hl]
  simp only
  have e : numP (36 :: dec n) 36 0 4096 = .ok (n : Int) := by
    unfold numP
    simp only
    rw [if_pos trivial, dec_num (by omega)]
    simp only
    rw [if_neg (by omega), if_neg (by omega)]
  rw [e]
  simp only [List.length_cons]
theorem step_word {r : RS} {s : List UInt8} (m : List UInt8) (hr : 0 < r.left) (hz : r.size = (s.length : Int)) : stepP r (s ++ 13 :: 10 :: m) = if r.left = 1 then .go rs0 (s.length + 2) [r.words ++ [mkStr s]] else .go ⟨r.left - 1, -1, r.words ++ [mkStr s], r.held + (s.length + 2)⟩ (s.length + 2) [] := by
  have hn : r.size.toNat = s.length := by rw [hz, Int.toNat_natCast]
  unfold stepP
  rw [if_neg (by omega), if_neg (by omega), hn, if_neg (by simp), List.drop_left' rfl, if_pos (show List.take 2 (13 :: 10 :: m) = [13, 10] from rfl), List.take_left' rfl]
def bytesOf (w : ByteArray) : List UInt8 := w.data.toList
theorem mk_bytes (w : ByteArray) : mkStr (bytesOf w) = w := by
  unfold mkStr bytesOf
  simp
theorem bytes_len (w : ByteArray) : (bytesOf w).length = w.size := by
  unfold bytesOf
  rw [Array.length_toList]; rfl
/-- a word, and a command, as they are printed -/
def prW (w : ByteArray) : List UInt8 := (36 :: dec w.size) ++ 13 :: 10 :: (bytesOf w ++ [13, 10])
def prHead (n : Nat) : List UInt8 := (42 :: dec n) ++ [13, 10]
def prB (l : List ByteArray) : List UInt8 := prHead l.length ++ l.flatMap prW
structure PrOk (l : List ByteArray) : Prop where
  pos : l ≠ []
  len : l.length ≤ 128
  words : ∀ w ∈ l, w.size ≤ 4096
open Classical in
noncomputable def prC (l : List ByteArray) : List UInt8 := if PrOk l then prB l else []
theorem run_word {n : Nat} {ws : List ByteArray} {h : Nat} {w : ByteArray} (m : List UInt8) (hw : w.size ≤ 4096) :
    ∃ h', runP ⟨n + 1, -1, ws, h⟩ (prW w ++ m) = if n = 0 then { runP rs0 m with out := (ws ++ [w]) :: (runP rs0 m).out } else runP ⟨n, -1, ws ++ [w], h'⟩ m := by
  have e1 : prW w ++ m = (36 :: dec w.size) ++ 13 :: 10 :: (bytesOf w ++ 13 :: 10 :: m) := by unfold prW; simp
  have s1 := step_dollar (r := ⟨n + 1, -1, ws, h⟩) (n := w.size) (bytesOf w ++ 13 :: 10 :: m) (by simp) (by simp) hw
  have s2 := step_word (r := ⟨n + 1, (w.size : Int), ws, h + ((dec w.size).length + 3)⟩) (s := bytesOf w) m (by simp) (by rw [bytes_len])
  have d1 : ((36 :: dec w.size) ++ 13 :: 10 :: (bytesOf w ++ 13 :: 10 :: m)).drop ((dec w.size).length + 3) = bytesOf w ++ 13 :: 10 :: m := by
    rw [show (36 :: dec w.size) ++ 13 :: 10 :: (bytesOf w ++ 13 :: 10 :: m) = ((36 :: dec w.size) ++ [13, 10]) ++ (bytesOf w ++ 13 :: 10 :: m) by simp]
    exact List.drop_left' (by simp)
  have d2 : (bytesOf w ++ 13 :: 10 :: m).drop ((bytesOf w).length + 2) = m := by
    rw [show bytesOf w ++ 13 :: 10 :: m = (bytesOf w ++ [13, 10]) ++ m by simp]
    exact List.drop_left' (by simp)
  rw [e1, run_go s1, d1, List.nil_append]
  simp only
  rw [mk_bytes] at s2
  by_cases hn : n = 0
  · subst hn
    refine ⟨0, ?_⟩
    rw [if_pos rfl] at s2 ⊢
    rw [run_go s2, d2]
    rfl
  · refine ⟨h + ((dec w.size).length + 3) + ((bytesOf w).length + 2), ?_⟩
    rw [if_neg (by simp only; omega)] at s2
    rw [if_neg hn, run_go s2, d2]
    rfl
theorem run_words : ∀ (l : List ByteArray) (ws : List ByteArray) (h : Nat) (m : List UInt8), l ≠ [] → (∀ w ∈ l, w.size ≤ 4096) → runP ⟨l.length, -1, ws, h⟩ (l.flatMap prW ++ m) = { runP rs0 m with out := (ws ++ l) :: (runP rs0 m).out }
  | [], _, _, _, h, _ => absurd rfl h
  | w :: l, ws, h, m, _, hw => by
    rw [List.flatMap_cons, List.append_assoc, List.length_cons]
    obtain ⟨h', e⟩ := run_word (n := l.length) (ws := ws) (h := h) (l.flatMap prW ++ m) (hw w (by simp))
    rw [e]
    by_cases hl : l.length = 0
    · obtain rfl : l = [] := List.eq_nil_of_length_eq_zero hl
      rw [if_pos (show ([] : List ByteArray).length = 0 from rfl)]
      rfl
    · rw [if_neg hl, run_words l (ws ++ [w]) h' m (fun e => hl (by rw [e]; rfl)) (fun x hx => hw x (by simp [hx]))]
      simp
/-- a printed command is taken back -/
theorem run_print {l : List ByteArray} (m : List UInt8) (h : PrOk l) : runP rs0 (prB l ++ m) = { runP rs0 m with out := l :: (runP rs0 m).out } := by
  have hl : 0 < l.length := List.length_pos_iff.2 h.pos
  have s1 := step_star (n := l.length) (l.flatMap prW ++ m) hl h.len
  have e1 : prB l ++ m = (42 :: dec l.length) ++ 13 :: 10 :: (l.flatMap prW ++ m) := by unfold prB prHead; simp
  have d1 : ((42 :: dec l.length) ++ 13 :: 10 :: (l.flatMap prW ++ m)).drop ((dec l.length).length + 3) = l.flatMap prW ++ m := by
    rw [show (42 :: dec l.length) ++ 13 :: 10 :: (l.flatMap prW ++ m) = ((42 :: dec l.length) ++ [13, 10]) ++ (l.flatMap prW ++ m) by simp]
    exact List.drop_left' (by simp)
  rw [e1, run_go s1, d1, run_words l [] _ m h.pos h.words]
  rfl
theorem run_nil : runP rs0 [] = ⟨[], rs0, [], 0⟩ := by
  refine run_stop ?_
  unfold stepP
  rw [if_pos (show rs0.left = 0 from rfl)]
  rfl
theorem pr_len {l : List ByteArray} (hl : l.length ≤ 200) (hw : ∀ w ∈ l, w.size ≤ 5000) : (prB l).length ≤ 30 + l.length * 6000 := by
  have key : ∀ l : List ByteArray, (∀ w ∈ l, w.size ≤ 5000) → (l.flatMap prW).length ≤ l.length * 6000 := by
    intro l
    induction l with
    | nil => intro _; simp
    | cons w l ih =>
      intro h
      have h1 := ih (fun x hx => h x (by simp [hx]))
      have h2 := h w (by simp)
      have h3 := dec_len (n := w.size) (by omega)
      rw [List.flatMap_cons, List.length_append, List.length_cons]
      have h4 : (prW w).length = (dec w.size).length + 5 + w.size := by unfold prW; simp [bytes_len]; omega
      omega
  have h1 := key l hw
  have h2 := dec_len (n := l.length) (by omega)
  unfold prB prHead
  simp only [List.length_append, List.length_cons, List.length_nil]
  omega
end Go.Proofs.YtikjnmpijflnaaaDoor

/- Requests: Print; the walks. -/
namespace Go.Proofs.YtikjnmpijflnaaaDoor
open Go.V
attribute [local irreducible] Blk Own hcell IntT SliceT PlainT AggT SizeT StrT FieldT ZeroT EqT ArrT
section
variable {P : Program} {n : Nat} {ops : Array Oper} {dr : Nat × List Nat} {l : List Oper} {E : Env} {w : World} {K : Env → World → Prop}
variable {d : Option Nat} {ty : TypeId} {pos : String} {af : Array Edge} {g : Option (Nat × Bool)} {x y : Operand} {t t' : TypeId} {s u : ByteArray}
theorem G1_saddL {a b : List UInt8} (hx : E.look x = some (.string s)) (hy : E.look y = some (.string u)) (ha : s = mkStr a) (hb : u = mkStr b) (hl : a.length + b.length ≤ 9223372036854775807) (hd : dstOk n d = true) (h : G P n ops dr l (E.put d (.string (mkStr (a ++ b)))) w K) : G1 P n ops dr ⟨d, .binOp .add t x y t', ty, pos, af, g⟩ l E w K := by
  subst ha hb
  exact G1_sadd hx hy (by rw [size_list, size_list]; simpa [mkStr] using hl) hd (by rw [mkStr_app]; exact h)
end
/-- bytes that are being written, in a box -/
structure PrSt (w0 w : World) (B a : Nat) (p : Option Addr) (c : Nat) (bs : List UInt8) : Prop where
  ext : Ext w0 w
  box : Blk w.heap a 28 [.slice p bs.length c]
  own : Own w B 5 eByte p c bs
  h0 : w0.heap.size ≤ a
  h1 : a < B
  hB : B ≤ w.heap.size
theorem PrSt.xt {w0 w w' : World} {B a c : Nat} {p : Option Addr} {bs : List UInt8} (h : PrSt w0 w B a p c bs) (hx : Ext w w') : PrSt w0 w' B a p c bs :=
  ⟨h.ext.trans hx, h.box.ext hx, h.own.ext hx, h.h0, h.h1, Nat.le_trans h.hB hx.size⟩
theorem PrSt.bx {w0 w w1 : World} {B a c c' : Nat} {p p' : Option Addr} {bs bs' : List UInt8} (h : PrSt w0 w B a p c bs) (ha : App w w1 B 5 eByte p p' c' bs') : Blk w1.heap a 28 [.slice p bs.length c] :=
  h.box.grown ha.grown (fun e => by have := (h.own.ge a e).1; have := h.h1; omega)
theorem PrSt.app {w0 w w1 w2 : World} {B a c c' : Nat} {p p' : Option Addr} {bs bs' : List UInt8} (h : PrSt w0 w B a p c bs) (ha : App w w1 B 5 eByte p p' c' bs') (hb : Blk w2.heap a 28 [.slice p' bs'.length c']) (hg : w1.grownBy w2 (some a)) : PrSt w0 w2 B a p' c' bs' := by
  have hge := h.own.ge
  have hge1 := ha.own.ge
  have h0 := h.h0
  have h1 := h.h1
  have e1 : Ext w0 w1 := h.ext.app ha (fun k hk => by have := (hge k hk).1; omega)
  exact ⟨e1.own hg (fun k hk => by injection hk with hk; omega), hb, ha.own.kept hg (fun a' ha' e => by injection e with e; have := (hge1 a'.block (by rw [ha']; rfl)).1; omega), h0, h1, Nat.le_trans ha.base hg.size⟩

def crlfB : ByteArray := ⟨#[13, 10]⟩
theorem prLine_spec {w0 w : World} {B a c : Nat} {p : Option Addr} {bs : List UInt8} {m : UInt8} {mi : Int} {n : Nat} (hm : mi = (m.toNat : Int)) (h : PrSt w0 w B a p c bs) (hl : bs.length ≤ 1000000000) (hn : n ≤ 1000000000) (hT : Pow w0) :
    Ctr Tryd.prog 55 [.int .u8 mi, .int .i64 (n : Int), .pointer (some (adr (bx a) 0))] w (fun v w' => v = .tuple #[] ∧ ∃ p' c', PrSt w0 w' B a p' c' (bs ++ ((m :: dec n) ++ [13, 10]))) := by
  subst hm
  have hdl := dec_len (n := n) hn
  have hss : (itoaB (n : Int)).size = (dec n).length := by rw [itoaS]; rfl
  have hsl : (itoaB (n : Int)).data.toList = dec n := itoaL _
  refine Ctr_of Tryd.func55 Tryd.ntmps55 rfl rfl rfl ?_
  have hb := h.box
  repeat' (first | (apply G_on; exact rfl; first | (apply G1_move; exact rfl; exact rfl) | (apply G1_loadB; exact T.p28; exact rfl; assumption; exact rfl; exact rfl)) | apply W_seq | apply W_region)
  apply G_on; exact rfl
  apply G1_build1 eByte m; exact T.s28; exact rfl; exact rfl; exact rfl; decide; exact rfl; exact rfl
  intro p1 w1 hp1 hs1 _ hx1 hz1
  have h1 := h.xt hx1
  have hb := h1.box
  have hO := h1.own
  have hBB := h1.hB
  repeat' (apply G_on; exact rfl; (apply G1_appendA; exact T.s28; exact rfl; exact rfl; exact hO; exact hs1; exact rfl; omega; (simp only [List.length_cons, List.length_nil]; omega); (simp only [List.length_cons, List.length_nil]; omega); exact rfl; exact rfl; exact rfl; intro p2 c2 w2 ha2))
  have hb3 := (h1).bx ha2
  apply G_on; exact rfl; apply G1_storeB; exact T.z28; exact rfl; exact rfl; exact hb3; exact rfl; exact rfl; (first | exact Nat.le_of_ble_eq_true rfl | (focus (simp [Value.cells]; done))); (first | exact Enc.one _ _ | (focus (simp [Value.oneCell']; done)) | (focus (simp [Value.cells, Value.oneCell']; done)) | exact Enc.oneAgg _ _); exact rfl; (first | exact .inl rfl | exact .inr (by simp [exempt])); exact rfl; intro w3 hc3 hg3 hs3
  replace hc3 : Blk w3.heap a 28 [.slice _ _ _] := hc3
  have h3 := (h1).app ha2 hc3 hg3
  have hb := h3.box
  have hO := h3.own
  have hBB := h3.hB
  have hprt := fun w' (hx : Ext w3 w') => print_spec (n := (n : Int)) (w := w') (by omega) (by omega) (TabIs.ext hT (h3.ext.trans hx))
  have hx3 : Ext w3 w3.drew := Ext.drew Ext.rfl'
  repeat' (first | (apply G_on; exact rfl; first | (apply G1_move; exact rfl; exact rfl) | (apply G1_call (f := 40); exact rfl; exact rfl; exact rfl; exact hprt _ (by repeat first | assumption | exact Ext.rfl' | apply Ext.drew | apply Ext.alloc | refine Ext.trans ?_ (by assumption)); rintro _ w4 ⟨rfl, hx4⟩; refine ⟨(by first | exact .inl rfl | exact .inr (by assumption)), ?_⟩) | (apply G1_loadB; exact T.p28; exact rfl; assumption; exact rfl; exact rfl)) | apply G_nil | apply Post_next | apply W_seq | refine W_drawn 1 [] [0,1,2,3,4] mixed (by decide +kernel) ?_)
  have hx34 : Ext w3 w4 := (by repeat first | assumption | exact Ext.rfl' | apply Ext.drew | apply Ext.alloc | refine Ext.trans ?_ (by assumption))
  have h4 := h3.xt hx34
  have hb := h4.box
  have hO := h4.own
  have hBB := h4.hB
  repeat' (apply G_on; exact rfl; (apply G1_appendStr; exact T.s28; exact T.str9; exact rfl; exact rfl; exact hO; exact hBB; (simp only [List.length_append, List.length_cons, List.length_nil]; omega); (simp only [List.length_append, List.length_cons, List.length_nil]; omega); exact rfl; exact rfl; exact rfl; intro p5 c5 w5 ha5))
  have hb6 := (h4).bx ha5
  apply G_on; exact rfl; apply G1_storeB; exact T.z28; exact rfl; exact rfl; exact hb6; exact rfl; exact rfl; (first | exact Nat.le_of_ble_eq_true rfl | (focus (simp [Value.cells]; done))); (first | exact Enc.one _ _ | (focus (simp [Value.oneCell']; done)) | (focus (simp [Value.cells, Value.oneCell']; done)) | exact Enc.oneAgg _ _); exact rfl; (first | exact .inl rfl | exact .inr (by simp [exempt])); exact rfl; intro w6 hc6 hg6 hs6
  replace hc6 : Blk w6.heap a 28 [.slice _ _ _] := hc6
  have h6 := (h4).app ha5 hc6 hg6
  have hb := h6.box
  have hO := h6.own
  have hBB := h6.hB
  repeat' (first | (apply G_on; exact rfl; first | (apply G1_appendStr (s := crlfB); exact T.s28; exact T.str9; exact rfl; exact rfl; exact hO; exact hBB; (simp only [List.length_append, List.length_cons, List.length_nil, hsl]; show (_ + 2) * _ ≤ _; omega); (simp only [List.length_append, List.length_cons, List.length_nil, hsl]; show _ + 2 ≤ _; omega); exact rfl; exact rfl; exact rfl; intro p7 c7 w7 ha7) | (apply G1_loadB; exact T.p28; exact rfl; assumption; exact rfl; exact rfl)) | apply G_nil | apply Post_next | apply W_region)
  have hb8 := (h6).bx ha7
  apply G_on; exact rfl; apply G1_storeB; exact T.z28; exact rfl; exact rfl; exact hb8; exact rfl; exact rfl; (first | exact Nat.le_of_ble_eq_true rfl | (focus (simp [Value.cells]; done))); (first | exact Enc.one _ _ | (focus (simp [Value.oneCell']; done)) | (focus (simp [Value.cells, Value.oneCell']; done)) | exact Enc.oneAgg _ _); exact rfl; (first | exact .inl rfl | exact .inr (by simp [exempt])); exact rfl; intro w8 hc8 hg8 hs8
  replace hc8 : Blk w8.heap a 28 [.slice _ _ _] := hc8
  have h8 := (h6).app ha7 hc8 hg8
  have hb := h8.box
  have hO := h8.own
  have hBB := h8.hB
  repeat' apply G_nil
  refine Post_end Tryd.results55 (vs := []) rfl ?_
  have e0 : bs ++ [m] ++ (itoaB (n : Int)).data.toList ++ crlfB.data.toList = bs ++ ((m :: dec n) ++ [13, 10]) := by rw [hsl]; simp [crlfB]
  rw [e0] at h8
  exact ⟨rfl, p7, c7, h8⟩
theorem pr_snoc {l : List ByteArray} {i : Nat} {x : ByteArray} (h : l[i]? = some x) : prHead l.length ++ (l.take (i + 1)).flatMap prW = prHead l.length ++ (l.take i).flatMap prW ++ ((36 :: dec x.size) ++ [13, 10]) ++ bytesOf x ++ [13, 10] := by
  rw [take_snoc h, List.flatMap_append]
  simp [prW]
theorem prTake_len {l : List ByteArray} (hl : l.length ≤ 128) : ∀ {i : Nat}, (∀ w ∈ l.take i, w.size ≤ 4096) → (prHead l.length ++ (l.take i).flatMap prW).length ≤ 1000000 := by
  intro i h
  have key : ∀ l : List ByteArray, (∀ w ∈ l, w.size ≤ 4096) → (l.flatMap prW).length ≤ l.length * 6000 := by
    intro l
    induction l with
    | nil => intro _; simp
    | cons w l ih =>
      intro h
      have h1 := ih (fun x hx => h x (by simp [hx]))
      have h2 := h w (by simp)
      have h3 := dec_len (n := w.size) (by omega)
      rw [List.flatMap_cons, List.length_append, List.length_cons]
      have h4 : (prW w).length = (dec w.size).length + 5 + w.size := by unfold prW; simp [bytes_len]; omega
      omega
  have h1 := key _ h
  have h2 := dec_len (n := l.length) (by omega)
  have h3 : (l.take i).length ≤ 128 := by rw [List.length_take]; omega
  unfold prHead
  simp only [List.length_append, List.length_cons, List.length_nil]
  omega
theorem prC_of {l : List ByteArray} (h : PrOk l) : prC l = prB l := if_pos h
theorem prC_no {l : List ByteArray} (h : ¬ PrOk l) : prC l = [] := if_neg h
/-- request.Print -/
theorem print05_spec {q : Option Addr} {d : Nat} {l : List ByteArray} {w : World} (hS : Sl w.heap eStr q d l) (hT : Pow w) :
    Ctr Tryd.prog 31 [.slice q l.length d] w (fun v w' => Ext w w' ∧ ∃ p c, v = .slice p (prC l).length c ∧ Own w' w.heap.size 5 eByte p c (prC l)) := by
  have hsb := hS.bound
  have hok := hS.ok
  refine Ctr_of Tryd.func31 Tryd.ntmps31 rfl rfl rfl ?_
  by_cases h0 : l.length = 0
  · have hn : ¬ PrOk l := fun h => h.pos (List.eq_nil_of_length_eq_zero h0)
    repeat' (first | (apply G_on; exact rfl; first | ((first | apply G1_assign | apply G1_move); exact rfl; exact rfl) | (apply G1_len; exact T.s31; exact rfl; exact rfl) | (apply G1_eql; exact rfl; exact rfl; exact rfl) | (apply G1_pick_t; exact rfl; exact rfl; exact rfl)) | apply G_nil | apply Post_next | apply W_seq | apply W_region | (apply W_cond_true; exact rfl) | (apply G_off; exact rfl; exact rfl) | ((fail_if_success (apply G_on; exact rfl)); apply G_split_dec; exact rfl; exact rfl; all_goals (intro h; try (exfalso; omega))) | apply W_ret | apply Post_then_ret)
    all_goals try (exfalso; omega)
    all_goals
      refine Post_ret Tryd.results31 ⟨_, _, rfl, rfl, rfl⟩ ?_
      rw [prC_no hn]
      exact ⟨(by repeat first | assumption | exact Ext.rfl' | apply Ext.drew | apply Ext.alloc | refine Ext.trans ?_ (by assumption)), none, 0, rfl, Own.nil _ _ _ _⟩
  by_cases h128 : 128 < l.length
  · have hn : ¬ PrOk l := fun h => by have := h.len; omega
    repeat' (first | (apply G_on; exact rfl; first | ((first | apply G1_assign | apply G1_move); exact rfl; exact rfl) | (apply G1_len; exact T.s31; exact rfl; exact rfl) | ((first | apply G1_eql | apply G1_gtr); exact rfl; exact rfl; exact rfl) | (apply G1_pick_f; exact rfl; exact rfl; exact rfl)) | apply G_nil | apply Post_next | apply W_seq | apply W_region | (apply W_cond_dec; exact rfl; all_goals (intro h; try (exfalso; omega))) | ((fail_if_success (apply G_on; exact rfl)); apply G_split_dec; exact rfl; exact rfl; all_goals (intro h; try (exfalso; omega))) | apply W_ret | apply Post_then_ret)
    all_goals try (exfalso; omega)
    all_goals
      refine Post_ret Tryd.results31 ⟨_, _, rfl, rfl, rfl⟩ ?_
      rw [prC_no hn]
      exact ⟨(by repeat first | assumption | exact Ext.rfl' | apply Ext.drew | apply Ext.alloc | refine Ext.trans ?_ (by assumption)), none, 0, rfl, Own.nil _ _ _ _⟩
  repeat' (first | (apply G_on; exact rfl; first | ((first | apply G1_assign | apply G1_move); exact rfl; exact rfl) | (apply G1_len; exact T.s31; exact rfl; exact rfl) | ((first | apply G1_eql | apply G1_gtr); exact rfl; exact rfl; exact rfl) | (apply G1_pick_f; exact rfl; exact rfl; exact rfl)) | apply G_nil | apply Post_next | apply W_seq | apply W_region | (apply W_cond_dec; exact rfl; all_goals (intro h; try (exfalso; omega))) | ((fail_if_success (apply G_on; exact rfl)); apply G_split_dec; exact rfl; exact rfl; all_goals (intro h; try (exfalso; omega))) | apply W_skip)
  all_goals try (exfalso; omega)
  all_goals
    apply G_on; exact rfl; apply G1_alloc; exact T.zero28; exact rfl; exact rfl; intro a3 w3 ha3 hA3 hx3 hs3
    replace hA3 : Blk w3.heap a3 28 [.slice none 0 0] := hA3
    have h3 : PrSt w w3 (a3 + 1) a3 none 0 [] := ⟨by first | exact hx3 | exact (Ext.drew Ext.rfl').trans hx3, hA3, Own.nil _ _ _ _, by first | (show w.heap.size ≤ a3; rw [ha3]; exact Nat.le_refl _) | omega, by omega, by omega⟩
    repeat' (first | (apply G_on; exact rfl; first | ((first | apply G1_assign | apply G1_move | apply G1_makeFunc); exact rfl; exact rfl) | (apply G1_len; exact T.s31; exact rfl; exact rfl)) | apply G_nil | apply Post_next | apply W_seq | apply W_region)
    apply G_on; exact rfl; apply G1_callv; exact rfl; exact rfl; exact rfl; exact rfl; exact prLine_spec (m := 42) rfl h3 (by simp) (n := l.length) (by omega) hT; rintro _ w4 ⟨rfl, p4, c4, h4⟩; refine ⟨(by first | exact .inl rfl | exact .inr (by assumption)), ?_⟩
    rw [List.nil_append] at h4
    repeat' (first | (apply G_on; exact rfl; first | (apply G1_move; exact rfl; exact rfl) | (apply G1_len; exact T.s31; exact rfl; exact rfl)) | apply G_nil | apply Post_next | apply W_seq | apply W_region | apply W_block)
    refine W_loop (ι := Nat × Option Addr × Nat) (fun y => [(3, .pointer (some (adr (bx a3) 0))), (4, .func (.func 55) #[] #[.pointer (some (adr (bx a3) 0))]), (20, .slice q l.length d), (21, .int .i64 (l.length : Int)), (22, .int .i64 (y.1 : Int))])
      (fun y w' => y.1 ≤ l.length ∧ (∀ x ∈ l.take y.1, x.size ≤ 4096) ∧ PrSt w w' (a3 + 1) a3 y.2.1 y.2.2 (prHead l.length ++ (l.take y.1).flatMap prW)) (fun y => l.length - y.1) (0, p4, c4) ⟨rfl, rfl, rfl, rfl, rfl, trivial⟩
      ⟨Nat.zero_le _, by simp, by simpa [prHead] using h4⟩ ?_
    clear h4
    rintro ⟨i, p5, c5⟩ w5 ⟨hi, hsm, h5⟩
    simp only at hi hsm h5
    refine W_keep [(3, .pointer (some (adr (bx a3) 0))), (4, .func (.func 55) #[] #[.pointer (some (adr (bx a3) 0))]), (20, .slice q l.length d), (21, .int .i64 (l.length : Int)), (22, .int .i64 (i : Int))] ⟨rfl, rfl, rfl, rfl, rfl, trivial⟩ ?_
    have hlen5 := prTake_len (l := l) (by omega) hsm
    obtain ⟨bs, hbs⟩ : ∃ bs, prHead l.length ++ (l.take i).flatMap prW = bs := ⟨_, rfl⟩
    rw [hbs] at h5 hlen5
    by_cases hlt : i < l.length
    · obtain ⟨x, hx⟩ := get_some hlt
      by_cases hxl : x.size ≤ 4096
      · have hb5 := h5.box
        have hS5 := hS.ext h5.ext
        repeat' (first | (apply G_on; exact rfl; first | ((first | apply G1_assign | apply G1_move); exact rfl; exact rfl) | (apply G1_indexAddrJ (q := i); exact T.s31; exact rfl; exact rfl; exact rfl; exact hok; exact hlt; exact rfl) | (apply G1_loadEl1 (q := i) (e := eStr); exact T.p9; exact rfl; exact hS5; exact hx; exact rfl; exact rfl; exact rfl) | ((first | apply G1_gtr | apply G1_lss); exact rfl; exact rfl; exact rfl) | (apply G1_slen; exact T.str9; exact rfl; exact rfl)) | apply G_nil | apply Post_next | apply W_seq | apply W_region | (apply W_cond_dec; exact rfl; all_goals (intro h; try (exfalso; omega))) | apply W_skip | apply W_block)
        all_goals try (exfalso; omega)
        apply G_on; exact rfl; apply G1_callv; exact rfl; exact rfl; exact rfl; exact rfl; exact prLine_spec (m := 36) rfl h5 (by omega) (n := x.size) (by omega) hT; rintro _ w6 ⟨rfl, p6, c6, h6⟩; refine ⟨(by first | exact .inl rfl | exact .inr (by assumption)), ?_⟩
        have hd6 := dec_len (n := x.size) (by omega)
        have hl6 : (bs ++ ((36 :: dec x.size) ++ [13, 10])).length ≤ 1000100 := by simp only [List.length_append, List.length_cons, List.length_nil]; omega
        have hsx : x.data.toList.length = x.size := bytes_len x
        have hb := h6.box
        have hO := h6.own
        have hBB := h6.hB
        repeat' (first | (apply G_on; exact rfl; first | (apply G1_move; exact rfl; exact rfl) | (apply G1_appendStr (s := x); exact T.s28; exact T.str9; exact rfl; exact rfl; exact hO; exact hBB; omega; omega; exact rfl; exact rfl; exact rfl; intro p7 c7 w7 ha7) | (apply G1_loadB; exact T.p28; exact rfl; assumption; exact rfl; exact rfl)) | apply G_nil | apply Post_next | apply W_seq | apply W_region)
        have hb8 := (h6).bx ha7
        apply G_on; exact rfl; apply G1_storeB; exact T.z28; exact rfl; exact rfl; exact hb8; exact rfl; exact rfl; (first | exact Nat.le_of_ble_eq_true rfl | (focus (simp [Value.cells]; done))); (first | exact Enc.one _ _ | (focus (simp [Value.oneCell']; done)) | (focus (simp [Value.cells, Value.oneCell']; done)) | exact Enc.oneAgg _ _); exact rfl; (first | exact .inl rfl | exact .inr (by simp [exempt])); exact rfl; intro w8 hc8 hg8 hs8
        replace hc8 : Blk w8.heap a3 28 [.slice _ _ _] := hc8
        have h8 := (h6).app ha7 hc8 hg8
        have hb := h8.box
        have hO := h8.own
        have hBB := h8.hB
        repeat' (first | (apply G_on; exact rfl; first | (apply G1_appendStr (s := crlfB); exact T.s28; exact T.str9; exact rfl; exact rfl; exact hO; exact hBB; (rw [List.length_append, hsx]; show (_ + 2) * _ ≤ _; omega); (rw [List.length_append, hsx]; show _ + 2 ≤ _; omega); exact rfl; exact rfl; exact rfl; intro p9 c9 w9 ha9) | (apply G1_loadB; exact T.p28; exact rfl; assumption; exact rfl; exact rfl)) | apply G_nil | apply Post_next | apply W_region)
        have hb10 := (h8).bx ha9
        apply G_on; exact rfl; apply G1_storeB; exact T.z28; exact rfl; exact rfl; exact hb10; exact rfl; exact rfl; (first | exact Nat.le_of_ble_eq_true rfl | (focus (simp [Value.cells]; done))); (first | exact Enc.one _ _ | (focus (simp [Value.oneCell']; done)) | (focus (simp [Value.cells, Value.oneCell']; done)) | exact Enc.oneAgg _ _); exact rfl; (first | exact .inl rfl | exact .inr (by simp [exempt])); exact rfl; intro w10 hc10 hg10 hs10
        replace hc10 : Blk w10.heap a3 28 [.slice _ _ _] := hc10
        have h10 := (h8).app ha9 hc10 hg10
        have hb := h10.box
        have hO := h10.own
        have hBB := h10.hB
        repeat' (first | (apply G_on; exact rfl; first | (apply G1_move; exact rfl; exact rfl) | (apply G1_add; exact rfl; exact rfl; omega; omega; exact rfl)) | apply G_nil | apply Post_next | apply W_region | apply Post_block_normal)
        refine Post_round (i + 1, p9, c9) ⟨rfl, rfl, rfl, rfl, rfl, trivial⟩ ⟨hlt, fun y hy => ?_, ?_⟩ (by simp only; omega)
        · simp only [take_snoc hx] at hy
          rcases List.mem_append.1 hy with hy | hy
          · exact hsm y hy
          · rw [List.mem_singleton.1 hy]; exact hxl
        · simp only
          rw [pr_snoc hx, hbs]
          have e0 : bs ++ ((36 :: dec x.size) ++ [13, 10]) ++ x.data.toList ++ crlfB.data.toList = bs ++ ((36 :: dec x.size) ++ [13, 10]) ++ bytesOf x ++ [13, 10] := by simp [crlfB, bytesOf]
          rw [e0] at h10
          exact h10
      · have hS5 := hS.ext h5.ext
        have hn : ¬ PrOk l := fun h => hxl (h.words x (List.mem_of_getElem? hx))
        repeat' (first | (apply G_on; exact rfl; first | ((first | apply G1_assign | apply G1_move); exact rfl; exact rfl) | (apply G1_indexAddrJ (q := i); exact T.s31; exact rfl; exact rfl; exact rfl; exact hok; exact hlt; exact rfl) | (apply G1_loadEl1 (q := i) (e := eStr); exact T.p9; exact rfl; exact hS5; exact hx; exact rfl; exact rfl; exact rfl) | ((first | apply G1_gtr | apply G1_lss); exact rfl; exact rfl; exact rfl) | (apply G1_slen; exact T.str9; exact rfl; exact rfl)) | apply G_nil | apply Post_next | apply W_seq | apply W_region | (apply W_cond_dec; exact rfl; all_goals (intro h; try (exfalso; omega))) | apply W_skip | apply W_ret | apply W_block | apply Post_then_ret | apply Post_block_ret)
        all_goals try (exfalso; omega)
        refine Post_ret Tryd.results31 ⟨_, _, rfl, rfl, rfl⟩ ?_
        rw [prC_no hn]
        exact ⟨h5.ext, none, 0, rfl, Own.nil _ _ _ _⟩
    · have hil : i = l.length := by omega
      have hpo : PrOk l := ⟨fun e => h0 (by rw [e]; rfl), by omega, by rw [hil, List.take_of_length_le (Nat.le_refl _)] at hsm; exact hsm⟩
      rw [hil, List.take_of_length_le (Nat.le_refl _)] at hbs
      have hb5 := h5.box
      repeat' (first | (apply G_on; exact rfl; first | (apply G1_assign; exact rfl; exact rfl) | (apply G1_lss; exact rfl; exact rfl; exact rfl) | (apply G1_loadB; exact T.p28; exact rfl; assumption; exact rfl; exact rfl)) | apply G_nil | apply Post_next | apply W_seq | apply W_region | (apply W_cond_dec; exact rfl; all_goals (intro h; try (exfalso; omega))) | apply W_exit | apply W_ret | apply Post_then_exit | apply Post_block_exit)
      all_goals try (exfalso; omega)
      refine Post_ret Tryd.results31 ⟨_, _, rfl, rfl, rfl⟩ ?_
      rw [prC_of hpo]
      have hbs' : prB l = bs := hbs
      rw [hbs']
      exact ⟨h5.ext, p5, c5, rfl, h5.own.base (by omega)⟩
/-- the document's Print -/
theorem refPrint05_spec {q : Option Addr} {d : Nat} {l : List ByteArray} {w : World} (hS : Sl w.heap eStr q d l) :
    Ctr Tryd.prog 32 [.slice q l.length d] w (fun v w' => Ext w w' ∧ v = .string (mkStr (prC l))) := by
  have hsb := hS.bound
  have hok := hS.ok
  refine Ctr_of Tryd.func32 Tryd.ntmps32 rfl rfl rfl ?_
  by_cases h0 : l.length = 0
  · have hn : ¬ PrOk l := fun h => h.pos (List.eq_nil_of_length_eq_zero h0)
    repeat' (first | (apply G_on; exact rfl; first | ((first | apply G1_assign | apply G1_move); exact rfl; exact rfl) | (apply G1_len; exact T.s31; exact rfl; exact rfl) | (apply G1_eql; exact rfl; exact rfl; exact rfl) | (apply G1_pick_t; exact rfl; exact rfl; exact rfl)) | apply G_nil | apply Post_next | apply W_seq | apply W_region | (apply W_cond_true; exact rfl) | (apply G_off; exact rfl; exact rfl) | ((fail_if_success (apply G_on; exact rfl)); apply G_split_dec; exact rfl; exact rfl; all_goals (intro h; try (exfalso; omega))) | apply W_ret | apply Post_then_ret)
    all_goals try (exfalso; omega)
    all_goals
      refine Post_ret Tryd.results32 ⟨_, _, rfl, rfl, rfl⟩ ?_
      rw [prC_no hn]
      exact ⟨(by repeat first | assumption | exact Ext.rfl' | apply Ext.drew | apply Ext.alloc | refine Ext.trans ?_ (by assumption)), rfl⟩
  by_cases h128 : 128 < l.length
  · have hn : ¬ PrOk l := fun h => by have := h.len; omega
    repeat' (first | (apply G_on; exact rfl; first | ((first | apply G1_assign | apply G1_move); exact rfl; exact rfl) | (apply G1_len; exact T.s31; exact rfl; exact rfl) | ((first | apply G1_eql | apply G1_gtr); exact rfl; exact rfl; exact rfl) | (apply G1_pick_f; exact rfl; exact rfl; exact rfl)) | apply G_nil | apply Post_next | apply W_seq | apply W_region | (apply W_cond_dec; exact rfl; all_goals (intro h; try (exfalso; omega))) | ((fail_if_success (apply G_on; exact rfl)); apply G_split_dec; exact rfl; exact rfl; all_goals (intro h; try (exfalso; omega))) | apply W_ret | apply Post_then_ret)
    all_goals try (exfalso; omega)
    all_goals
      refine Post_ret Tryd.results32 ⟨_, _, rfl, rfl, rfl⟩ ?_
      rw [prC_no hn]
      exact ⟨(by repeat first | assumption | exact Ext.rfl' | apply Ext.drew | apply Ext.alloc | refine Ext.trans ?_ (by assumption)), rfl⟩
  have hss : (itoaB (l.length : Int)).size = (dec l.length).length := by rw [itoaS]; rfl
  have hsl : (itoaB (l.length : Int)).data.toList = dec l.length := itoaL _
  have hdl := dec_len (n := l.length) (by omega)
  have eS : (⟨#[42]⟩ : ByteArray) = mkStr [42] := rfl
  have eC : (⟨#[13, 10]⟩ : ByteArray) = mkStr [13, 10] := rfl
  have eD : (⟨#[36]⟩ : ByteArray) = mkStr [36] := rfl
  have eI : ∀ n : Nat, itoaB (n : Int) = mkStr (dec n) := fun n => rfl
  repeat' (first | (apply G_on; exact rfl; first | ((first | apply G1_assign | apply G1_move); exact rfl; exact rfl) | (apply G1_call (f := 56); exact rfl; exact rfl; exact rfl; exact rprint_spec (by unfold fit64; omega); rintro _ w3 ⟨rfl, hx3⟩; refine ⟨(by first | exact .inl rfl | exact .inr (by assumption)), ?_⟩) | (apply G1_saddL; exact rfl; exact rfl; (first | exact eS | exact eC | exact eI _ | exact rfl); (first | exact eS | exact eC | exact eI _ | exact rfl); (simp only [List.length_append, List.length_cons, List.length_nil]; omega); exact rfl) | (apply G1_len; exact T.s31; exact rfl; exact rfl) | ((first | apply G1_eql | apply G1_gtr); exact rfl; exact rfl; exact rfl) | (apply G1_pick_f; exact rfl; exact rfl; exact rfl)) | apply G_nil | apply Post_next | apply W_seq | apply W_region | (apply W_cond_dec; exact rfl; all_goals (intro h; try (exfalso; omega))) | ((fail_if_success (apply G_on; exact rfl)); apply G_split_dec; exact rfl; exact rfl; all_goals (intro h; try (exfalso; omega))) | apply W_skip | apply W_block)
  all_goals try (exfalso; omega)
  all_goals
    refine W_loop (ι := Nat) (fun y => [(0, .slice q l.length d), (3, .string (mkStr (prHead l.length ++ (l.take y).flatMap prW))), (4, .int .i64 (y : Int))])
      (fun y w' => Ext w w' ∧ y ≤ l.length ∧ ∀ x ∈ l.take y, x.size ≤ 4096) (fun y => l.length - y) 0 ⟨rfl, by simp [prHead]; rfl, rfl, trivial⟩ ⟨(by repeat first | assumption | exact Ext.rfl' | apply Ext.drew | apply Ext.alloc | refine Ext.trans ?_ (by assumption)), Nat.zero_le _, by simp⟩ ?_
    rintro i w5 ⟨hx5, hi, hsm⟩
    refine W_keep [(0, .slice q l.length d), (3, .string (mkStr (prHead l.length ++ (l.take i).flatMap prW))), (4, .int .i64 (i : Int))] ⟨rfl, rfl, rfl, trivial⟩ ?_
    have hlen5 := prTake_len (l := l) (by omega) hsm
    obtain ⟨bs, hbs⟩ : ∃ bs, prHead l.length ++ (l.take i).flatMap prW = bs := ⟨_, rfl⟩
    rw [hbs] at hlen5 ⊢
    have hS5 := hS.ext hx5
    by_cases hlt : i < l.length
    · obtain ⟨x, hx⟩ := get_some hlt
      by_cases hxl : x.size ≤ 4096
      · have hd6 := dec_len (n := x.size) (by omega)
        have hsx : (bytesOf x).length = x.size := bytes_len x
        have eX : x = mkStr (bytesOf x) := (mk_bytes x).symm
        repeat' (first | (apply G_on; exact rfl; first | ((first | apply G1_assign | apply G1_move); exact rfl; exact rfl) | (apply G1_indexAddrJ (q := i); exact T.s31; exact rfl; exact rfl; exact rfl; exact hok; exact hlt; exact rfl) | (apply G1_loadEl1 (q := i) (e := eStr); exact T.p9; exact rfl; exact hS5.ext (by repeat first | assumption | exact Ext.rfl' | apply Ext.drew | apply Ext.alloc | refine Ext.trans ?_ (by assumption)); exact hx; exact rfl; exact rfl; exact rfl) | (apply G1_call (f := 56); exact rfl; exact rfl; exact rfl; exact rprint_spec (by unfold fit64; omega); rintro _ w6 ⟨rfl, hx6⟩; refine ⟨(by first | exact .inl rfl | exact .inr (by assumption)), ?_⟩) | (apply G1_saddL; exact rfl; exact rfl; (first | exact eD | exact eC | exact eI _ | exact rfl); (first | exact eD | exact eC | exact eI _ | exact eX); (simp only [List.length_append, List.length_cons, List.length_nil]; omega); exact rfl) | (apply G1_len; exact T.s31; exact rfl; exact rfl) | ((first | apply G1_gtr | apply G1_lss); exact rfl; exact rfl; exact rfl) | (apply G1_slen; exact T.str9; exact rfl; exact rfl) | (apply G1_add; exact rfl; exact rfl; omega; omega; exact rfl)) | apply G_nil | apply Post_next | apply W_seq | apply W_region | (apply W_cond_dec; exact rfl; all_goals (intro h; try (exfalso; omega))) | refine W_drawn 1 [] [0,1,2,3,4,5,6,10,11,12,13,7,8,9,14,15,16] mixed (by decide +kernel) ?_ | apply W_skip | apply W_block | apply Post_block_normal)
        all_goals try (exfalso; omega)
        all_goals
          refine Post_round (i + 1) ⟨rfl, ?_, rfl, trivial⟩ ⟨(by repeat first | assumption | exact Ext.rfl' | apply Ext.drew | apply Ext.alloc | refine Ext.trans ?_ (by assumption)), hlt, fun y hy => ?_⟩ (by omega)
          · rw [pr_snoc hx, hbs]
            show some (Value.string (mkStr _)) = _
            congr 3
            simp
          · simp only [take_snoc hx] at hy
            rcases List.mem_append.1 hy with hy | hy
            · exact hsm y hy
            · rw [List.mem_singleton.1 hy]; exact hxl
      · have hn : ¬ PrOk l := fun h => hxl (h.words x (List.mem_of_getElem? hx))
        repeat' (first | (apply G_on; exact rfl; first | ((first | apply G1_assign | apply G1_move); exact rfl; exact rfl) | (apply G1_indexAddrJ (q := i); exact T.s31; exact rfl; exact rfl; exact rfl; exact hok; exact hlt; exact rfl) | (apply G1_loadEl1 (q := i) (e := eStr); exact T.p9; exact rfl; exact hS5.ext (by repeat first | assumption | exact Ext.rfl' | apply Ext.drew | apply Ext.alloc | refine Ext.trans ?_ (by assumption)); exact hx; exact rfl; exact rfl; exact rfl) | (apply G1_len; exact T.s31; exact rfl; exact rfl) | ((first | apply G1_gtr | apply G1_lss); exact rfl; exact rfl; exact rfl) | (apply G1_slen; exact T.str9; exact rfl; exact rfl)) | apply G_nil | apply Post_next | apply W_seq | apply W_region | (apply W_cond_dec; exact rfl; all_goals (intro h; try (exfalso; omega))) | apply W_skip | apply W_ret | apply W_block | apply Post_then_ret | apply Post_block_ret)
        all_goals try (exfalso; omega)
        all_goals
          refine Post_ret Tryd.results32 ⟨_, _, rfl, rfl, rfl⟩ ?_
          rw [prC_no hn]
          exact ⟨(by repeat first | assumption | exact Ext.rfl' | apply Ext.drew | apply Ext.alloc | refine Ext.trans ?_ (by assumption)), rfl⟩
    · have hil : i = l.length := by omega
      have hpo : PrOk l := ⟨fun e => h0 (by rw [e]; rfl), by omega, by rw [hil, List.take_of_length_le (Nat.le_refl _)] at hsm; exact hsm⟩
      rw [hil, List.take_of_length_le (Nat.le_refl _)] at hbs
      repeat' (first | (apply G_on; exact rfl; first | ((first | apply G1_assign | apply G1_move); exact rfl; exact rfl) | (apply G1_len; exact T.s31; exact rfl; exact rfl) | (apply G1_lss; exact rfl; exact rfl; exact rfl)) | apply G_nil | apply Post_next | apply W_seq | apply W_region | (apply W_cond_dec; exact rfl; all_goals (intro h; try (exfalso; omega))) | apply W_exit | apply W_ret | apply Post_then_exit | apply Post_block_exit)
      all_goals try (exfalso; omega)
      all_goals
        refine Post_ret Tryd.results32 ⟨_, _, rfl, rfl, rfl⟩ ?_
        rw [prC_of hpo]
        have hbs' : prB l = bs := hbs
        rw [hbs']
        exact ⟨(by repeat first | assumption | exact Ext.rfl' | apply Ext.drew | apply Ext.alloc | refine Ext.trans ?_ (by assumption)), rfl⟩
end Go.Proofs.YtikjnmpijflnaaaDoor

/- The document's example for requests. -/
namespace Go.V
section
variable {P : Program} {n : Nat} {ops : Array Oper} {dr : Nat × List Nat} {l : List Oper} {E : Env} {w : World} {K : Env → World → Prop}
variable {d : Option Nat} {ty : TypeId} {pos : String} {af : Array Edge} {g : Option (Nat × Bool)} {x y : Operand} {t t' u : TypeId} {a : Addr}
theorem run_equal_pnil (hu : P.underlying t = some (.pointer u)) (w : World) : (Op.equal t (.pointer (some a)) (.pointer none)).run P w = .ok false w := by
  have key : ∀ d, (Op.equalIn (d + 1) t (.pointer (some a)) (.pointer none)).run P w = .ok false w := by
    intro d
    rw [Op.equalIn.eq_def]
    simp [run_underlying hu]
  exact key _
theorem G1_pnileql (hu : P.underlying t = some (.pointer u)) (hx : E.look x = some (.pointer (some a))) (hy : E.look y = some (.pointer none)) (hd : dstOk n d = true) (h : G P n ops dr l (E.put d (.bool false)) w K) : G1 P n ops dr ⟨d, .binOp .eql t x y t', ty, pos, af, g⟩ l E w K :=
  G1_quiet _ hd (fun a ha w' _ => by simp [execOp, ha.eval hx, ha.eval hy, eqGuard, binOp, run_equal_pnil hu]) h
end
end Go.V
namespace Go.Proofs.YtikjnmpijflnaaaDoor
open Go.V
attribute [local irreducible] Blk Own hcell IntT SliceT PlainT AggT SizeT StrT FieldT ZeroT EqT ArrT
/-- a line of words -/
theorem step_inline {s : List UInt8} (m : List UInt8) (h : ∀ c ∈ s, c ≠ 10) (hl : s.length ≤ 1024) (h42 : s.head? ≠ some 42) (hw : (cutG [] s).length ≤ 128) : stepP rs0 (s ++ 13 :: 10 :: m) = .go rs0 (s.length + 2) (if cutG [] s = [] then [] else [(cutG [] s).map mkStr]) := by
  unfold stepP
  rw [if_pos (show rs0.left = 0 from rfl), line_of m h hl]
  simp only
  rw [if_neg h42, if_neg (by omega)]
def exB : List UInt8 := [42, 49, 13, 10, 36, 52, 13, 10, 80, 73, 78, 71, 13, 10, 32, 83, 69, 84, 32, 97, 32, 32, 98, 32, 13, 10, 42]
def exP : ByteArray := ⟨#[80, 73, 78, 71]⟩
def exS : List ByteArray := [⟨#[83, 69, 84]⟩, ⟨#[97]⟩, ⟨#[98]⟩]
def exLn : List UInt8 := [32, 83, 69, 84, 32, 97, 32, 32, 98, 32]
theorem ex_split : exB = prB [exP] ++ (exLn ++ 13 :: 10 :: [42]) := by decide +kernel
theorem ex_cut : (cutG [] exLn).map mkStr = exS := by decide +kernel
theorem ex_run : runP rs0 ([] ++ exB) = ⟨[[exP], exS], rs0, [42], 0⟩ := by
  have e0 : [] ++ exB = exB := rfl
  have s1 := step_inline (s := exLn) [42] (by decide) (by decide) (by decide) (by decide)
  rw [if_neg (by decide), ex_cut] at s1
  have s2 : stepP rs0 [42] = .stop := by
    unfold stepP
    rw [if_pos (show rs0.left = 0 from rfl)]
    rfl
  rw [e0, ex_split, run_print _ ⟨by simp, by simp, by intro w hw; rw [List.mem_singleton.1 hw]; decide⟩, run_go s1]
  have d1 : (exLn ++ 13 :: 10 :: [42]).drop (exLn.length + 2) = [42] := rfl
  rw [d1, run_stop s2]
  rfl
/-- one slice of bytes is handed to Feed -/
theorem parts_one {H : Array Obj} {F : Nat → Prop} {q : Option Addr} {d : Nat} {bs : List UInt8} (h : Sl H eByte q d bs) (hf : ∀ x, q = some x → bs ≠ [] → ¬ F x.block) : PartsAt H F [(q, bs.length, d)] [bs] :=
  ⟨rfl, fun i h1 b hi hb => by
    match i with
    | 0 =>
      obtain rfl : (q, bs.length, d) = h1 := by simpa using hi
      obtain rfl : bs = b := by simpa using hb
      exact ⟨rfl, h, hf⟩
    | k + 1 => simp at hi⟩
/-- a newer block is none of the reader's -/
theorem rd_apart {w0 w : World} {ar B : Nat} {p : Option Addr} {c : Nat} {inp : List UInt8} {a : Nat} {pw : Option Addr} {cw : Nat} {r : RS} {ft : Int} (h : RdSt w0 w ar B p c inp a pw cw r ft) {k : Nat} (hk : w.heap.size ≤ k) : ¬ (k = ar ∨ blk p = some k) := fun e => by
  have := h.blk.lt
  rcases e with e | e
  · omega
  · have := (h.row.ge k e).2; omega
theorem feed_one {w0 : World} {ar B : Nat} {p : Option Addr} {c : Nat} {inp : List UInt8} {pw : Option Addr} {cw : Nat} {r : RS} {q q1 : Option Addr} {d d1 : Nat} {bs : List UInt8} {w1 w : World} (hR1 : RdSt w0 w1 ar B p c inp 0 pw cw r 0) (hx : Ext w1 w)
    (hS : Sl w.heap eSlc q d [(q1, bs.length, d1)]) (hq : ∀ x, q = some x → w1.heap.size ≤ x.block) (hb : Sl w.heap eByte q1 d1 bs) (hq1 : ∀ x, q1 = some x → w1.heap.size ≤ x.block) (hN : inp.length + bs.length ≤ 100000000) (hH : r.held ≤ 100000000) (hT : Pow w0) (hE : Errs w0) (hg0 : GoodR r) :
    Ctr Tryd.prog 26 [.pointer (some (adr (bx ar) 0)), .slice q 1 d] w (FeedA w0 w ar B p pw (runP r (inp ++ bs))) := by
  have h := feed_spec (hR1.xt hx) (ks := [(q1, bs.length, d1)]) (parts := [bs]) hS (fun x hx' _ => rd_apart hR1 (hq x hx')) (parts_one hb (fun x hx' _ => rd_apart hR1 (hq1 x hx'))) (by simpa using hN) hH hT hE hg0
  simpa using h
theorem awake05 {w : World} (hT : Pow w) (hE : Errs w) : Ctr Tryd.prog 24 [] w (fun v w' => v = .bool true ∧ Ext w w') := by
  refine Ctr_of Tryd.func24 Tryd.ntmps24 rfl rfl rfl ?_
  repeat' (first | (apply G_on; exact rfl; (apply G1_assign; exact rfl; exact rfl)) | apply G_nil | apply Post_next | apply W_seq | apply W_region)
  apply G_on; exact rfl; apply G1_call; exact rfl; exact rfl; exact rfl; exact new_spec; rintro _ w1 ⟨hx1, ar, rfl, hR1⟩; refine ⟨(by first | exact .inl rfl | exact .inr (by assumption)), ?_⟩
  repeat' (first | (apply G_on; exact rfl; first | ((first | apply G1_assign | apply G1_move); exact rfl; exact rfl) | (apply G1_pnileql; exact Tryd.underlying38; exact rfl; exact rfl; exact rfl)) | apply G_nil | apply Post_next | apply W_seq | apply W_region | (apply W_cond_false; exact rfl) | apply W_skip)
  have hx1' : Ext w w1 := hx1
  have hlt1 := hR1.blk.lt
  apply G_on; exact rfl
  apply G1_buildN eByte exB; exact T.s28; exact rfl; exact rfl; exact rfl; exact rfl; exact rfl; exact Nat.succ_pos _; exact Nat.le_of_ble_eq_true rfl; exact rfl; exact rfl
  intro p2 w2 ho2 hx2 hs2
  obtain ⟨g2, cs2, rfl, hgB, hV2, _⟩ := ho2.toBlk (fun e => by have := ho2.sl.ok.nul e; cases this)
  apply G_on; exact rfl
  apply G1_convMark (bs := exB); exact Tryd.underlying28; exact Tryd.underlying5; exact rfl; exact hV2; exact ho2.sl; exact rfl; exact rfl; exact rfl
  intro w3 hs3 hg3 hz3
  have hx13 : Ext w1 w3 := hx2.own hg3 (fun k hk => by injection hk with hk; omega)
  apply G_on; exact rfl
  apply G1_build1 eSlc (bx g2, exB.length, exB.length); exact T.s76; exact rfl; exact rfl; exact rfl; decide; exact rfl; exact rfl
  intro p4 w4 hp4 hs4 _ hx4 hz4
  have hx14 := hx13.trans hx4
  have hz13 := hx13.size
  have hR4 := hR1.xt hx14
  have hfd := feed_one hR1 hx14 hs4 (fun x hx => by rw [hp4] at hx; injection hx with hx; rw [← hx]; exact hz13) (hs3.ext hx4) (fun x hx => by injection hx with hx; rw [← hx]; exact hgB) (by decide) (by decide) hT hE good0
  rw [ex_run] at hfd
  apply G_on; exact rfl; apply G1_call (f := 26); exact rfl; exact rfl; exact rfl; exact hfd; intro v w5 hv; refine ⟨.inl rfl, ?_⟩
  obtain ⟨hf5, pd, cd, hs, p', c', pw', cw', rfl, hO5, hC5, _, _, hR5, _⟩ := hv
  replace hR5 := hR5 rfl
  replace hC5 := hC5.shown
  repeat' (first | (apply G_on; exact rfl; first | ((first | apply G1_assign | apply G1_move); exact rfl; exact rfl) | ((first | apply G1_extract | apply G1_eql); exact rfl; exact rfl; exact rfl)) | apply G_nil | apply Post_next | apply W_seq | apply W_region)
  apply G_on; exact rfl
  apply G1_build1 eStr exP; exact T.s31; exact rfl; exact rfl; exact rfl; decide; exact rfl; exact rfl
  intro p6 w6 hp6 hs6 _ hx6 hz6
  apply G_on; exact rfl
  apply G1_buildN eStr exS; exact T.s31; exact rfl; exact rfl; exact rfl; exact rfl; exact rfl; exact Nat.succ_pos _; exact Nat.le_of_ble_eq_true rfl; exact rfl; exact rfl
  intro p7 w7 ho7 hx7 hs7
  apply G_on; exact rfl
  apply G1_buildN eSlc [(p6, 1, 1), (p7, 3, 3)]; exact T.s40; exact rfl; exact rfl; exact rfl; exact rfl; exact rfl; exact Nat.succ_pos _; exact Nat.le_of_ble_eq_true rfl; exact rfl; exact rfl
  intro p8 w8 ho8 hx8 hs8
  have hC8 : CmdsAt w8.heap [(p6, 1, 1), (p7, 3, 3)] [[exP], exS] :=
    ⟨rfl, fun i h l hi hl => by
      match i with
      | 0 =>
        obtain rfl : (p6, 1, 1) = h := by simpa using hi
        obtain rfl : [exP] = l := by simpa using hl
        exact ⟨rfl, (hs6.ext hx7).ext hx8⟩
      | 1 =>
        obtain rfl : (p7, 3, 3) = h := by simpa using hi
        obtain rfl : exS = l := by simpa using hl
        exact ⟨rfl, ho7.sl.ext hx8⟩
      | k + 2 => simp at hi⟩
  have hx58 : Ext w5 w8 := (hx6.trans hx7).trans hx8
  have hsm := refSame05_spec (hO5.sl.ext hx58) ho8.sl (hC5.cells (fun a v hv => hx58.cell hv)) hC8
  apply G_on; exact rfl; apply G1_call (f := 28); exact rfl; exact rfl; exact rfl; exact hsm; rintro _ w9 ⟨rfl, hx9⟩; refine ⟨.inl rfl, ?_⟩
  have hx59 : Ext w5 w9 := hx58.trans hx9
  have hw := waiting_spec (hR5.xt hx59) (by decide) (by decide)
  have hx59e : Ext w w9 := hR5.ext.trans hx59
  repeat' (first | (apply G_on; exact rfl; first | ((first | apply G1_assign | apply G1_move); exact rfl; exact rfl) | (apply G1_call (f := 29); exact rfl; exact rfl; exact rfl; exact hw; rintro _ w10 ⟨rfl, hx10⟩; refine ⟨(by first | exact .inl rfl | exact .inr (by assumption)), ?_⟩) | (apply G1_eql; exact rfl; exact rfl; exact rfl) | (apply G1_pick_t; exact rfl; exact rfl; exact rfl)) | apply G_nil | apply Post_next | apply W_ret)
  refine Post_ret Tryd.results24 ⟨_, _, rfl, rfl, rfl⟩ ?_
  exact ⟨rfl, (by repeat first | assumption | exact Ext.rfl' | apply Ext.drew | apply Ext.alloc | refine Ext.trans ?_ (by assumption))⟩
end Go.Proofs.YtikjnmpijflnaaaDoor

/- Requests: pieces fed one behind the other; what was told so far; in plain Lean. -/
namespace Go.V
section
variable {P : Program} {n : Nat} {ops : Array Oper} {dr : Nat × List Nat} {l : List Oper} {E : Env} {w : World} {K : Env → World → Prop}
variable {d : Option Nat} {ty : TypeId} {pos : String} {af : Array Edge} {g : Option (Nat × Bool)} {x y : Operand} {t t' u sz by_ c : Nat} {p : Option Addr}
/-- append where the other row's length is told by an equation -/
theorem G1_appendE {α : Type} {e : Enc α} {B m k : Nat} {xs ys : List α} {q : Option Addr} {c2 : Nat} (hu : SliceT P t u sz by_) (hx : E.look x = some (.slice p k c)) (hy : E.look y = some (.slice q m c2)) (hk : k = xs.length) (hm : m = ys.length) (hown : Own w B u e p c xs) (hsl : Sl w.heap e q c2 ys)
    (hsz : e.sz = sz) (hB : B ≤ w.heap.size) (hlen : (xs.length + ys.length) * by_ ≤ 140737488355328) (hmax : xs.length + ys.length ≤ 9223372036854775807)
    (he : effects P dr.1 ⟨d, .call ⟨.builtin .append, #[x, y], #[t, t]⟩, ty, pos, af, g⟩ = true) (hw : writes dr.1 ⟨d, .call ⟨.builtin .append, #[x, y], #[t, t]⟩, ty, pos, af, g⟩ = true) (hd : dstOk n d = true)
    (h : ∀ p' c' w', App w w' B u e p p' c' (xs ++ ys) → G P n ops dr l (E.put d (.slice p' (xs ++ ys).length c')) w' K) : G1 P n ops dr ⟨d, .call ⟨.builtin .append, #[x, y], #[t, t]⟩, ty, pos, af, g⟩ l E w K := by
  subst hm hk
  exact G1_appendA hu hx hy hown hsl hsz hB hlen hmax he hw hd h
end
end Go.V
namespace Go.Proofs.YtikjnmpijflnaaaDoor
open Go.V
attribute [local irreducible] Blk Own hcell IntT SliceT PlainT AggT SizeT StrT FieldT ZeroT EqT ArrT
/-- the reader to which F came, and the lists that were told -/
structure FeedsI (w w' : World) (ar : Nat) (F : List UInt8) (p : Option Addr) (c : Nat) (pw : Option Addr) (cw : Nat) (pa : Option Addr) (ca : Nat) (hs : List Hdr) : Prop where
  rd : RdSt w w' ar (ar + 1) p c (runP rs0 F).rest 0 pw cw (runP rs0 F).st 0
  err : (runP rs0 F).err = 0
  all : Own w' w.heap.size 31 eSlc pa ca hs
  cm : WordsAt w'.heap (fun k => blk pw = some k) hs (runP rs0 F).out
theorem FeedsI.ext {w w1 w2 : World} {ar c cw ca : Nat} {F : List UInt8} {p pw pa : Option Addr} {hs : List Hdr} (h : FeedsI w w1 ar F p c pw cw pa ca hs) (hx : Ext w1 w2) : FeedsI w w2 ar F p c pw cw pa ca hs :=
  ⟨h.rd.xt hx, h.err, h.all.ext hx, h.cm.ext hx⟩
theorem FeedsI.first {w w1 : World} {ar : Nat} (hR : RdSt w w1 ar (ar + 1) none 0 [] 0 none 0 rs0 0) : FeedsI w w1 ar [] none 0 none 0 none 0 [] := by
  refine ⟨?_, ?_, Own.nil _ _ _ _, ?_⟩
  · rw [run_nil]; exact hR
  · rw [run_nil]
  · rw [run_nil]; exact WordsAt.nil
/-- what is known behind a piece: the lists of both kinds, the reader -/
structure FeedsN (w w' : World) (ar : Nat) (F : List UInt8) (p : Option Addr) (c : Nat) (pw : Option Addr) (cw : Nat) (hs : List Hdr) : Prop where
  cm : WordsAt w'.heap (fun k => blk pw = some k) hs (runP rs0 F).out
  ok : (runP rs0 F).err = 0 → RdSt w w' ar (ar + 1) p c (runP rs0 F).rest 0 pw cw (runP rs0 F).st 0
  bad : (runP rs0 F).err ≠ 0 → RdSt w w' ar (ar + 1) p c [] 0 pw cw ⟨0, 0, [], 0⟩ (runP rs0 F).err
theorem FeedsN.ext {w w1 w2 : World} {ar c cw : Nat} {F : List UInt8} {p pw : Option Addr} {hs : List Hdr} (h : FeedsN w w1 ar F p c pw cw hs) (hx : Ext w1 w2) : FeedsN w w2 ar F p c pw cw hs :=
  ⟨h.cm.ext hx, fun e => (h.ok e).xt hx, fun e => (h.bad e).xt hx⟩
theorem FeedsI.next {w w1 w3 w4 : World} {ar c cw ca : Nat} {F m : List UInt8} {p pw pa : Option Addr} {hs : List Hdr} {v : Value} (h : FeedsI w w1 ar F p c pw cw pa ca hs) (hx : Ext w1 w3) (hA : FeedA w w3 ar (ar + 1) p pw (runP (runP rs0 F).st ((runP rs0 F).rest ++ m)) v w4) :
    ∃ pd cd hs2 p' c' pw' cw', v = .tuple #[.slice pd hs2.length cd, .int .i64 (runP rs0 (F ++ m)).err] ∧ Own w4 w.heap.size 31 eSlc pa ca hs ∧ Own w4 w3.heap.size 31 eSlc pd cd hs2 ∧ FeedsN w w4 ar (F ++ m) p' c' pw' cw' (hs ++ hs2) ∧ FrS (fun k => k = ar ∨ blk p = some k ∨ blk pw = some k) w3 w4 ∧ ∀ k, blk p' = some k → blk p = some k ∨ w3.heap.size ≤ k := by
  obtain ⟨r1, r2, r3, r4⟩ := (run_more (F.length + 1) (r := rs0) m (Nat.lt_succ_self _)).1 h.err
  obtain ⟨hf, pd, cd, hs2, p', c', pw', cw', rfl, hO, hC, hnp, hnpw, hok, hbad⟩ := hA
  have hI := h.ext hx
  have n1 : ∀ k, blk pa = some k → ¬ (k = ar ∨ blk p = some k ∨ blk pw = some k) := fun k hk e => by
    rcases e with e | e | e
    · exact hI.all.apartB hI.rd.blk (by decide) (by rw [← e]; exact hk)
    · exact blk_apart hI.all hI.rd.row (by decide) hk e
    · exact blk_apart hI.all hI.rd.wds (by decide) hk e
  refine ⟨pd, cd, hs2, p', c', pw', cw', by rw [r4], hI.all.fr hf n1, hO, ⟨?_, ?_, ?_⟩, hf, hnp⟩
  · rw [r1]
    refine WordsAt.app (hI.cm.fr hf (fun k hk hs hn => ⟨fun e => ?_, fun e => ?_⟩)) hC
    · rcases e with e | e | e
      · exact noStr hI.rd.blk (by decide) (by rw [← e]; exact hs)
      · exact own_noStr hI.rd.row (by decide) e hs
      · exact hn e
    · rcases hnpw k e with e | e
      · exact hn e
      · omega
  · intro e
    rw [r2, r3]
    exact hok (r4.symm.trans e)
  · intro e
    rw [r4] at e ⊢
    exact hbad e
theorem FeedsN.push {w w1 w2 : World} {ar c cw ca ca' : Nat} {F : List UInt8} {p pw pa pa' : Option Addr} {hs hs0 hs1 : List Hdr} (h : FeedsN w w1 ar F p c pw cw hs) (ho : Own w1 w.heap.size 31 eSlc pa ca hs0) (ha : App w1 w2 w.heap.size 31 eSlc pa pa' ca' hs1) : FeedsN w w2 ar F p c pw cw hs := by
  have hf : FrS (fun k => blk pa = some k) w1 w2 := FrS.of_grown ha.grown (fun k hk => hk)
  have hrd : ∀ {inp : List UInt8} {a : Nat} {r : RS} {ft : Int}, RdSt w w1 ar (ar + 1) p c inp a pw cw r ft → RdSt w w2 ar (ar + 1) p c inp a pw cw r ft := fun hR =>
    hR.turned ha.grown (ho.apartB hR.blk (by decide)) (fun x hx => ho.apartR hR.row (by decide) x hx) (fun x hx => ho.apartR hR.wds (by decide) x hx) (fun k hk => (ho.ge k hk).1)
  exact ⟨h.cm.fr hf (fun k _ hs hn => ⟨fun e => own_noStr ho (by decide) e hs, hn⟩), fun e => hrd (h.ok e), fun e => hrd (h.bad e)⟩
theorem no_err {F m : List UInt8} (h : (runP rs0 (F ++ m)).err = 0) : (runP rs0 F).err = 0 := by
  by_cases e : (runP rs0 F).err = 0
  · exact e
  · have := ((run_more (F.length + 1) (r := rs0) m (Nat.lt_succ_self _)).2 e).2
    rw [this] at h
    exact absurd h e
open Classical in
noncomputable def okL (l : List ByteArray) : Bool := decide (PrOk l)
theorem okL_yes {l : List ByteArray} (h : PrOk l) : okL l = true := by unfold okL; simp [h]
theorem okL_no {l : List ByteArray} (h : ¬ PrOk l) : okL l = false := by unfold okL; simp [h]
theorem run_cmds : ∀ (ls : List (List ByteArray)) (m : List UInt8), runP rs0 (ls.flatMap prC ++ m) = { runP rs0 m with out := ls.filter okL ++ (runP rs0 m).out }
  | [], m => rfl
  | l :: ls, m => by
    rw [List.flatMap_cons, List.append_assoc, List.filter_cons]
    by_cases h : PrOk l
    · have e := okL_yes h
      rw [prC_of h, run_print _ h, run_cmds ls m, if_pos e]
      rfl
    · have e := okL_no h
      rw [prC_no h, List.nil_append, run_cmds ls m, if_neg (by rw [e]; decide)]
theorem prC_pos {l : List ByteArray} : 0 < (prC l).length ↔ PrOk l := by
  by_cases h : PrOk l
  · rw [prC_of h]
    exact ⟨fun _ => h, fun _ => by unfold prB prHead; simp⟩
  · rw [prC_no h]
    exact ⟨fun e => by simp at e, fun e => absurd e h⟩
theorem prC_len {l : List ByteArray} (hl : l.length ≤ 200) (hw : ∀ w ∈ l, w.size ≤ 5000) : (prC l).length ≤ 30 + l.length * 6000 := by
  by_cases h : PrOk l
  · rw [prC_of h]; exact pr_len hl hw
  · rw [prC_no h]; exact Nat.zero_le _
theorem toldP_run (cs : List UInt8) : toldP cs = ⟨(runP rs0 cs).out, if (runP rs0 cs).err = 0 then (runP rs0 cs).st.held + (runP rs0 cs).rest.length else 0, (runP rs0 cs).err⟩ := told_run _ cs (Nat.lt_succ_self _)
end Go.Proofs.YtikjnmpijflnaaaDoor

/- The ways of a branch meet again behind it. -/
namespace Go.V
section
variable {P : Program} {n : Nat} {E : Env} {w : World} {Q : Exit → Act → World → Prop}
/-- the ways of a branch meet again behind it -/
theorem W_cutC {ι : Type} {c : Operand} {r x y z : Code} (E0 : ι → Env) (J : ι → World → Prop) (h1 : W P n (.seq r (.cond c x y)) (fun e a w' => e = .normal ∧ ∃ i, Holds n (E0 i) a ∧ J i w') E w) (h2 : ∀ i w', J i w' → W P n z Q (E0 i) w') : W P n (.seq (.seq r (.cond c x y)) z) Q E w := by
  unfold W at *
  exact fun a ha => wp_seq (wp_mono (h1 a ha) (fun e a w' ⟨he, i, hh, hj⟩ => by subst he; exact h2 i w' hj a hh))
theorem Post_cutI {ι : Type} {E0 : ι → Env} {J : ι → World → Prop} (i : ι) (hE : Env.sub (E0 i) E) (hJ : J i w) : Post n (fun e a w' => e = .normal ∧ ∃ i, Holds n (E0 i) a ∧ J i w') .normal E w := by
  unfold Post
  exact fun _ ha => ⟨rfl, i, ha.sub hE, hJ⟩
end
end Go.V

/- A string as bytes, and more appended to them. -/
namespace Go.V
open Go.RowKit

theorem storeCells_mark (P : Program) (g o : Nat) (t : TypeId) (fr : Nat × Nat) : ∀ (vs : List Value) (i : Nat) (cur : Array Value) (w : World), w.heap[g]? = some (.cells cur t fr) → cur.size ≤ fr.1 → o + i + vs.length ≤ cur.size → (∀ v ∈ vs, v.oneCell' = true) →
    (storeCells ⟨g, o, none⟩ vs i).run P w = .ok () (w.setRow g (cur.toList.take (o + i) ++ vs ++ cur.toList.drop (o + i + vs.length)).toArray)
  | [], i, cur, w, hg, _, _, _ => by
    simp only [storeCells, List.append_nil, List.length_nil, Nat.add_zero, List.take_append_drop, Array.toArray_toList]
    rw [setRow_self w g cur t fr hg]
    rfl
  | v :: rest, i, cur, w, hg, hf, hl, h1 => by
    have hi : o + i < cur.size := by simp at hl; omega
    have hadd : (⟨g, o, none⟩ : Addr).add i = ⟨g, o + i, none⟩ := addr_add g o i
    have hcell : w.cell? ⟨g, o + i, none⟩ = some cur[o + i] := by simp [World.cell?, hg, hi]
    have hfro : w.frozen? ⟨g, o + i, none⟩ = false := by
      simp [World.frozen?, hg]; omega
    have hst : (store ((⟨g, o, none⟩ : Addr).add i) v).run P w = .ok () (w.setRow g (cur.setIfInBounds (o + i) v)) := by
      rw [hadd, run_store P w _ v _ (h1 v (by simp)), hcell]
      simp [hfro, setCell_eq_setRow w g (o + i) cur t fr v hg]
    have ih := storeCells_mark P g o t fr rest (i + 1) (cur.setIfInBounds (o + i) v) (w.setRow g (cur.setIfInBounds (o + i) v)) (setRow_heap w g cur _ t _ hg) (by simpa using hf) (by simp at hl ⊢; omega) (fun x hx => h1 x (by simp [hx]))
    simp only [storeCells, Sem.run_bind, hst, Result.andThen_ok, ih, setRow_setRow]
    congr 3
    have e := list_seg_step cur.toList (o + i) v rest (by simp at hl ⊢; omega)
    simpa [Array.toList_setIfInBounds, Nat.add_assoc] using e

/-- block b holds the bytes bs, with room up to c, and a mark behind its cells -/
def MarkB (w : World) (b T c : Nat) (bs : List UInt8) : Prop :=
  ∃ cur fr, w.heap[b]? = some (.cells cur T fr) ∧ cur.size ≤ fr.1 ∧ cur.size = c ∧ bs.length ≤ c ∧ c ≤ maxLen ∧ cur.toList.take bs.length = bs.flatMap eByte.enc

theorem flatByte_len (bs : List UInt8) : (bs.flatMap eByte.enc).length = bs.length := by rw [flat_len]; simp [eByte]

theorem sl_of_cells {w : World} {b T c : Nat} {bs : List UInt8} {cur : Array Value} {fr : Nat × Nat} (hg : w.heap[b]? = some (.cells cur T fr)) (hl : bs.length ≤ c) (hm : c ≤ maxLen) (ht : cur.toList.take bs.length = bs.flatMap eByte.enc) : Sl w.heap eByte (some ⟨b, 0, none⟩) c bs := by
  refine ⟨⟨hl, hm, (fun h => by cases h), (fun a ha _ => by injection ha with ha; rw [← ha])⟩, fun i x hi k v hv => ?_⟩
  have hk : k = 0 := by have := get_lt hv; rw [eByte.len] at this; simp [eByte] at this; omega
  subst hk
  have hlt := get_lt hi
  have hf : (bs.flatMap eByte.enc)[i]? = some v := by
    have := flat_get eByte bs i 0 x v hi hv
    simpa [eByte] using this
  rw [← ht, List.getElem?_take, if_pos hlt] at hf
  simp only [hcell, adr, hg, eByte, Nat.zero_add, Nat.mul_one, Nat.add_zero]
  simpa using hf

theorem MarkB.sl {w : World} {b T c : Nat} {bs : List UInt8} (h : MarkB w b T c bs) : Sl w.heap eByte (some ⟨b, 0, none⟩) c bs := by
  obtain ⟨cur, fr, hg, _, _, h1, h2, h3⟩ := h
  exact sl_of_cells hg h1 h2 h3

section
variable {P : Program} {n : Nat} {ops : Array Oper} {dr : Nat × List Nat} {dq : Nat} {l : List Oper} {E : Env} {w : World} {K : Env → World → Prop}
variable {d : Option Nat} {ty : TypeId} {pos : String} {af : Array Edge} {g : Option (Nat × Bool)} {x y z : Operand} {t t' u by_ : Nat} {s : ByteArray} {c : Nat}

theorem G1_toBytes (hs : StrT P t) (hu : SliceT P t' u 1 by_) (hk : IntT P u .u8) (hx : E.look x = some (.string s)) (hl : s.size ≤ 100000000) (he : effects P dr.1 ⟨d, .convert t t' x, ty, pos, af, g⟩ = true) (hd : dstOk n d = true)
    (h : ∀ b c w', b = w.heap.size → MarkB w' b u c s.data.toList → Ext w w' → w'.heap.size = w.heap.size + 1 → G P n ops dr l (E.put d (.slice (some ⟨b, 0, none⟩) s.data.toList.length c)) w' K) :
    G1 P n ops dr ⟨d, .convert t t' x, ty, pos, af, g⟩ l E w K := by
  have hr := run_bytes_of_string (P := P) w t t' u s hs hu.1 hk
  have hsz : s.data.toList.length = s.size := by rw [Array.length_toList]; rfl
  have hge := grownCap_ge w s.size 0 u
  have hcm : grownCap w s.size 0 u ≤ maxLen := grownCap_le_maxLen w _ 0 u (by simp only [maxLen]; omega)
  have hx' : Ext w (w.drew.alloc (.cells (bytesRow s (grownCap w s.size 0 u)) u ((bytesRow s (grownCap w s.size 0 u)).size, (bytesRow s (grownCap w s.size 0 u)).size + 1))) := Ext.alloc (Ext.drew Ext.rfl') _
  refine G1_eff _ _ he hd (fun a ha => by simp only [execOp, ha.eval hx, Sem.run_bind, hr]; rfl) (.inr hx'.toS) ?_
  have h' := h w.heap.size (grownCap w s.size 0 u) _ rfl ?_ hx' (by simp)
  · rw [hsz] at h'; exact h'
  · refine ⟨_, _, heap_alloc_new w.drew _, Nat.le_refl _, ?_, by omega, hcm, ?_⟩
    · have e0 : s.data.size = s.size := rfl
      unfold bytesRow
      simp only [Array.size_append, Array.size_map, Array.size_replicate]
      omega
    · rw [hsz]
      apply List.ext_getElem?
      intro j
      by_cases hj : j < s.size
      · rw [List.getElem?_take, if_pos hj]
        have hj' : j < s.data.size := hj
        have e1 := bytesRow_at s (grownCap w s.size 0 u) j hj'
        have e2 : (bytesRow s (grownCap w s.size 0 u)).toList[j]? = (bytesRow s (grownCap w s.size 0 u))[j]? := by simp
        rw [e2, e1]
        have hg : s.data.toList[j]? = some s.data[j] := by simp [hj']
        have := flat_get eByte s.data.toList j 0 _ _ hg rfl
        simpa [eByte] using this.symm
      · rw [List.getElem?_take, if_neg hj, List.getElem?_eq_none (by rw [flatByte_len, hsz]; omega)]

theorem G1_appendM {b : Nat} {xs ys : List UInt8} {q : Option Addr} {c2 : Nat} (hu : SliceT P t u 1 1) (hx : E.look x = some (.slice (some ⟨b, 0, none⟩) xs.length c)) (hy : E.look y = some (.slice q ys.length c2)) (hM : MarkB w b u c xs) (hsl : Sl w.heap eByte q c2 ys)
    (hmax : xs.length + ys.length ≤ 1000000000)
    (he : effects P dr.1 ⟨d, .call ⟨.builtin .append, #[x, y], #[t, t]⟩, ty, pos, af, g⟩ = true) (hw : writes dr.1 ⟨d, .call ⟨.builtin .append, #[x, y], #[t, t]⟩, ty, pos, af, g⟩ = true) (hd : dstOk n d = true)
    (h : ∀ p' c' w', Sl w'.heap eByte p' c' (xs ++ ys) → w.grownBy w' (some b) → G P n ops dr l (E.put d (.slice p' (xs ++ ys).length c')) w' K) : G1 P n ops dr ⟨d, .call ⟨.builtin .append, #[x, y], #[t, t]⟩, ty, pos, af, g⟩ l E w K := by
  have hslx := hM.sl
  have key : ∃ p' c' w', (Builtin.append_ #[t, t] ty #[.slice (some ⟨b, 0, none⟩) xs.length c, .slice q ys.length c2]).run P w = .ok (.slice p' (xs ++ ys).length c') w' ∧ Sl w'.heap eByte p' c' (xs ++ ys) ∧ w.grownBy w' (some b) := by
    obtain ⟨cur, fr, hg, hf, hc, h1, h2, h3⟩ := hM
    cases q with
    | none =>
      have e1 := hsl.ok.nul rfl
      have e2 := hsl.ok.le
      obtain rfl : ys = [] := List.eq_nil_of_length_eq_zero (by omega)
      subst e1
      refine ⟨_, c, w, by simpa using run_append_nothing (p := some ⟨b, 0, none⟩) (len := xs.length) (c := c) hu h1 ty w, by simpa using hslx, ⟨rfl, rfl, rfl, Nat.le_refl _, fun _ _ _ => rfl⟩⟩
    | some a =>
      have hn : ∀ j v, (ys.flatMap eByte.enc)[j]? = some v → w.cell? (a.add j) = some v := by
        intro j v hv
        have hne : 0 < ys.length := by cases ys <;> simp_all
        have hspot := hsl.ok.spot a rfl (by have := hsl.ok.le; omega)
        have hcl := hsl.flat j v hv
        obtain ⟨b', o, s⟩ := a
        simp only at hspot
        subst hspot
        rw [addr_add]; exact hcl
      obtain ⟨hu1, i, z, hi, hs1, hb1, hz, hz2⟩ := hu
      have hyl := flatByte_len ys
      have hxl := flatByte_len xs
      by_cases hroom : xs.length + ys.length ≤ c
      · have hst := storeCells_mark P b xs.length u fr (ys.flatMap eByte.enc) 0 cur w hg hf (by rw [hyl, hc]; omega) (flat_one eByte ys)
        simp only [Nat.add_zero, hyl] at hst
        have hld := run_loadCells_list (P := P) w a (ys.flatMap eByte.enc) hn
        rw [hyl] at hld
        refine ⟨some ⟨b, 0, none⟩, c, w.setRow b (cur.toList.take xs.length ++ ys.flatMap eByte.enc ++ cur.toList.drop (xs.length + ys.length)).toArray, ?_, ?_, setRow_grown w b _⟩
        · simp [Builtin.append_, run_underlying hu1, sizeOf, typeInfo, hi, hs1, Builtin.lenOf, hroom, Builtin.firstCells, hld, addr_add, hst]
        · refine sl_of_cells (setRow_heap w b cur _ u _ hg) (by simp; omega) h2 ?_
          have hl1 : (cur.toList.take xs.length).length = xs.length := by simp; omega
          simp only [List.length_append]
          rw [List.take_append_of_le_length (by simp only [List.length_append, hl1, hyl]; omega), List.take_of_length_le (by simp only [List.length_append, hl1, hyl]; omega), h3, List.flatMap_append]
      · have hr := run_append_grow (P := P) w t ty u i z hu1 hi hz ⟨b, 0, none⟩ xs.length c (xs.flatMap eByte.enc) (by rw [hs1, hxl]; omega) (fun j v hv => by rw [addr_add]; exact hslx.flat j v hv) a ys.length c2 (ys.flatMap eByte.enc) (by rw [hs1, hyl]; omega) hn (by omega) (by omega) (growslice_fits (by omega) (by rw [hb1]; omega))
        have hge := grownCap_ge w (xs.length + ys.length) c u
        have hcm : grownCap w (xs.length + ys.length) c u ≤ maxLen := grownCap_le_maxLen w _ c u (by simp only [maxLen]; omega)
        have hN : xs.length + ys.length = (xs ++ ys).length := List.length_append.symm
        rw [hN] at hr hge hcm
        refine ⟨_, _, _, hr, ?_, ⟨rfl, rfl, rfl, by simp, fun k hk _ => Below.heap_alloc w.drew _ k hk⟩⟩
        refine sl_of_cells (heap_alloc_new w.drew _) hge hcm ?_
        simp only [Array.toList_append, List.length_append]
        rw [List.take_append_of_le_length (by simp only [List.length_append, hxl, hyl]; omega), List.take_of_length_le (by simp only [List.length_append, hxl, hyl]; omega), List.flatMap_append]
  obtain ⟨p', c', w', hr, h1, h2⟩ := key
  exact G1_eff _ w' he hd (fun a ha => by simp [execOp, resolve, invoke, builtin, ha.eval hx, ha.eval hy, hr]) (.inl hw) (h p' c' w' h1 h2)
end
end Go.V

/- Requests: decimal digits; a string of bytes that lie apart from the blocks that are turned. -/
namespace Go.V
section
variable {P : Program} {n : Nat} {ops : Array Oper} {dr : Nat × List Nat} {l : List Oper} {E : Env} {w : World} {K : Env → World → Prop}
variable {d : Option Nat} {ty : TypeId} {pos : String} {af : Array Edge} {g : Option (Nat × Bool)} {x : Operand} {t t' u by_ c m : Nat} {p : Option Addr}
theorem G1_toStringS {bs : List UInt8} (hu : SliceT P t u 1 by_) (hi : IntT P u .u8) (hk : StrT P t') (hx : E.look x = some (.slice p m c)) (hm : m = bs.length) (hs : ∀ w', ExtS dr.2 w w' → Sl w'.heap eByte p c bs) (hd : dstOk n d = true)
    (h : G P n ops dr l (E.put d (.string (mkStr bs))) w K) : G1 P n ops dr ⟨d, .convert t t' x, ty, pos, af, g⟩ l E w K := by
  subst hm
  refine G1_quiet _ hd (fun a ha w' hw => ?_) h
  have hw' : ExtS dr.2 w w' := by
    rcases hw with hw | hw
    · simp [readsM] at hw
    · exact hw
  simp [execOp, ha.eval hx, run_toString hu hi hk (hs w' hw')]
end
/-- what lies in a block that may not be turned stays -/
theorem Own.exS {α : Type} {e : Enc α} {S : List Nat} {w w' : World} {B T : Nat} {p : Option Addr} {c : Nat} {xs : List α} (h : Own w B T e p c xs) (hx : ExtS S w w') (hn : ∀ k, blk p = some k → exempt S k = false) : Own w' B T e p c xs := by
  obtain ⟨h1, h2⟩ := h
  refine ⟨h1, ?_⟩
  rcases h2 with h2 | ⟨g, cap, cur, h3, h4, h5, h6⟩
  · exact .inl h2
  · refine .inr ⟨g, cap, cur, h3, h4, ?_, h6⟩
    injection h3 with h3 _ _
    rw [hx.block g (Array.getElem?_eq_some_iff.1 h5).1 (hn g (by rw [h3]; rfl))]
    exact h5
end Go.V
namespace Go.Proofs.YtikjnmpijflnaaaDoor
open Go.V
attribute [local irreducible] Blk Own hcell IntT SliceT PlainT AggT SizeT StrT FieldT ZeroT EqT ArrT
theorem digits_spec {n : Nat} {w : World} (hn : n ≤ 1000000000) (hn0 : 0 < n) : Ctr Tryd.prog 30 [.int .i64 (n : Int)] w (fun v w' => v = .string (mkStr (dec n)) ∧ Ext w w') := by
  have hdl := dec_len hn
  rw [dec_eq] at hdl
  refine Ctr_of Tryd.func30 Tryd.ntmps30 rfl rfl rfl ?_
  repeat' (first | (apply G_on; exact rfl; (apply G1_assign; exact rfl; exact rfl)) | apply G_nil | apply Post_next | apply W_seq | apply W_region | apply W_block)
  refine W_loop (ι := Nat × List UInt8) (fun y => [(0, .int .i64 (y.1 : Int)), (3, .string (mkStr y.2))]) (fun y w' => Ext w w' ∧ y.1 ≤ n ∧ (if y.1 = 0 then [] else Lib.decDigits y.1) ++ y.2 = Lib.decDigits n) (fun y => y.1) (n, []) ⟨rfl, rfl, trivial⟩ ⟨(by repeat first | assumption | exact Ext.rfl' | apply Ext.drew | apply Ext.alloc | refine Ext.trans ?_ (by assumption)), Nat.le_refl _, by rw [if_neg (by simp only; omega), List.append_nil]⟩ ?_
  rintro ⟨u, A⟩ w2 ⟨hx2, hu, hA⟩
  simp only at hu hA
  refine W_keep [(0, .int .i64 (u : Int)), (3, .string (mkStr A))] ⟨rfl, rfl, trivial⟩ ?_
  have hAl : A.length ≤ 20 := by
    have := congrArg List.length hA
    rw [List.length_append] at this
    omega
  by_cases h0 : u = 0
  · rw [if_pos h0, List.nil_append] at hA
    subst h0
    repeat' (first | (apply G_on; exact rfl; first | ((first | apply G1_assign | apply G1_move); exact rfl; exact rfl) | (apply G1_gtr; exact rfl; exact rfl; exact rfl)) | apply G_nil | apply Post_next | apply W_seq | apply W_region | (apply W_cond_false; exact rfl) | apply W_exit | apply W_ret | apply Post_then_exit | apply Post_block_exit)
    all_goals try (exfalso; omega)
    refine Post_ret Tryd.results30 ⟨_, _, rfl, rfl, rfl⟩ ?_
    exact ⟨by rw [hA, dec_eq]; rfl, (by repeat first | assumption | exact Ext.rfl' | apply Ext.drew | apply Ext.alloc | refine Ext.trans ?_ (by assumption))⟩
  · rw [if_neg h0] at hA
    obtain ⟨c, hc⟩ : ∃ c : UInt8, c = UInt8.ofNat (48 + u % 10) := ⟨_, rfl⟩
    have hct : c.toNat = 48 + u % 10 := by rw [hc, UInt8.toNat_ofNat']; omega
    have q1 : (u : Int).tmod 10 = ((u % 10 : Nat) : Int) := by rw [Int.tmod_eq_emod_of_nonneg (by omega)]; push_cast; rfl
    have q1' : IntKind.i64.wrap ((u : Int).tmod 10) = ((u % 10 : Nat) : Int) := by rw [q1]; exact wrap_i64 (by omega) (by omega)
    have q3 : IntKind.u8.wrap (48 + ((u % 10 : Nat) : Int)) = (c.toNat : Int) := by rw [hct]; rw [show (48 : Int) + ((u % 10 : Nat) : Int) = ((48 + u % 10 : Nat) : Int) by omega]; exact wrap_u8 (by omega) (by omega)
    have q4 : IntKind.i64.wrap ((u : Int).tdiv 10) = ((u / 10 : Nat) : Int) := by rw [Int.tdiv_eq_ediv_of_nonneg (by omega), show (u : Int) / 10 = ((u / 10 : Nat) : Int) by omega]; exact wrap_i64 (by omega) (by omega)
    repeat' (first | (apply G_on; exact rfl; first | ((first | apply G1_assign | apply G1_move); exact rfl; exact rfl) | (apply G1_remE (r := ((u % 10 : Nat) : Int)); exact rfl; exact rfl; decide; (first | exact q1 | exact q1'); exact rfl) | (apply G1_convE (j := (c.toNat : Int)); exact rfl; exact T.i3; exact T.i5; exact q3; exact rfl) | (apply G1_build1 eByte c; exact T.s28; exact rfl; exact rfl; exact rfl; decide; exact rfl; exact rfl; intro p3 w3 hp3 hs3 _ hx3 hz3) | (apply G1_toString (bs := [c]); exact T.s28; exact T.i5; exact T.str9; exact rfl; exact hs3; exact rfl) | (apply G1_saddL; exact rfl; exact rfl; exact rfl; exact rfl; (simp only [List.length_cons, List.length_nil]; omega); exact rfl) | (apply G1_quoE (r := ((u / 10 : Nat) : Int)); exact rfl; exact rfl; decide; exact q4; exact rfl) | (apply G1_gtr; exact rfl; exact rfl; exact rfl) | (apply G1_add; exact rfl; exact rfl; omega; omega; exact rfl)) | apply G_nil | apply Post_next | apply W_seq | apply W_region | (apply W_cond_dec; exact rfl; all_goals (intro h; try (exfalso; omega))) | apply W_skip | apply W_block | apply Post_block_normal)
    all_goals try (exfalso; omega)
    refine Post_round (u / 10, [c] ++ A) ⟨rfl, rfl, trivial⟩ ⟨(by repeat first | assumption | exact Ext.rfl' | apply Ext.drew | apply Ext.alloc | refine Ext.trans ?_ (by assumption)), by simp only; omega, ?_⟩ (by simp only; omega)
    simp only
    rw [← hA]
    by_cases h10 : u < 10
    · rw [if_pos (by omega), List.nil_append, Lib.decDigits, dif_pos h10, hc, show u % 10 = u by omega]
    · rw [if_neg (by omega), Lib.decDigits.eq_def u, dif_neg h10, hc, List.append_assoc]
end Go.Proofs.YtikjnmpijflnaaaDoor

/- RequestBounds: the law's walk. -/
namespace Go.Proofs.YtikjnmpijflnaaaDoor
open Go.V
attribute [local irreducible] Blk Own hcell IntT SliceT PlainT AggT SizeT StrT FieldT ZeroT EqT ArrT
theorem dec1 : dec 1 = [49] := by decide +kernel
theorem bytes_mk (l : List UInt8) : bytesOf (mkStr l) = l := by unfold bytesOf mkStr; simp
def lineA (n : Nat) : List UInt8 := [42, 49, 13, 10, 36] ++ dec n ++ [13, 10] ++ List.replicate n 120 ++ [13, 10]
def lineB (n : Nat) : List UInt8 := [42] ++ dec n ++ [13, 10] ++ (List.replicate n [36, 49, 13, 10, 97, 13, 10]).flatten
def lineC (n : Nat) : List UInt8 := List.replicate n 120 ++ [13, 10]
theorem runA {n : Nat} (hn : n ≤ 4096) : runP rs0 ([] ++ lineA n) = ⟨[[mkStr (List.replicate n 120)]], rs0, [], 0⟩ := by
  have hsz : (mkStr (List.replicate n (120 : UInt8))).size = n := by rw [mkStr_size, List.length_replicate]
  have h := run_print (l := [mkStr (List.replicate n 120)]) [] ⟨by simp, by simp, fun w hw => by rw [List.mem_singleton.1 hw, hsz]; exact hn⟩
  have e : lineA n = prB [mkStr (List.replicate n 120)] := by
    unfold lineA prB prHead
    simp [hsz, bytes_mk, prW, dec1]
  rw [List.append_nil, run_nil] at h
  rw [List.nil_append, e, h]
theorem bad_dollar {r : RS} {n : Nat} (m : List UInt8) (hr : 0 < r.left) (hz : r.size < 0) (h2 : 4096 < n) (h3 : n ≤ 1000000) : stepP r ((36 :: dec n) ++ 13 :: 10 :: m) = .fault 12 := by
  have hd := dec_len (n := n) (by omega)
  have hl := line_of m (s := 36 :: dec n) (fun c hc => by
    rcases List.mem_cons.1 hc with hc | hc
    · rw [hc]; decide
    · exact dec_ne10 c hc) (by rw [List.length_cons]; omega)
  unfold stepP
  rw [if_neg (by omega), if_pos hz, hl]
  simp only
  have e : numP (36 :: dec n) 36 0 4096 = .error 12 := by
    unfold numP
    simp only
    rw [if_pos trivial, dec_num (by omega)]
    simp only
    rw [if_neg (by omega), if_pos (by omega)]
  rw [e]
theorem bad_star {n : Nat} (m : List UInt8) (h2 : 128 < n) (h3 : n ≤ 1000000) : stepP rs0 ((42 :: dec n) ++ 13 :: 10 :: m) = .fault 12 := by
  have hd := dec_len (n := n) (by omega)
  have hl := line_of m (s := 42 :: dec n) (fun c hc => by
    rcases List.mem_cons.1 hc with hc | hc
    · rw [hc]; decide
    · exact dec_ne10 c hc) (by rw [List.length_cons]; omega)
  unfold stepP
  rw [if_pos (show rs0.left = 0 from rfl), hl]
  simp only
  rw [if_pos (show (42 :: dec n).head? = some 42 from rfl)]
  have e : numP (42 :: dec n) 42 1 128 = .error 12 := by
    unfold numP
    simp only
    rw [if_pos trivial, dec_num (by omega)]
    simp only
    rw [if_neg (by omega), if_pos (by omega)]
  rw [e]
theorem runA' {n : Nat} (hn : 4096 < n) (hn2 : n ≤ 1000000) : (runP rs0 ([] ++ lineA n)).err = 12 := by
  have s1 := step_star (n := 1) ((36 :: dec n) ++ 13 :: 10 :: (List.replicate n 120 ++ [13, 10])) (by decide) (by decide)
  have e : [] ++ lineA n = (42 :: dec 1) ++ 13 :: 10 :: ((36 :: dec n) ++ 13 :: 10 :: (List.replicate n 120 ++ [13, 10])) := by
    unfold lineA; rw [dec1]; simp
  have d : ((42 :: dec 1) ++ 13 :: 10 :: ((36 :: dec n) ++ 13 :: 10 :: (List.replicate n 120 ++ [13, 10]))).drop ((dec 1).length + 3) = (36 :: dec n) ++ 13 :: 10 :: (List.replicate n 120 ++ [13, 10]) := by
    rw [dec1]; rfl
  rw [e, run_go s1, d, run_fault (bad_dollar _ (by simp) (by simp) hn hn2)]
theorem prW_a : prW ⟨#[97]⟩ = [36, 49, 13, 10, 97, 13, 10] := by decide +kernel
theorem runB {n : Nat} (hn : n ≤ 128) (hn0 : 0 < n) : runP rs0 ([] ++ lineB n) = ⟨[List.replicate n ⟨#[97]⟩], rs0, [], 0⟩ := by
  have h := run_print (l := List.replicate n (⟨#[97]⟩ : ByteArray)) [] ⟨fun e => by have := congrArg List.length e; simp at this; omega, by simpa using hn, fun w hw => by rw [List.eq_of_mem_replicate hw]; decide⟩
  have e2 : ∀ m : Nat, (List.replicate m (⟨#[97]⟩ : ByteArray)).flatMap prW = (List.replicate m [36, 49, 13, 10, 97, 13, 10]).flatten := by
    intro m
    rw [List.flatMap_def, List.map_replicate, prW_a]
  have e : lineB n = prB (List.replicate n ⟨#[97]⟩) := by
    unfold lineB prB prHead
    rw [List.length_replicate, e2]
    simp
  rw [List.append_nil, run_nil] at h
  rw [List.nil_append, e, h]
theorem runB' {n : Nat} (hn : 128 < n) (hn2 : n ≤ 1000000) : (runP rs0 ([] ++ lineB n)).err = 12 ∧ (runP rs0 ([] ++ lineB n)).out = [] := by
  have e : [] ++ lineB n = (42 :: dec n) ++ 13 :: 10 :: (List.replicate n [36, 49, 13, 10, 97, 13, 10]).flatten := by
    unfold lineB; simp
  rw [e, run_fault (bad_star _ hn hn2)]
  exact ⟨rfl, rfl⟩
theorem cutG_one : ∀ (s w : List UInt8), (∀ c ∈ s, c ≠ 32) → w ++ s ≠ [] → cutG w s = [w ++ s]
  | [], w, _, h => by
    rw [List.append_nil] at h ⊢
    show (if w = [] then [] else [w]) = [w]
    rw [if_neg h]
  | c :: s, w, h, _ => by
    rw [cutG_cons, if_neg (h c (by simp)), cutG_one s (w ++ [c]) (fun x hx => h x (by simp [hx])) (by simp)]
    simp
theorem runC {m : Nat} (hm : m ≤ 1024) (hm0 : 0 < m) : runP rs0 ([] ++ lineC m) = ⟨[[mkStr (List.replicate m 120)]], rs0, [], 0⟩ := by
  have hne : List.replicate m (120 : UInt8) ≠ [] := fun e => by have := congrArg List.length e; simp at this; omega
  have hc := cutG_one (List.replicate m 120) [] (fun c hc => by rw [List.eq_of_mem_replicate hc]; decide) hne
  rw [List.nil_append] at hc
  have s1 := step_inline (s := List.replicate m 120) [] (fun c hc => by rw [List.eq_of_mem_replicate hc]; decide) (by simpa using hm) (by
    cases m with
    | zero => omega
    | succ m => rw [List.replicate_succ]; simp) (by rw [hc]; simp)
  rw [hc, if_neg (by simp)] at s1
  have e : [] ++ lineC m = List.replicate m 120 ++ 13 :: 10 :: [] := rfl
  have d : (List.replicate m 120 ++ 13 :: 10 :: ([] : List UInt8)).drop ((List.replicate m (120 : UInt8)).length + 2) = [] := by
    rw [List.drop_eq_nil_iff]; simp
  rw [e, run_go s1, d, run_nil]
  rfl
theorem runC' {m : Nat} (hm : 1024 < m) (hm2 : m ≤ 1000000) : (runP rs0 ([] ++ lineC m)).err = 12 ∧ (runP rs0 ([] ++ lineC m)).out = [] := by
  have e1 : [] ++ lineC m = (List.replicate m 120 ++ [13]) ++ 10 :: [] := by unfold lineC; simp
  have e2 : nlAt ([] ++ lineC m) = m + 1 := by
    rw [e1, nlAt_app10 [] (fun c hc => by
      rcases List.mem_append.1 hc with hc | hc
      · rw [List.eq_of_mem_replicate hc]; decide
      · rw [List.mem_singleton.1 hc]; decide)]
    simp
  have e3 : ([] ++ lineC m).length = m + 2 := by unfold lineC; simp
  have hs : stepP rs0 ([] ++ lineC m) = .fault 12 := by
    have hl : lineP ([] ++ lineC m) = .err 12 := by
      unfold lineP
      rw [e2, e3, if_neg (by omega), if_neg (by omega)]
    unfold stepP
    rw [if_pos (show rs0.left = 0 from rfl), hl]
  rw [run_fault hs]
  exact ⟨rfl, rfl⟩
theorem zero_u8 : ZeroT Tryd.prog 5 (.int .u8 0) := T.zero5
theorem rep_snoc {n j : Nat} (hj : j < n) : (List.replicate j (120 : UInt8) ++ List.replicate (n - j) 0).set j 120 = List.replicate (j + 1) 120 ++ List.replicate (n - (j + 1)) 0 := by
  obtain ⟨m, hm⟩ : ∃ m, n - j = m + 1 := ⟨n - j - 1, by omega⟩
  rw [hm, List.replicate_succ, List.set_append, List.length_replicate, if_neg (by omega), Nat.sub_self, List.set_cons_zero, List.replicate_succ', show n - (j + 1) = m by omega]
  simp
/-- a new reader, while another one's cells are turned -/
theorem rd_other {w0 w w' : World} {br B : Nat} {F : Nat → Prop} (hR : RdSt w0 w br B none 0 [] 0 none 0 rs0 0) (hf : FrS F w w') (hn : ¬ F br) (he : Ext w0 w') : RdSt w0 w' br B none 0 [] 0 none 0 rs0 0 :=
  ⟨hf.blk hR.blk hn, Own.nil _ _ _ _, Own.nil _ _ _ _, he, hR.h0, hR.lt, Nat.le_trans hR.hB hf.size, hR.la⟩
theorem FrS_toS {w w' : World} {ar : Nat} (h : FrS (fun k => k = ar ∨ blk (none : Option Addr) = some k ∨ blk (none : Option Addr) = some k) w w') : ExtS [ar] w w' :=
  ⟨h.os, h.tape, h.output, h.size, fun k hk hs => h.block k hk (fun e => by
    rcases e with e | e | e
    · subst e; simp [exempt] at hs
    · cases e
    · cases e)⟩
theorem exB1 {a k : Nat} (h : k ≠ a) : exempt [a] k = false := by simp [exempt, h]
def crlfL : ByteArray := ⟨#[13, 10]⟩
set_option maxHeartbeats 4000000 in
theorem requestBounds_spec {more : Int} {w : World} (hm : -9223372036854775808 ≤ more ∧ more ≤ 9223372036854775807) (hT : Pow w) (hE : Errs w) :
    Ctr Tryd.prog 6 [.int .i64 more] w (fun v w' => v = .bool true ∧ Ext w w') := by
  obtain ⟨r1, hr1⟩ : ∃ r1 : Int, r1 = more.tmod 4 := ⟨_, rfl⟩
  have hrb : -3 ≤ r1 ∧ r1 ≤ 3 := by
    have h1 := Int.tmod_lt_of_pos more (b := 4) (by decide)
    have h2 := Int.neg_tmod more 4
    have h3 := Int.tmod_lt_of_pos (-more) (b := 4) (by decide)
    omega
  obtain ⟨k, hk⟩ : ∃ k : Nat, (r1 + 4).tmod 4 = (k : Int) := ⟨((r1 + 4) % 4).toNat, by rw [Int.tmod_eq_emod_of_nonneg (by omega)]; omega⟩
  have hk3 : k ≤ 3 := by
    rw [Int.tmod_eq_emod_of_nonneg (by omega)] at hk
    omega
  have q1 : IntKind.i64.wrap (more.tmod 4) = r1 := by rw [← hr1]; exact wrap_i64 (by omega) (by omega)
  have q2 : IntKind.i64.wrap ((r1 + 4).tmod 4) = (k : Int) := by rw [hk]; exact wrap_i64 (by omega) (by omega)
  have haw := fun w' (hx : Ext w w') => awake05 (TabIs.ext hT hx) (hE.ext hx)
  refine Ctr_of Tryd.func6 Tryd.ntmps6 rfl rfl rfl ?_
  repeat' (first | (apply G_on; exact rfl; first | ((first | apply G1_assign | apply G1_move); exact rfl; exact rfl) | (apply G1_call (f := 24); exact rfl; exact rfl; exact rfl; exact haw _ (by repeat first | assumption | exact Ext.rfl' | apply Ext.drew | apply Ext.alloc | refine Ext.trans ?_ (by assumption)); rintro _ w1 ⟨rfl, hx1⟩; refine ⟨(by first | exact .inl rfl | exact .inr (by assumption)), ?_⟩) | (apply G1_remE (r := r1); exact rfl; exact rfl; decide; (first | exact hr1.symm | exact q1); exact rfl) | (apply G1_remE (r := (k : Int)); exact rfl; exact rfl; decide; (first | exact hk | exact q2); exact rfl) | (apply G1_not_t; exact rfl; exact rfl) | (apply G1_add; exact rfl; exact rfl; omega; omega; exact rfl)) | apply G_nil | apply Post_next | apply W_seq | apply W_region | (apply W_cond_false; exact rfl) | apply W_skip)
  have hx01 : Ext w w1 := (by repeat first | assumption | exact Ext.rfl' | apply Ext.drew | apply Ext.alloc | refine Ext.trans ?_ (by assumption))
  obtain ⟨N, hN⟩ : ∃ N : Nat, N = 4094 + k := ⟨_, rfl⟩
  apply G_on; exact rfl
  apply G1_makeN eByte 0; exact T.s28; exact rfl; exact rfl; exact rfl; exact zero_u8; exact rfl; omega; omega; omega; exact rfl; exact rfl
  intro p2 w2 hO2 hx2 hs2
  rw [show ((4094 : Int) + (k : Int)).toNat = N by omega] at hO2 ⊢
  rw [List.length_replicate]
  have hx02 : Ext w w2 := hx01.trans hx2
  repeat' (first | (apply G_on; exact rfl; (apply G1_assign; exact rfl; exact rfl)) | apply G_nil | apply Post_next | apply W_seq | apply W_region | apply W_block)
  refine W_loop (ι := Nat) (fun y => [(3, .int .i64 (k : Int)), (4, .slice p2 N N), (5, .int .i64 (y : Int))])
    (fun y w' => Ext w w' ∧ y ≤ N ∧ Own w' w.heap.size 5 eByte p2 N (List.replicate y 120 ++ List.replicate (N - y) 0)) (fun y => N - y) 0 ⟨rfl, rfl, rfl, trivial⟩
    ⟨(by repeat first | assumption | exact Ext.rfl' | apply Ext.drew | apply Ext.alloc | refine Ext.trans ?_ (by assumption)), Nat.zero_le _, (hO2.base hx01.size).ext (by repeat first | assumption | exact Ext.rfl' | apply Ext.drew | apply Ext.alloc | refine Ext.trans ?_ (by assumption))⟩ ?_
  rintro j w3 ⟨hx3, hj, hO3⟩
  refine W_keep [(3, .int .i64 (k : Int)), (4, .slice p2 N N), (5, .int .i64 (j : Int))] ⟨rfl, rfl, rfl, trivial⟩ ?_
  have hlenR : (List.replicate j (120 : UInt8) ++ List.replicate (N - j) 0).length = N := by simp; omega
  have hok3 := hO3.sl.ok
  rw [hlenR] at hok3
  by_cases hjl : j < N
  · have hget : (List.replicate j (120 : UInt8) ++ List.replicate (N - j) 0)[j]? = some 0 := by
      rw [List.getElem?_append_right (by simp), List.length_replicate, Nat.sub_self, List.getElem?_replicate, if_pos (by omega)]
    repeat' (first | (apply G_on; exact rfl; first | (apply G1_move; exact rfl; exact rfl) | (apply G1_indexAddrJ (q := j); exact T.s28; exact rfl; exact rfl; exact rfl; exact hok3; exact hjl; exact rfl) | (apply G1_len; exact T.s28; exact rfl; exact rfl) | (apply G1_lss; exact rfl; exact rfl; exact rfl)) | apply G_nil | apply Post_next | apply W_seq | apply W_region | (apply W_cond_dec; exact rfl; all_goals (intro h; try (exfalso; omega))) | apply W_skip | apply W_block)
    all_goals try (exfalso; omega)
    apply G_on; exact rfl
    apply G1_storeEl (off := 0) (q := j) (120 : UInt8); exact T.z5; exact rfl; exact rfl; exact hO3; exact hget; exact rfl; exact rfl; decide; exact rfl; exact rfl; exact hx3.size; exact rfl; exact rfl; exact rfl
    intro w4 ha4 hz4
    rw [rep_snoc hjl] at ha4
    have hx4 : Ext w w4 := hx3.app ha4 (fun k hk => (hO3.ge k hk).1)
    repeat' (first | (apply G_on; exact rfl; first | ((first | apply G1_assign | apply G1_move); exact rfl; exact rfl) | (apply G1_add; exact rfl; exact rfl; omega; omega; exact rfl)) | apply G_nil | apply Post_next | apply W_region | apply Post_block_normal)
    exact Post_round (j + 1) ⟨rfl, rfl, rfl, trivial⟩ ⟨(by repeat first | assumption | exact Ext.rfl' | apply Ext.drew | apply Ext.alloc | refine Ext.trans ?_ (by assumption)), hjl, by first | exact ha4.own | exact ha4.own.ext (by repeat first | assumption | exact Ext.rfl' | apply Ext.drew | apply Ext.alloc | refine Ext.trans ?_ (by assumption))⟩ (by omega)
  have hjN : j = N := by omega
  rw [hjN, Nat.sub_self, List.replicate_zero, List.append_nil] at hO3
  repeat' (first | (apply G_on; exact rfl; first | (apply G1_move; exact rfl; exact rfl) | (apply G1_len; exact T.s28; exact rfl; exact rfl) | (apply G1_lss; exact rfl; exact rfl; exact rfl)) | apply G_nil | apply Post_next | apply W_seq | apply W_region | (apply W_cond_dec; exact rfl; all_goals (intro h; try (exfalso; omega))) | apply W_exit | apply Post_then_exit | apply Post_block_exit)
  all_goals try (exfalso; omega)
  apply G_on; exact rfl; apply G1_call; exact rfl; exact rfl; exact rfl; exact new_spec; rintro _ w4 ⟨hx4, ar, rfl, hR4⟩; refine ⟨(by first | exact .inl rfl | exact .inr (by assumption)), ?_⟩
  skip
  apply G_on; exact rfl; apply G1_call; exact rfl; exact rfl; exact rfl; exact new_spec; rintro _ w5 ⟨hx5, br, rfl, hR5⟩; refine ⟨(by first | exact .inl rfl | exact .inr (by assumption)), ?_⟩
  skip
  apply G_on; exact rfl; apply G1_call; exact rfl; exact rfl; exact rfl; exact new_spec; rintro _ w6 ⟨hx6, cr, rfl, hR6⟩; refine ⟨(by first | exact .inl rfl | exact .inr (by assumption)), ?_⟩
  have hx34 := hx4
  have hx35 := hx4.trans hx5
  have hx36 := hx35.trans hx6
  have ba := hR4.h0
  have bb := hR5.h0
  have bc := hR6.h0
  have la := hR4.blk.lt
  have lb := hR5.blk.lt
  have z34 := hx34.size
  have z45 := hx5.size
  have z56 := hx6.size
  have hRa : RdSt w3 w6 ar (ar + 1) none 0 [] 0 none 0 rs0 0 := hR4.xt (hx5.trans hx6)
  have hRb : RdSt w3 w6 br (br + 1) none 0 [] 0 none 0 rs0 0 := ⟨(hR5.xt hx6).blk, Own.nil _ _ _ _, Own.nil _ _ _ _, hx36, by omega, hR5.lt, (hR5.xt hx6).hB, Nat.zero_le _⟩
  have hRc : RdSt w3 w6 cr (cr + 1) none 0 [] 0 none 0 rs0 0 := ⟨hR6.blk, Own.nil _ _ _ _, Own.nil _ _ _ _, hx36, by omega, hR6.lt, hR6.hB, Nat.zero_le _⟩
  have hT3 := TabIs.ext hT hx3
  have hE3 := hE.ext hx3
  have hO6 := hO3.ext hx36
  repeat' (first | (apply G_on; exact rfl; first | ((first | apply G1_assign | apply G1_move); exact rfl; exact rfl) | (apply G1_pnileql; exact Tryd.underlying38; exact rfl; exact rfl; exact rfl) | (apply G1_pick_f; exact rfl; exact rfl; exact rfl)) | apply G_nil | apply Post_next | apply W_seq | apply W_region | (apply W_cond_false; exact rfl) | apply W_skip)
  refine W_drawn 1 [ar] [0,1,2,6,7,3,4,5,8,9,10,11,12,13,14,15,16,17] mixed (by decide +kernel) ?_
  have eA : (⟨#[42, 49, 13, 10, 36]⟩ : ByteArray) = mkStr [42, 49, 13, 10, 36] := rfl
  have eC : (⟨#[13, 10]⟩ : ByteArray) = mkStr [13, 10] := rfl
  have hdl := dec_len (n := N) (by omega)
  have npr : ∀ k, blk p2 = some k → exempt [ar] k = false := fun k hk => exB1 (fun e => by have := (hO3.ge k hk).2; omega)
  have hdg := fun w' => digits_spec (n := N) (w := w') (by omega) (by omega)
  have hSS : ∀ {w7 w' : World}, Ext w6 w7 → ExtS [ar] w7 w' → Sl w'.heap eByte p2 N (List.replicate N 120) := fun hx hy => ((hO6.ext hx).exS hy npr).sl
  repeat' (apply G_on; exact rfl; first | (apply G1_move; exact rfl; exact rfl) | (apply G1_call (f := 30); exact rfl; exact rfl; exact rfl; exact hdg _; rintro _ w7 ⟨rfl, hx7⟩; refine ⟨(by first | exact .inl rfl | exact .inr (by assumption)), ?_⟩) | (apply G1_toStringS (bs := List.replicate N 120); exact T.s28; exact T.i5; exact T.str9; exact rfl; exact (List.length_replicate).symm; exact fun w' hy => hSS (by exact (by repeat first | assumption | exact Ext.rfl' | apply Ext.drew | apply Ext.alloc | refine Ext.trans ?_ (by assumption))) hy; exact rfl) | (apply G1_saddL; exact rfl; exact rfl; (first | exact eA | exact rfl); (first | exact eC | exact rfl); (simp only [List.length_append, List.length_replicate, List.length_cons, List.length_nil]; omega); exact rfl) | (apply G1_len; exact T.s28; exact rfl; exact rfl))
  have hlA : ([42, 49, 13, 10, 36] ++ dec N ++ [13, 10] ++ List.replicate N 120 ++ [13, 10] : List UInt8) = lineA N := rfl
  rw [hlA]
  have hAl : (lineA N).length ≤ 5000 := by rw [← hlA]; simp only [List.length_append, List.length_replicate, List.length_cons, List.length_nil]; omega
  have hAs := mkStr_size (lineA N)
  have hx67 : Ext w6 w7 := (by repeat first | assumption | exact Ext.rfl' | apply Ext.drew | apply Ext.alloc | refine Ext.trans ?_ (by assumption))
  apply G_on; exact rfl
  apply G1_toBytes; exact T.str9; exact T.s28; exact T.i5; exact rfl; omega; kernel_rfl; exact rfl
  intro b8 c8 w8 hb8 hM8 hx8 hz8
  rw [mkStr_data] at hM8 ⊢
  skip
  apply G_on; exact rfl
  apply G1_build1 eSlc (bx b8, (lineA N).length, c8); exact T.s76; exact rfl; exact rfl; exact rfl; decide; exact rfl; exact rfl
  intro p9 w9 hp9 hs9 _ hx9 hz9
  have hx69 : Ext w6 w9 := (hx67.trans hx8).trans hx9
  have hfdA := feed_one hRa hx69 hs9 (fun y hy => by rw [hp9] at hy; injection hy with hy; rw [← hy]; exact (hx67.trans hx8).size) (hM8.sl.ext hx9) (fun y hy => by injection hy with hy; rw [← hy, hb8]; exact hx67.size) (by simp only [List.length_nil]; omega) (Nat.zero_le _) hT3 hE3 good0
  skip
  apply G_on; exact rfl; apply G1_callS (f := 26); exact rfl; exact rfl; exact rfl; exact hfdA; intro v w10 hv; refine ⟨.inr (FrS_toS hv.fr), ?_⟩
  obtain ⟨hf10, pdA, cdA, hsA, paA, caA, pwA, cwA, rfl, hOA, hCA, _, _, hokA, hbadA⟩ := hv
  have hx310 : Ext w3 w10 := by
    by_cases e : (runP rs0 ([] ++ lineA N)).err = 0
    · exact (hokA e).ext
    · exact (hbadA e).ext
  have nF : ∀ {r k : Nat}, k ≠ r → ¬ (k = r ∨ blk (none : Option Addr) = some k ∨ blk (none : Option Addr) = some k) := fun h e => by
    rcases e with e | e | e
    · exact h e
    · cases e
    · cases e
  have hRb10 := rd_other (hRb.xt hx69) hf10 (nF (by omega)) hx310
  have hRc10 := rd_other (hRc.xt hx69) hf10 (nF (by omega)) hx310
  have hO10 := (hO6.ext hx69).fr hf10 (fun k hk => nF (fun e => by have := (hO3.ge k hk).2; omega))
  have hdgB := fun w' => digits_spec (n := 126 + k) (w := w') (by omega) (by omega)
  have hdB := dec_len (n := 126 + k) (by omega)
  rw [show (((126 + k : Nat) : Nat) : Int) = 126 + (k : Int) by omega] at hdgB
  have eS : (⟨#[42]⟩ : ByteArray) = mkStr [42] := rfl
  repeat' (first | (apply G_on; exact rfl; first | ((first | apply G1_assign | apply G1_move); exact rfl; exact rfl) | (apply G1_call (f := 30); exact rfl; exact rfl; exact rfl; exact hdgB _; rintro _ w11 ⟨rfl, hx11⟩; refine ⟨(by first | exact .inl rfl | exact .inr (by assumption)), ?_⟩) | (apply G1_saddL; exact rfl; exact rfl; (first | exact eS | exact rfl); (first | exact eC | exact rfl); (simp only [List.length_append, List.length_replicate, List.length_cons, List.length_nil]; omega); exact rfl) | (apply G1_add; exact rfl; exact rfl; omega; omega; exact rfl) | (apply G1_extract; exact rfl; exact rfl; exact rfl)) | apply G_nil | apply Post_next | apply W_seq | apply W_region | apply W_block)
  obtain ⟨M, hM⟩ : ∃ M, M = 126 + k := ⟨_, rfl⟩
  rw [← hM]
  obtain ⟨eA, heA⟩ : ∃ e, (runP rs0 ([] ++ lineA N)).err = e := ⟨_, rfl⟩
  rw [← hM] at hdB
  have hx1011 : Ext w10 w11 := (by repeat first | assumption | exact Ext.rfl' | apply Ext.drew | apply Ext.alloc | refine Ext.trans ?_ (by assumption))
  refine W_loop (ι := Nat) (fun y => [(3, .int .i64 (k : Int)), (4, .slice p2 N N), (7, .pointer (some (adr (bx br) 0))), (8, .pointer (some (adr (bx cr) 0))), (10, .int .i64 eA), (11, .string (mkStr ([42] ++ dec M ++ [13, 10] ++ (List.replicate y [36, 49, 13, 10, 97, 13, 10]).flatten))), (12, .int .i64 (y : Int))])
    (fun y w' => Ext w10 w' ∧ y ≤ M) (fun y => M - y) 0 ⟨rfl, rfl, rfl, rfl, by rw [← heA]; rfl, by simp; rfl, rfl, trivial⟩ ⟨hx1011, Nat.zero_le _⟩ ?_
  rintro j w12 ⟨hx12, hjM⟩
  refine W_keep [(3, .int .i64 (k : Int)), (4, .slice p2 N N), (7, .pointer (some (adr (bx br) 0))), (8, .pointer (some (adr (bx cr) 0))), (10, .int .i64 eA), (11, .string (mkStr ([42] ++ dec M ++ [13, 10] ++ (List.replicate j [36, 49, 13, 10, 97, 13, 10]).flatten))), (12, .int .i64 (j : Int))] ⟨rfl, rfl, rfl, rfl, rfl, rfl, rfl, trivial⟩ ?_
  have hfl : (List.replicate j ([36, 49, 13, 10, 97, 13, 10] : List UInt8)).flatten.length = j * 7 := by simp
  have eW : (⟨#[36, 49, 13, 10, 97, 13, 10]⟩ : ByteArray) = mkStr [36, 49, 13, 10, 97, 13, 10] := rfl
  by_cases hjl2 : j < M
  · repeat' (first | (apply G_on; exact rfl; first | ((first | apply G1_assign | apply G1_move); exact rfl; exact rfl) | (apply G1_saddL; exact rfl; exact rfl; exact rfl; exact eW; (simp only [List.length_append, List.length_cons, List.length_nil]; omega); exact rfl) | (apply G1_add; exact rfl; exact rfl; omega; omega; exact rfl) | (apply G1_lss; exact rfl; exact rfl; exact rfl)) | apply G_nil | apply Post_next | apply W_seq | apply W_region | (apply W_cond_dec; exact rfl; all_goals (intro h; try (exfalso; omega))) | apply W_skip | apply W_block | apply Post_block_normal)
    all_goals try (exfalso; omega)
    refine Post_round (j + 1) ⟨rfl, rfl, rfl, rfl, rfl, ?_, rfl, trivial⟩ ⟨(by repeat first | assumption | exact Ext.rfl' | apply Ext.drew | apply Ext.alloc | refine Ext.trans ?_ (by assumption)), hjl2⟩ (by omega)
    show some (Value.string (mkStr ([42] ++ dec M ++ [13, 10] ++ (List.replicate j [36, 49, 13, 10, 97, 13, 10]).flatten ++ [36, 49, 13, 10, 97, 13, 10]))) = some (Value.string (mkStr ([42] ++ dec M ++ [13, 10] ++ (List.replicate (j + 1) [36, 49, 13, 10, 97, 13, 10]).flatten)))
    rw [List.replicate_succ', List.flatten_append]
    congr 3
    simp
  have hjM2 : j = M := by omega
  rw [hjM2]
  rw [hjM2] at hfl
  have hlB : [42] ++ dec M ++ [13, 10] ++ (List.replicate M [36, 49, 13, 10, 97, 13, 10]).flatten = lineB M := rfl
  rw [hlB]
  have hBl : (lineB M).length ≤ 5000 := by rw [← hlB]; simp only [List.length_append, List.length_cons, List.length_nil]; omega
  have hBs := mkStr_size (lineB M)
  repeat' (first | (apply G_on; exact rfl; first | (apply G1_move; exact rfl; exact rfl) | (apply G1_add; exact rfl; exact rfl; omega; omega; exact rfl) | (apply G1_lss; exact rfl; exact rfl; exact rfl)) | apply G_nil | apply Post_next | apply W_seq | apply W_region | (apply W_cond_dec; exact rfl; all_goals (intro h; try (exfalso; omega))) | apply W_exit | apply Post_then_exit | apply Post_block_exit)
  all_goals try (exfalso; omega)
  apply G_on; exact rfl
  apply G1_toBytes; exact T.str9; exact T.s28; exact T.i5; exact rfl; omega; exact rfl; exact rfl
  intro b13 c13 w13 hb13 hM13 hx13 hz13
  rw [mkStr_data] at hM13 ⊢
  skip
  apply G_on; exact rfl
  apply G1_build1 eSlc (bx b13, (lineB M).length, c13); exact T.s76; exact rfl; exact rfl; exact rfl; decide; exact rfl; exact rfl
  intro p14 w14 hp14 hs14 _ hx14 hz14
  have hx1013 : Ext w10 w13 := (by repeat first | assumption | exact Ext.rfl' | apply Ext.drew | apply Ext.alloc | refine Ext.trans ?_ (by assumption))
  have hx1014 : Ext w10 w14 := hx1013.trans hx14
  have hx1213 : w10.heap.size ≤ b13 := by rw [hb13]; exact hx12.size
  have hfdB := feed_one hRb10 hx1014 hs14 (fun y hy => by rw [hp14] at hy; injection hy with hy; rw [← hy]; exact hx1013.size) (hM13.sl.ext hx14) (fun y hy => by injection hy with hy; rw [← hy]; exact hx1213) (by simp only [List.length_nil]; omega) (Nat.zero_le _) hT3 hE3 good0
  skip
  apply G_on; exact rfl; apply G1_call (f := 26); exact rfl; exact rfl; exact rfl; exact hfdB; intro v w15 hv; refine ⟨.inl rfl, ?_⟩
  obtain ⟨hf15, pdB, cdB, hsB, paB, caB, pwB, cwB, rfl, hOB, hCB, _, hnpB, hokB, hbadB⟩ := hv
  have hx315 : Ext w3 w15 := by
    by_cases e : (runP rs0 ([] ++ lineB M)).err = 0
    · exact (hokB e).ext
    · exact (hbadB e).ext
  have hRc15 := rd_other (hRc10.xt hx1014) hf15 (nF (by omega)) hx315
  have hO15 := (hO10.ext hx1014).fr hf15 (fun k hk => nF (fun e => by have := (hO3.ge k hk).2; omega))
  have hok15 := hO15.sl.ok
  rw [List.length_replicate] at hok15
  have hle15 := hok15.le
  have hCs := mkStr_size (lineC (1022 + k))
  have hCl : (lineC (1022 + k)).length = 1024 + k := by unfold lineC; simp; omega
  have hlC : List.replicate (1022 + k) (120 : UInt8) ++ [13, 10] = lineC (1022 + k) := rfl
  have hS15 : Sl w15.heap eByte p2 N (List.replicate (1022 + k) 120) := by
    have h := hO15.sl.take (1022 + k)
    rw [List.take_replicate, show min (1022 + k) N = 1022 + k by omega] at h
    exact h
  repeat' (first | (apply G_on; exact rfl; first | ((first | apply G1_assign | apply G1_move); exact rfl; exact rfl) | (apply G1_sliceHiJ (q := 1022 + k); exact T.s28; exact rfl; exact rfl; omega; omega; exact rfl) | (apply G1_toStringL (bs := List.replicate (1022 + k) 120); exact T.s28; exact T.i5; exact T.str9; exact rfl; exact (List.length_replicate).symm; exact hS15.ext (by repeat first | assumption | exact Ext.rfl' | apply Ext.drew | apply Ext.alloc | refine Ext.trans ?_ (by assumption)); exact rfl) | (apply G1_saddL; exact rfl; exact rfl; exact rfl; exact eC; (simp only [List.length_replicate, List.length_cons, List.length_nil]; omega); exact rfl) | (apply G1_add; exact rfl; exact rfl; omega; omega; exact rfl) | (apply G1_extract; exact rfl; exact rfl; exact rfl)) | apply G_nil | apply Post_next | apply W_seq | apply W_region)
  rw [hlC]
  have hxd15 : Ext w15 _ := (by repeat first | assumption | exact Ext.rfl' | apply Ext.drew | apply Ext.alloc | refine Ext.trans ?_ (by assumption))
  apply G_on; exact rfl
  apply G1_toBytes; exact T.str9; exact T.s28; exact T.i5; exact rfl; omega; exact rfl; exact rfl
  intro b16 c16 w16 hb16 hM16 hx16 hz16
  rw [mkStr_data] at hM16 ⊢
  skip
  apply G_on; exact rfl
  apply G1_build1 eSlc (bx b16, (lineC (1022 + k)).length, c16); exact T.s76; exact rfl; exact rfl; exact rfl; decide; exact rfl; exact rfl
  intro p17 w17 hp17 hs17 _ hx17 hz17
  have hx1516 : Ext w15 w16 := (by repeat first | assumption | exact Ext.rfl' | apply Ext.drew | apply Ext.alloc | refine Ext.trans ?_ (by assumption))
  have hx1517 : Ext w15 w17 := hx1516.trans hx17
  have hb16' : w15.heap.size ≤ b16 := by rw [hb16]; first | exact Nat.le_refl _ | exact hxd15.size
  have hfdC := feed_one hRc15 hx1517 hs17 (fun y hy => by rw [hp17] at hy; injection hy with hy; rw [← hy]; exact hx1516.size) (hM16.sl.ext hx17) (fun y hy => by injection hy with hy; rw [← hy]; exact hb16') (by simp only [List.length_nil]; omega) (Nat.zero_le _) hT3 hE3 good0
  skip
  apply G_on; exact rfl; apply G1_call (f := 26); exact rfl; exact rfl; exact rfl; exact hfdC; intro v w18 hv; refine ⟨.inl rfl, ?_⟩
  obtain ⟨hf18, pdC, cdC, hsC, paC, caC, pwC, cwC, rfl, hOC, hCC, _, _, hokC, hbadC⟩ := hv
  have hx318 : Ext w3 w18 := by
    by_cases e : (runP rs0 ([] ++ lineC (1022 + k))).err = 0
    · exact (hokC e).ext
    · exact (hbadC e).ext
  have hx018 : Ext w w18 := hx3.trans hx318
  have hlB' := hCB.shown.len
  have hlC' := hCC.shown.len
  by_cases hk2 : k ≤ 2
  · rw [runA (by omega)] at heA
    have heA0 : eA = 0 := heA.symm
    rw [runB (by omega) (by omega)] at hCB hlB' ⊢
    rw [runC (by omega) (by omega)] at hlC' ⊢
    simp only [List.length_cons, List.length_nil, Nat.zero_add] at hlB' hlC'
    obtain ⟨⟨q1, u1, d1⟩, hq1⟩ := get_some (xs := hsB) (k := 0) (by omega)
    have hg := (hCB.shown.get 0 _ _ hq1 (by rfl)).1
    simp only [List.length_replicate] at hg
    have hbk17 := (hRc15.xt hx1517).blk
    have hOB18 := (hOB.ext hx1517).fr hf18 (fun k hk e => by
      rcases e with e | e | e
      · exact (hOB.ext hx1517).apartB hbk17 (by decide) (by rw [← e]; exact hk)
      · cases e
      · cases e)
    have hokB18 := hOB18.sl.ok
    simp only [hlB', hlC'] at hokB18 ⊢
    subst heA0
    repeat' (first | (apply G_on; exact rfl; first | ((first | apply G1_assign | apply G1_move); exact rfl; exact rfl) | (apply G1_indexAddrJ (q := 0); exact T.s40; exact rfl; exact rfl; exact rfl; exact hokB18; exact Nat.zero_lt_one; exact rfl) | (apply G1_loadEl1 (q := 0) (e := eSlc) (v := .slice q1 u1 d1); exact T.p31; exact rfl; exact hOB18.sl; exact hq1; exact rfl; exact rfl; exact rfl) | (apply G1_add; exact rfl; exact rfl; omega; omega; exact rfl) | (apply G1_len; (first | exact T.s40 | exact T.s31); exact rfl; exact rfl) | ((first | apply G1_extract | apply G1_leq | apply G1_eql); exact rfl; exact rfl; exact rfl) | (apply G1_pick_t; exact rfl; exact rfl; exact rfl)) | apply G_nil | apply Post_next | apply W_seq | apply W_region | (apply W_cond_dec; exact rfl; all_goals (intro h; try (exfalso; omega))) | ((fail_if_success (apply G_on; exact rfl)); apply G_split_dec; exact rfl; exact rfl; all_goals (intro h; try (exfalso; omega))) | apply W_ret | apply Post_then_ret)
    all_goals try (exfalso; first | omega | exact absurd rfl (by assumption))
    all_goals
      refine Post_ret Tryd.results6 ⟨_, _, rfl, rfl, rfl⟩ ?_
      exact ⟨rfl, (by repeat first | assumption | exact Ext.rfl' | apply Ext.drew | apply Ext.alloc | refine Ext.trans ?_ (by assumption))⟩
  · rw [runA' (by omega) (by omega)] at heA
    obtain ⟨b1, b2⟩ := runB' (n := M) (by omega) (by omega)
    obtain ⟨c1, c2⟩ := runC' (m := 1022 + k) (by omega) (by omega)
    rw [b2] at hlB'
    rw [c2] at hlC'
    rw [b1, c1]
    simp only [List.length_nil] at hlB' hlC'
    simp only [hlB', hlC']
    subst heA
    repeat' (first | (apply G_on; exact rfl; first | ((first | apply G1_assign | apply G1_move); exact rfl; exact rfl) | (apply G1_len; exact T.s40; exact rfl; exact rfl) | ((first | apply G1_extract | apply G1_leq | apply G1_eql); exact rfl; exact rfl; exact rfl) | (apply G1_pick_t; exact rfl; exact rfl; exact rfl)) | apply G_nil | apply Post_next | apply W_seq | apply W_region | (apply W_cond_dec; exact rfl; all_goals (intro h; try (exfalso; omega))) | apply W_skip | apply W_ret)
    all_goals try (exfalso; first | omega | exact absurd rfl (by assumption))
    all_goals
      refine Post_ret Tryd.results6 ⟨_, _, rfl, rfl, rfl⟩ ?_
      exact ⟨rfl, (by repeat first | assumption | exact Ext.rfl' | apply Ext.drew | apply Ext.alloc | refine Ext.trans ?_ (by assumption))⟩
end Go.Proofs.YtikjnmpijflnaaaDoor
