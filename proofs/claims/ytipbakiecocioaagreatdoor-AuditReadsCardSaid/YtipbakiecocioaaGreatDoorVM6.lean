/- Texts of this proof laid together: ReqRead8, ReqRun, ReqOne, AppE, AudCase, ReqCut, AudCalls, AudTells, AudOpen, AudTells2, BitOps. -/
import Derived.Test.YtipbakiecocioaaGreatDoorVM5
/- Requests: Feed at one part; the walk. -/
namespace Go.Proofs.YtipbakiecocioaaGreatDoor
open Go.V
attribute [local irreducible] Blk Own hcell IntT SliceT PlainT AggT SizeT StrT FieldT ZeroT EqT ArrT



theorem feed_spec {w0 : World} {ar B : Nat} {p : Option Addr} {c : Nat} {inp : List UInt8} {pw : Option Addr} {cw : Nat} {r : RS} {q : Option Addr} {d : Nat} {ks : List Hdr} {parts : List (List UInt8)} {w : World} (hR : RdSt w0 w ar B p c inp 0 pw cw r 0)
    (hS : Sl w.heap eSlc q d ks) (hSn : ∀ x, q = some x → ks ≠ [] → ¬ (x.block = ar ∨ blk p = some x.block)) (hb : PartsAt w.heap (fun k => k = ar ∨ blk p = some k) ks parts) (hN : inp.length + parts.flatten.length ≤ 100000000) (hH : r.held ≤ 100000000) (hT : Pow w0) (hE : Errs w0) (hg0 : GoodR r) :
    Ctr Tryz.prog 18 [.pointer (some (adr (bx ar) 0)), .slice q ks.length d] w (FeedA w0 w ar B p pw (runP r (inp ++ parts.flatten))) := by
  have hbk := hR.blk
  have hlen := hb.len
  have hsb := hS.bound
  have hok := hS.ok
  refine Ctr_of Tryz.func18 Tryz.ntmps18 rfl rfl rfl ?_
  repeat' (first | apply W_seq | apply W_region)
  apply G_on; exact rfl; apply G1_box; exact rfl; exact rfl; exact rfl; intro a2 w1 ha1 hA2 hx1 hs1
  replace hA2 : Blk w1.heap a2 60 [.pointer (some (adr (bx ar) 0))] := hA2
  replace hbk := hbk.ext hx1
  repeat' (first | (apply G_on; exact rfl; first | ((first | apply G1_assign | apply G1_move | apply G1_nilCheck); exact rfl; exact rfl) | (apply G1_loadB; (first | exact T.p60 | exact T.p44); exact rfl; assumption; exact rfl; exact rfl) | (apply G1_fieldAddr; exact T.f109_6; exact rfl; exact rfl) | (apply G1_neq; exact rfl; exact rfl; exact rfl) | (apply G1_len; exact T.s110; exact rfl; exact rfl)) | apply G_nil | apply Post_next | apply W_seq | apply W_region | apply W_scopeI | (apply W_cond_false; exact rfl) | apply W_skip | apply W_block)
  all_goals try (exfalso; omega)
  refine W_loop (ι := Nat × Option Addr × Nat) (fun y => [(2, .pointer (some (adr (bx a2) 0))), (26, .slice q ks.length d), (27, .int .i64 (ks.length : Int)), (28, .int .i64 (y.1 : Int))])
    (fun y w' => y.1 ≤ ks.length ∧ RdSt w0 w' ar B y.2.1 y.2.2 (inp ++ (parts.take y.1).flatten) 0 pw cw r 0 ∧ Blk w'.heap a2 60 [.pointer (some (adr (bx ar) 0))] ∧ FrS (fun k => k = ar ∨ blk p = some k) w w' ∧ ∀ k, blk y.2.1 = some k → blk p = some k ∨ w.heap.size ≤ k) (fun y => ks.length - y.1) (0, p, c) ⟨rfl, rfl, rfl, rfl, trivial⟩
    ⟨Nat.zero_le _, by rw [List.take_zero, List.flatten_nil, List.append_nil]; exact hR.xt (by repeat first | assumption | exact Ext.rfl' | apply Ext.drew | apply Ext.alloc | refine Ext.trans ?_ (by assumption)), hA2.ext (by repeat first | assumption | exact Ext.rfl' | apply Ext.drew | apply Ext.alloc | refine Ext.trans ?_ (by assumption)), FrS.of_ext (by repeat first | assumption | exact Ext.rfl' | apply Ext.drew | apply Ext.alloc | refine Ext.trans ?_ (by assumption)), fun k hk => .inl hk⟩ ?_
  rintro ⟨i, p1, c1⟩ w2 ⟨hi, hR2, hA2, hF2, hnp2⟩
  simp only at hi hR2 hnp2
  refine W_keep [(2, .pointer (some (adr (bx a2) 0))), (26, .slice q ks.length d), (27, .int .i64 (ks.length : Int)), (28, .int .i64 (i : Int))] ⟨rfl, rfl, rfl, rfl, trivial⟩ ?_
  by_cases hi0 : i < ks.length
  · obtain ⟨⟨q1, n1, d1⟩, hq1⟩ := get_some hi0
    obtain ⟨b, hgb⟩ := get_some (xs := parts) (k := i) (by omega)
    obtain ⟨e1, hb1, hn1⟩ := hb.get i _ b hq1 hgb
    simp only at e1 hb1 hn1
    subst e1
    have hb2 : Sl w2.heap eByte q1 d1 b := hb1.fr' hF2 hn1
    have hS2 := hS.fr' hF2 hSn
    have hts := flat_snoc hgb
    have htl := flat_le parts (i + 1)
    rw [hts, List.length_append] at htl
    have hxd : Ext w2 w2.drew := Ext.drew Ext.rfl'
    have nA2 := (hR2.row.ext hxd).apartB (hA2.ext hxd) (by decide)
    have nAr := (hR2.row.ext hxd).apartB (hR2.blk.ext hxd) (by decide)
    have nW := (hR2.row.ext hxd).apartR (hR2.wds.ext hxd) (by decide)
    have hbk2 := hR2.blk
    repeat' (first | (apply G_on; exact rfl; first | (apply G1_assign; exact rfl; exact rfl) | (apply G1_indexAddrJ (q := i); exact T.s110; exact rfl; exact rfl; exact rfl; exact hok; exact hi0; exact rfl) | (apply G1_loadEl1 (q := i) (e := eSlc); exact T.p22; exact rfl; exact hS2; exact hq1; exact rfl; exact rfl; exact rfl) | (apply G1_lss; exact rfl; exact rfl; exact rfl)) | apply G_nil | apply Post_next | apply W_seq | apply W_region | (apply W_cond_dec; exact rfl; all_goals (intro h; try (exfalso; omega))) | apply W_skip | apply W_block)
    all_goals try (exfalso; omega)
    refine W_drawnT 1 [] (.node [5] (.alt 0 (.node [] (.alt 1 (.leaf [2,3,4,6,7,8,9]) .stop)) (.alt 1 (.node [2,3,4] (.alt 0 (.leaf [6,7,8,9]) (.alt 6 (.leaf [0,7,8,9]) .stop))) .stop))) mixed (by decide +kernel) ?_
    repeat' (first | (apply G_on; exact rfl; first | ((first | apply G1_move | apply G1_nilCheck); exact rfl; exact rfl) | (apply G1_appendA; exact T.s22; exact rfl; exact rfl; exact hR2.row.ext (Ext.drew Ext.rfl'); exact hb2.ext (Ext.drew Ext.rfl'); exact rfl; exact hR2.hB; (simp only [List.length_append]; omega); (simp only [List.length_append]; omega); exact rfl; exact rfl; exact rfl; intro p5 c5 w5 ha5; have hA25 := (hA2.ext hxd).grown ha5.grown nA2; have hbk5 := (hbk2.ext hxd).grown ha5.grown nAr) | (apply G1_loadB; (first | exact T.p60 | exact T.p22); exact rfl; assumption; exact rfl; exact rfl) | (apply G1_fieldAddr; exact T.f109_0; exact rfl; exact rfl)) | apply G_nil | (refine GT_leaf ?_) | (refine GT_node ?_) | (apply GT_alt) | (exact GT_stop))
    all_goals
      rw [List.append_assoc, ← hts] at ha5
      apply G_on; exact rfl; apply G1_storeB; exact T.z22; exact rfl; exact rfl; exact hbk5; exact rfl; exact rfl; (first | exact Nat.le_of_ble_eq_true rfl | (focus (simp [Value.cells]; done))); (first | exact Enc.one _ _ | (focus (simp [Value.oneCell']; done)) | (focus (simp [Value.cells, Value.oneCell']; done)) | exact Enc.oneAgg _ _); exact rfl; (first | exact .inl rfl | exact .inr (by simp [exempt])); exact rfl; intro w6 hA6 hg6 hs6
      replace hA6 : Blk w6.heap ar 109 [.slice p5 (inp ++ (parts.take i).flatten ++ b).length c5, .int .i64 ((0 : Nat) : Int), .int .i64 (r.left : Int), .int .i64 r.size, .slice pw r.words.length cw, .int .i64 (r.held : Int), .int .i64 0] := hA6
      rw [List.append_assoc, ← hts] at hA6
      have hR6 : RdSt w0 w6 ar B p5 c5 (inp ++ (parts.take (i + 1)).flatten) 0 pw cw r 0 :=
        ⟨hA6, ha5.own.kept hg6 (fun x hx e => by injection e with e; exact ha5.own.apart hx hbk5 (by decide) e), ((hR2.wds.ext hxd).kept ha5.grown nW).kept hg6 (fun x hx e => by injection e with e; exact ((hR2.wds.ext hxd).kept ha5.grown nW).apart hx hbk5 (by decide) e), ((hR2.ext.trans hxd).own ha5.grown (fun k hk => by have := (hR2.row.ext hxd).ge k hk; have := hR.h0; have := hR.lt; omega)).own hg6 (fun k hk => by injection hk with hk; have := hR.h0; omega), hR.h0, hR.lt, Nat.le_trans ha5.base hg6.size, Nat.zero_le _⟩
      have hA26 := hA25.grown hg6 (fun e => by injection e with e; exact blk_ne hbk5 hA25 (by decide) e)
      repeat' (first | (apply G_on; exact rfl; first | (apply G1_move; exact rfl; exact rfl) | (apply G1_add; exact rfl; exact rfl; omega; omega; exact rfl)) | apply G_nil | apply Post_next | apply W_region | apply Post_block_normal)
      have hnn := ha5.new
      unfold NewP at hnn
      have hz2 := hF2.size
      have hz6 := hg6.size
      have hF5 : FrS (fun k => k = ar ∨ blk p = some k) w w6 := ((hF2.trans (FrS.of_ext hxd) (fun _ _ h => h)).trans (FrS.of_grown (F := fun k => k = ar ∨ blk p1 = some k) ha5.grown (fun k hk => .inr hk)) (fun k hk e => e.elim .inl (fun e => (hnp2 k e).elim .inr (fun e => by omega)))).trans (FrS.of_grown (F := fun k => k = ar ∨ blk p1 = some k) hg6 (fun k hk => by injection hk with hk; exact .inl hk.symm)) (fun k hk e => e.elim .inl (fun e => (hnp2 k e).elim .inr (fun e => by omega)))
      exact Post_round (i + 1, p5, c5) ⟨rfl, rfl, rfl, rfl, trivial⟩ ⟨hi0, hR6, hA26, hF5, fun k hk => hnn.elim (fun e => hnp2 k (by rw [← e]; exact hk)) (fun e => .inr (Nat.le_trans hz2 (e k hk)))⟩ (by simp only; omega)
  · obtain ⟨bs, hbs⟩ : ∃ bs, parts.flatten = bs := ⟨_, rfl⟩
    rw [List.take_of_length_le (by omega), hbs] at hR2
    rw [hbs] at hN ⊢
    repeat' (first | (apply G_on; exact rfl; (apply G1_lss; exact rfl; exact rfl; exact rfl)) | apply G_nil | apply Post_next | apply W_seq | apply W_region | (apply W_cond_dec; exact rfl; all_goals (intro h; try (exfalso; omega))) | apply W_exit | apply Post_then_exit | apply Post_block_exit)
    all_goals try (exfalso; omega)
    apply G_on; exact rfl; apply G1_alloc; exact T.zero58; exact rfl; exact rfl; intro a8 w3 ha8 hA8 hx3 hs3
    replace hA8 : Blk w3.heap a8 58 [.slice none 0 0] := hA8
    repeat' (first | (apply G_on; exact rfl; ((first | apply G1_assign | apply G1_makeFunc); exact rfl; exact rfl)) | apply G_nil | apply Post_next | apply W_seq | apply W_region | apply W_label | apply W_block)
    have z2 := hF2.size
    refine W_loop (ι := FdY) (fun y => [(2, .pointer (some (adr (bx a2) 0))), (8, .pointer (some (adr (bx a8) 0))), (9, .func (.func 50) #[] #[.pointer (some (adr (bx a8) 0)), .pointer (some (adr (bx a2) 0))])])
      (fun y w' => FdI w0 w w' ar B a2 a8 p pw p1 c1 (inp ++ bs) r y) (fun y => (inp ++ bs).length - y.a) ⟨0, r, pw, cw, [], [], none, 0⟩ ⟨rfl, rfl, rfl, trivial⟩ ?_ ?_
    · exact ⟨hR2.xt hx3, ⟨⟨hA2.ext hx3, hA8, Own.nil _ _ _ _⟩, WordsAt.nil, (hF2.trans (FrS.of_ext hx3) (fun _ _ h => h)).mono (fun k e => e.elim .inl (fun e => .inr (.inl e))), hnp2, fun k hk => .inl hk, by omega, by omega⟩, by simp, by simp only [List.length_append]; omega, hg0, Nat.zero_le _⟩
    rintro y w4 hI
    refine W_keep [(2, .pointer (some (adr (bx a2) 0))), (8, .pointer (some (adr (bx a8) 0))), (9, .func (.func 50) #[] #[.pointer (some (adr (bx a8) 0)), .pointer (some (adr (bx a2) 0))])] ⟨rfl, rfl, rfl, trivial⟩ ?_
    repeat' (first | apply W_seq | apply W_block)
    refine W_loop (ι := FdY) (fun y => [(2, .pointer (some (adr (bx a2) 0))), (8, .pointer (some (adr (bx a8) 0))), (9, .func (.func 50) #[] #[.pointer (some (adr (bx a8) 0)), .pointer (some (adr (bx a2) 0))])])
      (fun z w' => FdI w0 w w' ar B a2 a8 p pw p1 c1 (inp ++ bs) r z ∧ y.a ≤ z.a) (fun z => (inp ++ bs).length - z.a) y ⟨rfl, rfl, rfl, trivial⟩ ⟨hI, Nat.le_refl _⟩ ?_
    rintro z w5 ⟨hI5, hyz⟩
    refine W_keep [(2, .pointer (some (adr (bx a2) 0))), (8, .pointer (some (adr (bx a8) 0))), (9, .func (.func 50) #[] #[.pointer (some (adr (bx a8) 0)), .pointer (some (adr (bx a2) 0))])] ⟨rfl, rfl, rfl, trivial⟩ ?_
    have hbk5 := hI5.rd.blk
    have hA25 := hI5.o.gv.ptr
    have hrun := hI5.run
    have hdl : ((inp ++ bs).drop z.a).length = (inp ++ bs).length - z.a := List.length_drop
    have hIl : (inp ++ bs).length = inp.length + bs.length := List.length_append
    have hza := hI5.rd.la
    have hcnt := hI5.cnt
    have hhl := hI5.o.cm.len
    by_cases hl0 : z.r.left = 0
    · have hr0 := hI5.good.zero hl0
      have hln := line_spec hI5.rd (by omega)
      cases hL : lineP ((inp ++ bs).drop z.a) with
      | more =>
        rw [hL] at hln
        repeat' (first | (apply G_on; exact rfl; first | (apply G1_nilCheck; exact rfl; exact rfl) | (apply G1_loadB; (first | exact T.p60 | exact T.p3); exact rfl; assumption; exact rfl; exact rfl) | (apply G1_fieldAddr; exact T.f109_2; exact rfl; exact rfl) | (apply G1_gtr; exact rfl; exact rfl; exact rfl)) | apply G_nil | apply Post_next | apply W_seq | apply W_region | (apply W_cond_dec; exact rfl; all_goals (intro h; try (exfalso; omega))) | apply W_exit | apply Post_then_exit | apply Post_block_exit)
        all_goals try (exfalso; omega)
        apply G_on; exact rfl; apply G1_call (f := 52); exact rfl; exact rfl; exact rfl; exact hln; intro v w6 hv; refine ⟨.inl rfl, ?_⟩
        obtain ⟨hf6, rfl, hR6⟩ := hv
        have hO6 := hI5.o.own hI5.rd.blk hf6
        have hstep : stepP z.r ((inp ++ bs).drop z.a) = .stop := by
          unfold stepP
          rw [if_pos hl0, hL]
        rw [run_stop hstep, List.append_nil] at hrun
        have hti := tidy_ok hR6 (show (inp ++ bs).length ≤ 1000000000 by rw [List.length_append]; omega)
        have hA2e := (hO6).gv.ptr
        repeat' (first | (apply G_on; exact rfl; first | ((first | apply G1_assign | apply G1_move); exact rfl; exact rfl) | (apply G1_loadB; exact T.p60; exact rfl; assumption; exact rfl; exact rfl) | (apply G1_extract; exact rfl; exact rfl; exact rfl) | (apply G1_not_f; exact rfl; exact rfl)) | apply G_nil | apply Post_next | apply W_seq | apply W_region | (apply W_cond_true; exact rfl) | apply W_exit | apply Post_then_exit | apply Post_block_exit | (apply Post_block_other; exact rfl))
        apply G_on; exact rfl; apply G1_call (f := 56); exact rfl; exact rfl; exact rfl; exact hti; rintro vT wT ⟨hfT, hRT⟩; refine ⟨.inl rfl, ?_⟩
        obtain ⟨hGT, hFA⟩ := feed_done hR6 hO6 hfT hRT hrun
        have hbkT := hRT.blk
        have hA2T := hGT.ptr
        have hA8T := hGT.box
        repeat' (first | (apply G_on; exact rfl; first | ((first | apply G1_assign | apply G1_nilCheck); exact rfl; exact rfl) | (apply G1_loadB; (first | exact T.p60 | exact T.p44 | exact T.p58); exact rfl; assumption; exact rfl; exact rfl) | (apply G1_fieldAddr; exact T.f109_6; exact rfl; exact rfl)) | apply G_nil | apply Post_next | apply W_seq | apply Post_scopeR | refine W_drawn 1 [] [0,1,2,3,4,5,6] mixed (by decide +kernel) ?_ | apply W_ret)
        refine Post_ret Tryz.results18 ⟨_, _, rfl, rfl, _, _, rfl, rfl, rfl⟩ ?_
        exact hFA _ (by repeat first | assumption | exact Ext.rfl' | apply Ext.drew | apply Ext.alloc | refine Ext.trans ?_ (by assumption))
      | err e =>
        rw [hL] at hln
        repeat' (first | (apply G_on; exact rfl; first | (apply G1_nilCheck; exact rfl; exact rfl) | (apply G1_loadB; (first | exact T.p60 | exact T.p3); exact rfl; assumption; exact rfl; exact rfl) | (apply G1_fieldAddr; exact T.f109_2; exact rfl; exact rfl) | (apply G1_gtr; exact rfl; exact rfl; exact rfl)) | apply G_nil | apply Post_next | apply W_seq | apply W_region | (apply W_cond_dec; exact rfl; all_goals (intro h; try (exfalso; omega))) | apply W_exit | apply Post_then_exit | apply Post_block_exit)
        all_goals try (exfalso; omega)
        apply G_on; exact rfl; apply G1_call (f := 52); exact rfl; exact rfl; exact rfl; exact hln; intro v w6 hv; refine ⟨.inl rfl, ?_⟩
        obtain ⟨hf6, rfl, hR6⟩ := hv
        have hO6 := hI5.o.own hI5.rd.blk hf6
        have hstep : stepP z.r ((inp ++ bs).drop z.a) = .fault e := by
          unfold stepP
          rw [if_pos hl0, hL]
        have he := line_err hL
        rw [run_fault hstep, List.append_nil] at hrun
        have hti := tidy_bad hR6 (by omega)
        have hA2e := (hO6).gv.ptr
        repeat' (first | (apply G_on; exact rfl; first | ((first | apply G1_assign | apply G1_move); exact rfl; exact rfl) | (apply G1_loadB; exact T.p60; exact rfl; assumption; exact rfl; exact rfl) | (apply G1_extract; exact rfl; exact rfl; exact rfl) | (apply G1_not_f; exact rfl; exact rfl)) | apply G_nil | apply Post_next | apply W_seq | apply W_region | (apply W_cond_true; exact rfl) | apply W_exit | apply Post_then_exit | apply Post_block_exit | (apply Post_block_other; exact rfl))
        apply G_on; exact rfl; apply G1_call (f := 56); exact rfl; exact rfl; exact rfl; exact hti; rintro vT wT ⟨hfT, hRT⟩; refine ⟨.inl rfl, ?_⟩
        obtain ⟨hGT, hFA⟩ := feed_fail hR6 hO6 hfT hRT (by omega) ⟨congrArg Res.out hrun, congrArg Res.err hrun⟩
        have hbkT := hRT.blk
        have hA2T := hGT.ptr
        have hA8T := hGT.box
        repeat' (first | (apply G_on; exact rfl; first | ((first | apply G1_assign | apply G1_nilCheck); exact rfl; exact rfl) | (apply G1_loadB; (first | exact T.p60 | exact T.p44 | exact T.p58); exact rfl; assumption; exact rfl; exact rfl) | (apply G1_fieldAddr; exact T.f109_6; exact rfl; exact rfl)) | apply G_nil | apply Post_next | apply W_seq | apply Post_scopeR | refine W_drawn 1 [] [0,1,2,3,4,5,6] mixed (by decide +kernel) ?_ | apply W_ret)
        refine Post_ret Tryz.results18 ⟨_, _, rfl, rfl, _, _, rfl, rfl, rfl⟩ ?_
        exact hFA _ (by repeat first | assumption | exact Ext.rfl' | apply Ext.drew | apply Ext.alloc | refine Ext.trans ?_ (by assumption))
      | ok s k =>
        rw [hL] at hln
        repeat' (first | (apply G_on; exact rfl; first | (apply G1_nilCheck; exact rfl; exact rfl) | (apply G1_loadB; (first | exact T.p60 | exact T.p3); exact rfl; assumption; exact rfl; exact rfl) | (apply G1_fieldAddr; exact T.f109_2; exact rfl; exact rfl) | (apply G1_gtr; exact rfl; exact rfl; exact rfl)) | apply G_nil | apply Post_next | apply W_seq | apply W_region | (apply W_cond_dec; exact rfl; all_goals (intro h; try (exfalso; omega))) | apply W_exit | apply Post_then_exit | apply Post_block_exit)
        all_goals try (exfalso; omega)
        apply G_on; exact rfl; apply G1_call (f := 52); exact rfl; exact rfl; exact rfl; exact hln; intro v w6 hv; refine ⟨.inl rfl, ?_⟩
        obtain ⟨hf6, rfl, hR6⟩ := hv
        have hlk := line_len hL
        obtain ⟨hk1, hk2, hk3, hk4, hk5, hk6⟩ := line_ok hL
        have hs1 : s.length ≤ 1026 := by rw [hk5, List.length_take]; omega
        have hpre := fun w' => hasAst_spec (w := w') (s := s) (by omega)
        repeat' (first | (apply G_on; exact rfl; first | ((first | apply G1_assign | apply G1_move); exact rfl; exact rfl) | (apply G1_call (f := 53); exact rfl; exact rfl; exact rfl; exact hpre _; rintro _ w7 ⟨rfl, hx7⟩; refine ⟨(by first | exact .inl rfl | exact .inr (by assumption)), ?_⟩) | (apply G1_extract; exact rfl; exact rfl; exact rfl) | (apply G1_not_t; exact rfl; exact rfl)) | apply G_nil | apply Post_next | apply W_seq | apply W_region | (apply W_cond_false; exact rfl) | (apply W_cond_dec; exact rfl; all_goals (intro h; try (exfalso; omega))) | apply W_skip)
        all_goals try (exfalso; omega)
        · have hx7' : FrS (fun q => q = ar) w5 w7 := hf6.trans (FrS.of_ext (F := fun q => q = ar) hx7) (fun _ _ h => h)
          have h42 : s.head? = some 42 := by simpa using ‹_›
          have hO7 := hI5.o.own hI5.rd.blk hx7'
          have hR7 := hR6.xt hx7
          have hA27 := hO7.gv.ptr
          have hnum := number_spec (s := s) (m := 42) (mi := 42) (lo := 1) (hi := 128) hR7 rfl (by omega) hT hE
          cases hNm : numP s 42 1 128 with
          | error e =>
            rw [hNm] at hnum
            repeat' (apply G_on; exact rfl; first | (apply G1_move; exact rfl; exact rfl) | (apply G1_loadB; exact T.p60; exact rfl; assumption; exact rfl; exact rfl))
            apply G_on; exact rfl; apply G1_call (f := 54); exact rfl; exact rfl; exact rfl; exact hnum; intro v w8 hv; refine ⟨.inl rfl, ?_⟩
            obtain ⟨hf8, rfl, hR8⟩ := hv
            have hO8 := hO7.own hR7.blk hf8
            have hstep : stepP z.r ((inp ++ bs).drop z.a) = .fault e := by
              unfold stepP
              rw [if_pos hl0, hL]
              simp only
              rw [if_pos h42, hNm]
            have he := num_err hNm
            rw [run_fault hstep, List.append_nil] at hrun
            have hti := tidy_bad hR8 (by omega)
            have hA2e := (hO8).gv.ptr
            repeat' (first | (apply G_on; exact rfl; first | ((first | apply G1_assign | apply G1_move); exact rfl; exact rfl) | (apply G1_loadB; exact T.p60; exact rfl; assumption; exact rfl; exact rfl) | (apply G1_extract; exact rfl; exact rfl; exact rfl) | (apply G1_not_f; exact rfl; exact rfl)) | apply G_nil | apply Post_next | apply W_seq | apply W_region | (apply W_cond_true; exact rfl) | apply W_exit | apply Post_then_exit | apply Post_block_exit | (apply Post_block_other; exact rfl))
            apply G_on; exact rfl; apply G1_call (f := 56); exact rfl; exact rfl; exact rfl; exact hti; rintro vT wT ⟨hfT, hRT⟩; refine ⟨.inl rfl, ?_⟩
            obtain ⟨hGT, hFA⟩ := feed_fail hR8 hO8 hfT hRT (by omega) ⟨congrArg Res.out hrun, congrArg Res.err hrun⟩
            have hbkT := hRT.blk
            have hA2T := hGT.ptr
            have hA8T := hGT.box
            repeat' (first | (apply G_on; exact rfl; first | ((first | apply G1_assign | apply G1_nilCheck); exact rfl; exact rfl) | (apply G1_loadB; (first | exact T.p60 | exact T.p44 | exact T.p58); exact rfl; assumption; exact rfl; exact rfl) | (apply G1_fieldAddr; exact T.f109_6; exact rfl; exact rfl)) | apply G_nil | apply Post_next | apply W_seq | apply Post_scopeR | refine W_drawn 1 [] [0,1,2,3,4,5,6] mixed (by decide +kernel) ?_ | apply W_ret)
            refine Post_ret Tryz.results18 ⟨_, _, rfl, rfl, _, _, rfl, rfl, rfl⟩ ?_
            exact hFA _ (by repeat first | assumption | exact Ext.rfl' | apply Ext.drew | apply Ext.alloc | refine Ext.trans ?_ (by assumption))
          | ok n =>
            rw [hNm] at hnum
            repeat' (apply G_on; exact rfl; first | (apply G1_move; exact rfl; exact rfl) | (apply G1_loadB; exact T.p60; exact rfl; assumption; exact rfl; exact rfl))
            apply G_on; exact rfl; apply G1_call (f := 54); exact rfl; exact rfl; exact rfl; exact hnum; intro v w8 hv; refine ⟨.inl rfl, ?_⟩
            obtain ⟨hf8, rfl, hR8⟩ := hv
            have hO8 := hO7.own hR7.blk hf8
            have hA28 := hO8.gv.ptr
            have hbk8 := hR8.blk
            have hsz8 := mkStr_size s
            have nA8 := blk_ne hA28 hbk8 (by decide)
            repeat' (first | (apply G_on; exact rfl; first | ((first | apply G1_assign | apply G1_move); exact rfl; exact rfl) | (apply G1_extract; exact rfl; exact rfl; exact rfl) | (apply G1_not_t; exact rfl; exact rfl)) | apply G_nil | apply Post_next | apply W_seq | apply W_region | (apply W_cond_false; exact rfl) | apply W_skip)
            all_goals try (exfalso; omega)
            refine W_drawn 3 [ar] [0,1,2,3,4,5,6,7,8,9,10,11] mixed (by decide +kernel) ?_
            repeat' (apply G_on; exact rfl; first | ((first | apply G1_move | apply G1_nilCheck); exact rfl; exact rfl) | (apply G1_loadBS; exact T.p60; exact rfl; assumption; exact rfl; (first | assumption | (focus (simp [exempt]; omega))); exact rfl) | (apply G1_fieldAddr; exact T.f109_2; exact rfl; exact rfl) | (apply G1_add; exact rfl; exact rfl; omega; omega; exact rfl) | (apply G1_slen; exact T.str9; exact rfl; exact rfl))
            apply G_on; exact rfl; apply G1_storeB; exact T.z3; exact rfl; exact rfl; exact hbk8; exact rfl; exact rfl; (first | exact Nat.le_of_ble_eq_true rfl | (focus (simp [Value.cells]; done))); (first | exact Enc.one _ _ | (focus (simp [Value.oneCell']; done)) | (focus (simp [Value.cells, Value.oneCell']; done)) | exact Enc.oneAgg _ _); exact rfl; (first | exact .inl rfl | exact .inr (by simp [exempt])); exact rfl; intro w9 hA9 hg9 hs9
            repeat' (apply G_on; exact rfl; first | (apply G1_nilCheck; exact rfl; exact rfl) | (apply G1_fieldAddr; exact T.f109_5; exact rfl; exact rfl))
            apply G_on; exact rfl; apply G1_storeB; exact T.z3; exact rfl; exact rfl; exact hA9; exact rfl; exact rfl; (first | exact Nat.le_of_ble_eq_true rfl | (focus (simp [Value.cells]; done))); (first | exact Enc.one _ _ | (focus (simp [Value.oneCell']; done)) | (focus (simp [Value.cells, Value.oneCell']; done)) | exact Enc.oneAgg _ _); exact rfl; (first | exact .inl rfl | exact .inr (by simp [exempt])); exact rfl; intro w10 hA10 hg10 hs10
            repeat' (first | apply G_nil | apply Post_next | apply W_exit | apply Post_then_exit | apply Post_block_exit)
            obtain ⟨hn1, hn2⟩ := num_ok hNm
            have hd8 : Ext w8 w8.drew := Ext.drew Ext.rfl'
            have hg := grown_same hg9 hg10
            replace hA10 : Blk w10.heap ar 109 [.slice p1 (inp ++ bs).length c1, .int .i64 ((z.a + k : Nat) : Int), .int .i64 n, .int .i64 z.r.size, .slice z.pw z.r.words.length z.cw, .int .i64 (((mkStr s).size : Int) + 2), .int .i64 0] := hA10
            have e1 : n = ((n.toNat : Nat) : Int) := by omega
            have e2 : ((mkStr s).size : Int) + 2 = ((k : Nat) : Int) := by omega
            rw [e2, hr0] at hA10
            rw [e1] at hA10
            have hR10 : RdSt w0 w10 ar B p1 c1 (inp ++ bs) (z.a + k) z.pw z.cw ⟨n.toNat, -1, [], k⟩ 0 := (hR8.xt hd8).set hg hA10 (by rw [hr0]; rfl) (by omega)
            have hO10 := hO8.own hR8.blk ((FrS.of_ext (F := fun q => q = ar) hd8).trans (FrS.of_grown (F := fun q => q = ar) hg (fun k hk => by injection hk with hk; exact hk.symm)) (fun _ _ h => h))
            have hstep : stepP z.r ((inp ++ bs).drop z.a) = .go ⟨n.toNat, -1, [], k⟩ k [] := by
              unfold stepP
              rw [if_pos hl0, hL]
              simp only
              rw [if_pos h42, hNm]
            have hgd := step_good hI5.good hstep
            rw [run_go hstep, List.nil_append, List.drop_drop] at hrun
            refine Post_round (⟨z.a + k, ⟨n.toNat, -1, [], k⟩, z.pw, z.cw, z.hs, z.ls, z.pd, z.cd⟩ : FdY) ⟨rfl, rfl, rfl, trivial⟩ ⟨hR10, ⟨hO10.gv, hO10.cm, hO10.fr, hO10.np, hO10.npw, hO10.h8, hO10.h2⟩, hrun, by simp only; omega, hgd.1, by simp only; omega⟩ (by simp only; omega)
        · have hx7' : FrS (fun q => q = ar) w5 w7 := hf6.trans (FrS.of_ext (F := fun q => q = ar) hx7) (fun _ _ h => h)
          have h42 : ¬ s.head? = some 42 := by simpa using ‹¬ _›
          have hspl := split_spec (w := w7) (s := s) (by omega)
          apply G_on; exact rfl; apply G1_call (f := 55); exact rfl; exact rfl; exact rfl; exact hspl; rintro v w8 ⟨ps, cs, rfl, hO8s, hx8⟩; refine ⟨.inl rfl, ?_⟩
          have hx8' : FrS (fun q => q = ar) w5 w8 := hx7'.trans (FrS.of_ext (F := fun q => q = ar) hx8) (fun _ _ h => h)
          have hO7 := hI5.o.own hI5.rd.blk hx7'
          have hO8 := hI5.o.own hI5.rd.blk hx8'
          have hR8 := (hR6.xt hx7).xt hx8
          have hA28 := hO8.gv.ptr
          have hbk8 := hR8.blk
          repeat' (first | (apply G_on; exact rfl; first | ((first | apply G1_assign | apply G1_move | apply G1_nilCheck); exact rfl; exact rfl) | (apply G1_loadB; exact T.p60; exact rfl; assumption; exact rfl; exact rfl) | (apply G1_fieldAddr; exact T.f109_6; exact rfl; exact rfl) | (apply G1_gtr; exact rfl; exact rfl; exact rfl) | (apply G1_len; exact T.s37; exact rfl; exact rfl)) | apply G_nil | apply Post_next | apply W_seq | apply W_region | (apply W_cond_dec; exact rfl; all_goals (intro h; try (exfalso; omega))) | apply W_skip | apply Post_block_normal)
          · apply G_on; exact rfl; apply G1_storeB; exact T.z44; exact rfl; exact rfl; exact hbk8; exact rfl; exact rfl; (first | exact Nat.le_of_ble_eq_true rfl | (focus (simp [Value.cells]; done))); (first | exact Enc.one _ _ | (focus (simp [Value.oneCell']; done)) | (focus (simp [Value.cells, Value.oneCell']; done)) | exact Enc.oneAgg _ _); exact rfl; (first | exact .inl rfl | exact .inr (by simp [exempt])); exact rfl; intro w9 hA9 hg9 hs9
            replace hA9 : Blk w9.heap ar 109 [.slice p1 (inp ++ bs).length c1, .int .i64 ((z.a + k : Nat) : Int), .int .i64 (z.r.left : Int), .int .i64 z.r.size, .slice z.pw z.r.words.length z.cw, .int .i64 (z.r.held : Int), .int .i64 12] := hA9
            have hR9 := hR8.set (r' := z.r) (ft' := 12) hg9 hA9 rfl (by omega)
            have hO9 := hO8.own hR8.blk (FrS.of_grown (F := fun q => q = ar) hg9 (fun k hk => by injection hk with hk; exact hk.symm))
            have hstep : stepP z.r ((inp ++ bs).drop z.a) = .fault 12 := by
              unfold stepP
              rw [if_pos hl0, hL]
              simp only
              rw [if_neg h42, if_pos (by omega)]
            rw [run_fault hstep, List.append_nil] at hrun
            have hA29 := hO9.gv.ptr
            have hti := tidy_bad hR9 (by decide)
            have hA2e := (hO9).gv.ptr
            repeat' (first | (apply G_on; exact rfl; (apply G1_loadB; exact T.p60; exact rfl; assumption; exact rfl; exact rfl)) | apply G_nil | apply Post_next | apply W_seq | apply W_region | apply W_exit | apply Post_then_exit | apply Post_block_exit | (apply Post_block_other; exact rfl))
            apply G_on; exact rfl; apply G1_call (f := 56); exact rfl; exact rfl; exact rfl; exact hti; rintro vT wT ⟨hfT, hRT⟩; refine ⟨.inl rfl, ?_⟩
            obtain ⟨hGT, hFA⟩ := feed_fail hR9 hO9 hfT hRT (by decide) ⟨congrArg Res.out hrun, congrArg Res.err hrun⟩
            have hbkT := hRT.blk
            have hA2T := hGT.ptr
            have hA8T := hGT.box
            repeat' (first | (apply G_on; exact rfl; first | ((first | apply G1_assign | apply G1_nilCheck); exact rfl; exact rfl) | (apply G1_loadB; (first | exact T.p60 | exact T.p44 | exact T.p58); exact rfl; assumption; exact rfl; exact rfl) | (apply G1_fieldAddr; exact T.f109_6; exact rfl; exact rfl)) | apply G_nil | apply Post_next | apply W_seq | apply Post_scopeR | refine W_drawn 1 [] [0,1,2,3,4,5,6] mixed (by decide +kernel) ?_ | apply W_ret)
            refine Post_ret Tryz.results18 ⟨_, _, rfl, rfl, _, _, rfl, rfl, rfl⟩ ?_
            exact hFA _ (by repeat first | assumption | exact Ext.rfl' | apply Ext.drew | apply Ext.alloc | refine Ext.trans ?_ (by assumption))
          · have hgv := give_spec (q := ps) (m := (cutG [] s).length) (d := cs) hR8 hO8.gv (by have := hR.ext.size; have := hO8.h8; omega) hR.ext.size hO8.fr.size (by omega)
            apply G_on; exact rfl; apply G1_callv; exact rfl; exact rfl; exact rfl; exact rfl; exact hgv; rintro v9 w9 ⟨pd', cd', hR9, hG9, hF9, hnd9⟩; refine ⟨(by first | exact .inl rfl | exact .inr (by assumption)), ?_⟩
            have hc0 : cutG [] s ≠ [] := fun e => by have h0 := congrArg List.length e; rw [List.length_nil] at h0; omega
            have hstep : stepP z.r ((inp ++ bs).drop z.a) = .go rs0 k [(cutG [] s).map mkStr] := by
              unfold stepP
              rw [if_pos hl0, hL]
              simp only
              rw [if_neg h42, if_neg (by omega), if_neg hc0]
            have hgd := step_good hI5.good hstep
            rw [run_go hstep, List.drop_drop] at hrun
            have hrs : { z.r with words := [], held := 0 } = rs0 := by rw [hr0]; rfl
            rw [hrs] at hR9
            have hO9 := hO8.give (a' := z.a + k) (r' := rs0) (l := (cutG [] s).map mkStr) hR8 hG9 hF9 hnd9 (by rw [List.length_map]) hO8s
            repeat' (first | apply G_nil | apply Post_block_normal)
            refine Post_round (⟨z.a + k, rs0, none, 0, z.hs ++ [(ps, (cutG [] s).length, cs)], z.ls ++ [(cutG [] s).map mkStr], pd', cd'⟩ : FdY) ⟨rfl, rfl, rfl, trivial⟩ ⟨hR9, hO9, by rw [hrun]; simp, by simp only [rs0]; omega, good0, by simp only [List.length_append, List.length_singleton]; omega⟩ (by simp only; omega)
          · have hc0 : cutG [] s = [] := List.eq_nil_of_length_eq_zero (by omega)
            have hstep : stepP z.r ((inp ++ bs).drop z.a) = .go rs0 k [] := by
              unfold stepP
              rw [if_pos hl0, hL]
              simp only
              rw [if_neg h42, if_neg (by rw [hc0]; decide), if_pos hc0]
            rw [run_go hstep, List.nil_append, List.drop_drop] at hrun
            rw [hr0] at hR8
            refine Post_round (⟨z.a + k, rs0, z.pw, z.cw, z.hs, z.ls, z.pd, z.cd⟩ : FdY) ⟨rfl, rfl, rfl, trivial⟩ ⟨hR8, ⟨hO8.gv, hO8.cm, hO8.fr, hO8.np, hO8.npw, hO8.h8, hO8.h2⟩, hrun, by simp only [rs0]; omega, good0, by simp only; omega⟩ (by simp only; omega)
    · have hwd := word_spec hI5.rd (by omega) hI5.held hI5.good.size.1 hI5.good.size.2 hT hE
      have hwr := word_run (cs := (inp ++ bs).drop z.a) (r := z.r) (by omega)
      have hwh := word_held (cs := (inp ++ bs).drop z.a) (r := z.r)
      cases hW : wordP z.r ((inp ++ bs).drop z.a) with
      | more r' k =>
        rw [hW] at hwd hwr hwh
        repeat' (first | (apply G_on; exact rfl; first | (apply G1_nilCheck; exact rfl; exact rfl) | (apply G1_loadB; (first | exact T.p60 | exact T.p3); exact rfl; assumption; exact rfl; exact rfl) | (apply G1_fieldAddr; exact T.f109_2; exact rfl; exact rfl) | (apply G1_gtr; exact rfl; exact rfl; exact rfl)) | apply G_nil | apply Post_next | apply W_seq | apply W_region | (apply W_cond_dec; exact rfl; all_goals (intro h; try (exfalso; omega))) | apply W_skip | apply W_block)
        all_goals try (exfalso; omega)
        apply G_on; exact rfl; apply G1_call (f := 51); exact rfl; exact rfl; exact rfl; exact hwd; intro v w6 hv; refine ⟨.inl rfl, ?_⟩
        obtain ⟨hf6, rfl, hR6⟩ := hv
        have hO6 := hI5.o.own hI5.rd.blk hf6
        obtain ⟨hk, hrl, hrw, hrr⟩ := hwr
        rw [hrr, List.append_nil, List.drop_drop] at hrun
        have hO6' : FdO w w6 ar a2 a8 p pw p1 ⟨z.a + k, r', z.pw, z.cw, z.hs, z.ls, z.pd, z.cd⟩ := ⟨hO6.gv, hO6.cm, hO6.fr, hO6.np, hO6.npw, hO6.h8, hO6.h2⟩
        have hti := tidy_ok hR6 (show (inp ++ bs).length ≤ 1000000000 by rw [List.length_append]; omega)
        have hA2e := (hO6').gv.ptr
        repeat' (first | (apply G_on; exact rfl; first | ((first | apply G1_assign | apply G1_move); exact rfl; exact rfl) | (apply G1_loadB; exact T.p60; exact rfl; assumption; exact rfl; exact rfl) | (apply G1_extract; exact rfl; exact rfl; exact rfl) | (apply G1_not_f; exact rfl; exact rfl)) | apply G_nil | apply Post_next | apply W_seq | apply W_region | (apply W_cond_true; exact rfl) | apply W_exit | apply Post_then_exit | apply Post_block_exit | (apply Post_block_other; exact rfl))
        apply G_on; exact rfl; apply G1_call (f := 56); exact rfl; exact rfl; exact rfl; exact hti; rintro vT wT ⟨hfT, hRT⟩; refine ⟨.inl rfl, ?_⟩
        obtain ⟨hGT, hFA⟩ := feed_done hR6 hO6' hfT hRT hrun
        have hbkT := hRT.blk
        have hA2T := hGT.ptr
        have hA8T := hGT.box
        repeat' (first | (apply G_on; exact rfl; first | ((first | apply G1_assign | apply G1_nilCheck); exact rfl; exact rfl) | (apply G1_loadB; (first | exact T.p60 | exact T.p44 | exact T.p58); exact rfl; assumption; exact rfl; exact rfl) | (apply G1_fieldAddr; exact T.f109_6; exact rfl; exact rfl)) | apply G_nil | apply Post_next | apply W_seq | apply Post_scopeR | refine W_drawn 1 [] [0,1,2,3,4,5,6] mixed (by decide +kernel) ?_ | apply W_ret)
        refine Post_ret Tryz.results18 ⟨_, _, rfl, rfl, _, _, rfl, rfl, rfl⟩ ?_
        exact hFA _ (by repeat first | assumption | exact Ext.rfl' | apply Ext.drew | apply Ext.alloc | refine Ext.trans ?_ (by assumption))
      | err e =>
        rw [hW] at hwd hwr
        repeat' (first | (apply G_on; exact rfl; first | (apply G1_nilCheck; exact rfl; exact rfl) | (apply G1_loadB; (first | exact T.p60 | exact T.p3); exact rfl; assumption; exact rfl; exact rfl) | (apply G1_fieldAddr; exact T.f109_2; exact rfl; exact rfl) | (apply G1_gtr; exact rfl; exact rfl; exact rfl)) | apply G_nil | apply Post_next | apply W_seq | apply W_region | (apply W_cond_dec; exact rfl; all_goals (intro h; try (exfalso; omega))) | apply W_skip | apply W_block)
        all_goals try (exfalso; omega)
        apply G_on; exact rfl; apply G1_call (f := 51); exact rfl; exact rfl; exact rfl; exact hwd; intro v w6 hv; refine ⟨.inl rfl, ?_⟩
        obtain ⟨hf6, rfl, a', r', hR6⟩ := hv
        have hO6 := hI5.o.own hI5.rd.blk hf6
        have he := word_err hW
        have hX : (runP r (inp ++ bs)).out = z.ls ∧ (runP r (inp ++ bs)).err = e := by
          rw [hrun]
          exact ⟨by simp only; rw [hwr.1, List.append_nil], hwr.2⟩
        have hti := tidy_bad hR6 (by omega)
        have hA2e := (hO6).gv.ptr
        repeat' (first | (apply G_on; exact rfl; first | ((first | apply G1_assign | apply G1_move); exact rfl; exact rfl) | (apply G1_loadB; exact T.p60; exact rfl; assumption; exact rfl; exact rfl) | (apply G1_extract; exact rfl; exact rfl; exact rfl) | (apply G1_not_f; exact rfl; exact rfl)) | apply G_nil | apply Post_next | apply W_seq | apply W_region | (apply W_cond_true; exact rfl) | apply W_exit | apply Post_then_exit | apply Post_block_exit | (apply Post_block_other; exact rfl))
        apply G_on; exact rfl; apply G1_call (f := 56); exact rfl; exact rfl; exact rfl; exact hti; rintro vT wT ⟨hfT, hRT⟩; refine ⟨.inl rfl, ?_⟩
        obtain ⟨hGT, hFA⟩ := feed_fail hR6 hO6 hfT hRT (by omega) hX
        have hbkT := hRT.blk
        have hA2T := hGT.ptr
        have hA8T := hGT.box
        repeat' (first | (apply G_on; exact rfl; first | ((first | apply G1_assign | apply G1_nilCheck); exact rfl; exact rfl) | (apply G1_loadB; (first | exact T.p60 | exact T.p44 | exact T.p58); exact rfl; assumption; exact rfl; exact rfl) | (apply G1_fieldAddr; exact T.f109_6; exact rfl; exact rfl)) | apply G_nil | apply Post_next | apply W_seq | apply Post_scopeR | refine W_drawn 1 [] [0,1,2,3,4,5,6] mixed (by decide +kernel) ?_ | apply W_ret)
        refine Post_ret Tryz.results18 ⟨_, _, rfl, rfl, _, _, rfl, rfl, rfl⟩ ?_
        exact hFA _ (by repeat first | assumption | exact Ext.rfl' | apply Ext.drew | apply Ext.alloc | refine Ext.trans ?_ (by assumption))
      | ok s hh k =>
        rw [hW] at hwd hwr hwh
        repeat' (first | (apply G_on; exact rfl; first | (apply G1_nilCheck; exact rfl; exact rfl) | (apply G1_loadB; (first | exact T.p60 | exact T.p3); exact rfl; assumption; exact rfl; exact rfl) | (apply G1_fieldAddr; exact T.f109_2; exact rfl; exact rfl) | (apply G1_gtr; exact rfl; exact rfl; exact rfl)) | apply G_nil | apply Post_next | apply W_seq | apply W_region | (apply W_cond_dec; exact rfl; all_goals (intro h; try (exfalso; omega))) | apply W_skip | apply W_block)
        all_goals try (exfalso; omega)
        apply G_on; exact rfl; apply G1_call (f := 51); exact rfl; exact rfl; exact rfl; exact hwd; intro v w6 hv; refine ⟨.inl rfl, ?_⟩
        obtain ⟨hf6, rfl, hR6⟩ := hv
        have hO6 := hI5.o.own hI5.rd.blk hf6
        obtain ⟨hk, hk0, hrr⟩ := hwr
        have hA26 := hO6.gv.ptr
        have hbk6 := hR6.blk
        simp only at hbk6 hwh
        have hO6w := hR6.wds
        simp only at hO6w
        have hwl := hI5.good.words
        repeat' (first | (refine W_cutR (id := 13) [(2, .pointer (some (adr (bx a2) 0))), (8, .pointer (some (adr (bx a8) 0))), (9, .func (.func 50) #[] #[.pointer (some (adr (bx a8) 0)), .pointer (some (adr (bx a2) 0))])] (fun w' => ∃ p8 c8, RdSt w0 w' ar B p1 c1 (inp ++ bs) (z.a + k) p8 c8 ⟨z.r.left, -1, z.r.words ++ [mkStr s], hh⟩ 0 ∧ FdO w w' ar a2 a8 p pw p1 ⟨z.a + k, ⟨z.r.left, -1, z.r.words ++ [mkStr s], hh⟩, p8, c8, z.hs, z.ls, z.pd, z.cd⟩) ?_ ?_) | (apply G_on; exact rfl; first | ((first | apply G1_assign | apply G1_move); exact rfl; exact rfl) | (apply G1_extract; exact rfl; exact rfl; exact rfl) | (apply G1_not_t; exact rfl; exact rfl)) | apply G_nil | apply Post_next | apply W_seq | apply W_region | (apply W_cond_false; exact rfl) | apply W_skip)
        · refine W_drawnT 1 [] (.node [5] (.alt 0 (.node [] (.alt 1 (.leaf [2,3,4,6,7,8,9,10]) (.alt 6 (.node [] (.alt 1 (.leaf [2,3,4,7,8,9,10]) .stop)) .stop))) (.alt 1 (.node [2,3,4] (.alt 0 (.leaf [6,7,8,9,10]) (.alt 6 (.node [] (.alt 0 (.leaf [7,8,9,10]) (.alt 7 (.leaf [0,8,9,10]) .stop))) .stop))) (.alt 6 (.node [] (.alt 0 (.node [] (.alt 1 (.leaf [2,3,4,7,8,9,10]) .stop)) (.alt 1 (.node [2,3,4] (.alt 0 (.leaf [7,8,9,10]) (.alt 7 (.leaf [0,8,9,10]) .stop))) .stop))) .stop)))) mixed (by decide +kernel) ?_
          repeat' (first | (apply G_on; exact rfl; first | ((first | apply G1_move | apply G1_nilCheck); exact rfl; exact rfl) | (apply G1_loadB; (first | exact T.p60 | exact T.p37); exact rfl; assumption; exact rfl; exact rfl) | (apply G1_fieldAddr; exact T.f109_4; exact rfl; exact rfl)) | apply G_nil | (refine GT_leaf ?_) | (refine GT_node ?_) | (apply GT_alt) | (exact GT_stop))
          all_goals
            apply G_on; exact rfl
            apply G1_build1 eStr (mkStr s); exact T.s37; exact rfl; exact rfl; exact rfl; decide; exact rfl; exact rfl
            intro p7 w7 hp7 hs7 _ hx7 hz7
            have hx67 : Ext w6 w7 := (by repeat first | assumption | exact Ext.rfl' | apply Ext.drew | apply Ext.alloc | refine Ext.trans ?_ (by assumption))
            have hA27 := hA26.ext hx67
            have hbk7 := hbk6.ext hx67
            have hB7 := Nat.le_trans hR6.hB hx67.size
            have nA2 := (hO6w.ext hx67).apartB hA27 (by decide)
            have nAr := (hO6w.ext hx67).apartB hbk7 (by decide)
            repeat' (first | (apply G_on; exact rfl; first | (apply G1_nilCheck; exact rfl; exact rfl) | (apply G1_appendA; exact T.s37; exact rfl; exact rfl; exact hO6w.ext hx67; exact hs7; exact rfl; exact hB7; (simp only [List.length_cons, List.length_nil]; omega); (simp only [List.length_cons, List.length_nil]; omega); exact rfl; exact rfl; exact rfl; intro p8 c8 w8 ha8; have hA28 := hA27.grown ha8.grown nA2; have hbk8 := hbk7.grown ha8.grown nAr) | (apply G1_loadB; (first | exact T.p60 | exact T.p37); exact rfl; assumption; exact rfl; exact rfl) | (apply G1_fieldAddr; exact T.f109_4; exact rfl; exact rfl)) | apply G_nil | (refine GT_leaf ?_) | (refine GT_node ?_) | (apply GT_alt) | (exact GT_stop))
          all_goals
            apply G_on; exact rfl; apply G1_storeB; exact T.z37; exact rfl; exact rfl; exact hbk8; exact rfl; exact rfl; (first | exact Nat.le_of_ble_eq_true rfl | (focus (simp [Value.cells]; done))); (first | exact Enc.one _ _ | (focus (simp [Value.oneCell']; done)) | (focus (simp [Value.cells, Value.oneCell']; done)) | exact Enc.oneAgg _ _); exact rfl; (first | exact .inl rfl | exact .inr (by simp [exempt])); exact rfl; intro w9 hA9 hg9 hs9
            replace hA9 : Blk w9.heap ar 109 [.slice p1 (inp ++ bs).length c1, .int .i64 ((z.a + k : Nat) : Int), .int .i64 (z.r.left : Int), .int .i64 (-1), .slice p8 (z.r.words ++ [mkStr s]).length c8, .int .i64 (hh : Int), .int .i64 0] := hA9
            have hRO := feed_word hI5.rd hI5.o hf6 hR6 hO6 hx67 ha8 hg9 hA9
            repeat' (first | apply G_nil | (refine Post_cut ⟨rfl, rfl, rfl, trivial⟩ ⟨p8, c8, hRO⟩))
        rintro w9 ⟨p8, c8, hR9, hO9⟩
        have hA29 := hO9.gv.ptr
        have hbk9 := hR9.blk
        simp only at hbk9
        repeat' (first | (apply G_on; exact rfl; first | (apply G1_nilCheck; exact rfl; exact rfl) | (apply G1_loadB; (first | exact T.p60 | exact T.p3); exact rfl; assumption; exact rfl; exact rfl) | (apply G1_fieldAddr; exact T.f109_2; exact rfl; exact rfl) | (apply G1_sub; exact rfl; exact rfl; omega; omega; exact rfl)) | apply W_seq | apply W_region)
        apply G_on; exact rfl; apply G1_storeB; exact T.z3; exact rfl; exact rfl; exact hbk9; exact rfl; exact rfl; (first | exact Nat.le_of_ble_eq_true rfl | (focus (simp [Value.cells]; done))); (first | exact Enc.one _ _ | (focus (simp [Value.oneCell']; done)) | (focus (simp [Value.cells, Value.oneCell']; done)) | exact Enc.oneAgg _ _); exact rfl; (first | exact .inl rfl | exact .inr (by simp [exempt])); exact rfl; intro w10 hA10 hg10 hs10
        replace hA10 : Blk w10.heap ar 109 [.slice p1 (inp ++ bs).length c1, .int .i64 ((z.a + k : Nat) : Int), .int .i64 ((z.r.left : Int) - 1), .int .i64 (-1), .slice p8 (z.r.words ++ [mkStr s]).length c8, .int .i64 (hh : Int), .int .i64 0] := hA10
        rw [show (z.r.left : Int) - 1 = ((z.r.left - 1 : Nat) : Int) by omega] at hA10
        have hR10 : RdSt w0 w10 ar B p1 c1 (inp ++ bs) (z.a + k) p8 c8 ⟨z.r.left - 1, -1, z.r.words ++ [mkStr s], hh⟩ 0 := hR9.set hg10 hA10 rfl (by omega)
        have hO10 := hO9.own hR9.blk (FrS.of_grown (F := fun q => q = ar) hg10 (fun k hk => by injection hk with hk; exact hk.symm))
        have hA210 := hO10.gv.ptr
        clear hbk9
        by_cases hl1 : z.r.left = 1
        · rw [if_pos hl1] at hrr
          have hl1' : ((z.r.left - 1 : Nat) : Int) = 0 := by omega
          repeat' (first | (apply G_on; exact rfl; first | ((first | apply G1_move | apply G1_nilCheck); exact rfl; exact rfl) | (apply G1_loadB; (first | exact T.p60 | exact T.p3 | exact T.p37); exact rfl; assumption; exact rfl; exact rfl) | (apply G1_fieldAddr; (first | exact T.f109_2 | exact T.f109_4); exact rfl; exact rfl) | (apply G1_eql; exact rfl; exact rfl; exact rfl)) | apply G_nil | apply Post_next | apply W_seq | apply W_region | (apply W_cond_dec; exact rfl; all_goals (intro h; try (exfalso; omega))))
          all_goals try (exfalso; omega)
          have hgv := give_spec (q := p8) (m := (z.r.words ++ [mkStr s]).length) (d := c8) hR10 hO10.gv (by have := hR.ext.size; have := hO10.h8; omega) hR.ext.size hO10.fr.size (by simp only; omega)
          apply G_on; exact rfl; apply G1_callv; exact rfl; exact rfl; exact rfl; exact rfl; exact hgv; rintro v11 w11 ⟨pd', cd', hR11, hG11, hF11, hnd11⟩; refine ⟨(by first | exact .inl rfl | exact .inr (by assumption)), ?_⟩
          have hrs : (⟨z.r.left - 1, -1, [], 0⟩ : RS) = rs0 := by rw [hl1]; rfl
          simp only at hR11 hG11 hF11 hnd11
          rw [hrs] at hR11
          have hO11 := hO10.give (a' := z.a + k) (r' := rs0) (l := z.r.words ++ [mkStr s]) hR10 hG11 hF11 hnd11 rfl hR10.wds
          rw [hrr, List.drop_drop] at hrun
          repeat' (first | apply G_nil | apply Post_next | apply W_exit | apply Post_then_exit | apply Post_block_exit | (apply Post_block_other; exact rfl))
          refine Post_round (⟨z.a + k, rs0, none, 0, z.hs ++ [(p8, (z.r.words ++ [mkStr s]).length, c8)], z.ls ++ [z.r.words ++ [mkStr s]], pd', cd'⟩ : FdY) ⟨rfl, rfl, rfl, trivial⟩ ⟨hR11, hO11, by rw [hrun]; simp, by simp only [rs0]; omega, good0, by simp only [List.length_append, List.length_singleton]; omega⟩ (by simp only; omega)
        · rw [if_neg hl1, List.drop_drop] at hrr
          rw [hrr] at hrun
          have hl1' : ¬ ((z.r.left - 1 : Nat) : Int) = 0 := by omega
          repeat' (first | (apply G_on; exact rfl; first | (apply G1_nilCheck; exact rfl; exact rfl) | (apply G1_loadB; (first | exact T.p60 | exact T.p3); exact rfl; assumption; exact rfl; exact rfl) | (apply G1_fieldAddr; exact T.f109_2; exact rfl; exact rfl) | (apply G1_eql; exact rfl; exact rfl; exact rfl)) | apply G_nil | apply Post_next | apply W_seq | apply W_region | (apply W_cond_dec; exact rfl; all_goals (intro h; try (exfalso; omega))) | apply W_skip | apply Post_block_normal)
          all_goals try (exfalso; omega)
          have hheld := hI5.held
          refine Post_round (⟨z.a + k, ⟨z.r.left - 1, -1, z.r.words ++ [mkStr s], hh⟩, p8, c8, z.hs, z.ls, z.pd, z.cd⟩ : FdY) ⟨rfl, rfl, rfl, trivial⟩ ⟨⟨hR10, ⟨hO10.gv, hO10.cm, hO10.fr, hO10.np, hO10.npw, hO10.h8, hO10.h2⟩, hrun, by simp only; omega, ⟨⟨by simp only; omega, by simp only; omega⟩, by simp only [List.length_append, List.length_singleton]; omega, fun e => by simp only at e; omega⟩, by simp only; omega⟩, by simp only; omega⟩ (by simp only; omega)
end Go.Proofs.YtipbakiecocioaaGreatDoor

/- Requests: what a printed command is, and that a reader takes it back; in plain Lean. -/
namespace Go.Proofs.YtipbakiecocioaaGreatDoor
open Go.V
attribute [local irreducible] Blk Own hcell IntT SliceT PlainT AggT SizeT StrT FieldT ZeroT EqT ArrT
def dec (n : Nat) : List UInt8 := Lib.itoa (n : Int)
theorem dec_eq (n : Nat) : dec n = Lib.decDigits n := by
  unfold dec Lib.itoa
  rw [if_neg (by omega), Int.toNat_natCast]
theorem dec_ne10 {n : Nat} : ∀ c ∈ dec n, c ≠ 10 := by
  intro c hc e
  rw [dec_eq] at hc
  have := dec_ge n c hc
  rw [e] at this
  simp at this
theorem dec_len {n : Nat} (h : n ≤ 1000000000) : (dec n).length ≤ 20 := by
  have := itoa_size (n := (n : Int)) (by unfold fit64; omega)
  rw [size_list, itoaB_list] at this
  exact this
theorem dec_num {n : Nat} (h : n ≤ 1000000000) : numOf (dec n) = some (n : Int) := num_itoa (by unfold fit64; omega)
theorem nlAt_app10 : ∀ {s : List UInt8} (m : List UInt8), (∀ c ∈ s, c ≠ 10) → nlAt (s ++ 10 :: m) = s.length
  | [], m, _ => by simp [nlAt]
  | b :: s, m, h => by
    rw [List.cons_append]
    unfold nlAt
    rw [if_neg (h b (by simp)), nlAt_app10 m (fun c hc => h c (by simp [hc])), List.length_cons]
/-- a line that is short enough, and what is behind it -/
theorem line_of {s : List UInt8} (m : List UInt8) (h : ∀ c ∈ s, c ≠ 10) (hl : s.length ≤ 1024) : lineP (s ++ 13 :: 10 :: m) = .ok s (s.length + 2) := by
  have e1 : s ++ 13 :: 10 :: m = (s ++ [13]) ++ 10 :: m := by simp
  have e2 : nlAt (s ++ 13 :: 10 :: m) = s.length + 1 := by
    rw [e1, nlAt_app10 m (fun c hc => by
      rcases List.mem_append.1 hc with hc | hc
      · exact h c hc
      · rw [List.mem_singleton.1 hc]; decide)]
    simp
  unfold lineP
  rw [e2, if_pos ⟨by simp, by omega⟩]
  have e3 : (s ++ 13 :: 10 :: m).getD (s.length + 1 - 1) 0 = 13 := by
    rw [List.getD_eq_getElem?_getD, Nat.add_sub_cancel, List.getElem?_append_right (Nat.le_refl _), Nat.sub_self]
    rfl
  rw [e3, if_neg (by simp), Nat.add_sub_cancel, List.take_left' rfl]
theorem step_star {n : Nat} (m : List UInt8) (h1 : 1 ≤ n) (h2 : n ≤ 128) : stepP rs0 ((42 :: dec n) ++ 13 :: 10 :: m) = .go ⟨n, -1, [], (dec n).length + 3⟩ ((dec n).length + 3) [] := by
  have hd := dec_len (n := n) (by omega)
  have hl := line_of m (s := 42 :: dec n) (fun c hc => by
    rcases List.mem_cons.1 hc with hc | hc
    · rw [hc]; decide
    · exact dec_ne10 c hc) (by rw [List.length_cons]; omega)
  unfold stepP
  rw [if_pos (show rs0.left = 0 from rfl), hl]
  simp only
  rw [if_pos (show (42 :: dec n).head? = some 42 from rfl)]
  have e : numP (42 :: dec n) 42 1 128 = .ok (n : Int) := by
    unfold numP
    simp only
    rw [if_pos trivial, dec_num (by omega)]
    simp only
    rw [if_neg (by omega), if_neg (by omega)]
  rw [e]
  simp only [List.length_cons, Int.toNat_natCast]
theorem step_dollar {r : RS} {n : Nat} (m : List UInt8) (hr : 0 < r.left) (hz : r.size < 0) (h2 : n ≤ 4096) : stepP r ((36 :: dec n) ++ 13 :: 10 :: m) = .go { r with size := (n : Int), held := r.held + ((dec n).length + 3) } ((dec n).length + 3) [] := by
  have hd := dec_len (n := n) (by omega)
  have hl := line_of m (s := 36 :: dec n) (fun c hc => by
    rcases List.mem_cons.1 hc with hc | hc
    · rw [hc]; decide
    · exact dec_ne10 c hc) (by rw [List.length_cons]; omega)
  unfold stepP
  rw [if_neg (by omega), if_pos hz, hl]
  simp only
  have e : numP (36 :: dec n) 36 0 4096 = .ok (n : Int) := by
    unfold numP
    simp only
    rw [if_pos trivial, dec_num (by omega)]
    simp only
    rw [if_neg (by omega), if_neg (by omega)]
  rw [e]
  simp only [List.length_cons]
theorem step_word {r : RS} {s : List UInt8} (m : List UInt8) (hr : 0 < r.left) (hz : r.size = (s.length : Int)) : stepP r (s ++ 13 :: 10 :: m) = if r.left = 1 then .go rs0 (s.length + 2) [r.words ++ [mkStr s]] else .go ⟨r.left - 1, -1, r.words ++ [mkStr s], r.held + (s.length + 2)⟩ (s.length + 2) [] := by
  have hn : r.size.toNat = s.length := by rw [hz, Int.toNat_natCast]
  unfold stepP
  rw [if_neg (by omega), if_neg (by omega), hn, if_neg (by simp), List.drop_left' rfl, if_pos (show List.take 2 (13 :: 10 :: m) = [13, 10] from rfl), List.take_left' rfl]
def bytesOf (w : ByteArray) : List UInt8 := w.data.toList
theorem mk_bytes (w : ByteArray) : mkStr (bytesOf w) = w := by
  unfold mkStr bytesOf
  simp
theorem bytes_len (w : ByteArray) : (bytesOf w).length = w.size := by
  unfold bytesOf
  rw [Array.length_toList]; rfl
/-- a word, and a command, as they are printed -/
def prW (w : ByteArray) : List UInt8 := (36 :: dec w.size) ++ 13 :: 10 :: (bytesOf w ++ [13, 10])
def prHead (n : Nat) : List UInt8 := (42 :: dec n) ++ [13, 10]
def prB (l : List ByteArray) : List UInt8 := prHead l.length ++ l.flatMap prW
structure PrOk (l : List ByteArray) : Prop where
  pos : l ≠ []
  len : l.length ≤ 128
  words : ∀ w ∈ l, w.size ≤ 4096
open Classical in
noncomputable def prC (l : List ByteArray) : List UInt8 := if PrOk l then prB l else []
theorem run_word {n : Nat} {ws : List ByteArray} {h : Nat} {w : ByteArray} (m : List UInt8) (hw : w.size ≤ 4096) :
    ∃ h', runP ⟨n + 1, -1, ws, h⟩ (prW w ++ m) = if n = 0 then { runP rs0 m with out := (ws ++ [w]) :: (runP rs0 m).out } else runP ⟨n, -1, ws ++ [w], h'⟩ m := by
  have e1 : prW w ++ m = (36 :: dec w.size) ++ 13 :: 10 :: (bytesOf w ++ 13 :: 10 :: m) := by unfold prW; simp
  have s1 := step_dollar (r := ⟨n + 1, -1, ws, h⟩) (n := w.size) (bytesOf w ++ 13 :: 10 :: m) (by simp) (by simp) hw
  have s2 := step_word (r := ⟨n + 1, (w.size : Int), ws, h + ((dec w.size).length + 3)⟩) (s := bytesOf w) m (by simp) (by rw [bytes_len])
  have d1 : ((36 :: dec w.size) ++ 13 :: 10 :: (bytesOf w ++ 13 :: 10 :: m)).drop ((dec w.size).length + 3) = bytesOf w ++ 13 :: 10 :: m := by
    rw [show (36 :: dec w.size) ++ 13 :: 10 :: (bytesOf w ++ 13 :: 10 :: m) = ((36 :: dec w.size) ++ [13, 10]) ++ (bytesOf w ++ 13 :: 10 :: m) by simp]
    exact List.drop_left' (by simp)
  have d2 : (bytesOf w ++ 13 :: 10 :: m).drop ((bytesOf w).length + 2) = m := by
    rw [show bytesOf w ++ 13 :: 10 :: m = (bytesOf w ++ [13, 10]) ++ m by simp]
    exact List.drop_left' (by simp)
  rw [e1, run_go s1, d1, List.nil_append]
  simp only
  rw [mk_bytes] at s2
  by_cases hn : n = 0
  · subst hn
    refine ⟨0, ?_⟩
    rw [if_pos rfl] at s2 ⊢
    rw [run_go s2, d2]
    rfl
  · refine ⟨h + ((dec w.size).length + 3) + ((bytesOf w).length + 2), ?_⟩
    rw [if_neg (by simp only; omega)] at s2
    rw [if_neg hn, run_go s2, d2]
    rfl
theorem run_words : ∀ (l : List ByteArray) (ws : List ByteArray) (h : Nat) (m : List UInt8), l ≠ [] → (∀ w ∈ l, w.size ≤ 4096) → runP ⟨l.length, -1, ws, h⟩ (l.flatMap prW ++ m) = { runP rs0 m with out := (ws ++ l) :: (runP rs0 m).out }
  | [], _, _, _, h, _ => absurd rfl h
  | w :: l, ws, h, m, _, hw => by
    rw [List.flatMap_cons, List.append_assoc, List.length_cons]
    obtain ⟨h', e⟩ := run_word (n := l.length) (ws := ws) (h := h) (l.flatMap prW ++ m) (hw w (by simp))
    rw [e]
    by_cases hl : l.length = 0
    · obtain rfl : l = [] := List.eq_nil_of_length_eq_zero hl
      rw [if_pos (show ([] : List ByteArray).length = 0 from rfl)]
      rfl
    · rw [if_neg hl, run_words l (ws ++ [w]) h' m (fun e => hl (by rw [e]; rfl)) (fun x hx => hw x (by simp [hx]))]
      simp
/-- a printed command is taken back -/
theorem run_print {l : List ByteArray} (m : List UInt8) (h : PrOk l) : runP rs0 (prB l ++ m) = { runP rs0 m with out := l :: (runP rs0 m).out } := by
  have hl : 0 < l.length := List.length_pos_iff.2 h.pos
  have s1 := step_star (n := l.length) (l.flatMap prW ++ m) hl h.len
  have e1 : prB l ++ m = (42 :: dec l.length) ++ 13 :: 10 :: (l.flatMap prW ++ m) := by unfold prB prHead; simp
  have d1 : ((42 :: dec l.length) ++ 13 :: 10 :: (l.flatMap prW ++ m)).drop ((dec l.length).length + 3) = l.flatMap prW ++ m := by
    rw [show (42 :: dec l.length) ++ 13 :: 10 :: (l.flatMap prW ++ m) = ((42 :: dec l.length) ++ [13, 10]) ++ (l.flatMap prW ++ m) by simp]
    exact List.drop_left' (by simp)
  rw [e1, run_go s1, d1, run_words l [] _ m h.pos h.words]
  rfl
theorem run_nil : runP rs0 [] = ⟨[], rs0, [], 0⟩ := by
  refine run_stop ?_
  unfold stepP
  rw [if_pos (show rs0.left = 0 from rfl)]
  rfl
theorem pr_len {l : List ByteArray} (hl : l.length ≤ 200) (hw : ∀ w ∈ l, w.size ≤ 5000) : (prB l).length ≤ 30 + l.length * 6000 := by
  have key : ∀ l : List ByteArray, (∀ w ∈ l, w.size ≤ 5000) → (l.flatMap prW).length ≤ l.length * 6000 := by
    intro l
    induction l with
    | nil => intro _; simp
    | cons w l ih =>
      intro h
      have h1 := ih (fun x hx => h x (by simp [hx]))
      have h2 := h w (by simp)
      have h3 := dec_len (n := w.size) (by omega)
      rw [List.flatMap_cons, List.length_append, List.length_cons]
      have h4 : (prW w).length = (dec w.size).length + 5 + w.size := by unfold prW; simp [bytes_len]; omega
      omega
  have h1 := key l hw
  have h2 := dec_len (n := l.length) (by omega)
  unfold prB prHead
  simp only [List.length_append, List.length_cons, List.length_nil]
  omega
end Go.Proofs.YtipbakiecocioaaGreatDoor

/- Requests: Feed at one part. -/
namespace Go.V
section
variable {P : Program} {n : Nat} {ops : Array Oper} {dr : Nat × List Nat} {l : List Oper} {E : Env} {w : World} {K : Env → World → Prop}
variable {d : Option Nat} {ty : TypeId} {pos : String} {af : Array Edge} {g : Option (Nat × Bool)} {x y : Operand} {t t' u : TypeId} {a : Addr}
theorem run_equal_pnil (hu : P.underlying t = some (.pointer u)) (w : World) : (Op.equal t (.pointer (some a)) (.pointer none)).run P w = .ok false w := by
  have key : ∀ d, (Op.equalIn (d + 1) t (.pointer (some a)) (.pointer none)).run P w = .ok false w := by
    intro d
    rw [Op.equalIn.eq_def]
    simp [run_underlying hu]
  exact key _
theorem G1_pnileql (hu : P.underlying t = some (.pointer u)) (hx : E.look x = some (.pointer (some a))) (hy : E.look y = some (.pointer none)) (hd : dstOk n d = true) (h : G P n ops dr l (E.put d (.bool false)) w K) : G1 P n ops dr ⟨d, .binOp .eql t x y t', ty, pos, af, g⟩ l E w K :=
  G1_quiet _ hd (fun a ha w' _ => by simp [execOp, ha.eval hx, ha.eval hy, eqGuard, binOp, run_equal_pnil hu]) h
end
end Go.V
namespace Go.Proofs.YtipbakiecocioaaGreatDoor
open Go.V
attribute [local irreducible] Blk Own hcell IntT SliceT PlainT AggT SizeT StrT FieldT ZeroT EqT ArrT
/-- a line of words -/
theorem step_inline {s : List UInt8} (m : List UInt8) (h : ∀ c ∈ s, c ≠ 10) (hl : s.length ≤ 1024) (h42 : s.head? ≠ some 42) (hw : (cutG [] s).length ≤ 128) : stepP rs0 (s ++ 13 :: 10 :: m) = .go rs0 (s.length + 2) (if cutG [] s = [] then [] else [(cutG [] s).map mkStr]) := by
  unfold stepP
  rw [if_pos (show rs0.left = 0 from rfl), line_of m h hl]
  simp only
  rw [if_neg h42, if_neg (by omega)]
/-- one slice of bytes is handed to Feed -/
theorem parts_one {H : Array Obj} {F : Nat → Prop} {q : Option Addr} {d : Nat} {bs : List UInt8} (h : Sl H eByte q d bs) (hf : ∀ x, q = some x → bs ≠ [] → ¬ F x.block) : PartsAt H F [(q, bs.length, d)] [bs] :=
  ⟨rfl, fun i h1 b hi hb => by
    match i with
    | 0 =>
      obtain rfl : (q, bs.length, d) = h1 := by simpa using hi
      obtain rfl : bs = b := by simpa using hb
      exact ⟨rfl, h, hf⟩
    | k + 1 => simp at hi⟩
/-- a newer block is none of the reader's -/
theorem rd_apart {w0 w : World} {ar B : Nat} {p : Option Addr} {c : Nat} {inp : List UInt8} {a : Nat} {pw : Option Addr} {cw : Nat} {r : RS} {ft : Int} (h : RdSt w0 w ar B p c inp a pw cw r ft) {k : Nat} (hk : w.heap.size ≤ k) : ¬ (k = ar ∨ blk p = some k) := fun e => by
  have := h.blk.lt
  rcases e with e | e
  · omega
  · have := (h.row.ge k e).2; omega
theorem feed_one {w0 : World} {ar B : Nat} {p : Option Addr} {c : Nat} {inp : List UInt8} {pw : Option Addr} {cw : Nat} {r : RS} {q q1 : Option Addr} {d d1 : Nat} {bs : List UInt8} {w1 w : World} (hR1 : RdSt w0 w1 ar B p c inp 0 pw cw r 0) (hx : Ext w1 w)
    (hS : Sl w.heap eSlc q d [(q1, bs.length, d1)]) (hq : ∀ x, q = some x → w1.heap.size ≤ x.block) (hb : Sl w.heap eByte q1 d1 bs) (hq1 : ∀ x, q1 = some x → w1.heap.size ≤ x.block) (hN : inp.length + bs.length ≤ 100000000) (hH : r.held ≤ 100000000) (hT : Pow w0) (hE : Errs w0) (hg0 : GoodR r) :
    Ctr Tryz.prog 18 [.pointer (some (adr (bx ar) 0)), .slice q 1 d] w (FeedA w0 w ar B p pw (runP r (inp ++ bs))) := by
  have h := feed_spec (hR1.xt hx) (ks := [(q1, bs.length, d1)]) (parts := [bs]) hS (fun x hx' _ => rd_apart hR1 (hq x hx')) (parts_one hb (fun x hx' _ => rd_apart hR1 (hq1 x hx'))) (by simpa using hN) hH hT hE hg0
  simpa using h
end Go.Proofs.YtipbakiecocioaaGreatDoor

/- append where lengths are told by equations. -/
namespace Go.V
section
variable {P : Program} {n : Nat} {ops : Array Oper} {dr : Nat × List Nat} {l : List Oper} {E : Env} {w : World} {K : Env → World → Prop}
variable {d : Option Nat} {ty : TypeId} {pos : String} {af : Array Edge} {g : Option (Nat × Bool)} {x y : Operand} {t t' u sz by_ c : Nat} {p : Option Addr}
/-- append where the other row's length is told by an equation -/
theorem G1_appendE {α : Type} {e : Enc α} {B m k : Nat} {xs ys : List α} {q : Option Addr} {c2 : Nat} (hu : SliceT P t u sz by_) (hx : E.look x = some (.slice p k c)) (hy : E.look y = some (.slice q m c2)) (hk : k = xs.length) (hm : m = ys.length) (hown : Own w B u e p c xs) (hsl : Sl w.heap e q c2 ys)
    (hsz : e.sz = sz) (hB : B ≤ w.heap.size) (hlen : (xs.length + ys.length) * by_ ≤ 140737488355328) (hmax : xs.length + ys.length ≤ 9223372036854775807)
    (he : effects P dr.1 ⟨d, .call ⟨.builtin .append, #[x, y], #[t, t]⟩, ty, pos, af, g⟩ = true) (hw : writes dr.1 ⟨d, .call ⟨.builtin .append, #[x, y], #[t, t]⟩, ty, pos, af, g⟩ = true) (hd : dstOk n d = true)
    (h : ∀ p' c' w', App w w' B u e p p' c' (xs ++ ys) → G P n ops dr l (E.put d (.slice p' (xs ++ ys).length c')) w' K) : G1 P n ops dr ⟨d, .call ⟨.builtin .append, #[x, y], #[t, t]⟩, ty, pos, af, g⟩ l E w K := by
  subst hm hk
  exact G1_appendA hu hx hy hown hsl hsz hB hlen hmax he hw hd h
end
end Go.V

/- Audit: names in any case; the walks. -/
namespace Go.V
section
variable {P : Program} {n : Nat} {ops : Array Oper} {dr : Nat × List Nat} {l : List Oper} {E : Env} {w : World} {K : Env → World → Prop}
variable {d : Option Nat} {ty : TypeId} {pos : String} {af : Array Edge} {g : Option (Nat × Bool)} {x y : Operand} {k : IntKind} {t t' : TypeId} {i j r : Int}
theorem G1_subE (hx : E.look x = some (.int k i)) (hy : E.look y = some (.int k j)) (hr : k.wrap (i - j) = r) (hd : dstOk n d = true)
    (h : G P n ops dr l (E.put d (.int k r)) w K) : G1 P n ops dr ⟨d, .binOp .sub t x y t', ty, pos, af, g⟩ l E w K := by subst hr; exact G1_subw hx hy hd h
end
end Go.V
namespace Go.Proofs.YtipbakiecocioaaGreatDoor
open Go.V
attribute [local irreducible] Blk Own hcell IntT SliceT PlainT AggT SizeT StrT FieldT ZeroT EqT ArrT
def lowC (c : UInt8) : UInt8 := if 65 ≤ c.toNat ∧ c.toNat ≤ 90 then UInt8.ofNat (c.toNat + 32) else c
def greatC (c : UInt8) : UInt8 := if 97 ≤ c.toNat ∧ c.toNat ≤ 122 then UInt8.ofNat (c.toNat - 32) else c
theorem lowC_nat (c : UInt8) : (lowC c).toNat = if 65 ≤ c.toNat ∧ c.toNat ≤ 90 then c.toNat + 32 else c.toNat := by
  unfold lowC
  split
  · rw [UInt8.toNat_ofNat']; have := c.toNat_lt; omega
  · rfl
theorem greatC_nat (c : UInt8) : (greatC c).toNat = if 97 ≤ c.toNat ∧ c.toNat ≤ 122 then c.toNat - 32 else c.toNat := by
  unfold greatC
  split
  · rw [UInt8.toNat_ofNat']; have := c.toNat_lt; omega
  · rfl
/-- a great letter, in any case -/
theorem case_iff {c x : UInt8} (h1 : 65 ≤ c.toNat) (h2 : c.toNat ≤ 90) : lowC c = lowC x ↔ greatC x = c := by
  rw [← UInt8.toNat_inj, ← UInt8.toNat_inj, lowC_nat, lowC_nat, greatC_nat]
  constructor
  · intro h
    split at h <;> split at h <;> split <;> omega
  · intro h
    split at h <;> split <;> split <;> omega
def lowS (s : ByteArray) : List UInt8 := s.data.toList.map lowC
def greatS (s : ByteArray) : ByteArray := mkStr (s.data.toList.map greatC)
theorem lowS_len (s : ByteArray) : (lowS s).length = s.size := by
  unfold lowS
  rw [List.length_map, Array.length_toList]; rfl
theorem case_word {W a : ByteArray} (hW : ∀ c ∈ W.data.toList, 65 ≤ c.toNat ∧ c.toNat ≤ 90) : lowS W = lowS a ↔ greatS a = W := by
  have key : ∀ (l m : List UInt8), (∀ c ∈ l, 65 ≤ c.toNat ∧ c.toNat ≤ 90) → (l.map lowC = m.map lowC ↔ m.map greatC = l) := by
    intro l
    induction l with
    | nil =>
      intro m _
      cases m with
      | nil => simp
      | cons x m => simp
    | cons c l ih =>
      intro m h
      cases m with
      | nil => simp
      | cons x m =>
        have h0 := h c (by simp)
        have h1 := ih m (fun y hy => h y (by simp [hy]))
        simp only [List.map_cons, List.cons.injEq]
        rw [case_iff h0.1 h0.2, h1]
  unfold lowS greatS
  rw [key _ _ hW]
  constructor
  · intro h
    rw [h]
    unfold mkStr
    simp
  · intro h
    rw [← h]
    unfold mkStr
    simp
/-- the first of words that is a name in any case -/
def isAt : List ByteArray → ByteArray → Nat → Int
  | [], _, _ => -1
  | w :: ws, a, i => if lowS w = lowS a then (i : Int) else isAt ws a (i + 1)
def isP (ws : List ByteArray) (a : ByteArray) : Int := isAt ws a 0
theorem low_spec {c : UInt8} {ci : Int} {w : World} (hc : ci = (c.toNat : Int)) : Ctr Tryz.prog 116 [.int .u8 ci] w (fun v w' => v = .int .u8 ((lowC c).toNat : Int) ∧ Ext w w') := by
  subst hc
  have hlt := c.toNat_lt
  have hl := lowC_nat c
  refine Ctr_of Tryz.func116 Tryz.ntmps116 rfl rfl rfl ?_
  by_cases h : 65 ≤ c.toNat ∧ c.toNat ≤ 90
  · rw [if_pos h] at hl
    have q1 : IntKind.u8.wrap ((c.toNat : Int) + 97) = ((c.toNat + 97 : Nat) : Int) := by rw [show (c.toNat : Int) + 97 = ((c.toNat + 97 : Nat) : Int) by omega]; exact wrap_u8 (by omega) (by omega)
    have q2 : IntKind.u8.wrap (((c.toNat + 97 : Nat) : Int) - 65) = ((lowC c).toNat : Int) := by rw [hl, show ((c.toNat + 97 : Nat) : Int) - 65 = ((c.toNat + 32 : Nat) : Int) by omega]; exact wrap_u8 (by omega) (by omega)
    repeat' (first | (apply G_on; exact rfl; first | ((first | apply G1_assign | apply G1_move); exact rfl; exact rfl) | (apply G1_addE (r := ((c.toNat + 97 : Nat) : Int)); exact rfl; exact rfl; exact q1; exact rfl) | (apply G1_subE (r := ((lowC c).toNat : Int)); exact rfl; exact rfl; exact q2; exact rfl) | (apply G1_leq; exact rfl; exact rfl; exact rfl) | (apply G1_pick_t; exact rfl; exact rfl; exact rfl)) | apply G_nil | apply Post_next | apply W_seq | apply W_region | (apply W_cond_dec; exact rfl; all_goals (intro h; try (exfalso; omega))) | ((fail_if_success (apply G_on; exact rfl)); apply G_split_dec; exact rfl; exact rfl; all_goals (intro h; try (exfalso; omega))) | apply W_ret | apply Post_then_ret)
    all_goals try (exfalso; omega)
    refine Post_ret Tryz.results116 ⟨_, _, rfl, rfl, rfl⟩ ?_
    exact ⟨rfl, (by repeat first | assumption | exact Ext.rfl' | apply Ext.drew | apply Ext.alloc | refine Ext.trans ?_ (by assumption))⟩
  · rw [if_neg h] at hl
    repeat' (first | (apply G_on; exact rfl; first | ((first | apply G1_assign | apply G1_move); exact rfl; exact rfl) | (apply G1_leq; exact rfl; exact rfl; exact rfl) | (apply G1_pick_t; exact rfl; exact rfl; exact rfl) | (apply G1_pick_f; exact rfl; exact rfl; exact rfl)) | apply G_nil | apply Post_next | apply W_seq | apply W_region | (apply W_cond_false; exact rfl) | (apply W_cond_dec; exact rfl; all_goals (intro h; try (exfalso; omega))) | (apply G_off; exact rfl; exact rfl) | ((fail_if_success (apply G_on; exact rfl)); apply G_split_dec; exact rfl; exact rfl; all_goals (intro h; try (exfalso; omega))) | apply W_skip | apply W_ret)
    all_goals try (exfalso; omega)
    all_goals
      refine Post_ret Tryz.results116 ⟨_, _, rfl, rfl, rfl⟩ ?_
      rw [hl]
      exact ⟨rfl, (by repeat first | assumption | exact Ext.rfl' | apply Ext.drew | apply Ext.alloc | refine Ext.trans ?_ (by assumption))⟩

theorem is_at {a : ByteArray} {p : Option Addr} {d : Nat} {ws : List ByteArray} {w : World} (hS : Sl w.heap eStr p d ws) (ha : a.size ≤ 1000000000) :
    Ctr Tryz.prog 87 [.string a, .slice p ws.length d] w (fun v w' => v = .int .i64 (isP ws a) ∧ Ext w w') := by
  have n1 := hS.bound
  have hok := hS.ok
  refine Ctr_of Tryz.func87 Tryz.ntmps87 rfl rfl rfl ?_
  repeat' (first | (apply G_on; exact rfl; first | ((first | apply G1_assign | apply G1_move); exact rfl; exact rfl) | (apply G1_len; exact T.s37; exact rfl; exact rfl)) | apply G_nil | apply Post_next | apply W_seq | apply W_region | apply W_scopeI | apply W_label | apply W_block)
  refine W_loop (ι := Nat) (fun y => [(0, .string a), (8, .slice p ws.length d), (9, .int .i64 (ws.length : Int)), (10, .int .i64 (y : Int))])
    (fun y w' => Ext w w' ∧ y ≤ ws.length ∧ isP ws a = isAt (ws.drop y) a y) (fun y => ws.length - y) 0 ⟨rfl, rfl, rfl, rfl, trivial⟩ ⟨(by repeat first | assumption | exact Ext.rfl' | apply Ext.drew | apply Ext.alloc | refine Ext.trans ?_ (by assumption)), Nat.zero_le _, by rw [List.drop_zero]; rfl⟩ ?_
  rintro i w2 ⟨hx2, hi, hE⟩
  refine W_keep [(0, .string a), (8, .slice p ws.length d), (9, .int .i64 (ws.length : Int)), (10, .int .i64 (i : Int))] ⟨rfl, rfl, rfl, rfl, trivial⟩ ?_
  by_cases hlt : i < ws.length
  rotate_left
  · rw [List.drop_of_length_le (by omega)] at hE
    repeat' (first | (apply G_on; exact rfl; first | (apply G1_assign; exact rfl; exact rfl) | (apply G1_lss; exact rfl; exact rfl; exact rfl)) | apply G_nil | apply Post_next | apply W_seq | apply W_region | apply Post_scopeR | (apply W_cond_dec; exact rfl; all_goals (intro h; try (exfalso; omega))) | apply W_exit | apply W_ret | apply Post_then_exit | apply Post_block_exit)
    all_goals try (exfalso; omega)
    refine Post_ret Tryz.results87 ⟨_, _, rfl, rfl, rfl⟩ ?_
    exact ⟨by rw [hE]; rfl, (by repeat first | assumption | exact Ext.rfl' | apply Ext.drew | apply Ext.alloc | refine Ext.trans ?_ (by assumption))⟩
  obtain ⟨x, hx⟩ := get_some hlt
  rw [drop_at hx] at hE
  have hS2 := hS.ext hx2
  have hnx : lowS x ≠ lowS a → isP ws a = isAt (ws.drop (i + 1)) a (i + 1) := fun h => by rw [hE]; show (if _ then _ else _) = _; rw [if_neg h]
  by_cases hsz : x.size = a.size
  rotate_left
  · repeat' (first | (apply G_on; exact rfl; first | ((first | apply G1_assign | apply G1_move); exact rfl; exact rfl) | (apply G1_indexAddrJ (q := i); exact T.s37; exact rfl; exact rfl; exact rfl; exact hok; exact hlt; exact rfl) | (apply G1_loadEl1 (q := i) (e := eStr); exact T.p9; exact rfl; exact hS2.ext (by repeat first | assumption | exact Ext.rfl' | apply Ext.drew | apply Ext.alloc | refine Ext.trans ?_ (by assumption)); exact hx; exact rfl; exact rfl; exact rfl) | ((first | apply G1_lss | apply G1_neq); exact rfl; exact rfl; exact rfl) | (apply G1_slen; exact T.str9; exact rfl; exact rfl) | (apply G1_add; exact rfl; exact rfl; omega; omega; exact rfl)) | apply G_nil | apply Post_next | apply W_seq | apply W_region | (apply W_cond_dec; exact rfl; all_goals (intro h; try (exfalso; omega))) | apply W_skip | apply W_exit | apply W_block | apply Post_then_exit | apply Post_block_exit)
    all_goals try (exfalso; omega)
    exact Post_round (i + 1) ⟨rfl, rfl, rfl, rfl, trivial⟩ ⟨(by repeat first | assumption | exact Ext.rfl' | apply Ext.drew | apply Ext.alloc | refine Ext.trans ?_ (by assumption)), hlt, hnx (fun e => hsz (by rw [← lowS_len, ← lowS_len, e]))⟩ (by omega)
  repeat' (first | (apply G_on; exact rfl; first | ((first | apply G1_assign | apply G1_move); exact rfl; exact rfl) | (apply G1_indexAddrJ (q := i); exact T.s37; exact rfl; exact rfl; exact rfl; exact hok; exact hlt; exact rfl) | (apply G1_loadEl1 (q := i) (e := eStr); exact T.p9; exact rfl; exact hS2.ext (by repeat first | assumption | exact Ext.rfl' | apply Ext.drew | apply Ext.alloc | refine Ext.trans ?_ (by assumption)); exact hx; exact rfl; exact rfl; exact rfl) | ((first | apply G1_lss | apply G1_neq); exact rfl; exact rfl; exact rfl) | (apply G1_slen; exact T.str9; exact rfl; exact rfl)) | apply G_nil | apply Post_next | apply W_seq | apply W_region | (apply W_cond_dec; exact rfl; all_goals (intro h; try (exfalso; omega))) | apply W_skip | apply W_block)
  all_goals try (exfalso; omega)
  refine W_loop (ι := Nat) (fun y => [(0, .string a), (8, .slice p ws.length d), (9, .int .i64 (ws.length : Int)), (10, .int .i64 (i : Int)), (5, .int .i64 (i : Int)), (6, .string x), (21, .int .i64 (x.size : Int)), (22, .int .i64 (y : Int))])
    (fun y w' => Ext w w' ∧ y ≤ x.size ∧ (lowS x).take y = (lowS a).take y) (fun y => x.size - y) 0 ⟨rfl, rfl, rfl, rfl, rfl, rfl, rfl, rfl, trivial⟩ ⟨(by repeat first | assumption | exact Ext.rfl' | apply Ext.drew | apply Ext.alloc | refine Ext.trans ?_ (by assumption)), Nat.zero_le _, by simp⟩ ?_
  rintro j w3 ⟨hx3, hj, hT⟩
  refine W_keep [(0, .string a), (8, .slice p ws.length d), (9, .int .i64 (ws.length : Int)), (10, .int .i64 (i : Int)), (5, .int .i64 (i : Int)), (6, .string x), (21, .int .i64 (x.size : Int)), (22, .int .i64 (j : Int))] ⟨rfl, rfl, rfl, rfl, rfl, rfl, rfl, rfl, trivial⟩ ?_
  have hget : ∀ (s : ByteArray) (k : Nat), k < s.size → (lowS s)[k]? = some (lowC (bget s k)) := fun s k hk => by
    have h1 : k < s.data.toList.length := by rw [← size_list]; exact hk
    unfold lowS
    rw [List.getElem?_map, bget_list, List.getD_eq_getElem?_getD, List.getElem?_eq_getElem h1]
    rfl
  by_cases hjl : j < x.size
  · have g1 := hget x j hjl
    have g2 := hget a j (by omega)
    have l1 := fun w' => low_spec (w := w') (c := bget x j) rfl
    have l2 := fun w' => low_spec (w := w') (c := bget a j) rfl
    repeat' (first | (apply G_on; exact rfl; first | ((first | apply G1_assign | apply G1_move); exact rfl; exact rfl) | (apply G1_lss; exact rfl; exact rfl; exact rfl)) | apply G_nil | apply Post_next | apply W_seq | apply W_region | (apply W_cond_dec; exact rfl; all_goals (intro h; try (exfalso; omega))) | apply W_skip | apply W_block)
    all_goals try (exfalso; omega)
    refine W_drawnT 1 [] (.leaf [0,1,2,4,5,6,3,7,8]) mixed (by decide +kernel) ?_
    repeat' (first | (apply G_on; exact rfl; first | (apply G1_move; exact rfl; exact rfl) | (apply G1_sindexJ (q := j); exact T.str9; exact rfl; exact rfl; exact rfl; omega; exact rfl) | (apply G1_call (f := 116); exact rfl; exact rfl; exact rfl; (first | exact l1 _ | exact l2 _); rintro _ w4 ⟨rfl, hx4⟩; refine ⟨(by first | exact .inl rfl | exact .inr hx4), ?_⟩) | (apply G1_neq; exact rfl; exact rfl; exact rfl) | (apply G1_add; exact rfl; exact rfl; omega; omega; exact rfl)) | apply G_nil | apply Post_next | apply W_region | (refine GT_leaf ?_) | (apply W_cond_dec; exact rfl; all_goals (intro h; try (exfalso; omega))) | apply W_skip | apply W_exit | apply Post_then_exit | apply Post_block_exit | (apply Post_block_other; exact rfl) | apply Post_block_normal)
    all_goals first
      | (refine Post_round (j + 1) ⟨rfl, rfl, rfl, rfl, rfl, rfl, rfl, rfl, trivial⟩ ⟨(by repeat first | assumption | exact Ext.rfl' | apply Ext.drew | apply Ext.alloc | refine Ext.trans ?_ (by assumption)), hjl, ?_⟩ (by omega)
         rw [take_snoc g1, take_snoc g2, hT, UInt8.toNat_inj.1 (show (lowC (bget x j)).toNat = (lowC (bget a j)).toNat by omega)])
      | exact Post_round (i + 1) ⟨rfl, rfl, rfl, rfl, trivial⟩ ⟨(by repeat first | assumption | exact Ext.rfl' | apply Ext.drew | apply Ext.alloc | refine Ext.trans ?_ (by assumption)), hlt, hnx (fun e => by
          rw [e, g2] at g1
          injection g1 with g1
          have g3 := congrArg UInt8.toNat g1
          omega)⟩ (by omega)
  · have he : lowS x = lowS a := by
      rw [List.take_of_length_le (by rw [lowS_len]; omega), List.take_of_length_le (by rw [lowS_len]; omega)] at hT
      exact hT
    repeat' (first | (apply G_on; exact rfl; first | ((first | apply G1_assign | apply G1_move); exact rfl; exact rfl) | (apply G1_lss; exact rfl; exact rfl; exact rfl)) | apply G_nil | apply Post_next | apply W_seq | apply W_region | apply Post_scopeR | (apply W_cond_dec; exact rfl; all_goals (intro h; try (exfalso; omega))) | apply W_exit | apply W_ret | apply Post_then_ret | apply Post_block_ret | apply Post_then_exit | apply Post_block_exit)
    all_goals try (exfalso; omega)
    refine Post_ret Tryz.results87 ⟨_, _, rfl, rfl, rfl⟩ ?_
    exact ⟨by rw [hE]; show _ = Value.int .i64 (if _ then _ else _); rw [if_pos he]; rfl, (by repeat first | assumption | exact Ext.rfl' | apply Ext.drew | apply Ext.alloc | refine Ext.trans ?_ (by assumption))⟩
theorem great_spec {a : ByteArray} {w : World} (ha : a.size ≤ 1000000000) : Ctr Tryz.prog 88 [.string a] w (fun v w' => v = .string (greatS a) ∧ Ext w w') := by
  have hal : a.data.toList.length = a.size := (size_list a).symm
  refine Ctr_of Tryz.func88 Tryz.ntmps88 rfl rfl rfl ?_
  repeat' (first | (apply G_on; exact rfl; (apply G1_assign; exact rfl; exact rfl)) | apply G_nil | apply Post_next | apply W_seq | apply W_region | apply W_block)
  refine W_loop (ι := Nat × Option Addr × Nat) (fun y => [(0, .string a), (3, .slice y.2.1 y.1 y.2.2), (4, .int .i64 (y.1 : Int))])
    (fun y w' => Ext w w' ∧ y.1 ≤ a.size ∧ Own w' w.heap.size 5 eByte y.2.1 y.2.2 ((a.data.toList.map greatC).take y.1)) (fun y => a.size - y.1) (0, none, 0) ⟨rfl, rfl, rfl, trivial⟩ ⟨(by repeat first | assumption | exact Ext.rfl' | apply Ext.drew | apply Ext.alloc | refine Ext.trans ?_ (by assumption)), Nat.zero_le _, Own.nil _ _ _ _⟩ ?_
  rintro ⟨k, p, c⟩ w2 ⟨hx2, hk, hO⟩
  simp only at hk hO
  refine W_keep [(0, .string a), (3, .slice p k c), (4, .int .i64 (k : Int))] ⟨rfl, rfl, rfl, trivial⟩ ?_
  have hlen : ((a.data.toList.map greatC).take k).length = k := by rw [List.length_take, List.length_map]; omega
  by_cases hkl : k < a.size
  · have hg : (a.data.toList.map greatC)[k]? = some (greatC (bget a k)) := by
      rw [List.getElem?_map, bget_list, List.getD_eq_getElem?_getD, List.getElem?_eq_getElem (by omega)]
      rfl
    have hgn := greatC_nat (bget a k)
    have hbl := (bget a k).toNat_lt
    have hge := hO.ge
    have hz2 := hx2.size
    by_cases hc : 97 ≤ (bget a k).toNat ∧ (bget a k).toNat ≤ 122
    · rw [if_pos hc] at hgn
      have q1 : IntKind.u8.wrap (((bget a k).toNat : Int) - 32) = ((greatC (bget a k)).toNat : Int) := by rw [hgn, show ((bget a k).toNat : Int) - 32 = (((bget a k).toNat - 32 : Nat) : Int) by omega]; exact wrap_u8 (by omega) (by omega)
      repeat' (first | (apply G_on; exact rfl; first | ((first | apply G1_assign | apply G1_move); exact rfl; exact rfl) | (apply G1_sindexJ (q := k); exact T.str9; exact rfl; exact rfl; exact rfl; omega; exact rfl) | (apply G1_subE (r := ((greatC (bget a k)).toNat : Int)); exact rfl; exact rfl; exact q1; exact rfl) | (apply G1_slen; exact T.str9; exact rfl; exact rfl) | ((first | apply G1_lss | apply G1_geq | apply G1_leq); exact rfl; exact rfl; exact rfl) | (apply G1_pick_t; exact rfl; exact rfl; exact rfl)) | apply G_nil | apply Post_next | apply W_seq | apply W_region | (apply W_cond_dec; exact rfl; all_goals (intro h; try (exfalso; omega))) | ((fail_if_success (apply G_on; exact rfl)); apply G_split_dec; exact rfl; exact rfl; all_goals (intro h; try (exfalso; omega))) | apply W_skip | apply W_block)
      all_goals try (exfalso; omega)
      apply G_on; exact rfl
      apply G1_build1 eByte (greatC (bget a k)); exact T.s22; exact rfl; exact rfl; exact rfl; decide; exact rfl; exact rfl
      intro p5 w5 hp5 hs5 _ hx5 hz5
      have hx25 : Ext w2 w5 := (by repeat first | assumption | exact Ext.rfl' | apply Ext.drew | apply Ext.alloc | refine Ext.trans ?_ (by assumption))
      repeat' (first | (apply G_on; exact rfl; first | ((first | apply G1_assign | apply G1_move); exact rfl; exact rfl) | (apply G1_appendE (xs := (a.data.toList.map greatC).take k) (ys := [greatC (bget a k)]); exact T.s22; exact rfl; exact rfl; exact hlen.symm; exact rfl; exact hO.ext hx25; exact hs5; exact rfl; (have := hx25.size; omega); (rw [hlen]; simp only [List.length_cons, List.length_nil]; omega); (rw [hlen]; simp only [List.length_cons, List.length_nil]; omega); exact rfl; exact rfl; exact rfl; intro p6 c6 w6 ha6) | (apply G1_add; exact rfl; exact rfl; omega; omega; exact rfl)) | apply G_nil | apply Post_next | apply W_region | apply Post_block_normal)
      rw [← take_snoc hg] at ha6
      exact Post_round (k + 1, p6, c6) ⟨rfl, by show _ = some (Value.slice p6 (k + 1) c6); simp [hlen]; rfl, rfl, trivial⟩ ⟨(hx2.trans hx25).app ha6 (fun j hj => (hge j hj).1), hkl, ha6.own⟩ (by simp only; omega)
    · rw [if_neg hc] at hgn
      repeat' (first | (apply G_on; exact rfl; first | ((first | apply G1_assign | apply G1_move); exact rfl; exact rfl) | (apply G1_sindexJ (q := k); exact T.str9; exact rfl; exact rfl; exact rfl; omega; exact rfl) | (apply G1_slen; exact T.str9; exact rfl; exact rfl) | ((first | apply G1_lss | apply G1_geq | apply G1_leq); exact rfl; exact rfl; exact rfl) | (apply G1_pick_t; exact rfl; exact rfl; exact rfl) | (apply G1_pick_f; exact rfl; exact rfl; exact rfl)) | apply G_nil | apply Post_next | apply W_seq | apply W_region | (apply W_cond_false; exact rfl) | (apply W_cond_dec; exact rfl; all_goals (intro h; try (exfalso; omega))) | (apply G_off; exact rfl; exact rfl) | ((fail_if_success (apply G_on; exact rfl)); apply G_split_dec; exact rfl; exact rfl; all_goals (intro h; try (exfalso; omega))) | apply W_skip | apply W_block)
      all_goals try (exfalso; omega)
      all_goals
        apply G_on; exact rfl
        apply G1_build1 eByte (greatC (bget a k)); exact T.s22; exact rfl; (show [Value.int .u8 ((bget a k).toNat : Int)] = [Value.int .u8 ((greatC (bget a k)).toNat : Int)]; rw [hgn]); exact rfl; decide; exact rfl; exact rfl
        intro p5 w5 hp5 hs5 _ hx5 hz5
        have hx25 : Ext w2 w5 := (by repeat first | assumption | exact Ext.rfl' | apply Ext.drew | apply Ext.alloc | refine Ext.trans ?_ (by assumption))
        repeat' (first | (apply G_on; exact rfl; first | ((first | apply G1_assign | apply G1_move); exact rfl; exact rfl) | (apply G1_appendE (xs := (a.data.toList.map greatC).take k) (ys := [greatC (bget a k)]); exact T.s22; exact rfl; exact rfl; exact hlen.symm; exact rfl; exact hO.ext hx25; exact hs5; exact rfl; (have := hx25.size; omega); (rw [hlen]; simp only [List.length_cons, List.length_nil]; omega); (rw [hlen]; simp only [List.length_cons, List.length_nil]; omega); exact rfl; exact rfl; exact rfl; intro p6 c6 w6 ha6) | (apply G1_add; exact rfl; exact rfl; omega; omega; exact rfl)) | apply G_nil | apply Post_next | apply W_region | apply Post_block_normal)
        rw [← take_snoc hg] at ha6
        exact Post_round (k + 1, p6, c6) ⟨rfl, by show _ = some (Value.slice p6 (k + 1) c6); simp [hlen]; rfl, rfl, trivial⟩ ⟨(hx2.trans hx25).app ha6 (fun j hj => (hge j hj).1), hkl, ha6.own⟩ (by simp only; omega)
  · have hka : k = a.size := by omega
    rw [hka, List.take_of_length_le (by rw [List.length_map]; omega)] at hO
    have hl2 : (a.data.toList.map greatC).length = a.size := by rw [List.length_map, hal]
    repeat' (first | (apply G_on; exact rfl; first | ((first | apply G1_assign | apply G1_move); exact rfl; exact rfl) | (apply G1_toStringL (bs := a.data.toList.map greatC); exact T.s22; exact T.i5; exact T.str9; exact rfl; omega; exact hO.sl.ext (by repeat first | assumption | exact Ext.rfl' | apply Ext.drew | apply Ext.alloc | refine Ext.trans ?_ (by assumption)); exact rfl) | (apply G1_slen; exact T.str9; exact rfl; exact rfl) | (apply G1_lss; exact rfl; exact rfl; exact rfl)) | apply G_nil | apply Post_next | apply W_seq | apply W_region | (apply W_cond_dec; exact rfl; all_goals (intro h; try (exfalso; omega))) | apply W_exit | apply W_ret | apply Post_then_exit | apply Post_block_exit)
    all_goals try (exfalso; omega)
    refine Post_ret Tryz.results88 ⟨_, _, rfl, rfl, rfl⟩ ?_
    exact ⟨rfl, (by repeat first | assumption | exact Ext.rfl' | apply Ext.drew | apply Ext.alloc | refine Ext.trans ?_ (by assumption))⟩
end Go.Proofs.YtipbakiecocioaaGreatDoor

/- The ways of a branch meet again behind it. -/
namespace Go.V
section
variable {P : Program} {n : Nat} {E : Env} {w : World} {Q : Exit → Act → World → Prop}
/-- the ways of a branch meet again behind it -/
theorem W_cutC {ι : Type} {c : Operand} {r x y z : Code} (E0 : ι → Env) (J : ι → World → Prop) (h1 : W P n (.seq r (.cond c x y)) (fun e a w' => e = .normal ∧ ∃ i, Holds n (E0 i) a ∧ J i w') E w) (h2 : ∀ i w', J i w' → W P n z Q (E0 i) w') : W P n (.seq (.seq r (.cond c x y)) z) Q E w := by
  unfold W at *
  exact fun a ha => wp_seq (wp_mono (h1 a ha) (fun e a w' ⟨he, i, hh, hj⟩ => by subst he; exact h2 i w' hj a hh))
theorem Post_cutI {ι : Type} {E0 : ι → Env} {J : ι → World → Prop} (i : ι) (hE : Env.sub (E0 i) E) (hJ : J i w) : Post n (fun e a w' => e = .normal ∧ ∃ i, Holds n (E0 i) a ∧ J i w') .normal E w := by
  unfold Post
  exact fun _ ha => ⟨rfl, i, ha.sub hE, hJ⟩
end
end Go.V

/- Audit: calls in memory, and what they tell; the walks. -/
namespace Go.V
/-- a call as it lies in a slice -/
structure RawC where
  q : Option Addr
  m : Nat
  d : Nat
  rep : RawR
  done : Bool
def eCall : Enc RawC := ⟨6, fun r => [.slice r.q r.m r.d, .int .i64 r.rep.kind, .string r.rep.s, .int .i64 r.rep.n, .slice r.rep.p r.rep.len r.rep.cap, .bool r.done], fun _ => rfl,
  fun _ v hv => by simp at hv; rcases hv with rfl | rfl | rfl | rfl | rfl | rfl <;> rfl, by decide⟩
structure CallD where
  words : List ByteArray
  rep : Rep
  done : Bool
structure CallAt (H : Array Obj) (r : RawC) (c : CallD) : Prop where
  m : r.m = c.words.length
  done : r.done = c.done
  ws : Sl H eStr r.q r.d c.words
  small : ∀ w ∈ c.words, w.size ≤ 1000000000
  rep : RepAt H 5 r.rep c.rep
structure CallsAt (H : Array Obj) (p : Option Addr) (c : Nat) (rs : List RawC) (cs : List CallD) : Prop where
  sl : Sl H eCall p c rs
  len : rs.length = cs.length
  get : ∀ (i : Nat) r x, rs[i]? = some r → cs[i]? = some x → CallAt H r x
theorem CallAt.ext {w w' : World} {r : RawC} {c : CallD} (h : CallAt w.heap r c) (hx : Ext w w') : CallAt w'.heap r c := ⟨h.m, h.done, h.ws.ext hx, h.small, h.rep.ext hx⟩
theorem CallsAt.ext {w w' : World} {p : Option Addr} {c : Nat} {rs : List RawC} {cs : List CallD} (h : CallsAt w.heap p c rs cs) (hx : Ext w w') : CallsAt w'.heap p c rs cs := ⟨h.sl.ext hx, h.len, fun i r x hr hc => (h.get i r x hr hc).ext hx⟩
def sBegin : ByteArray := ⟨#[66, 69, 71, 73, 78]⟩
def sCommit : ByteArray := ⟨#[67, 79, 77, 77, 73, 84]⟩
def sRollback : ByteArray := ⟨#[82, 79, 76, 76, 66, 65, 67, 75]⟩
def sOK : ByteArray := ⟨#[79, 75]⟩
def sErr : ByteArray := ⟨#[69, 82, 82]⟩
end Go.V
namespace Go.Proofs.YtipbakiecocioaaGreatDoor
open Go.V
attribute [local irreducible] Blk Own hcell IntT SliceT PlainT AggT SizeT StrT FieldT ZeroT EqT ArrT
/-- a call's name, if it is done -/
def nameP (c : CallD) : ByteArray := if c.done = true then match c.words with
  | [] => ⟨#[]⟩
  | w :: _ => greatS w
  else ⟨#[]⟩
def isErr (s : ByteArray) : Bool := decide (3 ≤ s.size) && decide (s.extract 0 3 = sErr)
def isC (c : CallD) (ns : List ByteArray) : Int := match c.words with
  | [] => -1
  | w :: _ => isP ns w
theorem up_begin : ∀ c ∈ sBegin.data.toList, 65 ≤ c.toNat ∧ c.toNat ≤ 90 := by decide
theorem up_commit : ∀ c ∈ sCommit.data.toList, 65 ≤ c.toNat ∧ c.toNat ≤ 90 := by decide
theorem up_rollback : ∀ c ∈ sRollback.data.toList, 65 ≤ c.toNat ∧ c.toNat ≤ 90 := by decide
theorem isC_three (c : CallD) (hd : c.done = true) : isC c [sBegin, sCommit, sRollback] = if nameP c = sBegin then 0 else if nameP c = sCommit then 1 else if nameP c = sRollback then 2 else -1 := by
  unfold isC nameP
  rw [if_pos hd]
  cases c.words with
  | nil =>
    simp only
    rw [if_neg (by decide), if_neg (by decide), if_neg (by decide)]
  | cons w ws =>
    simp only [isP, isAt, case_word up_begin, case_word up_commit, case_word up_rollback]
    rfl
theorem isC_one (c : CallD) (hd : c.done = true) : isC c [sCommit] = 0 ↔ nameP c = sCommit := by
  unfold isC nameP
  rw [if_pos hd]
  cases c.words with
  | nil =>
    simp only
    exact ⟨fun h => (by cases h), fun h => (by revert h; decide)⟩
  | cons w ws =>
    simp only [isP, isAt, case_word up_commit]
    split
    · rename_i h; exact ⟨fun _ => h, fun _ => rfl⟩
    · rename_i h; exact ⟨fun e => (by cases e), fun e => absurd e h⟩
theorem call_enc {H : Array Obj} {r : RawC} {c : CallD} (h : CallAt H r c) : eCall.enc r = [.slice r.q c.words.length r.d, .int .i64 c.rep.kind, .string c.rep.s, .int .i64 c.rep.n, .slice r.rep.p r.rep.len r.rep.cap, .bool c.done] := by
  obtain ⟨e, rs, _, h1, h2, h3, _⟩ := h.rep.open
  show [_, _, _, _, _, _] = _
  rw [h.m, h1, h2, h3, h.done]
theorem is_spec {r : RawC} {c : CallD} {p : Option Addr} {d : Nat} {ns : List ByteArray} {w : World} (hc : CallAt w.heap r c) (hS : Sl w.heap eStr p d ns) :
    Ctr Tryz.prog 61 [.agg (eCall.enc r).toArray, .slice p ns.length d] w (fun v w' => v = .int .i64 (isC c ns) ∧ Ext w w') := by
  have hm := hc.m
  have hok := hc.ws.ok
  have hb := hc.ws.bound
  refine Ctr_of Tryz.func61 Tryz.ntmps61 rfl rfl rfl ?_
  repeat' (first | apply W_seq | apply W_region)
  apply G_on; exact rfl; apply G1_box; exact rfl; exact rfl; exact rfl; intro a1 w1 ha1 hA1 hx1 hs1
  replace hA1 : Blk w1.heap a1 53 (eCall.enc r) := hA1
  have hA1' : Blk w1.heap a1 53 [.slice r.q c.words.length r.d, .int .i64 r.rep.kind, .string r.rep.s, .int .i64 r.rep.n, .slice r.rep.p r.rep.len r.rep.cap, .bool r.done] := by rw [← hm]; exact hA1
  clear hA1
  cases hw : c.words with
  | nil =>
    rw [hw] at hA1'
    repeat' (first | (apply G_on; exact rfl; first | (apply G1_assign; exact rfl; exact rfl) | (apply G1_fieldAddr; exact T.f53_0; exact rfl; exact rfl) | (apply G1_loadB; exact T.p37; exact rfl; assumption; exact rfl; exact rfl) | (apply G1_len; exact T.s37; exact rfl; exact rfl) | (apply G1_eql; exact rfl; exact rfl; exact rfl)) | apply G_nil | apply Post_next | apply W_seq | apply W_region | (apply W_cond_true; exact rfl) | apply W_ret | apply Post_then_ret)
    all_goals try (exfalso; omega)
    refine Post_ret Tryz.results61 ⟨_, _, rfl, rfl, rfl⟩ ?_
    exact ⟨by unfold isC; rw [hw]; rfl, (by repeat first | assumption | exact Ext.rfl' | apply Ext.drew | apply Ext.alloc | refine Ext.trans ?_ (by assumption))⟩
  | cons x xs =>
    have hg : c.words[0]? = some x := by rw [hw]; rfl
    have hl : c.words.length = xs.length + 1 := by rw [hw]; rfl
    have hx := hc.small x (by rw [hw]; simp)
    have hat := fun w' (hy : Ext w w') => is_at (w := w') (a := x) (hS.ext hy) hx
    repeat' (first | (apply G_on; exact rfl; first | ((first | apply G1_assign | apply G1_move); exact rfl; exact rfl) | (apply G1_indexAddrJ (q := 0); exact T.s37; exact rfl; exact rfl; exact rfl; exact hok; omega; exact rfl) | (apply G1_loadEl1 (q := 0) (e := eStr); exact T.p9; exact rfl; exact hc.ws.ext (by repeat first | assumption | exact Ext.rfl' | apply Ext.drew | apply Ext.alloc | refine Ext.trans ?_ (by assumption)); exact hg; exact rfl; exact rfl; exact rfl) | (apply G1_call (f := 87); exact rfl; exact rfl; exact rfl; exact hat _ (by repeat first | assumption | exact Ext.rfl' | apply Ext.drew | apply Ext.alloc | refine Ext.trans ?_ (by assumption)); rintro _ w2 ⟨rfl, hx2⟩; refine ⟨(by first | exact .inl rfl | exact .inr (by assumption)), ?_⟩) | (apply G1_fieldAddr; exact T.f53_0; exact rfl; exact rfl) | (apply G1_loadB; exact T.p37; exact rfl; assumption; exact rfl; exact rfl) | (apply G1_len; exact T.s37; exact rfl; exact rfl) | (apply G1_eql; exact rfl; exact rfl; exact rfl)) | apply G_nil | apply Post_next | apply W_seq | apply W_region | (apply W_cond_dec; exact rfl; all_goals (intro h; try (exfalso; omega))) | apply W_skip | apply W_ret)
    all_goals try (exfalso; omega)
    refine Post_ret Tryz.results61 ⟨_, _, rfl, rfl, rfl⟩ ?_
    exact ⟨by unfold isC; rw [hw]; rfl, (by repeat first | assumption | exact Ext.rfl' | apply Ext.drew | apply Ext.alloc | refine Ext.trans ?_ (by assumption))⟩
theorem name_spec {r : RawC} {c : CallD} {w : World} (hc : CallAt w.heap r c) :
    Ctr Tryz.prog 62 [.agg (eCall.enc r).toArray] w (fun v w' => v = .string (nameP c) ∧ Ext w w') := by
  have hm := hc.m
  have hok := hc.ws.ok
  have hb := hc.ws.bound
  refine Ctr_of Tryz.func62 Tryz.ntmps62 rfl rfl rfl ?_
  repeat' (first | apply W_seq | apply W_region)
  apply G_on; exact rfl; apply G1_box; exact rfl; exact rfl; exact rfl; intro a1 w1 ha1 hA1 hx1 hs1
  have hA1' : Blk w1.heap a1 53 [.slice r.q c.words.length r.d, .int .i64 r.rep.kind, .string r.rep.s, .int .i64 r.rep.n, .slice r.rep.p r.rep.len r.rep.cap, .bool c.done] := by rw [← hm, ← hc.done]; exact hA1
  clear hA1
  cases hd : c.done with
  | false =>
    rw [hd] at hA1'
    repeat' (first | (apply G_on; exact rfl; first | ((first | apply G1_assign | apply G1_move); exact rfl; exact rfl) | (apply G1_fieldAddr; exact T.f53_2; exact rfl; exact rfl) | (apply G1_loadB; exact T.p4; exact rfl; assumption; exact rfl; exact rfl) | (apply G1_not_f; exact rfl; exact rfl) | (apply G1_pick_t; exact rfl; exact rfl; exact rfl)) | apply G_nil | apply Post_next | apply W_seq | apply W_region | (apply W_cond_true; exact rfl) | (apply G_off; exact rfl; exact rfl) | apply W_ret | apply Post_then_ret)
    all_goals try (exfalso; omega)
    all_goals
      refine Post_ret Tryz.results62 ⟨_, _, rfl, rfl, rfl⟩ ?_
      exact ⟨by unfold nameP; rw [if_neg (by rw [hd]; decide)]; rfl, (by repeat first | assumption | exact Ext.rfl' | apply Ext.drew | apply Ext.alloc | refine Ext.trans ?_ (by assumption))⟩
  | true =>
    rw [hd] at hA1'
    cases hw : c.words with
    | nil =>
      rw [hw] at hA1'
      repeat' (first | (apply G_on; exact rfl; first | ((first | apply G1_assign | apply G1_move); exact rfl; exact rfl) | (apply G1_fieldAddr; (first | exact T.f53_2 | exact T.f53_0); exact rfl; exact rfl) | (apply G1_loadB; (first | exact T.p4 | exact T.p37); exact rfl; assumption; exact rfl; exact rfl) | (apply G1_not_t; exact rfl; exact rfl) | (apply G1_len; exact T.s37; exact rfl; exact rfl) | (apply G1_eql; exact rfl; exact rfl; exact rfl) | (apply G1_pick_f; exact rfl; exact rfl; exact rfl)) | apply G_nil | apply Post_next | apply W_seq | apply W_region | (apply W_cond_true; exact rfl) | apply W_ret | apply Post_then_ret)
      all_goals try (exfalso; omega)
      all_goals
        refine Post_ret Tryz.results62 ⟨_, _, rfl, rfl, rfl⟩ ?_
        exact ⟨by unfold nameP; rw [if_pos hd, hw]; rfl, (by repeat first | assumption | exact Ext.rfl' | apply Ext.drew | apply Ext.alloc | refine Ext.trans ?_ (by assumption))⟩
    | cons x xs =>
      have hg : c.words[0]? = some x := by rw [hw]; rfl
      have hl : c.words.length = xs.length + 1 := by rw [hw]; rfl
      have hx := hc.small x (by rw [hw]; simp)
      have hat := fun w' => great_spec (w := w') hx
      repeat' (first | (apply G_on; exact rfl; first | ((first | apply G1_assign | apply G1_move); exact rfl; exact rfl) | (apply G1_indexAddrJ (q := 0); exact T.s37; exact rfl; exact rfl; exact rfl; exact hok; omega; exact rfl) | (apply G1_loadEl1 (q := 0) (e := eStr); exact T.p9; exact rfl; exact hc.ws.ext (by repeat first | assumption | exact Ext.rfl' | apply Ext.drew | apply Ext.alloc | refine Ext.trans ?_ (by assumption)); exact hg; exact rfl; exact rfl; exact rfl) | (apply G1_call (f := 88); exact rfl; exact rfl; exact rfl; exact hat _; rintro _ w2 ⟨rfl, hx2⟩; refine ⟨(by first | exact .inl rfl | exact .inr (by assumption)), ?_⟩) | (apply G1_fieldAddr; (first | exact T.f53_2 | exact T.f53_0); exact rfl; exact rfl) | (apply G1_loadB; (first | exact T.p4 | exact T.p37); exact rfl; assumption; exact rfl; exact rfl) | (apply G1_not_t; exact rfl; exact rfl) | (apply G1_len; exact T.s37; exact rfl; exact rfl) | (apply G1_eql; exact rfl; exact rfl; exact rfl) | (apply G1_pick_f; exact rfl; exact rfl; exact rfl)) | apply G_nil | apply Post_next | apply W_seq | apply W_region | (apply W_cond_dec; exact rfl; all_goals (intro h; try (exfalso; omega))) | apply W_skip | apply W_ret)
      all_goals try (exfalso; omega)
      all_goals
        refine Post_ret Tryz.results62 ⟨_, _, rfl, rfl, rfl⟩ ?_
        exact ⟨by unfold nameP; rw [if_pos hd, hw]; rfl, (by repeat first | assumption | exact Ext.rfl' | apply Ext.drew | apply Ext.alloc | refine Ext.trans ?_ (by assumption))⟩
theorem err_spec {s : ByteArray} {w : World} (hs : s.size ≤ maxLen) : Ctr Tryz.prog 63 [.string s] w (fun v w' => v = .bool (isErr s) ∧ Ext w w') := by
  have hee : (⟨#[69, 82, 82]⟩ : ByteArray) = sErr := rfl
  unfold isErr
  have hs' : s.size ≤ 9223372036854775807 := hs
  refine Ctr_of Tryz.func63 Tryz.ntmps63 rfl rfl rfl ?_
  by_cases h3 : 3 ≤ s.size
  · rw [decide_eq_true h3, Bool.true_and]
    repeat' (first | (apply G_on; exact rfl; first | ((first | apply G1_assign | apply G1_move); exact rfl; exact rfl) | (apply G1_ssliceHi; exact T.str9; exact rfl; exact rfl; omega; omega; exact rfl) | (apply G1_slen; exact T.str9; exact rfl; exact rfl) | ((first | apply G1_geq | apply G1_seql); exact rfl; exact rfl; exact rfl) | (apply G1_pick_t; exact rfl; exact rfl; exact rfl)) | apply G_nil | apply Post_next | apply W_seq | apply W_region | ((fail_if_success (apply G_on; exact rfl)); apply G_split_dec; exact rfl; exact rfl; all_goals (intro h; try (exfalso; omega))) | apply W_ret)
    all_goals try (exfalso; omega)
    refine Post_ret Tryz.results63 ⟨_, _, rfl, rfl, rfl⟩ ?_
    exact ⟨rfl, (by repeat first | assumption | exact Ext.rfl' | apply Ext.drew | apply Ext.alloc | refine Ext.trans ?_ (by assumption))⟩
  · rw [decide_eq_false h3, Bool.false_and]
    repeat' (first | (apply G_on; exact rfl; first | ((first | apply G1_assign | apply G1_move); exact rfl; exact rfl) | (apply G1_slen; exact T.str9; exact rfl; exact rfl) | (apply G1_geq; exact rfl; exact rfl; exact rfl) | (apply G1_pick_f; exact rfl; exact rfl; exact rfl)) | apply G_nil | apply Post_next | apply W_seq | apply W_region | (apply G_off; exact rfl; exact rfl) | ((fail_if_success (apply G_on; exact rfl)); apply G_split_dec; exact rfl; exact rfl; all_goals (intro h; try (exfalso; omega))) | apply W_ret)
    all_goals try (exfalso; omega)
    refine Post_ret Tryz.results63 ⟨_, _, rfl, rfl, rfl⟩ ?_
    exact ⟨rfl, (by repeat first | assumption | exact Ext.rfl' | apply Ext.drew | apply Ext.alloc | refine Ext.trans ?_ (by assumption))⟩
end Go.Proofs.YtipbakiecocioaaGreatDoor

/- Audit: what calls tell; the walks. -/
namespace Go.V
theorem fold_snoc {α β : Type} {f : β → α → β} {a : β} {xs : List α} {k : Nat} {x : α} (h : xs[k]? = some x) : (xs.take (k + 1)).foldl f a = f ((xs.take k).foldl f a) x := by
  rw [take_snoc h, List.foldl_append]; rfl
end Go.V
namespace Go.Proofs.YtipbakiecocioaaGreatDoor
open Go.V
attribute [local irreducible] Blk Own hcell IntT SliceT PlainT AggT SizeT StrT FieldT ZeroT EqT ArrT
def stepN (s : Nat × Nat) (c : CallD) : Nat × Nat := if c.done = true then (s.1 + 1, if c.rep.kind = 1 then s.2 + 1 else s.2) else s
theorem stepN_le (s : Nat × Nat) (c : CallD) : (stepN s c).1 ≤ s.1 + 1 ∧ (stepN s c).2 ≤ s.2 + 1 := by
  unfold stepN
  split
  · refine ⟨Nat.le_refl _, ?_⟩
    simp only
    split <;> omega
  · omega
def stepO (s : Bool × Bool) (c : CallD) : Bool × Bool :=
  if nameP c = sBegin then (if c.rep.kind = 0 ∧ c.rep.s = sOK then (true, decide (1 < c.words.length)) else s)
  else if nameP c = sCommit ∨ nameP c = sRollback then (if c.rep.kind ≠ 1 ∨ isErr c.rep.s = false then (false, false) else s)
  else s
def stepM (l : List Int) (c : CallD) : List Int := if nameP c = sCommit ∧ c.rep.kind = 2 ∧ 0 < c.rep.n then l ++ [c.rep.n] else l
theorem hasErr_spec {s : ByteArray} {w : World} (hs : s.size ≤ maxLen) : Ctr Tryz.prog 53 [.string s, .string sErr] w (fun v w' => v = .bool (isErr s) ∧ Ext w w') := by
  have hz : sErr.size = 3 := rfl
  have hs' : s.size ≤ 9223372036854775807 := hs
  have hl : ∀ w', Ctr Tryz.prog 85 [.string s, .string sErr] w' (fun v w'' => v = .bool (isErr s) ∧ Ext w' w'') := fun w' => by
    unfold isErr
    refine Ctr_of Tryz.func85 Tryz.ntmps85 rfl rfl rfl ?_
    by_cases h3 : 3 ≤ s.size
    · rw [decide_eq_true h3, Bool.true_and]
      repeat' (first | (apply G_on; exact rfl; first | ((first | apply G1_assign | apply G1_move); exact rfl; exact rfl) | (apply G1_slen; exact T.str9; exact rfl; exact rfl) | ((first | apply G1_geq | apply G1_seql); exact rfl; exact rfl; exact rfl) | (apply G1_ssliceHi; exact T.str9; exact rfl; exact rfl; omega; omega; exact rfl) | (apply G1_pick_t; exact rfl; exact rfl; exact rfl)) | apply G_nil | apply Post_next | apply W_seq | apply W_region | ((fail_if_success (apply G_on; exact rfl)); apply G_split_dec; exact rfl; exact rfl; all_goals (intro h; try (exfalso; omega))) | apply W_ret)
      all_goals try (exfalso; omega)
      refine Post_ret Tryz.results85 ⟨_, _, rfl, rfl, rfl⟩ ?_
      exact ⟨rfl, (by repeat first | assumption | exact Ext.rfl' | apply Ext.drew | apply Ext.alloc | refine Ext.trans ?_ (by assumption))⟩
    · rw [decide_eq_false h3, Bool.false_and]
      repeat' (first | (apply G_on; exact rfl; first | ((first | apply G1_assign | apply G1_move); exact rfl; exact rfl) | (apply G1_slen; exact T.str9; exact rfl; exact rfl) | (apply G1_geq; exact rfl; exact rfl; exact rfl) | (apply G1_pick_f; exact rfl; exact rfl; exact rfl)) | apply G_nil | apply Post_next | apply W_seq | apply W_region | (apply G_off; exact rfl; exact rfl) | ((fail_if_success (apply G_on; exact rfl)); apply G_split_dec; exact rfl; exact rfl; all_goals (intro h; try (exfalso; omega))) | apply W_ret)
      all_goals try (exfalso; omega)
      refine Post_ret Tryz.results85 ⟨_, _, rfl, rfl, rfl⟩ ?_
      exact ⟨rfl, (by repeat first | assumption | exact Ext.rfl' | apply Ext.drew | apply Ext.alloc | refine Ext.trans ?_ (by assumption))⟩
  refine Ctr_of Tryz.func53 Tryz.ntmps53 rfl rfl rfl ?_
  repeat' (first | (apply G_on; exact rfl; first | ((first | apply G1_assign | apply G1_move); exact rfl; exact rfl) | (apply G1_call (f := 85); exact rfl; exact rfl; exact rfl; exact hl _; rintro _ w2 ⟨rfl, hx2⟩; refine ⟨(by first | exact .inl rfl | exact .inr (by assumption)), ?_⟩)) | apply G_nil | apply Post_next | apply W_seq | apply W_region | apply W_ret)
  refine Post_ret Tryz.results53 ⟨_, _, rfl, rfl, rfl⟩ ?_
  exact ⟨rfl, (by repeat first | assumption | exact Ext.rfl' | apply Ext.drew | apply Ext.alloc | refine Ext.trans ?_ (by assumption))⟩



theorem count_spec {p : Option Addr} {d : Nat} {rs : List RawC} {cs : List CallD} {w : World} (hC : CallsAt w.heap p d rs cs) (hl : cs.length ≤ 1000000) :
    Ctr Tryz.prog 23 [.slice p rs.length d] w (fun v w' => v = .tuple #[.int .i64 ((cs.foldl stepN (0, 0)).1 : Int), .int .i64 ((cs.foldl stepN (0, 0)).2 : Int)] ∧ Ext w w') := by
  have n1 := hC.sl.bound
  have hlen := hC.len
  have hok := hC.sl.ok
  refine Ctr_of Tryz.func23 Tryz.ntmps23 rfl rfl rfl ?_
  repeat' (first | (apply G_on; exact rfl; first | ((first | apply G1_assign | apply G1_move); exact rfl; exact rfl) | (apply G1_len; exact T.s32; exact rfl; exact rfl)) | apply G_nil | apply Post_next | apply W_seq | apply W_region | apply W_block)
  refine W_loop (ι := Nat) (fun y => [(4, .int .i64 (((cs.take y).foldl stepN (0, 0)).1 : Int)), (5, .int .i64 (((cs.take y).foldl stepN (0, 0)).2 : Int)), (8, .slice p rs.length d), (9, .int .i64 (rs.length : Int)), (10, .int .i64 (y : Int))])
    (fun y w' => Ext w w' ∧ y ≤ rs.length ∧ ((cs.take y).foldl stepN (0, 0)).1 ≤ y ∧ ((cs.take y).foldl stepN (0, 0)).2 ≤ y) (fun y => rs.length - y) 0 ⟨rfl, rfl, rfl, rfl, rfl, trivial⟩ ⟨(by repeat first | assumption | exact Ext.rfl' | apply Ext.drew | apply Ext.alloc | refine Ext.trans ?_ (by assumption)), Nat.zero_le _, Nat.le_refl _, Nat.le_refl _⟩ ?_
  rintro i w2 ⟨hx2, hi, b1, b2⟩
  obtain ⟨N, hN⟩ : ∃ N, (cs.take i).foldl stepN (0, 0) = N := ⟨_, rfl⟩
  rw [hN] at b1 b2 ⊢
  refine W_keep [(4, .int .i64 (N.1 : Int)), (5, .int .i64 (N.2 : Int)), (8, .slice p rs.length d), (9, .int .i64 (rs.length : Int)), (10, .int .i64 (i : Int))] ⟨rfl, rfl, rfl, rfl, rfl, trivial⟩ ?_
  have hC2 := hC.ext hx2
  by_cases hlt : i < rs.length
  rotate_left
  · rw [List.take_of_length_le (by omega)] at hN
    repeat' (first | (apply G_on; exact rfl; first | ((first | apply G1_assign | apply G1_move); exact rfl; exact rfl) | (apply G1_lss; exact rfl; exact rfl; exact rfl)) | apply G_nil | apply Post_next | apply W_seq | apply W_region | (apply W_cond_dec; exact rfl; all_goals (intro h; try (exfalso; omega))) | apply W_exit | apply W_ret | apply Post_then_exit | apply Post_block_exit)
    all_goals try (exfalso; omega)
    refine Post_ret Tryz.results23 ⟨_, _, rfl, rfl, _, _, rfl, rfl, rfl⟩ ?_
    exact ⟨by rw [hN]; rfl, (by repeat first | assumption | exact Ext.rfl' | apply Ext.drew | apply Ext.alloc | refine Ext.trans ?_ (by assumption))⟩
  obtain ⟨r, hr⟩ := get_some hlt
  obtain ⟨x, hx⟩ := get_some (xs := cs) (k := i) (by omega)
  have hat := hC2.get i r x hr hx
  have henc := call_enc hat
  have f0 : (eCall.enc r)[0]? = some (.slice r.q x.words.length r.d) := by rw [henc]; rfl
  have f1 : (eCall.enc r)[1]? = some (.int .i64 x.rep.kind) := by rw [henc]; rfl
  have f2 : (eCall.enc r)[2]? = some (.string x.rep.s) := by rw [henc]; rfl
  have f3 : (eCall.enc r)[3]? = some (.int .i64 x.rep.n) := by rw [henc]; rfl
  have f5 : (eCall.enc r)[5]? = some (.bool x.done) := by rw [henc]; rfl
  have hsn := fold_snoc (f := stepN) (a := (0, 0)) hx
  rw [hN] at hsn
  have hle := stepN_le N x
  repeat' (first | (apply G_on; exact rfl; first | (apply G1_indexAddrJ (q := i); exact T.s32; exact rfl; exact rfl; exact rfl; exact hok; exact hlt; exact rfl) | (apply G1_loadEl (e := eCall) (q := i); exact T.a53; exact rfl; exact hC2.sl.ext (by repeat first | assumption | exact Ext.rfl' | apply Ext.drew | apply Ext.alloc | refine Ext.trans ?_ (by assumption)); exact hr; exact rfl; exact rfl) | (apply G1_lss; exact rfl; exact rfl; exact rfl)) | apply G_nil | apply Post_next | apply W_seq | apply W_region | (apply W_cond_dec; exact rfl; all_goals (intro h; try (exfalso; omega))) | apply W_skip | apply W_block)
  all_goals try (exfalso; omega)
  apply G_on; exact rfl; apply G1_alloc; exact T.zero53; exact rfl; exact rfl; intro a3 w3 ha3 hA3 hx3 hs3
  skip
  apply G_on; exact rfl; apply G1_storeB; exact T.z53; exact rfl; exact rfl; exact hA3; exact rfl; exact rfl; (first | exact Nat.le_of_ble_eq_true rfl | (focus (simp [Value.cells]; done))); (first | exact Enc.one _ _ | (focus (simp [Value.oneCell']; done)) | (focus (simp [Value.cells, Value.oneCell']; done)) | exact Enc.oneAgg _ _); exact rfl; (first | exact .inl rfl | exact .inr (by simp [exempt])); exact rfl; intro w4 hA4 hg4 hs4
  have hA4' : Blk w4.heap a3 53 [.slice r.q x.words.length r.d, .int .i64 x.rep.kind, .string x.rep.s, .int .i64 x.rep.n, .slice r.rep.p r.rep.len r.rep.cap, .bool x.done] := by rw [← henc]; exact hA4
  have hx24 : Ext w2 w4 := hx3.own hg4 (fun k hk => by injection hk with hk; omega)
  clear hA4 hA3
  cases hd : x.done with
  | false =>
    rw [hd] at hA4'
    have e : stepN N x = N := by unfold stepN; rw [if_neg (by rw [hd]; decide)]
    rw [e] at hsn
    repeat' (first | (apply G_on; exact rfl; first | (apply G1_move; exact rfl; exact rfl) | (apply G1_fieldAddr; exact T.f53_2; exact rfl; exact rfl) | (apply G1_loadB; exact T.p4; exact rfl; assumption; exact rfl; exact rfl) | (apply G1_not_f; exact rfl; exact rfl) | (apply G1_add; exact rfl; exact rfl; omega; omega; exact rfl)) | apply G_nil | apply Post_next | apply W_seq | apply W_region | (apply W_cond_true; exact rfl) | apply W_exit | apply Post_then_exit | apply Post_block_exit)
    all_goals try (exfalso; omega)
    exact Post_round (i + 1) ⟨by rw [hsn]; rfl, by rw [hsn]; rfl, rfl, rfl, rfl, trivial⟩ ⟨(by repeat first | assumption | exact Ext.rfl' | apply Ext.drew | apply Ext.alloc | refine Ext.trans ?_ (by assumption)), hlt, by rw [hsn]; omega, by rw [hsn]; omega⟩ (by omega)
  | true =>
    rw [hd] at hA4'
    have e : stepN N x = (N.1 + 1, if x.rep.kind = 1 then N.2 + 1 else N.2) := by unfold stepN; rw [if_pos hd]
    rw [e] at hsn
    by_cases hk : x.rep.kind = 1
    · rw [if_pos hk] at hsn
      repeat' (first | (apply G_on; exact rfl; first | ((first | apply G1_assign | apply G1_move); exact rfl; exact rfl) | (apply G1_eql; exact rfl; exact rfl; exact rfl) | (apply G1_fieldAddr; (first | exact T.f53_2 | exact T.f53_1 | exact T.f31_0); exact rfl; exact rfl) | (apply G1_loadB; (first | exact T.p4 | exact T.p3); exact rfl; assumption; exact rfl; exact rfl) | (apply G1_not_t; exact rfl; exact rfl) | (apply G1_add; exact rfl; exact rfl; omega; omega; exact rfl)) | apply G_nil | apply Post_next | apply W_seq | apply W_region | (apply W_cond_false; exact rfl) | (apply W_cond_dec; exact rfl; all_goals (intro h; try (exfalso; omega))) | apply W_skip | apply Post_block_normal)
      all_goals try (exfalso; omega)
      exact Post_round (i + 1) ⟨by rw [hsn]; rfl, by rw [hsn]; rfl, rfl, rfl, rfl, trivial⟩ ⟨(by repeat first | assumption | exact Ext.rfl' | apply Ext.drew | apply Ext.alloc | refine Ext.trans ?_ (by assumption)), hlt, by rw [hsn]; simp only; omega, by rw [hsn]; simp only; omega⟩ (by omega)
    · rw [if_neg hk] at hsn
      repeat' (first | (apply G_on; exact rfl; first | ((first | apply G1_assign | apply G1_move); exact rfl; exact rfl) | (apply G1_eql; exact rfl; exact rfl; exact rfl) | (apply G1_fieldAddr; (first | exact T.f53_2 | exact T.f53_1 | exact T.f31_0); exact rfl; exact rfl) | (apply G1_loadB; (first | exact T.p4 | exact T.p3); exact rfl; assumption; exact rfl; exact rfl) | (apply G1_not_t; exact rfl; exact rfl) | (apply G1_add; exact rfl; exact rfl; omega; omega; exact rfl)) | apply G_nil | apply Post_next | apply W_seq | apply W_region | (apply W_cond_false; exact rfl) | (apply W_cond_dec; exact rfl; all_goals (intro h; try (exfalso; omega))) | apply W_skip | apply Post_block_normal)
      all_goals try (exfalso; omega)
      exact Post_round (i + 1) ⟨by rw [hsn]; rfl, by rw [hsn]; rfl, rfl, rfl, rfl, trivial⟩ ⟨(by repeat first | assumption | exact Ext.rfl' | apply Ext.drew | apply Ext.alloc | refine Ext.trans ?_ (by assumption)), hlt, by rw [hsn]; simp only; omega, by rw [hsn]; simp only; omega⟩ (by omega)
theorem rcount_spec {p : Option Addr} {d : Nat} {rs : List RawC} {cs : List CallD} {w : World} (hC : CallsAt w.heap p d rs cs) (hl : cs.length ≤ 1000000) :
    Ctr Tryz.prog 24 [.slice p rs.length d] w (fun v w' => v = .tuple #[.int .i64 ((cs.foldl stepN (0, 0)).1 : Int), .int .i64 ((cs.foldl stepN (0, 0)).2 : Int)] ∧ Ext w w') := by
  have n1 := hC.sl.bound
  have hlen := hC.len
  have hok := hC.sl.ok
  refine Ctr_of Tryz.func24 Tryz.ntmps24 rfl rfl rfl ?_
  repeat' (first | (apply G_on; exact rfl; (apply G1_assign; exact rfl; exact rfl)) | apply G_nil | apply Post_next | apply W_seq | apply W_region | apply W_block)
  refine W_loop (ι := Nat) (fun y => [(0, .slice p rs.length d), (4, .int .i64 (((cs.take y).foldl stepN (0, 0)).1 : Int)), (5, .int .i64 (((cs.take y).foldl stepN (0, 0)).2 : Int)), (6, .int .i64 (y : Int))])
    (fun y w' => Ext w w' ∧ y ≤ rs.length ∧ ((cs.take y).foldl stepN (0, 0)).1 ≤ y ∧ ((cs.take y).foldl stepN (0, 0)).2 ≤ y) (fun y => rs.length - y) 0 ⟨rfl, rfl, rfl, rfl, trivial⟩ ⟨(by repeat first | assumption | exact Ext.rfl' | apply Ext.drew | apply Ext.alloc | refine Ext.trans ?_ (by assumption)), Nat.zero_le _, Nat.le_refl _, Nat.le_refl _⟩ ?_
  rintro i w2 ⟨hx2, hi, b1, b2⟩
  obtain ⟨N, hN⟩ : ∃ N, (cs.take i).foldl stepN (0, 0) = N := ⟨_, rfl⟩
  rw [hN] at b1 b2 ⊢
  refine W_keep [(0, .slice p rs.length d), (4, .int .i64 (N.1 : Int)), (5, .int .i64 (N.2 : Int)), (6, .int .i64 (i : Int))] ⟨rfl, rfl, rfl, rfl, trivial⟩ ?_
  have hC2 := hC.ext hx2
  by_cases hlt : i < rs.length
  rotate_left
  · rw [List.take_of_length_le (by omega)] at hN
    repeat' (first | (apply G_on; exact rfl; first | ((first | apply G1_assign | apply G1_move); exact rfl; exact rfl) | (apply G1_len; exact T.s32; exact rfl; exact rfl) | (apply G1_lss; exact rfl; exact rfl; exact rfl)) | apply G_nil | apply Post_next | apply W_seq | apply W_region | (apply W_cond_dec; exact rfl; all_goals (intro h; try (exfalso; omega))) | apply W_exit | apply W_ret | apply Post_then_exit | apply Post_block_exit)
    all_goals try (exfalso; omega)
    refine Post_ret Tryz.results24 ⟨_, _, rfl, rfl, _, _, rfl, rfl, rfl⟩ ?_
    exact ⟨by rw [hN]; rfl, (by repeat first | assumption | exact Ext.rfl' | apply Ext.drew | apply Ext.alloc | refine Ext.trans ?_ (by assumption))⟩
  obtain ⟨r, hr⟩ := get_some hlt
  obtain ⟨x, hx⟩ := get_some (xs := cs) (k := i) (by omega)
  have hat := hC2.get i r x hr hx
  have henc := call_enc hat
  have f0 : (eCall.enc r)[0]? = some (.slice r.q x.words.length r.d) := by rw [henc]; rfl
  have f1 : (eCall.enc r)[1]? = some (.int .i64 x.rep.kind) := by rw [henc]; rfl
  have f2 : (eCall.enc r)[2]? = some (.string x.rep.s) := by rw [henc]; rfl
  have f3 : (eCall.enc r)[3]? = some (.int .i64 x.rep.n) := by rw [henc]; rfl
  have f5 : (eCall.enc r)[5]? = some (.bool x.done) := by rw [henc]; rfl
  have hsn := fold_snoc (f := stepN) (a := (0, 0)) hx
  rw [hN] at hsn
  cases hd : x.done with
  | false =>
    rw [hd] at f5
    have e : stepN N x = N := by unfold stepN; rw [if_neg (by rw [hd]; decide)]
    rw [e] at hsn
    repeat' (first | (apply G_on; exact rfl; first | ((first | apply G1_assign | apply G1_move); exact rfl; exact rfl) | (apply G1_indexAddrJ (q := i); exact T.s32; exact rfl; exact rfl; exact rfl; exact hok; exact hlt; exact rfl) | (apply G1_loadFld (e := eCall) (q := i) (off := 5); exact T.p4; exact rfl; exact hC2.sl.ext (by repeat first | assumption | exact Ext.rfl' | apply Ext.drew | apply Ext.alloc | refine Ext.trans ?_ (by assumption)); exact hr; exact rfl; exact f5; exact rfl) | (apply G1_len; exact T.s32; exact rfl; exact rfl) | (apply G1_lss; exact rfl; exact rfl; exact rfl) | (apply G1_fieldAddr; exact T.f53_2; exact rfl; exact rfl) | (apply G1_add; exact rfl; exact rfl; omega; omega; exact rfl) | (apply G1_pick_f; exact rfl; exact rfl; exact rfl)) | apply G_nil | apply Post_next | apply W_seq | apply W_region | (apply W_cond_false; exact rfl) | (apply W_cond_dec; exact rfl; all_goals (intro h; try (exfalso; omega))) | (apply G_off; exact rfl; exact rfl) | apply W_skip | apply W_block | apply Post_block_normal)
    all_goals try (exfalso; omega)
    exact Post_round (i + 1) ⟨rfl, by rw [hsn]; rfl, by rw [hsn]; rfl, rfl, trivial⟩ ⟨(by repeat first | assumption | exact Ext.rfl' | apply Ext.drew | apply Ext.alloc | refine Ext.trans ?_ (by assumption)), hlt, by rw [hsn]; omega, by rw [hsn]; omega⟩ (by omega)
  | true =>
    rw [hd] at f5
    have e : stepN N x = (N.1 + 1, if x.rep.kind = 1 then N.2 + 1 else N.2) := by unfold stepN; rw [if_pos hd]
    rw [e] at hsn
    by_cases hk : x.rep.kind = 1
    · rw [if_pos hk] at hsn
      repeat' (first | (apply G_on; exact rfl; first | ((first | apply G1_assign | apply G1_move); exact rfl; exact rfl) | (apply G1_indexAddrJ (q := i); exact T.s32; exact rfl; exact rfl; exact rfl; exact hok; exact hlt; exact rfl) | (apply G1_loadFld (e := eCall) (q := i) (off := 1); exact T.p3; exact rfl; exact hC2.sl.ext (by repeat first | assumption | exact Ext.rfl' | apply Ext.drew | apply Ext.alloc | refine Ext.trans ?_ (by assumption)); exact hr; exact rfl; exact f1; exact rfl) | (apply G1_loadFld (e := eCall) (q := i) (off := 5); exact T.p4; exact rfl; exact hC2.sl.ext (by repeat first | assumption | exact Ext.rfl' | apply Ext.drew | apply Ext.alloc | refine Ext.trans ?_ (by assumption)); exact hr; exact rfl; exact f5; exact rfl) | (apply G1_len; exact T.s32; exact rfl; exact rfl) | ((first | apply G1_lss | apply G1_eql); exact rfl; exact rfl; exact rfl) | (apply G1_fieldAddr; (first | exact T.f53_2 | exact T.f53_1 | exact T.f31_0); exact rfl; exact rfl) | (apply G1_add; exact rfl; exact rfl; omega; omega; exact rfl) | (apply G1_pick_t; exact rfl; exact rfl; exact rfl)) | apply G_nil | apply Post_next | apply W_seq | apply W_region | (apply W_cond_true; exact rfl) | (apply W_cond_dec; exact rfl; all_goals (intro h; try (exfalso; omega))) | apply W_skip | apply W_block | apply Post_block_normal)
      all_goals try (exfalso; omega)
      exact Post_round (i + 1) ⟨rfl, by rw [hsn]; rfl, by rw [hsn]; rfl, rfl, trivial⟩ ⟨(by repeat first | assumption | exact Ext.rfl' | apply Ext.drew | apply Ext.alloc | refine Ext.trans ?_ (by assumption)), hlt, by rw [hsn]; simp only; omega, by rw [hsn]; simp only; omega⟩ (by omega)
    · rw [if_neg hk] at hsn
      repeat' (first | (apply G_on; exact rfl; first | ((first | apply G1_assign | apply G1_move); exact rfl; exact rfl) | (apply G1_indexAddrJ (q := i); exact T.s32; exact rfl; exact rfl; exact rfl; exact hok; exact hlt; exact rfl) | (apply G1_loadFld (e := eCall) (q := i) (off := 1); exact T.p3; exact rfl; exact hC2.sl.ext (by repeat first | assumption | exact Ext.rfl' | apply Ext.drew | apply Ext.alloc | refine Ext.trans ?_ (by assumption)); exact hr; exact rfl; exact f1; exact rfl) | (apply G1_loadFld (e := eCall) (q := i) (off := 5); exact T.p4; exact rfl; exact hC2.sl.ext (by repeat first | assumption | exact Ext.rfl' | apply Ext.drew | apply Ext.alloc | refine Ext.trans ?_ (by assumption)); exact hr; exact rfl; exact f5; exact rfl) | (apply G1_len; exact T.s32; exact rfl; exact rfl) | ((first | apply G1_lss | apply G1_eql); exact rfl; exact rfl; exact rfl) | (apply G1_fieldAddr; (first | exact T.f53_2 | exact T.f53_1 | exact T.f31_0); exact rfl; exact rfl) | (apply G1_add; exact rfl; exact rfl; omega; omega; exact rfl) | (apply G1_pick_t; exact rfl; exact rfl; exact rfl)) | apply G_nil | apply Post_next | apply W_seq | apply W_region | (apply W_cond_true; exact rfl) | (apply W_cond_dec; exact rfl; all_goals (intro h; try (exfalso; omega))) | apply W_skip | apply W_block | apply Post_block_normal)
      all_goals try (exfalso; omega)
      exact Post_round (i + 1) ⟨rfl, by rw [hsn]; rfl, by rw [hsn]; rfl, rfl, trivial⟩ ⟨(by repeat first | assumption | exact Ext.rfl' | apply Ext.drew | apply Ext.alloc | refine Ext.trans ?_ (by assumption)), hlt, by rw [hsn]; simp only; omega, by rw [hsn]; simp only; omega⟩ (by omega)
end Go.Proofs.YtipbakiecocioaaGreatDoor

/- Audit: is a transaction open; the walks. -/
namespace Go.Proofs.YtipbakiecocioaaGreatDoor
open Go.V
attribute [local irreducible] Blk Own hcell IntT SliceT PlainT AggT SizeT StrT FieldT ZeroT EqT ArrT



theorem nameP_nd {x : CallD} (h : x.done = false) : nameP x = ⟨#[]⟩ := by unfold nameP; rw [if_neg (by rw [h]; decide)]
theorem stepO_no {s : Bool × Bool} {x : CallD} (h1 : nameP x ≠ sBegin) (h2 : nameP x ≠ sCommit) (h3 : nameP x ≠ sRollback) : stepO s x = s := by
  unfold stepO
  rw [if_neg h1, if_neg (fun h => h.elim h2 h3)]
theorem stepO_begin {s : Bool × Bool} {x : CallD} (h : nameP x = sBegin) : stepO s x = if x.rep.kind = 0 ∧ x.rep.s = sOK then (true, decide (1 < x.words.length)) else s := by
  unfold stepO
  rw [if_pos h]
theorem stepO_end {s : Bool × Bool} {x : CallD} (h : nameP x = sCommit ∨ nameP x = sRollback) : stepO s x = if x.rep.kind ≠ 1 ∨ isErr x.rep.s = false then (false, false) else s := by
  unfold stepO
  rw [if_neg (fun e => by rw [e] at h; revert h; decide), if_pos h]

theorem open_spec {p : Option Addr} {d : Nat} {rs : List RawC} {cs : List CallD} {w : World} (hC : CallsAt w.heap p d rs cs) :
    Ctr Tryz.prog 21 [.slice p rs.length d] w (fun v w' => v = .tuple #[.bool (cs.foldl stepO (false, false)).1, .bool (cs.foldl stepO (false, false)).2] ∧ Ext w w') := by
  have n1 := hC.sl.bound
  have hlen := hC.len
  have hok := hC.sl.ok
  have eOK : (⟨#[79, 75]⟩ : ByteArray) = sOK := rfl
  refine Ctr_of Tryz.func21 Tryz.ntmps21 rfl rfl rfl ?_
  repeat' (first | (apply G_on; exact rfl; first | ((first | apply G1_assign | apply G1_move); exact rfl; exact rfl) | (apply G1_len; exact T.s32; exact rfl; exact rfl)) | apply G_nil | apply Post_next | apply W_seq | apply W_region | apply W_block)
  refine W_loop (ι := Nat) (fun y => [(4, .bool ((cs.take y).foldl stepO (false, false)).1), (5, .bool ((cs.take y).foldl stepO (false, false)).2), (8, .slice p rs.length d), (9, .int .i64 (rs.length : Int)), (10, .int .i64 (y : Int))])
    (fun y w' => Ext w w' ∧ y ≤ rs.length) (fun y => rs.length - y) 0 ⟨rfl, rfl, rfl, rfl, rfl, trivial⟩ ⟨(by repeat first | assumption | exact Ext.rfl' | apply Ext.drew | apply Ext.alloc | refine Ext.trans ?_ (by assumption)), Nat.zero_le _⟩ ?_
  rintro i w2 ⟨hx2, hi⟩
  obtain ⟨N, hN⟩ : ∃ N, (cs.take i).foldl stepO (false, false) = N := ⟨_, rfl⟩
  rw [hN]
  refine W_keep [(4, .bool N.1), (5, .bool N.2), (8, .slice p rs.length d), (9, .int .i64 (rs.length : Int)), (10, .int .i64 (i : Int))] ⟨rfl, rfl, rfl, rfl, rfl, trivial⟩ ?_
  have hC2 := hC.ext hx2
  by_cases hlt : i < rs.length
  rotate_left
  · rw [List.take_of_length_le (by omega)] at hN
    repeat' (first | (apply G_on; exact rfl; first | ((first | apply G1_assign | apply G1_move); exact rfl; exact rfl) | (apply G1_lss; exact rfl; exact rfl; exact rfl)) | apply G_nil | apply Post_next | apply W_seq | apply W_region | (apply W_cond_dec; exact rfl; all_goals (intro h; try (exfalso; omega))) | apply W_exit | apply W_ret | apply Post_then_exit | apply Post_block_exit)
    all_goals try (exfalso; omega)
    refine Post_ret Tryz.results21 ⟨_, _, rfl, rfl, _, _, rfl, rfl, rfl⟩ ?_
    exact ⟨by rw [hN]; rfl, (by repeat first | assumption | exact Ext.rfl' | apply Ext.drew | apply Ext.alloc | refine Ext.trans ?_ (by assumption))⟩
  obtain ⟨r, hr⟩ := get_some hlt
  obtain ⟨x, hx⟩ := get_some (xs := cs) (k := i) (by omega)
  have hat := hC2.get i r x hr hx
  have henc := call_enc hat
  have f0 : (eCall.enc r)[0]? = some (.slice r.q x.words.length r.d) := by rw [henc]; rfl
  have f1 : (eCall.enc r)[1]? = some (.int .i64 x.rep.kind) := by rw [henc]; rfl
  have f2 : (eCall.enc r)[2]? = some (.string x.rep.s) := by rw [henc]; rfl
  have f3 : (eCall.enc r)[3]? = some (.int .i64 x.rep.n) := by rw [henc]; rfl
  have f5 : (eCall.enc r)[5]? = some (.bool x.done) := by rw [henc]; rfl
  have hsn := fold_snoc (f := stepO) (a := (false, false)) hx
  rw [hN] at hsn
  obtain ⟨_, _, _, _, _, _, _, hsz, _⟩ := hat.rep.open
  repeat' (first | (apply G_on; exact rfl; first | (apply G1_indexAddrJ (q := i); exact T.s32; exact rfl; exact rfl; exact rfl; exact hok; exact hlt; exact rfl) | (apply G1_loadEl (e := eCall) (q := i); exact T.a53; exact rfl; exact hC2.sl.ext (by repeat first | assumption | exact Ext.rfl' | apply Ext.drew | apply Ext.alloc | refine Ext.trans ?_ (by assumption)); exact hr; exact rfl; exact rfl) | (apply G1_lss; exact rfl; exact rfl; exact rfl)) | apply G_nil | apply Post_next | apply W_seq | apply W_region | (apply W_cond_dec; exact rfl; all_goals (intro h; try (exfalso; omega))) | apply W_skip | apply W_block)
  all_goals try (exfalso; omega)
  apply G_on; exact rfl; apply G1_alloc; exact T.zero53; exact rfl; exact rfl; intro a3 w3 ha3 hA3 hx3 hs3
  skip
  apply G_on; exact rfl; apply G1_storeB; exact T.z53; exact rfl; exact rfl; exact hA3; exact rfl; exact rfl; (first | exact Nat.le_of_ble_eq_true rfl | (focus (simp [Value.cells]; done))); (first | exact Enc.one _ _ | (focus (simp [Value.oneCell']; done)) | (focus (simp [Value.cells, Value.oneCell']; done)) | exact Enc.oneAgg _ _); exact rfl; (first | exact .inl rfl | exact .inr (by simp [exempt])); exact rfl; intro w4 hA4 hg4 hs4
  have hA4' : Blk w4.heap a3 53 [.slice r.q x.words.length r.d, .int .i64 x.rep.kind, .string x.rep.s, .int .i64 x.rep.n, .slice r.rep.p r.rep.len r.rep.cap, .bool x.done] := by rw [← henc]; exact hA4
  have hx24 : Ext w2 w4 := hx3.own hg4 (fun k hk => by injection hk with hk; omega)
  clear hA4 hA3
  cases hd : x.done with
  | false =>
    rw [hd] at hA4'
    have hnm := nameP_nd hd
    rw [stepO_no (by rw [hnm]; decide) (by rw [hnm]; decide) (by rw [hnm]; decide)] at hsn
    repeat' (first | (apply G_on; exact rfl; first | (apply G1_move; exact rfl; exact rfl) | (apply G1_fieldAddr; exact T.f53_2; exact rfl; exact rfl) | (apply G1_loadB; exact T.p4; exact rfl; assumption; exact rfl; exact rfl) | (apply G1_not_f; exact rfl; exact rfl) | (apply G1_add; exact rfl; exact rfl; omega; omega; exact rfl)) | apply G_nil | apply Post_next | apply W_seq | apply W_region | (apply W_cond_true; exact rfl) | apply W_exit | apply Post_then_exit | apply Post_block_exit)
    all_goals try (exfalso; omega)
    exact Post_round (i + 1) ⟨by rw [hsn]; rfl, by rw [hsn]; rfl, rfl, rfl, rfl, trivial⟩ ⟨(by repeat first | assumption | exact Ext.rfl' | apply Ext.drew | apply Ext.alloc | refine Ext.trans ?_ (by assumption)), hlt⟩ (by omega)
  | true =>
    have h3 := isC_three x hd
    rw [hd] at hA4'
    repeat' (first | (apply G_on; exact rfl; first | (apply G1_loadBAgg; exact T.a53; exact rfl; assumption; exact rfl; exact rfl) | (apply G1_fieldAddr; exact T.f53_2; exact rfl; exact rfl) | (apply G1_loadB; exact T.p4; exact rfl; assumption; exact rfl; exact rfl) | (apply G1_not_t; exact rfl; exact rfl)) | apply G_nil | apply Post_next | apply W_seq | apply W_region | (apply W_cond_false; exact rfl) | apply W_skip)
    apply G_on; exact rfl
    apply G1_buildN eStr [sBegin, sCommit, sRollback]; exact T.s37; exact rfl; exact rfl; exact rfl; exact rfl; exact rfl; exact Nat.succ_pos _; exact Nat.le_of_ble_eq_true rfl; exact rfl; exact rfl
    intro p5 w5 ho5 hx5 hs5
    have hx25 : Ext w2 w5 := hx24.trans hx5
    have his := is_spec (ns := [sBegin, sCommit, sRollback]) (hat.ext hx25) ho5.sl
    rw [henc, hd] at his
    replace hA4' := hA4'.ext hx5
    have hhe := fun w' => hasErr_spec (w := w') hsz
    by_cases hB : nameP x = sBegin
    · rw [if_pos hB] at h3
      rw [h3] at his
      rw [stepO_begin hB] at hsn
      by_cases hc : x.rep.kind = 0 ∧ x.rep.s = sOK
      · rw [if_pos hc] at hsn
        have hc1 := hc.1
        have hc2 := hc.2
        repeat' (first | (apply G_on; exact rfl; first | ((first | apply G1_assign | apply G1_move); exact rfl; exact rfl) | (apply G1_call (f := 61); exact rfl; exact rfl; exact rfl; exact his; rintro _ w6 ⟨rfl, hx6⟩; refine ⟨(by first | exact .inl rfl | exact .inr (by assumption)), ?_⟩; (first | replace hA4' := hA4'.ext hx6 | replace hA4' := hA4'.ext ((Ext.drew Ext.rfl').trans hx6))) | (apply G1_len; exact T.s37; exact rfl; exact rfl) | (apply G1_gtr; exact rfl; exact rfl; exact rfl) | (apply G1_fieldAddr; (first | exact T.f53_1 | exact T.f31_0 | exact T.f31_1 | exact T.f53_0); exact rfl; exact rfl) | (apply G1_loadB; (first | exact T.p3 | exact T.p9 | exact T.p37); exact rfl; assumption; exact rfl; exact rfl) | (apply G1_eql; exact rfl; exact rfl; exact rfl) | (apply G1_seql; exact rfl; exact rfl; exact rfl) | (apply G1_pick_t; exact rfl; exact rfl; exact rfl) | (apply G1_add; exact rfl; exact rfl; omega; omega; exact rfl)) | apply G_nil | apply Post_next | apply W_seq | apply W_region | (apply W_cond_true; exact rfl) | (apply W_cond_dec; exact rfl; all_goals (intro h; try (exfalso; omega))) | ((fail_if_success (apply G_on; exact rfl)); apply G_split_dec; exact rfl; exact rfl; all_goals (intro h; try (exfalso; omega))) | refine W_drawn 1 [] [0,1,2,3,4,5] mixed (by decide +kernel) ?_ | apply W_skip | apply W_block | apply Post_block_normal)
        all_goals try (exfalso; first | omega | exact (by assumption : ¬ _) hc2)
        have hdec : some (Value.bool (decide ((1 : Int) < (x.words.length : Int)))) = some (Value.bool (decide (1 < x.words.length))) := by
          rw [decide_eq_decide.2 (show (1 : Int) < (x.words.length : Int) ↔ 1 < x.words.length by omega)]
        exact Post_round (i + 1) ⟨by rw [hsn]; rfl, by rw [hsn]; exact hdec, rfl, rfl, rfl, trivial⟩ ⟨(by repeat first | assumption | exact Ext.rfl' | apply Ext.drew | apply Ext.alloc | refine Ext.trans ?_ (by assumption)), hlt⟩ (by omega)
      · rw [if_neg hc] at hsn
        repeat' (first | (apply G_on; exact rfl; first | ((first | apply G1_assign | apply G1_move); exact rfl; exact rfl) | (apply G1_call (f := 61); exact rfl; exact rfl; exact rfl; exact his; rintro _ w6 ⟨rfl, hx6⟩; refine ⟨(by first | exact .inl rfl | exact .inr (by assumption)), ?_⟩; (first | replace hA4' := hA4'.ext hx6 | replace hA4' := hA4'.ext ((Ext.drew Ext.rfl').trans hx6))) | (apply G1_len; exact T.s37; exact rfl; exact rfl) | (apply G1_gtr; exact rfl; exact rfl; exact rfl) | (apply G1_fieldAddr; (first | exact T.f53_1 | exact T.f31_0 | exact T.f31_1 | exact T.f53_0); exact rfl; exact rfl) | (apply G1_loadB; (first | exact T.p3 | exact T.p9 | exact T.p37); exact rfl; assumption; exact rfl; exact rfl) | (apply G1_eql; exact rfl; exact rfl; exact rfl) | (apply G1_seql; exact rfl; exact rfl; exact rfl) | (apply G1_pick_t; exact rfl; exact rfl; exact rfl) | (apply G1_pick_f; exact rfl; exact rfl; exact rfl) | (apply G1_add; exact rfl; exact rfl; omega; omega; exact rfl)) | apply G_nil | apply Post_next | apply W_seq | apply W_region | (apply W_cond_true; exact rfl) | (apply W_cond_false; exact rfl) | (apply W_cond_dec; exact rfl; all_goals (intro h; try (exfalso; omega))) | (apply G_off; exact rfl; exact rfl) | ((fail_if_success (apply G_on; exact rfl)); apply G_split_dec; exact rfl; exact rfl; all_goals (intro h; try (exfalso; omega))) | refine W_drawn 1 [] [0,1,2,3,4,5] mixed (by decide +kernel) ?_ | apply W_skip | apply W_block | apply Post_block_normal)
        all_goals try (exfalso; first | omega | exact hc ⟨by omega, by assumption⟩)
        all_goals
          exact Post_round (i + 1) ⟨by rw [hsn]; rfl, by rw [hsn]; rfl, rfl, rfl, rfl, trivial⟩ ⟨(by repeat first | assumption | exact Ext.rfl' | apply Ext.drew | apply Ext.alloc | refine Ext.trans ?_ (by assumption)), hlt⟩ (by omega)
    · rw [if_neg hB] at h3
      by_cases hCR : nameP x = sCommit ∨ nameP x = sRollback
      · rw [stepO_end hCR] at hsn
        have h3' : isC x [sBegin, sCommit, sRollback] = 1 ∨ isC x [sBegin, sCommit, sRollback] = 2 := by
          rw [h3]
          by_cases h : nameP x = sCommit
          · rw [if_pos h]; exact .inl rfl
          · rw [if_neg h, if_pos (hCR.resolve_left h)]; exact .inr rfl
        by_cases hc : x.rep.kind ≠ 1 ∨ isErr x.rep.s = false
        · rw [if_pos hc] at hsn
          rcases h3' with h3' | h3'
          all_goals
            rw [h3'] at his
            cases hE : isErr x.rep.s with
            | true =>
              rw [hE] at hhe
              have hk1 : ¬ x.rep.kind = 1 := fun e => hc.elim (fun h => h e) (fun h => by rw [hE] at h; cases h)
              repeat' (first | (apply G_on; exact rfl; first | ((first | apply G1_assign | apply G1_move); exact rfl; exact rfl) | (apply G1_call (f := 61); exact rfl; exact rfl; exact rfl; exact his; rintro _ w6 ⟨rfl, hx6⟩; refine ⟨(by first | exact .inl rfl | exact .inr (by assumption)), ?_⟩; (first | replace hA4' := hA4'.ext hx6 | replace hA4' := hA4'.ext ((Ext.drew Ext.rfl').trans hx6))) | (apply G1_neq; exact rfl; exact rfl; exact rfl) | (apply G1_fieldAddr; (first | exact T.f53_1 | exact T.f31_0); exact rfl; exact rfl) | (apply G1_loadB; exact T.p3; exact rfl; assumption; exact rfl; exact rfl) | (apply G1_eql; exact rfl; exact rfl; exact rfl) | (apply G1_pick_t; exact rfl; exact rfl; exact rfl) | (apply G1_add; exact rfl; exact rfl; omega; omega; exact rfl)) | apply G_nil | apply Post_next | apply W_seq | apply W_region | (apply W_cond_true; exact rfl) | (apply W_cond_false; exact rfl) | (apply G_off; exact rfl; exact rfl) | ((fail_if_success (apply G_on; exact rfl)); apply G_split_dec; exact rfl; exact rfl; all_goals (intro h; try (exfalso; omega))) | apply W_skip | apply W_block | apply Post_block_normal)
              all_goals try (exfalso; omega)
              all_goals
                exact Post_round (i + 1) ⟨by rw [hsn]; rfl, by rw [hsn]; rfl, rfl, rfl, rfl, trivial⟩ ⟨(by repeat first | assumption | exact Ext.rfl' | apply Ext.drew | apply Ext.alloc | refine Ext.trans ?_ (by assumption)), hlt⟩ (by omega)
            | false =>
              rw [hE] at hhe
              repeat' (first | (apply G_on; exact rfl; first | ((first | apply G1_assign | apply G1_move); exact rfl; exact rfl) | (apply G1_call (f := 61); exact rfl; exact rfl; exact rfl; exact his; rintro _ w6 ⟨rfl, hx6⟩; refine ⟨(by first | exact .inl rfl | exact .inr (by assumption)), ?_⟩; (first | replace hA4' := hA4'.ext hx6 | replace hA4' := hA4'.ext ((Ext.drew Ext.rfl').trans hx6))) | (apply G1_call (f := 53); exact rfl; exact rfl; exact rfl; exact hhe _; rintro _ w7 ⟨rfl, hx7⟩; refine ⟨(by first | exact .inl rfl | exact .inr (by assumption)), ?_⟩) | (apply G1_neq; exact rfl; exact rfl; exact rfl) | (apply G1_fieldAddr; (first | exact T.f53_1 | exact T.f31_0 | exact T.f31_1); exact rfl; exact rfl) | (apply G1_loadB; (first | exact T.p3 | exact T.p9); exact rfl; assumption; exact rfl; exact rfl) | (apply G1_not_f; exact rfl; exact rfl) | (apply G1_eql; exact rfl; exact rfl; exact rfl) | (apply G1_pick_t; exact rfl; exact rfl; exact rfl) | (apply G1_pick_f; exact rfl; exact rfl; exact rfl) | (apply G1_add; exact rfl; exact rfl; omega; omega; exact rfl)) | apply G_nil | apply Post_next | apply W_seq | apply W_region | (apply W_cond_true; exact rfl) | (apply W_cond_false; exact rfl) | (apply G_off; exact rfl; exact rfl) | ((fail_if_success (apply G_on; exact rfl)); apply G_split_dec; exact rfl; exact rfl; all_goals (intro h; try (exfalso; omega))) | apply W_skip | apply W_block | apply Post_block_normal)
              all_goals try (exfalso; omega)
              all_goals
                exact Post_round (i + 1) ⟨by rw [hsn]; rfl, by rw [hsn]; rfl, rfl, rfl, rfl, trivial⟩ ⟨(by repeat first | assumption | exact Ext.rfl' | apply Ext.drew | apply Ext.alloc | refine Ext.trans ?_ (by assumption)), hlt⟩ (by omega)
        · rw [if_neg hc] at hsn
          have hk1 : x.rep.kind = 1 := Classical.byContradiction fun h => hc (.inl h)
          have hE : isErr x.rep.s = true := by
            cases h : isErr x.rep.s with
            | true => rfl
            | false => exact absurd (.inr h) hc
          rw [hE] at hhe
          rcases h3' with h3' | h3'
          all_goals
            rw [h3'] at his
            repeat' (first | (apply G_on; exact rfl; first | ((first | apply G1_assign | apply G1_move); exact rfl; exact rfl) | (apply G1_call (f := 61); exact rfl; exact rfl; exact rfl; exact his; rintro _ w6 ⟨rfl, hx6⟩; refine ⟨(by first | exact .inl rfl | exact .inr (by assumption)), ?_⟩; (first | replace hA4' := hA4'.ext hx6 | replace hA4' := hA4'.ext ((Ext.drew Ext.rfl').trans hx6))) | (apply G1_call (f := 53); exact rfl; exact rfl; exact rfl; exact hhe _; rintro _ w7 ⟨rfl, hx7⟩; refine ⟨(by first | exact .inl rfl | exact .inr (by assumption)), ?_⟩) | (apply G1_neq; exact rfl; exact rfl; exact rfl) | (apply G1_fieldAddr; (first | exact T.f53_1 | exact T.f31_0 | exact T.f31_1); exact rfl; exact rfl) | (apply G1_loadB; (first | exact T.p3 | exact T.p9); exact rfl; assumption; exact rfl; exact rfl) | (apply G1_not_t; exact rfl; exact rfl) | (apply G1_eql; exact rfl; exact rfl; exact rfl) | (apply G1_pick_f; exact rfl; exact rfl; exact rfl) | (apply G1_add; exact rfl; exact rfl; omega; omega; exact rfl)) | apply G_nil | apply Post_next | apply W_seq | apply W_region | (apply W_cond_true; exact rfl) | (apply W_cond_false; exact rfl) | ((fail_if_success (apply G_on; exact rfl)); apply G_split_dec; exact rfl; exact rfl; all_goals (intro h; try (exfalso; omega))) | apply W_skip | apply W_block | apply Post_block_normal)
            all_goals try (exfalso; omega)
            all_goals
              exact Post_round (i + 1) ⟨by rw [hsn]; rfl, by rw [hsn]; rfl, rfl, rfl, rfl, trivial⟩ ⟨(by repeat first | assumption | exact Ext.rfl' | apply Ext.drew | apply Ext.alloc | refine Ext.trans ?_ (by assumption)), hlt⟩ (by omega)
      · rw [if_neg (fun h => hCR (.inl h)), if_neg (fun h => hCR (.inr h))] at h3
        rw [h3] at his
        rw [stepO_no hB (fun h => hCR (.inl h)) (fun h => hCR (.inr h))] at hsn
        repeat' (first | (apply G_on; exact rfl; first | ((first | apply G1_assign | apply G1_move); exact rfl; exact rfl) | (apply G1_call (f := 61); exact rfl; exact rfl; exact rfl; exact his; rintro _ w6 ⟨rfl, hx6⟩; refine ⟨(by first | exact .inl rfl | exact .inr (by assumption)), ?_⟩; (first | replace hA4' := hA4'.ext hx6 | replace hA4' := hA4'.ext ((Ext.drew Ext.rfl').trans hx6))) | (apply G1_eql; exact rfl; exact rfl; exact rfl) | (apply G1_add; exact rfl; exact rfl; omega; omega; exact rfl)) | apply G_nil | apply Post_next | apply W_seq | apply W_region | (apply W_cond_false; exact rfl) | apply W_skip | apply W_block | apply Post_block_normal)
        all_goals try (exfalso; omega)
        all_goals
          exact Post_round (i + 1) ⟨by rw [hsn]; rfl, by rw [hsn]; rfl, rfl, rfl, rfl, trivial⟩ ⟨(by repeat first | assumption | exact Ext.rfl' | apply Ext.drew | apply Ext.alloc | refine Ext.trans ?_ (by assumption)), hlt⟩ (by omega)


theorem ropen_spec {p : Option Addr} {d : Nat} {rs : List RawC} {cs : List CallD} {w : World} (hC : CallsAt w.heap p d rs cs) :
    Ctr Tryz.prog 22 [.slice p rs.length d] w (fun v w' => v = .tuple #[.bool (cs.foldl stepO (false, false)).1, .bool (cs.foldl stepO (false, false)).2] ∧ Ext w w') := by
  have n1 := hC.sl.bound
  have hlen := hC.len
  have hok := hC.sl.ok
  have eOK : (⟨#[79, 75]⟩ : ByteArray) = sOK := rfl
  refine Ctr_of Tryz.func22 Tryz.ntmps22 rfl rfl rfl ?_
  repeat' (first | (apply G_on; exact rfl; (apply G1_assign; exact rfl; exact rfl)) | apply G_nil | apply Post_next | apply W_seq | apply W_region | apply W_block)
  refine W_loop (ι := Nat) (fun y => [(0, .slice p rs.length d), (4, .bool ((cs.take y).foldl stepO (false, false)).1), (5, .bool ((cs.take y).foldl stepO (false, false)).2), (6, .int .i64 (y : Int))])
    (fun y w' => Ext w w' ∧ y ≤ rs.length) (fun y => rs.length - y) 0 ⟨rfl, rfl, rfl, rfl, trivial⟩ ⟨(by repeat first | assumption | exact Ext.rfl' | apply Ext.drew | apply Ext.alloc | refine Ext.trans ?_ (by assumption)), Nat.zero_le _⟩ ?_
  rintro i w2 ⟨hx2, hi⟩
  obtain ⟨N, hN⟩ : ∃ N, (cs.take i).foldl stepO (false, false) = N := ⟨_, rfl⟩
  rw [hN]
  refine W_keep [(0, .slice p rs.length d), (4, .bool N.1), (5, .bool N.2), (6, .int .i64 (i : Int))] ⟨rfl, rfl, rfl, rfl, trivial⟩ ?_
  have hC2 := hC.ext hx2
  by_cases hlt : i < rs.length
  rotate_left
  · rw [List.take_of_length_le (by omega)] at hN
    repeat' (first | (apply G_on; exact rfl; first | ((first | apply G1_assign | apply G1_move); exact rfl; exact rfl) | (apply G1_len; exact T.s32; exact rfl; exact rfl) | (apply G1_lss; exact rfl; exact rfl; exact rfl)) | apply G_nil | apply Post_next | apply W_seq | apply W_region | (apply W_cond_dec; exact rfl; all_goals (intro h; try (exfalso; omega))) | apply W_exit | apply W_ret | apply Post_then_exit | apply Post_block_exit)
    all_goals try (exfalso; omega)
    refine Post_ret Tryz.results22 ⟨_, _, rfl, rfl, _, _, rfl, rfl, rfl⟩ ?_
    exact ⟨by rw [hN]; rfl, (by repeat first | assumption | exact Ext.rfl' | apply Ext.drew | apply Ext.alloc | refine Ext.trans ?_ (by assumption))⟩
  obtain ⟨r, hr⟩ := get_some hlt
  obtain ⟨x, hx⟩ := get_some (xs := cs) (k := i) (by omega)
  have hat := hC2.get i r x hr hx
  have henc := call_enc hat
  have f0 : (eCall.enc r)[0]? = some (.slice r.q x.words.length r.d) := by rw [henc]; rfl
  have f1 : (eCall.enc r)[1]? = some (.int .i64 x.rep.kind) := by rw [henc]; rfl
  have f2 : (eCall.enc r)[2]? = some (.string x.rep.s) := by rw [henc]; rfl
  have f3 : (eCall.enc r)[3]? = some (.int .i64 x.rep.n) := by rw [henc]; rfl
  have f5 : (eCall.enc r)[5]? = some (.bool x.done) := by rw [henc]; rfl
  have hsn := fold_snoc (f := stepO) (a := (false, false)) hx
  rw [hN] at hsn
  obtain ⟨_, _, _, _, _, _, _, hsz, _⟩ := hat.rep.open
  have hnm := fun w' (hy : Ext w2 w') => name_spec (hat.ext hy)
  have her := fun w' => err_spec (w := w') hsz
  by_cases hB : nameP x = sBegin
  · have nC : ¬ nameP x = sCommit := fun e => by rw [hB] at e; revert e; decide
    have nR : ¬ nameP x = sRollback := fun e => by rw [hB] at e; revert e; decide
    rw [stepO_begin hB] at hsn
    by_cases hc : x.rep.kind = 0 ∧ x.rep.s = sOK
    · rw [if_pos hc] at hsn
      have hc1 := hc.1
      have hc2 := hc.2
      have hdec : some (Value.bool (decide ((1 : Int) < (x.words.length : Int)))) = some (Value.bool (decide (1 < x.words.length))) := by
        rw [decide_eq_decide.2 (show (1 : Int) < (x.words.length : Int) ↔ 1 < x.words.length by omega)]
      repeat' (first | (apply G_on; exact rfl; first | ((first | apply G1_assign | apply G1_move); exact rfl; exact rfl) | (apply G1_indexAddrJ (q := i); exact T.s32; exact rfl; exact rfl; exact rfl; exact hok; exact hlt; exact rfl) | (apply G1_loadEl (e := eCall) (q := i); exact T.a53; exact rfl; exact hC2.sl.ext (by repeat first | assumption | exact Ext.rfl' | apply Ext.drew | apply Ext.alloc | refine Ext.trans ?_ (by assumption)); exact hr; exact rfl; exact rfl) | (apply G1_loadFld (e := eCall) (q := i) (off := 1); exact T.p3; exact rfl; exact hC2.sl.ext (by repeat first | assumption | exact Ext.rfl' | apply Ext.drew | apply Ext.alloc | refine Ext.trans ?_ (by assumption)); exact hr; exact rfl; exact f1; exact rfl) | (apply G1_loadFld (e := eCall) (q := i) (off := 2); exact T.p9; exact rfl; exact hC2.sl.ext (by repeat first | assumption | exact Ext.rfl' | apply Ext.drew | apply Ext.alloc | refine Ext.trans ?_ (by assumption)); exact hr; exact rfl; exact f2; exact rfl) | (apply G1_loadFld (e := eCall) (q := i) (off := 0); exact T.p37; exact rfl; exact hC2.sl.ext (by repeat first | assumption | exact Ext.rfl' | apply Ext.drew | apply Ext.alloc | refine Ext.trans ?_ (by assumption)); exact hr; exact rfl; exact f0; exact rfl) | (apply G1_call (f := 62); exact rfl; exact rfl; exact rfl; exact hnm _ (by repeat first | assumption | exact Ext.rfl' | apply Ext.drew | apply Ext.alloc | refine Ext.trans ?_ (by assumption)); rintro _ w3 ⟨rfl, hx3⟩; refine ⟨(by first | exact .inl rfl | exact .inr (by assumption)), ?_⟩) | (apply G1_seT; exact rfl; exact rfl; (first | exact hB | exact hc2); exact rfl) | (apply G1_seF; exact rfl; exact rfl; (first | exact nC | exact nR); exact rfl) | (apply G1_len; (first | exact T.s32 | exact T.s37); exact rfl; exact rfl) | ((first | apply G1_lss | apply G1_gtr); exact rfl; exact rfl; exact rfl) | (apply G1_fieldAddr; (first | exact T.f53_1 | exact T.f31_0 | exact T.f31_1 | exact T.f53_0); exact rfl; exact rfl) | (apply G1_eql; exact rfl; exact rfl; exact rfl) | (apply G1_pick_t; exact rfl; exact rfl; exact rfl) | (apply G1_pick_f; exact rfl; exact rfl; exact rfl) | (apply G1_add; exact rfl; exact rfl; omega; omega; exact rfl)) | apply G_nil | apply Post_next | apply W_seq | apply W_region | (apply W_cond_true; exact rfl) | (apply W_cond_false; exact rfl) | (apply W_cond_dec; exact rfl; all_goals (intro h; try (exfalso; omega))) | (apply G_off; exact rfl; exact rfl) | ((fail_if_success (apply G_on; exact rfl)); apply G_split_dec; exact rfl; exact rfl; all_goals (intro h; try (exfalso; omega))) | apply W_skip | apply W_block | apply Post_block_normal)
      all_goals try (exfalso; omega)
      all_goals
        exact Post_round (i + 1) ⟨rfl, by rw [hsn]; rfl, by rw [hsn]; exact hdec, rfl, trivial⟩ ⟨(by repeat first | assumption | exact Ext.rfl' | apply Ext.drew | apply Ext.alloc | refine Ext.trans ?_ (by assumption)), hlt⟩ (by omega)
    · rw [if_neg hc] at hsn
      repeat' (first | (apply G_on; exact rfl; first | ((first | apply G1_assign | apply G1_move); exact rfl; exact rfl) | (apply G1_indexAddrJ (q := i); exact T.s32; exact rfl; exact rfl; exact rfl; exact hok; exact hlt; exact rfl) | (apply G1_loadEl (e := eCall) (q := i); exact T.a53; exact rfl; exact hC2.sl.ext (by repeat first | assumption | exact Ext.rfl' | apply Ext.drew | apply Ext.alloc | refine Ext.trans ?_ (by assumption)); exact hr; exact rfl; exact rfl) | (apply G1_loadFld (e := eCall) (q := i) (off := 1); exact T.p3; exact rfl; exact hC2.sl.ext (by repeat first | assumption | exact Ext.rfl' | apply Ext.drew | apply Ext.alloc | refine Ext.trans ?_ (by assumption)); exact hr; exact rfl; exact f1; exact rfl) | (apply G1_loadFld (e := eCall) (q := i) (off := 2); exact T.p9; exact rfl; exact hC2.sl.ext (by repeat first | assumption | exact Ext.rfl' | apply Ext.drew | apply Ext.alloc | refine Ext.trans ?_ (by assumption)); exact hr; exact rfl; exact f2; exact rfl) | (apply G1_loadFld (e := eCall) (q := i) (off := 0); exact T.p37; exact rfl; exact hC2.sl.ext (by repeat first | assumption | exact Ext.rfl' | apply Ext.drew | apply Ext.alloc | refine Ext.trans ?_ (by assumption)); exact hr; exact rfl; exact f0; exact rfl) | (apply G1_call (f := 62); exact rfl; exact rfl; exact rfl; exact hnm _ (by repeat first | assumption | exact Ext.rfl' | apply Ext.drew | apply Ext.alloc | refine Ext.trans ?_ (by assumption)); rintro _ w3 ⟨rfl, hx3⟩; refine ⟨(by first | exact .inl rfl | exact .inr (by assumption)), ?_⟩) | (apply G1_seT; exact rfl; exact rfl; (first | exact hB); exact rfl) | (apply G1_seF; exact rfl; exact rfl; (first | exact nC | exact nR); exact rfl) | (apply G1_len; (first | exact T.s32 | exact T.s37); exact rfl; exact rfl) | ((first | apply G1_lss | apply G1_gtr); exact rfl; exact rfl; exact rfl) | (apply G1_seql; exact rfl; exact rfl; exact rfl) | (apply G1_fieldAddr; (first | exact T.f53_1 | exact T.f31_0 | exact T.f31_1 | exact T.f53_0); exact rfl; exact rfl) | (apply G1_eql; exact rfl; exact rfl; exact rfl) | (apply G1_pick_t; exact rfl; exact rfl; exact rfl) | (apply G1_pick_f; exact rfl; exact rfl; exact rfl) | (apply G1_add; exact rfl; exact rfl; omega; omega; exact rfl)) | apply G_nil | apply Post_next | apply W_seq | apply W_region | (apply W_cond_false; exact rfl) | (apply W_cond_dec; exact rfl; all_goals (intro h; try (exfalso; omega))) | (apply G_off; exact rfl; exact rfl) | ((fail_if_success (apply G_on; exact rfl)); apply G_split_dec; exact rfl; exact rfl; all_goals (intro h; try (exfalso; omega))) | apply W_skip | apply W_block | apply Post_block_normal)
      all_goals try (exfalso; first | omega | exact hc ⟨by omega, by assumption⟩)
      all_goals
        exact Post_round (i + 1) ⟨rfl, by rw [hsn]; rfl, by rw [hsn]; rfl, rfl, trivial⟩ ⟨(by repeat first | assumption | exact Ext.rfl' | apply Ext.drew | apply Ext.alloc | refine Ext.trans ?_ (by assumption)), hlt⟩ (by omega)
  · by_cases hCR : nameP x = sCommit ∨ nameP x = sRollback
    · rw [stepO_end hCR] at hsn
      by_cases hc : x.rep.kind ≠ 1 ∨ isErr x.rep.s = false
      · rw [if_pos hc] at hsn
        rcases hCR with hCR | hCR
        all_goals
          cases hE : isErr x.rep.s with
          | true =>
            rw [hE] at her
            have hk1 : ¬ x.rep.kind = 1 := fun e => hc.elim (fun h => h e) (fun h => by rw [hE] at h; cases h)
            have nC : nameP x = sRollback → ¬ nameP x = sCommit := fun e => by rw [e]; decide
            repeat' (first | (apply G_on; exact rfl; first | ((first | apply G1_assign | apply G1_move); exact rfl; exact rfl) | (apply G1_indexAddrJ (q := i); exact T.s32; exact rfl; exact rfl; exact rfl; exact hok; exact hlt; exact rfl) | (apply G1_loadEl (e := eCall) (q := i); exact T.a53; exact rfl; exact hC2.sl.ext (by repeat first | assumption | exact Ext.rfl' | apply Ext.drew | apply Ext.alloc | refine Ext.trans ?_ (by assumption)); exact hr; exact rfl; exact rfl) | (apply G1_loadFld (e := eCall) (q := i) (off := 1); exact T.p3; exact rfl; exact hC2.sl.ext (by repeat first | assumption | exact Ext.rfl' | apply Ext.drew | apply Ext.alloc | refine Ext.trans ?_ (by assumption)); exact hr; exact rfl; exact f1; exact rfl) | (apply G1_call (f := 62); exact rfl; exact rfl; exact rfl; exact hnm _ (by repeat first | assumption | exact Ext.rfl' | apply Ext.drew | apply Ext.alloc | refine Ext.trans ?_ (by assumption)); rintro _ w3 ⟨rfl, hx3⟩; refine ⟨(by first | exact .inl rfl | exact .inr (by assumption)), ?_⟩) | (apply G1_seT; exact rfl; exact rfl; (first | exact hCR); exact rfl) | (apply G1_seF; exact rfl; exact rfl; (first | exact hB | exact nC hCR); exact rfl) | (apply G1_len; exact T.s32; exact rfl; exact rfl) | ((first | apply G1_lss | apply G1_neq); exact rfl; exact rfl; exact rfl) | (apply G1_fieldAddr; (first | exact T.f53_1 | exact T.f31_0); exact rfl; exact rfl) | (apply G1_pick_t; exact rfl; exact rfl; exact rfl) | (apply G1_pick_f; exact rfl; exact rfl; exact rfl) | (apply G1_add; exact rfl; exact rfl; omega; omega; exact rfl)) | apply G_nil | apply Post_next | apply W_seq | apply W_region | (apply W_cond_true; exact rfl) | (apply W_cond_false; exact rfl) | (apply W_cond_dec; exact rfl; all_goals (intro h; try (exfalso; omega))) | (apply G_off; exact rfl; exact rfl) | ((fail_if_success (apply G_on; exact rfl)); apply G_split_dec; exact rfl; exact rfl; all_goals (intro h; try (exfalso; omega))) | apply W_skip | apply W_block | apply Post_block_normal)
            all_goals try (exfalso; omega)
            all_goals
              exact Post_round (i + 1) ⟨rfl, by rw [hsn]; rfl, by rw [hsn]; rfl, rfl, trivial⟩ ⟨(by repeat first | assumption | exact Ext.rfl' | apply Ext.drew | apply Ext.alloc | refine Ext.trans ?_ (by assumption)), hlt⟩ (by omega)
          | false =>
            rw [hE] at her
            have nC : nameP x = sRollback → ¬ nameP x = sCommit := fun e => by rw [e]; decide
            repeat' (first | (apply G_on; exact rfl; first | ((first | apply G1_assign | apply G1_move); exact rfl; exact rfl) | (apply G1_indexAddrJ (q := i); exact T.s32; exact rfl; exact rfl; exact rfl; exact hok; exact hlt; exact rfl) | (apply G1_loadEl (e := eCall) (q := i); exact T.a53; exact rfl; exact hC2.sl.ext (by repeat first | assumption | exact Ext.rfl' | apply Ext.drew | apply Ext.alloc | refine Ext.trans ?_ (by assumption)); exact hr; exact rfl; exact rfl) | (apply G1_loadFld (e := eCall) (q := i) (off := 1); exact T.p3; exact rfl; exact hC2.sl.ext (by repeat first | assumption | exact Ext.rfl' | apply Ext.drew | apply Ext.alloc | refine Ext.trans ?_ (by assumption)); exact hr; exact rfl; exact f1; exact rfl) | (apply G1_loadFld (e := eCall) (q := i) (off := 2); exact T.p9; exact rfl; exact hC2.sl.ext (by repeat first | assumption | exact Ext.rfl' | apply Ext.drew | apply Ext.alloc | refine Ext.trans ?_ (by assumption)); exact hr; exact rfl; exact f2; exact rfl) | (apply G1_call (f := 62); exact rfl; exact rfl; exact rfl; exact hnm _ (by repeat first | assumption | exact Ext.rfl' | apply Ext.drew | apply Ext.alloc | refine Ext.trans ?_ (by assumption)); rintro _ w3 ⟨rfl, hx3⟩; refine ⟨(by first | exact .inl rfl | exact .inr (by assumption)), ?_⟩) | (apply G1_call (f := 63); exact rfl; exact rfl; exact rfl; exact her _; rintro _ w4 ⟨rfl, hx4⟩; refine ⟨(by first | exact .inl rfl | exact .inr (by assumption)), ?_⟩) | (apply G1_seT; exact rfl; exact rfl; (first | exact hCR); exact rfl) | (apply G1_seF; exact rfl; exact rfl; (first | exact hB | exact nC hCR); exact rfl) | (apply G1_len; exact T.s32; exact rfl; exact rfl) | ((first | apply G1_lss | apply G1_neq); exact rfl; exact rfl; exact rfl) | (apply G1_fieldAddr; (first | exact T.f53_1 | exact T.f31_0 | exact T.f31_1); exact rfl; exact rfl) | (apply G1_pick_t; exact rfl; exact rfl; exact rfl) | (apply G1_pick_f; exact rfl; exact rfl; exact rfl) | (apply G1_not_f; exact rfl; exact rfl) | (apply G1_add; exact rfl; exact rfl; omega; omega; exact rfl)) | apply G_nil | apply Post_next | apply W_seq | apply W_region | (apply W_cond_true; exact rfl) | (apply W_cond_false; exact rfl) | (apply W_cond_dec; exact rfl; all_goals (intro h; try (exfalso; omega))) | (apply G_off; exact rfl; exact rfl) | ((fail_if_success (apply G_on; exact rfl)); apply G_split_dec; exact rfl; exact rfl; all_goals (intro h; try (exfalso; omega))) | apply W_skip | apply W_block | apply Post_block_normal)
            all_goals try (exfalso; omega)
            all_goals
              exact Post_round (i + 1) ⟨rfl, by rw [hsn]; rfl, by rw [hsn]; rfl, rfl, trivial⟩ ⟨(by repeat first | assumption | exact Ext.rfl' | apply Ext.drew | apply Ext.alloc | refine Ext.trans ?_ (by assumption)), hlt⟩ (by omega)
      · rw [if_neg hc] at hsn
        have hk1 : x.rep.kind = 1 := Classical.byContradiction fun h => hc (.inl h)
        have hE : isErr x.rep.s = true := by
          cases h : isErr x.rep.s with
          | true => rfl
          | false => exact absurd (.inr h) hc
        rw [hE] at her
        have nC : nameP x = sRollback → ¬ nameP x = sCommit := fun e => by rw [e]; decide
        rcases hCR with hCR | hCR
        all_goals
          repeat' (first | (apply G_on; exact rfl; first | ((first | apply G1_assign | apply G1_move); exact rfl; exact rfl) | (apply G1_indexAddrJ (q := i); exact T.s32; exact rfl; exact rfl; exact rfl; exact hok; exact hlt; exact rfl) | (apply G1_loadEl (e := eCall) (q := i); exact T.a53; exact rfl; exact hC2.sl.ext (by repeat first | assumption | exact Ext.rfl' | apply Ext.drew | apply Ext.alloc | refine Ext.trans ?_ (by assumption)); exact hr; exact rfl; exact rfl) | (apply G1_loadFld (e := eCall) (q := i) (off := 1); exact T.p3; exact rfl; exact hC2.sl.ext (by repeat first | assumption | exact Ext.rfl' | apply Ext.drew | apply Ext.alloc | refine Ext.trans ?_ (by assumption)); exact hr; exact rfl; exact f1; exact rfl) | (apply G1_loadFld (e := eCall) (q := i) (off := 2); exact T.p9; exact rfl; exact hC2.sl.ext (by repeat first | assumption | exact Ext.rfl' | apply Ext.drew | apply Ext.alloc | refine Ext.trans ?_ (by assumption)); exact hr; exact rfl; exact f2; exact rfl) | (apply G1_call (f := 62); exact rfl; exact rfl; exact rfl; exact hnm _ (by repeat first | assumption | exact Ext.rfl' | apply Ext.drew | apply Ext.alloc | refine Ext.trans ?_ (by assumption)); rintro _ w3 ⟨rfl, hx3⟩; refine ⟨(by first | exact .inl rfl | exact .inr (by assumption)), ?_⟩) | (apply G1_call (f := 63); exact rfl; exact rfl; exact rfl; exact her _; rintro _ w4 ⟨rfl, hx4⟩; refine ⟨(by first | exact .inl rfl | exact .inr (by assumption)), ?_⟩) | (apply G1_seT; exact rfl; exact rfl; (first | exact hCR); exact rfl) | (apply G1_seF; exact rfl; exact rfl; (first | exact hB | exact nC hCR); exact rfl) | (apply G1_len; exact T.s32; exact rfl; exact rfl) | ((first | apply G1_lss | apply G1_neq); exact rfl; exact rfl; exact rfl) | (apply G1_fieldAddr; (first | exact T.f53_1 | exact T.f31_0 | exact T.f31_1); exact rfl; exact rfl) | (apply G1_pick_t; exact rfl; exact rfl; exact rfl) | (apply G1_pick_f; exact rfl; exact rfl; exact rfl) | (apply G1_not_t; exact rfl; exact rfl) | (apply G1_add; exact rfl; exact rfl; omega; omega; exact rfl)) | apply G_nil | apply Post_next | apply W_seq | apply W_region | (apply W_cond_false; exact rfl) | (apply W_cond_dec; exact rfl; all_goals (intro h; try (exfalso; omega))) | (apply G_off; exact rfl; exact rfl) | ((fail_if_success (apply G_on; exact rfl)); apply G_split_dec; exact rfl; exact rfl; all_goals (intro h; try (exfalso; omega))) | apply W_skip | apply W_block | apply Post_block_normal)
          all_goals try (exfalso; omega)
          all_goals
            exact Post_round (i + 1) ⟨rfl, by rw [hsn]; rfl, by rw [hsn]; rfl, rfl, trivial⟩ ⟨(by repeat first | assumption | exact Ext.rfl' | apply Ext.drew | apply Ext.alloc | refine Ext.trans ?_ (by assumption)), hlt⟩ (by omega)
    · have nC : ¬ nameP x = sCommit := fun h => hCR (.inl h)
      have nR : ¬ nameP x = sRollback := fun h => hCR (.inr h)
      rw [stepO_no hB nC nR] at hsn
      repeat' (first | (apply G_on; exact rfl; first | ((first | apply G1_assign | apply G1_move); exact rfl; exact rfl) | (apply G1_indexAddrJ (q := i); exact T.s32; exact rfl; exact rfl; exact rfl; exact hok; exact hlt; exact rfl) | (apply G1_loadEl (e := eCall) (q := i); exact T.a53; exact rfl; exact hC2.sl.ext (by repeat first | assumption | exact Ext.rfl' | apply Ext.drew | apply Ext.alloc | refine Ext.trans ?_ (by assumption)); exact hr; exact rfl; exact rfl) | (apply G1_call (f := 62); exact rfl; exact rfl; exact rfl; exact hnm _ (by repeat first | assumption | exact Ext.rfl' | apply Ext.drew | apply Ext.alloc | refine Ext.trans ?_ (by assumption)); rintro _ w3 ⟨rfl, hx3⟩; refine ⟨(by first | exact .inl rfl | exact .inr (by assumption)), ?_⟩) | (apply G1_seF; exact rfl; exact rfl; (first | exact hB | exact nC | exact nR); exact rfl) | (apply G1_len; exact T.s32; exact rfl; exact rfl) | (apply G1_lss; exact rfl; exact rfl; exact rfl) | (apply G1_pick_f; exact rfl; exact rfl; exact rfl) | (apply G1_add; exact rfl; exact rfl; omega; omega; exact rfl)) | apply G_nil | apply Post_next | apply W_seq | apply W_region | (apply W_cond_false; exact rfl) | (apply W_cond_dec; exact rfl; all_goals (intro h; try (exfalso; omega))) | (apply G_off; exact rfl; exact rfl) | apply W_skip | apply W_block | apply Post_block_normal)
      all_goals try (exfalso; omega)
      all_goals
        exact Post_round (i + 1) ⟨rfl, by rw [hsn]; rfl, by rw [hsn]; rfl, rfl, trivial⟩ ⟨(by repeat first | assumption | exact Ext.rfl' | apply Ext.drew | apply Ext.alloc | refine Ext.trans ?_ (by assumption)), hlt⟩ (by omega)
end Go.Proofs.YtipbakiecocioaaGreatDoor

/- Audit: the stamps of commits, and all that calls tell; the walks. -/
namespace Go.V
section
variable {P : Program} {n : Nat} {ops : Array Oper} {dr : Nat × List Nat} {l : List Oper} {E : Env} {w : World} {K : Env → World → Prop}
variable {d : Option Nat} {ty : TypeId} {pos : String} {af : Array Edge} {g : Option (Nat × Bool)} {x y : Operand} {t t' : TypeId} {b b' : Bool}
theorem G1_beqT (hu : P.underlying t = some .bool) (hx : E.look x = some (.bool b)) (hy : E.look y = some (.bool b')) (hb : b = b') (hd : dstOk n d = true) (h : G P n ops dr l (E.put d (.bool true)) w K) : G1 P n ops dr ⟨d, .binOp .eql t x y t', ty, pos, af, g⟩ l E w K :=
  G1_beql hu hx hy hd (by subst hb; simpa using h)
end
end Go.V
namespace Go.Proofs.YtipbakiecocioaaGreatDoor
open Go.V
attribute [local irreducible] Blk Own hcell IntT SliceT PlainT AggT SizeT StrT FieldT ZeroT EqT ArrT




theorem ints11_eq {p q : Option Addr} {c d : Nat} {xs ys : List Int} {w : World} (hx : Sl w.heap eInt p c xs) (hy : Sl w.heap eInt q d ys) :
    Ctr Tryz.prog 25 [.slice p xs.length c, .slice q ys.length d] w (fun v w' => v = .bool (decide (xs = ys)) ∧ Ext w w') := by
  have b1 := hx.bound
  have b2 := hy.bound
  refine Ctr_of Tryz.func25 Tryz.ntmps25 rfl rfl rfl ?_
  repeat' (first | (apply G_on; exact rfl; first | ((first | apply G1_assign | apply G1_move); exact rfl; exact rfl) | (apply G1_len; exact T.s73; exact rfl; exact rfl) | (apply G1_neq; exact rfl; exact rfl; exact rfl)) | apply G_nil | apply Post_next | apply W_seq | apply W_region | (apply W_cond_dec; exact rfl; all_goals (intro h; try (exfalso; omega))) | apply W_skip | apply W_ret | apply W_block | apply Post_then_ret)
  · refine Post_ret Tryz.results25 ⟨_, _, rfl, rfl, rfl⟩ ?_
    exact ⟨by rw [decide_eq_false (fun e => h (by rw [e]))]; rfl, (by repeat first | assumption | exact Ext.rfl' | apply Ext.drew | apply Ext.alloc | refine Ext.trans ?_ (by assumption))⟩
  · refine W_loop (ι := Nat) (fun k => [(0, .slice p xs.length c), (1, .slice q ys.length d), (5, .int .i64 k)]) (fun k w' => Ext w w' ∧ k ≤ xs.length ∧ xs.take k = ys.take k) (fun k => xs.length - k) 0 ⟨rfl, rfl, rfl, trivial⟩ ⟨(by repeat first | assumption | exact Ext.rfl' | apply Ext.drew | apply Ext.alloc | refine Ext.trans ?_ (by assumption)), by omega, by simp⟩ ?_
    intro k w1 ⟨he, hk, ht⟩
    have hx1 := hx.ext he
    have hy1 := hy.ext he
    by_cases hlt : k < xs.length
    · obtain ⟨a, ha⟩ := get_some hlt
      obtain ⟨b, hb⟩ := get_some (xs := ys) (k := k) (by omega)
      repeat' (first | (apply G_on; exact rfl; first | ((first | apply G1_assign | apply G1_move); exact rfl; exact rfl) | (apply G1_len; exact T.s73; exact rfl; exact rfl) | ((first | apply G1_neq | apply G1_lss); exact rfl; exact rfl; exact rfl) | (apply G1_indexAddrN; exact T.s73; exact rfl; exact rfl; (first | assumption | exact Sl.ok (by assumption) | exact (Own.sl (by assumption)).ok); omega; exact rfl) | (apply G1_loadEl1; exact T.p3; exact rfl; assumption; assumption; exact rfl; exact rfl; exact rfl) | (apply G1_add; exact rfl; exact rfl; omega; omega; exact rfl)) | apply G_nil | apply Post_next | apply W_seq | apply W_region | (apply W_cond_dec; exact rfl; all_goals (intro h; try (exfalso; omega))) | refine W_drawn 1 [] [0,1,2,3,4,5,6,7,8] mixed (by decide +kernel) ?_ | apply W_skip | apply W_ret | apply W_block | apply Post_then_ret | apply Post_block_ret | apply Post_block_normal)
      · refine Post_ret Tryz.results25 ⟨_, _, rfl, rfl, rfl⟩ ?_
        exact ⟨by rw [decide_eq_false (ne_of_get ha hb h)]; rfl, (by repeat first | assumption | exact Ext.rfl' | apply Ext.drew | apply Ext.alloc | refine Ext.trans ?_ (by assumption))⟩
      · refine Post_round (k + 1) ⟨rfl, rfl, rfl, trivial⟩ ⟨(by repeat first | assumption | exact Ext.rfl' | apply Ext.drew | apply Ext.alloc | refine Ext.trans ?_ (by assumption)), by omega, ?_⟩ (by omega)
        rw [take_snoc ha, take_snoc hb, ht, show a = b by simpa using h]
    · repeat' (first | (apply G_on; exact rfl; first | ((first | apply G1_assign | apply G1_move); exact rfl; exact rfl) | (apply G1_len; exact T.s73; exact rfl; exact rfl) | (apply G1_lss; exact rfl; exact rfl; exact rfl)) | apply G_nil | apply Post_next | apply W_seq | apply W_region | (apply W_cond_dec; exact rfl; all_goals (intro h; try (exfalso; omega))) | apply W_exit | apply W_ret | apply Post_then_exit | apply Post_block_exit)
      refine Post_ret Tryz.results25 ⟨_, _, rfl, rfl, rfl⟩ ?_
      exact ⟨by rw [decide_eq_true (eq_of_take hk ht (by omega) (by omega))]; rfl, (by repeat first | assumption | exact Ext.rfl' | apply Ext.drew | apply Ext.alloc | refine Ext.trans ?_ (by assumption))⟩

theorem stepM_yes {l : List Int} {x : CallD} (h1 : nameP x = sCommit) (h2 : x.rep.kind = 2) (h3 : 0 < x.rep.n) : stepM l x = l ++ [x.rep.n] := by unfold stepM; rw [if_pos ⟨h1, h2, h3⟩]
theorem stepM_no {l : List Int} {x : CallD} (h : ¬ (nameP x = sCommit ∧ x.rep.kind = 2 ∧ 0 < x.rep.n)) : stepM l x = l := by unfold stepM; rw [if_neg h]
theorem stepM_len (l : List Int) (x : CallD) : (stepM l x).length ≤ l.length + 1 := by
  unfold stepM
  split
  · simp
  · omega
theorem commits_spec {p : Option Addr} {d : Nat} {rs : List RawC} {cs : List CallD} {w : World} (hC : CallsAt w.heap p d rs cs) (hl : cs.length ≤ 1000000) :
    Ctr Tryz.prog 26 [.slice p rs.length d] w (fun v w' => ∃ q e, v = .slice q (cs.foldl stepM []).length e ∧ Sl w'.heap eInt q e (cs.foldl stepM []) ∧ Ext w w') := by
  have n1 := hC.sl.bound
  have hlen := hC.len
  have hok := hC.sl.ok
  refine Ctr_of Tryz.func26 Tryz.ntmps26 rfl rfl rfl ?_
  repeat' (first | (apply G_on; exact rfl; first | ((first | apply G1_assign | apply G1_move); exact rfl; exact rfl) | (apply G1_len; exact T.s32; exact rfl; exact rfl)) | apply G_nil | apply Post_next | apply W_seq | apply W_region | apply W_block)
  refine W_loop (ι := Nat × Option Addr × Nat) (fun y => [(3, .slice y.2.1 ((cs.take y.1).foldl stepM []).length y.2.2), (6, .slice p rs.length d), (7, .int .i64 (rs.length : Int)), (8, .int .i64 (y.1 : Int))])
    (fun y w' => Ext w w' ∧ y.1 ≤ rs.length ∧ ((cs.take y.1).foldl stepM []).length ≤ y.1 ∧ Own w' w.heap.size 3 eInt y.2.1 y.2.2 ((cs.take y.1).foldl stepM [])) (fun y => rs.length - y.1) (0, none, 0) ⟨rfl, rfl, rfl, rfl, trivial⟩ ⟨(by repeat first | assumption | exact Ext.rfl' | apply Ext.drew | apply Ext.alloc | refine Ext.trans ?_ (by assumption)), Nat.zero_le _, Nat.le_refl _, Own.nil _ _ _ _⟩ ?_
  rintro ⟨i, q, e⟩ w2 ⟨hx2, hi, hNl, hO⟩
  simp only at hi hNl hO
  obtain ⟨N, hN⟩ : ∃ N, (cs.take i).foldl stepM [] = N := ⟨_, rfl⟩
  rw [hN] at hNl hO
  refine W_keep [(3, .slice q N.length e), (6, .slice p rs.length d), (7, .int .i64 (rs.length : Int)), (8, .int .i64 (i : Int))] ⟨by rw [← hN]; rfl, rfl, rfl, rfl, trivial⟩ ?_
  have hC2 := hC.ext hx2
  by_cases hlt : i < rs.length
  rotate_left
  · rw [List.take_of_length_le (by omega)] at hN
    repeat' (first | (apply G_on; exact rfl; first | ((first | apply G1_assign | apply G1_move); exact rfl; exact rfl) | (apply G1_lss; exact rfl; exact rfl; exact rfl)) | apply G_nil | apply Post_next | apply W_seq | apply W_region | (apply W_cond_dec; exact rfl; all_goals (intro h; try (exfalso; omega))) | apply W_exit | apply W_ret | apply Post_then_exit | apply Post_block_exit)
    all_goals try (exfalso; omega)
    refine Post_ret Tryz.results26 ⟨_, _, rfl, rfl, rfl⟩ ?_
    exact ⟨q, e, by rw [hN]; rfl, by rw [hN]; exact hO.sl.ext (by repeat first | assumption | exact Ext.rfl' | apply Ext.drew | apply Ext.alloc | refine Ext.trans ?_ (by assumption)), (by repeat first | assumption | exact Ext.rfl' | apply Ext.drew | apply Ext.alloc | refine Ext.trans ?_ (by assumption))⟩
  obtain ⟨r, hr⟩ := get_some hlt
  obtain ⟨x, hx⟩ := get_some (xs := cs) (k := i) (by omega)
  have hat := hC2.get i r x hr hx
  have henc := call_enc hat
  have f0 : (eCall.enc r)[0]? = some (.slice r.q x.words.length r.d) := by rw [henc]; rfl
  have f1 : (eCall.enc r)[1]? = some (.int .i64 x.rep.kind) := by rw [henc]; rfl
  have f2 : (eCall.enc r)[2]? = some (.string x.rep.s) := by rw [henc]; rfl
  have f3 : (eCall.enc r)[3]? = some (.int .i64 x.rep.n) := by rw [henc]; rfl
  have f5 : (eCall.enc r)[5]? = some (.bool x.done) := by rw [henc]; rfl
  have hsn := fold_snoc (f := stepM) (a := ([] : List Int)) hx
  rw [hN] at hsn
  have hge := hO.ge
  repeat' (first | (apply G_on; exact rfl; first | (apply G1_indexAddrJ (q := i); exact T.s32; exact rfl; exact rfl; exact rfl; exact hok; exact hlt; exact rfl) | (apply G1_loadEl (e := eCall) (q := i); exact T.a53; exact rfl; exact hC2.sl.ext (by repeat first | assumption | exact Ext.rfl' | apply Ext.drew | apply Ext.alloc | refine Ext.trans ?_ (by assumption)); exact hr; exact rfl; exact rfl) | (apply G1_lss; exact rfl; exact rfl; exact rfl)) | apply G_nil | apply Post_next | apply W_seq | apply W_region | (apply W_cond_dec; exact rfl; all_goals (intro h; try (exfalso; omega))) | apply W_skip | apply W_block)
  all_goals try (exfalso; omega)
  apply G_on; exact rfl; apply G1_alloc; exact T.zero53; exact rfl; exact rfl; intro a3 w3 ha3 hA3 hx3 hs3
  skip
  apply G_on; exact rfl; apply G1_storeB; exact T.z53; exact rfl; exact rfl; exact hA3; exact rfl; exact rfl; (first | exact Nat.le_of_ble_eq_true rfl | (focus (simp [Value.cells]; done))); (first | exact Enc.one _ _ | (focus (simp [Value.oneCell']; done)) | (focus (simp [Value.cells, Value.oneCell']; done)) | exact Enc.oneAgg _ _); exact rfl; (first | exact .inl rfl | exact .inr (by simp [exempt])); exact rfl; intro w4 hA4 hg4 hs4
  have hA4' : Blk w4.heap a3 53 [.slice r.q x.words.length r.d, .int .i64 x.rep.kind, .string x.rep.s, .int .i64 x.rep.n, .slice r.rep.p r.rep.len r.rep.cap, .bool x.done] := by rw [← henc]; exact hA4
  have hx24 : Ext w2 w4 := hx3.own hg4 (fun k hk => by injection hk with hk; omega)
  clear hA4 hA3
  cases hd : x.done with
  | false =>
    rw [hd] at hA4'
    have hnm := nameP_nd hd
    rw [stepM_no (fun h => by rw [hnm] at h; exact absurd h.1 (by decide))] at hsn
    repeat' (first | (apply G_on; exact rfl; first | (apply G1_move; exact rfl; exact rfl) | (apply G1_fieldAddr; exact T.f53_2; exact rfl; exact rfl) | (apply G1_loadB; exact T.p4; exact rfl; assumption; exact rfl; exact rfl) | (apply G1_pick_f; exact rfl; exact rfl; exact rfl) | (apply G1_add; exact rfl; exact rfl; omega; omega; exact rfl)) | apply G_nil | apply Post_next | apply W_seq | apply W_region | (apply W_cond_false; exact rfl) | (apply G_off; exact rfl; exact rfl) | apply W_skip | apply Post_block_normal)
    all_goals try (exfalso; omega)
    all_goals
      exact Post_round (i + 1, q, e) ⟨by rw [hsn]; rfl, rfl, rfl, rfl, trivial⟩ ⟨(by repeat first | assumption | exact Ext.rfl' | apply Ext.drew | apply Ext.alloc | refine Ext.trans ?_ (by assumption)), hlt, by simp only; rw [hsn]; omega, by simp only; rw [hsn]; exact hO.ext (by repeat first | assumption | exact Ext.rfl' | apply Ext.drew | apply Ext.alloc | refine Ext.trans ?_ (by assumption))⟩ (by simp only; omega)
  | true =>
    have h1 := isC_one x hd
    rw [hd] at hA4'
    repeat' (first | (apply G_on; exact rfl; first | (apply G1_move; exact rfl; exact rfl) | (apply G1_loadBAgg; exact T.a53; exact rfl; assumption; exact rfl; exact rfl) | (apply G1_fieldAddr; exact T.f53_2; exact rfl; exact rfl) | (apply G1_loadB; exact T.p4; exact rfl; assumption; exact rfl; exact rfl)) | apply G_nil | apply Post_next | apply W_seq | apply W_region)
    apply G_on; exact rfl
    apply G1_build1 eStr sCommit; exact T.s37; exact rfl; exact rfl; exact rfl; decide; exact rfl; exact rfl
    intro p5 w5 hp5 hs5 _ hx5 hz5
    have hx25 : Ext w2 w5 := hx24.trans hx5
    have his := is_spec (ns := [sCommit]) (hat.ext hx25) hs5
    rw [henc, hd] at his
    replace hA4' := hA4'.ext hx5
    by_cases hc : nameP x = sCommit ∧ x.rep.kind = 2 ∧ 0 < x.rep.n
    · obtain ⟨c1, c2, c3⟩ := hc
      rw [h1.2 c1] at his
      rw [stepM_yes c1 c2 c3] at hsn
      repeat' (first | (apply G_on; exact rfl; first | (apply G1_move; exact rfl; exact rfl) | (apply G1_call (f := 61); exact rfl; exact rfl; exact rfl; exact his; rintro _ w6 ⟨rfl, hx6⟩; refine ⟨(by first | exact .inl rfl | exact .inr (by assumption)), ?_⟩; (first | replace hA4' := hA4'.ext hx6 | replace hA4' := hA4'.ext ((Ext.drew Ext.rfl').trans hx6))) | ((first | apply G1_eql | apply G1_gtr); exact rfl; exact rfl; exact rfl) | (apply G1_fieldAddr; (first | exact T.f53_1 | exact T.f31_0 | exact T.f31_2); exact rfl; exact rfl) | (apply G1_loadB; exact T.p3; exact rfl; assumption; exact rfl; exact rfl) | (apply G1_pick_t; exact rfl; exact rfl; exact rfl)) | apply G_nil | apply Post_next | apply W_region | (apply W_cond_dec; exact rfl; all_goals (intro h; try (exfalso; omega))) | ((fail_if_success (apply G_on; exact rfl)); apply G_split_dec; exact rfl; exact rfl; all_goals (intro h; try (exfalso; omega))))
      all_goals try (exfalso; omega)
      apply G_on; exact rfl
      apply G1_build1 eInt x.rep.n; exact T.s73; exact rfl; exact rfl; exact rfl; decide; exact rfl; exact rfl
      intro p7 w7 hp7 hs7 _ hx7 hz7
      have hx27 : Ext w2 w7 := (by repeat first | assumption | exact Ext.rfl' | apply Ext.drew | apply Ext.alloc | refine Ext.trans ?_ (by assumption))
      have hz27 := hx27.size
      have hz2 := hx2.size
      repeat' (first | (apply G_on; exact rfl; first | ((first | apply G1_assign | apply G1_move); exact rfl; exact rfl) | (apply G1_appendA; exact T.s73; exact rfl; exact rfl; exact hO.ext hx27; exact hs7; exact rfl; omega; (simp only [List.length_cons, List.length_nil]; omega); (simp only [List.length_cons, List.length_nil]; omega); exact rfl; exact rfl; exact rfl; intro p8 c8 w8 ha8) | (apply G1_add; exact rfl; exact rfl; omega; omega; exact rfl)) | apply G_nil | apply Post_next | apply W_region | apply Post_block_normal)
      refine Post_round (i + 1, p8, c8) ⟨by simp only; rw [hsn]; rfl, rfl, rfl, rfl, trivial⟩ ⟨(hx2.trans hx27).app ha8 (fun k hk => (hge k hk).1), hlt, ?_, by simp only; rw [hsn]; exact ha8.own⟩ (by simp only; omega)
      simp only
      rw [hsn, List.length_append, List.length_singleton]
      omega
    · rw [stepM_no hc] at hsn
      by_cases c1 : nameP x = sCommit
      · rw [h1.2 c1] at his
        repeat' (first | (apply G_on; exact rfl; first | (apply G1_move; exact rfl; exact rfl) | (apply G1_call (f := 61); exact rfl; exact rfl; exact rfl; exact his; rintro _ w6 ⟨rfl, hx6⟩; refine ⟨(by first | exact .inl rfl | exact .inr (by assumption)), ?_⟩; (first | replace hA4' := hA4'.ext hx6 | replace hA4' := hA4'.ext ((Ext.drew Ext.rfl').trans hx6))) | ((first | apply G1_eql | apply G1_gtr); exact rfl; exact rfl; exact rfl) | (apply G1_fieldAddr; (first | exact T.f53_1 | exact T.f31_0 | exact T.f31_2); exact rfl; exact rfl) | (apply G1_loadB; exact T.p3; exact rfl; assumption; exact rfl; exact rfl) | (apply G1_pick_t; exact rfl; exact rfl; exact rfl) | (apply G1_pick_f; exact rfl; exact rfl; exact rfl) | (apply G1_add; exact rfl; exact rfl; omega; omega; exact rfl)) | apply G_nil | apply Post_next | apply W_region | (apply W_cond_false; exact rfl) | (apply W_cond_dec; exact rfl; all_goals (intro h; try (exfalso; omega))) | (apply G_off; exact rfl; exact rfl) | ((fail_if_success (apply G_on; exact rfl)); apply G_split_dec; exact rfl; exact rfl; all_goals (intro h; try (exfalso; omega))) | apply W_skip | apply Post_block_normal)
        all_goals try (exfalso; first | omega | exact hc ⟨c1, by omega, by omega⟩)
        all_goals
          exact Post_round (i + 1, q, e) ⟨by rw [hsn]; rfl, rfl, rfl, rfl, trivial⟩ ⟨(by repeat first | assumption | exact Ext.rfl' | apply Ext.drew | apply Ext.alloc | refine Ext.trans ?_ (by assumption)), hlt, by simp only; rw [hsn]; omega, by simp only; rw [hsn]; exact hO.ext (by repeat first | assumption | exact Ext.rfl' | apply Ext.drew | apply Ext.alloc | refine Ext.trans ?_ (by assumption))⟩ (by simp only; omega)
      · have hne : ¬ isC x [sCommit] = 0 := fun e => c1 (h1.1 e)
        obtain ⟨z, hz⟩ : ∃ z, isC x [sCommit] = z := ⟨_, rfl⟩
        rw [hz] at his hne
        repeat' (first | (apply G_on; exact rfl; first | (apply G1_move; exact rfl; exact rfl) | (apply G1_call (f := 61); exact rfl; exact rfl; exact rfl; exact his; rintro _ w6 ⟨rfl, hx6⟩; refine ⟨(by first | exact .inl rfl | exact .inr (by assumption)), ?_⟩; (first | replace hA4' := hA4'.ext hx6 | replace hA4' := hA4'.ext ((Ext.drew Ext.rfl').trans hx6))) | (apply G1_eql; exact rfl; exact rfl; exact rfl) | (apply G1_pick_t; exact rfl; exact rfl; exact rfl) | (apply G1_pick_f; exact rfl; exact rfl; exact rfl) | (apply G1_add; exact rfl; exact rfl; omega; omega; exact rfl)) | apply G_nil | apply Post_next | apply W_region | (apply W_cond_false; exact rfl) | (apply G_off; exact rfl; exact rfl) | ((fail_if_success (apply G_on; exact rfl)); apply G_split_dec; exact rfl; exact rfl; all_goals (intro h; try (exfalso; omega))) | apply W_skip | apply Post_block_normal)
        all_goals try (exfalso; omega)
        all_goals
          exact Post_round (i + 1, q, e) ⟨by rw [hsn]; rfl, rfl, rfl, rfl, trivial⟩ ⟨(by repeat first | assumption | exact Ext.rfl' | apply Ext.drew | apply Ext.alloc | refine Ext.trans ?_ (by assumption)), hlt, by simp only; rw [hsn]; omega, by simp only; rw [hsn]; exact hO.ext (by repeat first | assumption | exact Ext.rfl' | apply Ext.drew | apply Ext.alloc | refine Ext.trans ?_ (by assumption))⟩ (by simp only; omega)
theorem rcommits_spec {p : Option Addr} {d : Nat} {rs : List RawC} {cs : List CallD} {w : World} (hC : CallsAt w.heap p d rs cs) (hl : cs.length ≤ 1000000) :
    Ctr Tryz.prog 27 [.slice p rs.length d] w (fun v w' => ∃ q e, v = .slice q (cs.foldl stepM []).length e ∧ Sl w'.heap eInt q e (cs.foldl stepM []) ∧ Ext w w') := by
  have n1 := hC.sl.bound
  have hlen := hC.len
  have hok := hC.sl.ok
  refine Ctr_of Tryz.func27 Tryz.ntmps27 rfl rfl rfl ?_
  repeat' (first | (apply G_on; exact rfl; (apply G1_assign; exact rfl; exact rfl)) | apply G_nil | apply Post_next | apply W_seq | apply W_region | apply W_block)
  refine W_loop (ι := Nat × Option Addr × Nat) (fun y => [(0, .slice p rs.length d), (3, .slice y.2.1 ((cs.take y.1).foldl stepM []).length y.2.2), (4, .int .i64 (y.1 : Int))])
    (fun y w' => Ext w w' ∧ y.1 ≤ rs.length ∧ ((cs.take y.1).foldl stepM []).length ≤ y.1 ∧ Own w' w.heap.size 3 eInt y.2.1 y.2.2 ((cs.take y.1).foldl stepM [])) (fun y => rs.length - y.1) (0, none, 0) ⟨rfl, rfl, rfl, trivial⟩ ⟨(by repeat first | assumption | exact Ext.rfl' | apply Ext.drew | apply Ext.alloc | refine Ext.trans ?_ (by assumption)), Nat.zero_le _, Nat.le_refl _, Own.nil _ _ _ _⟩ ?_
  rintro ⟨i, q, e⟩ w2 ⟨hx2, hi, hNl, hO⟩
  simp only at hi hNl hO
  obtain ⟨N, hN⟩ : ∃ N, (cs.take i).foldl stepM [] = N := ⟨_, rfl⟩
  rw [hN] at hNl hO
  refine W_keep [(0, .slice p rs.length d), (3, .slice q N.length e), (4, .int .i64 (i : Int))] ⟨rfl, by rw [← hN]; rfl, rfl, trivial⟩ ?_
  have hC2 := hC.ext hx2
  by_cases hlt : i < rs.length
  rotate_left
  · rw [List.take_of_length_le (by omega)] at hN
    repeat' (first | (apply G_on; exact rfl; first | ((first | apply G1_assign | apply G1_move); exact rfl; exact rfl) | (apply G1_len; exact T.s32; exact rfl; exact rfl) | (apply G1_lss; exact rfl; exact rfl; exact rfl)) | apply G_nil | apply Post_next | apply W_seq | apply W_region | (apply W_cond_dec; exact rfl; all_goals (intro h; try (exfalso; omega))) | apply W_exit | apply W_ret | apply Post_then_exit | apply Post_block_exit)
    all_goals try (exfalso; omega)
    refine Post_ret Tryz.results27 ⟨_, _, rfl, rfl, rfl⟩ ?_
    exact ⟨q, e, by rw [hN]; rfl, by rw [hN]; exact hO.sl.ext (by repeat first | assumption | exact Ext.rfl' | apply Ext.drew | apply Ext.alloc | refine Ext.trans ?_ (by assumption)), (by repeat first | assumption | exact Ext.rfl' | apply Ext.drew | apply Ext.alloc | refine Ext.trans ?_ (by assumption))⟩
  obtain ⟨r, hr⟩ := get_some hlt
  obtain ⟨x, hx⟩ := get_some (xs := cs) (k := i) (by omega)
  have hat := hC2.get i r x hr hx
  have henc := call_enc hat
  have f0 : (eCall.enc r)[0]? = some (.slice r.q x.words.length r.d) := by rw [henc]; rfl
  have f1 : (eCall.enc r)[1]? = some (.int .i64 x.rep.kind) := by rw [henc]; rfl
  have f2 : (eCall.enc r)[2]? = some (.string x.rep.s) := by rw [henc]; rfl
  have f3 : (eCall.enc r)[3]? = some (.int .i64 x.rep.n) := by rw [henc]; rfl
  have f5 : (eCall.enc r)[5]? = some (.bool x.done) := by rw [henc]; rfl
  have hsn := fold_snoc (f := stepM) (a := ([] : List Int)) hx
  rw [hN] at hsn
  have hge := hO.ge
  have hnm := fun w' (hy : Ext w2 w') => name_spec (hat.ext hy)
  by_cases c1 : nameP x = sCommit
  · by_cases hc : nameP x = sCommit ∧ x.rep.kind = 2 ∧ 0 < x.rep.n
    · obtain ⟨c1, c2, c3⟩ := hc
      rw [stepM_yes c1 c2 c3] at hsn
      repeat' (first | (apply G_on; exact rfl; first | (apply G1_move; exact rfl; exact rfl) | (apply G1_indexAddrJ (q := i); exact T.s32; exact rfl; exact rfl; exact rfl; exact hok; exact hlt; exact rfl) | (apply G1_loadEl (e := eCall) (q := i); exact T.a53; exact rfl; exact hC2.sl.ext (by repeat first | assumption | exact Ext.rfl' | apply Ext.drew | apply Ext.alloc | refine Ext.trans ?_ (by assumption)); exact hr; exact rfl; exact rfl) | (apply G1_loadFld (e := eCall) (q := i) (off := 1); exact T.p3; exact rfl; exact hC2.sl.ext (by repeat first | assumption | exact Ext.rfl' | apply Ext.drew | apply Ext.alloc | refine Ext.trans ?_ (by assumption)); exact hr; exact rfl; exact f1; exact rfl) | (apply G1_loadFld (e := eCall) (q := i) (off := 3); exact T.p3; exact rfl; exact hC2.sl.ext (by repeat first | assumption | exact Ext.rfl' | apply Ext.drew | apply Ext.alloc | refine Ext.trans ?_ (by assumption)); exact hr; exact rfl; exact f3; exact rfl) | (apply G1_call (f := 62); exact rfl; exact rfl; exact rfl; exact hnm _ (by repeat first | assumption | exact Ext.rfl' | apply Ext.drew | apply Ext.alloc | refine Ext.trans ?_ (by assumption)); rintro _ w3 ⟨rfl, hx3⟩; refine ⟨(by first | exact .inl rfl | exact .inr (by assumption)), ?_⟩) | (apply G1_seT; exact rfl; exact rfl; (first | exact c1); exact rfl) | (apply G1_len; exact T.s32; exact rfl; exact rfl) | ((first | apply G1_lss | apply G1_gtr); exact rfl; exact rfl; exact rfl) | (apply G1_fieldAddr; (first | exact T.f53_1 | exact T.f31_0 | exact T.f31_2); exact rfl; exact rfl) | (apply G1_eql; exact rfl; exact rfl; exact rfl) | (apply G1_pick_t; exact rfl; exact rfl; exact rfl)) | apply G_nil | apply Post_next | apply W_seq | apply W_region | (apply W_cond_dec; exact rfl; all_goals (intro h; try (exfalso; omega))) | ((fail_if_success (apply G_on; exact rfl)); apply G_split_dec; exact rfl; exact rfl; all_goals (intro h; try (exfalso; omega))) | apply W_skip | apply W_block)
      all_goals try (exfalso; omega)
      apply G_on; exact rfl
      apply G1_build1 eInt x.rep.n; exact T.s73; exact rfl; exact rfl; exact rfl; decide; exact rfl; exact rfl
      intro p7 w7 hp7 hs7 _ hx7 hz7
      have hx27 : Ext w2 w7 := (by repeat first | assumption | exact Ext.rfl' | apply Ext.drew | apply Ext.alloc | refine Ext.trans ?_ (by assumption))
      have hz27 := hx27.size
      have hz2 := hx2.size
      repeat' (first | (apply G_on; exact rfl; first | ((first | apply G1_assign | apply G1_move); exact rfl; exact rfl) | (apply G1_appendA; exact T.s73; exact rfl; exact rfl; exact hO.ext hx27; exact hs7; exact rfl; omega; (simp only [List.length_cons, List.length_nil]; omega); (simp only [List.length_cons, List.length_nil]; omega); exact rfl; exact rfl; exact rfl; intro p8 c8 w8 ha8) | (apply G1_add; exact rfl; exact rfl; omega; omega; exact rfl)) | apply G_nil | apply Post_next | apply W_region | apply Post_block_normal)
      refine Post_round (i + 1, p8, c8) ⟨rfl, by simp only; rw [hsn]; rfl, rfl, trivial⟩ ⟨(hx2.trans hx27).app ha8 (fun k hk => (hge k hk).1), hlt, ?_, by simp only; rw [hsn]; exact ha8.own⟩ (by simp only; omega)
      simp only
      rw [hsn, List.length_append, List.length_singleton]
      omega
    · rw [stepM_no hc] at hsn
      repeat' (first | (apply G_on; exact rfl; first | ((first | apply G1_assign | apply G1_move); exact rfl; exact rfl) | (apply G1_indexAddrJ (q := i); exact T.s32; exact rfl; exact rfl; exact rfl; exact hok; exact hlt; exact rfl) | (apply G1_loadEl (e := eCall) (q := i); exact T.a53; exact rfl; exact hC2.sl.ext (by repeat first | assumption | exact Ext.rfl' | apply Ext.drew | apply Ext.alloc | refine Ext.trans ?_ (by assumption)); exact hr; exact rfl; exact rfl) | (apply G1_loadFld (e := eCall) (q := i) (off := 1); exact T.p3; exact rfl; exact hC2.sl.ext (by repeat first | assumption | exact Ext.rfl' | apply Ext.drew | apply Ext.alloc | refine Ext.trans ?_ (by assumption)); exact hr; exact rfl; exact f1; exact rfl) | (apply G1_loadFld (e := eCall) (q := i) (off := 3); exact T.p3; exact rfl; exact hC2.sl.ext (by repeat first | assumption | exact Ext.rfl' | apply Ext.drew | apply Ext.alloc | refine Ext.trans ?_ (by assumption)); exact hr; exact rfl; exact f3; exact rfl) | (apply G1_call (f := 62); exact rfl; exact rfl; exact rfl; exact hnm _ (by repeat first | assumption | exact Ext.rfl' | apply Ext.drew | apply Ext.alloc | refine Ext.trans ?_ (by assumption)); rintro _ w3 ⟨rfl, hx3⟩; refine ⟨(by first | exact .inl rfl | exact .inr (by assumption)), ?_⟩) | (apply G1_seT; exact rfl; exact rfl; (first | exact c1); exact rfl) | (apply G1_len; exact T.s32; exact rfl; exact rfl) | ((first | apply G1_lss | apply G1_gtr); exact rfl; exact rfl; exact rfl) | (apply G1_fieldAddr; (first | exact T.f53_1 | exact T.f31_0 | exact T.f31_2); exact rfl; exact rfl) | (apply G1_eql; exact rfl; exact rfl; exact rfl) | (apply G1_pick_t; exact rfl; exact rfl; exact rfl) | (apply G1_pick_f; exact rfl; exact rfl; exact rfl) | (apply G1_add; exact rfl; exact rfl; omega; omega; exact rfl)) | apply G_nil | apply Post_next | apply W_seq | apply W_region | (apply W_cond_false; exact rfl) | (apply W_cond_dec; exact rfl; all_goals (intro h; try (exfalso; omega))) | (apply G_off; exact rfl; exact rfl) | ((fail_if_success (apply G_on; exact rfl)); apply G_split_dec; exact rfl; exact rfl; all_goals (intro h; try (exfalso; omega))) | apply W_skip | apply W_block | apply Post_block_normal)
      all_goals try (exfalso; first | omega | exact hc ⟨c1, by omega, by omega⟩)
      all_goals
        exact Post_round (i + 1, q, e) ⟨rfl, by rw [hsn]; rfl, rfl, trivial⟩ ⟨(by repeat first | assumption | exact Ext.rfl' | apply Ext.drew | apply Ext.alloc | refine Ext.trans ?_ (by assumption)), hlt, by simp only; rw [hsn]; omega, by simp only; rw [hsn]; exact hO.ext (by repeat first | assumption | exact Ext.rfl' | apply Ext.drew | apply Ext.alloc | refine Ext.trans ?_ (by assumption))⟩ (by simp only; omega)
  · rw [stepM_no (fun h => c1 h.1)] at hsn
    repeat' (first | (apply G_on; exact rfl; first | ((first | apply G1_assign | apply G1_move); exact rfl; exact rfl) | (apply G1_indexAddrJ (q := i); exact T.s32; exact rfl; exact rfl; exact rfl; exact hok; exact hlt; exact rfl) | (apply G1_loadEl (e := eCall) (q := i); exact T.a53; exact rfl; exact hC2.sl.ext (by repeat first | assumption | exact Ext.rfl' | apply Ext.drew | apply Ext.alloc | refine Ext.trans ?_ (by assumption)); exact hr; exact rfl; exact rfl) | (apply G1_call (f := 62); exact rfl; exact rfl; exact rfl; exact hnm _ (by repeat first | assumption | exact Ext.rfl' | apply Ext.drew | apply Ext.alloc | refine Ext.trans ?_ (by assumption)); rintro _ w3 ⟨rfl, hx3⟩; refine ⟨(by first | exact .inl rfl | exact .inr (by assumption)), ?_⟩) | (apply G1_seF; exact rfl; exact rfl; (first | exact c1); exact rfl) | (apply G1_len; exact T.s32; exact rfl; exact rfl) | (apply G1_lss; exact rfl; exact rfl; exact rfl) | (apply G1_pick_f; exact rfl; exact rfl; exact rfl) | (apply G1_add; exact rfl; exact rfl; omega; omega; exact rfl)) | apply G_nil | apply Post_next | apply W_seq | apply W_region | (apply W_cond_false; exact rfl) | (apply W_cond_dec; exact rfl; all_goals (intro h; try (exfalso; omega))) | (apply G_off; exact rfl; exact rfl) | apply W_skip | apply W_block | apply Post_block_normal)
    all_goals try (exfalso; omega)
    all_goals
      exact Post_round (i + 1, q, e) ⟨rfl, by rw [hsn]; rfl, rfl, trivial⟩ ⟨(by repeat first | assumption | exact Ext.rfl' | apply Ext.drew | apply Ext.alloc | refine Ext.trans ?_ (by assumption)), hlt, by simp only; rw [hsn]; omega, by simp only; rw [hsn]; exact hO.ext (by repeat first | assumption | exact Ext.rfl' | apply Ext.drew | apply Ext.alloc | refine Ext.trans ?_ (by assumption))⟩ (by simp only; omega)
theorem tells_spec {p : Option Addr} {d : Nat} {rs : List RawC} {cs : List CallD} {w : World} (hC : CallsAt w.heap p d rs cs) (hl : cs.length ≤ 1000000) :
    Ctr Tryz.prog 12 [.slice p rs.length d] w (fun v w' => v = .bool true ∧ Ext w w') := by
  have h1 := fun w' (hx : Ext w w') => open_spec (hC.ext hx)
  have h2 := fun w' (hx : Ext w w') => ropen_spec (hC.ext hx)
  have h3 := fun w' (hx : Ext w w') => count_spec (hC.ext hx) hl
  have h4 := fun w' (hx : Ext w w') => rcount_spec (hC.ext hx) hl
  have h5 := fun w' (hx : Ext w w') => commits_spec (hC.ext hx) hl
  have h6 := fun w' (hx : Ext w w') => rcommits_spec (hC.ext hx) hl
  obtain ⟨o, ho⟩ : ∃ o, cs.foldl stepO (false, false) = o := ⟨_, rfl⟩
  obtain ⟨m, hm⟩ : ∃ m, cs.foldl stepN (0, 0) = m := ⟨_, rfl⟩
  obtain ⟨l, hl'⟩ : ∃ l, cs.foldl stepM [] = l := ⟨_, rfl⟩
  rw [ho] at h1 h2
  rw [hm] at h3 h4
  rw [hl'] at h5 h6
  obtain ⟨o1, o2⟩ := o
  obtain ⟨m1, m2⟩ := m
  simp only at h1 h2 h3 h4
  refine Ctr_of Tryz.func12 Tryz.ntmps12 rfl rfl rfl ?_
  repeat' (first | (apply G_on; exact rfl; first | ((first | apply G1_assign | apply G1_move); exact rfl; exact rfl) | (apply G1_call (f := 21); exact rfl; exact rfl; exact rfl; exact h1 _ (by repeat first | assumption | exact Ext.rfl' | apply Ext.drew | apply Ext.alloc | refine Ext.trans ?_ (by assumption)); rintro _ w1 ⟨rfl, hx1⟩; refine ⟨(by first | exact .inl rfl | exact .inr (by assumption)), ?_⟩) | (apply G1_call (f := 22); exact rfl; exact rfl; exact rfl; exact h2 _ (by repeat first | assumption | exact Ext.rfl' | apply Ext.drew | apply Ext.alloc | refine Ext.trans ?_ (by assumption)); rintro _ w2 ⟨rfl, hx2⟩; refine ⟨(by first | exact .inl rfl | exact .inr (by assumption)), ?_⟩) | (apply G1_call (f := 23); exact rfl; exact rfl; exact rfl; exact h3 _ (by repeat first | assumption | exact Ext.rfl' | apply Ext.drew | apply Ext.alloc | refine Ext.trans ?_ (by assumption)); rintro _ w3 ⟨rfl, hx3⟩; refine ⟨(by first | exact .inl rfl | exact .inr (by assumption)), ?_⟩) | (apply G1_call (f := 24); exact rfl; exact rfl; exact rfl; exact h4 _ (by repeat first | assumption | exact Ext.rfl' | apply Ext.drew | apply Ext.alloc | refine Ext.trans ?_ (by assumption)); rintro _ w4 ⟨rfl, hx4⟩; refine ⟨(by first | exact .inl rfl | exact .inr (by assumption)), ?_⟩) | (apply G1_eql; exact rfl; exact rfl; exact rfl) | (apply G1_beqT (t := 4); exact Tryz.underlying4; exact rfl; exact rfl; exact rfl; exact rfl) | (apply G1_call (f := 26); exact rfl; exact rfl; exact rfl; exact h5 _ (by repeat first | assumption | exact Ext.rfl' | apply Ext.drew | apply Ext.alloc | refine Ext.trans ?_ (by assumption)); rintro _ w5 ⟨q5, e5, rfl, hs5, hx5⟩; refine ⟨.inl rfl, ?_⟩) | (apply G1_call (f := 27); exact rfl; exact rfl; exact rfl; exact h6 _ (by repeat first | assumption | exact Ext.rfl' | apply Ext.drew | apply Ext.alloc | refine Ext.trans ?_ (by assumption)); rintro _ w6 ⟨q6, e6, rfl, hs6, hx6⟩; refine ⟨.inl rfl, ?_⟩) | (apply G1_extract; exact rfl; exact rfl; exact rfl) | (apply G1_pick_t; exact rfl; exact rfl; exact rfl)) | apply G_nil | apply Post_next | apply W_seq | apply W_region | ((fail_if_success (apply G_on; exact rfl)); apply G_split_dec; exact rfl; exact rfl; all_goals (intro h; try (exfalso; omega))))
  all_goals try (exfalso; first | omega | exact absurd rfl (by assumption))
  have hi := ints11_eq (hs5.ext hx6) hs6
  simp only [decide_true] at hi
  apply G_on; exact rfl; apply G1_call (f := 25); exact rfl; exact rfl; exact rfl; exact hi; rintro _ w7 ⟨rfl, hx7⟩; refine ⟨.inl rfl, ?_⟩
  repeat' (first | (apply G_on; exact rfl; first | (apply G1_assign; exact rfl; exact rfl) | (apply G1_pick_t; exact rfl; exact rfl; exact rfl)) | apply G_nil | apply Post_next | apply W_ret)
  refine Post_ret Tryz.results12 ⟨_, _, rfl, rfl, rfl⟩ ?_
  exact ⟨rfl, (by repeat first | assumption | exact Ext.rfl' | apply Ext.drew | apply Ext.alloc | refine Ext.trans ?_ (by assumption))⟩
end Go.Proofs.YtipbakiecocioaaGreatDoor

/- Rules for shifts and bits; slices with three bounds. -/
namespace Go.V
open Go.RowKit
theorem or_low (x : Int) (c : Nat) (hc : c < 256) (h : ∃ q, x = 256 * q) : IntKind.i64.wrap ((BitVec.ofInt IntKind.i64.bits x ||| BitVec.ofInt IntKind.i64.bits (c : Int)).toNat : Int) = IntKind.i64.wrap (x + c) := by
  obtain ⟨q, rfl⟩ := h
  have hb : IntKind.i64.bits = 64 := rfl
  rw [hb, BitVec.toNat_or]
  have e1 : (BitVec.ofInt 64 (256 * q)).toNat = 2 ^ 8 * ((q % 72057594037927936).toNat) := by
    rw [BitVec.toNat_ofInt]
    have : (256 * q) % ((2 ^ 64 : Nat) : Int) = 256 * (q % 72057594037927936) := by
      have e : ((2 ^ 64 : Nat) : Int) = 18446744073709551616 := by decide
      rw [e]; omega
    rw [this]; omega
  have e2 : (BitVec.ofInt 64 (c : Int)).toNat = c := by
    rw [BitVec.toNat_ofInt]
    have e : ((2 ^ 64 : Nat) : Int) = 18446744073709551616 := by decide
    rw [e]; omega
  rw [e1, e2, ← Nat.two_pow_add_eq_or_of_lt (by omega)]
  have e3 : ((2 ^ 8 * (q % 72057594037927936).toNat + c : Nat) : Int) = 256 * (q % 72057594037927936) + c := by omega
  rw [e3]
  simp only [IntKind.wrap_i64]
  omega
section
variable {P : Program} {n : Nat} {ops : Array Oper} {dr : Nat × List Nat} {dq : Nat} {l : List Oper} {E : Env} {w : World} {K : Env → World → Prop}
variable {d : Option Nat} {ty : TypeId} {pos : String} {af : Array Edge} {g : Option (Nat × Bool)} {x y z m : Operand} {k k' k2 : IntKind} {i j i2 : Int} {t t' u sz by_ : Nat} {p : Option Addr} {c len : Nat}
theorem G1_orLow {b : Nat} (hx : E.look x = some (.int .i64 i)) (hy : E.look y = some (.int .i64 (b : Int))) (hb : b < 256) (hq : ∃ q, i = 256 * q) (hd : dstOk n d = true)
    (h : G P n ops dr l (E.put d (.int .i64 (IntKind.i64.wrap (i + b)))) w K) : G1 P n ops dr ⟨d, .binOp .or t x y t', ty, pos, af, g⟩ l E w K :=
  G1_quiet _ hd (fun a ha w' _ => by
    have e : Op.intBits .or .i64 i (b : Int) = pure (.int .i64 (IntKind.i64.wrap (i + b))) := by
      show (pure (Value.int .i64 (IntKind.i64.wrap _)) : Sem Value) = _
      rw [or_low i b hb hq]
    simp [execOp, ha.eval hx, ha.eval hy, eqGuard, binOp, e]) h
theorem G1_loadBAggS {b t2 : Nat} {cs : List Value} (hu : AggT P t sz) (hx : E.look x = some (.pointer (some (adr (bx b) 0)))) (hb : Blk w.heap b t2 cs) (hl : cs.length = sz) (hS : exempt dr.2 b = false) (hd : dstOk n d = true)
    (h : G P n ops dr l (E.put d (.agg cs.toArray)) w K) : G1 P n ops dr ⟨d, .load t x, ty, pos, af, g⟩ l E w K :=
  G1_quiet _ hd (fun a ha w' hw => by
    have hw' : ExtS dr.2 w w' := by
      rcases hw with hw | hw
      · simp [readsM] at hw
      · exact hw
    have hb' : Blk w'.heap b t2 cs := by
      have := hw'.block b hb.lt hS
      unfold Blk at *
      rw [this]; exact hb
    simp [execOp, Instr.loadAt, ha.eval hx, Instr.sureAddr, run_loadVar_box hu hb' hl]) h
theorem G1_slice3 {q r : Nat} (hu : SliceT P t u sz by_) (hx : E.look x = some (.slice p len c)) (hy : E.look y = some (.int k i)) (hz : E.look z = some (.int k' j)) (hm : E.look m = some (.int k2 i2)) (e1 : i = q) (e2 : j = r) (e3 : i2 = r) (h1 : q ≤ r) (h2 : r ≤ c) (hd : dstOk n d = true)
    (h : G P n ops dr l (E.put d (.slice (subp p r q sz) (r - q) (r - q))) w K) : G1 P n ops dr ⟨d, .slice t x (some y) (some z) (some m), ty, pos, af, g⟩ l E w K :=
  G1_quiet _ hd (fun a ha w' _ => by
    subst e1 e2 e3
    have a1 : (0 : Int) ≤ r ∧ (r : Int) ≤ c := by omega
    have a2 : (0 : Int) ≤ q ∧ (q : Int) ≤ r := by omega
    have hsz := run_sizeOf_T hu w'
    simp [execOp, Instr.sliceAt, Instr.slice, Instr.sliceBounds, Instr.sliceBound, asIntOf, ha.eval hx, ha.eval hy, ha.eval hz, ha.eval hm, run_underlying (P := P) hu.1, a1, a2, hsz, subp, h1]
    intro hh; omega) h
end
theorem Sl.shrink {α : Type} {e : Enc α} {H : Array Obj} {p : Option Addr} {c r : Nat} {xs : List α} (h : Sl H e p c xs) (hr : r ≤ xs.length) : Sl H e p r (xs.take r) := by
  have h1 := h.ok.le
  refine ⟨⟨by simp; omega, Nat.le_trans (by omega) h.ok.cap, fun hn => by have := h.ok.nul hn; omega, fun a ha h0 => h.ok.spot a ha (by omega)⟩, (h.take r).cell⟩
end Go.V
