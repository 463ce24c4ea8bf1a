/- Texts of this proof laid together: AudMake2, Awake30, LAuditSerial. -/
import Derived.Test.YtipbakiecocioaaGreatDoorVM5
/- Audit: a wire's calls; the walks. -/

namespace Go.V
section
variable {P : Program} {n : Nat} {E : Env} {w : World} {Q : Exit → Act → World → Prop}
theorem W_cutRI {ι : Type} {id : Nat} {l : Array Oper} {b : Bool} {y : Code} (E0 : ι → Env) (J : ι → World → Prop) (h1 : W P n (.region id l b) (fun e a w' => e = .normal ∧ ∃ i, Holds n (E0 i) a ∧ J i w') E w) (h2 : ∀ i w', J i w' → W P n y Q (E0 i) w') : W P n (.seq (.region id l b) y) Q E w := by
  unfold W at *
  exact fun a ha => wp_seq (wp_mono (h1 a ha) (fun e a w' ⟨he, i, hh, hj⟩ => by subst he; exact h2 i w' hj a hh))
end
end Go.V
namespace Go.Proofs.YtipbakiecocioaaGreatDoor
open Go.V
attribute [local irreducible] Blk Own hcell IntT SliceT PlainT AggT SizeT StrT FieldT ZeroT EqT ArrT
def wireV (life : Int) (p1 : Option Addr) (n1 c1 : Nat) (p2 : Option Addr) (n2 c2 : Nat) (over : Bool) : Value := .agg #[.int .i64 life, .slice p1 n1 c1, .slice p2 n2 c2, .bool over]
set_option maxHeartbeats 4000000 in
theorem calls_spec {life : Int} {over : Bool} {p1 p2 : Option Addr} {c1 c2 : Nat} {inp out : List UInt8} {w : World} (hI : Sl w.heap eByte p1 c1 inp) (hO : Sl w.heap eByte p2 c2 out) (hb1 : inp.length ≤ 1000000) (hb2 : out.length ≤ 1000000) (hU : Utf w) (hT : Pow w) (hE : Errs w) :
    Ctr Tryz.prog 9 [wireV life p1 inp.length c1 p2 out.length c2 over] w (fun v w' => ∃ q d rs, v = .slice q rs.length d ∧ CallsAt w'.heap q d rs (callsP (runP rs0 inp).out (repsP out).1) ∧ Ext w w') := by
  refine Ctr_of Tryz.func9 Tryz.ntmps9 rfl rfl rfl ?_
  repeat' (first | apply W_seq | apply W_region)
  apply G_on; exact rfl; apply G1_box; exact rfl; exact rfl; exact rfl; intro a1 w1 ha1 hA1 hx1 hs1
  replace hA1 : Blk w1.heap a1 24 [.int .i64 life, .slice p1 inp.length c1, .slice p2 out.length c2, .bool over] := hA1
  have hex : exempt [w1.heap.size, w1.heap.size] a1 = false := by
    have h1 : Nat.ble w1.heap.size a1 = false := by
      cases h : Nat.ble w1.heap.size a1 with
      | false => rfl
      | true => have := Nat.le_of_ble_eq_true h; omega
    unfold exempt
    show (List.contains [w1.heap.size, w1.heap.size] a1 || Nat.ble w1.heap.size a1) = false
    rw [h1, Bool.or_false]
    simp
    omega
  repeat' (first | (refine W_cutRI (id := 1) (ι := Option Addr × Nat × List Hdr) (fun y => [(1, .pointer (some (adr (bx a1) 0))), (3, .slice y.1 y.2.2.length y.2.1)]) (fun y w' => Ext w1 w' ∧ Own w' w1.heap.size 37 eSlc y.1 y.2.1 y.2.2 ∧ ∃ X, WordsAt w'.heap X y.2.2 (runP rs0 inp).out) ?_ ?_) | (apply G_on; exact rfl; (apply G1_assign; exact rfl; exact rfl)) | apply G_nil | apply Post_next)
  · refine W_drawnT 1 [w1.heap.size, w1.heap.size] (.node [1,2] (.alt 0 (.leaf [3,4,5,6,7,8,9]) (.alt 3 (.leaf [0,4,5,6,7,8,9]) .stop))) mixed (by decide +kernel) ?_
    repeat' (first | (apply G_on; exact rfl; first | (apply G1_loadBS; exact T.p22; exact rfl; exact hA1.ext (by repeat first | assumption | exact Ext.rfl' | apply Ext.drew | apply Ext.alloc | refine Ext.trans ?_ (by assumption)); exact rfl; exact hex; exact rfl) | (apply G1_fieldAddr; exact T.f24_1; exact rfl; exact rfl)) | apply G_nil | (refine GT_node ?_) | (apply GT_alt) | (exact GT_stop))
    · obtain ⟨wb, hwb⟩ : ∃ wb, wb = w1.drew := ⟨_, rfl⟩
      have hx1b : Ext w1 wb := by rw [hwb]; exact Ext.drew Ext.rfl'
      apply G_on; exact rfl; apply G1_call (f := 17); exact rfl; exact rfl; exact rfl; exact new_spec; rintro _ w2 ⟨hx2, ar, rfl, hR2⟩; refine ⟨.inr hx2, ?_⟩
      rw [← hwb] at hx2 hR2
      have har := hR2.h0
      have hz1b := hx1b.size
      have hz1 := hx1.size
      repeat' (first | apply G_nil | (refine GT_leaf ?_))
      apply G_on; exact rfl
      apply G1_build1 eSlc (p1, inp.length, c1); exact T.s110; exact rfl; exact rfl; exact rfl; decide; exact rfl; exact rfl
      intro p3 w3 hp3 hs3 _ hx3 hz3
      have hsz4 : w1.heap.size ≤ w3.heap.size := by have := hx2.size; have := hx3.size; omega
      have hfd := feed_spec (hR2.xt hx3) (ks := [(p1, inp.length, c1)]) (parts := [inp]) hs3 (fun x hx' _ => by rw [hp3] at hx'; injection hx' with hx'; rw [← hx']; exact rd_apart hR2 (Nat.le_refl _)) (parts_one (hI.ext ((hx1.trans hx1b).trans (hx2.trans hx3))) (fun x hx' hne e => by
        rcases e with e | e
        · exact hI.ne (b := ar) (by omega) x hx' hne (by rw [e])
        · cases e)) (by simp; omega) (Nat.zero_le _) (TabIs.ext hT (hx1.trans hx1b)) (hE.ext (hx1.trans hx1b)) good0
      have hfl : [] ++ [inp].flatten = inp := by simp
      rw [hfl] at hfd
      skip
      apply G_on; exact rfl; apply G1_callS (f := 18); exact rfl; exact rfl; exact rfl; exact hfd; intro v w4 hv; refine ⟨.inr (frs_toS2 hv.fr (by omega)), ?_⟩
      obtain ⟨hf4, pd, cd, hs, p', c', pw', cw', rfl, hO4, hC4, _, _, hok4, hbad4⟩ := hv
      have hxb : Ext wb w4 := by
        by_cases e : (runP rs0 inp).err = 0
        · exact (hok4 e).ext
        · exact (hbad4 e).ext
      repeat' (first | (apply G_on; exact rfl; first | ((first | apply G1_assign | apply G1_move); exact rfl; exact rfl) | (apply G1_extract; exact rfl; exact rfl; exact rfl)) | apply G_nil)
      exact Post_cutI (pd, cd, hs) ⟨rfl, rfl, trivial⟩ ⟨hx1b.trans hxb, hO4.base hsz4, _, hC4⟩
    · apply G_on; exact rfl
      apply G1_build1 eSlc (p1, inp.length, c1); exact T.s110; exact rfl; exact rfl; exact rfl; decide; exact rfl; exact rfl
      intro p3 wb hp3 hs3 _ hx3 hz3
      have hx1b : Ext w1 wb := (Ext.drew Ext.rfl').trans hx3
      repeat' (first | apply G_nil | (refine GT_leaf ?_))
      apply G_on; exact rfl; apply G1_call (f := 17); exact rfl; exact rfl; exact rfl; exact new_spec; rintro _ w3 ⟨hx2, ar, rfl, hR2⟩; refine ⟨.inr hx2, ?_⟩
      have har := hR2.h0
      have hz1b := hx1b.size
      have hz1 := hx1.size
      have hsz4 : w1.heap.size ≤ w3.heap.size := by have := hx2.size; omega
      have hfd := feed_spec hR2 (ks := [(p1, inp.length, c1)]) (parts := [inp]) (hs3.ext hx2) (fun x hx' _ e => by
        rw [hp3] at hx'
        injection hx' with hx'
        rcases e with e | e
        · rw [← hx'] at e
          have h1 : w1.drew.heap.size < wb.heap.size := by omega
          simp only at e
          omega
        · cases e) (parts_one (hI.ext ((hx1.trans hx1b).trans hx2)) (fun x hx' hne e => by
        rcases e with e | e
        · exact hI.ne (b := ar) (by omega) x hx' hne (by rw [e])
        · cases e)) (by simp; omega) (Nat.zero_le _) (TabIs.ext hT (hx1.trans hx1b)) (hE.ext (hx1.trans hx1b)) good0
      have hfl : [] ++ [inp].flatten = inp := by simp
      rw [hfl] at hfd
      skip
      apply G_on; exact rfl; apply G1_callS (f := 18); exact rfl; exact rfl; exact rfl; exact hfd; intro v w4 hv; refine ⟨.inr (frs_toS2 hv.fr (by omega)), ?_⟩
      obtain ⟨hf4, pd, cd, hs, p', c', pw', cw', rfl, hO4, hC4, _, _, hok4, hbad4⟩ := hv
      have hxb : Ext wb w4 := by
        by_cases e : (runP rs0 inp).err = 0
        · exact (hok4 e).ext
        · exact (hbad4 e).ext
      repeat' (first | (apply G_on; exact rfl; first | ((first | apply G1_assign | apply G1_move); exact rfl; exact rfl) | (apply G1_extract; exact rfl; exact rfl; exact rfl)) | apply G_nil)
      exact Post_cutI (pd, cd, hs) ⟨rfl, rfl, trivial⟩ ⟨hx1b.trans hxb, hO4.base hsz4, _, hC4⟩
  rintro ⟨pd, cd, hs⟩ w5 ⟨hx5, hO5, X, hW5⟩
  simp only at hO5 hW5
  refine W_keep [(1, .pointer (some (adr (bx a1) 0))), (3, .slice pd hs.length cd)] ⟨rfl, rfl, trivial⟩ ?_
  have hA5 := hA1.ext hx5
  have hx05 := hx1.trans hx5
  have hrp := replies_spec (hO.ext hx05) hb2 (hU.ext hx05) (TabIs.ext hT hx05) (hE.ext hx05)
  repeat' (first | (apply G_on; exact rfl; first | (apply G1_fieldAddr; exact T.f24_2; exact rfl; exact rfl) | (apply G1_loadB; exact T.p22; exact rfl; assumption; exact rfl; exact rfl)) | apply W_seq | apply W_region)
  apply G_on; exact rfl; apply G1_call (f := 6); exact rfl; exact rfl; exact rfl; exact hrp; rintro _ w6 ⟨q6, d6, rs, rfl, hN6, hrl⟩; refine ⟨.inl rfl, ?_⟩
  obtain ⟨cmds, hcm⟩ : ∃ cmds, (runP rs0 inp).out = cmds := ⟨_, rfl⟩
  obtain ⟨ts, hts⟩ : ∃ ts, (repsP out).1 = ts := ⟨_, rfl⟩
  have hsmall := run_small _ (r := rs0) (cs := inp) (B := 1000000000) (Nat.lt_succ_self _) (by simp [rs0]) (by omega)
  have hgd := (run_good _ (r := rs0) (cs := inp) (Nat.lt_succ_self _) good0).2.2.2.1
  rw [hcm] at hW5 hsmall hgd
  rw [hts] at hN6
  rw [hcm, hts]
  have hhl := hW5.shown.len
  have hrl2 := hN6.len
  have hx6 := hN6.ext
  have hA6 := hA5.ext hx6
  have hO6 := hO5.ext hx6
  have hW6 := hW5.ext hx6
  have hgeO := hO5.ge
  obtain ⟨ls, hls⟩ : ∃ ls, (if cmds.length < ts.length then cmds ++ [[]] else cmds) = ls := ⟨_, rfl⟩
  have hlsl : ls.length = callN cmds ts := by
    rw [← hls]; unfold callN; split <;> simp
  have hlsg : ∀ i, ls.getD i [] = cmds.getD i [] := fun i => by
    rw [← hls]
    split
    · by_cases h : i < cmds.length
      · rw [List.getD_eq_getElem?_getD, List.getElem?_append_left h, ← List.getD_eq_getElem?_getD]
      · rw [List.getD_eq_getElem?_getD, List.getD_eq_getElem?_getD, List.getElem?_append_right (Nat.le_of_not_lt h), List.getElem?_eq_none (l := cmds) (Nat.le_of_not_lt h)]
        cases i - cmds.length with
        | zero => rfl
        | succ k => rfl
    · rfl
  have hlss : ∀ l ∈ ls, ∀ x ∈ l, x.size ≤ 1000000000 := fun l hl => by
    rw [← hls] at hl
    split at hl
    · rcases List.mem_append.1 hl with hl | hl
      · exact hsmall l hl
      · rw [List.mem_singleton.1 hl]; simp
    · exact hsmall l hl
  have hcn : callN cmds ts ≤ 1000001 := by unfold callN; split <;> omega
  repeat' (first | (refine W_cutC (c := .tmp 29) (ι := Option Addr × Nat × List Hdr) (fun y => [(3, .slice y.1 y.2.2.length y.2.1), (5, .slice q6 rs.length d6)]) (fun y w' => Ext w1 w' ∧ CmdsAt w'.heap y.2.2 ls ∧ Sl w'.heap eSlc y.1 y.2.1 y.2.2 ∧ Sl w'.heap eRep q6 d6 rs ∧ ∀ (i : Nat) r t, rs[i]? = some r → ts[i]? = some t → RepAt w'.heap 5 r t) ?_ ?_) | (apply G_on; exact rfl; first | ((first | apply G1_assign | apply G1_move); exact rfl; exact rfl) | ((first | apply G1_extract | apply G1_gtr); exact rfl; exact rfl; exact rfl) | (apply G1_len; (first | exact T.s26 | exact T.s58); exact rfl; exact rfl)) | apply G_nil | apply Post_next | apply W_seq | apply W_region | (apply W_cond_dec; exact rfl; all_goals (intro h; try (exfalso; omega))) | apply W_skip)
  · have hlt2 : cmds.length < ts.length := by omega
    rw [if_pos hlt2] at hls
    apply G_on; exact rfl
    apply G1_build1 eSlc (none, 0, 0); exact T.s58; exact rfl; exact rfl; exact rfl; decide; exact rfl; exact rfl
    intro p7 w7 hp7 hs7 _ hx7 hz7
    have hz1 : w1.heap.size ≤ w7.heap.size := by have := hx5.size; have := hx6.size; have := hx7.size; omega
    repeat' (first | (apply G_on; exact rfl; first | (apply G1_assign; exact rfl; exact rfl) | (apply G1_appendA; exact T.s58; exact rfl; exact rfl; exact hO6.ext hx7; exact hs7; exact rfl; exact hz1; (simp only [List.length_cons, List.length_nil]; omega); (simp only [List.length_cons, List.length_nil]; omega); exact rfl; exact rfl; exact rfl; intro p8 c8 w8 ha8)) | apply G_nil)
    have hf8 : FrS (fun k => blk pd = some k) w7 w8 := FrS.of_grown ha8.grown (fun k hk => hk)
    have hN7 := hN6.xt hx7
    refine Post_cutI (p8, c8, hs ++ [(none, 0, 0)]) ⟨rfl, rfl, trivial⟩ ⟨((hx5.trans hx6).trans hx7).app ha8 (fun k hk => (hgeO k hk).1), ?_, ha8.own.sl, (hN7.own.fr hf8 (fun k hk e => blk_apart hN7.own (hO6.ext hx7) (by decide) hk e)).sl, fun i r t hr ht => ?_⟩
    · rw [← hls]
      exact CmdsAt.snoc (l := []) ((hW6.ext hx7).fr hf8 (X' := fun _ => False) (fun k _ hs _ => ⟨fun e => own_noStr (hO6.ext hx7) (by decide) e hs, id⟩)).shown Sl.nil
    · refine ((hN7.at_ i r t hr ht).hide (S' := fun _ => False) (H' := w8.heap) (fun b hb hl => ⟨id, hf8.block b hl (fun e => hb (.inl (hgeO b e).2))⟩)).shown
  · have hlt2 : ¬ cmds.length < ts.length := by omega
    rw [if_neg hlt2] at hls
    exact Post_cutI (pd, cd, hs) ⟨rfl, rfl, trivial⟩ ⟨hx5.trans hx6, by rw [← hls]; exact hW6.shown, hO6.sl, hN6.own.sl, fun i r t hr ht => (hN6.at_ i r t hr ht).shown⟩
  clear hls hW6 hO6 hO5 hW5 hN6 hA6 hA5
  rintro ⟨pe, ce, hz⟩ w7 ⟨hx7, hC7, hS7, hR7, hT7⟩
  simp only at hC7 hS7
  refine W_keep [(3, .slice pe hz.length ce), (5, .slice q6 rs.length d6)] ⟨rfl, rfl, trivial⟩ ?_
  have hzl := hC7.len
  have hokS := hS7.ok
  have hokR := hR7.ok
  repeat' (first | (apply G_on; exact rfl; first | (apply G1_move; exact rfl; exact rfl) | (apply G1_len; exact T.s58; exact rfl; exact rfl)) | apply W_seq | apply W_region)
  apply G_on; exact rfl
  apply G1_make0 eCall; exact T.s32; exact rfl; exact rfl; exact rfl; omega; omega; omega; exact rfl; exact rfl
  intro p8 w8 hO8 hx8 hs8
  repeat' (first | (apply G_on; exact rfl; first | ((first | apply G1_assign | apply G1_move); exact rfl; exact rfl) | (apply G1_len; exact T.s58; exact rfl; exact rfl)) | apply G_nil | apply Post_next | apply W_seq | apply W_region | apply W_block)
  have hx07 := hx1.trans hx7
  refine W_loop (ι := Nat × Option Addr × Nat × List RawC) (fun y => [(5, .slice q6 rs.length d6), (7, .slice y.2.1 y.2.2.2.length y.2.2.1), (36, .slice pe hz.length ce), (37, .int .i64 (hz.length : Int)), (38, .int .i64 (y.1 : Int))])
    (fun y w' => y.1 ≤ hz.length ∧ MakeI w7 w' y.2.1 y.2.2.1 y.2.2.2 cmds ts y.1) (fun y => hz.length - y.1) (0, p8, hz.length, []) ⟨rfl, by simp; rfl, rfl, rfl, rfl, trivial⟩
    ⟨Nat.zero_le _, ⟨by first | exact hx8 | exact hx8.trans (by repeat first | assumption | exact Ext.rfl' | apply Ext.drew | apply Ext.alloc | refine Ext.trans ?_ (by assumption)), by first | exact hO8 | exact hO8.ext (by repeat first | assumption | exact Ext.rfl' | apply Ext.drew | apply Ext.alloc | refine Ext.trans ?_ (by assumption)), rfl, fun j r hj => by simp at hj⟩⟩ ?_
  rintro ⟨i, pc, cc, rcs⟩ w9 ⟨hi, hM⟩
  simp only at hi hM
  refine W_keep [(5, .slice q6 rs.length d6), (7, .slice pc rcs.length cc), (36, .slice pe hz.length ce), (37, .int .i64 (hz.length : Int)), (38, .int .i64 (i : Int))] ⟨rfl, rfl, rfl, rfl, rfl, trivial⟩ ?_
  have hx79 := hM.ext
  have hml := hM.len
  by_cases hlt : i < hz.length
  rotate_left
  · have hin : i = callN cmds ts := by omega
    rw [hin] at hM
    repeat' (first | (apply G_on; exact rfl; first | ((first | apply G1_assign | apply G1_move); exact rfl; exact rfl) | (apply G1_lss; exact rfl; exact rfl; exact rfl)) | apply G_nil | apply Post_next | apply W_seq | apply W_region | (apply W_cond_dec; exact rfl; all_goals (intro h; try (exfalso; omega))) | apply W_exit | apply W_ret | apply Post_then_exit | apply Post_block_exit)
    all_goals try (exfalso; omega)
    refine Post_ret Tryz.results9 ⟨_, _, rfl, rfl, rfl⟩ ?_
    exact ⟨pc, cc, rcs, rfl, (hM.xt (by repeat first | assumption | exact Ext.rfl' | apply Ext.drew | apply Ext.alloc | refine Ext.trans ?_ (by assumption))).done, (hx07.trans hx79).trans (by repeat first | assumption | exact Ext.rfl' | apply Ext.drew | apply Ext.alloc | refine Ext.trans ?_ (by assumption))⟩
  obtain ⟨⟨q1, u1, d1⟩, hq1⟩ := get_some hlt
  obtain ⟨l, hl⟩ := get_some (xs := ls) (k := i) (by omega)
  obtain ⟨e1, hSl⟩ := hC7.get i _ l hq1 hl
  simp only at e1 hSl
  have hgi : cmds.getD i [] = l := by rw [← hlsg, getD_some hl]
  have hS9 := hS7.ext hx79
  have hR9 := hR7.ext hx79
  repeat' (first | (apply G_on; exact rfl; first | ((first | apply G1_assign | apply G1_move); exact rfl; exact rfl) | (apply G1_indexAddrJ (q := i); exact T.s58; exact rfl; exact rfl; exact rfl; exact hokS; exact hlt; exact rfl) | (apply G1_loadEl1 (q := i) (e := eSlc) (v := .slice q1 u1 d1); exact T.p37; exact rfl; exact hS9.ext (by repeat first | assumption | exact Ext.rfl' | apply Ext.drew | apply Ext.alloc | refine Ext.trans ?_ (by assumption)); exact hq1; exact rfl; exact rfl; exact rfl) | (apply G1_build (.agg (eCall.enc ⟨q1, u1, d1, zRep, false⟩).toArray); exact rfl; exact bldCall q1 u1 d1; exact rfl) | (apply G1_lss; exact rfl; exact rfl; exact rfl)) | apply G_nil | apply Post_next | apply W_seq | apply W_region | (apply W_cond_dec; exact rfl; all_goals (intro h; try (exfalso; omega))) | apply W_skip | apply W_block)
  all_goals try (exfalso; omega)
  apply G_on; exact rfl; apply G1_alloc; exact T.zero53; exact rfl; exact rfl; intro a10 w10 ha10 hA10 hx10 hs10
  skip
  apply G_on; exact rfl; apply G1_storeB; exact T.z53; exact rfl; exact rfl; exact hA10; exact rfl; exact rfl; (first | exact Nat.le_of_ble_eq_true rfl | (focus (simp [Value.cells]; done))); (first | exact Enc.one _ _ | (focus (simp [Value.oneCell']; done)) | (focus (simp [Value.cells, Value.oneCell']; done)) | exact Enc.oneAgg _ _); exact rfl; (first | exact .inl rfl | exact .inr (by simp [exempt])); exact rfl; intro w11 hA11 hg11 hs11
  replace hA11 : Blk w11.heap a10 53 (eCall.enc ⟨q1, u1, d1, zRep, false⟩) := hA11
  have hx911 : Ext w9 w11 := hx10.own hg11 (fun k hk => by injection hk with hk; omega)
  have hz79 := hx79.size
  have hge := hM.own.ge
  by_cases hir : i < rs.length
  · obtain ⟨r, hr⟩ := get_some hir
    obtain ⟨t, ht⟩ := get_some (xs := ts) (k := i) (by omega)
    have hrt := hT7 i r t hr ht
    repeat' (first | (apply G_on; exact rfl; first | (apply G1_move; exact rfl; exact rfl) | (apply G1_indexAddrJ (q := i); exact T.s26; exact rfl; exact rfl; exact rfl; exact hokR; exact hir; exact rfl) | (apply G1_loadEl (e := eRep) (q := i); exact T.a31; exact rfl; exact hR9.ext (by repeat first | assumption | exact Ext.rfl' | apply Ext.drew | apply Ext.alloc | refine Ext.trans ?_ (by assumption)); exact hr; exact rfl; exact rfl) | (apply G1_fieldAddr; exact T.f53_1; exact rfl; exact rfl) | (apply G1_lss; exact rfl; exact rfl; exact rfl) | (apply G1_len; exact T.s26; exact rfl; exact rfl)) | apply G_nil | apply Post_next | apply W_seq | apply W_region | (apply W_cond_dec; exact rfl; all_goals (intro h; try (exfalso; omega))))
    all_goals try (exfalso; omega)
    apply G_on; exact rfl; apply G1_storeB; exact T.z31; exact rfl; exact rfl; exact hA11; exact rfl; exact rfl; (first | exact Nat.le_of_ble_eq_true rfl | (focus (simp [Value.cells]; done))); (first | exact Enc.one _ _ | (focus (simp [Value.oneCell']; done)) | (focus (simp [Value.cells, Value.oneCell']; done)) | exact Enc.oneAgg _ _); exact rfl; (first | exact .inl rfl | exact .inr (by simp [exempt])); exact rfl; intro w12 hA12 hg12 hs12
    replace hA12 : Blk w12.heap a10 53 (eCall.enc ⟨q1, u1, d1, r, false⟩) := hA12
    repeat' (apply G_on; exact rfl; (apply G1_fieldAddr; exact T.f53_2; exact rfl; exact rfl))
    apply G_on; exact rfl; apply G1_storeB; exact T.z4; exact rfl; exact rfl; exact hA12; exact rfl; exact rfl; (first | exact Nat.le_of_ble_eq_true rfl | (focus (simp [Value.cells]; done))); (first | exact Enc.one _ _ | (focus (simp [Value.oneCell']; done)) | (focus (simp [Value.cells, Value.oneCell']; done)) | exact Enc.oneAgg _ _); exact rfl; (first | exact .inl rfl | exact .inr (by simp [exempt])); exact rfl; intro w13 hA13 hg13 hs13
    replace hA13 : Blk w13.heap a10 53 (eCall.enc ⟨q1, u1, d1, r, true⟩) := hA13
    have hx913 : Ext w9 w13 := (hx911.own hg12 (fun k hk => by injection hk with hk; omega)).own hg13 (fun k hk => by injection hk with hk; omega)
    have hcd : CallAt w7.heap ⟨q1, u1, d1, r, true⟩ (callP cmds ts i) := ⟨e1.trans (by show _ = (cmds.getD i []).length; rw [hgi]), (decide_eq_true (by omega)).symm, by show Sl w7.heap eStr q1 d1 (cmds.getD i []); rw [hgi]; exact hSl, fun x hx => hlss l (List.mem_of_getElem? hl) x (by rw [← hgi]; exact hx), by show RepAt w7.heap 5 r (ts.getD i zT); rw [getD_some ht]; exact hrt⟩
    repeat' (first | (apply G_on; exact rfl; first | (apply G1_move; exact rfl; exact rfl) | (apply G1_loadBAgg; exact T.a53; exact rfl; assumption; exact rfl; exact rfl)) | apply G_nil | apply Post_next | apply W_region)
    apply G_on; exact rfl
    apply G1_build1 eCall (⟨q1, u1, d1, r, true⟩ : RawC); exact T.s32; exact rfl; exact rfl; exact rfl; decide; exact rfl; exact rfl
    intro p14 w14 hp14 hs14 _ hx14 hz14
    have hx914 : Ext w9 w14 := hx913.trans hx14
    have hz914 := hx914.size
    repeat' (first | (apply G_on; exact rfl; first | ((first | apply G1_assign | apply G1_move); exact rfl; exact rfl) | (apply G1_appendA; exact T.s32; exact rfl; exact rfl; exact hM.own.ext hx914; exact hs14; exact rfl; omega; (simp only [List.length_cons, List.length_nil]; omega); (simp only [List.length_cons, List.length_nil]; omega); exact rfl; exact rfl; exact rfl; intro p15 c15 w15 ha15) | (apply G1_add; exact rfl; exact rfl; omega; omega; exact rfl)) | apply G_nil | apply Post_next | apply W_region | apply Post_block_normal)
    exact Post_round (i + 1, p15, c15, rcs ++ [⟨q1, u1, d1, r, true⟩]) ⟨rfl, rfl, rfl, rfl, rfl, trivial⟩ ⟨hlt, hM.push hx914 hcd ha15⟩ (by simp only; omega)
  · have hcd : CallAt w7.heap ⟨q1, u1, d1, zRep, false⟩ (callP cmds ts i) := ⟨e1.trans (by show _ = (cmds.getD i []).length; rw [hgi]), (decide_eq_false (by omega)).symm, by show Sl w7.heap eStr q1 d1 (cmds.getD i []); rw [hgi]; exact hSl, fun x hx => hlss l (List.mem_of_getElem? hl) x (by rw [← hgi]; exact hx), by show RepAt w7.heap 5 zRep (ts.getD i zT); rw [getD_none (by omega)]; exact zRep_at5⟩
    repeat' (first | (apply G_on; exact rfl; first | (apply G1_move; exact rfl; exact rfl) | (apply G1_lss; exact rfl; exact rfl; exact rfl) | (apply G1_len; exact T.s26; exact rfl; exact rfl) | (apply G1_loadBAgg; exact T.a53; exact rfl; assumption; exact rfl; exact rfl)) | apply G_nil | apply Post_next | apply W_seq | apply W_region | (apply W_cond_dec; exact rfl; all_goals (intro h; try (exfalso; omega))) | apply W_skip)
    all_goals try (exfalso; omega)
    apply G_on; exact rfl
    apply G1_build1 eCall (⟨q1, u1, d1, zRep, false⟩ : RawC); exact T.s32; exact rfl; exact rfl; exact rfl; decide; exact rfl; exact rfl
    intro p14 w14 hp14 hs14 _ hx14 hz14
    have hx914 : Ext w9 w14 := hx911.trans hx14
    have hz914 := hx914.size
    repeat' (first | (apply G_on; exact rfl; first | ((first | apply G1_assign | apply G1_move); exact rfl; exact rfl) | (apply G1_appendA; exact T.s32; exact rfl; exact rfl; exact hM.own.ext hx914; exact hs14; exact rfl; omega; (simp only [List.length_cons, List.length_nil]; omega); (simp only [List.length_cons, List.length_nil]; omega); exact rfl; exact rfl; exact rfl; intro p15 c15 w15 ha15) | (apply G1_add; exact rfl; exact rfl; omega; omega; exact rfl)) | apply G_nil | apply Post_next | apply W_region | apply Post_block_normal)
    exact Post_round (i + 1, p15, c15, rcs ++ [⟨q1, u1, d1, zRep, false⟩]) ⟨rfl, rfl, rfl, rfl, rfl, trivial⟩ ⟨hlt, hM.push hx914 hcd ha15⟩ (by simp only; omega)
end Go.Proofs.YtipbakiecocioaaGreatDoor

/- Audit: awake answers true. -/

namespace Go.V
end Go.V
namespace Go.Proofs.YtipbakiecocioaaGreatDoor
open Go.V
attribute [local irreducible] Blk Own hcell IntT SliceT PlainT AggT SizeT StrT FieldT ZeroT EqT ArrT
def inB : List UInt8 := [80, 73, 78, 71, 13, 10, 80, 73, 78, 71, 13, 10]
def outB : List UInt8 := [43, 80, 79, 78, 71, 13, 10]
def pingL : List UInt8 := [80, 73, 78, 71]
def pongT : Rep := .mk 0 ⟨#[80, 79, 78, 71]⟩ 0 []
theorem ping_step (m : List UInt8) : stepP rs0 (pingL ++ 13 :: 10 :: m) = .go rs0 6 [[mkStr pingL]] := by
  have h := step_inline (s := pingL) m (by decide) (by decide) (by decide) (by decide)
  rw [if_neg (by decide)] at h
  exact h
theorem runP_ping : (runP rs0 inB).out = [[mkStr pingL], [mkStr pingL]] := by
  have e1 : inB = pingL ++ 13 :: 10 :: (pingL ++ 13 :: 10 :: []) := rfl
  have d1 : (pingL ++ 13 :: 10 :: (pingL ++ 13 :: 10 :: [])).drop 6 = pingL ++ 13 :: 10 :: [] := rfl
  have d2 : (pingL ++ 13 :: 10 :: ([] : List UInt8)).drop 6 = [] := rfl
  rw [e1, run_go (ping_step _), d1, run_go (ping_step _), d2, run_nil]
  rfl
theorem rd_pong : rdT 4 outB = some (pongT, 7) := by
  have h := rdT_w 4 pongT (by decide) ⟨⟨by unfold fit64; decide, by decide, by decide⟩, fun x hx => by simp [pongT, Rep.l] at hx⟩ []
  have e : wT 4 pongT = outB := by decide +kernel
  rw [e, List.append_nil] at h
  exact h
theorem reps_pong : (repsP outB).1 = [pongT] := by
  rw [repsP_some rd_pong]
  have d : outB.drop 7 = [] := rfl
  have hn : rdT 4 ([] : List UInt8) = none := by
    cases h : rdT 4 ([] : List UInt8) with
    | none => rfl
    | some x =>
      have := rdT_len _ _ x.1 x.2 h
      simp at this
      omega
  rw [d, repsP_none hn]
theorem bldWire (p1 : Option Addr) (n1 c1 : Nat) (p2 : Option Addr) (n2 c2 : Nat) (w : World) : (Instr.build 24 [(1, Value.slice p1 n1 c1), (2, Value.slice p2 n2 c2)].toArray).run Tryz.prog w = .ok (wireV 0 p1 n1 c1 p2 n2 c2 false) w := by kernel_rfl
set_option maxHeartbeats 4000000 in
theorem awake30 {w : World} (hU : Utf w) (hT : Pow w) (hE : Errs w) : Ctr Tryz.prog 5 [] w (fun v w' => v = .bool true ∧ Ext w w') := by
  refine Ctr_of Tryz.func5 Tryz.ntmps5 rfl rfl rfl ?_
  repeat' (first | (apply G_on; exact rfl; (apply G1_assign; exact rfl; exact rfl)) | apply G_nil | apply Post_next | apply W_seq | apply W_region)
  apply G_on; exact rfl
  apply G1_buildN eByte inB; exact T.s22; exact rfl; exact rfl; exact rfl; exact rfl; exact rfl; exact Nat.succ_pos _; exact Nat.le_of_ble_eq_true rfl; exact rfl; exact rfl
  intro p2 w2 ho2 hx2 hs2
  obtain ⟨g2, cs2, rfl, hgB2, hV2, _⟩ := ho2.toBlk (fun e => by have := ho2.sl.ok.nul e; cases this)
  apply G_on; exact rfl
  apply G1_convMark (bs := inB); exact Tryz.underlying22; exact Tryz.underlying5; exact rfl; exact hV2; exact ho2.sl; exact rfl; exact rfl; exact rfl
  intro w3 hs3 hg3 hz3
  have hx3 : Ext w w3 := hx2.own hg3 (fun k hk => by injection hk with hk; omega)
  apply G_on; exact rfl
  apply G1_buildN eByte outB; exact T.s22; exact rfl; exact rfl; exact rfl; exact rfl; exact rfl; exact Nat.succ_pos _; exact Nat.le_of_ble_eq_true rfl; exact rfl; exact rfl
  intro p4 w4 ho4 hx4 hs4
  obtain ⟨g4, cs4, rfl, hgB4, hV4, _⟩ := ho4.toBlk (fun e => by have := ho4.sl.ok.nul e; cases this)
  apply G_on; exact rfl
  apply G1_convMark (bs := outB); exact Tryz.underlying22; exact Tryz.underlying5; exact rfl; exact hV4; exact ho4.sl; exact rfl; exact rfl; exact rfl
  intro w5 hs5 hg5 hz5
  have hx35 : Ext w3 w5 := hx4.own hg5 (fun k hk => by injection hk with hk; omega)
  have hx5 := hx3.trans hx35
  have hcl := calls_spec (life := 0) (over := false) (hs3.ext hx35) hs5 (by decide) (by decide) (hU.ext hx5) (TabIs.ext hT hx5) (hE.ext hx5)
  rw [runP_ping, reps_pong] at hcl
  repeat' (apply G_on; exact rfl; (apply G1_build (wireV 0 (bx g2) inB.length inB.length (bx g4) outB.length outB.length false); exact rfl; exact bldWire _ _ _ _ _ _; exact rfl))
  apply G_on; exact rfl; apply G1_call (f := 9); exact rfl; exact rfl; exact rfl; exact hcl; rintro _ w6 ⟨q, d, rs, rfl, hC6, hx6⟩; refine ⟨.inl rfl, ?_⟩
  have hcs : callsP [[mkStr pingL], [mkStr pingL]] [pongT] = [⟨[mkStr pingL], pongT, true⟩, ⟨[mkStr pingL], zT, false⟩] := rfl
  rw [hcs] at hC6
  have hlen : rs.length = 2 := hC6.len
  have hok := hC6.sl.ok
  obtain ⟨r0, hr0⟩ := get_some (xs := rs) (k := 0) (by omega)
  obtain ⟨r1, hr1⟩ := get_some (xs := rs) (k := 1) (by omega)
  have h0 := call_enc (hC6.get 0 r0 _ hr0 rfl)
  have h1 := call_enc (hC6.get 1 r1 _ hr1 rfl)
  have f5 : (eCall.enc r0)[5]? = some (.bool true) := by rw [h0]; rfl
  have f2 : (eCall.enc r0)[2]? = some (.string ⟨#[80, 79, 78, 71]⟩) := by rw [h0]; rfl
  have g5 : (eCall.enc r1)[5]? = some (.bool false) := by rw [h1]; rfl
  rw [hlen] at hok ⊢
  repeat' (first | (apply G_on; exact rfl; first | ((first | apply G1_assign | apply G1_move); exact rfl; exact rfl) | (apply G1_indexAddrJ (q := 0); exact T.s32; exact rfl; exact rfl; exact rfl; exact hok; omega; exact rfl) | (apply G1_indexAddrJ (q := 1); exact T.s32; exact rfl; exact rfl; exact rfl; exact hok; omega; exact rfl) | (apply G1_loadFld (e := eCall) (q := 0) (off := 5); exact T.p4; exact rfl; exact hC6.sl.ext (by repeat first | assumption | exact Ext.rfl' | apply Ext.drew | apply Ext.alloc | refine Ext.trans ?_ (by assumption)); exact hr0; exact rfl; exact f5; exact rfl) | (apply G1_loadFld (e := eCall) (q := 1) (off := 5); exact T.p4; exact rfl; exact hC6.sl.ext (by repeat first | assumption | exact Ext.rfl' | apply Ext.drew | apply Ext.alloc | refine Ext.trans ?_ (by assumption)); exact hr1; exact rfl; exact g5; exact rfl) | (apply G1_loadFld (e := eCall) (q := 0) (off := 2); exact T.p9; exact rfl; exact hC6.sl.ext (by repeat first | assumption | exact Ext.rfl' | apply Ext.drew | apply Ext.alloc | refine Ext.trans ?_ (by assumption)); exact hr0; exact rfl; exact f2; exact rfl) | (apply G1_len; exact T.s32; exact rfl; exact rfl) | (apply G1_eql; exact rfl; exact rfl; exact rfl) | (apply G1_fieldAddr; (first | exact T.f53_2 | exact T.f53_1 | exact T.f31_1); exact rfl; exact rfl) | (apply G1_pick_t; exact rfl; exact rfl; exact rfl) | (apply G1_seql; exact rfl; exact rfl; exact rfl) | (apply G1_not_f; exact rfl; exact rfl)) | apply G_nil | apply Post_next | apply W_seq | apply W_region | apply W_ret)
  all_goals try (exfalso; first | omega | exact absurd rfl (by assumption))
  all_goals
    refine Post_ret Tryz.results5 ⟨_, _, rfl, rfl, rfl⟩ ?_
    exact ⟨rfl, (hx5.trans hx6).trans (by repeat first | assumption | exact Ext.rfl' | apply Ext.drew | apply Ext.alloc | refine Ext.trans ?_ (by assumption))⟩
end Go.Proofs.YtipbakiecocioaaGreatDoor

/- AuditSerial: the law's walk. -/

namespace Go.V
def wasT (ts : List ByteArray) (i : Nat) : ByteArray := if i = 0 then ⟨#[]⟩ else (ts[i - 1]?).getD ⟨#[]⟩
def txL (ts : List ByteArray) : List TxD := (List.range ts.length).map fun i : Nat => ⟨wasT ts i, decide (i ≠ 0), (ts[i]?).getD ⟨#[]⟩⟩
theorem txL_len (ts : List ByteArray) : (txL ts).length = ts.length := by simp [txL]
theorem txL_get {ts : List ByteArray} {i : Nat} {t : ByteArray} (h : ts[i]? = some t) : (txL ts)[i]? = some ⟨wasT ts i, decide (i ≠ 0), t⟩ := by
  have hl := get_lt h
  have e : ts[i] = t := by rw [List.getElem?_eq_getElem hl] at h; injection h
  simp [txL, hl, e]
theorem wasT_succ {ts : List ByteArray} {i : Nat} {t : ByteArray} (h : ts[i]? = some t) : wasT ts (i + 1) = t := by
  unfold wasT
  rw [if_neg (Nat.succ_ne_zero i), Nat.add_sub_cancel, h]
  rfl
theorem seen_tx {ts : List ByteArray} {i : Nat} (h : i < ts.length) : seenOf (txL ts) i = (decide (i ≠ 0), wasT ts i) := by
  unfold seenOf wasT
  by_cases h0 : i = 0
  · rw [if_pos h0, if_pos h0]; simp [h0]
  · obtain ⟨t, ht⟩ := get_some (xs := ts) (k := i - 1) (by omega)
    rw [if_neg h0, if_neg h0, txL_get ht, ht]
    simp [h0]
theorem tx_good {ts : List ByteArray} {i : Nat} {x : TxD} (h : (txL ts)[i]? = some x) : badAt (txL ts) i x = false := by
  have hi : i < ts.length := by have := get_lt h; rw [txL_len] at this; exact this
  obtain ⟨t, ht⟩ := get_some hi
  rw [txL_get ht] at h
  injection h with h
  unfold badAt
  rw [seen_tx hi, ← h]
  simp
/-- one text turned -/
def turnX (x : TxD) : TxD := ⟨x.rt ++ ⟨#[120]⟩, x.rh, x.t⟩
theorem turn_ne (a : ByteArray) : a ++ ⟨#[120]⟩ ≠ a := by
  intro h
  have h2 := congrArg ByteArray.size h
  rw [ByteArray.size_append] at h2
  have h3 : (⟨#[120]⟩ : ByteArray).size = 1 := rfl
  omega
theorem seen_set {xs : List TxD} {k i : Nat} {x : TxD} (hx : xs[k]? = some x) : seenOf (xs.set k (turnX x)) i = seenOf xs i := by
  unfold seenOf
  by_cases h0 : i = 0
  · rw [if_pos h0, if_pos h0]
  · rw [if_neg h0, if_neg h0]
    by_cases hk : k = i - 1
    · subst hk
      have hl := get_lt hx
      rw [List.getElem?_set_self hl, hx]
      rfl
    · rw [List.getElem?_set_ne hk]
theorem turn_bad {ts : List ByteArray} {k : Nat} {x : TxD} (hx : (txL ts)[k]? = some x) : badAt ((txL ts).set k (turnX x)) k (turnX x) = true := by
  have hg := tx_good hx
  unfold badAt at hg ⊢
  rw [seen_set hx]
  simp only [Bool.not_eq_false', Bool.and_eq_true, beq_iff_eq, decide_eq_true_eq] at hg
  obtain ⟨h1, h2⟩ := hg
  have : ¬ ((turnX x).rt = (seenOf (txL ts) k).2) := by
    rw [← h2]
    exact turn_ne _
  simp [this]
theorem turn_good {ts : List ByteArray} {k j : Nat} {x y : TxD} (hx : (txL ts)[k]? = some x) (hj : j ≠ k) (hy : ((txL ts).set k (turnX x))[j]? = some y) : badAt ((txL ts).set k (turnX x)) j y = false := by
  rw [List.getElem?_set_ne (fun e => hj e.symm)] at hy
  have hg := tx_good hy
  unfold badAt at hg ⊢
  rw [seen_set hx]
  exact hg
end Go.V
namespace Go.Proofs.YtipbakiecocioaaGreatDoor
open Go.V
attribute [local irreducible] Blk Own hcell IntT SliceT PlainT AggT SizeT StrT FieldT ZeroT EqT ArrT
theorem bldOp0 (w : World) : (Instr.build 40 [(1, Value.string sK)].toArray).run Tryz.prog w = .ok (.agg (eOp.enc ⟨false, sK, ⟨#[]⟩, false⟩).toArray) w := by kernel_rfl
theorem bldOpW (t : ByteArray) (w : World) : (Instr.build 40 [(0, Value.bool true), (1, Value.string sK), (2, Value.string t), (3, Value.bool true)].toArray).run Tryz.prog w = .ok (.agg (eOp.enc ⟨true, sK, t, true⟩).toArray) w := by kernel_rfl
theorem bldOpR (t : ByteArray) (w : World) : (Instr.build 40 [(1, Value.string sK), (2, Value.string t), (3, Value.bool true)].toArray).run Tryz.prog w = .ok (.agg (eOp.enc ⟨false, sK, t, true⟩).toArray) w := by kernel_rfl
theorem bldHist (a b c : Int) (p : Option Addr) (n d : Nat) (w : World) : (Instr.build 43 [(0, Value.int .i64 a), (1, Value.int .i64 b), (2, Value.int .i64 c), (3, Value.slice p n d)].toArray).run Tryz.prog w = .ok (.agg (eHist.enc ⟨a, b, c, p, n, d⟩).toArray) w := by kernel_rfl
section
variable {P : Program} {n : Nat} {ops : Array Oper} {dr : Nat × List Nat} {l : List Oper} {E : Env} {w : World} {K : Env → World → Prop}
variable {d : Option Nat} {ty : TypeId} {pos : String} {af : Array Edge} {g : Option (Nat × Bool)} {x y : Operand} {k : IntKind} {i j : Int} {t t' : TypeId}
theorem G1_remZ {r : Int} (hx : E.look x = some (.int k i)) (hy : E.look y = some (.int k j)) (h0 : j ≠ 0) (hr : i.tmod j = r) (hd : dstOk n d = true)
    (h : G P n ops dr l (E.put d (.int k r)) w K) : G1 P n ops dr ⟨d, .binOp .rem t x y t', ty, pos, af, g⟩ l E w K := by
  subst hr; exact G1_rem hx hy h0 hd h
end
structure RawIs (w : World) (B : Nat) (i : Nat) (r : RawH) (x : TxD) : Prop where
  ses : r.ses = ((i % 3 : Nat) : Int)
  start : r.start = (i : Int)
  com : r.com = (i : Int) + 1
  n : r.n = 3
  ops : Own w B 40 eOp r.p r.c (opsOf x)
theorem RawIs.ext {w w' : World} {B i : Nat} {r : RawH} {x : TxD} (h : RawIs w B i r x) (hx : Ext w w') : RawIs w' B i r x := ⟨h.ses, h.start, h.com, h.n, h.ops.ext hx⟩
theorem RawIs.kept {w w' : World} {B i : Nat} {r : RawH} {x : TxD} {row : Option Nat} (h : RawIs w B i r x) (hg : w.grownBy w' row) (hn : row = none ∨ row ≠ blk r.p) : RawIs w' B i r x :=
  ⟨h.ses, h.start, h.com, h.n, h.ops.kept hg (fun y hy e => by
    rcases hn with hn | hn
    · rw [hn] at e; cases e
    · exact hn (by rw [hy]; exact e))⟩
theorem RawIs.at {w : World} {B i : Nat} {r : RawH} {x : TxD} (h : RawIs w B i r x) : HistAt w.heap i r x := ⟨h.ses, h.start, h.com, h.n, h.ops.sl⟩
set_option maxHeartbeats 4000000 in
theorem auditSerial_spec {p : Option Addr} {c : Nat} {ts : List ByteArray} {turn : Int} {w : World} (hT : Sl w.heap eStr p c ts) (hU : Utf w) (hPw : Pow w) (hE : Errs w) (ht1 : -9223372036854775808 ≤ turn) (ht2 : turn ≤ 9223372036854775807) :
    Ctr Tryz.prog 4 [.slice p ts.length c, .int .i64 turn] w (fun v w' => v = .bool true ∧ Ext w w') := by
  have hok := hT.ok
  have hbd := hT.bound
  have haw := fun w' (hx : Ext w w') => awake30 (hU.ext hx) (TabIs.ext hPw hx) (hE.ext hx)
  refine Ctr_of Tryz.func4 Tryz.ntmps4 rfl rfl rfl ?_
  repeat' (first | (apply G_on; exact rfl; first | ((first | apply G1_assign | apply G1_move); exact rfl; exact rfl) | (apply G1_call (f := 5); exact rfl; exact rfl; exact rfl; exact haw _ (by repeat first | assumption | exact Ext.rfl' | apply Ext.drew | apply Ext.alloc | refine Ext.trans ?_ (by assumption)); rintro _ w1 ⟨rfl, hx1⟩; refine ⟨(by first | exact .inl rfl | exact .inr (by assumption)), ?_⟩) | (apply G1_not_t; exact rfl; exact rfl) | (apply G1_len; exact T.s37; exact rfl; exact rfl) | ((first | apply G1_eql | apply G1_gtr); exact rfl; exact rfl; exact rfl) | (apply G1_pick_t; exact rfl; exact rfl; exact rfl) | (apply G1_pick_f; exact rfl; exact rfl; exact rfl)) | apply G_nil | apply Post_next | apply W_seq | apply W_region | (apply W_cond_true; exact rfl) | (apply W_cond_dec; exact rfl; all_goals (intro h; try (exfalso; omega))) | (apply G_off; exact rfl; exact rfl) | ((fail_if_success (apply G_on; exact rfl)); apply G_split_dec; exact rfl; exact rfl; all_goals (intro h; try (exfalso; omega))) | apply W_skip | apply W_ret | apply Post_then_ret)
  · refine Post_ret Tryz.results4 ⟨_, _, rfl, rfl, rfl⟩ ?_
    exact ⟨rfl, (by repeat first | assumption | exact Ext.rfl' | apply Ext.drew | apply Ext.alloc | refine Ext.trans ?_ (by assumption))⟩
  · refine Post_ret Tryz.results4 ⟨_, _, rfl, rfl, rfl⟩ ?_
    exact ⟨rfl, (by repeat first | assumption | exact Ext.rfl' | apply Ext.drew | apply Ext.alloc | refine Ext.trans ?_ (by assumption))⟩
  have hn0 : 0 < ts.length := by omega
  have hn20 : ts.length ≤ 20 := by omega
  repeat' (apply G_on; exact rfl; (apply G1_build (t := 40) (.agg (eOp.enc ⟨false, sK, ⟨#[]⟩, false⟩).toArray); exact rfl; exact bldOp0; exact rfl))
  apply G_on; exact rfl; apply G1_alloc; exact T.zero40; exact rfl; exact rfl; intro a6 w2 ha6 hA6 hx2 hs2
  skip
  apply G_on; exact rfl; apply G1_storeB; exact T.z40; exact rfl; exact rfl; exact hA6; exact rfl; exact rfl; (first | exact Nat.le_of_ble_eq_true rfl | (focus (simp [Value.cells]; done))); (first | exact Enc.one _ _ | (focus (simp [Value.oneCell']; done)) | (focus (simp [Value.cells, Value.oneCell']; done)) | exact Enc.oneAgg _ _); exact rfl; (first | exact .inl rfl | exact .inr (by simp [exempt])); exact rfl; intro w3 hA3 hg3 hs3
  replace hA3 : Blk w3.heap a6 40 (eOp.enc ⟨false, sK, wasT ts 0, decide (0 ≠ 0)⟩) := hA3
  have hx03 : Ext w w3 := (hx1.trans hx2).own hg3 (fun k hk => by injection hk; have := hx1.size; omega)
  have hz3 := hx03.size
  have hw6 : w.heap.size ≤ a6 := by have := hx1.size; omega
  have ha63 := hA3.lt
  repeat' (first | (apply G_on; exact rfl; (apply G1_assign; exact rfl; exact rfl)) | apply G_nil | apply Post_next | apply W_seq | apply W_region | apply W_block)
  refine W_loop (ι := Nat × Option Addr × Nat × List RawH) (fun y => [(0, .slice p ts.length c), (1, .int .i64 turn), (5, .slice y.2.1 y.2.2.2.length y.2.2.1), (6, .pointer (some (adr (bx a6) 0))), (7, .int .i64 (y.1 : Int))])
    (fun y w' => y.1 ≤ ts.length ∧ y.2.2.2.length = y.1 ∧ Own w' w.heap.size 43 eHist y.2.1 y.2.2.1 y.2.2.2 ∧ (∀ j r, y.2.2.2[j]? = some r → ∃ x, (txL ts)[j]? = some x ∧ RawIs w' w3.heap.size j r x) ∧ y.2.2.2.Pairwise (fun a b => blk a.p ≠ blk b.p) ∧ Blk w'.heap a6 40 (eOp.enc ⟨false, sK, wasT ts y.1, decide (y.1 ≠ 0)⟩) ∧ Ext w w' ∧ w3.heap.size ≤ w'.heap.size ∧ (∀ j u, j < y.1 → ts[j]? = some u → u.size ≤ 300)) (fun y => ts.length - y.1) (0, none, 0, []) ⟨rfl, rfl, rfl, rfl, rfl, trivial⟩
    ⟨Nat.zero_le _, rfl, Own.nil _ _ _ _, fun j r h => (by cases h), List.Pairwise.nil, hA3, hx03, Nat.le_refl _, fun j u h => absurd h (by omega)⟩ ?_
  clear hA3
  rintro ⟨i, q, d, rs⟩ v0 ⟨hi, hrl, hQ, hR, hpw, hA6, hxv, hzv, hsz⟩
  simp only at hi hrl hQ hR hpw hA6 hsz
  refine W_keep [(0, .slice p ts.length c), (1, .int .i64 turn), (5, .slice q rs.length d), (6, .pointer (some (adr (bx a6) 0))), (7, .int .i64 (i : Int))] ⟨rfl, rfl, rfl, rfl, rfl, trivial⟩ ?_
  by_cases hlt : i < ts.length
  · obtain ⟨t, ht⟩ := get_some hlt
    repeat' (first | (apply G_on; exact rfl; first | ((first | apply G1_assign | apply G1_move); exact rfl; exact rfl) | (apply G1_indexAddrJ (q := i); exact T.s37; exact rfl; exact rfl; exact rfl; exact hok; omega; exact rfl) | (apply G1_loadEl1 (e := eStr) (q := i); exact T.p9; exact rfl; exact hT.ext (by repeat first | assumption | exact Ext.rfl' | apply Ext.drew | apply Ext.alloc | refine Ext.trans ?_ (by assumption)); exact ht; exact rfl; exact rfl; exact rfl) | (apply G1_build (t := 40) (.agg (eOp.enc ⟨true, sK, t, true⟩).toArray); exact rfl; exact bldOpW _; exact rfl) | (apply G1_len; exact T.s37; exact rfl; exact rfl) | ((first | apply G1_gtr | apply G1_lss); exact rfl; exact rfl; exact rfl) | (apply G1_slen; exact T.str9; exact rfl; exact rfl)) | apply G_nil | apply Post_next | apply W_seq | apply W_region | (apply W_cond_dec; exact rfl; all_goals (intro h; try (exfalso; omega))) | apply W_skip | apply W_ret | apply W_block | apply Post_then_ret | apply Post_block_ret)
    all_goals try (exfalso; omega)
    · refine Post_ret Tryz.results4 ⟨_, _, rfl, rfl, rfl⟩ ?_
      exact ⟨rfl, (by repeat first | assumption | exact Ext.rfl' | apply Ext.drew | apply Ext.alloc | refine Ext.trans ?_ (by assumption))⟩
    apply G_on; exact rfl; apply G1_alloc; exact T.zero40; exact rfl; exact rfl; intro a8 v1 ha8 hA8 hx8 hs8
    skip
    apply G_on; exact rfl; apply G1_storeB; exact T.z40; exact rfl; exact rfl; exact hA8; exact rfl; exact rfl; (first | exact Nat.le_of_ble_eq_true rfl | (focus (simp [Value.cells]; done))); (first | exact Enc.one _ _ | (focus (simp [Value.oneCell']; done)) | (focus (simp [Value.cells, Value.oneCell']; done)) | exact Enc.oneAgg _ _); exact rfl; (first | exact .inl rfl | exact .inr (by simp [exempt])); exact rfl; intro v2 hB8 hg8 hs8'
    replace hB8 : Blk v2.heap a8 40 (eOp.enc ⟨true, sK, t, true⟩) := hB8
    have ha6l := hA6.lt
    replace hA6 := (hA6.ext hx8).grown hg8 (fun e => by injection e; omega)
    replace hQ := (hQ.ext hx8).kept hg8 (fun y hy e => (hQ.ext hx8).neB hA8 (by decide) (by rw [hy]; exact e.symm))
    have hR2 : ∀ j r, rs[j]? = some r → ∃ x, (txL ts)[j]? = some x ∧ RawIs v2 w3.heap.size j r x := fun j r h => by
      obtain ⟨x, h1, h2⟩ := hR j r h
      have hlt2 := h2.ops.ge
      exact ⟨x, h1, (h2.ext hx8).kept hg8 (.inr fun e => by have := (hlt2 a8 e.symm).2; omega)⟩
    clear hR
    have hxv2 : Ext w v2 := hxv.trans (hx8.own hg8 (fun k hk => by injection hk; omega))
    have hz2 : v0.heap.size + 1 = v2.heap.size := by omega
    repeat' (first | apply G_nil | apply Post_next | apply W_seq)
    refine W_drawnT 1 [] (.node [0,1,2,3,4,5,8,9,10] (.alt 6 (.node [] (.alt 7 (.node [] (.alt 11 (.leaf [12,13,14,15,16,17]) .stop)) (.alt 11 (.node [12] (.alt 7 (.leaf [13,14,15,16,17]) .stop)) .stop))) (.alt 7 (.node [] (.alt 6 (.node [] (.alt 11 (.leaf [12,13,14,15,16,17]) .stop)) (.alt 11 (.node [12] (.alt 6 (.leaf [13,14,15,16,17]) .stop)) .stop))) (.alt 11 (.node [12] (.alt 6 (.node [] (.alt 7 (.leaf [13,14,15,16,17]) .stop)) (.alt 7 (.node [] (.alt 6 (.leaf [13,14,15,16,17]) .stop)) .stop))) .stop)))) mixed (by decide +kernel) ?_
    obtain ⟨x, hxd⟩ : ∃ x : TxD, x = ⟨wasT ts i, decide (i ≠ 0), t⟩ := ⟨_, rfl⟩
    have hxg : (txL ts)[i]? = some x := by rw [hxd]; exact txL_get ht
    have hdr : Ext v2 v2.drew := (by repeat first | assumption | exact Ext.rfl' | apply Ext.drew | apply Ext.alloc | refine Ext.trans ?_ (by assumption))
    replace hA6 := hA6.ext hdr
    replace hB8 := hB8.ext hdr
    replace hQ := hQ.ext hdr
    have hzd : v2.drew.heap.size = v2.heap.size := rfl
    have hR3 : ∀ j r, rs[j]? = some r → ∃ x, (txL ts)[j]? = some x ∧ RawIs v2.drew w3.heap.size j r x := fun j r h => by
      obtain ⟨x, h1, h2⟩ := hR2 j r h
      exact ⟨x, h1, h2.ext hdr⟩
    clear hR2
    replace hxv2 := hxv2.trans hdr
    repeat' (first | (apply G_on; exact rfl; first | ((first | apply G1_assign | apply G1_move); exact rfl; exact rfl) | (apply G1_indexAddrJ (q := i); exact T.s37; exact rfl; exact rfl; exact rfl; exact hok; omega; exact rfl) | (apply G1_loadEl1 (e := eStr) (q := i); exact T.p9; exact rfl; exact hT.ext (by repeat first | assumption | exact Ext.rfl' | apply Ext.drew | apply Ext.alloc | refine Ext.trans ?_ (by assumption)); exact ht; exact rfl; exact rfl; exact rfl) | (apply G1_build (t := 40) (.agg (eOp.enc ⟨false, sK, t, true⟩).toArray); exact rfl; exact bldOpR _; exact rfl) | (apply G1_build (t := 43); exact rfl; exact bldHist _ _ _ _ _ _; exact rfl) | (apply G1_buildN eOp (opsOf x); exact T.s41; exact rfl; exact rfl; (rw [hxd]; exact rfl); exact rfl; exact rfl; exact Nat.succ_pos _; (show 3 * 4 ≤ 10000; omega); exact rfl; exact rfl; intro p9 v3 hN hx9 hs9; replace hA6 := hA6.ext hx9; replace hQ := hQ.ext hx9; replace hxv2 := hxv2.trans hx9) | (apply G1_build1 eHist ⟨(i : Int).tmod 3, (i : Int), (i : Int) + 1, p9, 3, 3⟩; exact T.s38; exact rfl; exact rfl; exact rfl; decide; exact rfl; exact rfl; intro p10 v4 hp10 hs10 _ hx10 hz10; replace hA6 := hA6.ext hx10; replace hQ := hQ.ext hx10; replace hxv2 := hxv2.trans hx10; have hz10 := hxv2.size) | (apply G1_appendA (e := eHist) (xs := rs) (ys := [⟨(i : Int).tmod 3, (i : Int), (i : Int) + 1, p9, 3, 3⟩]); exact T.s38; exact rfl; exact rfl; exact hQ; exact hs10; exact rfl; exact hz10; (simp only [List.length_cons, List.length_nil]; omega); (simp only [List.length_cons, List.length_nil]; omega); exact rfl; exact rfl; exact rfl; intro p11 c11 v5 ha11; have hge := hQ.ge; have hxv5 := hxv2.own ha11.grown (fun k hk => (hge k hk).1)) | (apply G1_rem; exact rfl; exact rfl; omega; exact rfl) | (apply G1_add; exact rfl; exact rfl; omega; omega; exact rfl) | (apply G1_loadBAgg; exact T.a40; exact rfl; assumption; exact rfl; exact rfl)) | apply G_nil | apply Post_next | apply W_region | (refine GT_leaf ?_) | (refine GT_node ?_) | (apply GT_alt) | (exact GT_stop))
    all_goals
      have hN10 := hN.ext hx10
      have hN11 := hN10.kept ha11.grown (hQ.neT hN10 (by decide))
      have hA11 := hA6.grown ha11.grown (hQ.neB hA6 (by decide))
      skip
      apply G_on; exact rfl; apply G1_storeB; exact T.z40; exact rfl; exact rfl; exact hA11; exact rfl; exact rfl; (first | exact Nat.le_of_ble_eq_true rfl | (focus (simp [Value.cells]; done))); (first | exact Enc.one _ _ | (focus (simp [Value.oneCell']; done)) | (focus (simp [Value.cells, Value.oneCell']; done)) | exact Enc.oneAgg _ _); exact rfl; (first | exact .inl rfl | exact .inr (by simp [exempt])); exact rfl; intro v6 hA12 hg12 hs12
      repeat' (first | (apply G_on; exact rfl; first | ((first | apply G1_assign | apply G1_move); exact rfl; exact rfl) | (apply G1_add; exact rfl; exact rfl; omega; omega; exact rfl)) | apply G_nil | apply Post_next | apply W_region | apply Post_block_normal)
      have hzs : v2.heap.size ≤ v5.heap.size := by have h1 := hx9.size; have h2 := hx10.size; have h3 := ha11.grown.size; omega
      have hgN := hN11.ge
      have hsz1 : ∀ j u, j < i + 1 → ts[j]? = some u → u.size ≤ 300 := fun j u h1 h2 => by
        by_cases hji : j = i
        · subst hji; rw [ht] at h2; injection h2 with h2; rw [← h2]; omega
        · exact hsz j u (by omega) h2
      have hR6 : ∀ j r, (rs ++ [(⟨(i : Int).tmod 3, (i : Int), (i : Int) + 1, p9, 3, 3⟩ : RawH)])[j]? = some r → ∃ x, (txL ts)[j]? = some x ∧ RawIs v6 w3.heap.size j r x := fun j r h => by
        rcases Nat.lt_or_ge j rs.length with hj | hj
        · rw [List.getElem?_append_left hj] at h
          obtain ⟨x, h1, h2⟩ := hR3 j r h
          have h3 := (h2.ext hx9).ext hx10
          have h4 := h3.kept ha11.grown (by
            refine Classical.or_iff_not_imp_left.2 fun _ e => ?_
            have h5 := h3.ops.toBlk (fun e => by have := h3.ops.sl.ok.nul e; rw [opsOf_len] at *; have := h3.ops.sl.ok.le; rw [opsOf_len] at this; omega)
            obtain ⟨gb, cur, e1, _, hV, _⟩ := h5
            rw [e1] at e
            exact hQ.neB hV (by decide) e)
          have h6 := h4.ops.ge
          exact ⟨x, h1, h4.kept hg12 (.inr fun e => by have := (h6 a6 e.symm).1; omega)⟩
        · have hji : j = i := by have := get_lt h; simp at this; omega
          subst hji
          rw [List.getElem?_append_right (by omega), hrl, Nat.sub_self] at h
          injection h with h
          refine ⟨x, hxg, ?_⟩
          subst h
          refine ⟨?_, rfl, rfl, rfl, ?_⟩
          · show (j : Int).tmod 3 = ((j % 3 : Nat) : Int)
            rw [Int.tmod_eq_emod_of_nonneg (by omega)]; omega
          · exact (hN11.base (by omega)).kept hg12 (fun y hy e => by have := (hgN a6 (by rw [hy]; exact e.symm)).1; omega)
      have hP6 : (rs ++ [(⟨(i : Int).tmod 3, (i : Int), (i : Int) + 1, p9, 3, 3⟩ : RawH)]).Pairwise (fun a b => blk a.p ≠ blk b.p) := by
        rw [List.pairwise_append]
        refine ⟨hpw, List.pairwise_singleton _ _, fun a ha b hb => ?_⟩
        rw [List.mem_singleton] at hb
        subst hb
        obtain ⟨j, hj⟩ := List.getElem?_of_mem ha
        obtain ⟨x, h1, h2⟩ := hR3 j a hj
        have h3 := h2.ops.ge
        obtain ⟨gb, cur, e1, _, hV, _⟩ := hN.toBlk (fun e => by have := hN.sl.ok.nul e; cases this)
        intro e
        have h4 := (hN.ge gb (by rw [e1]; rfl)).1
        have h5 := (h3 gb (by rw [e, e1]; rfl)).2
        omega
      exact Post_round (i + 1, p11, c11, rs ++ [⟨(i : Int).tmod 3, (i : Int), (i : Int) + 1, p9, 3, 3⟩]) ⟨rfl, rfl, rfl, rfl, rfl, trivial⟩ ⟨hlt, by simp [hrl], ha11.own.kept hg12 (fun y hy e => ha11.own.neB hA11 (by decide) (by rw [hy]; exact e.symm)), hR6, hP6, by simp only [wasT_succ ht]; exact hA12, hxv5.own hg12 (fun k hk => by injection hk; omega), by omega, hsz1⟩ (by simp only []; omega)
  · obtain rfl : i = ts.length := by omega
    have hH : HistsAt v0.heap q d rs (txL ts) := ⟨hQ.sl, by rw [hrl, txL_len], fun j r x hr hx => by
      obtain ⟨x', h1, h2⟩ := hR j r hr
      rw [h1] at hx
      injection hx with hx
      subst hx
      exact h2.at⟩
    have hck : ∀ w', Ext v0 w' → Ctr Tryz.prog 13 [.slice q rs.length d] w' (fun v w'' => v = .tuple #[.int .i64 (ts.length : Int), .int .i64 0] ∧ Ext w' w'') := fun w' hx => (check_spec (hH.ext hx) (by omega) (by omega)).mono fun v w'' h => by
      obtain ⟨⟨k, e, h1, h2, h3⟩, h4⟩ := h
      rcases h3 with ⟨h5, h6⟩ | ⟨y, h5, h6, _⟩
      · rw [h1, h5, h6, hrl]; exact ⟨rfl, h4⟩
      · rw [tx_good h5] at h6; cases h6
    obtain ⟨tl, htl⟩ := get_some (xs := ts) (k := ts.length - 1) (by omega)
    have hx0 : (txL ts)[rs.length - 1]? = some ⟨wasT ts (ts.length - 1), decide (ts.length - 1 ≠ 0), tl⟩ := by rw [hrl]; exact txL_get htl
    have hfi := fun w' (hx : Ext v0 w') => final_spec (hH.ext hx) (by omega) (by omega) hx0
    obtain ⟨kk, hkk, hkl⟩ : ∃ kk : Nat, (turn.tmod (rs.length : Int) + (rs.length : Int)).tmod (rs.length : Int) = (kk : Int) ∧ kk < rs.length := by
      have h1 : (0 : Int) < (rs.length : Int) := by omega
      have h2 := Int.lt_tmod_of_pos turn h1
      have h3 := Int.tmod_lt_of_pos turn h1
      have h4 : 0 ≤ turn.tmod (rs.length : Int) + (rs.length : Int) := by omega
      refine ⟨((turn.tmod (rs.length : Int) + (rs.length : Int)).tmod (rs.length : Int)).toNat, ?_, ?_⟩
      · rw [Int.toNat_of_nonneg (Int.tmod_nonneg _ h4)]
      · have := Int.tmod_lt_of_pos (turn.tmod (rs.length : Int) + (rs.length : Int)) h1
        have := Int.tmod_nonneg (rs.length : Int) h4
        omega
    have hb2 := Int.lt_tmod_of_pos turn (show (0 : Int) < (rs.length : Int) by omega)
    have hb3 := Int.tmod_lt_of_pos turn (show (0 : Int) < (rs.length : Int) by omega)
    have g1 : (ePair.enc (sK, tl))[1]? = some (.string tl) := rfl
    repeat' (first | (apply G_on; exact rfl; first | ((first | apply G1_assign | apply G1_move); exact rfl; exact rfl) | (apply G1_call (f := 13); exact rfl; exact rfl; exact rfl; exact hck _ (by repeat first | assumption | exact Ext.rfl' | apply Ext.drew | apply Ext.alloc | refine Ext.trans ?_ (by assumption)); rintro _ v1 ⟨rfl, hx5⟩; refine ⟨(by first | exact .inl rfl | exact .inr (by assumption)), ?_⟩) | (apply G1_call (f := 14); exact rfl; exact rfl; exact rfl; exact hfi _ (by repeat first | assumption | exact Ext.rfl' | apply Ext.drew | apply Ext.alloc | refine Ext.trans ?_ (by assumption)); rintro _ v2 ⟨fq, fd, rfl, hF, hx6⟩; refine ⟨(by first | exact .inl rfl | exact .inr (by assumption)), ?_⟩) | (apply G1_len; exact T.s37; exact rfl; exact rfl) | ((first | apply G1_lss | apply G1_extract); exact rfl; exact rfl; exact rfl)) | apply G_nil | apply Post_next | apply W_seq | apply W_region | (apply W_cond_dec; exact rfl; all_goals (intro h; try (exfalso; omega))) | apply W_exit | apply Post_then_exit | apply Post_block_exit)
    all_goals try (exfalso; omega)
    have hx02 : Ext v0 v2 := hx5.trans hx6
    have hxw2 : Ext w v2 := hxv.trans hx02
    have hfok : Okp fq 1 fd := hF.ok
    repeat' (first | (apply G_on; exact rfl; first | ((first | apply G1_assign | apply G1_move); exact rfl; exact rfl) | (apply G1_indexAddrJ (q := 0); exact T.s47; exact rfl; exact rfl; exact rfl; exact hfok; omega; exact rfl) | (apply G1_loadFld (e := ePair) (q := 0) (off := 1); exact T.p9; exact rfl; exact hF.ext (by repeat first | assumption | exact Ext.rfl' | apply Ext.drew | apply Ext.alloc | refine Ext.trans ?_ (by assumption)); exact rfl; exact rfl; exact g1; exact rfl) | (apply G1_indexAddrJ (q := ts.length - 1); exact T.s37; exact rfl; exact rfl; omega; exact hok; omega; exact rfl) | (apply G1_loadEl1 (e := eStr) (q := ts.length - 1); exact T.p9; exact rfl; exact hT.ext (by repeat first | assumption | exact Ext.rfl' | apply Ext.drew | apply Ext.alloc | refine Ext.trans ?_ (by assumption)); exact htl; exact rfl; exact rfl; exact rfl) | (apply G1_remZ (r := (kk : Int)); exact rfl; exact rfl; omega; exact hkk; exact rfl) | (apply G1_add; exact rfl; exact rfl; omega; omega; exact rfl) | (apply G1_len; (first | exact T.s37 | exact T.s38 | exact T.s47); exact rfl; exact rfl) | (apply G1_pick_f; exact rfl; exact rfl; exact rfl) | (apply G1_rem; exact rfl; exact rfl; omega; exact rfl) | (apply G1_neq; exact rfl; exact rfl; exact rfl) | (apply G1_fieldAddr; (first | exact T.f50_1 | exact T.f43_3); exact rfl; exact rfl) | (apply G1_sub; exact rfl; exact rfl; omega; omega; exact rfl) | (apply G1_sneq; exact rfl; exact rfl; exact rfl) | (apply G1_indexAddrN; exact T.s38; exact rfl; exact rfl; (first | assumption | exact Sl.ok (by assumption) | exact (Own.sl (by assumption)).ok); omega; exact rfl)) | apply G_nil | apply Post_next | apply W_seq | apply W_region | (apply W_cond_dec; exact rfl; all_goals (intro h; try (exfalso; omega))) | ((fail_if_success (apply G_on; exact rfl)); apply G_split_dec; exact rfl; exact rfl; all_goals (intro h; try (exfalso; omega))) | refine W_drawn 1 [] [0,1,2,3,4,5,6,7,8,9,10,11,12,13,14,15,16,17,18,19,20,21,22,23,24,25] mixed (by decide +kernel) ?_ | apply W_skip | apply W_ret | apply Post_then_ret)
    all_goals try (exfalso; omega)
    all_goals try (exfalso; simp at h; done)
    have hxd2 : Ext v0 v2.drew := hx02.trans (by repeat first | assumption | exact Ext.rfl' | apply Ext.drew | apply Ext.alloc | refine Ext.trans ?_ (by assumption))
    obtain ⟨rk, hrk⟩ := get_some hkl
    obtain ⟨x, hxk, hRk⟩ := hR kk rk hrk
    replace hRk := hRk.ext hxd2
    have hQ2 := hQ.ext hxd2
    have hok3 : Okp rk.p 3 rk.c := by have := hRk.ops.sl.ok; rw [opsOf_len] at this; exact this
    have f3 : (eHist.enc rk)[3]? = some (.slice rk.p 3 rk.c) := by have e := hRk.n; show some (Value.slice rk.p rk.n rk.c) = _; rw [e]
    have fx : (eOp.enc ⟨false, sK, x.rt, x.rh⟩)[2]? = some (.string x.rt) := rfl
    have hxs : x.rt.size ≤ 300 := by
      obtain ⟨tk, htk⟩ := get_some (xs := ts) (k := kk) (by omega)
      rw [txL_get htk] at hxk
      injection hxk with hxk
      rw [← hxk]
      show (wasT ts kk).size ≤ 300
      unfold wasT
      by_cases h0 : kk = 0
      · rw [if_pos h0]; exact Nat.zero_le _
      · rw [if_neg h0]
        obtain ⟨u, hu⟩ := get_some (xs := ts) (k := kk - 1) (by omega)
        rw [hu]
        exact hsz (kk - 1) u (by omega) hu
    have hws : w3.heap.size ≤ v2.drew.heap.size := Nat.le_trans hzv hxd2.size
    repeat' (first | (apply G_on; exact rfl; first | (apply G1_move; exact rfl; exact rfl) | (apply G1_loadFld (e := eHist) (q := kk) (off := 3); exact T.p41; exact rfl; exact hQ2.sl.ext (by repeat first | assumption | exact Ext.rfl' | apply Ext.drew | apply Ext.alloc | refine Ext.trans ?_ (by assumption)); exact hrk; exact rfl; exact f3; exact rfl) | (apply G1_indexAddrJ (q := 0); exact T.s41; exact rfl; exact rfl; exact rfl; exact hok3; omega; exact rfl) | (apply G1_loadFld (e := eOp) (q := 0) (off := 2); exact T.p9; exact rfl; exact hRk.ops.sl.ext (by repeat first | assumption | exact Ext.rfl' | apply Ext.drew | apply Ext.alloc | refine Ext.trans ?_ (by assumption)); exact ops_get0; exact rfl; exact fx; exact rfl) | (apply G1_sadd; exact rfl; exact rfl; (show x.rt.size + 1 ≤ 9223372036854775807; omega); exact rfl) | (apply G1_storeEl (e := eOp) (q := 0) (off := 2) (el := ⟨false, sK, x.rt, x.rh⟩) (⟨false, sK, x.rt ++ ⟨#[120]⟩, x.rh⟩ : OpD); exact T.z9; exact rfl; exact rfl; exact hRk.ops; exact ops_get0; exact rfl; exact rfl; decide; exact rfl; exact rfl; exact hws; exact rfl; exact rfl; exact rfl; intro v3 hst hz3') | (apply G1_fieldAddr; exact T.f40_2; exact rfl; exact rfl)) | apply G_nil | apply Post_next | apply W_seq | apply W_region)
    have hgeo := hRk.ops.ge
    have hx03' : Ext w v3 := (hxv.trans hxd2).own hst.grown (fun k hk => by have := (hgeo k hk).1; omega)
    have hops : (opsOf x).set 0 (⟨false, sK, x.rt ++ ⟨#[120]⟩, x.rh⟩ : OpD) = opsOf (turnX x) := rfl
    rw [hops] at hst
    have hset : ((txL ts).set kk (turnX x))[kk]? = some (turnX x) := List.getElem?_set_self (by rw [txL_len]; omega)
    have hH3 : HistsAt v3.heap q d rs ((txL ts).set kk (turnX x)) := by
      refine ⟨(hQ2.kept hst.grown (hRk.ops.neT hQ2 (by decide))).sl, by rw [List.length_set, txL_len, hrl], fun j r y hr hy => ?_⟩
      by_cases hjk : j = kk
      · subst hjk
        rw [hrk] at hr
        injection hr with hr
        rw [hset] at hy
        injection hy with hy
        subst hr hy
        exact ⟨hRk.ses, hRk.start, hRk.com, hRk.n, hst.own.sl⟩
      · rw [List.getElem?_set_ne (fun e => hjk e.symm)] at hy
        obtain ⟨x', h1, h2⟩ := hR j r hr
        rw [h1] at hy
        injection hy with hy
        subst hy
        have hne : blk rk.p ≠ blk r.p := by
          have hp := List.pairwise_iff_getElem.1 hpw
          have hjl := get_lt hr
          have er : rs[j] = r := by rw [List.getElem?_eq_getElem hjl] at hr; injection hr
          have ek : rs[kk] = rk := by rw [List.getElem?_eq_getElem hkl] at hrk; injection hrk
          rcases Nat.lt_or_ge j kk with hlt' | hge'
          · have := hp j kk hjl hkl hlt'
            rw [er, ek] at this
            exact fun e => this e.symm
          · have := hp kk j hkl hjl (by omega)
            rw [er, ek] at this
            exact this
        exact ((h2.ext hxd2).kept hst.grown (.inr hne)).at
    have hck2 : ∀ w', Ext v3 w' → Ctr Tryz.prog 13 [.slice q rs.length d] w' (fun v w'' => v = .tuple #[.int .i64 (kk : Int), .int .i64 51] ∧ Ext w' w'') := fun w' hx => (check_spec (hH3.ext hx) (by omega) (by omega)).mono fun v w'' h => by
      obtain ⟨⟨k, e, h1, h2, h3⟩, h4⟩ := h
      have hbk := turn_bad hxk
      have hkle : k ≤ kk := by
        rcases Nat.lt_or_ge kk k with hlt' | hge'
        · have := h2 kk (turnX x) hlt' hset
          rw [hbk] at this
          cases this
        · exact hge'
      rcases h3 with ⟨h5, h6⟩ | ⟨y, h5, h6, h7⟩
      · omega
      · by_cases hkk2 : k = kk
        · rw [h1, h7, hkk2]; exact ⟨rfl, h4⟩
        · rw [turn_good hxk hkk2 h5] at h6; cases h6
    repeat' (first | (apply G_on; exact rfl; first | ((first | apply G1_assign | apply G1_move); exact rfl; exact rfl) | (apply G1_call (f := 13); exact rfl; exact rfl; exact rfl; exact hck2 _ (by repeat first | assumption | exact Ext.rfl' | apply Ext.drew | apply Ext.alloc | refine Ext.trans ?_ (by assumption)); rintro _ v4 ⟨rfl, hx7⟩; refine ⟨(by first | exact .inl rfl | exact .inr (by assumption)), ?_⟩) | ((first | apply G1_eql | apply G1_extract); exact rfl; exact rfl; exact rfl) | (apply G1_pick_t; exact rfl; exact rfl; exact rfl)) | apply G_nil | apply Post_next | apply W_seq | apply W_region | ((fail_if_success (apply G_on; exact rfl)); apply G_split_dec; exact rfl; exact rfl; all_goals (intro h; try (exfalso; omega))) | apply W_ret)
    all_goals try (exfalso; omega)
    all_goals
      refine Post_ret Tryz.results4 ⟨_, _, rfl, rfl, rfl⟩ ?_
      exact ⟨rfl, (by repeat first | assumption | exact Ext.rfl' | apply Ext.drew | apply Ext.alloc | refine Ext.trans ?_ (by assumption))⟩
end Go.Proofs.YtipbakiecocioaaGreatDoor
