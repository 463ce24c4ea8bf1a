/- Texts of this proof laid together: ReqRead3, ReqRead4, ReqRead5, ReqRead6, ReqRead7, ReqGood, ReqFeed, ReqRead8, ReqRun, ReqOne, AppE, AudCase, ReqCut, AudCalls, AudTells, AudOpen, AudTells2, BitOps, RepRead, RefRd, RefRead, AudReps, AudMake. -/
import Derived.Test.YtipbakiecocioaaGreatDoorVM4
import Derived.Scope
/- Requests: the reader's word; the walk. -/

namespace Go.Proofs.YtipbakiecocioaaGreatDoor
open Go.V
attribute [local irreducible] Blk Own hcell IntT SliceT PlainT AggT SizeT StrT FieldT ZeroT EqT ArrT
def WordA (w0 w : World) (ar B : Nat) (p : Option Addr) (c : Nat) (inp : List UInt8) (a : Nat) (pw : Option Addr) (cw : Nat) (r : RS) (x : WordR) (v : Value) (w' : World) : Prop :=
  FrS (fun q => q = ar) w w' ∧ match x with
  | .more r' k => v = .tuple #[.string ⟨#[]⟩, .bool false] ∧ RdSt w0 w' ar B p c inp (a + k) pw cw r' 0
  | .err e => v = .tuple #[.string ⟨#[]⟩, .bool false] ∧ ∃ a' r', RdSt w0 w' ar B p c inp a' pw cw r' e
  | .ok s h k => v = .tuple #[.string (mkStr s), .bool true] ∧ RdSt w0 w' ar B p c inp (a + k) pw cw { r with size := -1, held := h } 0
theorem grown_same {w w1 w2 : World} {b : Nat} (h : w.grownBy w1 (some b)) (k : w1.grownBy w2 (some b)) : w.grownBy w2 (some b) :=
  ⟨k.os.trans h.os, k.tape.trans h.tape, k.output.trans h.output, Nat.le_trans h.size k.size, fun q hq hne => (k.block q (Nat.lt_of_lt_of_le hq h.size) hne).trans (h.block q hq hne)⟩

set_option maxHeartbeats 4000000 in
theorem word_spec {w0 : World} {ar B : Nat} {p : Option Addr} {c : Nat} {inp : List UInt8} {a : Nat} {pw : Option Addr} {cw : Nat} {r : RS} {w : World} (hR : RdSt w0 w ar B p c inp a pw cw r 0) (hN : inp.length ≤ 1000000000) (hH : r.held + (inp.length - a) ≤ 1000000000) (hs0 : -1 ≤ r.size) (hs1 : r.size ≤ 4096) (hT : Pow w0) (hE : Errs w0) :
    Ctr Tryz.prog 51 [.pointer (some (adr (bx ar) 0))] w (WordA w0 w ar B p c inp a pw cw r (wordP r (inp.drop a))) := by
  obtain ⟨W0, hW0⟩ : ∃ x, wordP r (inp.drop a) = x := ⟨_, rfl⟩
  have hW := hW0
  unfold wordP at hW
  have hbk0 := hR.blk
  refine Ctr_of Tryz.func51 Tryz.ntmps51 rfl rfl rfl ?_
  by_cases hsz : r.size < 0
  · rw [if_pos hsz] at hW
    have hline := line_spec hR hN
    cases hl : lineP (inp.drop a) with
    | more =>
      rw [hl] at hW hline
      simp only at hW
      repeat' (first | (apply G_on; exact rfl; first | ((first | apply G1_assign | apply G1_move | apply G1_nilCheck); exact rfl; exact rfl) | (apply G1_fieldAddr; exact T.f109_3; exact rfl; exact rfl) | (apply G1_loadB; exact T.p3; exact rfl; assumption; exact rfl; exact rfl) | (apply G1_lss; exact rfl; exact rfl; exact rfl)) | apply G_nil | apply Post_next | apply W_seq | apply W_region | (apply W_cond_dec; exact rfl; all_goals (intro h; try (exfalso; omega))))
      apply G_on; exact rfl; apply G1_call (f := 52); exact rfl; exact rfl; exact rfl; exact hline; intro v w2 hv; refine ⟨.inl rfl, ?_⟩
      obtain ⟨hF2, rfl, hR2⟩ := hv
      repeat' (first | (apply G_on; exact rfl; first | ((first | apply G1_assign | apply G1_move); exact rfl; exact rfl) | (apply G1_extract; exact rfl; exact rfl; exact rfl) | (apply G1_not_f; exact rfl; exact rfl)) | apply G_nil | apply Post_next | apply W_seq | apply W_region | (apply W_cond_true; exact rfl) | apply W_ret | apply Post_then_ret)
      refine Post_ret Tryz.results51 ⟨_, _, rfl, rfl, _, _, rfl, rfl, rfl⟩ ?_
      unfold WordA
      rw [hW0, ← hW]
      exact ⟨hF2, rfl, hR2⟩
    | err e =>
      rw [hl] at hW hline
      simp only at hW
      repeat' (first | (apply G_on; exact rfl; first | ((first | apply G1_assign | apply G1_move | apply G1_nilCheck); exact rfl; exact rfl) | (apply G1_fieldAddr; exact T.f109_3; exact rfl; exact rfl) | (apply G1_loadB; exact T.p3; exact rfl; assumption; exact rfl; exact rfl) | (apply G1_lss; exact rfl; exact rfl; exact rfl)) | apply G_nil | apply Post_next | apply W_seq | apply W_region | (apply W_cond_dec; exact rfl; all_goals (intro h; try (exfalso; omega))))
      apply G_on; exact rfl; apply G1_call (f := 52); exact rfl; exact rfl; exact rfl; exact hline; intro v w2 hv; refine ⟨.inl rfl, ?_⟩
      obtain ⟨hF2, rfl, hR2⟩ := hv
      repeat' (first | (apply G_on; exact rfl; first | ((first | apply G1_assign | apply G1_move); exact rfl; exact rfl) | (apply G1_extract; exact rfl; exact rfl; exact rfl) | (apply G1_not_f; exact rfl; exact rfl)) | apply G_nil | apply Post_next | apply W_seq | apply W_region | (apply W_cond_true; exact rfl) | apply W_ret | apply Post_then_ret)
      refine Post_ret Tryz.results51 ⟨_, _, rfl, rfl, _, _, rfl, rfl, rfl⟩ ?_
      unfold WordA
      rw [hW0, ← hW]
      exact ⟨hF2, rfl, a, r, hR2⟩
    | ok s k =>
      have hlk := line_len hl
      have hlk2 := (line_ok hl).2.1
      have hlk3 := (line_ok hl).2.2.2.2.2
      rw [List.length_drop] at hlk
      rw [hl] at hW hline
      simp only at hW
      repeat' (first | (apply G_on; exact rfl; first | ((first | apply G1_assign | apply G1_move | apply G1_nilCheck); exact rfl; exact rfl) | (apply G1_fieldAddr; exact T.f109_3; exact rfl; exact rfl) | (apply G1_loadB; exact T.p3; exact rfl; assumption; exact rfl; exact rfl) | (apply G1_lss; exact rfl; exact rfl; exact rfl)) | apply G_nil | apply Post_next | apply W_seq | apply W_region | (apply W_cond_dec; exact rfl; all_goals (intro h; try (exfalso; omega))))
      apply G_on; exact rfl; apply G1_call (f := 52); exact rfl; exact rfl; exact rfl; exact hline; intro v w2 hv; refine ⟨.inl rfl, ?_⟩
      obtain ⟨hF2, rfl, hR2⟩ := hv
      have hnum := number_spec (m := 36) (mi := 36) (s := s) (lo := 0) (hi := 4096) hR2 rfl (by omega) hT hE
      have hlk4 : s.length ≤ 1000000000 := by omega
      cases hn : numP s 36 0 4096 with
      | error e =>
        rw [hn] at hW hnum
        simp only at hW
        repeat' (first | (apply G_on; exact rfl; first | ((first | apply G1_assign | apply G1_move); exact rfl; exact rfl) | (apply G1_extract; exact rfl; exact rfl; exact rfl) | (apply G1_not_t; exact rfl; exact rfl)) | apply G_nil | apply Post_next | apply W_seq | apply W_region | (apply W_cond_false; exact rfl) | apply W_skip)
        apply G_on; exact rfl; apply G1_call (f := 54); exact rfl; exact rfl; exact rfl; exact hnum; intro v w3 hv; refine ⟨.inl rfl, ?_⟩
        obtain ⟨hF3, rfl, hR3⟩ := hv
        repeat' (first | (apply G_on; exact rfl; first | ((first | apply G1_assign | apply G1_move); exact rfl; exact rfl) | (apply G1_extract; exact rfl; exact rfl; exact rfl) | (apply G1_not_f; exact rfl; exact rfl)) | apply G_nil | apply Post_next | apply W_seq | apply W_region | (apply W_cond_true; exact rfl) | apply W_ret | apply Post_then_ret)
        refine Post_ret Tryz.results51 ⟨_, _, rfl, rfl, _, _, rfl, rfl, rfl⟩ ?_
        unfold WordA
        rw [hW0, ← hW]
        exact ⟨hF2.trans hF3 (fun _ _ h => h), rfl, _, r, hR3⟩
      | ok n =>
        have hnb := num_ok hn
        rw [hn] at hW hnum
        simp only [List.drop_drop] at hW
        repeat' (first | (apply G_on; exact rfl; first | ((first | apply G1_assign | apply G1_move); exact rfl; exact rfl) | (apply G1_extract; exact rfl; exact rfl; exact rfl) | (apply G1_not_t; exact rfl; exact rfl)) | apply G_nil | apply Post_next | apply W_seq | apply W_region | (apply W_cond_false; exact rfl) | apply W_skip)
        apply G_on; exact rfl; apply G1_call (f := 54); exact rfl; exact rfl; exact rfl; exact hnum; intro v w3 hv; refine ⟨.inl rfl, ?_⟩
        obtain ⟨hF3, rfl, hR3⟩ := hv
        have hbk3 := hR3.blk
        have hss := mkStr_size s
        have hla3 := hR3.la
        repeat' (first | (apply G_on; exact rfl; first | ((first | apply G1_assign | apply G1_move | apply G1_nilCheck); exact rfl; exact rfl) | (apply G1_fieldAddr; exact T.f109_3; exact rfl; exact rfl) | (apply G1_extract; exact rfl; exact rfl; exact rfl) | (apply G1_not_t; exact rfl; exact rfl)) | apply G_nil | apply Post_next | apply W_seq | apply W_region | (apply W_cond_false; exact rfl) | apply W_skip)
        apply G_on; exact rfl; apply G1_storeB; exact T.z3; exact rfl; exact rfl; exact hbk3; exact rfl; exact rfl; (first | exact Nat.le_of_ble_eq_true rfl | (focus (simp [Value.cells]; done))); (first | exact Enc.one _ _ | (focus (simp [Value.oneCell']; done)) | (focus (simp [Value.cells, Value.oneCell']; done)) | exact Enc.oneAgg _ _); exact rfl; (first | exact .inl rfl | exact .inr (by simp [exempt])); exact rfl; intro w4 hA4 hg4 hs4
        repeat' (first | (apply G_on; exact rfl; first | ((first | apply G1_move | apply G1_nilCheck); exact rfl; exact rfl) | (apply G1_fieldAddr; exact T.f109_5; exact rfl; exact rfl) | (apply G1_loadB; exact T.p3; exact rfl; assumption; exact rfl; exact rfl) | (apply G1_slen; exact T.str9; exact rfl; exact rfl) | (apply G1_add; exact rfl; exact rfl; omega; omega; exact rfl)) | apply G_nil | apply Post_next | apply W_region)
        apply G_on; exact rfl; apply G1_storeB; exact T.z3; exact rfl; exact rfl; exact hA4; exact rfl; exact rfl; (first | exact Nat.le_of_ble_eq_true rfl | (focus (simp [Value.cells]; done))); (first | exact Enc.one _ _ | (focus (simp [Value.oneCell']; done)) | (focus (simp [Value.cells, Value.oneCell']; done)) | exact Enc.oneAgg _ _); exact rfl; (first | exact .inl rfl | exact .inr (by simp [exempt])); exact rfl; intro w5 hA5 hg5 hs5
        replace hA5 : Blk w5.heap ar 109 [.slice p inp.length c, .int .i64 ((a + k : Nat) : Int), .int .i64 (r.left : Int), .int .i64 n, .slice pw r.words.length cw, .int .i64 ((r.held : Int) + (((mkStr s).size : Int) + 2)), .int .i64 0] := hA5
        rw [show (r.held : Int) + (((mkStr s).size : Int) + 2) = ((r.held + k : Nat) : Int) by rw [hss]; omega] at hA5
        have hgg := grown_same hg4 hg5
        have hR5 := hR3.set (r' := { r with size := n, held := r.held + k }) hgg hA5 rfl hla3
        have hF5 := fr_ar (hF2.trans hF3 (fun _ _ h => h)) hgg
        obtain ⟨a1, ha1⟩ : ∃ a1, a1 = a + k := ⟨_, rfl⟩
        rw [← ha1] at hR5 hW
        rw [hW0]
        clear hbk0 hbk3 hA4 hA5 hnum hline hR3 hR2 hR
        have hX := hR5
        have hF := hF5
        obtain ⟨u, hu⟩ : ∃ u : Nat, n = (u : Int) := ⟨(n).toNat, by omega⟩
        have hbk := hX.blk
        have hC := hX.row.sl
        have hok := hC.ok
        have hle := hok.le
        have hla := hX.la
        try simp only at hbk
        rw [hu] at hbk
        have hut : (n).toNat = u := by rw [hu]; exact Int.toNat_natCast u
        have hcl : (inp.drop a1).length = inp.length - a1 := List.length_drop
        have hD : Sl w5.heap eByte (subp p c a1 1) (c - a1) (inp.drop a1) := hC.drop (by omega)
        have hokD : Okp (subp p c a1 1) (inp.length - a1) (c - a1) := hcl ▸ hD.ok
        have hleD := hokD.le
        unfold sizedP at hW
        simp only [hut, hcl] at hW
        by_cases hmr : inp.length - a1 < u + 2
        · rw [if_pos hmr] at hW
          repeat' (first | (apply G_on; exact rfl; first | ((first | apply G1_assign | apply G1_move | apply G1_nilCheck); exact rfl; exact rfl) | (apply G1_sliceLoJ (q := a1); exact T.s22; exact rfl; exact rfl; exact rfl; exact hok; omega; exact rfl) | (apply G1_fieldAddr; (first | exact T.f109_3 | exact T.f109_0 | exact T.f109_1); exact rfl; exact rfl) | (apply G1_loadB; (first | exact T.p3 | exact T.p22); exact rfl; assumption; exact rfl; exact rfl) | (apply G1_lss; exact rfl; exact rfl; exact rfl) | (apply G1_add; exact rfl; exact rfl; omega; omega; exact rfl) | (apply G1_len; exact T.s22; exact rfl; exact rfl)) | apply G_nil | apply Post_next | apply W_seq | apply W_region | (apply W_cond_dec; exact rfl; all_goals (intro h; try (exfalso; omega))) | refine W_drawn 1 [] [0,1,2,3,4,5,6,7,8,9] mixed (by decide +kernel) ?_ | apply W_ret | apply Post_then_ret)
          all_goals try (exfalso; omega)
          refine Post_ret Tryz.results51 ⟨_, _, rfl, rfl, _, _, rfl, rfl, rfl⟩ ?_
          unfold WordA
          rw [← hW]
          exact ⟨hF.trans (FrS.of_ext (F := fun q => q = ar) (by repeat first | assumption | exact Ext.rfl' | apply Ext.drew | apply Ext.alloc | refine Ext.trans ?_ (by assumption))) (fun _ _ h => h), rfl, by rw [← ha1]; exact hX.xt (by repeat first | assumption | exact Ext.rfl' | apply Ext.drew | apply Ext.alloc | refine Ext.trans ?_ (by assumption))⟩
        · rw [if_neg hmr] at hW
          obtain ⟨x2, hx2'⟩ := get_some (xs := inp.drop a1) (k := u) (by omega)
          obtain ⟨y2, hy2'⟩ := get_some (xs := inp.drop a1) (k := u + 1) (by omega)
          have hdu : ((inp.drop a1).drop u).take 2 = [x2, y2] := by rw [drop_at hx2', drop_at hy2']; rfl
          have hS2 : Sl w5.heap eByte (subp (subp p c a1 1) (c - a1) u 1) (c - a1 - u) [x2, y2] := by
            have h1 := (hD.drop (l := u) (by omega)).take 2
            rw [hdu] at h1
            exact h1
          rw [hdu] at hW
          by_cases hp2 : [x2, y2] = ([13, 10] : List UInt8)
          · rw [if_pos hp2] at hW
            have hcr : mkStr [x2, y2] = ⟨#[13, 10]⟩ := by rw [hp2]; rfl
            have hS3 : Sl w5.heap eByte (subp p c a1 1) (c - a1) ((inp.drop a1).take u) := hD.take u
            repeat' (first | (apply G_on; exact rfl; first | ((first | apply G1_assign | apply G1_move | apply G1_nilCheck); exact rfl; exact rfl) | (apply G1_sliceLoJ (q := a1); exact T.s22; exact rfl; exact rfl; exact rfl; exact hok; omega; exact rfl) | (apply G1_sliceBothJ (q := u) (r := u + 2); exact T.s22; exact rfl; exact rfl; exact rfl; omega; omega; omega; omega; exact rfl) | (apply G1_toStringL (bs := [x2, y2]); exact T.s22; exact T.i5; exact T.str9; exact rfl; (simp only [List.length_cons, List.length_nil]; omega); exact hS2.ext (by repeat first | assumption | exact Ext.rfl' | apply Ext.drew | apply Ext.alloc | refine Ext.trans ?_ (by assumption)); exact rfl) | (apply G1_sneF; exact rfl; exact rfl; exact hcr; exact rfl) | (apply G1_sliceHiJ (q := u); exact T.s22; exact rfl; exact rfl; omega; omega; exact rfl) | (apply G1_toStringL (bs := (inp.drop a1).take u); exact T.s22; exact T.i5; exact T.str9; exact rfl; (rw [List.length_take]; omega); exact hS3.ext (by repeat first | assumption | exact Ext.rfl' | apply Ext.drew | apply Ext.alloc | refine Ext.trans ?_ (by assumption)); exact rfl) | (apply G1_fieldAddr; (first | exact T.f109_3 | exact T.f109_0 | exact T.f109_1); exact rfl; exact rfl) | (apply G1_loadB; (first | exact T.p3 | exact T.p22); exact rfl; assumption; exact rfl; exact rfl) | (apply G1_lss; exact rfl; exact rfl; exact rfl) | (apply G1_add; exact rfl; exact rfl; omega; omega; exact rfl) | (apply G1_len; exact T.s22; exact rfl; exact rfl)) | apply G_nil | apply Post_next | apply W_seq | apply W_region | (apply W_cond_false; exact rfl) | (apply W_cond_dec; exact rfl; all_goals (intro h; try (exfalso; omega))) | refine W_drawn 1 [] [0,1,2,3,4,5,6,7,8,9] mixed (by decide +kernel) ?_ | apply W_skip)
            all_goals try (exfalso; omega)
            apply G_on; exact rfl; apply G1_storeB; exact T.z3; exact rfl; exact rfl; exact hbk; exact rfl; exact rfl; (first | exact Nat.le_of_ble_eq_true rfl | (focus (simp [Value.cells]; done))); (first | exact Enc.one _ _ | (focus (simp [Value.oneCell']; done)) | (focus (simp [Value.cells, Value.oneCell']; done)) | exact Enc.oneAgg _ _); exact rfl; (first | exact .inl rfl | exact .inr (by simp [exempt])); exact rfl; intro v1 hV1 hj1 hn1
            repeat' (first | (apply G_on; exact rfl; first | ((first | apply G1_move | apply G1_nilCheck); exact rfl; exact rfl) | (apply G1_fieldAddr; exact T.f109_5; exact rfl; exact rfl) | (apply G1_loadB; exact T.p3; exact rfl; assumption; exact rfl; exact rfl) | (apply G1_add; exact rfl; exact rfl; omega; omega; exact rfl)) | apply G_nil | apply Post_next | apply W_seq | apply W_region)
            apply G_on; exact rfl; apply G1_storeB; exact T.z3; exact rfl; exact rfl; exact hV1; exact rfl; exact rfl; (first | exact Nat.le_of_ble_eq_true rfl | (focus (simp [Value.cells]; done))); (first | exact Enc.one _ _ | (focus (simp [Value.oneCell']; done)) | (focus (simp [Value.cells, Value.oneCell']; done)) | exact Enc.oneAgg _ _); exact rfl; (first | exact .inl rfl | exact .inr (by simp [exempt])); exact rfl; intro v2 hV2 hj2 hn2
            repeat' (first | (apply G_on; exact rfl; first | ((first | apply G1_move | apply G1_nilCheck); exact rfl; exact rfl) | (apply G1_fieldAddr; exact T.f109_3; exact rfl; exact rfl)) | apply G_nil | apply Post_next | apply W_seq | apply W_region)
            apply G_on; exact rfl; apply G1_storeB; exact T.z3; exact rfl; exact rfl; exact hV2; exact rfl; exact rfl; (first | exact Nat.le_of_ble_eq_true rfl | (focus (simp [Value.cells]; done))); (first | exact Enc.one _ _ | (focus (simp [Value.oneCell']; done)) | (focus (simp [Value.cells, Value.oneCell']; done)) | exact Enc.oneAgg _ _); exact rfl; (first | exact .inl rfl | exact .inr (by simp [exempt])); exact rfl; intro v3 hV3 hj3 hn3
            replace hV3 : Blk v3.heap ar 109 [.slice p inp.length c, .int .i64 ((a1 : Int) + ((u : Int) + 2)), .int .i64 (r.left : Int), .int .i64 (-1), .slice pw r.words.length cw, .int .i64 ((((r.held + k) : Nat) : Int) + ((u : Int) + 2)), .int .i64 0] := hV3
            rw [show (a1 : Int) + ((u : Int) + 2) = ((a1 + (u + 2) : Nat) : Int) by omega, show (((r.held + k) : Nat) : Int) + ((u : Int) + 2) = (((r.held + k) + (u + 2) : Nat) : Int) by omega] at hV3
            repeat' (first | (apply G_on; exact rfl; ((first | apply G1_assign | apply G1_move); exact rfl; exact rfl)) | apply G_nil | apply Post_next | apply W_seq | apply W_region | apply W_ret)
            refine Post_ret Tryz.results51 ⟨_, _, rfl, rfl, _, _, rfl, rfl, rfl⟩ ?_
            unfold WordA
            rw [← hW]
            have hxx : Ext w5 w5 := Ext.rfl'
            have hjj := grown_same (grown_same hj1 hj2) hj3
            have hl2 : a1 + (u + 2) ≤ inp.length := by omega
            have h4 := (hX.xt (Ext.drew hxx)).set (r' := { r with size := -1, held := (r.held + k) + (u + 2) }) hjj hV3 rfl hl2
            refine ⟨fr_ar (hF.trans (FrS.of_ext (F := fun q => q = ar) (Ext.drew hxx)) (fun _ _ h => h)) hjj, rfl, ?_⟩
            rw [show a + (k + (u + 2)) = a1 + (u + 2) by omega]
            exact h4
          · rw [if_neg hp2] at hW
            have hcr : ¬ mkStr [x2, y2] = ⟨#[13, 10]⟩ := fun e => hp2 (by
              have e2 : (⟨#[13, 10]⟩ : ByteArray) = mkStr [13, 10] := rfl
              rw [e2] at e
              exact mkStr_inj.1 e)
            repeat' (first | (apply G_on; exact rfl; first | ((first | apply G1_assign | apply G1_move | apply G1_nilCheck); exact rfl; exact rfl) | (apply G1_sliceLoJ (q := a1); exact T.s22; exact rfl; exact rfl; exact rfl; exact hok; omega; exact rfl) | (apply G1_sliceBothJ (q := u) (r := u + 2); exact T.s22; exact rfl; exact rfl; exact rfl; omega; omega; omega; omega; exact rfl) | (apply G1_toStringL (bs := [x2, y2]); exact T.s22; exact T.i5; exact T.str9; exact rfl; (simp only [List.length_cons, List.length_nil]; omega); exact hS2.ext (by repeat first | assumption | exact Ext.rfl' | apply Ext.drew | apply Ext.alloc | refine Ext.trans ?_ (by assumption)); exact rfl) | (apply G1_sneT; exact rfl; exact rfl; exact hcr; exact rfl) | (apply G1_fieldAddr; (first | exact T.f109_3 | exact T.f109_0 | exact T.f109_1 | exact T.f109_6); exact rfl; exact rfl) | (apply G1_loadB; (first | exact T.p3 | exact T.p22); exact rfl; assumption; exact rfl; exact rfl) | (apply G1_lss; exact rfl; exact rfl; exact rfl) | (apply G1_add; exact rfl; exact rfl; omega; omega; exact rfl) | (apply G1_len; exact T.s22; exact rfl; exact rfl)) | apply G_nil | apply Post_next | apply W_seq | apply W_region | (apply W_cond_true; exact rfl) | (apply W_cond_dec; exact rfl; all_goals (intro h; try (exfalso; omega))) | refine W_drawn 1 [] [0,1,2,3,4,5,6,7,8,9] mixed (by decide +kernel) ?_ | apply W_skip)
            all_goals try (exfalso; omega)
            apply G_on; exact rfl; apply G1_storeB; exact T.z44; exact rfl; exact rfl; exact hbk; exact rfl; exact rfl; (first | exact Nat.le_of_ble_eq_true rfl | (focus (simp [Value.cells]; done))); (first | exact Enc.one _ _ | (focus (simp [Value.oneCell']; done)) | (focus (simp [Value.cells, Value.oneCell']; done)) | exact Enc.oneAgg _ _); exact rfl; (first | exact .inl rfl | exact .inr (by simp [exempt])); exact rfl; intro v1 hV1 hj1 hn1
            replace hV1 : Blk v1.heap ar 109 [.slice p inp.length c, .int .i64 (a1 : Int), .int .i64 (r.left : Int), .int .i64 (u : Int), .slice pw r.words.length cw, .int .i64 (((r.held + k) : Nat) : Int), .int .i64 10] := hV1
            repeat' (first | (apply G_on; exact rfl; (apply G1_assign; exact rfl; exact rfl)) | apply G_nil | apply Post_next | apply W_seq | apply W_region | apply W_ret | apply Post_then_ret)
            refine Post_ret Tryz.results51 ⟨_, _, rfl, rfl, _, _, rfl, rfl, rfl⟩ ?_
            unfold WordA
            rw [← hW]
            have hxx : Ext w5 w5 := Ext.rfl'
            exact ⟨fr_ar (hF.trans (FrS.of_ext (F := fun q => q = ar) (Ext.drew hxx)) (fun _ _ h => h)) hj1, rfl, a1, _, (hX.xt (Ext.drew hxx)).set (r' := { r with size := (u : Int), held := (r.held + k) }) hj1 hV1 rfl hla⟩
  · rw [if_neg hsz] at hW
    obtain ⟨a1, ha1⟩ : ∃ a1, a1 = a + 0 := ⟨_, rfl⟩
    have ha1' : a1 = a := by omega
    have hR1 : RdSt w0 w ar B p c inp a1 pw cw r 0 := by rw [ha1']; exact hR
    rw [← ha1'] at hW
    rw [hW0]
    clear hbk0
    have hW : sizedP r (inp.drop a1) 0 = W0 := hW
    have hX := hR1
    have hF := (FrS.of_ext (F := fun q => q = ar) (Ext.rfl' (w := w)))
    obtain ⟨u, hu⟩ : ∃ u : Nat, r.size = (u : Int) := ⟨(r.size).toNat, by omega⟩
    have hbk := hX.blk
    have hC := hX.row.sl
    have hok := hC.ok
    have hle := hok.le
    have hla := hX.la
    try simp only at hbk
    rw [hu] at hbk
    have hut : (r.size).toNat = u := by rw [hu]; exact Int.toNat_natCast u
    have hcl : (inp.drop a1).length = inp.length - a1 := List.length_drop
    have hD : Sl w.heap eByte (subp p c a1 1) (c - a1) (inp.drop a1) := hC.drop (by omega)
    have hokD : Okp (subp p c a1 1) (inp.length - a1) (c - a1) := hcl ▸ hD.ok
    have hleD := hokD.le
    unfold sizedP at hW
    simp only [hut, hcl] at hW
    by_cases hmr : inp.length - a1 < u + 2
    · rw [if_pos hmr] at hW
      repeat' (first | (apply G_on; exact rfl; first | ((first | apply G1_assign | apply G1_move | apply G1_nilCheck); exact rfl; exact rfl) | (apply G1_sliceLoJ (q := a1); exact T.s22; exact rfl; exact rfl; exact rfl; exact hok; omega; exact rfl) | (apply G1_fieldAddr; (first | exact T.f109_3 | exact T.f109_0 | exact T.f109_1); exact rfl; exact rfl) | (apply G1_loadB; (first | exact T.p3 | exact T.p22); exact rfl; assumption; exact rfl; exact rfl) | (apply G1_lss; exact rfl; exact rfl; exact rfl) | (apply G1_add; exact rfl; exact rfl; omega; omega; exact rfl) | (apply G1_len; exact T.s22; exact rfl; exact rfl)) | apply G_nil | apply Post_next | apply W_seq | apply W_region | (apply W_cond_false; exact rfl) | (apply W_cond_dec; exact rfl; all_goals (intro h; try (exfalso; omega))) | refine W_drawn 1 [] [0,1,2,3,4,5,6,7,8,9] mixed (by decide +kernel) ?_ | apply W_skip | apply W_ret | apply Post_then_ret)
      all_goals try (exfalso; omega)
      refine Post_ret Tryz.results51 ⟨_, _, rfl, rfl, _, _, rfl, rfl, rfl⟩ ?_
      unfold WordA
      rw [← hW]
      exact ⟨hF.trans (FrS.of_ext (F := fun q => q = ar) (by repeat first | assumption | exact Ext.rfl' | apply Ext.drew | apply Ext.alloc | refine Ext.trans ?_ (by assumption))) (fun _ _ h => h), rfl, by rw [← ha1]; exact hX.xt (by repeat first | assumption | exact Ext.rfl' | apply Ext.drew | apply Ext.alloc | refine Ext.trans ?_ (by assumption))⟩
    · rw [if_neg hmr] at hW
      obtain ⟨x2, hx2'⟩ := get_some (xs := inp.drop a1) (k := u) (by omega)
      obtain ⟨y2, hy2'⟩ := get_some (xs := inp.drop a1) (k := u + 1) (by omega)
      have hdu : ((inp.drop a1).drop u).take 2 = [x2, y2] := by rw [drop_at hx2', drop_at hy2']; rfl
      have hS2 : Sl w.heap eByte (subp (subp p c a1 1) (c - a1) u 1) (c - a1 - u) [x2, y2] := by
        have h1 := (hD.drop (l := u) (by omega)).take 2
        rw [hdu] at h1
        exact h1
      rw [hdu] at hW
      by_cases hp2 : [x2, y2] = ([13, 10] : List UInt8)
      · rw [if_pos hp2] at hW
        have hcr : mkStr [x2, y2] = ⟨#[13, 10]⟩ := by rw [hp2]; rfl
        have hS3 : Sl w.heap eByte (subp p c a1 1) (c - a1) ((inp.drop a1).take u) := hD.take u
        repeat' (first | (apply G_on; exact rfl; first | ((first | apply G1_assign | apply G1_move | apply G1_nilCheck); exact rfl; exact rfl) | (apply G1_sliceLoJ (q := a1); exact T.s22; exact rfl; exact rfl; exact rfl; exact hok; omega; exact rfl) | (apply G1_sliceBothJ (q := u) (r := u + 2); exact T.s22; exact rfl; exact rfl; exact rfl; omega; omega; omega; omega; exact rfl) | (apply G1_toStringL (bs := [x2, y2]); exact T.s22; exact T.i5; exact T.str9; exact rfl; (simp only [List.length_cons, List.length_nil]; omega); exact hS2.ext (by repeat first | assumption | exact Ext.rfl' | apply Ext.drew | apply Ext.alloc | refine Ext.trans ?_ (by assumption)); exact rfl) | (apply G1_sneF; exact rfl; exact rfl; exact hcr; exact rfl) | (apply G1_sliceHiJ (q := u); exact T.s22; exact rfl; exact rfl; omega; omega; exact rfl) | (apply G1_toStringL (bs := (inp.drop a1).take u); exact T.s22; exact T.i5; exact T.str9; exact rfl; (rw [List.length_take]; omega); exact hS3.ext (by repeat first | assumption | exact Ext.rfl' | apply Ext.drew | apply Ext.alloc | refine Ext.trans ?_ (by assumption)); exact rfl) | (apply G1_fieldAddr; (first | exact T.f109_3 | exact T.f109_0 | exact T.f109_1); exact rfl; exact rfl) | (apply G1_loadB; (first | exact T.p3 | exact T.p22); exact rfl; assumption; exact rfl; exact rfl) | (apply G1_lss; exact rfl; exact rfl; exact rfl) | (apply G1_add; exact rfl; exact rfl; omega; omega; exact rfl) | (apply G1_len; exact T.s22; exact rfl; exact rfl)) | apply G_nil | apply Post_next | apply W_seq | apply W_region | (apply W_cond_false; exact rfl) | (apply W_cond_dec; exact rfl; all_goals (intro h; try (exfalso; omega))) | refine W_drawn 1 [] [0,1,2,3,4,5,6,7,8,9] mixed (by decide +kernel) ?_ | apply W_skip)
        all_goals try (exfalso; omega)
        apply G_on; exact rfl; apply G1_storeB; exact T.z3; exact rfl; exact rfl; exact hbk; exact rfl; exact rfl; (first | exact Nat.le_of_ble_eq_true rfl | (focus (simp [Value.cells]; done))); (first | exact Enc.one _ _ | (focus (simp [Value.oneCell']; done)) | (focus (simp [Value.cells, Value.oneCell']; done)) | exact Enc.oneAgg _ _); exact rfl; (first | exact .inl rfl | exact .inr (by simp [exempt])); exact rfl; intro v1 hV1 hj1 hn1
        repeat' (first | (apply G_on; exact rfl; first | ((first | apply G1_move | apply G1_nilCheck); exact rfl; exact rfl) | (apply G1_fieldAddr; exact T.f109_5; exact rfl; exact rfl) | (apply G1_loadB; exact T.p3; exact rfl; assumption; exact rfl; exact rfl) | (apply G1_add; exact rfl; exact rfl; omega; omega; exact rfl)) | apply G_nil | apply Post_next | apply W_seq | apply W_region)
        apply G_on; exact rfl; apply G1_storeB; exact T.z3; exact rfl; exact rfl; exact hV1; exact rfl; exact rfl; (first | exact Nat.le_of_ble_eq_true rfl | (focus (simp [Value.cells]; done))); (first | exact Enc.one _ _ | (focus (simp [Value.oneCell']; done)) | (focus (simp [Value.cells, Value.oneCell']; done)) | exact Enc.oneAgg _ _); exact rfl; (first | exact .inl rfl | exact .inr (by simp [exempt])); exact rfl; intro v2 hV2 hj2 hn2
        repeat' (first | (apply G_on; exact rfl; first | ((first | apply G1_move | apply G1_nilCheck); exact rfl; exact rfl) | (apply G1_fieldAddr; exact T.f109_3; exact rfl; exact rfl)) | apply G_nil | apply Post_next | apply W_seq | apply W_region)
        apply G_on; exact rfl; apply G1_storeB; exact T.z3; exact rfl; exact rfl; exact hV2; exact rfl; exact rfl; (first | exact Nat.le_of_ble_eq_true rfl | (focus (simp [Value.cells]; done))); (first | exact Enc.one _ _ | (focus (simp [Value.oneCell']; done)) | (focus (simp [Value.cells, Value.oneCell']; done)) | exact Enc.oneAgg _ _); exact rfl; (first | exact .inl rfl | exact .inr (by simp [exempt])); exact rfl; intro v3 hV3 hj3 hn3
        replace hV3 : Blk v3.heap ar 109 [.slice p inp.length c, .int .i64 ((a1 : Int) + ((u : Int) + 2)), .int .i64 (r.left : Int), .int .i64 (-1), .slice pw r.words.length cw, .int .i64 (((r.held : Nat) : Int) + ((u : Int) + 2)), .int .i64 0] := hV3
        rw [show (a1 : Int) + ((u : Int) + 2) = ((a1 + (u + 2) : Nat) : Int) by omega, show ((r.held : Nat) : Int) + ((u : Int) + 2) = ((r.held + (u + 2) : Nat) : Int) by omega] at hV3
        repeat' (first | (apply G_on; exact rfl; ((first | apply G1_assign | apply G1_move); exact rfl; exact rfl)) | apply G_nil | apply Post_next | apply W_seq | apply W_region | apply W_ret)
        refine Post_ret Tryz.results51 ⟨_, _, rfl, rfl, _, _, rfl, rfl, rfl⟩ ?_
        unfold WordA
        rw [← hW]
        have hxx : Ext w w := Ext.rfl'
        have hjj := grown_same (grown_same hj1 hj2) hj3
        have hl2 : a1 + (u + 2) ≤ inp.length := by omega
        have h4 := (hX.xt (Ext.drew hxx)).set (r' := { r with size := -1, held := r.held + (u + 2) }) hjj hV3 rfl hl2
        refine ⟨fr_ar (hF.trans (FrS.of_ext (F := fun q => q = ar) (Ext.drew hxx)) (fun _ _ h => h)) hjj, rfl, ?_⟩
        rw [show a + (0 + (u + 2)) = a1 + (u + 2) by omega]
        exact h4
      · rw [if_neg hp2] at hW
        have hcr : ¬ mkStr [x2, y2] = ⟨#[13, 10]⟩ := fun e => hp2 (by
          have e2 : (⟨#[13, 10]⟩ : ByteArray) = mkStr [13, 10] := rfl
          rw [e2] at e
          exact mkStr_inj.1 e)
        repeat' (first | (apply G_on; exact rfl; first | ((first | apply G1_assign | apply G1_move | apply G1_nilCheck); exact rfl; exact rfl) | (apply G1_sliceLoJ (q := a1); exact T.s22; exact rfl; exact rfl; exact rfl; exact hok; omega; exact rfl) | (apply G1_sliceBothJ (q := u) (r := u + 2); exact T.s22; exact rfl; exact rfl; exact rfl; omega; omega; omega; omega; exact rfl) | (apply G1_toStringL (bs := [x2, y2]); exact T.s22; exact T.i5; exact T.str9; exact rfl; (simp only [List.length_cons, List.length_nil]; omega); exact hS2.ext (by repeat first | assumption | exact Ext.rfl' | apply Ext.drew | apply Ext.alloc | refine Ext.trans ?_ (by assumption)); exact rfl) | (apply G1_sneT; exact rfl; exact rfl; exact hcr; exact rfl) | (apply G1_fieldAddr; (first | exact T.f109_3 | exact T.f109_0 | exact T.f109_1 | exact T.f109_6); exact rfl; exact rfl) | (apply G1_loadB; (first | exact T.p3 | exact T.p22); exact rfl; assumption; exact rfl; exact rfl) | (apply G1_lss; exact rfl; exact rfl; exact rfl) | (apply G1_add; exact rfl; exact rfl; omega; omega; exact rfl) | (apply G1_len; exact T.s22; exact rfl; exact rfl)) | apply G_nil | apply Post_next | apply W_seq | apply W_region | (apply W_cond_true; exact rfl) | (apply W_cond_false; exact rfl) | (apply W_cond_dec; exact rfl; all_goals (intro h; try (exfalso; omega))) | refine W_drawn 1 [] [0,1,2,3,4,5,6,7,8,9] mixed (by decide +kernel) ?_ | apply W_skip)
        all_goals try (exfalso; omega)
        apply G_on; exact rfl; apply G1_storeB; exact T.z44; exact rfl; exact rfl; exact hbk; exact rfl; exact rfl; (first | exact Nat.le_of_ble_eq_true rfl | (focus (simp [Value.cells]; done))); (first | exact Enc.one _ _ | (focus (simp [Value.oneCell']; done)) | (focus (simp [Value.cells, Value.oneCell']; done)) | exact Enc.oneAgg _ _); exact rfl; (first | exact .inl rfl | exact .inr (by simp [exempt])); exact rfl; intro v1 hV1 hj1 hn1
        replace hV1 : Blk v1.heap ar 109 [.slice p inp.length c, .int .i64 (a1 : Int), .int .i64 (r.left : Int), .int .i64 (u : Int), .slice pw r.words.length cw, .int .i64 ((r.held : Nat) : Int), .int .i64 10] := hV1
        repeat' (first | (apply G_on; exact rfl; (apply G1_assign; exact rfl; exact rfl)) | apply G_nil | apply Post_next | apply W_seq | apply W_region | apply W_ret | apply Post_then_ret)
        refine Post_ret Tryz.results51 ⟨_, _, rfl, rfl, _, _, rfl, rfl, rfl⟩ ?_
        unfold WordA
        rw [← hW]
        have hxx : Ext w w := Ext.rfl'
        exact ⟨fr_ar (hF.trans (FrS.of_ext (F := fun q => q = ar) (Ext.drew hxx)) (fun _ _ h => h)) hj1, rfl, a1, _, (hX.xt (Ext.drew hxx)).set (r' := { r with size := (u : Int), held := r.held }) hj1 hV1 rfl hla⟩
end Go.Proofs.YtipbakiecocioaaGreatDoor

/- Requests: the words of a line, the beginning of one; what a reader drops at last; the walks. -/

namespace Go.V
section
variable {P : Program} {n : Nat} {ops : Array Oper} {dr : Nat × List Nat} {l : List Oper} {E : Env} {w : World} {K : Env → World → Prop}
variable {d : Option Nat} {ty : TypeId} {pos : String} {af : Array Edge} {g : Option (Nat × Bool)} {x y : Operand} {i : Int} {t t' : TypeId} {s s' : ByteArray}
theorem G1_seF (hx : E.look x = some (.string s)) (hy : E.look y = some (.string s')) (hne : ¬ s = s') (hd : dstOk n d = true) (h : G P n ops dr l (E.put d (.bool false)) w K) : G1 P n ops dr ⟨d, .binOp .eql t x y t', ty, pos, af, g⟩ l E w K :=
  G1_seql hx hy hd (by rw [decide_eq_false hne]; exact h)
theorem G1_seT (hx : E.look x = some (.string s)) (hy : E.look y = some (.string s')) (he : s = s') (hd : dstOk n d = true) (h : G P n ops dr l (E.put d (.bool true)) w K) : G1 P n ops dr ⟨d, .binOp .eql t x y t', ty, pos, af, g⟩ l E w K :=
  G1_seql hx hy hd (by rw [decide_eq_true he]; exact h)
/-- the library's search for a byte in a string -/
theorem G1_indexByteT {f : FuncId} {fn : Func} {tys : Array TypeId} (hf : P.funcs[f]? = some fn) (hname : (fn.name == "runtime.NumGoroutine") = false) (hb : fn.body.isNone = true) (hn : Extern.findNext fn = none) (hfi : Extern.find fn = some Extern.BytealgIndexByte.indexByte)
    (hx : E.look x = some (.string s)) (hy : E.look y = some (.int .u8 i)) (he : effects P dr.1 ⟨d, .call ⟨.value (.func f), #[x, y], tys⟩, ty, pos, af, g⟩ = true) (hd : dstOk n d = true)
    (h : G P n ops dr l (E.put d (.int .i64 (fst s.data.toList i.toNat.toUInt8))) w K) : G1 P n ops dr ⟨d, .call ⟨.value (.func f), #[x, y], tys⟩, ty, pos, af, g⟩ l E w K :=
  G1_indexByte hf hname hb hn hfi hx hy he hd (by rw [Lib.firstIdx_eq]; exact h)
end
end Go.V
namespace Go.Proofs.YtipbakiecocioaaGreatDoor
open Go.V
attribute [local irreducible] Blk Own hcell IntT SliceT PlainT AggT SizeT StrT FieldT ZeroT EqT ArrT
theorem cutG_sp : ∀ (r w : List UInt8), cutG w r = (if w ++ r.take (chAt 32 r) = [] then [] else [w ++ r.take (chAt 32 r)]) ++ cutG [] (r.drop (chAt 32 r + 1))
  | [], w => by simp [cutG, chAt]
  | c :: l, w => by
    rw [cutG_cons]
    by_cases hc : c = 32
    · have e : chAt 32 (c :: l) = 0 := if_pos hc
      rw [if_pos hc, e]
      simp only [List.take_zero, List.append_nil, Nat.zero_add, List.drop_succ_cons, List.drop_zero]
      split <;> simp
    · have e : chAt 32 (c :: l) = chAt 32 l + 1 := if_neg hc
      rw [if_neg hc, e, cutG_sp l (w ++ [c])]
      simp
theorem mkStr_data (l : List UInt8) : (mkStr l).data.toList = l := by unfold mkStr; simp
def spc : ByteArray := ⟨#[32]⟩
theorem liteIB {s : List UInt8} {i : Int} {w : World} : Ctr Tryz.prog 143 [.string (mkStr s), .int .u8 i] w (fun v w' => v = .int .i64 (fst s i.toNat.toUInt8) ∧ Ext w w') := by
  refine Ctr_of Tryz.func143 Tryz.ntmps143 rfl rfl rfl ?_
  repeat' (first | (apply G_on; exact rfl; first | ((first | apply G1_assign | apply G1_move); exact rfl; exact rfl) | (apply G1_indexByteT; exact Tryz.func74; exact rfl; exact rfl; exact ib0; exact ib1; exact rfl; exact rfl; exact rfl; exact rfl)) | apply G_nil | apply Post_next | apply W_seq | apply W_region | apply W_ret)
  refine Post_ret Tryz.results143 ⟨_, _, rfl, rfl, rfl⟩ ?_
  exact ⟨by rw [mkStr_data]; rfl, (by repeat first | assumption | exact Ext.rfl' | apply Ext.drew | apply Ext.alloc | refine Ext.trans ?_ (by assumption))⟩
theorem liteIx {s : List UInt8} {w : World} : Ctr Tryz.prog 131 [.string (mkStr s), .string spc] w (fun v w' => v = .int .i64 (fst s 32) ∧ Ext w w') := by
  have hb : ((bget spc 0).toNat : Int) = 32 := rfl
  have hz : spc.size = 1 := rfl
  have hib := fun w' => liteIB (w := w') (s := s) (i := 32)
  refine Ctr_of Tryz.func131 Tryz.ntmps131 rfl rfl rfl ?_
  by_cases he : spc = mkStr s
  · have hs : s = [32] := by
      have : mkStr [32] = mkStr s := he
      exact (mkStr_inj.1 this).symm
    repeat' (first | (apply G_on; exact rfl; first | ((first | apply G1_assign | apply G1_move); exact rfl; exact rfl) | (apply G1_seT; exact rfl; exact rfl; exact he; exact rfl) | (apply G1_slen; exact T.str9; exact rfl; exact rfl) | (apply G1_eql; exact rfl; exact rfl; exact rfl) | (apply G1_pick_f; exact rfl; exact rfl; exact rfl)) | apply G_nil | apply Post_next | apply W_seq | apply W_region | (apply W_cond_true; exact rfl) | apply W_ret | apply W_block | apply Post_then_ret | apply Post_block_ret)
    all_goals try (exfalso; omega)
    refine Post_ret Tryz.results131 ⟨_, _, rfl, rfl, rfl⟩ ?_
    exact ⟨by rw [hs]; rfl, (by repeat first | assumption | exact Ext.rfl' | apply Ext.drew | apply Ext.alloc | refine Ext.trans ?_ (by assumption))⟩
  · repeat' (first | (apply G_on; exact rfl; first | ((first | apply G1_assign | apply G1_move); exact rfl; exact rfl) | (apply G1_seF; exact rfl; exact rfl; exact he; exact rfl) | (apply G1_sindexJ (q := 0) (s := spc); exact T.str9; exact rfl; exact rfl; exact rfl; omega; exact rfl) | (apply G1_call (f := 143); exact rfl; exact rfl; exact rfl; exact hib _; rintro _ w2 ⟨rfl, hx2⟩; refine ⟨(by first | exact .inl rfl | exact .inr (by assumption)), ?_⟩) | (apply G1_slen; exact T.str9; exact rfl; exact rfl) | (apply G1_eql; exact rfl; exact rfl; exact rfl) | (apply G1_pick_f; exact rfl; exact rfl; exact rfl)) | apply G_nil | apply Post_next | apply W_seq | apply W_region | (apply W_cond_true; exact rfl) | (apply W_cond_false; exact rfl) | apply W_ret | apply W_block | apply Post_then_ret | apply Post_block_ret)
    all_goals try (exfalso; omega)
    refine Post_ret Tryz.results131 ⟨_, _, rfl, rfl, rfl⟩ ?_
    exact ⟨rfl, (by repeat first | assumption | exact Ext.rfl' | apply Ext.drew | apply Ext.alloc | refine Ext.trans ?_ (by assumption))⟩
theorem strCut_spec {s : List UInt8} {w : World} (hs : s.length ≤ 1000000000) :
    Ctr Tryz.prog 86 [.string (mkStr s), .string spc] w (fun v w' => (∃ b, v = .tuple #[.string (mkStr (s.take (chAt 32 s))), .string (mkStr (s.drop (chAt 32 s + 1))), .bool b]) ∧ Ext w w') := by
  have hsz := mkStr_size s
  have hz : spc.size = 1 := rfl
  have hle := chAt_le 32 s
  have hlc : ∀ w', Ctr Tryz.prog 115 [.string (mkStr s), .string spc] w' (fun v w'' => (∃ b, v = .tuple #[.string (mkStr (s.take (chAt 32 s))), .string (mkStr (s.drop (chAt 32 s + 1))), .bool b]) ∧ Ext w' w'') := fun w' => by
    have hix := fun w' => liteIx (w := w') (s := s)
    rw [fst_ch] at hix
    refine Ctr_of Tryz.func115 Tryz.ntmps115 rfl rfl rfl ?_
    by_cases hf : chAt 32 s < s.length
    · rw [if_pos hf] at hix
      have e1 : (mkStr s).extract 0 (chAt 32 s) = mkStr (s.take (chAt 32 s)) := mkStr_take s _
      have e2 : (mkStr s).extract (chAt 32 s + 1) (mkStr s).size = mkStr (s.drop (chAt 32 s + 1)) := by
        rw [mkStr_cut, hsz, List.take_of_length_le (by rw [List.length_drop]; omega)]
      repeat' (first | (apply G_on; exact rfl; first | ((first | apply G1_assign | apply G1_move); exact rfl; exact rfl) | (apply G1_call (f := 131); exact rfl; exact rfl; exact rfl; exact hix _; rintro _ w2 ⟨rfl, hx2⟩; refine ⟨(by first | exact .inl rfl | exact .inr (by assumption)), ?_⟩) | (apply G1_ssliceLoE (r := mkStr (s.drop (chAt 32 s + 1))); exact T.str9; exact rfl; exact rfl; omega; omega; exact e2; exact rfl) | (apply G1_geq; exact rfl; exact rfl; exact rfl) | (apply G1_ssliceHi; exact T.str9; exact rfl; exact rfl; omega; omega; exact rfl) | (apply G1_slen; exact T.str9; exact rfl; exact rfl) | (apply G1_add; exact rfl; exact rfl; omega; omega; exact rfl)) | apply G_nil | apply Post_next | apply W_seq | apply W_region | (apply W_cond_true; exact rfl) | refine W_drawn 1 [] [0,1,2,3,4,5,6,7,8,9,10,11] mixed (by decide +kernel) ?_ | apply W_ret | apply Post_then_ret)
      all_goals try (exfalso; omega)
      refine Post_ret Tryz.results115 ⟨_, _, rfl, rfl, _, _, rfl, rfl, _, _, rfl, rfl, rfl⟩ ?_
      refine ⟨⟨true, ?_⟩, (by repeat first | assumption | exact Ext.rfl' | apply Ext.drew | apply Ext.alloc | refine Ext.trans ?_ (by assumption))⟩
      rw [← e1]
      rfl
    · rw [if_neg hf] at hix
      repeat' (first | (apply G_on; exact rfl; first | ((first | apply G1_assign | apply G1_move); exact rfl; exact rfl) | (apply G1_call (f := 131); exact rfl; exact rfl; exact rfl; exact hix _; rintro _ w2 ⟨rfl, hx2⟩; refine ⟨(by first | exact .inl rfl | exact .inr (by assumption)), ?_⟩) | (apply G1_geq; exact rfl; exact rfl; exact rfl)) | apply G_nil | apply Post_next | apply W_seq | apply W_region | (apply W_cond_false; exact rfl) | apply W_skip | apply W_ret)
      all_goals try (exfalso; omega)
      refine Post_ret Tryz.results115 ⟨_, _, rfl, rfl, _, _, rfl, rfl, _, _, rfl, rfl, rfl⟩ ?_
      refine ⟨⟨false, ?_⟩, (by repeat first | assumption | exact Ext.rfl' | apply Ext.drew | apply Ext.alloc | refine Ext.trans ?_ (by assumption))⟩
      rw [List.take_of_length_le (by omega), List.drop_of_length_le (by omega)]
      rfl
  refine Ctr_of Tryz.func86 Tryz.ntmps86 rfl rfl rfl ?_
  repeat' (first | (apply G_on; exact rfl; first | ((first | apply G1_assign | apply G1_move); exact rfl; exact rfl) | (apply G1_call (f := 115); exact rfl; exact rfl; exact rfl; exact hlc _; rintro _ w2 ⟨⟨b, rfl⟩, hx2⟩; refine ⟨(by first | exact .inl rfl | exact .inr (by assumption)), ?_⟩) | (apply G1_extract; exact rfl; exact rfl; exact rfl)) | apply G_nil | apply Post_next | apply W_seq | apply W_region | apply W_ret)
  refine Post_ret Tryz.results86 ⟨_, _, rfl, rfl, _, _, rfl, rfl, _, _, rfl, rfl, rfl⟩ ?_
  exact ⟨⟨b, rfl⟩, (by repeat first | assumption | exact Ext.rfl' | apply Ext.drew | apply Ext.alloc | refine Ext.trans ?_ (by assumption))⟩
theorem split_spec {s : List UInt8} {w : World} (hs : s.length ≤ 1000000) :
    Ctr Tryz.prog 55 [.string (mkStr s)] w (fun v w' => ∃ p c, v = .slice p (cutG [] s).length c ∧ Own w' w.heap.size 9 eStr p c ((cutG [] s).map mkStr) ∧ Ext w w') := by
  refine Ctr_of Tryz.func55 Tryz.ntmps55 rfl rfl rfl ?_
  repeat' (first | (apply G_on; exact rfl; (apply G1_assign; exact rfl; exact rfl)) | apply G_nil | apply Post_next | apply W_seq | apply W_region | apply W_block)
  refine W_loop (ι := List UInt8 × List (List UInt8) × Option Addr × Nat) (fun y => [(0, .string (mkStr y.1)), (3, .slice y.2.2.1 (y.2.1.map mkStr).length y.2.2.2)])
    (fun y w' => Ext w w' ∧ Own w' w.heap.size 9 eStr y.2.2.1 y.2.2.2 (y.2.1.map mkStr) ∧ y.2.1 ++ cutG [] y.1 = cutG [] s ∧ y.1.length + y.2.1.length ≤ s.length) (fun y => y.1.length) (s, [], none, 0) ⟨rfl, rfl, trivial⟩
    ⟨(by repeat first | assumption | exact Ext.rfl' | apply Ext.drew | apply Ext.alloc | refine Ext.trans ?_ (by assumption)), Own.nil _ _ _ _, rfl, Nat.le_refl _⟩ ?_
  rintro ⟨u, os, p, c⟩ w2 ⟨hx2, hO, hcut, hul⟩
  simp only at hO hcut hul
  refine W_keep [(0, .string (mkStr u)), (3, .slice p (os.map mkStr).length c)] ⟨rfl, rfl, trivial⟩ ?_
  have hge := hO.ge
  have hz2 := hx2.size
  have hom : (os.map mkStr).length = os.length := by simp
  by_cases hu0 : u = []
  · have hue : mkStr u = ⟨#[]⟩ := (mkStr_nil u).2 hu0
    have e0 : cutG [] u = [] := by rw [hu0]; rfl
    rw [e0, List.append_nil] at hcut
    repeat' (first | (apply G_on; exact rfl; first | ((first | apply G1_assign | apply G1_move); exact rfl; exact rfl) | (apply G1_sneF; exact rfl; exact rfl; exact hue; exact rfl)) | apply G_nil | apply Post_next | apply W_seq | apply W_region | (apply W_cond_false; exact rfl) | apply W_exit | apply W_ret | apply Post_then_exit | apply Post_block_exit)
    refine Post_ret Tryz.results55 ⟨_, _, rfl, rfl, rfl⟩ ?_
    exact ⟨p, c, by rw [← hcut, ← hom]; rfl, by rw [← hcut]; exact hO, (by repeat first | assumption | exact Ext.rfl' | apply Ext.drew | apply Ext.alloc | refine Ext.trans ?_ (by assumption))⟩
  · have hue : ¬ mkStr u = ⟨#[]⟩ := fun h => hu0 ((mkStr_nil u).1 h)
    have hlu : 0 < u.length := List.length_pos_iff.2 hu0
    have hle := chAt_le 32 u
    have hcs := fun w' => strCut_spec (w := w') (s := u) (by omega)
    rw [cutG_sp u [], List.nil_append] at hcut
    have hdl : (u.drop (chAt 32 u + 1)).length < u.length := by rw [List.length_drop]; omega
    have hdl2 : (u.drop (chAt 32 u + 1)).length + 1 + (u.take (chAt 32 u)).length ≤ u.length + 1 := by rw [List.length_drop, List.length_take]; omega
    by_cases ht0 : u.take (chAt 32 u) = []
    · have hte : mkStr (u.take (chAt 32 u)) = ⟨#[]⟩ := (mkStr_nil _).2 ht0
      rw [if_pos ht0, List.nil_append] at hcut
      repeat' (first | (apply G_on; exact rfl; first | ((first | apply G1_assign | apply G1_move); exact rfl; exact rfl) | (apply G1_sneT; exact rfl; exact rfl; exact hue; exact rfl) | (apply G1_call (f := 86); exact rfl; exact rfl; exact rfl; exact hcs _; rintro _ w3 ⟨⟨b, rfl⟩, hx3⟩; refine ⟨(by first | exact .inl rfl | exact .inr (by assumption)), ?_⟩; replace hO := hO.ext hx3) | (apply G1_sneF; exact rfl; exact rfl; exact hte; exact rfl) | (apply G1_extract; exact rfl; exact rfl; exact rfl)) | apply G_nil | apply Post_next | apply W_seq | apply W_region | (apply W_cond_true; exact rfl) | (apply W_cond_false; exact rfl) | apply W_skip | apply W_block | apply Post_block_normal)
      exact Post_round (u.drop (chAt 32 u + 1), os, p, c) ⟨rfl, rfl, trivial⟩ ⟨(by repeat first | assumption | exact Ext.rfl' | apply Ext.drew | apply Ext.alloc | refine Ext.trans ?_ (by assumption)), hO, hcut, by simp only; omega⟩ (by simp only; omega)
    · have hte : ¬ mkStr (u.take (chAt 32 u)) = ⟨#[]⟩ := fun h => ht0 ((mkStr_nil _).1 h)
      have htl : 0 < (u.take (chAt 32 u)).length := List.length_pos_iff.2 ht0
      rw [if_neg ht0] at hcut
      repeat' (first | (apply G_on; exact rfl; first | ((first | apply G1_assign | apply G1_move); exact rfl; exact rfl) | (apply G1_sneT; exact rfl; exact rfl; exact hue; exact rfl) | (apply G1_call (f := 86); exact rfl; exact rfl; exact rfl; exact hcs _; rintro _ w3 ⟨⟨b, rfl⟩, hx3⟩; refine ⟨(by first | exact .inl rfl | exact .inr (by assumption)), ?_⟩; replace hO := hO.ext hx3) | (apply G1_sneT; exact rfl; exact rfl; exact hte; exact rfl) | (apply G1_extract; exact rfl; exact rfl; exact rfl)) | apply G_nil | apply Post_next | apply W_seq | apply W_region | (apply W_cond_true; exact rfl) | apply W_skip | apply W_block)
      apply G_on; exact rfl
      apply G1_build1 eStr (mkStr (u.take (chAt 32 u))); exact T.s37; exact rfl; exact rfl; exact rfl; decide; exact rfl; exact rfl
      intro p4 w4 hp4 hs4 _ hx4 hz4
      replace hO := hO.ext hx4
      have hx24 : Ext w w4 := (by repeat first | assumption | exact Ext.rfl' | apply Ext.drew | apply Ext.alloc | refine Ext.trans ?_ (by assumption))
      have hz24 := hx24.size
      repeat' (first | (apply G_on; exact rfl; first | ((first | apply G1_assign | apply G1_move); exact rfl; exact rfl) | (apply G1_appendA; exact T.s37; exact rfl; exact rfl; exact hO; exact hs4; exact rfl; omega; (simp only [List.length_cons, List.length_nil]; omega); (simp only [List.length_cons, List.length_nil]; omega); exact rfl; exact rfl; exact rfl; intro p5 c5 w5 ha5)) | apply G_nil | apply Post_next | apply W_region | apply Post_block_normal)
      exact Post_round (u.drop (chAt 32 u + 1), os ++ [u.take (chAt 32 u)], p5, c5) ⟨rfl, by show _ = some (Value.slice p5 ((os ++ [u.take (chAt 32 u)]).map mkStr).length c5); simp; rfl, trivial⟩ ⟨hx24.app ha5 (fun k hk => (hge k hk).1), by simp only [List.map_append]; exact ha5.own, by simp only [List.append_assoc]; exact hcut, by simp only [List.length_append, List.length_singleton]; omega⟩ (by simp only; omega)
def ast : ByteArray := ⟨#[42]⟩
theorem hasAst_spec {s : List UInt8} {w : World} (hs : s.length ≤ 1000000000) : Ctr Tryz.prog 53 [.string (mkStr s), .string ast] w (fun v w' => v = .bool (decide (s.head? = some 42)) ∧ Ext w w') := by
  have hsz := mkStr_size s
  have hz : ast.size = 1 := rfl
  have hl : ∀ w', Ctr Tryz.prog 85 [.string (mkStr s), .string ast] w' (fun v w'' => v = .bool (decide (s.head? = some 42)) ∧ Ext w' w'') := fun w' => by
    refine Ctr_of Tryz.func85 Tryz.ntmps85 rfl rfl rfl ?_
    cases s with
    | nil =>
      repeat' (first | (apply G_on; exact rfl; first | ((first | apply G1_assign | apply G1_move); exact rfl; exact rfl) | (apply G1_slen; exact T.str9; exact rfl; exact rfl) | (apply G1_geq; exact rfl; exact rfl; exact rfl) | (apply G1_pick_f; exact rfl; exact rfl; exact rfl)) | apply G_nil | apply Post_next | apply W_seq | apply W_region | (apply G_off; exact rfl; exact rfl) | apply W_ret)
      all_goals try (exfalso; simp only [List.length_nil] at hsz; omega)
      refine Post_ret Tryz.results85 ⟨_, _, rfl, rfl, rfl⟩ ?_
      exact ⟨rfl, (by repeat first | assumption | exact Ext.rfl' | apply Ext.drew | apply Ext.alloc | refine Ext.trans ?_ (by assumption))⟩
    | cons c t =>
      simp only [List.length_cons] at hsz
      have e1 : (mkStr (c :: t)).extract 0 1 = mkStr [c] := mkStr_take (c :: t) 1
      by_cases hc : c = 42
      · have he : (mkStr (c :: t)).extract 0 1 = ast := by rw [e1, hc]; rfl
        repeat' (first | (apply G_on; exact rfl; first | ((first | apply G1_assign | apply G1_move); exact rfl; exact rfl) | (apply G1_seT; exact rfl; exact rfl; exact he; exact rfl) | (apply G1_slen; exact T.str9; exact rfl; exact rfl) | (apply G1_geq; exact rfl; exact rfl; exact rfl) | (apply G1_ssliceHi; exact T.str9; exact rfl; exact rfl; omega; omega; exact rfl) | (apply G1_pick_t; exact rfl; exact rfl; exact rfl)) | apply G_nil | apply Post_next | apply W_seq | apply W_region | ((fail_if_success (apply G_on; exact rfl)); apply G_split_dec; exact rfl; exact rfl; all_goals (intro h; try (exfalso; omega))) | apply W_ret)
        all_goals try (exfalso; omega)
        refine Post_ret Tryz.results85 ⟨_, _, rfl, rfl, rfl⟩ ?_
        exact ⟨by rw [hc]; rfl, (by repeat first | assumption | exact Ext.rfl' | apply Ext.drew | apply Ext.alloc | refine Ext.trans ?_ (by assumption))⟩
      · have he : ¬ (mkStr (c :: t)).extract 0 1 = ast := fun e => hc (by
          have e2 : mkStr [c] = mkStr [42] := e1.symm.trans e
          have := mkStr_inj.1 e2
          simpa using this)
        have hd0 : (decide ((c :: t).head? = some 42)) = false := decide_eq_false (by simpa using hc)
        repeat' (first | (apply G_on; exact rfl; first | ((first | apply G1_assign | apply G1_move); exact rfl; exact rfl) | (apply G1_seF; exact rfl; exact rfl; exact he; exact rfl) | (apply G1_slen; exact T.str9; exact rfl; exact rfl) | (apply G1_geq; exact rfl; exact rfl; exact rfl) | (apply G1_ssliceHi; exact T.str9; exact rfl; exact rfl; omega; omega; exact rfl) | (apply G1_pick_t; exact rfl; exact rfl; exact rfl)) | apply G_nil | apply Post_next | apply W_seq | apply W_region | ((fail_if_success (apply G_on; exact rfl)); apply G_split_dec; exact rfl; exact rfl; all_goals (intro h; try (exfalso; omega))) | apply W_ret)
        all_goals try (exfalso; omega)
        refine Post_ret Tryz.results85 ⟨_, _, rfl, rfl, rfl⟩ ?_
        exact ⟨by rw [hd0]; rfl, (by repeat first | assumption | exact Ext.rfl' | apply Ext.drew | apply Ext.alloc | refine Ext.trans ?_ (by assumption))⟩
  refine Ctr_of Tryz.func53 Tryz.ntmps53 rfl rfl rfl ?_
  repeat' (first | (apply G_on; exact rfl; first | ((first | apply G1_assign | apply G1_move); exact rfl; exact rfl) | (apply G1_call (f := 85); exact rfl; exact rfl; exact rfl; exact hl _; rintro _ w2 ⟨rfl, hx2⟩; refine ⟨(by first | exact .inl rfl | exact .inr (by assumption)), ?_⟩)) | apply G_nil | apply Post_next | apply W_seq | apply W_region | apply W_ret)
  refine Post_ret Tryz.results53 ⟨_, _, rfl, rfl, rfl⟩ ?_
  exact ⟨rfl, (by repeat first | assumption | exact Ext.rfl' | apply Ext.drew | apply Ext.alloc | refine Ext.trans ?_ (by assumption))⟩
end Go.Proofs.YtipbakiecocioaaGreatDoor

/- Requests: what a reader drops at last, and what it gives; the walks. -/

namespace Go.V
section
variable {P : Program} {n : Nat} {ops : Array Oper} {dr : Nat × List Nat} {l : List Oper} {E : Env} {w : World} {K : Env → World → Prop}
variable {d : Option Nat} {ty : TypeId} {pos : String} {af : Array Edge} {g : Option (Nat × Bool)} {x y : Operand} {t t' u sz by_ : Nat} {q : Option Addr}
/-- a copy of nothing to no row -/
theorem G1_copyN {dc sc : Nat} (hu : SliceT P t u sz by_) (hx : E.look x = some (.slice none 0 dc)) (hy : E.look y = some (.slice none 0 sc))
    (he : effects P dr.1 ⟨d, .call ⟨.builtin .copy, #[x, y], #[t, t']⟩, ty, pos, af, g⟩ = true) (hw : writes dr.1 ⟨d, .call ⟨.builtin .copy, #[x, y], #[t, t']⟩, ty, pos, af, g⟩ = true) (hd : dstOk n d = true)
    (h : G P n ops dr l (E.put d (.int .i64 0)) w K) : G1 P n ops dr ⟨d, .call ⟨.builtin .copy, #[x, y], #[t, t']⟩, ty, pos, af, g⟩ l E w K := by
  obtain ⟨hu1, inf, z, hi, rfl, rfl, hz, hz2⟩ := hu
  have hmin : Nat.min 0 0 = 0 := rfl
  exact G1_eff (.int .i64 0) w he hd (fun a ha => by simp [execOp, resolve, invoke, builtin, ha.eval hx, ha.eval hy, Builtin.copy_, run_underlying hu1, Builtin.lenOf, Builtin.firstCells, sizeOf, typeInfo, hi, hmin, goInt]; try rfl) (.inl hw) h
end
end Go.V
namespace Go.Proofs.YtipbakiecocioaaGreatDoor
open Go.V
attribute [local irreducible] Blk Own hcell IntT SliceT PlainT AggT SizeT StrT FieldT ZeroT EqT ArrT


theorem tidy_nil {w0 : World} {ar B c a : Nat} {inp : List UInt8} {pw : Option Addr} {cw : Nat} {r : RS} {w : World} (hR : RdSt w0 w ar B none c inp a pw cw r 0) :
    Ctr Tryz.prog 56 [.pointer (some (adr (bx ar) 0))] w (fun _ w' => FrS (fun q => q = ar ∨ bx q = (none : Option Addr)) w w' ∧ RdSt w0 w' ar B none c (inp.drop a) 0 pw cw r 0) := by
  have hok := hR.row.sl.ok
  have hc0 := hok.nul rfl
  have hle := hok.le
  have hla := hR.la
  have hi0 : inp = [] := List.eq_nil_of_length_eq_zero (by omega)
  subst hi0
  have ha0 : a = 0 := by simpa using hla
  subst ha0 hc0
  have hbk := hR.blk
  simp only [List.length_nil] at hbk
  refine Ctr_of Tryz.func56 Tryz.ntmps56 rfl rfl rfl ?_
  repeat' (first | (apply G_on; exact rfl; first | ((first | apply G1_move | apply G1_nilCheck); exact rfl; exact rfl) | (apply G1_fieldAddr; exact T.f109_6; exact rfl; exact rfl) | (apply G1_loadB; exact T.p44; exact rfl; assumption; exact rfl; exact rfl) | (apply G1_neq; exact rfl; exact rfl; exact rfl)) | apply G_nil | apply Post_next | apply W_seq | apply W_region | (apply W_cond_false; exact rfl) | apply W_skip)
  all_goals try (exfalso; omega)
  refine W_drawnT 1 [] (.node [0,1,2,4,5,6,8,9,10,3] (.alt 7 (.node [] (.alt 11 (.leaf [12,13,14]) .stop)) (.alt 11 (.node [] (.alt 7 (.leaf [12,13,14]) .stop)) .stop))) mixed (by decide +kernel) ?_
  repeat' (first | (apply G_on; exact rfl; first | ((first | apply G1_move | apply G1_assign | apply G1_nilCheck); exact rfl; exact rfl) | (apply G1_sliceLoJ (q := 0); exact T.s22; exact rfl; exact rfl; exact rfl; exact hok; exact Nat.le_refl _; exact rfl) | (apply G1_copyN; exact T.s22; exact rfl; exact rfl; exact rfl; exact rfl; exact rfl) | (apply G1_sliceHiJ (q := 0); exact T.s22; exact rfl; exact rfl; exact rfl; exact Nat.zero_le _; exact rfl) | (apply G1_fieldAddr; (first | exact T.f109_0 | exact T.f109_1); exact rfl; exact rfl) | (apply G1_loadB; (first | exact T.p22 | exact T.p3); exact rfl; assumption; exact rfl; exact rfl)) | apply G_nil | apply Post_next | apply W_region | (refine GT_leaf ?_) | (refine GT_node ?_) | (apply GT_alt) | (exact GT_stop))
  all_goals
    apply G_on; exact rfl; apply G1_storeB; exact T.z22; exact rfl; exact rfl; exact hbk; exact rfl; exact rfl; (first | exact Nat.le_of_ble_eq_true rfl | (focus (simp [Value.cells]; done))); (first | exact Enc.one _ _ | (focus (simp [Value.oneCell']; done)) | (focus (simp [Value.cells, Value.oneCell']; done)) | exact Enc.oneAgg _ _); exact rfl; (first | exact .inl rfl | exact .inr (by simp [exempt])); exact rfl; intro w2 hA2 hg2 hs2
    repeat' (apply G_on; exact rfl; first | (apply G1_nilCheck; exact rfl; exact rfl) | (apply G1_fieldAddr; exact T.f109_1; exact rfl; exact rfl))
    apply G_on; exact rfl; apply G1_storeB; exact T.z3; exact rfl; exact rfl; exact hA2; exact rfl; exact rfl; (first | exact Nat.le_of_ble_eq_true rfl | (focus (simp [Value.cells]; done))); (first | exact Enc.one _ _ | (focus (simp [Value.oneCell']; done)) | (focus (simp [Value.cells, Value.oneCell']; done)) | exact Enc.oneAgg _ _); exact rfl; (first | exact .inl rfl | exact .inr (by simp [exempt])); exact rfl; intro w3 hA3 hg3 hs3
    replace hA3 : Blk w3.heap ar 109 [.slice none 0 0, .int .i64 ((0 : Nat) : Int), .int .i64 (r.left : Int), .int .i64 r.size, .slice pw r.words.length cw, .int .i64 (r.held : Int), .int .i64 0] := hA3
    have hg := grown_same hg2 hg3
    have h3 := (hR.xt (show Ext w _ from Ext.drew Ext.rfl')).set hg hA3 rfl (Nat.le_refl _)
    repeat' apply G_nil
    refine Post_end Tryz.results56 (vs := []) rfl ?_
    exact ⟨(FrS.of_ext (F := fun q => q = ar ∨ bx q = (none : Option Addr)) (show Ext w _ from Ext.drew Ext.rfl')).trans (FrS.of_grown hg (fun k hk => by injection hk with hk; exact .inl hk.symm)) (fun _ _ h => h), h3⟩
theorem bytes_enc : ∀ l : List UInt8, l.flatMap eByte.enc = l.map (fun x => Value.int .u8 x.toNat)
  | [] => rfl
  | x :: l => by rw [List.flatMap_cons, bytes_enc l]; rfl
theorem tidy_row {w0 : World} {ar B : Nat} {p : Option Addr} {c a : Nat} {inp : List UInt8} {pw : Option Addr} {cw : Nat} {r : RS} {w : World} (hR : RdSt w0 w ar B p c inp a pw cw r 0) (hp : p ≠ none) (hap : ∀ x y, pw = some x → p = some y → x.block ≠ y.block) (hN : inp.length ≤ 1000000000) :
    Ctr Tryz.prog 56 [.pointer (some (adr (bx ar) 0))] w (fun _ w' => FrS (fun q => q = ar ∨ bx q = p) w w' ∧ RdSt w0 w' ar B p c (inp.drop a) 0 pw cw r 0) := by
  have hC := hR.row.sl
  have hok := hC.ok
  have hle := hok.le
  have hla := hR.la
  have hbk := hR.blk
  have hlt := hR.lt
  have hD : Sl w.heap eByte (subp p c a 1) (c - a) (inp.drop a) := hC.drop (by omega)
  obtain ⟨gb, cur, rfl, hgB, hV, hcl, hcm, hnc, htk⟩ := hR.row.toBlk hp
  have hdl : ((inp.drop a).flatMap eByte.enc).length = inp.length - a := by rw [bytes_enc, List.length_map, List.length_drop]
  have hac : (inp.drop a).flatMap eByte.enc ≠ [] → a < c := fun hne => Nat.lt_of_not_le (fun hge => hne (by rw [List.drop_of_length_le (by omega)]; rfl))
  have hcl1 : cur.length = c := by rw [hcl]; exact Nat.mul_one c
  refine Ctr_of Tryz.func56 Tryz.ntmps56 rfl rfl rfl ?_
  repeat' (first | (apply G_on; exact rfl; first | ((first | apply G1_move | apply G1_nilCheck); exact rfl; exact rfl) | (apply G1_fieldAddr; exact T.f109_6; exact rfl; exact rfl) | (apply G1_loadB; exact T.p44; exact rfl; assumption; exact rfl; exact rfl) | (apply G1_neq; exact rfl; exact rfl; exact rfl)) | apply G_nil | apply Post_next | apply W_seq | apply W_region | (apply W_cond_false; exact rfl) | apply W_skip)
  all_goals try (exfalso; omega)
  refine W_drawnT 1 [] (.node [0,1,2,4,5,6,8,9,10,3] (.alt 7 (.node [] (.alt 11 (.leaf [12,13,14]) .stop)) (.alt 11 (.node [] (.alt 7 (.leaf [12,13,14]) .stop)) .stop))) mixed (by decide +kernel) ?_
  repeat' (first | (apply G_on; exact rfl; first | ((first | apply G1_move | apply G1_nilCheck); exact rfl; exact rfl) | (apply G1_sliceLoJ (q := a); exact T.s22; exact rfl; exact rfl; exact rfl; exact hok; omega; exact rfl) | (apply G1_fieldAddr; (first | exact T.f109_0 | exact T.f109_1); exact rfl; exact rfl) | (apply G1_loadB; (first | exact T.p22 | exact T.p3); exact rfl; assumption; exact rfl; exact rfl)) | apply G_nil | (refine GT_leaf ?_) | (refine GT_node ?_) | (apply GT_alt) | (exact GT_stop))
  all_goals
    apply G_on; exact rfl
    apply G1_copyB (gb := gb) (o := 0) (T := 5) (cur := cur) ((inp.drop a).flatMap eByte.enc); exact T.s22; exact rfl; exact rfl
    · exact rfl
    · exact hV.ext (Ext.drew Ext.rfl')
    · exact fun hne => ⟨gb, a * 1, subp_bx (hac hne)⟩
    · rw [hdl, Nat.min_eq_left (by omega), Nat.mul_one]
    · intro j v hj
      rw [bytes_enc, List.getElem?_map] at hj
      rcases hx : (inp.drop a)[j]? with _ | x
      · rw [hx] at hj; cases hj
      · rw [hx] at hj
        have := (hD.ext (show Ext w w.drew from Ext.drew Ext.rfl')).cell j x hx 0 v hj
        simpa [eByte] using this
    · rw [hdl, hcl1]; omega
    · exact flat_one _ _
    · decide
    · exact rfl
    · exact rfl
    · exact rfl
    intro w2 hV2 hg2 hz2
    have hx1 : Ext w w.drew := Ext.drew Ext.rfl'
    have hbk2 := (hbk.ext hx1).grown hg2 (by intro e; injection e with e; omega)
    rw [Nat.min_eq_left (show inp.length - a ≤ inp.length by omega)]
    repeat' (first | (apply G_on; exact rfl; first | ((first | apply G1_move | apply G1_assign | apply G1_nilCheck); exact rfl; exact rfl) | (apply G1_sliceHiJ (q := inp.length - a); exact T.s22; exact rfl; exact rfl; exact rfl; omega; exact rfl) | (apply G1_fieldAddr; exact T.f109_0; exact rfl; exact rfl) | (apply G1_loadB; exact T.p22; exact rfl; assumption; exact rfl; exact rfl)) | apply G_nil | apply Post_next | apply W_region)
    apply G_on; exact rfl; apply G1_storeB; exact T.z22; exact rfl; exact rfl; exact hbk2; exact rfl; exact rfl; (first | exact Nat.le_of_ble_eq_true rfl | (focus (simp [Value.cells]; done))); (first | exact Enc.one _ _ | (focus (simp [Value.oneCell']; done)) | (focus (simp [Value.cells, Value.oneCell']; done)) | exact Enc.oneAgg _ _); exact rfl; (first | exact .inl rfl | exact .inr (by simp [exempt])); exact rfl; intro w3 hA3 hg3 hs3
    repeat' (apply G_on; exact rfl; first | (apply G1_nilCheck; exact rfl; exact rfl) | (apply G1_fieldAddr; exact T.f109_1; exact rfl; exact rfl))
    apply G_on; exact rfl; apply G1_storeB; exact T.z3; exact rfl; exact rfl; exact hA3; exact rfl; exact rfl; (first | exact Nat.le_of_ble_eq_true rfl | (focus (simp [Value.cells]; done))); (first | exact Enc.one _ _ | (focus (simp [Value.oneCell']; done)) | (focus (simp [Value.cells, Value.oneCell']; done)) | exact Enc.oneAgg _ _); exact rfl; (first | exact .inl rfl | exact .inr (by simp [exempt])); exact rfl; intro w4 hA4 hg4 hs4
    rw [← List.length_drop] at hA4
    replace hA4 : Blk w4.heap ar 109 [.slice (bx gb) (inp.drop a).length c, .int .i64 ((0 : Nat) : Int), .int .i64 (r.left : Int), .int .i64 r.size, .slice pw r.words.length cw, .int .i64 (r.held : Int), .int .i64 0] := hA4
    have hg := grown_same hg3 hg4
    have hO2 : Own w2 B 5 eByte (bx gb) c (inp.drop a) := Own.ofBlk hgB hV2 (by show _ = c * 1; simp only [List.length_append, List.length_take, List.length_drop, hdl]; omega) hcm (by rw [List.length_drop]; omega) (by
      rw [List.take_zero, List.nil_append]
      exact List.take_left' (by rw [hdl, List.length_drop]; exact (Nat.mul_one _).symm))
    have hW2 := (hR.wds.ext hx1).kept hg2 (fun x hx e => by injection e with e; exact hap x _ hx rfl e.symm)
    have hE2 : Ext w0 w2 := (hR.ext.trans hx1).own hg2 (fun k hk => by injection hk with hk; have := hR.h0; omega)
    repeat' apply G_nil
    refine Post_end Tryz.results56 (vs := []) rfl ?_
    have hne : ∀ x : Addr, some ar = some x.block → B ≤ x.block → False := fun x e h2 => by injection e with e; omega
    have h3 : RdSt w0 w4 ar B (bx gb) c (inp.drop a) 0 pw cw r 0 :=
      ⟨hA4, hO2.kept hg (fun x hx e => hne x e (hO2.ge x.block (by rw [hx]; rfl)).1), hW2.kept hg (fun x hx e => hne x e (hW2.ge x.block (by rw [hx]; rfl)).1), hE2.own hg (fun k hk => by injection hk with hk; have := hR.h0; omega), hR.h0, hR.lt, Nat.le_trans hR.hB (Nat.le_trans hx1.size (Nat.le_trans hg2.size hg.size)), Nat.zero_le _⟩
    exact ⟨((FrS.of_ext (F := fun q => q = ar ∨ bx q = bx gb) hx1).trans (FrS.of_grown (F := fun q => q = ar ∨ bx q = bx gb) hg2 (fun k hk => by injection hk with hk; exact .inr (by rw [hk]))) (fun _ _ h => h)).trans (FrS.of_grown (F := fun q => q = ar ∨ bx q = bx gb) hg (fun k hk => by injection hk with hk; exact .inl hk.symm)) (fun _ _ h => h), h3⟩
def rdBad (ft : Int) : Value := .agg #[.slice none 0 0, .int .i64 0, .int .i64 0, .int .i64 0, .slice none 0 0, .int .i64 0, .int .i64 ft]
def rdNew : Value := .agg #[.slice none 0 0, .int .i64 0, .int .i64 0, .int .i64 (-1), .slice none 0 0, .int .i64 0, .int .i64 0]
theorem bldBad (ft : Int) (w : World) : (Instr.build 109 [(6, Value.int .i64 ft)].toArray).run Tryz.prog w = .ok (rdBad ft) w := by kernel_rfl
theorem bldNew (w : World) : (Instr.build 109 [(3, Value.int .i64 (-1))].toArray).run Tryz.prog w = .ok rdNew w := by kernel_rfl
theorem one_bad (ft : Int) : ∀ v, v ∈ (rdBad ft).cells.toList → v.oneCell' = true := by
  have e : (rdBad ft).cells.toList = [.slice none 0 0, .int .i64 0, .int .i64 0, .int .i64 0, .slice none 0 0, .int .i64 0, .int .i64 ft] := rfl
  rw [e]
  simp [Value.oneCell']
theorem tidy_bad {w0 : World} {ar B : Nat} {p : Option Addr} {c a : Nat} {inp : List UInt8} {pw : Option Addr} {cw : Nat} {r : RS} {ft : Int} {w : World} (hR : RdSt w0 w ar B p c inp a pw cw r ft) (hft : ft ≠ 0) :
    Ctr Tryz.prog 56 [.pointer (some (adr (bx ar) 0))] w (fun _ w' => FrS (fun q => q = ar) w w' ∧ RdSt w0 w' ar B none 0 [] 0 none 0 { left := 0, size := 0, words := [], held := 0 } ft) := by
  have hbk := hR.blk
  refine Ctr_of Tryz.func56 Tryz.ntmps56 rfl rfl rfl ?_
  repeat' (first | (apply G_on; exact rfl; first | ((first | apply G1_move | apply G1_nilCheck); exact rfl; exact rfl) | (apply G1_build (rdBad ft); exact rfl; exact bldBad _; exact rfl) | (apply G1_fieldAddr; exact T.f109_6; exact rfl; exact rfl) | (apply G1_loadB; exact T.p44; exact rfl; assumption; exact rfl; exact rfl) | (apply G1_neq; exact rfl; exact rfl; exact rfl)) | apply G_nil | apply Post_next | apply W_seq | apply W_region | (apply W_cond_dec; exact rfl; all_goals (intro h; try (exfalso; omega))))
  all_goals try (exfalso; omega)
  apply G_on; exact rfl; apply G1_storeB; exact T.z109; exact rfl; exact rfl; exact hbk; exact rfl; exact rfl; exact Nat.le_of_ble_eq_true rfl; exact one_bad ft; exact rfl; exact .inl rfl; exact rfl; intro w3 hA3 hg3 hs3
  replace hA3 : Blk w3.heap ar 109 [.slice none 0 0, .int .i64 ((0 : Nat) : Int), .int .i64 ((0 : Nat) : Int), .int .i64 0, .slice none 0 0, .int .i64 ((0 : Nat) : Int), .int .i64 ft] := hA3
  have hx1 : Ext w w := Ext.rfl'
  repeat' (first | apply G_nil | apply Post_next | apply W_ret | apply Post_then_ret)
  refine Post_ret Tryz.results56 (vs := []) rfl ?_
  exact ⟨FrS.of_grown hg3 (fun k hk => by injection hk with hk; exact hk.symm), ⟨hA3, Own.nil _ _ _ _, Own.nil _ _ _ _, hR.ext.own hg3 (fun k hk => by injection hk with hk; have := hR.h0; omega), hR.h0, hR.lt, Nat.le_trans hR.hB hg3.size, Nat.le_refl _⟩⟩
/-- a new reader -/
theorem new_spec {w : World} : Ctr Tryz.prog 17 [] w (fun v w' => Ext w w' ∧ ∃ ar, v = .pointer (some (adr (bx ar) 0)) ∧ RdSt w w' ar (ar + 1) none 0 [] 0 none 0 rs0 0) := by
  refine Ctr_of Tryz.func17 Tryz.ntmps17 rfl rfl rfl ?_
  repeat' (first | (apply G_on; exact rfl; first | (apply G1_assign; exact rfl; exact rfl) | (apply G1_build rdNew; exact rfl; exact bldNew; exact rfl)) | apply G_nil | apply Post_next | apply W_seq | apply W_region)
  apply G_on; exact rfl; apply G1_box; exact rfl; exact rfl; exact rfl; intro a1 w1 ha1 hA1 hx1 hs1
  replace hA1 : Blk w1.heap a1 109 [.slice none 0 0, .int .i64 ((0 : Nat) : Int), .int .i64 ((0 : Nat) : Int), .int .i64 (-1), .slice none 0 0, .int .i64 ((0 : Nat) : Int), .int .i64 0] := hA1
  repeat' (first | (apply G_on; exact rfl; (apply G1_assign; exact rfl; exact rfl)) | apply G_nil | apply Post_next | apply W_ret)
  refine Post_ret Tryz.results17 ⟨_, _, rfl, rfl, rfl⟩ ?_
  exact ⟨hx1, a1, rfl, ⟨hA1, Own.nil _ _ _ _, Own.nil _ _ _ _, hx1, by omega, by omega, by omega, Nat.le_refl _⟩⟩

end Go.Proofs.YtipbakiecocioaaGreatDoor

/- Requests: what a reader gives; the walk. -/

namespace Go.V
theorem blk_ne {H : Array Obj} {b b' : Nat} {t t' : TypeId} {cs cs' : List Value} (h : Blk H b t cs) (h' : Blk H b' t' cs') (ht : t ≠ t') : b ≠ b' := by
  rintro rfl
  unfold Blk at h h'
  rw [h] at h'
  injection h' with e
  injection e
  contradiction
/-- a row of one's own is a block of its type -/
theorem Own.ty {α : Type} {e : Enc α} {w : World} {B T : Nat} {p : Option Addr} {c : Nat} {xs : List α} (h : Own w B T e p c xs) {x : Addr} (hx : p = some x) : ∃ cur, Blk w.heap x.block T cur := by
  obtain ⟨gb, cur, e1, _, hV, _⟩ := h.toBlk (by rw [hx]; exact fun h => by cases h)
  rw [hx] at e1
  injection e1 with e1
  exact ⟨cur, by rw [e1]; exact hV⟩
theorem Own.apart {α : Type} {e : Enc α} {w : World} {B T : Nat} {p : Option Addr} {c : Nat} {xs : List α} (h : Own w B T e p c xs) {x : Addr} (hx : p = some x) {b t : Nat} {cs : List Value} (hb : Blk w.heap b t cs) (ht : T ≠ t) : b ≠ x.block := by
  obtain ⟨cur, hV⟩ := h.ty hx
  exact fun e => blk_ne hV hb ht e.symm
theorem Own.apart2 {α β : Type} {e : Enc α} {f : Enc β} {w : World} {B T B' T' : Nat} {p q : Option Addr} {c d : Nat} {xs : List α} {ys : List β} (h : Own w B T e p c xs) (k : Own w B' T' f q d ys) (ht : T ≠ T') {x y : Addr} (hx : p = some x) (hy : q = some y) : x.block ≠ y.block := by
  obtain ⟨cur, hV⟩ := h.ty hx
  exact k.apart hy hV (fun e => ht e.symm)
end Go.V
namespace Go.Proofs.YtipbakiecocioaaGreatDoor
open Go.V
attribute [local irreducible] Blk Own hcell IntT SliceT PlainT AggT SizeT StrT FieldT ZeroT EqT ArrT
/-- another block than the reader's own is turned -/
theorem RdSt.turned {w0 w w' : World} {ar B : Nat} {p : Option Addr} {c : Nat} {inp : List UInt8} {a : Nat} {pw : Option Addr} {cw : Nat} {r : RS} {ft : Int} {row : Option Nat} (h : RdSt w0 w ar B p c inp a pw cw r ft) (hg : w.grownBy w' row)
    (h1 : row ≠ some ar) (h2 : ∀ x, p = some x → row ≠ some x.block) (h3 : ∀ x, pw = some x → row ≠ some x.block) (h4 : ∀ k, row = some k → w0.heap.size ≤ k) : RdSt w0 w' ar B p c inp a pw cw r ft :=
  ⟨h.blk.grown hg h1, h.row.kept hg h2, h.wds.kept hg h3, h.ext.own hg h4, h.h0, h.lt, Nat.le_trans h.hB hg.size, h.la⟩
theorem RdSt.apart {w0 w : World} {ar B : Nat} {p : Option Addr} {c : Nat} {inp : List UInt8} {a : Nat} {pw : Option Addr} {cw : Nat} {r : RS} {ft : Int} (h : RdSt w0 w ar B p c inp a pw cw r ft) : ∀ x y, pw = some x → p = some y → x.block ≠ y.block :=
  fun _ _ hx hy => h.wds.apart2 h.row (by decide) hx hy
theorem tidy_ok {w0 : World} {ar B : Nat} {p : Option Addr} {c a : Nat} {inp : List UInt8} {pw : Option Addr} {cw : Nat} {r : RS} {w : World} (hR : RdSt w0 w ar B p c inp a pw cw r 0) (hN : inp.length ≤ 1000000000) :
    Ctr Tryz.prog 56 [.pointer (some (adr (bx ar) 0))] w (fun _ w' => FrS (fun q => q = ar ∨ bx q = p) w w' ∧ RdSt w0 w' ar B p c (inp.drop a) 0 pw cw r 0) := by
  cases p with
  | none => exact tidy_nil hR
  | some x => exact tidy_row hR (fun e => by cases e) hR.apart hN
/-- what Feed has beside the reader: the pointer to it, the done lines -/
structure GvSt (w : World) (ar B a2 a8 : Nat) (pd : Option Addr) (cd : Nat) (hs : List Hdr) : Prop where
  ptr : Blk w.heap a2 60 [.pointer (some (adr (bx ar) 0))]
  box : Blk w.heap a8 58 [.slice pd hs.length cd]
  row : Own w B 37 eSlc pd cd hs
set_option maxHeartbeats 2000000 in
theorem give_spec {w0 : World} {ar B B' a2 a8 : Nat} {p : Option Addr} {c a : Nat} {inp : List UInt8} {pw : Option Addr} {cw : Nat} {r : RS} {pd : Option Addr} {cd : Nat} {hs : List Hdr} {q : Option Addr} {m d : Nat} {w : World} (hR : RdSt w0 w ar B p c inp a pw cw r 0) (hG : GvSt w ar B' a2 a8 pd cd hs)
    (h8 : w0.heap.size ≤ a8) (hB : w0.heap.size ≤ B') (hB' : B' ≤ w.heap.size) (hl : hs.length ≤ 1000000000) :
    Ctr Tryz.prog 50 [.slice q m d, .pointer (some (adr (bx a8) 0)), .pointer (some (adr (bx a2) 0))] w (fun _ w' => ∃ pd' cd', RdSt w0 w' ar B p c inp a none 0 { r with words := [], held := 0 } 0 ∧ GvSt w' ar B' a2 a8 pd' cd' (hs ++ [(q, m, d)]) ∧ FrS (fun k => k = ar ∨ k = a8 ∨ bx k = pd) w w' ∧ ∀ k, blk pd' = some k → blk pd = some k ∨ w.heap.size ≤ k) := by
  have hA2 := hG.ptr
  have hA8 := hG.box
  have hO := hG.row
  have hzB := hR.hB
  refine Ctr_of Tryz.func50 Tryz.ntmps50 rfl rfl rfl ?_
  repeat' (first | (apply G_on; exact rfl; first | ((first | apply G1_move | apply G1_nilCheck); exact rfl; exact rfl) | (apply G1_loadB; (first | exact T.p58 | exact T.p60); exact rfl; assumption; exact rfl; exact rfl) | (apply G1_loadBS; (first | exact T.p58 | exact T.p60); exact rfl; assumption; exact rfl; (first | assumption | (focus (simp [exempt]; omega))); exact rfl) | (apply G1_loadFld; (first | exact T.p58 | exact T.p60); exact rfl; assumption; assumption; exact rfl; exact rfl; exact rfl) | (apply G1_loadEl1; (first | exact T.p58 | exact T.p60); exact rfl; assumption; assumption; exact rfl; exact rfl; exact rfl) | (apply G1_nilCheckF; exact rfl; exact rfl) | (apply G1_fieldAddr; (first | exact T.f109_4 | exact T.f109_5); exact rfl; exact rfl)) | apply G_nil | apply Post_next | apply W_seq | apply W_region | (apply W_cond_true; exact rfl) | (apply W_cond_false; exact rfl) | (apply W_cond_dec; exact rfl; all_goals (intro h; try (exfalso; omega))) | (apply W_cond; exact rfl; all_goals intro h) | (apply G_off; exact rfl; exact rfl) | ((fail_if_success (apply G_on; exact rfl)); apply G_split_dec; exact rfl; exact rfl; all_goals (intro h; try (exfalso; omega))) | ((fail_if_success (apply G_on; exact rfl)); apply G_split; exact rfl; exact rfl; all_goals intro h) | refine W_drawn 1 [] [0,1,2,3,4,5,6,7] mixed (by decide +kernel) ?_ | apply W_skip | apply W_exit | apply W_ret | apply W_block | apply Post_then_ret | apply Post_block_ret | apply Post_then_exit | apply Post_block_exit | (apply Post_block_other; exact rfl) | apply Post_block_normal)
  apply G_on; exact rfl
  apply G1_build1 eSlc (q, m, d); exact T.s58; exact rfl; exact rfl; exact rfl; decide; exact rfl; exact rfl
  intro p4 w4 hp4 hs4 _ hx4 hz4
  replace hO := hO.ext hx4
  replace hA2 := hA2.ext hx4
  replace hA8 := hA8.ext hx4
  have hR4 := hR.xt hx4
  have hge := hO.ge
  repeat' (first | (apply G_on; exact rfl; first | ((first | apply G1_move | apply G1_nilCheck); exact rfl; exact rfl) | (apply G1_appendA; exact T.s58; exact rfl; exact rfl; exact hO; exact hs4; exact rfl; omega; (simp only [List.length_cons, List.length_nil]; omega); (simp only [List.length_cons, List.length_nil]; omega); exact rfl; exact rfl; exact rfl; intro p5 c5 w5 ha5) | (apply G1_loadB; (first | exact T.p58 | exact T.p60); exact rfl; assumption; exact rfl; exact rfl) | (apply G1_loadBS; (first | exact T.p58 | exact T.p60); exact rfl; assumption; exact rfl; (first | assumption | (focus (simp [exempt]; omega))); exact rfl) | (apply G1_loadFld; (first | exact T.p58 | exact T.p60); exact rfl; assumption; assumption; exact rfl; exact rfl; exact rfl) | (apply G1_loadEl1; (first | exact T.p58 | exact T.p60); exact rfl; assumption; assumption; exact rfl; exact rfl; exact rfl) | (apply G1_nilCheckF; exact rfl; exact rfl) | (apply G1_fieldAddr; (first | exact T.f109_4 | exact T.f109_5); exact rfl; exact rfl)) | apply G_nil | apply Post_next | apply W_seq | apply W_region | (apply W_cond_true; exact rfl) | (apply W_cond_false; exact rfl) | (apply W_cond_dec; exact rfl; all_goals (intro h; try (exfalso; omega))) | (apply W_cond; exact rfl; all_goals intro h) | (apply G_off; exact rfl; exact rfl) | ((fail_if_success (apply G_on; exact rfl)); apply G_split_dec; exact rfl; exact rfl; all_goals (intro h; try (exfalso; omega))) | ((fail_if_success (apply G_on; exact rfl)); apply G_split; exact rfl; exact rfl; all_goals intro h) | refine W_drawn 1 [] [0,1,2,3,4,5,6,7] mixed (by decide +kernel) ?_ | apply W_skip | apply W_exit | apply W_ret | apply W_block | apply Post_then_ret | apply Post_block_ret | apply Post_then_exit | apply Post_block_exit | (apply Post_block_other; exact rfl) | apply Post_block_normal)
  have hrow : ∀ k, blk pd = some k → ∃ x, pd = some x ∧ x.block = k := fun k hk => by
    cases hpd : pd with
    | none => rw [hpd] at hk; cases hk
    | some x => rw [hpd] at hk; injection hk with hk; exact ⟨x, rfl, hk⟩
  have hR5 := hR4.turned ha5.grown (fun e => by obtain ⟨x, hx, hk⟩ := hrow _ e; exact hO.apart hx hR4.blk (by decide) hk.symm) (fun y hy e => by obtain ⟨x, hx, hk⟩ := hrow _ e; exact hO.apart2 hR4.row (by decide) hx hy hk) (fun y hy e => by obtain ⟨x, hx, hk⟩ := hrow _ e; exact hO.apart2 hR4.wds (by decide) hx hy hk) (fun k e => by have := hge k e; omega)
  have hA25 := hA2.grown ha5.grown (fun e => by obtain ⟨x, hx, hk⟩ := hrow _ e; exact hO.apart hx hA2 (by decide) hk.symm)
  have hA85 := hA8.grown ha5.grown (fun e => by obtain ⟨x, hx, hk⟩ := hrow _ e; exact hO.apart hx hA8 (by decide) hk.symm)
  apply G_on; exact rfl; apply G1_storeB; exact T.z58; exact rfl; exact rfl; exact hA85; exact rfl; exact rfl; (first | exact Nat.le_of_ble_eq_true rfl | (focus (simp [Value.cells]; done))); (first | exact Enc.one _ _ | (focus (simp [Value.oneCell']; done)) | (focus (simp [Value.cells, Value.oneCell']; done)) | exact Enc.oneAgg _ _); exact rfl; (first | exact .inl rfl | exact .inr (by simp [exempt])); exact rfl; intro w6 hA86 hg6 hs6
  replace hA86 : Blk w6.heap a8 58 [.slice p5 (hs ++ [(q, m, d)]).length c5] := hA86
  have hR6 := hR5.turned hg6 (fun e => by injection e with e; exact blk_ne hA85 hR5.blk (by decide) e) (fun y hy e => by injection e with e; exact hR5.row.apart hy hA85 (by decide) e) (fun y hy e => by injection e with e; exact hR5.wds.apart hy hA85 (by decide) e) (fun k e => by injection e with e; omega)
  have hA26 := hA25.grown hg6 (fun e => by injection e with e; exact blk_ne hA85 hA25 (by decide) e)
  have hO6 := ha5.own.kept hg6 (fun x hx e => by injection e with e; exact ha5.own.apart hx hA85 (by decide) e)
  have hbk := hR6.blk
  repeat' (first | (apply G_on; exact rfl; first | ((first | apply G1_move | apply G1_nilCheck); exact rfl; exact rfl) | (apply G1_loadB; (first | exact T.p58 | exact T.p60); exact rfl; assumption; exact rfl; exact rfl) | (apply G1_loadBS; (first | exact T.p58 | exact T.p60); exact rfl; assumption; exact rfl; (first | assumption | (focus (simp [exempt]; omega))); exact rfl) | (apply G1_loadFld; (first | exact T.p58 | exact T.p60); exact rfl; assumption; assumption; exact rfl; exact rfl; exact rfl) | (apply G1_loadEl1; (first | exact T.p58 | exact T.p60); exact rfl; assumption; assumption; exact rfl; exact rfl; exact rfl) | (apply G1_nilCheckF; exact rfl; exact rfl) | (apply G1_fieldAddr; (first | exact T.f109_4 | exact T.f109_5); exact rfl; exact rfl)) | apply G_nil | apply Post_next | apply W_seq | apply W_region | (apply W_cond_true; exact rfl) | (apply W_cond_false; exact rfl) | (apply W_cond_dec; exact rfl; all_goals (intro h; try (exfalso; omega))) | (apply W_cond; exact rfl; all_goals intro h) | (apply G_off; exact rfl; exact rfl) | ((fail_if_success (apply G_on; exact rfl)); apply G_split_dec; exact rfl; exact rfl; all_goals (intro h; try (exfalso; omega))) | ((fail_if_success (apply G_on; exact rfl)); apply G_split; exact rfl; exact rfl; all_goals intro h) | refine W_drawn 1 [] [0,1,2,3,4,5,6,7] mixed (by decide +kernel) ?_ | apply W_skip | apply W_exit | apply W_ret | apply W_block | apply Post_then_ret | apply Post_block_ret | apply Post_then_exit | apply Post_block_exit | (apply Post_block_other; exact rfl) | apply Post_block_normal)
  have nA2 := blk_ne hA26 hbk (by decide)
  refine W_drawn 3 [ar] [0,1,2,3,4,5,6,7] mixed (by decide +kernel) ?_
  repeat' (first | (apply G_on; exact rfl; first | ((first | apply G1_move | apply G1_nilCheck); exact rfl; exact rfl) | (apply G1_loadB; (first | exact T.p58 | exact T.p60); exact rfl; assumption; exact rfl; exact rfl) | (apply G1_loadBS; (first | exact T.p58 | exact T.p60); exact rfl; assumption; exact rfl; (first | assumption | (focus (simp [exempt]; omega))); exact rfl) | (apply G1_loadFld; (first | exact T.p58 | exact T.p60); exact rfl; assumption; assumption; exact rfl; exact rfl; exact rfl) | (apply G1_loadEl1; (first | exact T.p58 | exact T.p60); exact rfl; assumption; assumption; exact rfl; exact rfl; exact rfl) | (apply G1_nilCheckF; exact rfl; exact rfl) | (apply G1_fieldAddr; (first | exact T.f109_4 | exact T.f109_5); exact rfl; exact rfl)) | apply G_nil | apply Post_next | apply W_seq | apply W_region | (apply W_cond_true; exact rfl) | (apply W_cond_false; exact rfl) | (apply W_cond_dec; exact rfl; all_goals (intro h; try (exfalso; omega))) | (apply W_cond; exact rfl; all_goals intro h) | (apply G_off; exact rfl; exact rfl) | ((fail_if_success (apply G_on; exact rfl)); apply G_split_dec; exact rfl; exact rfl; all_goals (intro h; try (exfalso; omega))) | ((fail_if_success (apply G_on; exact rfl)); apply G_split; exact rfl; exact rfl; all_goals intro h) | refine W_drawn 1 [] [0,1,2,3,4,5,6,7] mixed (by decide +kernel) ?_ | apply W_skip | apply W_exit | apply W_ret | apply W_block | apply Post_then_ret | apply Post_block_ret | apply Post_then_exit | apply Post_block_exit | (apply Post_block_other; exact rfl) | apply Post_block_normal)
  apply G_on; exact rfl; apply G1_storeB; exact T.z37; exact rfl; exact rfl; exact hbk; exact rfl; exact rfl; (first | exact Nat.le_of_ble_eq_true rfl | (focus (simp [Value.cells]; done))); (first | exact Enc.one _ _ | (focus (simp [Value.oneCell']; done)) | (focus (simp [Value.cells, Value.oneCell']; done)) | exact Enc.oneAgg _ _); exact rfl; (first | exact .inl rfl | exact .inr (by simp [exempt])); exact rfl; intro w7 hA7 hg7 hs7
  repeat' (first | (apply G_on; exact rfl; first | ((first | apply G1_move | apply G1_nilCheck); exact rfl; exact rfl) | (apply G1_loadB; (first | exact T.p58 | exact T.p60); exact rfl; assumption; exact rfl; exact rfl) | (apply G1_loadBS; (first | exact T.p58 | exact T.p60); exact rfl; assumption; exact rfl; (first | assumption | (focus (simp [exempt]; omega))); exact rfl) | (apply G1_loadFld; (first | exact T.p58 | exact T.p60); exact rfl; assumption; assumption; exact rfl; exact rfl; exact rfl) | (apply G1_loadEl1; (first | exact T.p58 | exact T.p60); exact rfl; assumption; assumption; exact rfl; exact rfl; exact rfl) | (apply G1_nilCheckF; exact rfl; exact rfl) | (apply G1_fieldAddr; (first | exact T.f109_4 | exact T.f109_5); exact rfl; exact rfl)) | apply G_nil | apply Post_next | apply W_seq | apply W_region | (apply W_cond_true; exact rfl) | (apply W_cond_false; exact rfl) | (apply W_cond_dec; exact rfl; all_goals (intro h; try (exfalso; omega))) | (apply W_cond; exact rfl; all_goals intro h) | (apply G_off; exact rfl; exact rfl) | ((fail_if_success (apply G_on; exact rfl)); apply G_split_dec; exact rfl; exact rfl; all_goals (intro h; try (exfalso; omega))) | ((fail_if_success (apply G_on; exact rfl)); apply G_split; exact rfl; exact rfl; all_goals intro h) | refine W_drawn 1 [] [0,1,2,3,4,5,6,7] mixed (by decide +kernel) ?_ | apply W_skip | apply W_exit | apply W_ret | apply W_block | apply Post_then_ret | apply Post_block_ret | apply Post_then_exit | apply Post_block_exit | (apply Post_block_other; exact rfl) | apply Post_block_normal)
  apply G_on; exact rfl; apply G1_storeB; exact T.z3; exact rfl; exact rfl; exact hA7; exact rfl; exact rfl; (first | exact Nat.le_of_ble_eq_true rfl | (focus (simp [Value.cells]; done))); (first | exact Enc.one _ _ | (focus (simp [Value.oneCell']; done)) | (focus (simp [Value.cells, Value.oneCell']; done)) | exact Enc.oneAgg _ _); exact rfl; (first | exact .inl rfl | exact .inr (by simp [exempt])); exact rfl; intro w8 hA8' hg8 hs8
  replace hA8' : Blk w8.heap ar 109 [.slice p inp.length c, .int .i64 (a : Int), .int .i64 (r.left : Int), .int .i64 r.size, .slice none 0 0, .int .i64 ((0 : Nat) : Int), .int .i64 0] := hA8'
  have hg := grown_same hg7 hg8
  have hx6 : Ext w6 w6.drew := Ext.drew Ext.rfl'
  have hR7 := hR6.xt hx6
  have hq : ∀ x : Addr, some ar = some x.block → B ≤ x.block → False := fun x e h2 => by injection e with e; have := hR.lt; omega
  have hne : ∀ x, p = some x → some ar ≠ some x.block := fun x hx e => hq x e (hR7.row.ge x.block (by rw [hx]; rfl)).1
  have hR8 : RdSt w0 w8 ar B p c inp a none 0 { r with words := [], held := 0 } 0 :=
    ⟨hA8', hR7.row.kept hg hne, Own.nil _ _ _ _, hR7.ext.own hg (fun k hk => by injection hk with hk; have := hR.h0; omega), hR.h0, hR.lt, Nat.le_trans hR7.hB hg.size, hR.la⟩
  have hO8 := (hO6.ext hx6).kept hg (fun x hx e => by injection e with e; exact (hO6.ext hx6).apart hx hR7.blk (by decide) e)
  repeat' (first | (apply G_on; exact rfl; first | ((first | apply G1_move | apply G1_nilCheck); exact rfl; exact rfl) | (apply G1_loadB; (first | exact T.p58 | exact T.p60); exact rfl; assumption; exact rfl; exact rfl) | (apply G1_loadBS; (first | exact T.p58 | exact T.p60); exact rfl; assumption; exact rfl; (first | assumption | (focus (simp [exempt]; omega))); exact rfl) | (apply G1_loadFld; (first | exact T.p58 | exact T.p60); exact rfl; assumption; assumption; exact rfl; exact rfl; exact rfl) | (apply G1_loadEl1; (first | exact T.p58 | exact T.p60); exact rfl; assumption; assumption; exact rfl; exact rfl; exact rfl) | (apply G1_nilCheckF; exact rfl; exact rfl) | (apply G1_fieldAddr; (first | exact T.f109_4 | exact T.f109_5); exact rfl; exact rfl)) | apply G_nil | apply Post_next | apply W_seq | apply W_region | (apply W_cond_true; exact rfl) | (apply W_cond_false; exact rfl) | (apply W_cond_dec; exact rfl; all_goals (intro h; try (exfalso; omega))) | (apply W_cond; exact rfl; all_goals intro h) | (apply G_off; exact rfl; exact rfl) | ((fail_if_success (apply G_on; exact rfl)); apply G_split_dec; exact rfl; exact rfl; all_goals (intro h; try (exfalso; omega))) | ((fail_if_success (apply G_on; exact rfl)); apply G_split; exact rfl; exact rfl; all_goals intro h) | refine W_drawn 1 [] [0,1,2,3,4,5,6,7] mixed (by decide +kernel) ?_ | apply W_skip | apply W_exit | apply W_ret | apply W_block | apply Post_then_ret | apply Post_block_ret | apply Post_then_exit | apply Post_block_exit | (apply Post_block_other; exact rfl) | apply Post_block_normal)
  refine Post_end Tryz.results50 (vs := []) rfl ?_
  refine ⟨p5, c5, hR8, ⟨(hA26.ext hx6).grown hg (fun e => by injection e with e; exact nA2 e.symm), (hA86.ext hx6).grown hg (fun e => by injection e with e; exact blk_ne hR7.blk (hA86.ext hx6) (by decide) e), hO8⟩, ?_⟩
  have f1 : FrS (fun k => k = ar ∨ k = a8 ∨ bx k = pd) w w4 := FrS.of_ext hx4
  have f2 : FrS (fun k => k = ar ∨ k = a8 ∨ bx k = pd) w4 w5 := FrS.of_grown ha5.grown (fun k hk => by
    obtain ⟨x, hx, e⟩ := hrow _ hk
    obtain ⟨gb, cur, e1, _⟩ := hO.toBlk (by rw [hx]; exact fun h => by cases h)
    rw [hx] at e1
    injection e1 with e1
    refine .inr (.inr ?_)
    rw [hx, e1, ← e, e1])
  have f3 : FrS (fun k => k = ar ∨ k = a8 ∨ bx k = pd) w5 w6 := FrS.of_grown hg6 (fun k hk => by injection hk with hk; exact .inr (.inl hk.symm))
  have f4 : FrS (fun k => k = ar ∨ k = a8 ∨ bx k = pd) w6.drew w8 := FrS.of_grown hg (fun k hk => by injection hk with hk; exact .inl hk.symm)
  have hnp := ha5.new
  unfold NewP at hnp
  have hz4' := hx4.size
  exact ⟨(((f1.trans f2 (fun _ _ h => h)).trans f3 (fun _ _ h => h)).trans (FrS.of_ext hx6) (fun _ _ h => h)).trans f4 (fun _ _ h => h), fun k hk => hnp.elim (fun h => .inl (by rw [← h]; exact hk)) (fun h => .inr (by have := h k hk; omega))⟩
end Go.Proofs.YtipbakiecocioaaGreatDoor

/- Requests: Feed; the walk. -/

namespace Go.V
section
variable {P : Program} {n : Nat} {E : Env} {w : World} {Q : Exit → Act → World → Prop}
theorem W_scopeI {c : Code} (h : W P n c (Exit.noGoto Q) E w) : W P n (.scope c) Q E w := by
  unfold W at *
  exact fun a ha => wp_scope_straight (h a ha)
theorem W_label {id : Nat} (h : Post n Q .normal E w) : W P n (.label id) Q E w := by
  unfold W; unfold Post at h
  exact fun a ha => wp_label (h a ha)
theorem Post_scopeR (h : Post n Q .ret E w) : Post n (Exit.noGoto Q) .ret E w := by unfold Post at *; exact h
end
/-- what lies in a block that is not turned stays -/
theorem Sl.fr {α : Type} {e : Enc α} {F : Nat → Prop} {w w' : World} {p : Option Addr} {c : Nat} {xs : List α} (h : Sl w.heap e p c xs) (hf : FrS F w w') (hn : ∀ x, p = some x → ¬ F x.block) : Sl w'.heap e p c xs := by
  cases p with
  | none => exact ⟨h.ok, fun i x hi k v hv => by have := h.ok.nul rfl; have := h.ok.le; have := (List.getElem?_eq_some_iff.1 hi).1; omega⟩
  | some y =>
    refine ⟨h.ok, fun i x hi k v hv => ?_⟩
    have h1 := h.cell i x hi k v hv
    have hb : (adr (some y) (i * e.sz + k)).block = y.block := rfl
    rw [hcell_block (hf.block _ (hcell_lt h1) (by rw [hb]; exact hn y rfl))]
    exact h1
end Go.V
namespace Go.Proofs.YtipbakiecocioaaGreatDoor
open Go.V
attribute [local irreducible] Blk Own hcell IntT SliceT PlainT AggT SizeT StrT FieldT ZeroT EqT ArrT
end Go.Proofs.YtipbakiecocioaaGreatDoor

/- Requests: what holds of a reader's state at all times; in plain Lean. -/

namespace Go.Proofs.YtipbakiecocioaaGreatDoor
open Go.V
attribute [local irreducible] Blk Own hcell IntT SliceT PlainT AggT SizeT StrT FieldT ZeroT EqT ArrT
structure GoodR (r : RS) : Prop where
  size : -1 ≤ r.size ∧ r.size ≤ 4096
  words : r.left + r.words.length ≤ 128
  zero : r.left = 0 → r = rs0
theorem good0 : GoodR rs0 := ⟨⟨by simp [rs0], by simp [rs0]⟩, by simp [rs0], fun _ => rfl⟩
theorem step_good {r r' : RS} {cs : List UInt8} {k : Nat} {out : List (List ByteArray)} (hr : GoodR r) (h : stepP r cs = .go r' k out) : GoodR r' ∧ r'.held ≤ r.held + k ∧ out.length ≤ 1 := by
  unfold stepP at h
  split at h
  · rename_i h0
    split at h
    · cases h
    · cases h
    · rename_i s k' hl
      have h1 := line_len hl
      split at h
      · split at h
        · cases h
        · rename_i n hn
          have := num_ok hn
          cases h
          exact ⟨⟨⟨by simp only; omega, by simp only; omega⟩, by simp only [List.length_nil]; omega, fun e => by simp only at e; omega⟩, by simp only; omega, Nat.zero_le _⟩
      · split at h
        · cases h
        · cases h
          refine ⟨good0, by simp only [rs0]; omega, ?_⟩
          split
          · exact Nat.zero_le _
          · exact Nat.le_refl _
  rename_i h0
  have hw := hr.words
  split at h
  · split at h
    · cases h
    · cases h
    · rename_i s k' hl
      have h1 := line_len hl
      split at h
      · cases h
      · rename_i n hn
        have := num_ok hn
        cases h
        exact ⟨⟨⟨by simp only; omega, by simp only; omega⟩, hw, fun e => absurd e h0⟩, Nat.le_refl _, Nat.zero_le _⟩
  split at h
  · cases h
  split at h
  · split at h
    · cases h
      exact ⟨good0, by simp only [rs0]; omega, Nat.le_refl _⟩
    · rename_i h1
      cases h
      exact ⟨⟨⟨by simp only; omega, by simp only; omega⟩, by simp only [List.length_append, List.length_singleton]; omega, fun e => by simp only at e; omega⟩, Nat.le_refl _, Nat.zero_le _⟩
  · cases h
theorem run_good : ∀ (n : Nat) {r : RS} {cs : List UInt8}, cs.length < n → GoodR r → GoodR (runP r cs).st ∧ (runP r cs).st.held + (runP r cs).rest.length ≤ r.held + cs.length ∧ (runP r cs).rest.length ≤ cs.length ∧ (runP r cs).out.length ≤ cs.length ∧ ((runP r cs).err = 0 ∨ (runP r cs).err = 10 ∨ (runP r cs).err = 12)
  | 0, _, _, h, _ => by omega
  | n + 1, r, cs, hn, hr => by
    cases h : stepP r cs with
    | stop => rw [run_stop h]; exact ⟨hr, Nat.le_refl _, Nat.le_refl _, Nat.zero_le _, .inl rfl⟩
    | fault e => rw [run_fault h]; exact ⟨hr, Nat.le_refl _, Nat.le_refl _, Nat.zero_le _, .inr (step_fault h)⟩
    | go r' k out =>
      have hk := step_go h
      obtain ⟨g1, g2, g3⟩ := step_good hr h
      obtain ⟨i1, i2, i3, i4, i5⟩ := run_good n (r := r') (cs := cs.drop k) (by rw [List.length_drop]; omega) g1
      rw [run_go h]
      rw [List.length_drop] at i2 i3 i4
      exact ⟨i1, by simp only; omega, by simp only; omega, by simp only [List.length_append]; omega, i5⟩
theorem sized_held {r : RS} {cs : List UInt8} {k0 : Nat} : match sizedP r cs k0 with
    | .more r' k => r' = r ∧ k = k0
    | .err _ => True
    | .ok _ h k => h + k0 = r.held + k := by
  unfold sizedP
  by_cases h1 : cs.length < r.size.toNat + 2
  · rw [if_pos h1]; exact ⟨rfl, rfl⟩
  · rw [if_neg h1]
    by_cases h2 : (cs.drop r.size.toNat).take 2 = [13, 10]
    · rw [if_pos h2]; simp only; omega
    · rw [if_neg h2]; trivial
theorem word_held {r : RS} {cs : List UInt8} : match wordP r cs with
    | .more r' k => r'.held = r.held + k
    | .err _ => True
    | .ok _ h k => h = r.held + k := by
  unfold wordP
  by_cases hs : r.size < 0
  · rw [if_pos hs]
    cases lineP cs with
    | more => rfl
    | err e => trivial
    | ok s k =>
      simp only
      cases numP s 36 0 4096 with
      | error e => trivial
      | ok n =>
        simp only
        have key := sized_held (r := { r with size := n, held := r.held + k }) (cs := cs.drop k) (k0 := k)
        cases hz : sizedP { r with size := n, held := r.held + k } (cs.drop k) k with
        | more r' k' => rw [hz] at key; obtain ⟨rfl, rfl⟩ := key; rfl
        | err e => trivial
        | ok s' h k' => rw [hz] at key; simp only at key ⊢; omega
  · rw [if_neg hs]
    have key := sized_held (r := r) (cs := cs) (k0 := 0)
    cases hz : sizedP r cs 0 with
    | more r' k' => rw [hz] at key; obtain ⟨rfl, rfl⟩ := key; rfl
    | err e => trivial
    | ok s' h k' => rw [hz] at key; simp only at key ⊢; omega
theorem word_err {r : RS} {cs : List UInt8} {e : Int} (h : wordP r cs = .err e) : e = 10 ∨ e = 12 := by
  have key : ∀ (r : RS) (cs : List UInt8) k, sizedP r cs k = .err e → e = 10 ∨ e = 12 := fun r cs k h => by
    unfold sizedP at h
    split at h
    · cases h
    · split at h
      · cases h
      · cases h; exact .inl rfl
  unfold wordP at h
  split at h
  · split at h
    · cases h
    · rename_i hl; cases h; exact line_err hl
    · split at h
      · rename_i hn; cases h; exact num_err hn
      · exact key _ _ _ h
  · exact key _ _ _ h
end Go.Proofs.YtipbakiecocioaaGreatDoor

/- Requests: what lies beside the reader while Feed runs; in plain Lean. -/

namespace Go.V
theorem Own.apartB {α : Type} {e : Enc α} {w : World} {B T : Nat} {p : Option Addr} {c : Nat} {xs : List α} (h : Own w B T e p c xs) {b t : Nat} {cs : List Value} (hb : Blk w.heap b t cs) (ht : T ≠ t) : blk p ≠ some b := by
  intro hk
  cases p with
  | none => cases hk
  | some x => injection hk with hk; exact h.apart rfl hb ht hk.symm
theorem Own.apartR {α β : Type} {e : Enc α} {f : Enc β} {w : World} {B T B' T' : Nat} {p q : Option Addr} {c d : Nat} {xs : List α} {ys : List β} (h : Own w B T e p c xs) (k : Own w B' T' f q d ys) (ht : T ≠ T') : ∀ y, q = some y → blk p ≠ some y.block := by
  intro y hy hk
  cases p with
  | none => cases hk
  | some x => injection hk with hk; exact h.apart2 k ht rfl hy hk
/-- a row of one's own whose block is not turned -/
theorem Own.fr {α : Type} {e : Enc α} {F : Nat → Prop} {w w' : World} {B T : Nat} {p : Option Addr} {c : Nat} {xs : List α} (h : Own w B T e p c xs) (hf : FrS F w w') (hn : ∀ k, blk p = some k → ¬ F k) : Own w' B T e p c xs := by
  obtain ⟨h1, h2⟩ := h
  refine ⟨h1, ?_⟩
  rcases h2 with h2 | ⟨g, cap, cur, h3, h4, h5, h6⟩
  · exact .inl h2
  · refine .inr ⟨g, cap, cur, h3, h4, ?_, h6⟩
    injection h3 with h3 _ _
    rw [hf.block g (Array.getElem?_eq_some_iff.1 h5).1 (hn g (by rw [h3]; rfl))]
    exact h5
/-- slices of bytes that lie apart from some blocks -/
structure PartsAt (H : Array Obj) (F : Nat → Prop) (hs : List Hdr) (bss : List (List UInt8)) : Prop where
  len : hs.length = bss.length
  get : ∀ (i : Nat) h b, hs[i]? = some h → bss[i]? = some b → h.2.1 = b.length ∧ Sl H eByte h.1 h.2.2 b ∧ ∀ x, h.1 = some x → b ≠ [] → ¬ F x.block
theorem Sl.fr' {α : Type} {e : Enc α} {F : Nat → Prop} {w w' : World} {p : Option Addr} {c : Nat} {xs : List α} (h : Sl w.heap e p c xs) (hf : FrS F w w') (hn : ∀ x, p = some x → xs ≠ [] → ¬ F x.block) : Sl w'.heap e p c xs := by
  cases xs with
  | nil => exact ⟨h.ok, fun i x hi => by simp at hi⟩
  | cons y ys => exact h.fr hf (fun x hx => hn x hx (by simp))
theorem flat_snoc {α : Type} {xs : List (List α)} {i : Nat} {b : List α} (h : xs[i]? = some b) : (xs.take (i + 1)).flatten = (xs.take i).flatten ++ b := by
  rw [take_snoc h, List.flatten_append]; simp
theorem flat_le {α : Type} (xs : List (List α)) (i : Nat) : (xs.take i).flatten.length ≤ xs.flatten.length := by
  have : xs.flatten = (xs.take i).flatten ++ (xs.drop i).flatten := by rw [← List.flatten_append, List.take_append_drop]
  rw [this, List.length_append]; omega
theorem blk_apart {α β : Type} {e : Enc α} {f : Enc β} {w : World} {B T B' T' : Nat} {p q : Option Addr} {c d : Nat} {xs : List α} {ys : List β} {k : Nat} (h : Own w B T e p c xs) (h' : Own w B' T' f q d ys) (ht : T ≠ T') (hp : blk p = some k) (hq : blk q = some k) : False := by
  cases q with
  | none => cases hq
  | some y => injection hq with hq; exact h.apartR h' ht y rfl (by rw [hp, hq])
theorem FrS.mono {F G : Nat → Prop} {w w' : World} (h : FrS F w w') (hg : ∀ k, F k → G k) : FrS G w w' := ⟨h.os, h.tape, h.output, h.size, fun k hk hn => h.block k hk (fun e => hn (hg k e))⟩
theorem FrS.one {w w' : World} {b : Nat} (hf : FrS (fun q => q = b) w w') : w.grownBy w' (some b) :=
  ⟨hf.os, hf.tape, hf.output, hf.size, fun q hq hne => hf.block q hq (fun e => hne (by rw [e]))⟩
end Go.V
namespace Go.Proofs.YtipbakiecocioaaGreatDoor
open Go.V
attribute [local irreducible] Blk Own hcell IntT SliceT PlainT AggT SizeT StrT FieldT ZeroT EqT ArrT
/-- how far Feed is: the bytes done, the reader's state, its words' row, the done lines and their row -/
structure FdY where
  a : Nat
  r : RS
  pw : Option Addr
  cw : Nat
  hs : List Hdr
  ls : List (List ByteArray)
  pd : Option Addr
  cd : Nat
/-- a block of strings -/
def IsStr (H : Array Obj) (k : Nat) : Prop := ∃ cur, H[k]? = some (.cells cur 9 (0, 0))
theorem noStr {H : Array Obj} {k t : Nat} {cs : List Value} (h : Blk H k t cs) (ht : t ≠ 9) : ¬ IsStr H k := by
  rintro ⟨cur, e⟩
  unfold Blk at h
  rw [h] at e
  injection e with e
  injection e with _ e2 _
  exact ht e2
theorem own_noStr {α : Type} {e : Enc α} {w : World} {B T : Nat} {p : Option Addr} {c : Nat} {xs : List α} (h : Own w B T e p c xs) (hT : T ≠ 9) {k : Nat} (hk : blk p = some k) : ¬ IsStr w.heap k := by
  rintro ⟨cur, e⟩
  obtain ⟨cur', e'⟩ := h.at hk
  rw [e'] at e
  injection e with e
  injection e with _ e2 _
  exact hT e2
/-- lists of words that lie in blocks of strings, apart from X -/
def WordsAt (H : Array Obj) (X : Nat → Prop) (hs : List Hdr) (ls : List (List ByteArray)) : Prop := CmdsAt (veil (fun k => X k ∨ ¬ IsStr H k) H) hs ls
theorem WordsAt.nil {H : Array Obj} {X : Nat → Prop} : WordsAt H X [] [] := CmdsAt.nil
theorem WordsAt.fr {F X X' : Nat → Prop} {w w' : World} {hs : List Hdr} {ls : List (List ByteArray)} (h : WordsAt w.heap X hs ls) (hf : FrS F w w') (hh : ∀ k, k < w.heap.size → IsStr w.heap k → ¬ X k → ¬ F k ∧ ¬ X' k) : WordsAt w'.heap X' hs ls := by
  unfold WordsAt at *
  refine h.hide (fun q hn hq => ?_)
  have h1 : IsStr w.heap q := Classical.byContradiction fun e => hn (.inr e)
  obtain ⟨h2, h3⟩ := hh q hq h1 (fun e => hn (.inl e))
  have h4 := hf.block q hq h2
  refine ⟨fun e => e.elim h3 (fun e => e ?_), h4⟩
  obtain ⟨cur, e1⟩ := h1
  exact ⟨cur, by rw [h4]; exact e1⟩
theorem WordsAt.ext {X : Nat → Prop} {w w' : World} {hs : List Hdr} {ls : List (List ByteArray)} (h : WordsAt w.heap X hs ls) (hx : Ext w w') : WordsAt w'.heap X hs ls := h.fr (FrS.of_ext (F := fun _ => False) hx) (fun _ _ _ h => ⟨id, h⟩)
theorem WordsAt.shown {H : Array Obj} {X : Nat → Prop} {hs : List Hdr} {ls : List (List ByteArray)} (h : WordsAt H X hs ls) : CmdsAt H hs ls := CmdsAt.shown h
theorem WordsAt.snoc {w : World} {X : Nat → Prop} {hs : List Hdr} {ls : List (List ByteArray)} {B : Nat} {q : Option Addr} {d : Nat} {l : List ByteArray} (h : WordsAt w.heap X hs ls) (hO : Own w B 9 eStr q d l) (hq : ∀ k, blk q = some k → ¬ X k) : WordsAt w.heap X (hs ++ [(q, l.length, d)]) (ls ++ [l]) :=
  CmdsAt.snoc h (hO.hidden (fun k hk e => e.elim (hq k hk) (fun e => e (hO.at hk))))
theorem WordsAt.app {H : Array Obj} {X : Nat → Prop} {hs hs' : List Hdr} {ls ls' : List (List ByteArray)} (h : WordsAt H X hs ls) (k : WordsAt H X hs' ls') : WordsAt H X (hs ++ hs') (ls ++ ls') := CmdsAt.app h k
/-- what is beside the reader -/
structure FdO (w w' : World) (ar a2 a8 : Nat) (p0 pw0 p : Option Addr) (y : FdY) : Prop where
  gv : GvSt w' ar w.heap.size a2 a8 y.pd y.cd y.hs
  cm : WordsAt w'.heap (fun k => blk y.pw = some k) y.hs y.ls
  fr : FrS (fun k => k = ar ∨ blk p0 = some k ∨ blk pw0 = some k) w w'
  np : ∀ k, blk p = some k → blk p0 = some k ∨ w.heap.size ≤ k
  npw : ∀ k, blk y.pw = some k → blk pw0 = some k ∨ w.heap.size ≤ k
  h8 : w.heap.size ≤ a8
  h2 : w.heap.size ≤ a2
structure FdI (w0 w w' : World) (ar B a2 a8 : Nat) (p0 pw0 p : Option Addr) (c : Nat) (I : List UInt8) (r0 : RS) (y : FdY) : Prop where
  rd : RdSt w0 w' ar B p c I y.a y.pw y.cw y.r 0
  o : FdO w w' ar a2 a8 p0 pw0 p y
  run : runP r0 I = { runP y.r (I.drop y.a) with out := y.ls ++ (runP y.r (I.drop y.a)).out }
  held : y.r.held + (I.length - y.a) ≤ 1000000000
  good : GoodR y.r
  cnt : y.ls.length ≤ y.a
/-- the reader's own cells alone are turned -/
theorem FdO.own {w w1 w' : World} {ar a2 a8 : Nat} {p0 pw0 p : Option Addr} {y : FdY} {cs : List Value} (h : FdO w w1 ar a2 a8 p0 pw0 p y) (hR : Blk w1.heap ar 109 cs) (hf : FrS (fun q => q = ar) w1 w') : FdO w w' ar a2 a8 p0 pw0 p y :=
  ⟨⟨hf.blk h.gv.ptr (fun e => blk_ne h.gv.ptr hR (by decide) e), hf.blk h.gv.box (fun e => blk_ne h.gv.box hR (by decide) e), h.gv.row.kept hf.one (fun x hx e => by injection e with e; exact h.gv.row.apart hx hR (by decide) e)⟩,
    h.cm.fr hf (fun q _ hs hn => ⟨fun e => noStr hR (by decide) (by rw [← e]; exact hs), hn⟩), h.fr.trans hf (fun q _ e => .inl e), h.np, h.npw, h.h8, h.h2⟩
/-- what Feed answers -/
structure FeedA (w0 w : World) (ar B : Nat) (p pw : Option Addr) (X : Res) (v : Value) (w' : World) : Prop where
  fr : FrS (fun k => k = ar ∨ blk p = some k ∨ blk pw = some k) w w'
  ex : ∃ pd cd hs p' c' pw' cw', v = .tuple #[.slice pd hs.length cd, .int .i64 X.err] ∧ Own w' w.heap.size 37 eSlc pd cd hs ∧
    WordsAt w'.heap (fun k => blk pw' = some k) hs X.out ∧ (∀ k, blk p' = some k → blk p = some k ∨ w.heap.size ≤ k) ∧ (∀ k, blk pw' = some k → blk pw = some k ∨ w.heap.size ≤ k) ∧
    (X.err = 0 → RdSt w0 w' ar B p' c' X.rest 0 pw' cw' X.st 0) ∧ (X.err ≠ 0 → RdSt w0 w' ar B p' c' [] 0 pw' cw' ⟨0, 0, [], 0⟩ X.err)
theorem feed_done {w0 w w1 w' : World} {ar B a2 a8 c : Nat} {p0 pw0 p : Option Addr} {I : List UInt8} {y : FdY} {r0 : RS} (hR : RdSt w0 w1 ar B p c I y.a y.pw y.cw y.r 0) (h : FdO w w1 ar a2 a8 p0 pw0 p y) (hf : FrS (fun q => q = ar ∨ bx q = p) w1 w')
    (hR' : RdSt w0 w' ar B p c (I.drop y.a) 0 y.pw y.cw y.r 0) (hX : runP r0 I = ⟨y.ls, y.r, I.drop y.a, 0⟩) :
    GvSt w' ar w.heap.size a2 a8 y.pd y.cd y.hs ∧ ∀ w2, Ext w' w2 → FeedA w0 w ar B p0 pw0 (runP r0 I) (.tuple #[.slice y.pd y.hs.length y.cd, .int .i64 0]) w2 := by
  have hbp : ∀ q, bx q = p → blk p = some q := fun q e => by rw [← e]; rfl
  have n2 : ¬ (a2 = ar ∨ bx a2 = p) := fun e => e.elim (fun e => blk_ne h.gv.ptr hR.blk (by decide) e) (fun e => hR.row.apartB h.gv.ptr (by decide) (hbp _ e))
  have n8 : ¬ (a8 = ar ∨ bx a8 = p) := fun e => e.elim (fun e => blk_ne h.gv.box hR.blk (by decide) e) (fun e => hR.row.apartB h.gv.box (by decide) (hbp _ e))
  have hrow : Own w' w.heap.size 37 eSlc y.pd y.cd y.hs := h.gv.row.fr hf (fun k hk e => by
    have hx : ∃ x, y.pd = some x ∧ x.block = k := by
      cases hp : y.pd with
      | none => rw [hp] at hk; cases hk
      | some x => rw [hp] at hk; injection hk with hk; exact ⟨x, rfl, hk⟩
    obtain ⟨x, hx, e2⟩ := hx
    subst e2
    rcases e with e | e
    · exact h.gv.row.apart hx hR.blk (by decide) e.symm
    · exact h.gv.row.apart2 hR.row (by decide) hx e.symm rfl)
  have hgv : GvSt w' ar w.heap.size a2 a8 y.pd y.cd y.hs := ⟨hf.blk h.gv.ptr n2, hf.blk h.gv.box n8, hrow⟩
  refine ⟨hgv, fun w2 hx => ?_⟩
  rw [hX]
  refine ⟨?_, y.pd, y.cd, y.hs, p, c, y.pw, y.cw, rfl, hrow.ext hx, ?_, h.np, h.npw, fun _ => hR'.xt hx, fun e => absurd rfl e⟩
  · exact (h.fr.trans hf (fun q hq e => e.elim .inl (fun e => (h.np q (hbp q e)).elim (fun e => .inr (.inl e)) (fun e => by omega)))).trans (FrS.of_ext hx) (fun _ _ h => h)
  · refine (h.cm.fr hf (fun q _ hs hn => ⟨fun e => ?_, hn⟩)).ext hx
    rcases e with e | e
    · exact noStr hR.blk (by decide) (by rw [← e]; exact hs)
    · exact own_noStr hR.row (by decide) (hbp q e) hs
theorem feed_fail {w0 w w1 w' : World} {ar B a2 a8 c : Nat} {p0 pw0 p : Option Addr} {I : List UInt8} {a cw : Nat} {r : RS} {e : Int} {y : FdY} {r0 : RS} (hR : RdSt w0 w1 ar B p c I a y.pw cw r e) (h : FdO w w1 ar a2 a8 p0 pw0 p y) (hf : FrS (fun q => q = ar) w1 w')
    (hR' : RdSt w0 w' ar B none 0 [] 0 none 0 { left := 0, size := 0, words := [], held := 0 } e) (he : e ≠ 0) (hX : (runP r0 I).out = y.ls ∧ (runP r0 I).err = e) :
    GvSt w' ar w.heap.size a2 a8 y.pd y.cd y.hs ∧ ∀ w2, Ext w' w2 → FeedA w0 w ar B p0 pw0 (runP r0 I) (.tuple #[.slice y.pd y.hs.length y.cd, .int .i64 e]) w2 := by
  have h2 := h.own hR.blk hf
  refine ⟨h2.gv, fun w2 hx => ⟨h2.fr.trans (FrS.of_ext hx) (fun _ _ h => h), y.pd, y.cd, y.hs, none, 0, none, 0, by rw [hX.2], h2.gv.row.ext hx, ?_, fun k hk => (by cases hk), fun k hk => (by cases hk), fun e0 => absurd (hX.2.symm.trans e0) he, fun _ => by rw [hX.2]; exact hR'.xt hx⟩⟩
  rw [hX.1]
  exact h2.cm.fr (FrS.of_ext (F := fun _ => False) hx) (fun q _ hs hn => ⟨id, fun e => by cases e⟩)
/-- a list is given -/
theorem FdO.give {w0 w w1 w' : World} {ar B a2 a8 c : Nat} {p0 pw0 p : Option Addr} {I : List UInt8} {y : FdY} {a : Nat} {r : RS} {ft : Int} {pd' : Option Addr} {cd' : Nat} {q : Option Addr} {d m : Nat} {l : List ByteArray} {a' : Nat} {r' : RS} (h : FdO w w1 ar a2 a8 p0 pw0 p y) (hR : RdSt w0 w1 ar B p c I a y.pw y.cw r ft)
    (hG : GvSt w' ar w.heap.size a2 a8 pd' cd' (y.hs ++ [(q, m, d)])) (hf : FrS (fun k => k = ar ∨ k = a8 ∨ bx k = y.pd) w1 w') (hnd : ∀ k, blk pd' = some k → blk y.pd = some k ∨ w1.heap.size ≤ k) (hm : m = l.length) {Bl : Nat} (hl : Own w1 Bl 9 eStr q d l) :
    FdO w w' ar a2 a8 p0 pw0 p ⟨a', r', none, 0, y.hs ++ [(q, m, d)], y.ls ++ [l], pd', cd'⟩ := by
  have hbp : ∀ k, bx k = y.pd → blk y.pd = some k := fun k e => by rw [← e]; rfl
  have hsz := h.fr.size
  have hp1 : ∀ k, blk p = some k → k < w1.heap.size := fun k hk => (hR.row.ge k hk).2
  refine ⟨hG, ?_, h.fr.trans hf (fun k hk e => ?_), h.np, fun k hk => (by cases hk), h.h8, h.h2⟩
  · subst hm
    refine ((h.cm.fr (FrS.of_ext (F := fun _ => False) Ext.rfl') (X' := fun k => blk (none : Option Addr) = some k) (fun q _ _ _ => ⟨id, fun e => by cases e⟩)).snoc hl (fun k _ e => by cases e)).fr hf (fun q _ hs _ => ⟨fun e => ?_, fun e => by cases e⟩)
    rcases e with e | e | e
    · exact noStr hR.blk (by decide) (by rw [← e]; exact hs)
    · exact noStr h.gv.box (by decide) (by rw [← e]; exact hs)
    · exact own_noStr h.gv.row (by decide) (hbp q e) hs
  · rcases e with e | e | e
    · exact .inl e
    · have := h.h8; omega
    · have := (h.gv.row.ge k (hbp k e)).1; omega
/-- a word is laid behind those that came -/
theorem feed_word {w0 w w5 w6 w7 w8 w9 : World} {ar B a2 a8 c cw c8 : Nat} {p0 pw0 p pw p8 : Option Addr} {I : List UInt8} {z : FdY} {a a' : Nat} {r r5 : RS} {x : ByteArray} (_hR5 : RdSt w0 w5 ar B p c I a' pw cw r5 0) (_hO5 : FdO w w5 ar a2 a8 p0 pw0 p z) (_hf : FrS (fun q => q = ar) w5 w6) (hR : RdSt w0 w6 ar B p c I a z.pw z.cw r 0) (hO : FdO w w6 ar a2 a8 p0 pw0 p z) (hx : Ext w6 w7)
    (ha : App w7 w8 B 9 eStr z.pw p8 c8 (r.words ++ [x])) (hg : w8.grownBy w9 (some ar)) (hA : Blk w9.heap ar 109 [.slice p I.length c, .int .i64 (a : Int), .int .i64 (r.left : Int), .int .i64 r.size, .slice p8 (r.words ++ [x]).length c8, .int .i64 (r.held : Int), .int .i64 0]) :
    RdSt w0 w9 ar B p c I a p8 c8 ⟨r.left, r.size, r.words ++ [x], r.held⟩ 0 ∧ FdO w w9 ar a2 a8 p0 pw0 p ⟨a, ⟨r.left, r.size, r.words ++ [x], r.held⟩, p8, c8, z.hs, z.ls, z.pd, z.cd⟩ := by
  have hR7 := hR.xt hx
  have hnp := ha.new
  unfold NewP at hnp
  have hz7 := hx.size
  have hfr : FrS (fun k => k = ar ∨ blk z.pw = some k) w6 w9 := ((FrS.of_ext hx).trans (FrS.of_grown (F := fun k => k = ar ∨ blk z.pw = some k) ha.grown (fun k hk => .inr hk)) (fun _ _ h => h)).trans (FrS.of_grown (F := fun k => k = ar ∨ blk z.pw = some k) hg (fun k hk => by injection hk with hk; exact .inl hk.symm)) (fun _ _ h => h)
  have hw8 := hR7.row.kept ha.grown (fun y hy => hR7.wds.apartR hR7.row (by decide) y hy)
  have hb8 := hR7.blk.grown ha.grown (hR7.wds.apartB hR7.blk (by decide))
  have hpw : ∀ k, blk z.pw = some k → B ≤ k := fun k hk => (hR.wds.ge k hk).1
  have h0 := hR.h0
  have hlt := hR.lt
  have hpx : ∀ k, blk z.pd = some k → ∃ y, z.pd = some y ∧ y.block = k := fun k hk => by
    cases hp : z.pd with
    | none => rw [hp] at hk; cases hk
    | some y => rw [hp] at hk; injection hk with hk; exact ⟨y, rfl, hk⟩
  refine ⟨⟨hA, hw8.kept hg (fun y hy e => by injection e with e; exact hw8.apart hy hb8 (by decide) e), ha.own.kept hg (fun y hy e => by injection e with e; exact ha.own.apart hy hb8 (by decide) e), (hR7.ext.own ha.grown (fun k hk => by have := hpw k hk; omega)).own hg (fun k hk => by injection hk with hk; omega), h0, hlt, Nat.le_trans ha.base hg.size, hR.la⟩, ?_⟩
  refine ⟨⟨hfr.blk hO.gv.ptr (fun e => e.elim (fun e => blk_ne hO.gv.ptr hR.blk (by decide) e) (fun e => hR.wds.apartB hO.gv.ptr (by decide) e)), hfr.blk hO.gv.box (fun e => e.elim (fun e => blk_ne hO.gv.box hR.blk (by decide) e) (fun e => hR.wds.apartB hO.gv.box (by decide) e)), hO.gv.row.fr hfr (fun k hk e => ?_)⟩, ?_, hO.fr.trans hfr (fun q hq e => e.elim .inl (fun e => (hO.npw q e).elim (fun e => .inr (.inr e)) (fun e => by omega))), hO.np, fun k hk => ?_, hO.h8, hO.h2⟩
  · obtain ⟨y, hy, e2⟩ := hpx k hk
    subst e2
    exact e.elim (fun e => hO.gv.row.apart hy hR.blk (by decide) e.symm) (fun e => hR.wds.apartR hO.gv.row (by decide) y hy e)
  · refine hO.cm.fr hfr (fun q hq hs hn => ⟨fun e => e.elim (fun e => noStr hR.blk (by decide) (by rw [← e]; exact hs)) hn, fun e => ?_⟩)
    rcases hnp with h | h
    · exact hn (by rw [← h]; exact e)
    · have := h q e; omega
  · rcases hnp with h | h
    · exact hO.npw k (by rw [← h]; exact hk)
    · have := h k hk; have := hO.fr.size; exact .inr (by omega)
end Go.Proofs.YtipbakiecocioaaGreatDoor

/- Requests: Feed at one part; the walk. -/

namespace Go.Proofs.YtipbakiecocioaaGreatDoor
open Go.V
attribute [local irreducible] Blk Own hcell IntT SliceT PlainT AggT SizeT StrT FieldT ZeroT EqT ArrT



theorem feed_spec {w0 : World} {ar B : Nat} {p : Option Addr} {c : Nat} {inp : List UInt8} {pw : Option Addr} {cw : Nat} {r : RS} {q : Option Addr} {d : Nat} {ks : List Hdr} {parts : List (List UInt8)} {w : World} (hR : RdSt w0 w ar B p c inp 0 pw cw r 0)
    (hS : Sl w.heap eSlc q d ks) (hSn : ∀ x, q = some x → ks ≠ [] → ¬ (x.block = ar ∨ blk p = some x.block)) (hb : PartsAt w.heap (fun k => k = ar ∨ blk p = some k) ks parts) (hN : inp.length + parts.flatten.length ≤ 100000000) (hH : r.held ≤ 100000000) (hT : Pow w0) (hE : Errs w0) (hg0 : GoodR r) :
    Ctr Tryz.prog 18 [.pointer (some (adr (bx ar) 0)), .slice q ks.length d] w (FeedA w0 w ar B p pw (runP r (inp ++ parts.flatten))) := by
  have hbk := hR.blk
  have hlen := hb.len
  have hsb := hS.bound
  have hok := hS.ok
  refine Ctr_of Tryz.func18 Tryz.ntmps18 rfl rfl rfl ?_
  repeat' (first | apply W_seq | apply W_region)
  apply G_on; exact rfl; apply G1_box; exact rfl; exact rfl; exact rfl; intro a2 w1 ha1 hA2 hx1 hs1
  replace hA2 : Blk w1.heap a2 60 [.pointer (some (adr (bx ar) 0))] := hA2
  replace hbk := hbk.ext hx1
  repeat' (first | (apply G_on; exact rfl; first | ((first | apply G1_assign | apply G1_move | apply G1_nilCheck); exact rfl; exact rfl) | (apply G1_loadB; (first | exact T.p60 | exact T.p44); exact rfl; assumption; exact rfl; exact rfl) | (apply G1_fieldAddr; exact T.f109_6; exact rfl; exact rfl) | (apply G1_neq; exact rfl; exact rfl; exact rfl) | (apply G1_len; exact T.s110; exact rfl; exact rfl)) | apply G_nil | apply Post_next | apply W_seq | apply W_region | apply W_scopeI | (apply W_cond_false; exact rfl) | apply W_skip | apply W_block)
  all_goals try (exfalso; omega)
  refine W_loop (ι := Nat × Option Addr × Nat) (fun y => [(2, .pointer (some (adr (bx a2) 0))), (26, .slice q ks.length d), (27, .int .i64 (ks.length : Int)), (28, .int .i64 (y.1 : Int))])
    (fun y w' => y.1 ≤ ks.length ∧ RdSt w0 w' ar B y.2.1 y.2.2 (inp ++ (parts.take y.1).flatten) 0 pw cw r 0 ∧ Blk w'.heap a2 60 [.pointer (some (adr (bx ar) 0))] ∧ FrS (fun k => k = ar ∨ blk p = some k) w w' ∧ ∀ k, blk y.2.1 = some k → blk p = some k ∨ w.heap.size ≤ k) (fun y => ks.length - y.1) (0, p, c) ⟨rfl, rfl, rfl, rfl, trivial⟩
    ⟨Nat.zero_le _, by rw [List.take_zero, List.flatten_nil, List.append_nil]; exact hR.xt (by repeat first | assumption | exact Ext.rfl' | apply Ext.drew | apply Ext.alloc | refine Ext.trans ?_ (by assumption)), hA2.ext (by repeat first | assumption | exact Ext.rfl' | apply Ext.drew | apply Ext.alloc | refine Ext.trans ?_ (by assumption)), FrS.of_ext (by repeat first | assumption | exact Ext.rfl' | apply Ext.drew | apply Ext.alloc | refine Ext.trans ?_ (by assumption)), fun k hk => .inl hk⟩ ?_
  rintro ⟨i, p1, c1⟩ w2 ⟨hi, hR2, hA2, hF2, hnp2⟩
  simp only at hi hR2 hnp2
  refine W_keep [(2, .pointer (some (adr (bx a2) 0))), (26, .slice q ks.length d), (27, .int .i64 (ks.length : Int)), (28, .int .i64 (i : Int))] ⟨rfl, rfl, rfl, rfl, trivial⟩ ?_
  by_cases hi0 : i < ks.length
  · obtain ⟨⟨q1, n1, d1⟩, hq1⟩ := get_some hi0
    obtain ⟨b, hgb⟩ := get_some (xs := parts) (k := i) (by omega)
    obtain ⟨e1, hb1, hn1⟩ := hb.get i _ b hq1 hgb
    simp only at e1 hb1 hn1
    subst e1
    have hb2 : Sl w2.heap eByte q1 d1 b := hb1.fr' hF2 hn1
    have hS2 := hS.fr' hF2 hSn
    have hts := flat_snoc hgb
    have htl := flat_le parts (i + 1)
    rw [hts, List.length_append] at htl
    have hxd : Ext w2 w2.drew := Ext.drew Ext.rfl'
    have nA2 := (hR2.row.ext hxd).apartB (hA2.ext hxd) (by decide)
    have nAr := (hR2.row.ext hxd).apartB (hR2.blk.ext hxd) (by decide)
    have nW := (hR2.row.ext hxd).apartR (hR2.wds.ext hxd) (by decide)
    have hbk2 := hR2.blk
    repeat' (first | (apply G_on; exact rfl; first | (apply G1_assign; exact rfl; exact rfl) | (apply G1_indexAddrJ (q := i); exact T.s110; exact rfl; exact rfl; exact rfl; exact hok; exact hi0; exact rfl) | (apply G1_loadEl1 (q := i) (e := eSlc); exact T.p22; exact rfl; exact hS2; exact hq1; exact rfl; exact rfl; exact rfl) | (apply G1_lss; exact rfl; exact rfl; exact rfl)) | apply G_nil | apply Post_next | apply W_seq | apply W_region | (apply W_cond_dec; exact rfl; all_goals (intro h; try (exfalso; omega))) | apply W_skip | apply W_block)
    all_goals try (exfalso; omega)
    refine W_drawnT 1 [] (.node [5] (.alt 0 (.node [] (.alt 1 (.leaf [2,3,4,6,7,8,9]) .stop)) (.alt 1 (.node [2,3,4] (.alt 0 (.leaf [6,7,8,9]) (.alt 6 (.leaf [0,7,8,9]) .stop))) .stop))) mixed (by decide +kernel) ?_
    repeat' (first | (apply G_on; exact rfl; first | ((first | apply G1_move | apply G1_nilCheck); exact rfl; exact rfl) | (apply G1_appendA; exact T.s22; exact rfl; exact rfl; exact hR2.row.ext (Ext.drew Ext.rfl'); exact hb2.ext (Ext.drew Ext.rfl'); exact rfl; exact hR2.hB; (simp only [List.length_append]; omega); (simp only [List.length_append]; omega); exact rfl; exact rfl; exact rfl; intro p5 c5 w5 ha5; have hA25 := (hA2.ext hxd).grown ha5.grown nA2; have hbk5 := (hbk2.ext hxd).grown ha5.grown nAr) | (apply G1_loadB; (first | exact T.p60 | exact T.p22); exact rfl; assumption; exact rfl; exact rfl) | (apply G1_fieldAddr; exact T.f109_0; exact rfl; exact rfl)) | apply G_nil | (refine GT_leaf ?_) | (refine GT_node ?_) | (apply GT_alt) | (exact GT_stop))
    all_goals
      rw [List.append_assoc, ← hts] at ha5
      apply G_on; exact rfl; apply G1_storeB; exact T.z22; exact rfl; exact rfl; exact hbk5; exact rfl; exact rfl; (first | exact Nat.le_of_ble_eq_true rfl | (focus (simp [Value.cells]; done))); (first | exact Enc.one _ _ | (focus (simp [Value.oneCell']; done)) | (focus (simp [Value.cells, Value.oneCell']; done)) | exact Enc.oneAgg _ _); exact rfl; (first | exact .inl rfl | exact .inr (by simp [exempt])); exact rfl; intro w6 hA6 hg6 hs6
      replace hA6 : Blk w6.heap ar 109 [.slice p5 (inp ++ (parts.take i).flatten ++ b).length c5, .int .i64 ((0 : Nat) : Int), .int .i64 (r.left : Int), .int .i64 r.size, .slice pw r.words.length cw, .int .i64 (r.held : Int), .int .i64 0] := hA6
      rw [List.append_assoc, ← hts] at hA6
      have hR6 : RdSt w0 w6 ar B p5 c5 (inp ++ (parts.take (i + 1)).flatten) 0 pw cw r 0 :=
        ⟨hA6, ha5.own.kept hg6 (fun x hx e => by injection e with e; exact ha5.own.apart hx hbk5 (by decide) e), ((hR2.wds.ext hxd).kept ha5.grown nW).kept hg6 (fun x hx e => by injection e with e; exact ((hR2.wds.ext hxd).kept ha5.grown nW).apart hx hbk5 (by decide) e), ((hR2.ext.trans hxd).own ha5.grown (fun k hk => by have := (hR2.row.ext hxd).ge k hk; have := hR.h0; have := hR.lt; omega)).own hg6 (fun k hk => by injection hk with hk; have := hR.h0; omega), hR.h0, hR.lt, Nat.le_trans ha5.base hg6.size, Nat.zero_le _⟩
      have hA26 := hA25.grown hg6 (fun e => by injection e with e; exact blk_ne hbk5 hA25 (by decide) e)
      repeat' (first | (apply G_on; exact rfl; first | (apply G1_move; exact rfl; exact rfl) | (apply G1_add; exact rfl; exact rfl; omega; omega; exact rfl)) | apply G_nil | apply Post_next | apply W_region | apply Post_block_normal)
      have hnn := ha5.new
      unfold NewP at hnn
      have hz2 := hF2.size
      have hz6 := hg6.size
      have hF5 : FrS (fun k => k = ar ∨ blk p = some k) w w6 := ((hF2.trans (FrS.of_ext hxd) (fun _ _ h => h)).trans (FrS.of_grown (F := fun k => k = ar ∨ blk p1 = some k) ha5.grown (fun k hk => .inr hk)) (fun k hk e => e.elim .inl (fun e => (hnp2 k e).elim .inr (fun e => by omega)))).trans (FrS.of_grown (F := fun k => k = ar ∨ blk p1 = some k) hg6 (fun k hk => by injection hk with hk; exact .inl hk.symm)) (fun k hk e => e.elim .inl (fun e => (hnp2 k e).elim .inr (fun e => by omega)))
      exact Post_round (i + 1, p5, c5) ⟨rfl, rfl, rfl, rfl, trivial⟩ ⟨hi0, hR6, hA26, hF5, fun k hk => hnn.elim (fun e => hnp2 k (by rw [← e]; exact hk)) (fun e => .inr (Nat.le_trans hz2 (e k hk)))⟩ (by simp only; omega)
  · obtain ⟨bs, hbs⟩ : ∃ bs, parts.flatten = bs := ⟨_, rfl⟩
    rw [List.take_of_length_le (by omega), hbs] at hR2
    rw [hbs] at hN ⊢
    repeat' (first | (apply G_on; exact rfl; (apply G1_lss; exact rfl; exact rfl; exact rfl)) | apply G_nil | apply Post_next | apply W_seq | apply W_region | (apply W_cond_dec; exact rfl; all_goals (intro h; try (exfalso; omega))) | apply W_exit | apply Post_then_exit | apply Post_block_exit)
    all_goals try (exfalso; omega)
    apply G_on; exact rfl; apply G1_alloc; exact T.zero58; exact rfl; exact rfl; intro a8 w3 ha8 hA8 hx3 hs3
    replace hA8 : Blk w3.heap a8 58 [.slice none 0 0] := hA8
    repeat' (first | (apply G_on; exact rfl; ((first | apply G1_assign | apply G1_makeFunc); exact rfl; exact rfl)) | apply G_nil | apply Post_next | apply W_seq | apply W_region | apply W_label | apply W_block)
    have z2 := hF2.size
    refine W_loop (ι := FdY) (fun y => [(2, .pointer (some (adr (bx a2) 0))), (8, .pointer (some (adr (bx a8) 0))), (9, .func (.func 50) #[] #[.pointer (some (adr (bx a8) 0)), .pointer (some (adr (bx a2) 0))])])
      (fun y w' => FdI w0 w w' ar B a2 a8 p pw p1 c1 (inp ++ bs) r y) (fun y => (inp ++ bs).length - y.a) ⟨0, r, pw, cw, [], [], none, 0⟩ ⟨rfl, rfl, rfl, trivial⟩ ?_ ?_
    · exact ⟨hR2.xt hx3, ⟨⟨hA2.ext hx3, hA8, Own.nil _ _ _ _⟩, WordsAt.nil, (hF2.trans (FrS.of_ext hx3) (fun _ _ h => h)).mono (fun k e => e.elim .inl (fun e => .inr (.inl e))), hnp2, fun k hk => .inl hk, by omega, by omega⟩, by simp, by simp only [List.length_append]; omega, hg0, Nat.zero_le _⟩
    rintro y w4 hI
    refine W_keep [(2, .pointer (some (adr (bx a2) 0))), (8, .pointer (some (adr (bx a8) 0))), (9, .func (.func 50) #[] #[.pointer (some (adr (bx a8) 0)), .pointer (some (adr (bx a2) 0))])] ⟨rfl, rfl, rfl, trivial⟩ ?_
    repeat' (first | apply W_seq | apply W_block)
    refine W_loop (ι := FdY) (fun y => [(2, .pointer (some (adr (bx a2) 0))), (8, .pointer (some (adr (bx a8) 0))), (9, .func (.func 50) #[] #[.pointer (some (adr (bx a8) 0)), .pointer (some (adr (bx a2) 0))])])
      (fun z w' => FdI w0 w w' ar B a2 a8 p pw p1 c1 (inp ++ bs) r z ∧ y.a ≤ z.a) (fun z => (inp ++ bs).length - z.a) y ⟨rfl, rfl, rfl, trivial⟩ ⟨hI, Nat.le_refl _⟩ ?_
    rintro z w5 ⟨hI5, hyz⟩
    refine W_keep [(2, .pointer (some (adr (bx a2) 0))), (8, .pointer (some (adr (bx a8) 0))), (9, .func (.func 50) #[] #[.pointer (some (adr (bx a8) 0)), .pointer (some (adr (bx a2) 0))])] ⟨rfl, rfl, rfl, trivial⟩ ?_
    have hbk5 := hI5.rd.blk
    have hA25 := hI5.o.gv.ptr
    have hrun := hI5.run
    have hdl : ((inp ++ bs).drop z.a).length = (inp ++ bs).length - z.a := List.length_drop
    have hIl : (inp ++ bs).length = inp.length + bs.length := List.length_append
    have hza := hI5.rd.la
    have hcnt := hI5.cnt
    have hhl := hI5.o.cm.len
    by_cases hl0 : z.r.left = 0
    · have hr0 := hI5.good.zero hl0
      have hln := line_spec hI5.rd (by omega)
      cases hL : lineP ((inp ++ bs).drop z.a) with
      | more =>
        rw [hL] at hln
        repeat' (first | (apply G_on; exact rfl; first | (apply G1_nilCheck; exact rfl; exact rfl) | (apply G1_loadB; (first | exact T.p60 | exact T.p3); exact rfl; assumption; exact rfl; exact rfl) | (apply G1_fieldAddr; exact T.f109_2; exact rfl; exact rfl) | (apply G1_gtr; exact rfl; exact rfl; exact rfl)) | apply G_nil | apply Post_next | apply W_seq | apply W_region | (apply W_cond_dec; exact rfl; all_goals (intro h; try (exfalso; omega))) | apply W_exit | apply Post_then_exit | apply Post_block_exit)
        all_goals try (exfalso; omega)
        apply G_on; exact rfl; apply G1_call (f := 52); exact rfl; exact rfl; exact rfl; exact hln; intro v w6 hv; refine ⟨.inl rfl, ?_⟩
        obtain ⟨hf6, rfl, hR6⟩ := hv
        have hO6 := hI5.o.own hI5.rd.blk hf6
        have hstep : stepP z.r ((inp ++ bs).drop z.a) = .stop := by
          unfold stepP
          rw [if_pos hl0, hL]
        rw [run_stop hstep, List.append_nil] at hrun
        have hti := tidy_ok hR6 (show (inp ++ bs).length ≤ 1000000000 by rw [List.length_append]; omega)
        have hA2e := (hO6).gv.ptr
        repeat' (first | (apply G_on; exact rfl; first | ((first | apply G1_assign | apply G1_move); exact rfl; exact rfl) | (apply G1_loadB; exact T.p60; exact rfl; assumption; exact rfl; exact rfl) | (apply G1_extract; exact rfl; exact rfl; exact rfl) | (apply G1_not_f; exact rfl; exact rfl)) | apply G_nil | apply Post_next | apply W_seq | apply W_region | (apply W_cond_true; exact rfl) | apply W_exit | apply Post_then_exit | apply Post_block_exit | (apply Post_block_other; exact rfl))
        apply G_on; exact rfl; apply G1_call (f := 56); exact rfl; exact rfl; exact rfl; exact hti; rintro vT wT ⟨hfT, hRT⟩; refine ⟨.inl rfl, ?_⟩
        obtain ⟨hGT, hFA⟩ := feed_done hR6 hO6 hfT hRT hrun
        have hbkT := hRT.blk
        have hA2T := hGT.ptr
        have hA8T := hGT.box
        repeat' (first | (apply G_on; exact rfl; first | ((first | apply G1_assign | apply G1_nilCheck); exact rfl; exact rfl) | (apply G1_loadB; (first | exact T.p60 | exact T.p44 | exact T.p58); exact rfl; assumption; exact rfl; exact rfl) | (apply G1_fieldAddr; exact T.f109_6; exact rfl; exact rfl)) | apply G_nil | apply Post_next | apply W_seq | apply Post_scopeR | refine W_drawn 1 [] [0,1,2,3,4,5,6] mixed (by decide +kernel) ?_ | apply W_ret)
        refine Post_ret Tryz.results18 ⟨_, _, rfl, rfl, _, _, rfl, rfl, rfl⟩ ?_
        exact hFA _ (by repeat first | assumption | exact Ext.rfl' | apply Ext.drew | apply Ext.alloc | refine Ext.trans ?_ (by assumption))
      | err e =>
        rw [hL] at hln
        repeat' (first | (apply G_on; exact rfl; first | (apply G1_nilCheck; exact rfl; exact rfl) | (apply G1_loadB; (first | exact T.p60 | exact T.p3); exact rfl; assumption; exact rfl; exact rfl) | (apply G1_fieldAddr; exact T.f109_2; exact rfl; exact rfl) | (apply G1_gtr; exact rfl; exact rfl; exact rfl)) | apply G_nil | apply Post_next | apply W_seq | apply W_region | (apply W_cond_dec; exact rfl; all_goals (intro h; try (exfalso; omega))) | apply W_exit | apply Post_then_exit | apply Post_block_exit)
        all_goals try (exfalso; omega)
        apply G_on; exact rfl; apply G1_call (f := 52); exact rfl; exact rfl; exact rfl; exact hln; intro v w6 hv; refine ⟨.inl rfl, ?_⟩
        obtain ⟨hf6, rfl, hR6⟩ := hv
        have hO6 := hI5.o.own hI5.rd.blk hf6
        have hstep : stepP z.r ((inp ++ bs).drop z.a) = .fault e := by
          unfold stepP
          rw [if_pos hl0, hL]
        have he := line_err hL
        rw [run_fault hstep, List.append_nil] at hrun
        have hti := tidy_bad hR6 (by omega)
        have hA2e := (hO6).gv.ptr
        repeat' (first | (apply G_on; exact rfl; first | ((first | apply G1_assign | apply G1_move); exact rfl; exact rfl) | (apply G1_loadB; exact T.p60; exact rfl; assumption; exact rfl; exact rfl) | (apply G1_extract; exact rfl; exact rfl; exact rfl) | (apply G1_not_f; exact rfl; exact rfl)) | apply G_nil | apply Post_next | apply W_seq | apply W_region | (apply W_cond_true; exact rfl) | apply W_exit | apply Post_then_exit | apply Post_block_exit | (apply Post_block_other; exact rfl))
        apply G_on; exact rfl; apply G1_call (f := 56); exact rfl; exact rfl; exact rfl; exact hti; rintro vT wT ⟨hfT, hRT⟩; refine ⟨.inl rfl, ?_⟩
        obtain ⟨hGT, hFA⟩ := feed_fail hR6 hO6 hfT hRT (by omega) ⟨congrArg Res.out hrun, congrArg Res.err hrun⟩
        have hbkT := hRT.blk
        have hA2T := hGT.ptr
        have hA8T := hGT.box
        repeat' (first | (apply G_on; exact rfl; first | ((first | apply G1_assign | apply G1_nilCheck); exact rfl; exact rfl) | (apply G1_loadB; (first | exact T.p60 | exact T.p44 | exact T.p58); exact rfl; assumption; exact rfl; exact rfl) | (apply G1_fieldAddr; exact T.f109_6; exact rfl; exact rfl)) | apply G_nil | apply Post_next | apply W_seq | apply Post_scopeR | refine W_drawn 1 [] [0,1,2,3,4,5,6] mixed (by decide +kernel) ?_ | apply W_ret)
        refine Post_ret Tryz.results18 ⟨_, _, rfl, rfl, _, _, rfl, rfl, rfl⟩ ?_
        exact hFA _ (by repeat first | assumption | exact Ext.rfl' | apply Ext.drew | apply Ext.alloc | refine Ext.trans ?_ (by assumption))
      | ok s k =>
        rw [hL] at hln
        repeat' (first | (apply G_on; exact rfl; first | (apply G1_nilCheck; exact rfl; exact rfl) | (apply G1_loadB; (first | exact T.p60 | exact T.p3); exact rfl; assumption; exact rfl; exact rfl) | (apply G1_fieldAddr; exact T.f109_2; exact rfl; exact rfl) | (apply G1_gtr; exact rfl; exact rfl; exact rfl)) | apply G_nil | apply Post_next | apply W_seq | apply W_region | (apply W_cond_dec; exact rfl; all_goals (intro h; try (exfalso; omega))) | apply W_exit | apply Post_then_exit | apply Post_block_exit)
        all_goals try (exfalso; omega)
        apply G_on; exact rfl; apply G1_call (f := 52); exact rfl; exact rfl; exact rfl; exact hln; intro v w6 hv; refine ⟨.inl rfl, ?_⟩
        obtain ⟨hf6, rfl, hR6⟩ := hv
        have hlk := line_len hL
        obtain ⟨hk1, hk2, hk3, hk4, hk5, hk6⟩ := line_ok hL
        have hs1 : s.length ≤ 1026 := by rw [hk5, List.length_take]; omega
        have hpre := fun w' => hasAst_spec (w := w') (s := s) (by omega)
        repeat' (first | (apply G_on; exact rfl; first | ((first | apply G1_assign | apply G1_move); exact rfl; exact rfl) | (apply G1_call (f := 53); exact rfl; exact rfl; exact rfl; exact hpre _; rintro _ w7 ⟨rfl, hx7⟩; refine ⟨(by first | exact .inl rfl | exact .inr (by assumption)), ?_⟩) | (apply G1_extract; exact rfl; exact rfl; exact rfl) | (apply G1_not_t; exact rfl; exact rfl)) | apply G_nil | apply Post_next | apply W_seq | apply W_region | (apply W_cond_false; exact rfl) | (apply W_cond_dec; exact rfl; all_goals (intro h; try (exfalso; omega))) | apply W_skip)
        all_goals try (exfalso; omega)
        · have hx7' : FrS (fun q => q = ar) w5 w7 := hf6.trans (FrS.of_ext (F := fun q => q = ar) hx7) (fun _ _ h => h)
          have h42 : s.head? = some 42 := by simpa using ‹_›
          have hO7 := hI5.o.own hI5.rd.blk hx7'
          have hR7 := hR6.xt hx7
          have hA27 := hO7.gv.ptr
          have hnum := number_spec (s := s) (m := 42) (mi := 42) (lo := 1) (hi := 128) hR7 rfl (by omega) hT hE
          cases hNm : numP s 42 1 128 with
          | error e =>
            rw [hNm] at hnum
            repeat' (apply G_on; exact rfl; first | (apply G1_move; exact rfl; exact rfl) | (apply G1_loadB; exact T.p60; exact rfl; assumption; exact rfl; exact rfl))
            apply G_on; exact rfl; apply G1_call (f := 54); exact rfl; exact rfl; exact rfl; exact hnum; intro v w8 hv; refine ⟨.inl rfl, ?_⟩
            obtain ⟨hf8, rfl, hR8⟩ := hv
            have hO8 := hO7.own hR7.blk hf8
            have hstep : stepP z.r ((inp ++ bs).drop z.a) = .fault e := by
              unfold stepP
              rw [if_pos hl0, hL]
              simp only
              rw [if_pos h42, hNm]
            have he := num_err hNm
            rw [run_fault hstep, List.append_nil] at hrun
            have hti := tidy_bad hR8 (by omega)
            have hA2e := (hO8).gv.ptr
            repeat' (first | (apply G_on; exact rfl; first | ((first | apply G1_assign | apply G1_move); exact rfl; exact rfl) | (apply G1_loadB; exact T.p60; exact rfl; assumption; exact rfl; exact rfl) | (apply G1_extract; exact rfl; exact rfl; exact rfl) | (apply G1_not_f; exact rfl; exact rfl)) | apply G_nil | apply Post_next | apply W_seq | apply W_region | (apply W_cond_true; exact rfl) | apply W_exit | apply Post_then_exit | apply Post_block_exit | (apply Post_block_other; exact rfl))
            apply G_on; exact rfl; apply G1_call (f := 56); exact rfl; exact rfl; exact rfl; exact hti; rintro vT wT ⟨hfT, hRT⟩; refine ⟨.inl rfl, ?_⟩
            obtain ⟨hGT, hFA⟩ := feed_fail hR8 hO8 hfT hRT (by omega) ⟨congrArg Res.out hrun, congrArg Res.err hrun⟩
            have hbkT := hRT.blk
            have hA2T := hGT.ptr
            have hA8T := hGT.box
            repeat' (first | (apply G_on; exact rfl; first | ((first | apply G1_assign | apply G1_nilCheck); exact rfl; exact rfl) | (apply G1_loadB; (first | exact T.p60 | exact T.p44 | exact T.p58); exact rfl; assumption; exact rfl; exact rfl) | (apply G1_fieldAddr; exact T.f109_6; exact rfl; exact rfl)) | apply G_nil | apply Post_next | apply W_seq | apply Post_scopeR | refine W_drawn 1 [] [0,1,2,3,4,5,6] mixed (by decide +kernel) ?_ | apply W_ret)
            refine Post_ret Tryz.results18 ⟨_, _, rfl, rfl, _, _, rfl, rfl, rfl⟩ ?_
            exact hFA _ (by repeat first | assumption | exact Ext.rfl' | apply Ext.drew | apply Ext.alloc | refine Ext.trans ?_ (by assumption))
          | ok n =>
            rw [hNm] at hnum
            repeat' (apply G_on; exact rfl; first | (apply G1_move; exact rfl; exact rfl) | (apply G1_loadB; exact T.p60; exact rfl; assumption; exact rfl; exact rfl))
            apply G_on; exact rfl; apply G1_call (f := 54); exact rfl; exact rfl; exact rfl; exact hnum; intro v w8 hv; refine ⟨.inl rfl, ?_⟩
            obtain ⟨hf8, rfl, hR8⟩ := hv
            have hO8 := hO7.own hR7.blk hf8
            have hA28 := hO8.gv.ptr
            have hbk8 := hR8.blk
            have hsz8 := mkStr_size s
            have nA8 := blk_ne hA28 hbk8 (by decide)
            repeat' (first | (apply G_on; exact rfl; first | ((first | apply G1_assign | apply G1_move); exact rfl; exact rfl) | (apply G1_extract; exact rfl; exact rfl; exact rfl) | (apply G1_not_t; exact rfl; exact rfl)) | apply G_nil | apply Post_next | apply W_seq | apply W_region | (apply W_cond_false; exact rfl) | apply W_skip)
            all_goals try (exfalso; omega)
            refine W_drawn 3 [ar] [0,1,2,3,4,5,6,7,8,9,10,11] mixed (by decide +kernel) ?_
            repeat' (apply G_on; exact rfl; first | ((first | apply G1_move | apply G1_nilCheck); exact rfl; exact rfl) | (apply G1_loadBS; exact T.p60; exact rfl; assumption; exact rfl; (first | assumption | (focus (simp [exempt]; omega))); exact rfl) | (apply G1_fieldAddr; exact T.f109_2; exact rfl; exact rfl) | (apply G1_add; exact rfl; exact rfl; omega; omega; exact rfl) | (apply G1_slen; exact T.str9; exact rfl; exact rfl))
            apply G_on; exact rfl; apply G1_storeB; exact T.z3; exact rfl; exact rfl; exact hbk8; exact rfl; exact rfl; (first | exact Nat.le_of_ble_eq_true rfl | (focus (simp [Value.cells]; done))); (first | exact Enc.one _ _ | (focus (simp [Value.oneCell']; done)) | (focus (simp [Value.cells, Value.oneCell']; done)) | exact Enc.oneAgg _ _); exact rfl; (first | exact .inl rfl | exact .inr (by simp [exempt])); exact rfl; intro w9 hA9 hg9 hs9
            repeat' (apply G_on; exact rfl; first | (apply G1_nilCheck; exact rfl; exact rfl) | (apply G1_fieldAddr; exact T.f109_5; exact rfl; exact rfl))
            apply G_on; exact rfl; apply G1_storeB; exact T.z3; exact rfl; exact rfl; exact hA9; exact rfl; exact rfl; (first | exact Nat.le_of_ble_eq_true rfl | (focus (simp [Value.cells]; done))); (first | exact Enc.one _ _ | (focus (simp [Value.oneCell']; done)) | (focus (simp [Value.cells, Value.oneCell']; done)) | exact Enc.oneAgg _ _); exact rfl; (first | exact .inl rfl | exact .inr (by simp [exempt])); exact rfl; intro w10 hA10 hg10 hs10
            repeat' (first | apply G_nil | apply Post_next | apply W_exit | apply Post_then_exit | apply Post_block_exit)
            obtain ⟨hn1, hn2⟩ := num_ok hNm
            have hd8 : Ext w8 w8.drew := Ext.drew Ext.rfl'
            have hg := grown_same hg9 hg10
            replace hA10 : Blk w10.heap ar 109 [.slice p1 (inp ++ bs).length c1, .int .i64 ((z.a + k : Nat) : Int), .int .i64 n, .int .i64 z.r.size, .slice z.pw z.r.words.length z.cw, .int .i64 (((mkStr s).size : Int) + 2), .int .i64 0] := hA10
            have e1 : n = ((n.toNat : Nat) : Int) := by omega
            have e2 : ((mkStr s).size : Int) + 2 = ((k : Nat) : Int) := by omega
            rw [e2, hr0] at hA10
            rw [e1] at hA10
            have hR10 : RdSt w0 w10 ar B p1 c1 (inp ++ bs) (z.a + k) z.pw z.cw ⟨n.toNat, -1, [], k⟩ 0 := (hR8.xt hd8).set hg hA10 (by rw [hr0]; rfl) (by omega)
            have hO10 := hO8.own hR8.blk ((FrS.of_ext (F := fun q => q = ar) hd8).trans (FrS.of_grown (F := fun q => q = ar) hg (fun k hk => by injection hk with hk; exact hk.symm)) (fun _ _ h => h))
            have hstep : stepP z.r ((inp ++ bs).drop z.a) = .go ⟨n.toNat, -1, [], k⟩ k [] := by
              unfold stepP
              rw [if_pos hl0, hL]
              simp only
              rw [if_pos h42, hNm]
            have hgd := step_good hI5.good hstep
            rw [run_go hstep, List.nil_append, List.drop_drop] at hrun
            refine Post_round (⟨z.a + k, ⟨n.toNat, -1, [], k⟩, z.pw, z.cw, z.hs, z.ls, z.pd, z.cd⟩ : FdY) ⟨rfl, rfl, rfl, trivial⟩ ⟨hR10, ⟨hO10.gv, hO10.cm, hO10.fr, hO10.np, hO10.npw, hO10.h8, hO10.h2⟩, hrun, by simp only; omega, hgd.1, by simp only; omega⟩ (by simp only; omega)
        · have hx7' : FrS (fun q => q = ar) w5 w7 := hf6.trans (FrS.of_ext (F := fun q => q = ar) hx7) (fun _ _ h => h)
          have h42 : ¬ s.head? = some 42 := by simpa using ‹¬ _›
          have hspl := split_spec (w := w7) (s := s) (by omega)
          apply G_on; exact rfl; apply G1_call (f := 55); exact rfl; exact rfl; exact rfl; exact hspl; rintro v w8 ⟨ps, cs, rfl, hO8s, hx8⟩; refine ⟨.inl rfl, ?_⟩
          have hx8' : FrS (fun q => q = ar) w5 w8 := hx7'.trans (FrS.of_ext (F := fun q => q = ar) hx8) (fun _ _ h => h)
          have hO7 := hI5.o.own hI5.rd.blk hx7'
          have hO8 := hI5.o.own hI5.rd.blk hx8'
          have hR8 := (hR6.xt hx7).xt hx8
          have hA28 := hO8.gv.ptr
          have hbk8 := hR8.blk
          repeat' (first | (apply G_on; exact rfl; first | ((first | apply G1_assign | apply G1_move | apply G1_nilCheck); exact rfl; exact rfl) | (apply G1_loadB; exact T.p60; exact rfl; assumption; exact rfl; exact rfl) | (apply G1_fieldAddr; exact T.f109_6; exact rfl; exact rfl) | (apply G1_gtr; exact rfl; exact rfl; exact rfl) | (apply G1_len; exact T.s37; exact rfl; exact rfl)) | apply G_nil | apply Post_next | apply W_seq | apply W_region | (apply W_cond_dec; exact rfl; all_goals (intro h; try (exfalso; omega))) | apply W_skip | apply Post_block_normal)
          · apply G_on; exact rfl; apply G1_storeB; exact T.z44; exact rfl; exact rfl; exact hbk8; exact rfl; exact rfl; (first | exact Nat.le_of_ble_eq_true rfl | (focus (simp [Value.cells]; done))); (first | exact Enc.one _ _ | (focus (simp [Value.oneCell']; done)) | (focus (simp [Value.cells, Value.oneCell']; done)) | exact Enc.oneAgg _ _); exact rfl; (first | exact .inl rfl | exact .inr (by simp [exempt])); exact rfl; intro w9 hA9 hg9 hs9
            replace hA9 : Blk w9.heap ar 109 [.slice p1 (inp ++ bs).length c1, .int .i64 ((z.a + k : Nat) : Int), .int .i64 (z.r.left : Int), .int .i64 z.r.size, .slice z.pw z.r.words.length z.cw, .int .i64 (z.r.held : Int), .int .i64 12] := hA9
            have hR9 := hR8.set (r' := z.r) (ft' := 12) hg9 hA9 rfl (by omega)
            have hO9 := hO8.own hR8.blk (FrS.of_grown (F := fun q => q = ar) hg9 (fun k hk => by injection hk with hk; exact hk.symm))
            have hstep : stepP z.r ((inp ++ bs).drop z.a) = .fault 12 := by
              unfold stepP
              rw [if_pos hl0, hL]
              simp only
              rw [if_neg h42, if_pos (by omega)]
            rw [run_fault hstep, List.append_nil] at hrun
            have hA29 := hO9.gv.ptr
            have hti := tidy_bad hR9 (by decide)
            have hA2e := (hO9).gv.ptr
            repeat' (first | (apply G_on; exact rfl; (apply G1_loadB; exact T.p60; exact rfl; assumption; exact rfl; exact rfl)) | apply G_nil | apply Post_next | apply W_seq | apply W_region | apply W_exit | apply Post_then_exit | apply Post_block_exit | (apply Post_block_other; exact rfl))
            apply G_on; exact rfl; apply G1_call (f := 56); exact rfl; exact rfl; exact rfl; exact hti; rintro vT wT ⟨hfT, hRT⟩; refine ⟨.inl rfl, ?_⟩
            obtain ⟨hGT, hFA⟩ := feed_fail hR9 hO9 hfT hRT (by decide) ⟨congrArg Res.out hrun, congrArg Res.err hrun⟩
            have hbkT := hRT.blk
            have hA2T := hGT.ptr
            have hA8T := hGT.box
            repeat' (first | (apply G_on; exact rfl; first | ((first | apply G1_assign | apply G1_nilCheck); exact rfl; exact rfl) | (apply G1_loadB; (first | exact T.p60 | exact T.p44 | exact T.p58); exact rfl; assumption; exact rfl; exact rfl) | (apply G1_fieldAddr; exact T.f109_6; exact rfl; exact rfl)) | apply G_nil | apply Post_next | apply W_seq | apply Post_scopeR | refine W_drawn 1 [] [0,1,2,3,4,5,6] mixed (by decide +kernel) ?_ | apply W_ret)
            refine Post_ret Tryz.results18 ⟨_, _, rfl, rfl, _, _, rfl, rfl, rfl⟩ ?_
            exact hFA _ (by repeat first | assumption | exact Ext.rfl' | apply Ext.drew | apply Ext.alloc | refine Ext.trans ?_ (by assumption))
          · have hgv := give_spec (q := ps) (m := (cutG [] s).length) (d := cs) hR8 hO8.gv (by have := hR.ext.size; have := hO8.h8; omega) hR.ext.size hO8.fr.size (by omega)
            apply G_on; exact rfl; apply G1_callv; exact rfl; exact rfl; exact rfl; exact rfl; exact hgv; rintro v9 w9 ⟨pd', cd', hR9, hG9, hF9, hnd9⟩; refine ⟨(by first | exact .inl rfl | exact .inr (by assumption)), ?_⟩
            have hc0 : cutG [] s ≠ [] := fun e => by have h0 := congrArg List.length e; rw [List.length_nil] at h0; omega
            have hstep : stepP z.r ((inp ++ bs).drop z.a) = .go rs0 k [(cutG [] s).map mkStr] := by
              unfold stepP
              rw [if_pos hl0, hL]
              simp only
              rw [if_neg h42, if_neg (by omega), if_neg hc0]
            have hgd := step_good hI5.good hstep
            rw [run_go hstep, List.drop_drop] at hrun
            have hrs : { z.r with words := [], held := 0 } = rs0 := by rw [hr0]; rfl
            rw [hrs] at hR9
            have hO9 := hO8.give (a' := z.a + k) (r' := rs0) (l := (cutG [] s).map mkStr) hR8 hG9 hF9 hnd9 (by rw [List.length_map]) hO8s
            repeat' (first | apply G_nil | apply Post_block_normal)
            refine Post_round (⟨z.a + k, rs0, none, 0, z.hs ++ [(ps, (cutG [] s).length, cs)], z.ls ++ [(cutG [] s).map mkStr], pd', cd'⟩ : FdY) ⟨rfl, rfl, rfl, trivial⟩ ⟨hR9, hO9, by rw [hrun]; simp, by simp only [rs0]; omega, good0, by simp only [List.length_append, List.length_singleton]; omega⟩ (by simp only; omega)
          · have hc0 : cutG [] s = [] := List.eq_nil_of_length_eq_zero (by omega)
            have hstep : stepP z.r ((inp ++ bs).drop z.a) = .go rs0 k [] := by
              unfold stepP
              rw [if_pos hl0, hL]
              simp only
              rw [if_neg h42, if_neg (by rw [hc0]; decide), if_pos hc0]
            rw [run_go hstep, List.nil_append, List.drop_drop] at hrun
            rw [hr0] at hR8
            refine Post_round (⟨z.a + k, rs0, z.pw, z.cw, z.hs, z.ls, z.pd, z.cd⟩ : FdY) ⟨rfl, rfl, rfl, trivial⟩ ⟨hR8, ⟨hO8.gv, hO8.cm, hO8.fr, hO8.np, hO8.npw, hO8.h8, hO8.h2⟩, hrun, by simp only [rs0]; omega, good0, by simp only; omega⟩ (by simp only; omega)
    · have hwd := word_spec hI5.rd (by omega) hI5.held hI5.good.size.1 hI5.good.size.2 hT hE
      have hwr := word_run (cs := (inp ++ bs).drop z.a) (r := z.r) (by omega)
      have hwh := word_held (cs := (inp ++ bs).drop z.a) (r := z.r)
      cases hW : wordP z.r ((inp ++ bs).drop z.a) with
      | more r' k =>
        rw [hW] at hwd hwr hwh
        repeat' (first | (apply G_on; exact rfl; first | (apply G1_nilCheck; exact rfl; exact rfl) | (apply G1_loadB; (first | exact T.p60 | exact T.p3); exact rfl; assumption; exact rfl; exact rfl) | (apply G1_fieldAddr; exact T.f109_2; exact rfl; exact rfl) | (apply G1_gtr; exact rfl; exact rfl; exact rfl)) | apply G_nil | apply Post_next | apply W_seq | apply W_region | (apply W_cond_dec; exact rfl; all_goals (intro h; try (exfalso; omega))) | apply W_skip | apply W_block)
        all_goals try (exfalso; omega)
        apply G_on; exact rfl; apply G1_call (f := 51); exact rfl; exact rfl; exact rfl; exact hwd; intro v w6 hv; refine ⟨.inl rfl, ?_⟩
        obtain ⟨hf6, rfl, hR6⟩ := hv
        have hO6 := hI5.o.own hI5.rd.blk hf6
        obtain ⟨hk, hrl, hrw, hrr⟩ := hwr
        rw [hrr, List.append_nil, List.drop_drop] at hrun
        have hO6' : FdO w w6 ar a2 a8 p pw p1 ⟨z.a + k, r', z.pw, z.cw, z.hs, z.ls, z.pd, z.cd⟩ := ⟨hO6.gv, hO6.cm, hO6.fr, hO6.np, hO6.npw, hO6.h8, hO6.h2⟩
        have hti := tidy_ok hR6 (show (inp ++ bs).length ≤ 1000000000 by rw [List.length_append]; omega)
        have hA2e := (hO6').gv.ptr
        repeat' (first | (apply G_on; exact rfl; first | ((first | apply G1_assign | apply G1_move); exact rfl; exact rfl) | (apply G1_loadB; exact T.p60; exact rfl; assumption; exact rfl; exact rfl) | (apply G1_extract; exact rfl; exact rfl; exact rfl) | (apply G1_not_f; exact rfl; exact rfl)) | apply G_nil | apply Post_next | apply W_seq | apply W_region | (apply W_cond_true; exact rfl) | apply W_exit | apply Post_then_exit | apply Post_block_exit | (apply Post_block_other; exact rfl))
        apply G_on; exact rfl; apply G1_call (f := 56); exact rfl; exact rfl; exact rfl; exact hti; rintro vT wT ⟨hfT, hRT⟩; refine ⟨.inl rfl, ?_⟩
        obtain ⟨hGT, hFA⟩ := feed_done hR6 hO6' hfT hRT hrun
        have hbkT := hRT.blk
        have hA2T := hGT.ptr
        have hA8T := hGT.box
        repeat' (first | (apply G_on; exact rfl; first | ((first | apply G1_assign | apply G1_nilCheck); exact rfl; exact rfl) | (apply G1_loadB; (first | exact T.p60 | exact T.p44 | exact T.p58); exact rfl; assumption; exact rfl; exact rfl) | (apply G1_fieldAddr; exact T.f109_6; exact rfl; exact rfl)) | apply G_nil | apply Post_next | apply W_seq | apply Post_scopeR | refine W_drawn 1 [] [0,1,2,3,4,5,6] mixed (by decide +kernel) ?_ | apply W_ret)
        refine Post_ret Tryz.results18 ⟨_, _, rfl, rfl, _, _, rfl, rfl, rfl⟩ ?_
        exact hFA _ (by repeat first | assumption | exact Ext.rfl' | apply Ext.drew | apply Ext.alloc | refine Ext.trans ?_ (by assumption))
      | err e =>
        rw [hW] at hwd hwr
        repeat' (first | (apply G_on; exact rfl; first | (apply G1_nilCheck; exact rfl; exact rfl) | (apply G1_loadB; (first | exact T.p60 | exact T.p3); exact rfl; assumption; exact rfl; exact rfl) | (apply G1_fieldAddr; exact T.f109_2; exact rfl; exact rfl) | (apply G1_gtr; exact rfl; exact rfl; exact rfl)) | apply G_nil | apply Post_next | apply W_seq | apply W_region | (apply W_cond_dec; exact rfl; all_goals (intro h; try (exfalso; omega))) | apply W_skip | apply W_block)
        all_goals try (exfalso; omega)
        apply G_on; exact rfl; apply G1_call (f := 51); exact rfl; exact rfl; exact rfl; exact hwd; intro v w6 hv; refine ⟨.inl rfl, ?_⟩
        obtain ⟨hf6, rfl, a', r', hR6⟩ := hv
        have hO6 := hI5.o.own hI5.rd.blk hf6
        have he := word_err hW
        have hX : (runP r (inp ++ bs)).out = z.ls ∧ (runP r (inp ++ bs)).err = e := by
          rw [hrun]
          exact ⟨by simp only; rw [hwr.1, List.append_nil], hwr.2⟩
        have hti := tidy_bad hR6 (by omega)
        have hA2e := (hO6).gv.ptr
        repeat' (first | (apply G_on; exact rfl; first | ((first | apply G1_assign | apply G1_move); exact rfl; exact rfl) | (apply G1_loadB; exact T.p60; exact rfl; assumption; exact rfl; exact rfl) | (apply G1_extract; exact rfl; exact rfl; exact rfl) | (apply G1_not_f; exact rfl; exact rfl)) | apply G_nil | apply Post_next | apply W_seq | apply W_region | (apply W_cond_true; exact rfl) | apply W_exit | apply Post_then_exit | apply Post_block_exit | (apply Post_block_other; exact rfl))
        apply G_on; exact rfl; apply G1_call (f := 56); exact rfl; exact rfl; exact rfl; exact hti; rintro vT wT ⟨hfT, hRT⟩; refine ⟨.inl rfl, ?_⟩
        obtain ⟨hGT, hFA⟩ := feed_fail hR6 hO6 hfT hRT (by omega) hX
        have hbkT := hRT.blk
        have hA2T := hGT.ptr
        have hA8T := hGT.box
        repeat' (first | (apply G_on; exact rfl; first | ((first | apply G1_assign | apply G1_nilCheck); exact rfl; exact rfl) | (apply G1_loadB; (first | exact T.p60 | exact T.p44 | exact T.p58); exact rfl; assumption; exact rfl; exact rfl) | (apply G1_fieldAddr; exact T.f109_6; exact rfl; exact rfl)) | apply G_nil | apply Post_next | apply W_seq | apply Post_scopeR | refine W_drawn 1 [] [0,1,2,3,4,5,6] mixed (by decide +kernel) ?_ | apply W_ret)
        refine Post_ret Tryz.results18 ⟨_, _, rfl, rfl, _, _, rfl, rfl, rfl⟩ ?_
        exact hFA _ (by repeat first | assumption | exact Ext.rfl' | apply Ext.drew | apply Ext.alloc | refine Ext.trans ?_ (by assumption))
      | ok s hh k =>
        rw [hW] at hwd hwr hwh
        repeat' (first | (apply G_on; exact rfl; first | (apply G1_nilCheck; exact rfl; exact rfl) | (apply G1_loadB; (first | exact T.p60 | exact T.p3); exact rfl; assumption; exact rfl; exact rfl) | (apply G1_fieldAddr; exact T.f109_2; exact rfl; exact rfl) | (apply G1_gtr; exact rfl; exact rfl; exact rfl)) | apply G_nil | apply Post_next | apply W_seq | apply W_region | (apply W_cond_dec; exact rfl; all_goals (intro h; try (exfalso; omega))) | apply W_skip | apply W_block)
        all_goals try (exfalso; omega)
        apply G_on; exact rfl; apply G1_call (f := 51); exact rfl; exact rfl; exact rfl; exact hwd; intro v w6 hv; refine ⟨.inl rfl, ?_⟩
        obtain ⟨hf6, rfl, hR6⟩ := hv
        have hO6 := hI5.o.own hI5.rd.blk hf6
        obtain ⟨hk, hk0, hrr⟩ := hwr
        have hA26 := hO6.gv.ptr
        have hbk6 := hR6.blk
        simp only at hbk6 hwh
        have hO6w := hR6.wds
        simp only at hO6w
        have hwl := hI5.good.words
        repeat' (first | (refine W_cutR (id := 13) [(2, .pointer (some (adr (bx a2) 0))), (8, .pointer (some (adr (bx a8) 0))), (9, .func (.func 50) #[] #[.pointer (some (adr (bx a8) 0)), .pointer (some (adr (bx a2) 0))])] (fun w' => ∃ p8 c8, RdSt w0 w' ar B p1 c1 (inp ++ bs) (z.a + k) p8 c8 ⟨z.r.left, -1, z.r.words ++ [mkStr s], hh⟩ 0 ∧ FdO w w' ar a2 a8 p pw p1 ⟨z.a + k, ⟨z.r.left, -1, z.r.words ++ [mkStr s], hh⟩, p8, c8, z.hs, z.ls, z.pd, z.cd⟩) ?_ ?_) | (apply G_on; exact rfl; first | ((first | apply G1_assign | apply G1_move); exact rfl; exact rfl) | (apply G1_extract; exact rfl; exact rfl; exact rfl) | (apply G1_not_t; exact rfl; exact rfl)) | apply G_nil | apply Post_next | apply W_seq | apply W_region | (apply W_cond_false; exact rfl) | apply W_skip)
        · refine W_drawnT 1 [] (.node [5] (.alt 0 (.node [] (.alt 1 (.leaf [2,3,4,6,7,8,9,10]) (.alt 6 (.node [] (.alt 1 (.leaf [2,3,4,7,8,9,10]) .stop)) .stop))) (.alt 1 (.node [2,3,4] (.alt 0 (.leaf [6,7,8,9,10]) (.alt 6 (.node [] (.alt 0 (.leaf [7,8,9,10]) (.alt 7 (.leaf [0,8,9,10]) .stop))) .stop))) (.alt 6 (.node [] (.alt 0 (.node [] (.alt 1 (.leaf [2,3,4,7,8,9,10]) .stop)) (.alt 1 (.node [2,3,4] (.alt 0 (.leaf [7,8,9,10]) (.alt 7 (.leaf [0,8,9,10]) .stop))) .stop))) .stop)))) mixed (by decide +kernel) ?_
          repeat' (first | (apply G_on; exact rfl; first | ((first | apply G1_move | apply G1_nilCheck); exact rfl; exact rfl) | (apply G1_loadB; (first | exact T.p60 | exact T.p37); exact rfl; assumption; exact rfl; exact rfl) | (apply G1_fieldAddr; exact T.f109_4; exact rfl; exact rfl)) | apply G_nil | (refine GT_leaf ?_) | (refine GT_node ?_) | (apply GT_alt) | (exact GT_stop))
          all_goals
            apply G_on; exact rfl
            apply G1_build1 eStr (mkStr s); exact T.s37; exact rfl; exact rfl; exact rfl; decide; exact rfl; exact rfl
            intro p7 w7 hp7 hs7 _ hx7 hz7
            have hx67 : Ext w6 w7 := (by repeat first | assumption | exact Ext.rfl' | apply Ext.drew | apply Ext.alloc | refine Ext.trans ?_ (by assumption))
            have hA27 := hA26.ext hx67
            have hbk7 := hbk6.ext hx67
            have hB7 := Nat.le_trans hR6.hB hx67.size
            have nA2 := (hO6w.ext hx67).apartB hA27 (by decide)
            have nAr := (hO6w.ext hx67).apartB hbk7 (by decide)
            repeat' (first | (apply G_on; exact rfl; first | (apply G1_nilCheck; exact rfl; exact rfl) | (apply G1_appendA; exact T.s37; exact rfl; exact rfl; exact hO6w.ext hx67; exact hs7; exact rfl; exact hB7; (simp only [List.length_cons, List.length_nil]; omega); (simp only [List.length_cons, List.length_nil]; omega); exact rfl; exact rfl; exact rfl; intro p8 c8 w8 ha8; have hA28 := hA27.grown ha8.grown nA2; have hbk8 := hbk7.grown ha8.grown nAr) | (apply G1_loadB; (first | exact T.p60 | exact T.p37); exact rfl; assumption; exact rfl; exact rfl) | (apply G1_fieldAddr; exact T.f109_4; exact rfl; exact rfl)) | apply G_nil | (refine GT_leaf ?_) | (refine GT_node ?_) | (apply GT_alt) | (exact GT_stop))
          all_goals
            apply G_on; exact rfl; apply G1_storeB; exact T.z37; exact rfl; exact rfl; exact hbk8; exact rfl; exact rfl; (first | exact Nat.le_of_ble_eq_true rfl | (focus (simp [Value.cells]; done))); (first | exact Enc.one _ _ | (focus (simp [Value.oneCell']; done)) | (focus (simp [Value.cells, Value.oneCell']; done)) | exact Enc.oneAgg _ _); exact rfl; (first | exact .inl rfl | exact .inr (by simp [exempt])); exact rfl; intro w9 hA9 hg9 hs9
            replace hA9 : Blk w9.heap ar 109 [.slice p1 (inp ++ bs).length c1, .int .i64 ((z.a + k : Nat) : Int), .int .i64 (z.r.left : Int), .int .i64 (-1), .slice p8 (z.r.words ++ [mkStr s]).length c8, .int .i64 (hh : Int), .int .i64 0] := hA9
            have hRO := feed_word hI5.rd hI5.o hf6 hR6 hO6 hx67 ha8 hg9 hA9
            repeat' (first | apply G_nil | (refine Post_cut ⟨rfl, rfl, rfl, trivial⟩ ⟨p8, c8, hRO⟩))
        rintro w9 ⟨p8, c8, hR9, hO9⟩
        have hA29 := hO9.gv.ptr
        have hbk9 := hR9.blk
        simp only at hbk9
        repeat' (first | (apply G_on; exact rfl; first | (apply G1_nilCheck; exact rfl; exact rfl) | (apply G1_loadB; (first | exact T.p60 | exact T.p3); exact rfl; assumption; exact rfl; exact rfl) | (apply G1_fieldAddr; exact T.f109_2; exact rfl; exact rfl) | (apply G1_sub; exact rfl; exact rfl; omega; omega; exact rfl)) | apply W_seq | apply W_region)
        apply G_on; exact rfl; apply G1_storeB; exact T.z3; exact rfl; exact rfl; exact hbk9; exact rfl; exact rfl; (first | exact Nat.le_of_ble_eq_true rfl | (focus (simp [Value.cells]; done))); (first | exact Enc.one _ _ | (focus (simp [Value.oneCell']; done)) | (focus (simp [Value.cells, Value.oneCell']; done)) | exact Enc.oneAgg _ _); exact rfl; (first | exact .inl rfl | exact .inr (by simp [exempt])); exact rfl; intro w10 hA10 hg10 hs10
        replace hA10 : Blk w10.heap ar 109 [.slice p1 (inp ++ bs).length c1, .int .i64 ((z.a + k : Nat) : Int), .int .i64 ((z.r.left : Int) - 1), .int .i64 (-1), .slice p8 (z.r.words ++ [mkStr s]).length c8, .int .i64 (hh : Int), .int .i64 0] := hA10
        rw [show (z.r.left : Int) - 1 = ((z.r.left - 1 : Nat) : Int) by omega] at hA10
        have hR10 : RdSt w0 w10 ar B p1 c1 (inp ++ bs) (z.a + k) p8 c8 ⟨z.r.left - 1, -1, z.r.words ++ [mkStr s], hh⟩ 0 := hR9.set hg10 hA10 rfl (by omega)
        have hO10 := hO9.own hR9.blk (FrS.of_grown (F := fun q => q = ar) hg10 (fun k hk => by injection hk with hk; exact hk.symm))
        have hA210 := hO10.gv.ptr
        clear hbk9
        by_cases hl1 : z.r.left = 1
        · rw [if_pos hl1] at hrr
          have hl1' : ((z.r.left - 1 : Nat) : Int) = 0 := by omega
          repeat' (first | (apply G_on; exact rfl; first | ((first | apply G1_move | apply G1_nilCheck); exact rfl; exact rfl) | (apply G1_loadB; (first | exact T.p60 | exact T.p3 | exact T.p37); exact rfl; assumption; exact rfl; exact rfl) | (apply G1_fieldAddr; (first | exact T.f109_2 | exact T.f109_4); exact rfl; exact rfl) | (apply G1_eql; exact rfl; exact rfl; exact rfl)) | apply G_nil | apply Post_next | apply W_seq | apply W_region | (apply W_cond_dec; exact rfl; all_goals (intro h; try (exfalso; omega))))
          all_goals try (exfalso; omega)
          have hgv := give_spec (q := p8) (m := (z.r.words ++ [mkStr s]).length) (d := c8) hR10 hO10.gv (by have := hR.ext.size; have := hO10.h8; omega) hR.ext.size hO10.fr.size (by simp only; omega)
          apply G_on; exact rfl; apply G1_callv; exact rfl; exact rfl; exact rfl; exact rfl; exact hgv; rintro v11 w11 ⟨pd', cd', hR11, hG11, hF11, hnd11⟩; refine ⟨(by first | exact .inl rfl | exact .inr (by assumption)), ?_⟩
          have hrs : (⟨z.r.left - 1, -1, [], 0⟩ : RS) = rs0 := by rw [hl1]; rfl
          simp only at hR11 hG11 hF11 hnd11
          rw [hrs] at hR11
          have hO11 := hO10.give (a' := z.a + k) (r' := rs0) (l := z.r.words ++ [mkStr s]) hR10 hG11 hF11 hnd11 rfl hR10.wds
          rw [hrr, List.drop_drop] at hrun
          repeat' (first | apply G_nil | apply Post_next | apply W_exit | apply Post_then_exit | apply Post_block_exit | (apply Post_block_other; exact rfl))
          refine Post_round (⟨z.a + k, rs0, none, 0, z.hs ++ [(p8, (z.r.words ++ [mkStr s]).length, c8)], z.ls ++ [z.r.words ++ [mkStr s]], pd', cd'⟩ : FdY) ⟨rfl, rfl, rfl, trivial⟩ ⟨hR11, hO11, by rw [hrun]; simp, by simp only [rs0]; omega, good0, by simp only [List.length_append, List.length_singleton]; omega⟩ (by simp only; omega)
        · rw [if_neg hl1, List.drop_drop] at hrr
          rw [hrr] at hrun
          have hl1' : ¬ ((z.r.left - 1 : Nat) : Int) = 0 := by omega
          repeat' (first | (apply G_on; exact rfl; first | (apply G1_nilCheck; exact rfl; exact rfl) | (apply G1_loadB; (first | exact T.p60 | exact T.p3); exact rfl; assumption; exact rfl; exact rfl) | (apply G1_fieldAddr; exact T.f109_2; exact rfl; exact rfl) | (apply G1_eql; exact rfl; exact rfl; exact rfl)) | apply G_nil | apply Post_next | apply W_seq | apply W_region | (apply W_cond_dec; exact rfl; all_goals (intro h; try (exfalso; omega))) | apply W_skip | apply Post_block_normal)
          all_goals try (exfalso; omega)
          have hheld := hI5.held
          refine Post_round (⟨z.a + k, ⟨z.r.left - 1, -1, z.r.words ++ [mkStr s], hh⟩, p8, c8, z.hs, z.ls, z.pd, z.cd⟩ : FdY) ⟨rfl, rfl, rfl, trivial⟩ ⟨⟨hR10, ⟨hO10.gv, hO10.cm, hO10.fr, hO10.np, hO10.npw, hO10.h8, hO10.h2⟩, hrun, by simp only; omega, ⟨⟨by simp only; omega, by simp only; omega⟩, by simp only [List.length_append, List.length_singleton]; omega, fun e => by simp only at e; omega⟩, by simp only; omega⟩, by simp only; omega⟩ (by simp only; omega)
end Go.Proofs.YtipbakiecocioaaGreatDoor

/- Requests: what a printed command is, and that a reader takes it back; in plain Lean. -/

namespace Go.Proofs.YtipbakiecocioaaGreatDoor
open Go.V
attribute [local irreducible] Blk Own hcell IntT SliceT PlainT AggT SizeT StrT FieldT ZeroT EqT ArrT
def dec (n : Nat) : List UInt8 := Lib.itoa (n : Int)
theorem nlAt_app10 : ∀ {s : List UInt8} (m : List UInt8), (∀ c ∈ s, c ≠ 10) → nlAt (s ++ 10 :: m) = s.length
  | [], m, _ => by simp [nlAt]
  | b :: s, m, h => by
    rw [List.cons_append]
    unfold nlAt
    rw [if_neg (h b (by simp)), nlAt_app10 m (fun c hc => h c (by simp [hc])), List.length_cons]
/-- a line that is short enough, and what is behind it -/
theorem line_of {s : List UInt8} (m : List UInt8) (h : ∀ c ∈ s, c ≠ 10) (hl : s.length ≤ 1024) : lineP (s ++ 13 :: 10 :: m) = .ok s (s.length + 2) := by
  have e1 : s ++ 13 :: 10 :: m = (s ++ [13]) ++ 10 :: m := by simp
  have e2 : nlAt (s ++ 13 :: 10 :: m) = s.length + 1 := by
    rw [e1, nlAt_app10 m (fun c hc => by
      rcases List.mem_append.1 hc with hc | hc
      · exact h c hc
      · rw [List.mem_singleton.1 hc]; decide)]
    simp
  unfold lineP
  rw [e2, if_pos ⟨by simp, by omega⟩]
  have e3 : (s ++ 13 :: 10 :: m).getD (s.length + 1 - 1) 0 = 13 := by
    rw [List.getD_eq_getElem?_getD, Nat.add_sub_cancel, List.getElem?_append_right (Nat.le_refl _), Nat.sub_self]
    rfl
  rw [e3, if_neg (by simp), Nat.add_sub_cancel, List.take_left' rfl]
def bytesOf (w : ByteArray) : List UInt8 := w.data.toList
open Classical in
theorem run_nil : runP rs0 [] = ⟨[], rs0, [], 0⟩ := by
  refine run_stop ?_
  unfold stepP
  rw [if_pos (show rs0.left = 0 from rfl)]
  rfl
end Go.Proofs.YtipbakiecocioaaGreatDoor

/- Requests: Feed at one part. -/

namespace Go.V
section
variable {P : Program} {n : Nat} {ops : Array Oper} {dr : Nat × List Nat} {l : List Oper} {E : Env} {w : World} {K : Env → World → Prop}
variable {d : Option Nat} {ty : TypeId} {pos : String} {af : Array Edge} {g : Option (Nat × Bool)} {x y : Operand} {t t' u : TypeId} {a : Addr}
end
end Go.V
namespace Go.Proofs.YtipbakiecocioaaGreatDoor
open Go.V
attribute [local irreducible] Blk Own hcell IntT SliceT PlainT AggT SizeT StrT FieldT ZeroT EqT ArrT
/-- a line of words -/
theorem step_inline {s : List UInt8} (m : List UInt8) (h : ∀ c ∈ s, c ≠ 10) (hl : s.length ≤ 1024) (h42 : s.head? ≠ some 42) (hw : (cutG [] s).length ≤ 128) : stepP rs0 (s ++ 13 :: 10 :: m) = .go rs0 (s.length + 2) (if cutG [] s = [] then [] else [(cutG [] s).map mkStr]) := by
  unfold stepP
  rw [if_pos (show rs0.left = 0 from rfl), line_of m h hl]
  simp only
  rw [if_neg h42, if_neg (by omega)]
/-- one slice of bytes is handed to Feed -/
theorem parts_one {H : Array Obj} {F : Nat → Prop} {q : Option Addr} {d : Nat} {bs : List UInt8} (h : Sl H eByte q d bs) (hf : ∀ x, q = some x → bs ≠ [] → ¬ F x.block) : PartsAt H F [(q, bs.length, d)] [bs] :=
  ⟨rfl, fun i h1 b hi hb => by
    match i with
    | 0 =>
      obtain rfl : (q, bs.length, d) = h1 := by simpa using hi
      obtain rfl : bs = b := by simpa using hb
      exact ⟨rfl, h, hf⟩
    | k + 1 => simp at hi⟩
/-- a newer block is none of the reader's -/
theorem rd_apart {w0 w : World} {ar B : Nat} {p : Option Addr} {c : Nat} {inp : List UInt8} {a : Nat} {pw : Option Addr} {cw : Nat} {r : RS} {ft : Int} (h : RdSt w0 w ar B p c inp a pw cw r ft) {k : Nat} (hk : w.heap.size ≤ k) : ¬ (k = ar ∨ blk p = some k) := fun e => by
  have := h.blk.lt
  rcases e with e | e
  · omega
  · have := (h.row.ge k e).2; omega
end Go.Proofs.YtipbakiecocioaaGreatDoor

/- append where lengths are told by equations. -/

namespace Go.V
section
variable {P : Program} {n : Nat} {ops : Array Oper} {dr : Nat × List Nat} {l : List Oper} {E : Env} {w : World} {K : Env → World → Prop}
variable {d : Option Nat} {ty : TypeId} {pos : String} {af : Array Edge} {g : Option (Nat × Bool)} {x y : Operand} {t t' u sz by_ c : Nat} {p : Option Addr}
end
end Go.V

/- Audit: names in any case; the walks. -/

namespace Go.V
section
variable {P : Program} {n : Nat} {ops : Array Oper} {dr : Nat × List Nat} {l : List Oper} {E : Env} {w : World} {K : Env → World → Prop}
variable {d : Option Nat} {ty : TypeId} {pos : String} {af : Array Edge} {g : Option (Nat × Bool)} {x y : Operand} {k : IntKind} {t t' : TypeId} {i j r : Int}
end
end Go.V
namespace Go.Proofs.YtipbakiecocioaaGreatDoor
open Go.V
attribute [local irreducible] Blk Own hcell IntT SliceT PlainT AggT SizeT StrT FieldT ZeroT EqT ArrT
end Go.Proofs.YtipbakiecocioaaGreatDoor

/- The ways of a branch meet again behind it. -/

namespace Go.V
section
variable {P : Program} {n : Nat} {E : Env} {w : World} {Q : Exit → Act → World → Prop}
/-- the ways of a branch meet again behind it -/
theorem W_cutC {ι : Type} {c : Operand} {r x y z : Code} (E0 : ι → Env) (J : ι → World → Prop) (h1 : W P n (.seq r (.cond c x y)) (fun e a w' => e = .normal ∧ ∃ i, Holds n (E0 i) a ∧ J i w') E w) (h2 : ∀ i w', J i w' → W P n z Q (E0 i) w') : W P n (.seq (.seq r (.cond c x y)) z) Q E w := by
  unfold W at *
  exact fun a ha => wp_seq (wp_mono (h1 a ha) (fun e a w' ⟨he, i, hh, hj⟩ => by subst he; exact h2 i w' hj a hh))
theorem Post_cutI {ι : Type} {E0 : ι → Env} {J : ι → World → Prop} (i : ι) (hE : Env.sub (E0 i) E) (hJ : J i w) : Post n (fun e a w' => e = .normal ∧ ∃ i, Holds n (E0 i) a ∧ J i w') .normal E w := by
  unfold Post
  exact fun _ ha => ⟨rfl, i, ha.sub hE, hJ⟩
end
end Go.V

/- Audit: calls in memory, and what they tell; the walks. -/

namespace Go.V
/-- a call as it lies in a slice -/
structure RawC where
  q : Option Addr
  m : Nat
  d : Nat
  rep : RawR
  done : Bool
def eCall : Enc RawC := ⟨6, fun r => [.slice r.q r.m r.d, .int .i64 r.rep.kind, .string r.rep.s, .int .i64 r.rep.n, .slice r.rep.p r.rep.len r.rep.cap, .bool r.done], fun _ => rfl,
  fun _ v hv => by simp at hv; rcases hv with rfl | rfl | rfl | rfl | rfl | rfl <;> rfl, by decide⟩
structure CallD where
  words : List ByteArray
  rep : Rep
  done : Bool
structure CallAt (H : Array Obj) (r : RawC) (c : CallD) : Prop where
  m : r.m = c.words.length
  done : r.done = c.done
  ws : Sl H eStr r.q r.d c.words
  small : ∀ w ∈ c.words, w.size ≤ 1000000000
  rep : RepAt H 5 r.rep c.rep
structure CallsAt (H : Array Obj) (p : Option Addr) (c : Nat) (rs : List RawC) (cs : List CallD) : Prop where
  sl : Sl H eCall p c rs
  len : rs.length = cs.length
  get : ∀ (i : Nat) r x, rs[i]? = some r → cs[i]? = some x → CallAt H r x
theorem CallAt.ext {w w' : World} {r : RawC} {c : CallD} (h : CallAt w.heap r c) (hx : Ext w w') : CallAt w'.heap r c := ⟨h.m, h.done, h.ws.ext hx, h.small, h.rep.ext hx⟩
theorem CallsAt.ext {w w' : World} {p : Option Addr} {c : Nat} {rs : List RawC} {cs : List CallD} (h : CallsAt w.heap p c rs cs) (hx : Ext w w') : CallsAt w'.heap p c rs cs := ⟨h.sl.ext hx, h.len, fun i r x hr hc => (h.get i r x hr hc).ext hx⟩
end Go.V
namespace Go.Proofs.YtipbakiecocioaaGreatDoor
open Go.V
attribute [local irreducible] Blk Own hcell IntT SliceT PlainT AggT SizeT StrT FieldT ZeroT EqT ArrT
theorem call_enc {H : Array Obj} {r : RawC} {c : CallD} (h : CallAt H r c) : eCall.enc r = [.slice r.q c.words.length r.d, .int .i64 c.rep.kind, .string c.rep.s, .int .i64 c.rep.n, .slice r.rep.p r.rep.len r.rep.cap, .bool c.done] := by
  obtain ⟨e, rs, _, h1, h2, h3, _⟩ := h.rep.open
  show [_, _, _, _, _, _] = _
  rw [h.m, h1, h2, h3, h.done]
end Go.Proofs.YtipbakiecocioaaGreatDoor

/- Audit: what calls tell; the walks. -/

namespace Go.V
end Go.V
namespace Go.Proofs.YtipbakiecocioaaGreatDoor
open Go.V
attribute [local irreducible] Blk Own hcell IntT SliceT PlainT AggT SizeT StrT FieldT ZeroT EqT ArrT
end Go.Proofs.YtipbakiecocioaaGreatDoor

/- Audit: is a transaction open; the walks. -/

namespace Go.Proofs.YtipbakiecocioaaGreatDoor
open Go.V
attribute [local irreducible] Blk Own hcell IntT SliceT PlainT AggT SizeT StrT FieldT ZeroT EqT ArrT



end Go.Proofs.YtipbakiecocioaaGreatDoor

/- Audit: the stamps of commits, and all that calls tell; the walks. -/

namespace Go.V
section
variable {P : Program} {n : Nat} {ops : Array Oper} {dr : Nat × List Nat} {l : List Oper} {E : Env} {w : World} {K : Env → World → Prop}
variable {d : Option Nat} {ty : TypeId} {pos : String} {af : Array Edge} {g : Option (Nat × Bool)} {x y : Operand} {t t' : TypeId} {b b' : Bool}
end
end Go.V
namespace Go.Proofs.YtipbakiecocioaaGreatDoor
open Go.V
attribute [local irreducible] Blk Own hcell IntT SliceT PlainT AggT SizeT StrT FieldT ZeroT EqT ArrT




end Go.Proofs.YtipbakiecocioaaGreatDoor

/- Rules for shifts and bits; slices with three bounds. -/

namespace Go.V
open Go.RowKit
section
variable {P : Program} {n : Nat} {ops : Array Oper} {dr : Nat × List Nat} {dq : Nat} {l : List Oper} {E : Env} {w : World} {K : Env → World → Prop}
variable {d : Option Nat} {ty : TypeId} {pos : String} {af : Array Edge} {g : Option (Nat × Bool)} {x y z m : Operand} {k k' k2 : IntKind} {i j i2 : Int} {t t' u sz by_ : Nat} {p : Option Addr} {c len : Nat}
theorem G1_loadBAggS {b t2 : Nat} {cs : List Value} (hu : AggT P t sz) (hx : E.look x = some (.pointer (some (adr (bx b) 0)))) (hb : Blk w.heap b t2 cs) (hl : cs.length = sz) (hS : exempt dr.2 b = false) (hd : dstOk n d = true)
    (h : G P n ops dr l (E.put d (.agg cs.toArray)) w K) : G1 P n ops dr ⟨d, .load t x, ty, pos, af, g⟩ l E w K :=
  G1_quiet _ hd (fun a ha w' hw => by
    have hw' : ExtS dr.2 w w' := by
      rcases hw with hw | hw
      · simp [readsM] at hw
      · exact hw
    have hb' : Blk w'.heap b t2 cs := by
      have := hw'.block b hb.lt hS
      unfold Blk at *
      rw [this]; exact hb
    simp [execOp, Instr.loadAt, ha.eval hx, Instr.sureAddr, run_loadVar_box hu hb' hl]) h
end
end Go.V

/- resp.Read: the walk. -/

namespace Go.Proofs.YtipbakiecocioaaGreatDoor
open Go.V
attribute [local irreducible] Blk Own hcell IntT SliceT PlainT AggT SizeT StrT FieldT ZeroT EqT ArrT
theorem zrF : ZeroT Tryz.prog 97 .nilFunc := ZeroT.of (by kernel_rfl)
theorem szF : SizeT Tryz.prog 97 1 := SizeT.of (by kernel_rfl)
/-- what resp.Read answers -/
def ReadR (w : World) (bs : List UInt8) (v : Value) (w' : World) : Prop :=
  Ext w w' ∧ ((∃ t j r, rdT 4 bs = some (t, j) ∧ v = .tuple #[.agg (eRep.enc r).toArray, .int .i64 (j : Int), .bool true] ∧ RepAt (veil (fun q => q < w.heap.size) w'.heap) 5 r t) ∨
  (rdT 4 bs = none ∧ v = .tuple #[.agg (eRep.enc zRep).toArray, .int .i64 0, .bool false]))
set_option maxHeartbeats 2000000 in
theorem read_spec {p : Option Addr} {c : Nat} {bs : List UInt8} {w : World} (hC : Sl w.heap eByte p c bs) (hb : bs.length ≤ 1000000000) (hU : Utf w) (hT : Pow w) (hE : Errs w) :
    Ctr Tryz.prog 15 [.slice p bs.length c] w (ReadR w bs) := by
  refine Ctr_of Tryz.func15 Tryz.ntmps15 rfl rfl rfl ?_
  repeat' (first | apply W_seq | apply W_region)
  apply G_on; exact rfl; apply G1_box; exact rfl; exact rfl; exact rfl; intro a1 w1 ha1 hA1 hx1 hs1
  replace hA1 : Blk w1.heap a1 22 [.slice p bs.length c] := hA1
  skip
  apply G_on; exact rfl; apply G1_alloc; exact T.zero31; exact rfl; exact rfl; intro a2 w2 ha2 hA2 hx2 hs2
  replace hA1 := hA1.ext hx2
  replace hA2 : Blk w2.heap a2 31 (eRep.enc zRep) := hA2
  repeat' (first | (apply G_on; exact rfl; (apply G1_assign; exact rfl; exact rfl)) | apply G_nil | apply Post_next | apply W_seq | apply W_region)
  apply G_on; exact rfl; apply G1_alloc; exact T.zero3; exact rfl; exact rfl; intro a3 w3 ha3 hA3 hx3 hs3
  replace hA1 := hA1.ext hx3
  replace hA2 := hA2.ext hx3
  skip
  apply G_on; exact rfl; apply G1_storeB; exact T.z3; exact rfl; exact rfl; exact hA3; exact rfl; exact rfl; (first | exact Nat.le_of_ble_eq_true rfl | (focus (simp [Value.cells]; done))); (first | exact Enc.one _ _ | (focus (simp [Value.oneCell']; done)) | (focus (simp [Value.cells, Value.oneCell']; done)) | exact Enc.oneAgg _ _); exact rfl; (first | exact .inl rfl | exact .inr (by simp [exempt])); exact rfl; intro w4 hA4 hg4 hs4
  replace hA4 : Blk w4.heap a3 3 [.int .i64 ((0 : Nat) : Int)] := hA4
  replace hA1 := hA1.grown hg4 (fun e => by injection e; omega)
  replace hA2 := hA2.grown hg4 (fun e => by injection e; omega)
  have hx4 : Ext w w4 := ((hx1.trans hx2).trans hx3).own hg4 (fun k hk => by injection hk; omega)
  repeat' (first | apply G_nil | apply Post_next | apply W_seq | apply W_region)
  apply G_on; exact rfl; apply G1_alloc; exact zrF; exact rfl; exact rfl; intro a5 w5 ha5 hA5 hx5 hs5
  replace hA1 := hA1.ext hx5
  replace hA2 := hA2.ext hx5
  replace hA4 := hA4.ext hx5
  repeat' (first | (apply G_on; exact rfl; (apply G1_makeFunc; exact rfl; exact rfl)) | apply G_nil | apply Post_next | apply W_seq | apply W_region)
  apply G_on; exact rfl; apply G1_storeB; exact szF; exact rfl; exact rfl; exact hA5; exact rfl; exact rfl; exact Nat.le_of_ble_eq_true rfl; (focus (simp [Value.cells, Value.oneCell'])); exact rfl; exact .inl rfl; exact rfl; intro w6 hA6 hg6 hs6
  replace hA6 : Blk w6.heap a5 97 [.func (.func 39) #[] #[.pointer (some (adr (bx a1) 0)), .pointer (some (adr (bx a3) 0)), .pointer (some (adr (bx a5) 0))]] := hA6
  replace hA1 := hA1.grown hg6 (fun e => by injection e; omega)
  replace hA2 := hA2.grown hg6 (fun e => by injection e; omega)
  replace hA4 := hA4.grown hg6 (fun e => by injection e; omega)
  have hx6 : Ext w w6 := (hx4.trans hx5).own hg6 (fun k hk => by injection hk; omega)
  have st : TakeSt w w6 a1 a3 a5 97 p c bs 0 := ⟨hx6, hA1, hA4, hA6, hC, by omega, by omega, by omega⟩
  have htk := take_spec hU hT hE 4 (Nat.zero_le _) hb st (Nat.le_refl _)
  rw [show (4 : Int) - ((4 : Nat) : Int) = 0 from rfl] at htk
  repeat' (first | (apply G_on; exact rfl; (apply G1_loadB; exact plF; exact rfl; exact hA6; exact rfl; exact rfl)) | apply G_nil | apply Post_next | apply W_seq | apply W_region)
  apply G_on; exact rfl; apply G1_callv; exact rfl; exact rfl; exact rfl; exact rfl; exact htk; rintro v w7 hv; refine ⟨(by first | exact .inl rfl | exact .inr (by assumption)), ?_⟩
  unfold TakeR at hv
  rw [List.drop_zero] at hv
  rcases hv with ⟨t, j, r, hr1, rfl, hr2, hr3, hr4⟩ | ⟨hr1, r, k9, rfl, hr3, hr4⟩
  · replace hA2 := hr4.blk hA2 (exempt1 (by omega))
    have z7 := hr4.size
    have hx7 : Ext w w7 := hr3.ext
    have hp7 := hr3.pos
    repeat' (apply G_on; exact rfl; first | (apply G1_move; exact rfl; exact rfl) | (apply G1_extract; exact rfl; exact rfl; exact rfl))
    apply G_on; exact rfl; apply G1_alloc; exact T.zero31; exact rfl; exact rfl; intro a8 w8 ha8 hA8 hx8 hs8
    skip
    apply G_on; exact rfl; apply G1_storeB; exact T.z31; exact rfl; exact rfl; exact hA8; exact rfl; exact rfl; (first | exact Nat.le_of_ble_eq_true rfl | (focus (simp [Value.cells]; done))); (first | exact Enc.one _ _ | (focus (simp [Value.oneCell']; done)) | (focus (simp [Value.cells, Value.oneCell']; done)) | exact Enc.oneAgg _ _); exact rfl; (first | exact .inl rfl | exact .inr (by simp [exempt])); exact rfl; intro w9 hA9 hg9 hs9
    replace hA9 : Blk w9.heap a8 31 (eRep.enc r) := hA9
    have hx79 : Ext w7 w9 := hx8.own hg9 (fun k hk => by injection hk; omega)
    replace hA2 := hA2.ext hx79
    replace hp7 := hp7.ext hx79
    have hxA : exempt [a2] a8 = false := exempt1 (by omega)
    have hxP : exempt [a2] a3 = false := exempt1 (by omega)
    repeat' (first | (apply G_on; exact rfl; first | ((first | apply G1_assign | apply G1_move); exact rfl; exact rfl) | (apply G1_not_t; exact rfl; exact rfl)) | apply G_nil | apply Post_next | apply W_seq | apply W_region | (apply W_cond_false; exact rfl) | apply W_skip)
    refine W_drawn 3 [a2] [0,1,2,3,4] mixed (by decide +kernel) ?_
    repeat' (apply G_on; exact rfl; first | (apply G1_loadBAggS; exact T.a31; exact rfl; exact hA9; exact rfl; exact hxA; exact rfl) | (apply G1_loadBS; exact T.p3; exact rfl; exact hp7; exact rfl; exact hxP; exact rfl))
    apply G_on; exact rfl; apply G1_storeB; exact T.z31; exact rfl; exact rfl; exact hA2; exact rfl; exact rfl; (first | exact Nat.le_of_ble_eq_true rfl | (focus (simp [Value.cells]; done))); (first | exact Enc.one _ _ | (focus (simp [Value.oneCell']; done)) | (focus (simp [Value.cells, Value.oneCell']; done)) | exact Enc.oneAgg _ _); exact rfl; (first | exact .inl rfl | exact .inr (by simp [exempt])); exact rfl; intro wf hAf hgf hsf
    replace hAf : Blk wf.heap a2 31 (eRep.enc r) := hAf
    have hxf : Ext w wf := (hx7.trans hx79).drew.own hgf (fun k hk => by injection hk; omega)
    repeat' (first | (apply G_on; exact rfl; (apply G1_assign; exact rfl; exact rfl)) | apply G_nil | apply Post_next | apply W_ret)
    refine Post_ret Tryz.results15 ⟨_, _, _, rfl, rfl, run_loadVar_box T.a31 (by assumption) rfl, _, _, rfl, rfl, _, _, rfl, rfl, rfl⟩ ?_
    refine ⟨hxf, .inl ⟨t, j, r, hr1, by rw [Nat.zero_add]; rfl, ?_⟩⟩
    have zw6 := hx6.size
    refine hr2.hide (fun b hb hbl => ⟨fun h => hb (by omega), ?_⟩)
    exact (hgf.block b (show b < w9.heap.size by have := hx79.size; omega) (fun e => by injection e; omega)).trans (hx79.block b hbl)
  · replace hA2 := hr4.blk hA2 (exempt1 (by omega))
    have z7 := hr4.size
    have hx7 : Ext w w7 := hr3.ext
    repeat' (apply G_on; exact rfl; first | (apply G1_move; exact rfl; exact rfl) | (apply G1_extract; exact rfl; exact rfl; exact rfl))
    apply G_on; exact rfl; apply G1_alloc; exact T.zero31; exact rfl; exact rfl; intro a8 w8 ha8 hA8 hx8 hs8
    skip
    apply G_on; exact rfl; apply G1_storeB; exact T.z31; exact rfl; exact rfl; exact hA8; exact rfl; exact rfl; (first | exact Nat.le_of_ble_eq_true rfl | (focus (simp [Value.cells]; done))); (first | exact Enc.one _ _ | (focus (simp [Value.oneCell']; done)) | (focus (simp [Value.cells, Value.oneCell']; done)) | exact Enc.oneAgg _ _); exact rfl; (first | exact .inl rfl | exact .inr (by simp [exempt])); exact rfl; intro w9 hA9 hg9 hs9
    have hx79 : Ext w7 w9 := hx8.own hg9 (fun k hk => by injection hk; omega)
    replace hA2 := hA2.ext hx79
    repeat' (first | (apply G_on; exact rfl; first | ((first | apply G1_assign | apply G1_move); exact rfl; exact rfl) | (apply G1_build (.agg (eRep.enc zRep).toArray); exact rfl; exact bldZ; exact rfl) | (apply G1_not_f; exact rfl; exact rfl)) | apply G_nil | apply Post_next | apply W_seq | apply W_region | (apply W_cond_true; exact rfl))
    apply G_on; exact rfl; apply G1_storeB; exact T.z31; exact rfl; exact rfl; exact hA2; exact rfl; exact rfl; (first | exact Nat.le_of_ble_eq_true rfl | (focus (simp [Value.cells]; done))); (first | exact Enc.one _ _ | (focus (simp [Value.oneCell']; done)) | (focus (simp [Value.cells, Value.oneCell']; done)) | exact Enc.oneAgg _ _); exact rfl; (first | exact .inl rfl | exact .inr (by simp [exempt])); exact rfl; intro wf hAf hgf hsf
    replace hAf : Blk wf.heap a2 31 (eRep.enc zRep) := hAf
    have hxf : Ext w wf := (hx7.trans hx79).own hgf (fun k hk => by injection hk; omega)
    repeat' (first | (apply G_on; exact rfl; (apply G1_assign; exact rfl; exact rfl)) | apply G_nil | apply Post_next | apply W_ret | apply Post_then_ret)
    refine Post_ret Tryz.results15 ⟨_, _, _, rfl, rfl, run_loadVar_box T.a31 (by assumption) rfl, _, _, rfl, rfl, _, _, rfl, rfl, rfl⟩ ?_
    exact ⟨hxf, .inr ⟨hr1, rfl⟩⟩
end Go.Proofs.YtipbakiecocioaaGreatDoor

/- Where the document looks for the end of a line, and where the program does; in plain Lean. -/

namespace Go.Proofs.YtipbakiecocioaaGreatDoor
open Go.V
attribute [local irreducible] Blk Own hcell IntT SliceT PlainT AggT SizeT StrT FieldT ZeroT EqT ArrT
end Go.Proofs.YtipbakiecocioaaGreatDoor

/- The document's Read: the walk. -/

namespace Go.V
section
variable {P : Program} {n : Nat} {ops : Array Oper} {dr : Nat × List Nat} {l : List Oper} {E : Env} {w : World} {K : Env → World → Prop}
variable {d : Option Nat} {ty : TypeId} {pos : String} {af : Array Edge} {g : Option (Nat × Bool)} {x y : Operand} {s s' : ByteArray} {t t' : TypeId}
end
end Go.V
namespace Go.Proofs.YtipbakiecocioaaGreatDoor
open Go.V
attribute [local irreducible] Blk Own hcell IntT SliceT PlainT AggT SizeT StrT FieldT ZeroT EqT ArrT
end Go.Proofs.YtipbakiecocioaaGreatDoor

/- Audit: the replies with which bytes begin; the walks. -/

namespace Go.Proofs.YtipbakiecocioaaGreatDoor
open Go.V
attribute [local irreducible] Blk Own hcell IntT SliceT PlainT AggT SizeT StrT FieldT ZeroT EqT ArrT
noncomputable def repsN : Nat → List UInt8 → List Rep × Nat
  | 0, _ => ([], 0)
  | n + 1, bs => match rdT 4 bs with
    | none => ([], 0)
    | some (t, j) => (t :: (repsN n (bs.drop j)).1, j + (repsN n (bs.drop j)).2)
noncomputable def repsP (bs : List UInt8) : List Rep × Nat := repsN (bs.length + 1) bs
theorem repsN_fuel : ∀ (n m : Nat) (bs : List UInt8), bs.length < n → bs.length < m → repsN n bs = repsN m bs
  | 0, _, _, h, _ => by omega
  | _ + 1, 0, _, _, h => by omega
  | n + 1, m + 1, bs, h1, h2 => by
    unfold repsN
    cases h : rdT 4 bs with
    | none => rfl
    | some x =>
      obtain ⟨t, j⟩ := x
      have hj := rdT_len _ _ _ _ h
      simp only
      rw [repsN_fuel n m (bs.drop j) (by rw [List.length_drop]; omega) (by rw [List.length_drop]; omega)]
theorem repsP_none {bs : List UInt8} (h : rdT 4 bs = none) : repsP bs = ([], 0) := by
  unfold repsP repsN
  rw [h]
theorem repsP_some {bs : List UInt8} {t : Rep} {j : Nat} (h : rdT 4 bs = some (t, j)) : repsP bs = (t :: (repsP (bs.drop j)).1, j + (repsP (bs.drop j)).2) := by
  have hj := rdT_len _ _ _ _ h
  conv => lhs; unfold repsP repsN
  rw [h]
  simp only
  rw [repsN_fuel bs.length ((bs.drop j).length + 1) (bs.drop j) (by rw [List.length_drop]; omega) (by omega)]
  rfl
/-- replies that lie in new rows -/
structure NewReps (w w' : World) (p : Option Addr) (c : Nat) (rs : List RawR) (ts : List Rep) : Prop where
  ext : Ext w w'
  own : Own w' w.heap.size 31 eRep p c rs
  len : rs.length = ts.length
  at_ : ∀ (i : Nat) r t, rs[i]? = some r → ts[i]? = some t → RepAt (veil (fun b => b < w.heap.size ∨ blk p = some b) w'.heap) 5 r t
theorem NewReps.nil {w : World} : NewReps w w none 0 [] [] := ⟨Ext.rfl', Own.nil _ _ _ _, rfl, fun i r t h => by simp at h⟩
theorem NewReps.xt {w w1 w2 : World} {p : Option Addr} {c : Nat} {rs : List RawR} {ts : List Rep} (h : NewReps w w1 p c rs ts) (hx : Ext w1 w2) : NewReps w w2 p c rs ts :=
  ⟨h.ext.trans hx, h.own.ext hx, h.len, fun i r t hr ht => (h.at_ i r t hr ht).hide (fun b hb hl => ⟨hb, hx.block b hl⟩)⟩
theorem NewReps.push {w w1 w2 w3 : World} {p p' : Option Addr} {c c' : Nat} {rs : List RawR} {ts : List Rep} {r : RawR} {t : Rep} {S : Nat} (h : NewReps w w1 p c rs ts) (hx : Ext w1 w2) (hS : w1.heap.size ≤ S) (hr : RepAt (veil (fun q => q < S) w2.heap) 5 r t)
    (ha : App w2 w3 w.heap.size 31 eRep p p' c' (rs ++ [r])) : NewReps w w3 p' c' (rs ++ [r]) (ts ++ [t]) := by
  have hge := h.own.ge
  have hz := hx.size
  have hz0 := h.ext.size
  have hnp := ha.new
  unfold NewP at hnp
  have hp' : ∀ b, b < w2.heap.size → blk p ≠ some b → blk p' ≠ some b := fun b hb hne e => by
    rcases hnp with hnp | hnp
    · exact hne (by rw [← hnp]; exact e)
    · have := hnp b e; omega
  refine ⟨(h.ext.trans hx).app ha (fun k hk => (hge k hk).1), ha.own, by simp [h.len], fun i r' t' hr' ht' => ?_⟩
  by_cases hi : i < rs.length
  · rw [List.getElem?_append_left hi] at hr'
    rw [List.getElem?_append_left (by rw [← h.len]; exact hi)] at ht'
    refine (h.at_ i r' t' hr' ht').hide (fun b hb hl => ?_)
    have h1 : blk p ≠ some b := fun e => hb (.inr e)
    refine ⟨fun e => e.elim (fun e => hb (.inl e)) (hp' b (by omega) h1), ?_⟩
    rw [ha.grown.block b (by omega) (fun e => h1 e.symm), hx.block b hl]
  · have e1 := get_lt hr'
    rw [List.length_append, List.length_singleton] at e1
    obtain rfl : i = rs.length := by omega
    rw [List.getElem?_append_right (Nat.le_refl _), Nat.sub_self] at hr'
    rw [List.getElem?_append_right (by rw [h.len]; exact Nat.le_refl _), h.len, Nat.sub_self] at ht'
    obtain rfl : r = r' := by simpa using hr'
    obtain rfl : t = t' := by simpa using ht'
    refine hr.hide (fun b hb hl => ?_)
    have h1 : blk p ≠ some b := fun e => by have := (hge b e).2; omega
    exact ⟨fun e => e.elim (fun e => by omega) (hp' b hl h1), ha.grown.block b hl (fun e => h1 e.symm)⟩
set_option maxHeartbeats 2000000 in
theorem replies_spec {p : Option Addr} {c : Nat} {bs : List UInt8} {w : World} (hC : Sl w.heap eByte p c bs) (hb : bs.length ≤ 1000000) (hU : Utf w) (hT : Pow w) (hE : Errs w) :
    Ctr Tryz.prog 6 [.slice p bs.length c] w (fun v w' => ∃ q d rs, v = .tuple #[.slice q rs.length d, .int .i64 ((repsP bs).2 : Int)] ∧ NewReps w w' q d rs (repsP bs).1 ∧ rs.length ≤ bs.length) := by
  have hok := hC.ok
  have hle := hok.le
  refine Ctr_of Tryz.func6 Tryz.ntmps6 rfl rfl rfl ?_
  repeat' (first | (apply G_on; exact rfl; (apply G1_assign; exact rfl; exact rfl)) | apply G_nil | apply Post_next | apply W_seq | apply W_region | apply W_block)
  refine W_loop (ι := Nat × List Rep × Option Addr × Nat × List RawR) (fun y => [(0, .slice p bs.length c), (4, .slice y.2.2.1 y.2.2.2.2.length y.2.2.2.1), (5, .int .i64 (y.1 : Int))])
    (fun y w' => y.1 ≤ bs.length ∧ NewReps w w' y.2.2.1 y.2.2.2.1 y.2.2.2.2 y.2.1 ∧ y.2.2.2.2.length ≤ y.1 ∧ repsP bs = (y.2.1 ++ (repsP (bs.drop y.1)).1, y.1 + (repsP (bs.drop y.1)).2)) (fun y => bs.length - y.1) (0, [], none, 0, []) ⟨rfl, rfl, rfl, trivial⟩
    ⟨Nat.zero_le _, NewReps.nil.xt (by repeat first | assumption | exact Ext.rfl' | apply Ext.drew | apply Ext.alloc | refine Ext.trans ?_ (by assumption)), Nat.le_refl _, by simp⟩ ?_
  rintro ⟨k, ts, q, d, rs⟩ w2 ⟨hk, hN, hrl, hR⟩
  simp only at hk hN hrl hR
  refine W_keep [(0, .slice p bs.length c), (4, .slice q rs.length d), (5, .int .i64 (k : Int))] ⟨rfl, rfl, rfl, trivial⟩ ?_
  have hx2 := hN.ext
  have hge := hN.own.ge
  have hz2 := hx2.size
  have hdl : (bs.drop k).length = bs.length - k := List.length_drop
  have hread := read_spec (((hC.ext hx2).drop (l := k) (by omega))) (by omega) (hU.ext hx2) (TabIs.ext hT hx2) (hE.ext hx2)
  rw [hdl] at hread
  repeat' (first | (apply G_on; exact rfl; first | (apply G1_move; exact rfl; exact rfl) | (apply G1_sliceLoJ (q := k); exact T.s22; exact rfl; exact rfl; exact rfl; exact hok; omega; exact rfl)) | apply W_seq | apply W_region | apply W_block)
  apply G_on; exact rfl; apply G1_call (f := 15); exact rfl; exact rfl; exact rfl; exact hread; intro v w3 hv; refine ⟨.inl rfl, ?_⟩
  obtain ⟨hx3, hv⟩ := hv
  rcases hv with ⟨t, j, r, hr1, rfl, hr2⟩ | ⟨hr1, rfl⟩
  · have hj := rdT_len _ _ _ _ hr1
    rw [repsP_some hr1, List.drop_drop] at hR
    repeat' (apply G_on; exact rfl; first | (apply G1_move; exact rfl; exact rfl) | (apply G1_extract; exact rfl; exact rfl; exact rfl))
    apply G_on; exact rfl; apply G1_alloc; exact T.zero31; exact rfl; exact rfl; intro a4 w4 ha4 hA4 hx4 hs4
    skip
    apply G_on; exact rfl; apply G1_storeB; exact T.z31; exact rfl; exact rfl; exact hA4; exact rfl; exact rfl; (first | exact Nat.le_of_ble_eq_true rfl | (focus (simp [Value.cells]; done))); (first | exact Enc.one _ _ | (focus (simp [Value.oneCell']; done)) | (focus (simp [Value.cells, Value.oneCell']; done)) | exact Enc.oneAgg _ _); exact rfl; (first | exact .inl rfl | exact .inr (by simp [exempt])); exact rfl; intro w5 hA5 hg5 hs5
    replace hA5 : Blk w5.heap a4 31 (eRep.enc r) := hA5
    have hx35 : Ext w3 w5 := hx4.own hg5 (fun k hk => by injection hk with hk; omega)
    have hx25 := hx3.trans hx35
    repeat' (first | (apply G_on; exact rfl; first | ((first | apply G1_assign | apply G1_move); exact rfl; exact rfl) | (apply G1_not_t; exact rfl; exact rfl) | (apply G1_loadBAgg; exact T.a31; exact rfl; assumption; exact rfl; exact rfl)) | apply G_nil | apply Post_next | apply W_seq | apply W_region | (apply W_cond_false; exact rfl) | apply W_skip)
    all_goals try (exfalso; omega)
    apply G_on; exact rfl
    apply G1_build1 eRep r; exact T.s26; exact rfl; exact rfl; exact rfl; decide; exact rfl; exact rfl
    intro p6 w6 hp6 hs6 _ hx6 hz6
    have hx26 := hx25.trans hx6
    have hz26 := hx26.size
    have hN6 := hN.xt hx26
    repeat' (first | (apply G_on; exact rfl; first | ((first | apply G1_assign | apply G1_move); exact rfl; exact rfl) | (apply G1_appendA; exact T.s26; exact rfl; exact rfl; exact hN6.own; exact hs6; exact rfl; omega; (simp only [List.length_cons, List.length_nil]; omega); (simp only [List.length_cons, List.length_nil]; omega); exact rfl; exact rfl; exact rfl; intro p7 c7 w7 ha7) | (apply G1_add; exact rfl; exact rfl; omega; omega; exact rfl)) | apply G_nil | apply Post_next | apply W_region | apply Post_block_normal)
    have hr6 : RepAt (veil (fun q => q < w2.heap.size) w6.heap) 5 r t := hr2.hide (fun b hb hl => ⟨hb, (hx35.trans hx6).block b hl⟩)
    have hN7 := hN.push hx26 (Nat.le_refl _) hr6 ha7
    exact Post_round (k + j, ts ++ [t], p7, c7, rs ++ [r]) ⟨rfl, rfl, rfl, trivial⟩ ⟨by simp only; omega, hN7, by simp only [List.length_append, List.length_singleton]; omega, by simp only; rw [hR]; simp [Nat.add_assoc]⟩ (by simp only; omega)
  · rw [repsP_none hr1] at hR
    simp only [List.append_nil, Nat.add_zero] at hR
    repeat' (apply G_on; exact rfl; first | (apply G1_move; exact rfl; exact rfl) | (apply G1_extract; exact rfl; exact rfl; exact rfl))
    apply G_on; exact rfl; apply G1_alloc; exact T.zero31; exact rfl; exact rfl; intro a4 w4 ha4 hA4 hx4 hs4
    skip
    apply G_on; exact rfl; apply G1_storeB; exact T.z31; exact rfl; exact rfl; exact hA4; exact rfl; exact rfl; (first | exact Nat.le_of_ble_eq_true rfl | (focus (simp [Value.cells]; done))); (first | exact Enc.one _ _ | (focus (simp [Value.oneCell']; done)) | (focus (simp [Value.cells, Value.oneCell']; done)) | exact Enc.oneAgg _ _); exact rfl; (first | exact .inl rfl | exact .inr (by simp [exempt])); exact rfl; intro w5 hA5 hg5 hs5
    have hx35 : Ext w3 w5 := hx4.own hg5 (fun k hk => by injection hk with hk; omega)
    have hx25 := hx3.trans hx35
    repeat' (first | (apply G_on; exact rfl; first | ((first | apply G1_assign | apply G1_move); exact rfl; exact rfl) | (apply G1_not_f; exact rfl; exact rfl)) | apply G_nil | apply Post_next | apply W_seq | apply W_region | (apply W_cond_true; exact rfl) | apply W_ret | apply Post_then_ret | apply Post_block_ret)
    refine Post_ret Tryz.results6 ⟨_, _, rfl, rfl, _, _, rfl, rfl, rfl⟩ ?_
    rw [hR]
    exact ⟨q, d, rs, rfl, hN.xt hx25, by omega⟩
end Go.Proofs.YtipbakiecocioaaGreatDoor

/- Audit: a wire's calls; plain facts and the walks. -/

namespace Go.V
theorem frs_toS2 {w w' : World} {ar n : Nat} (h : FrS (fun k => k = ar ∨ blk (none : Option Addr) = some k ∨ blk (none : Option Addr) = some k) w w') (hn : n ≤ ar) : ExtS [n, n] w w' :=
  ⟨h.os, h.tape, h.output, h.size, fun k hk hs => h.block k hk (fun e => by
    rcases e with e | e | e
    · have h1 : Nat.ble n k = true := Nat.ble_eq_true_of_le (by rw [e]; exact hn)
      have h2 : exempt [n, n] k = true := by
        unfold exempt
        show (List.contains [n, n] k || Nat.ble n k) = true
        rw [h1, Bool.or_true]
      rw [h2] at hs
      cases hs
    · cases e
    · cases e)⟩
end Go.V
namespace Go.Proofs.YtipbakiecocioaaGreatDoor
open Go.V
attribute [local irreducible] Blk Own hcell IntT SliceT PlainT AggT SizeT StrT FieldT ZeroT EqT ArrT
/-- words that a reader gives are no longer than what came -/
theorem step_small {r r' : RS} {cs : List UInt8} {k B : Nat} {out : List (List ByteArray)} (hr : ∀ w ∈ r.words, w.size ≤ B) (hc : cs.length ≤ B) (h : stepP r cs = .go r' k out) : (∀ w ∈ r'.words, w.size ≤ B) ∧ ∀ l ∈ out, ∀ w ∈ l, w.size ≤ B := by
  have htk : ∀ n, (mkStr (cs.take n)).size ≤ B := fun n => by rw [mkStr_size, List.length_take]; omega
  unfold stepP at h
  split at h
  · split at h
    · cases h
    · cases h
    · rename_i s k' hl
      have h1 := line_len hl
      split at h
      · split at h
        · cases h
        · cases h
          exact ⟨by simp, by simp⟩
      · split at h
        · cases h
        · cases h
          refine ⟨by simp [rs0], fun l hl' w hw => ?_⟩
          split at hl'
          · simp at hl'
          · rw [List.mem_singleton.1 hl'] at hw
            obtain ⟨x, hx, rfl⟩ := List.mem_map.1 hw
            have := (cutG_len s []).2 x hx
            rw [mkStr_size]
            simp only [List.length_nil] at this
            omega
  split at h
  · split at h
    · cases h
    · cases h
    · split at h
      · cases h
      · cases h
        exact ⟨hr, by simp⟩
  split at h
  · cases h
  split at h
  · split at h
    · cases h
      refine ⟨by simp [rs0], fun l hl w hw => ?_⟩
      rw [List.mem_singleton.1 hl] at hw
      rcases List.mem_append.1 hw with hw | hw
      · exact hr w hw
      · rw [List.mem_singleton.1 hw]; exact htk _
    · cases h
      refine ⟨fun w hw => ?_, by simp⟩
      rcases List.mem_append.1 hw with hw | hw
      · exact hr w hw
      · rw [List.mem_singleton.1 hw]; exact htk _
  · cases h
theorem run_small : ∀ (n : Nat) {r : RS} {cs : List UInt8} {B : Nat}, cs.length < n → (∀ w ∈ r.words, w.size ≤ B) → cs.length ≤ B → ∀ l ∈ (runP r cs).out, ∀ w ∈ l, w.size ≤ B
  | 0, _, _, _, h, _, _ => by omega
  | n + 1, r, cs, B, hn, hr, hc => by
    cases h : stepP r cs with
    | stop => rw [run_stop h]; intro l hl; simp at hl
    | fault e => rw [run_fault h]; intro l hl; simp at hl
    | go r' k out =>
      have hk := step_go h
      obtain ⟨g1, g2⟩ := step_small hr hc h
      have ih := run_small n (r := r') (cs := cs.drop k) (B := B) (by rw [List.length_drop]; omega) g1 (by rw [List.length_drop]; omega)
      rw [run_go h]
      intro l hl
      rcases List.mem_append.1 hl with hl | hl
      · exact g2 l hl
      · exact ih l hl
def zT : Rep := .mk 0 ⟨#[]⟩ 0 []
def callP (cmds : List (List ByteArray)) (ts : List Rep) (i : Nat) : CallD := ⟨cmds.getD i [], ts.getD i zT, decide (i < ts.length)⟩
def callN (cmds : List (List ByteArray)) (ts : List Rep) : Nat := if cmds.length < ts.length then cmds.length + 1 else cmds.length
def callsP (cmds : List (List ByteArray)) (ts : List Rep) : List CallD := (List.range (callN cmds ts)).map (callP cmds ts)
theorem callsP_get {cmds : List (List ByteArray)} {ts : List Rep} {i : Nat} (h : i < callN cmds ts) : (callsP cmds ts)[i]? = some (callP cmds ts i) := by
  unfold callsP
  rw [List.getElem?_map, List.getElem?_range h]; rfl
theorem zRep_at5 {H : Array Obj} : RepAt H 5 zRep zT := RepAt.mono (d := 1) (e := 5) (leaf_at nil_size fit0) (by decide)
/-- the row of calls while it is made; all that they lead to is older -/
structure MakeI (wB w' : World) (p : Option Addr) (c : Nat) (rs : List RawC) (cmds : List (List ByteArray)) (ts : List Rep) (i : Nat) : Prop where
  ext : Ext wB w'
  own : Own w' wB.heap.size 53 eCall p c rs
  len : rs.length = i
  at_ : ∀ (j : Nat) r, rs[j]? = some r → CallAt wB.heap r (callP cmds ts j)
theorem MakeI.xt {wB w w' : World} {p : Option Addr} {c : Nat} {rs : List RawC} {cmds : List (List ByteArray)} {ts : List Rep} {i : Nat} (h : MakeI wB w p c rs cmds ts i) (hx : Ext w w') : MakeI wB w' p c rs cmds ts i := ⟨h.ext.trans hx, h.own.ext hx, h.len, h.at_⟩
theorem MakeI.push {wB w w1 w2 : World} {p p' : Option Addr} {c c' : Nat} {rs : List RawC} {cmds : List (List ByteArray)} {ts : List Rep} {i : Nat} {r : RawC} (h : MakeI wB w p c rs cmds ts i) (hx : Ext w w1) (hr : CallAt wB.heap r (callP cmds ts i)) (ha : App w1 w2 wB.heap.size 53 eCall p p' c' (rs ++ [r])) : MakeI wB w2 p' c' (rs ++ [r]) cmds ts (i + 1) := by
  refine ⟨(h.ext.trans hx).app ha (fun k hk => (h.own.ge k hk).1), ha.own, by simp [h.len], fun j x hj => ?_⟩
  by_cases hi : j < rs.length
  · rw [List.getElem?_append_left hi] at hj
    exact h.at_ j x hj
  · have e1 := get_lt hj
    rw [List.length_append, List.length_singleton] at e1
    have e2 : j = rs.length := by omega
    rw [e2, List.getElem?_append_right (Nat.le_refl _), Nat.sub_self] at hj
    obtain rfl : r = x := by simpa using hj
    rw [e2, h.len]
    exact hr
theorem MakeI.done {wB w' : World} {p : Option Addr} {c : Nat} {rs : List RawC} {cmds : List (List ByteArray)} {ts : List Rep} (h : MakeI wB w' p c rs cmds ts (callN cmds ts)) : CallsAt w'.heap p c rs (callsP cmds ts) := by
  have hl : (callsP cmds ts).length = callN cmds ts := by unfold callsP; simp
  refine ⟨h.own.sl, by rw [h.len, hl], fun i r x hr hx => ?_⟩
  have hi := get_lt hr
  rw [h.len] at hi
  rw [callsP_get hi] at hx
  injection hx with hx
  rw [← hx]
  exact (h.at_ i r hr).ext h.ext
theorem bldCall (q : Option Addr) (m d : Nat) (w : World) : (Instr.build 53 [(0, Value.slice q m d)].toArray).run Tryz.prog w = .ok (.agg (eCall.enc ⟨q, m, d, zRep, false⟩).toArray) w := by kernel_rfl
theorem getD_some {α : Type} {xs : List α} {i : Nat} {x z : α} (h : xs[i]? = some x) : xs.getD i z = x := by rw [List.getD_eq_getElem?_getD, h]; rfl
theorem getD_none {α : Type} {xs : List α} {i : Nat} {z : α} (h : xs.length ≤ i) : xs.getD i z = z := by rw [List.getD_eq_getElem?_getD, List.getElem?_eq_none h]; rfl
end Go.Proofs.YtipbakiecocioaaGreatDoor
