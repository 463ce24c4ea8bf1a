/- Texts of this proof laid together: EqStr, ReqRead1, ReqRead2, ReqRead3, ReqRead4, Tree, ReqRead5, ReqRead6, ReqRead7, ReqGood, ReqFeed. -/
import Derived.Test.YtipbakiecocioaaGreatDoorVM4
import Derived.Scope
/- Lists of strings compared. -/
namespace Go.Proofs.YtipbakiecocioaaGreatDoor
open Go.V
attribute [local irreducible] Blk Own hcell IntT SliceT PlainT AggT SizeT StrT FieldT ZeroT EqT ArrT
theorem same_words {p q : Option Addr} {c d : Nat} {xs ys : List ByteArray} {w : World} (hx : Sl w.heap eStr p c xs) (hy : Sl w.heap eStr q d ys) :
    Ctr Tryz.prog 19 [.slice p xs.length c, .slice q ys.length d] w (fun v w' => v = .bool (decide (xs = ys)) ∧ Ext w w') := by
  have b1 := hx.bound
  have b2 := hy.bound
  refine Ctr_of Tryz.func19 Tryz.ntmps19 rfl rfl rfl ?_
  repeat' (first | (apply G_on; exact rfl; first | ((first | apply G1_assign | apply G1_move); exact rfl; exact rfl) | (apply G1_len; exact T.s37; exact rfl; exact rfl) | (apply G1_neq; exact rfl; exact rfl; exact rfl) | (apply G1_lss; exact rfl; exact rfl; exact rfl) | (apply G1_indexAddrN; exact T.s37; exact rfl; exact rfl; (first | assumption | exact Sl.ok (by assumption) | exact (Own.sl (by assumption)).ok); omega; exact rfl) | (apply G1_indexAddr; exact T.s37; exact rfl; exact rfl; (first | assumption | exact Sl.ok (by assumption) | exact (Own.sl (by assumption)).ok); omega; omega; exact rfl) | (apply G1_loadB; exact T.p9; exact rfl; assumption; exact rfl; exact rfl) | (apply G1_loadBS; exact T.p9; exact rfl; assumption; exact rfl; (first | assumption | (focus (simp [exempt]; omega))); exact rfl) | (apply G1_loadFld; exact T.p9; exact rfl; assumption; assumption; exact rfl; exact rfl; exact rfl) | (apply G1_loadEl1; exact T.p9; exact rfl; assumption; assumption; exact rfl; exact rfl; exact rfl) | (apply G1_sneq; exact rfl; exact rfl; exact rfl) | (apply G1_add; exact rfl; exact rfl; omega; omega; exact rfl)) | apply G_nil | apply Post_next | apply W_seq | apply W_region | (apply W_cond_true; exact rfl) | (apply W_cond_false; exact rfl) | (apply W_cond_dec; exact rfl; all_goals (intro h; try (exfalso; omega))) | (apply W_cond; exact rfl; all_goals intro h) | (apply G_off; exact rfl; exact rfl) | ((fail_if_success (apply G_on; exact rfl)); apply G_split_dec; exact rfl; exact rfl; all_goals (intro h; try (exfalso; omega))) | ((fail_if_success (apply G_on; exact rfl)); apply G_split; exact rfl; exact rfl; all_goals intro h) | refine W_drawn 1 [] [0,1,2,3,4,5,6,7,8] mixed (by decide +kernel) ?_ | apply W_skip | apply W_exit | apply W_ret | apply W_block | apply Post_then_ret | apply Post_block_ret | apply Post_then_exit | apply Post_block_exit | (apply Post_block_other; exact rfl) | apply Post_block_normal)
  · refine Post_ret Tryz.results19 ⟨_, _, rfl, rfl, rfl⟩ ?_
    exact ⟨by rw [decide_eq_false (fun e => h (by rw [e]))]; rfl, (by repeat first | assumption | exact Ext.rfl' | apply Ext.drew | apply Ext.alloc | refine Ext.trans ?_ (by assumption))⟩
  · refine W_loop (ι := Nat) (fun k => [(0, .slice p xs.length c), (1, .slice q ys.length d), (5, .int .i64 k)]) (fun k w' => Ext w w' ∧ k ≤ xs.length ∧ xs.take k = ys.take k) (fun k => xs.length - k) 0 ⟨rfl, rfl, rfl, trivial⟩ ⟨(by repeat first | assumption | exact Ext.rfl' | apply Ext.drew | apply Ext.alloc | refine Ext.trans ?_ (by assumption)), by omega, by simp⟩ ?_
    intro k w1 ⟨he, hk, ht⟩
    have hx1 := hx.ext he
    have hy1 := hy.ext he
    by_cases hlt : k < xs.length
    · obtain ⟨a, ha⟩ := get_some hlt
      obtain ⟨b, hb⟩ := get_some (xs := ys) (k := k) (by omega)
      repeat' (first | (apply G_on; exact rfl; first | ((first | apply G1_assign | apply G1_move); exact rfl; exact rfl) | (apply G1_len; exact T.s37; exact rfl; exact rfl) | (apply G1_neq; exact rfl; exact rfl; exact rfl) | (apply G1_lss; exact rfl; exact rfl; exact rfl) | (apply G1_indexAddrN; exact T.s37; exact rfl; exact rfl; (first | assumption | exact Sl.ok (by assumption) | exact (Own.sl (by assumption)).ok); omega; exact rfl) | (apply G1_indexAddr; exact T.s37; exact rfl; exact rfl; (first | assumption | exact Sl.ok (by assumption) | exact (Own.sl (by assumption)).ok); omega; omega; exact rfl) | (apply G1_loadB; exact T.p9; exact rfl; assumption; exact rfl; exact rfl) | (apply G1_loadBS; exact T.p9; exact rfl; assumption; exact rfl; (first | assumption | (focus (simp [exempt]; omega))); exact rfl) | (apply G1_loadFld; exact T.p9; exact rfl; assumption; assumption; exact rfl; exact rfl; exact rfl) | (apply G1_loadEl1; exact T.p9; exact rfl; assumption; assumption; exact rfl; exact rfl; exact rfl) | (apply G1_sneq; exact rfl; exact rfl; exact rfl) | (apply G1_add; exact rfl; exact rfl; omega; omega; exact rfl)) | apply G_nil | apply Post_next | apply W_seq | apply W_region | (apply W_cond_true; exact rfl) | (apply W_cond_false; exact rfl) | (apply W_cond_dec; exact rfl; all_goals (intro h; try (exfalso; omega))) | (apply W_cond; exact rfl; all_goals intro h) | (apply G_off; exact rfl; exact rfl) | ((fail_if_success (apply G_on; exact rfl)); apply G_split_dec; exact rfl; exact rfl; all_goals (intro h; try (exfalso; omega))) | ((fail_if_success (apply G_on; exact rfl)); apply G_split; exact rfl; exact rfl; all_goals intro h) | refine W_drawn 1 [] [0,1,2,3,4,5,6,7,8] mixed (by decide +kernel) ?_ | apply W_skip | apply W_exit | apply W_ret | apply W_block | apply Post_then_ret | apply Post_block_ret | apply Post_then_exit | apply Post_block_exit | (apply Post_block_other; exact rfl) | apply Post_block_normal)
      · refine Post_ret Tryz.results19 ⟨_, _, rfl, rfl, rfl⟩ ?_
        exact ⟨by rw [decide_eq_false (ne_of_get ha hb h)]; rfl, (by repeat first | assumption | exact Ext.rfl' | apply Ext.drew | apply Ext.alloc | refine Ext.trans ?_ (by assumption))⟩
      · refine Post_round (k + 1) ⟨rfl, rfl, rfl, trivial⟩ ⟨(by repeat first | assumption | exact Ext.rfl' | apply Ext.drew | apply Ext.alloc | refine Ext.trans ?_ (by assumption)), by omega, ?_⟩ (by omega)
        rw [take_snoc ha, take_snoc hb, ht, show a = b by simpa using h]
    · repeat' (first | (apply G_on; exact rfl; first | ((first | apply G1_assign | apply G1_move); exact rfl; exact rfl) | (apply G1_len; exact T.s37; exact rfl; exact rfl) | (apply G1_neq; exact rfl; exact rfl; exact rfl) | (apply G1_lss; exact rfl; exact rfl; exact rfl) | (apply G1_indexAddrN; exact T.s37; exact rfl; exact rfl; (first | assumption | exact Sl.ok (by assumption) | exact (Own.sl (by assumption)).ok); omega; exact rfl) | (apply G1_indexAddr; exact T.s37; exact rfl; exact rfl; (first | assumption | exact Sl.ok (by assumption) | exact (Own.sl (by assumption)).ok); omega; omega; exact rfl) | (apply G1_loadB; exact T.p9; exact rfl; assumption; exact rfl; exact rfl) | (apply G1_loadBS; exact T.p9; exact rfl; assumption; exact rfl; (first | assumption | (focus (simp [exempt]; omega))); exact rfl) | (apply G1_loadFld; exact T.p9; exact rfl; assumption; assumption; exact rfl; exact rfl; exact rfl) | (apply G1_loadEl1; exact T.p9; exact rfl; assumption; assumption; exact rfl; exact rfl; exact rfl) | (apply G1_sneq; exact rfl; exact rfl; exact rfl) | (apply G1_add; exact rfl; exact rfl; omega; omega; exact rfl)) | apply G_nil | apply Post_next | apply W_seq | apply W_region | (apply W_cond_true; exact rfl) | (apply W_cond_false; exact rfl) | (apply W_cond_dec; exact rfl; all_goals (intro h; try (exfalso; omega))) | (apply W_cond; exact rfl; all_goals intro h) | (apply G_off; exact rfl; exact rfl) | ((fail_if_success (apply G_on; exact rfl)); apply G_split_dec; exact rfl; exact rfl; all_goals (intro h; try (exfalso; omega))) | ((fail_if_success (apply G_on; exact rfl)); apply G_split; exact rfl; exact rfl; all_goals intro h) | refine W_drawn 1 [] [0,1,2,3,4,5,6,7,8] mixed (by decide +kernel) ?_ | apply W_skip | apply W_exit | apply W_ret | apply W_block | apply Post_then_ret | apply Post_block_ret | apply Post_then_exit | apply Post_block_exit | (apply Post_block_other; exact rfl) | apply Post_block_normal)
      refine Post_ret Tryz.results19 ⟨_, _, rfl, rfl, rfl⟩ ?_
      exact ⟨by rw [decide_eq_true (eq_of_take hk ht (by omega) (by omega))]; rfl, (by repeat first | assumption | exact Ext.rfl' | apply Ext.drew | apply Ext.alloc | refine Ext.trans ?_ (by assumption))⟩

end Go.Proofs.YtipbakiecocioaaGreatDoor

/- Requests: the reader in memory; its line and number; the walks. -/
namespace Go.Proofs.YtipbakiecocioaaGreatDoor
open Go.V
attribute [local irreducible] Blk Own hcell IntT SliceT PlainT AggT SizeT StrT FieldT ZeroT EqT ArrT



theorem ibs0 : Extern.findNext Tryz.f114 = none := by kernel_rfl
theorem ibs1 : Extern.find Tryz.f114 = some Extern.BytealgIndexByte.indexByte := by kernel_rfl
theorem bytesIB_spec {p : Option Addr} {c : Nat} {bs : List UInt8} {i : Int} {w : World} (hC : Sl w.heap eByte p c bs) :
    Ctr Tryz.prog 84 [.slice p bs.length c, .int .u8 i] w (fun v w' => v = .int .i64 (fst bs i.toNat.toUInt8) ∧ Ext w w') := by
  refine Ctr_of Tryz.func84 Tryz.ntmps84 rfl rfl rfl ?_
  repeat' (first | (apply G_on; exact rfl; first | ((first | apply G1_assign | apply G1_move); exact rfl; exact rfl) | (apply G1_indexByteL (bs := bs); exact Tryz.func114; exact rfl; exact rfl; exact ibs0; exact ibs1; exact rfl; exact rfl; exact rfl; exact hC; exact rfl; exact rfl)) | apply G_nil | apply Post_next | apply W_seq | apply W_region | apply W_ret)
  refine Post_ret Tryz.results84 ⟨_, _, rfl, rfl, rfl⟩ ?_
  exact ⟨rfl, (by repeat first | assumption | exact Ext.rfl' | apply Ext.drew | apply Ext.alloc | refine Ext.trans ?_ (by assumption))⟩
/-- a reader in memory: the bytes that came, how many of them are done, the state, the error -/
structure RdSt (w0 w : World) (ar B : Nat) (p : Option Addr) (c : Nat) (inp : List UInt8) (a : Nat) (pw : Option Addr) (cw : Nat) (r : RS) (ft : Int) : Prop where
  blk : Blk w.heap ar 109 [.slice p inp.length c, .int .i64 (a : Int), .int .i64 (r.left : Int), .int .i64 r.size, .slice pw r.words.length cw, .int .i64 (r.held : Int), .int .i64 ft]
  row : Own w B 5 eByte p c inp
  wds : Own w B 9 eStr pw cw r.words
  ext : Ext w0 w
  h0 : w0.heap.size ≤ ar
  lt : ar < B
  hB : B ≤ w.heap.size
  la : a ≤ inp.length
theorem RdSt.xt {w0 w w' : World} {ar B : Nat} {p : Option Addr} {c : Nat} {inp : List UInt8} {a : Nat} {pw : Option Addr} {cw : Nat} {r : RS} {ft : Int} (h : RdSt w0 w ar B p c inp a pw cw r ft) (hx : Ext w w') : RdSt w0 w' ar B p c inp a pw cw r ft :=
  ⟨h.blk.ext hx, h.row.ext hx, h.wds.ext hx, h.ext.trans hx, h.h0, h.lt, Nat.le_trans h.hB hx.size, h.la⟩
/-- the reader's own cells are turned -/
theorem RdSt.set {w0 w w' : World} {ar B : Nat} {p : Option Addr} {c : Nat} {inp : List UInt8} {a a' : Nat} {pw : Option Addr} {cw : Nat} {r r' : RS} {ft ft' : Int} (h : RdSt w0 w ar B p c inp a pw cw r ft) (hg : w.grownBy w' (some ar))
    (hb : Blk w'.heap ar 109 [.slice p inp.length c, .int .i64 (a' : Int), .int .i64 (r'.left : Int), .int .i64 r'.size, .slice pw r'.words.length cw, .int .i64 (r'.held : Int), .int .i64 ft']) (hw : r'.words = r.words) (hl : a' ≤ inp.length) : RdSt w0 w' ar B p c inp a' pw cw r' ft' :=
  ⟨hb, h.row.kept hg (fun x hx e => by injection e with e; have := (h.row.ge x.block (by rw [hx]; rfl)).1; have := h.lt; omega), by rw [hw]; exact h.wds.kept hg (fun x hx e => by injection e with e; have := (h.wds.ge x.block (by rw [hx]; rfl)).1; have := h.lt; omega), h.ext.own hg (fun k hk => by injection hk with hk; have := h.h0; omega), h.h0, h.lt, Nat.le_trans h.hB hg.size, hl⟩
theorem nl_take (cs : List UInt8) : fst (cs.take (min cs.length 1026)) 10 = if nlAt cs < cs.length ∧ nlAt cs < 1026 then (nlAt cs : Int) else -1 := by
  rw [fst_ch, ← nl_ch]
  have hl : (cs.take (min cs.length 1026)).length = min cs.length 1026 := by rw [List.length_take]; omega
  rw [hl]
  have hsplit : cs = cs.take (min cs.length 1026) ++ cs.drop (min cs.length 1026) := (List.take_append_drop _ _).symm
  by_cases h : nlAt (cs.take (min cs.length 1026)) < min cs.length 1026
  · have h1 := nlAt_app (cs.drop (min cs.length 1026)) (l := cs.take (min cs.length 1026)) (by rw [hl]; exact h)
    rw [← hsplit] at h1
    rw [if_pos h, if_pos (by rw [h1]; omega), h1]
  · have h0 := nlAt_le (cs.take (min cs.length 1026))
    have h1 := nlAt_ge (cs.drop (min cs.length 1026)) (l := cs.take (min cs.length 1026)) (by omega)
    rw [← hsplit, hl] at h1
    rw [if_neg h, if_neg (by omega)]
/-- what a part of the reader answers -/
def LineA (w0 w : World) (ar B : Nat) (p : Option Addr) (c : Nat) (inp : List UInt8) (a : Nat) (pw : Option Addr) (cw : Nat) (r : RS) (x : LineR) (v : Value) (w' : World) : Prop :=
  FrS (fun q => q = ar) w w' ∧ match x with
  | .more => v = .tuple #[.string ⟨#[]⟩, .bool false] ∧ RdSt w0 w' ar B p c inp a pw cw r 0
  | .err e => v = .tuple #[.string ⟨#[]⟩, .bool false] ∧ RdSt w0 w' ar B p c inp a pw cw r e
  | .ok s k => v = .tuple #[.string (mkStr s), .bool true] ∧ RdSt w0 w' ar B p c inp (a + k) pw cw r 0
set_option maxHeartbeats 2000000 in
theorem line_spec {w0 : World} {ar B : Nat} {p : Option Addr} {c : Nat} {inp : List UInt8} {a : Nat} {pw : Option Addr} {cw : Nat} {r : RS} {w : World} (hR : RdSt w0 w ar B p c inp a pw cw r 0) (hN : inp.length ≤ 1000000000) :
    Ctr Tryz.prog 52 [.pointer (some (adr (bx ar) 0))] w (LineA w0 w ar B p c inp a pw cw r (lineP (inp.drop a))) := by
  have hC := hR.row.sl
  have hok := hC.ok
  have hle := hok.le
  have hla := hR.la
  have hbk := hR.blk
  obtain ⟨cs, hcs⟩ : ∃ cs, inp.drop a = cs := ⟨_, rfl⟩
  have hcl : cs.length = inp.length - a := by rw [← hcs, List.length_drop]
  have hD : Sl w.heap eByte (subp p c a 1) (c - a) cs := by rw [← hcs]; exact hC.drop (by omega)
  obtain ⟨m, hm⟩ : ∃ m, m = min cs.length 1026 := ⟨_, rfl⟩
  have hib := fun w' (hx : Ext w w') => bytesIB_spec (w := w') (i := 10) ((hD.take m).ext hx)
  have hml : (cs.take m).length = m := by rw [List.length_take]; omega
  have hfi : fst (cs.take m) (10 : Int).toNat.toUInt8 = if nlAt cs < cs.length ∧ nlAt cs < 1026 then (nlAt cs : Int) else -1 := by rw [hm]; exact nl_take cs
  rw [hml, hfi] at hib
  rw [hcs]
  have hlp : lineP cs = if nlAt cs < cs.length ∧ nlAt cs < 1026 then (if nlAt cs = 0 ∨ cs.getD (nlAt cs - 1) 0 ≠ 13 then .err 10 else .ok (cs.take (nlAt cs - 1)) (nlAt cs + 1)) else if cs.length < 1026 then .more else .err 12 := rfl
  obtain ⟨q, hq⟩ : ∃ q, nlAt cs = q := ⟨_, rfl⟩
  rw [hq] at hlp hib
  have hfr : ∀ w1 w2, Ext w w1 → w1.grownBy w2 (some ar) → FrS (fun q => q = ar) w w2 := fun w1 w2 hx hg => (FrS.of_ext hx).trans (FrS.of_grown hg (fun k hk => by injection hk with hk; exact hk.symm)) (fun _ _ h => h)
  have hokD : Okp (subp p c a 1) (inp.length - a) (c - a) := hcl ▸ hD.ok
  refine Ctr_of Tryz.func52 Tryz.ntmps52 rfl rfl rfl ?_
  by_cases hf : q < cs.length ∧ q < 1026
  · rw [if_pos hf] at hlp
    simp only [if_pos hf] at hib
    by_cases hq0 : q = 0
    · rw [if_pos (.inl hq0)] at hlp
      repeat' (first | (apply W_cond_dec; exact rfl; all_goals (intro h; try (exfalso; omega))) | (apply G_on; exact rfl; first | ((first | apply G1_assign | apply G1_move | apply G1_nilCheck); exact rfl; exact rfl) | (apply G1_sliceLoJ (q := a); exact T.s22; exact rfl; exact rfl; exact rfl; exact hok; omega; exact rfl) | (apply G1_sliceHiJ (q := m); exact T.s22; exact rfl; exact rfl; omega; omega; exact rfl) | (apply G1_call (f := 84); exact rfl; exact rfl; exact rfl; exact hib _ (by repeat first | assumption | exact Ext.rfl' | apply Ext.drew | apply Ext.alloc | refine Ext.trans ?_ (by assumption)); rintro _ w2 ⟨rfl, hx2⟩; refine ⟨(by first | exact .inl rfl | exact .inr (by assumption)), ?_⟩; (first | replace hbk := hbk.ext hx2 | replace hbk := hbk.ext ((Ext.drew Ext.rfl').trans hx2))) | (apply G1_fieldAddr; (first | exact T.f109_0 | exact T.f109_1 | exact T.f109_6); exact rfl; exact rfl) | (apply G1_loadB; (first | exact T.p22 | exact T.p3); exact rfl; assumption; exact rfl; exact rfl) | (apply G1_len; exact T.s22; exact rfl; exact rfl) | ((first | apply G1_min | apply G1_lss | apply G1_eql); exact rfl; exact rfl; exact rfl) | (apply G1_pick_t; exact rfl; exact rfl; exact rfl) | (apply G1_pick_f; exact rfl; exact rfl; exact rfl)) | apply G_nil | apply Post_next | apply W_seq | apply W_region | (apply W_cond_true; exact rfl) | (apply W_cond_false; exact rfl) | (apply G_off; exact rfl; exact rfl) | ((fail_if_success (apply G_on; exact rfl)); apply G_split_dec; exact rfl; exact rfl; all_goals (intro h; try (exfalso; omega))) | refine W_drawn 1 [] [0,1,2,3,4,5,6,7,8,9] mixed (by decide +kernel) ?_ | apply W_block)
      all_goals try (exfalso; omega)
      apply G_on; exact rfl; apply G1_storeB; exact T.z44; exact rfl; exact rfl; exact hbk; exact rfl; exact rfl; (first | exact Nat.le_of_ble_eq_true rfl | (focus (simp [Value.cells]; done))); (first | exact Enc.one _ _ | (focus (simp [Value.oneCell']; done)) | (focus (simp [Value.cells, Value.oneCell']; done)) | exact Enc.oneAgg _ _); exact rfl; (first | exact .inl rfl | exact .inr (by simp [exempt])); exact rfl; intro w3 hA3 hg3 hs3
      replace hA3 : Blk w3.heap ar 109 [.slice p inp.length c, .int .i64 (a : Int), .int .i64 (r.left : Int), .int .i64 r.size, .slice pw r.words.length cw, .int .i64 (r.held : Int), .int .i64 10] := hA3
      have h3 := (hR.xt (show Ext w w2 from (by repeat first | assumption | exact Ext.rfl' | apply Ext.drew | apply Ext.alloc | refine Ext.trans ?_ (by assumption)))).set hg3 hA3 rfl hla
      repeat' (first | (apply G_on; exact rfl; (apply G1_assign; exact rfl; exact rfl)) | apply G_nil | apply Post_next | apply W_seq | apply W_region | apply W_ret | apply Post_then_ret | apply Post_block_ret)
      refine Post_ret Tryz.results52 ⟨_, _, rfl, rfl, _, _, rfl, rfl, rfl⟩ ?_
      unfold LineA
      rw [hlp]
      exact ⟨hfr w2 w3 (by repeat first | assumption | exact Ext.rfl' | apply Ext.drew | apply Ext.alloc | refine Ext.trans ?_ (by assumption)) hg3, rfl, h3⟩
    · obtain ⟨y, hy⟩ := get_some (xs := cs) (k := q - 1) (by omega)
      have hcy : cs.getD (q - 1) 0 = y := by rw [List.getD_eq_getElem?_getD, hy]; rfl
      rw [hcy] at hlp
      by_cases h13 : y = 13
      · rw [if_neg (fun h => h.elim hq0 (fun h => h h13))] at hlp
        have hyi : (y.toNat : Int) = 13 := by rw [h13]; rfl
        repeat' (first | (apply W_cond_dec; exact rfl; all_goals (intro h; try (exfalso; omega))) | (apply G_on; exact rfl; first | ((first | apply G1_assign | apply G1_move | apply G1_nilCheck); exact rfl; exact rfl) | (apply G1_sliceLoJ (q := a); exact T.s22; exact rfl; exact rfl; exact rfl; exact hok; omega; exact rfl) | (apply G1_sliceHiJ (q := m); exact T.s22; exact rfl; exact rfl; omega; omega; exact rfl) | (apply G1_call (f := 84); exact rfl; exact rfl; exact rfl; exact hib _ (by repeat first | assumption | exact Ext.rfl' | apply Ext.drew | apply Ext.alloc | refine Ext.trans ?_ (by assumption)); rintro _ w2 ⟨rfl, hx2⟩; refine ⟨(by first | exact .inl rfl | exact .inr (by assumption)), ?_⟩; (first | replace hbk := hbk.ext hx2 | replace hbk := hbk.ext ((Ext.drew Ext.rfl').trans hx2))) | (apply G1_indexAddrJ (q := q - 1); exact T.s22; exact rfl; exact rfl; omega; exact hokD; omega; exact rfl) | (apply G1_loadEl1 (q := q - 1) (e := eByte); exact T.p5; exact rfl; exact hD.ext (by repeat first | assumption | exact Ext.rfl' | apply Ext.drew | apply Ext.alloc | refine Ext.trans ?_ (by assumption)); exact hy; exact rfl; exact rfl; exact rfl) | (apply G1_fieldAddr; (first | exact T.f109_0 | exact T.f109_1); exact rfl; exact rfl) | (apply G1_loadB; (first | exact T.p22 | exact T.p3); exact rfl; assumption; exact rfl; exact rfl) | (apply G1_len; exact T.s22; exact rfl; exact rfl) | ((first | apply G1_min | apply G1_lss | apply G1_eql | apply G1_neq); exact rfl; exact rfl; exact rfl) | (apply G1_pick_f; exact rfl; exact rfl; exact rfl) | (apply G1_sub; exact rfl; exact rfl; omega; omega; exact rfl) | (apply G1_add; exact rfl; exact rfl; omega; omega; exact rfl)) | apply G_nil | apply Post_next | apply W_seq | apply W_region | (apply W_cond_false; exact rfl) | (apply G_off; exact rfl; exact rfl) | ((fail_if_success (apply G_on; exact rfl)); apply G_split_dec; exact rfl; exact rfl; all_goals (intro h; try (exfalso; omega))) | refine W_drawn 1 [] [0,1,2,3,4,5,6,7,8,9] mixed (by decide +kernel) ?_ | apply W_skip | apply W_block | apply Post_block_normal)
        all_goals try (exfalso; omega)
        apply G_on; exact rfl; apply G1_storeB; exact T.z3; exact rfl; exact rfl; exact hbk; exact rfl; exact rfl; (first | exact Nat.le_of_ble_eq_true rfl | (focus (simp [Value.cells]; done))); (first | exact Enc.one _ _ | (focus (simp [Value.oneCell']; done)) | (focus (simp [Value.cells, Value.oneCell']; done)) | exact Enc.oneAgg _ _); exact rfl; (first | exact .inl rfl | exact .inr (by simp [exempt])); exact rfl; intro w3 hA3 hg3 hs3
        replace hA3 : Blk w3.heap ar 109 [.slice p inp.length c, .int .i64 ((a : Int) + ((q : Int) + 1)), .int .i64 (r.left : Int), .int .i64 r.size, .slice pw r.words.length cw, .int .i64 (r.held : Int), .int .i64 0] := hA3
        rw [show (a : Int) + ((q : Int) + 1) = ((a + (q + 1) : Nat) : Int) by omega] at hA3
        have hx02 : Ext w w2 := (by repeat first | assumption | exact Ext.rfl' | apply Ext.drew | apply Ext.alloc | refine Ext.trans ?_ (by assumption))
        have h3 := (hR.xt hx02).set hg3 hA3 rfl (by omega)
        have hS3 : Sl w3.heap eByte (subp p c a 1) (c - a) (cs.take (q - 1)) := by
          have h1 := (h3.row.sl.drop (l := a) (by omega)).take (q - 1)
          rw [hcs] at h1
          exact h1
        repeat' (first | (apply G_on; exact rfl; first | ((first | apply G1_assign | apply G1_move); exact rfl; exact rfl) | (apply G1_sliceHiJ (q := q - 1); exact T.s22; exact rfl; exact rfl; omega; omega; exact rfl) | (apply G1_toStringL (bs := cs.take (q - 1)); exact T.s22; exact T.i5; exact T.str9; exact rfl; (rw [List.length_take]; omega); exact hS3; exact rfl) | (apply G1_sub; exact rfl; exact rfl; omega; omega; exact rfl)) | apply G_nil | apply Post_next | apply W_seq | apply W_region | apply W_ret)
        refine Post_ret Tryz.results52 ⟨_, _, rfl, rfl, _, _, rfl, rfl, rfl⟩ ?_
        unfold LineA
        rw [hlp]
        exact ⟨hfr w2 w3 hx02 hg3, rfl, h3⟩
      · rw [if_pos (.inr h13)] at hlp
        have hyi : ¬ (y.toNat : Int) = 13 := u8_ne (c := 13) h13
        repeat' (first | (apply W_cond_dec; exact rfl; all_goals (intro h; try (exfalso; omega))) | (apply G_on; exact rfl; first | ((first | apply G1_assign | apply G1_move | apply G1_nilCheck); exact rfl; exact rfl) | (apply G1_sliceLoJ (q := a); exact T.s22; exact rfl; exact rfl; exact rfl; exact hok; omega; exact rfl) | (apply G1_sliceHiJ (q := m); exact T.s22; exact rfl; exact rfl; omega; omega; exact rfl) | (apply G1_call (f := 84); exact rfl; exact rfl; exact rfl; exact hib _ (by repeat first | assumption | exact Ext.rfl' | apply Ext.drew | apply Ext.alloc | refine Ext.trans ?_ (by assumption)); rintro _ w2 ⟨rfl, hx2⟩; refine ⟨(by first | exact .inl rfl | exact .inr (by assumption)), ?_⟩; (first | replace hbk := hbk.ext hx2 | replace hbk := hbk.ext ((Ext.drew Ext.rfl').trans hx2))) | (apply G1_indexAddrJ (q := q - 1); exact T.s22; exact rfl; exact rfl; omega; exact hokD; omega; exact rfl) | (apply G1_loadEl1 (q := q - 1) (e := eByte); exact T.p5; exact rfl; exact hD.ext (by repeat first | assumption | exact Ext.rfl' | apply Ext.drew | apply Ext.alloc | refine Ext.trans ?_ (by assumption)); exact hy; exact rfl; exact rfl; exact rfl) | (apply G1_fieldAddr; (first | exact T.f109_0 | exact T.f109_1 | exact T.f109_6); exact rfl; exact rfl) | (apply G1_loadB; (first | exact T.p22 | exact T.p3); exact rfl; assumption; exact rfl; exact rfl) | (apply G1_len; exact T.s22; exact rfl; exact rfl) | ((first | apply G1_min | apply G1_lss | apply G1_eql | apply G1_neq); exact rfl; exact rfl; exact rfl) | (apply G1_pick_f; exact rfl; exact rfl; exact rfl) | (apply G1_sub; exact rfl; exact rfl; omega; omega; exact rfl)) | apply G_nil | apply Post_next | apply W_seq | apply W_region | (apply W_cond_false; exact rfl) | (apply G_off; exact rfl; exact rfl) | ((fail_if_success (apply G_on; exact rfl)); apply G_split_dec; exact rfl; exact rfl; all_goals (intro h; try (exfalso; omega))) | refine W_drawn 1 [] [0,1,2,3,4,5,6,7,8,9] mixed (by decide +kernel) ?_ | apply W_block)
        all_goals try (exfalso; omega)
        apply G_on; exact rfl; apply G1_storeB; exact T.z44; exact rfl; exact rfl; exact hbk; exact rfl; exact rfl; (first | exact Nat.le_of_ble_eq_true rfl | (focus (simp [Value.cells]; done))); (first | exact Enc.one _ _ | (focus (simp [Value.oneCell']; done)) | (focus (simp [Value.cells, Value.oneCell']; done)) | exact Enc.oneAgg _ _); exact rfl; (first | exact .inl rfl | exact .inr (by simp [exempt])); exact rfl; intro w3 hA3 hg3 hs3
        replace hA3 : Blk w3.heap ar 109 [.slice p inp.length c, .int .i64 (a : Int), .int .i64 (r.left : Int), .int .i64 r.size, .slice pw r.words.length cw, .int .i64 (r.held : Int), .int .i64 10] := hA3
        have h3 := (hR.xt (show Ext w w2 from (by repeat first | assumption | exact Ext.rfl' | apply Ext.drew | apply Ext.alloc | refine Ext.trans ?_ (by assumption)))).set hg3 hA3 rfl hla
        repeat' (first | (apply G_on; exact rfl; (apply G1_assign; exact rfl; exact rfl)) | apply G_nil | apply Post_next | apply W_seq | apply W_region | apply W_ret | apply Post_then_ret | apply Post_block_ret)
        refine Post_ret Tryz.results52 ⟨_, _, rfl, rfl, _, _, rfl, rfl, rfl⟩ ?_
        unfold LineA
        rw [hlp]
        exact ⟨hfr w2 w3 (by repeat first | assumption | exact Ext.rfl' | apply Ext.drew | apply Ext.alloc | refine Ext.trans ?_ (by assumption)) hg3, rfl, h3⟩
  · rw [if_neg hf] at hlp
    simp only [if_neg hf] at hib
    by_cases h26 : cs.length < 1026
    · rw [if_pos h26] at hlp
      repeat' (first | (apply W_cond_dec; exact rfl; all_goals (intro h; try (exfalso; omega))) | (apply G_on; exact rfl; first | ((first | apply G1_assign | apply G1_move | apply G1_nilCheck); exact rfl; exact rfl) | (apply G1_sliceLoJ (q := a); exact T.s22; exact rfl; exact rfl; exact rfl; exact hok; omega; exact rfl) | (apply G1_sliceHiJ (q := m); exact T.s22; exact rfl; exact rfl; omega; omega; exact rfl) | (apply G1_call (f := 84); exact rfl; exact rfl; exact rfl; exact hib _ (by repeat first | assumption | exact Ext.rfl' | apply Ext.drew | apply Ext.alloc | refine Ext.trans ?_ (by assumption)); rintro _ w2 ⟨rfl, hx2⟩; refine ⟨(by first | exact .inl rfl | exact .inr (by assumption)), ?_⟩; (first | replace hbk := hbk.ext hx2 | replace hbk := hbk.ext ((Ext.drew Ext.rfl').trans hx2))) | (apply G1_fieldAddr; (first | exact T.f109_0 | exact T.f109_1); exact rfl; exact rfl) | (apply G1_loadB; (first | exact T.p22 | exact T.p3); exact rfl; assumption; exact rfl; exact rfl) | (apply G1_len; exact T.s22; exact rfl; exact rfl) | ((first | apply G1_min | apply G1_lss); exact rfl; exact rfl; exact rfl) | (apply G1_pick_t; exact rfl; exact rfl; exact rfl)) | apply G_nil | apply Post_next | apply W_seq | apply W_region | refine W_drawn 1 [] [0,1,2,3,4,5,6,7,8,9] mixed (by decide +kernel) ?_ | apply W_ret | apply W_block | apply Post_then_ret | apply Post_block_ret)
      all_goals try (exfalso; omega)
      refine Post_ret Tryz.results52 ⟨_, _, rfl, rfl, _, _, rfl, rfl, rfl⟩ ?_
      unfold LineA
      rw [hlp]
      have hx02 : Ext w w2 := (by repeat first | assumption | exact Ext.rfl' | apply Ext.drew | apply Ext.alloc | refine Ext.trans ?_ (by assumption))
      exact ⟨FrS.of_ext hx02, rfl, hR.xt hx02⟩
    · rw [if_neg h26] at hlp
      repeat' (first | (apply W_cond_dec; exact rfl; all_goals (intro h; try (exfalso; omega))) | (apply G_on; exact rfl; first | ((first | apply G1_assign | apply G1_move | apply G1_nilCheck); exact rfl; exact rfl) | (apply G1_sliceLoJ (q := a); exact T.s22; exact rfl; exact rfl; exact rfl; exact hok; omega; exact rfl) | (apply G1_sliceHiJ (q := m); exact T.s22; exact rfl; exact rfl; omega; omega; exact rfl) | (apply G1_call (f := 84); exact rfl; exact rfl; exact rfl; exact hib _ (by repeat first | assumption | exact Ext.rfl' | apply Ext.drew | apply Ext.alloc | refine Ext.trans ?_ (by assumption)); rintro _ w2 ⟨rfl, hx2⟩; refine ⟨(by first | exact .inl rfl | exact .inr (by assumption)), ?_⟩; (first | replace hbk := hbk.ext hx2 | replace hbk := hbk.ext ((Ext.drew Ext.rfl').trans hx2))) | (apply G1_fieldAddr; (first | exact T.f109_0 | exact T.f109_1 | exact T.f109_6); exact rfl; exact rfl) | (apply G1_loadB; (first | exact T.p22 | exact T.p3); exact rfl; assumption; exact rfl; exact rfl) | (apply G1_len; exact T.s22; exact rfl; exact rfl) | ((first | apply G1_min | apply G1_lss); exact rfl; exact rfl; exact rfl) | (apply G1_pick_t; exact rfl; exact rfl; exact rfl)) | apply G_nil | apply Post_next | apply W_seq | apply W_region | refine W_drawn 1 [] [0,1,2,3,4,5,6,7,8,9] mixed (by decide +kernel) ?_ | apply W_block)
      all_goals try (exfalso; omega)
      apply G_on; exact rfl; apply G1_storeB; exact T.z44; exact rfl; exact rfl; exact hbk; exact rfl; exact rfl; (first | exact Nat.le_of_ble_eq_true rfl | (focus (simp [Value.cells]; done))); (first | exact Enc.one _ _ | (focus (simp [Value.oneCell']; done)) | (focus (simp [Value.cells, Value.oneCell']; done)) | exact Enc.oneAgg _ _); exact rfl; (first | exact .inl rfl | exact .inr (by simp [exempt])); exact rfl; intro w3 hA3 hg3 hs3
      replace hA3 : Blk w3.heap ar 109 [.slice p inp.length c, .int .i64 (a : Int), .int .i64 (r.left : Int), .int .i64 r.size, .slice pw r.words.length cw, .int .i64 (r.held : Int), .int .i64 12] := hA3
      have h3 := (hR.xt (show Ext w w2 from (by repeat first | assumption | exact Ext.rfl' | apply Ext.drew | apply Ext.alloc | refine Ext.trans ?_ (by assumption)))).set hg3 hA3 rfl hla
      repeat' (first | (apply G_on; exact rfl; (apply G1_assign; exact rfl; exact rfl)) | apply G_nil | apply Post_next | apply W_seq | apply W_region | apply W_ret | apply Post_then_ret | apply Post_block_ret)
      refine Post_ret Tryz.results52 ⟨_, _, rfl, rfl, _, _, rfl, rfl, rfl⟩ ?_
      unfold LineA
      rw [hlp]
      exact ⟨hfr w2 w3 (by repeat first | assumption | exact Ext.rfl' | apply Ext.drew | apply Ext.alloc | refine Ext.trans ?_ (by assumption)) hg3, rfl, h3⟩
end Go.Proofs.YtipbakiecocioaaGreatDoor

/- Requests: the reader's number and word; the walks. -/
namespace Go.Proofs.YtipbakiecocioaaGreatDoor
open Go.V
attribute [local irreducible] Blk Own hcell IntT SliceT PlainT AggT SizeT StrT FieldT ZeroT EqT ArrT
/-- how a reader's part leaves it: only its own cells are turned -/
def NumA (w0 w : World) (ar B : Nat) (p : Option Addr) (c : Nat) (inp : List UInt8) (a : Nat) (pw : Option Addr) (cw : Nat) (r : RS) (x : Except Int Int) (v : Value) (w' : World) : Prop :=
  FrS (fun q => q = ar) w w' ∧ match x with
  | .error e => v = .tuple #[.int .i64 0, .bool false] ∧ RdSt w0 w' ar B p c inp a pw cw r e
  | .ok n => v = .tuple #[.int .i64 n, .bool true] ∧ RdSt w0 w' ar B p c inp a pw cw r 0
theorem fr_ar {w w1 w2 : World} {ar : Nat} (h : FrS (fun q => q = ar) w w1) (hg : w1.grownBy w2 (some ar)) : FrS (fun q => q = ar) w w2 :=
  h.trans (FrS.of_grown hg (fun k hk => by injection hk with hk; exact hk.symm)) (fun _ _ h => h)

theorem number_spec {w0 : World} {ar B : Nat} {p : Option Addr} {c : Nat} {inp : List UInt8} {a : Nat} {pw : Option Addr} {cw : Nat} {r : RS} {w : World} {s : List UInt8} {m : UInt8} {mi lo hi : Int} (hR : RdSt w0 w ar B p c inp a pw cw r 0) (hm : mi = (m.toNat : Int)) (hs : s.length ≤ 1000000000) (hT : Pow w0) (hE : Errs w0) :
    Ctr Tryz.prog 54 [.pointer (some (adr (bx ar) 0)), .string (mkStr s), .int .u8 mi, .int .i64 lo, .int .i64 hi] w (NumA w0 w ar B p c inp a pw cw r (numP s m lo hi)) := by
  subst hm
  have hsz := mkStr_size s
  have hbk := hR.blk
  have hla := hR.la
  replace hT : Pow w := TabIs.ext hT hR.ext
  replace hE := hE.ext hR.ext
  refine Ctr_of Tryz.func54 Tryz.ntmps54 rfl rfl rfl ?_
  cases s with
  | nil =>
    have hv : numP [] m lo hi = .error 10 := rfl
    have hee : mkStr [] = ⟨#[]⟩ := rfl
    repeat' (first | (apply G_on; exact rfl; first | ((first | apply G1_assign | apply G1_move | apply G1_nilCheck); exact rfl; exact rfl) | (apply G1_seql; exact rfl; exact rfl; exact rfl) | (apply G1_pick_t; exact rfl; exact rfl; exact rfl) | (apply G1_fieldAddr; exact T.f109_6; exact rfl; exact rfl)) | apply G_nil | apply Post_next | apply W_seq | apply W_region | (apply W_cond_true; exact rfl) | (apply G_off; exact rfl; exact rfl))
    all_goals try (exfalso; exact absurd hee (by assumption))
    apply G_on; exact rfl; apply G1_storeB; exact T.z44; exact rfl; exact rfl; exact hbk; exact rfl; exact rfl; (first | exact Nat.le_of_ble_eq_true rfl | (focus (simp [Value.cells]; done))); (first | exact Enc.one _ _ | (focus (simp [Value.oneCell']; done)) | (focus (simp [Value.cells, Value.oneCell']; done)) | exact Enc.oneAgg _ _); exact rfl; (first | exact .inl rfl | exact .inr (by simp [exempt])); exact rfl; intro w3 hA3 hg3 hs3
    replace hA3 : Blk w3.heap ar 109 [.slice p inp.length c, .int .i64 (a : Int), .int .i64 (r.left : Int), .int .i64 r.size, .slice pw r.words.length cw, .int .i64 (r.held : Int), .int .i64 10] := hA3
    have h3 := (hR.xt (show Ext w w from (by repeat first | assumption | exact Ext.rfl' | apply Ext.drew | apply Ext.alloc | refine Ext.trans ?_ (by assumption)))).set hg3 hA3 rfl hla
    repeat' (first | (apply G_on; exact rfl; (apply G1_assign; exact rfl; exact rfl)) | apply G_nil | apply Post_next | apply W_seq | apply W_region | apply W_ret | apply Post_then_ret)
    refine Post_ret Tryz.results54 ⟨_, _, rfl, rfl, _, _, rfl, rfl, rfl⟩ ?_
    unfold NumA
    rw [hv]
    exact ⟨fr_ar (FrS.of_ext (by repeat first | assumption | exact Ext.rfl' | apply Ext.drew | apply Ext.alloc | refine Ext.trans ?_ (by assumption))) hg3, rfl, h3⟩
  | cons ch t =>
    have hb0 : ((bget (mkStr (ch :: t)) 0).toNat : Int) = (ch.toNat : Int) := by rw [mkStr_bget]
    simp only [List.length_cons] at hsz
    have hne : ¬ mkStr (ch :: t) = ⟨#[]⟩ := fun e => by
      have := congrArg ByteArray.size e
      rw [hsz] at this
      cases this
    by_cases hc : ch = m
    · have hci : (ch.toNat : Int) = (m.toNat : Int) := by rw [hc]
      by_cases hn : ∃ n, IsNum (mkStr t) n
      · obtain ⟨n, hn⟩ := hn
        have hfn := hn.1
        unfold fit64 at hfn
        have hv0 : numP (ch :: t) m lo hi = if n < lo then .error 10 else if hi < n then .error 12 else .ok n := by
          unfold numP
          simp only
          rw [if_pos hc, numOf_some hn]
        by_cases h1 : n < lo
        · have hv := hv0.trans (if_pos h1)
          repeat' (first | (apply G_on; exact rfl; first | ((first | apply G1_assign | apply G1_move | apply G1_nilCheck); exact rfl; exact rfl) | (apply G1_sindexJ (q := 0) (s := mkStr (ch :: t)); exact T.str9; exact rfl; exact rfl; exact rfl; omega; exact rfl) | (apply G1_ssliceLoE (r := mkStr t); exact T.str9; exact rfl; exact rfl; omega; omega; exact mkStr_tail ch t; exact rfl) | (apply G1_call (f := 44); exact rfl; exact rfl; exact rfl; exact nparse_yes hn (TabIs.ext hT (by repeat first | assumption | exact Ext.rfl' | apply Ext.drew | apply Ext.alloc | refine Ext.trans ?_ (by assumption))); rintro _ w2 ⟨rfl, hx2⟩; refine ⟨(by first | exact .inl rfl | exact .inr (by assumption)), ?_⟩; (first | replace hbk := hbk.ext hx2 | replace hbk := hbk.ext ((Ext.drew Ext.rfl').trans hx2))) | ((first | apply G1_seql | apply G1_neq | apply G1_extract | apply G1_lss); exact rfl; exact rfl; exact rfl) | (apply G1_pick_f; exact rfl; exact rfl; exact rfl) | (apply G1_fieldAddr; exact T.f109_6; exact rfl; exact rfl) | (apply G1_not_t; exact rfl; exact rfl)) | apply G_nil | apply Post_next | apply W_seq | apply W_region | (apply W_cond_dec; exact rfl; all_goals (intro h; try (exfalso; omega))) | apply W_skip)
          all_goals try (exfalso; first | omega | exact hne (by assumption))
          apply G_on; exact rfl; apply G1_storeB; exact T.z44; exact rfl; exact rfl; exact hbk; exact rfl; exact rfl; (first | exact Nat.le_of_ble_eq_true rfl | (focus (simp [Value.cells]; done))); (first | exact Enc.one _ _ | (focus (simp [Value.oneCell']; done)) | (focus (simp [Value.cells, Value.oneCell']; done)) | exact Enc.oneAgg _ _); exact rfl; (first | exact .inl rfl | exact .inr (by simp [exempt])); exact rfl; intro w3 hA3 hg3 hs3
          replace hA3 : Blk w3.heap ar 109 [.slice p inp.length c, .int .i64 (a : Int), .int .i64 (r.left : Int), .int .i64 r.size, .slice pw r.words.length cw, .int .i64 (r.held : Int), .int .i64 10] := hA3
          have h3 := (hR.xt (show Ext w w2 from (by repeat first | assumption | exact Ext.rfl' | apply Ext.drew | apply Ext.alloc | refine Ext.trans ?_ (by assumption)))).set hg3 hA3 rfl hla
          repeat' (first | (apply G_on; exact rfl; (apply G1_assign; exact rfl; exact rfl)) | apply G_nil | apply Post_next | apply W_seq | apply W_region | apply W_ret | apply Post_then_ret)
          refine Post_ret Tryz.results54 ⟨_, _, rfl, rfl, _, _, rfl, rfl, rfl⟩ ?_
          unfold NumA
          rw [hv]
          exact ⟨fr_ar (FrS.of_ext (by repeat first | assumption | exact Ext.rfl' | apply Ext.drew | apply Ext.alloc | refine Ext.trans ?_ (by assumption))) hg3, rfl, h3⟩
        · by_cases h2 : hi < n
          · have hv := hv0.trans ((if_neg h1).trans (if_pos h2))
            repeat' (first | (apply G_on; exact rfl; first | ((first | apply G1_assign | apply G1_move | apply G1_nilCheck); exact rfl; exact rfl) | (apply G1_sindexJ (q := 0) (s := mkStr (ch :: t)); exact T.str9; exact rfl; exact rfl; exact rfl; omega; exact rfl) | (apply G1_ssliceLoE (r := mkStr t); exact T.str9; exact rfl; exact rfl; omega; omega; exact mkStr_tail ch t; exact rfl) | (apply G1_call (f := 44); exact rfl; exact rfl; exact rfl; exact nparse_yes hn (TabIs.ext hT (by repeat first | assumption | exact Ext.rfl' | apply Ext.drew | apply Ext.alloc | refine Ext.trans ?_ (by assumption))); rintro _ w2 ⟨rfl, hx2⟩; refine ⟨(by first | exact .inl rfl | exact .inr (by assumption)), ?_⟩; (first | replace hbk := hbk.ext hx2 | replace hbk := hbk.ext ((Ext.drew Ext.rfl').trans hx2))) | ((first | apply G1_seql | apply G1_neq | apply G1_extract | apply G1_lss | apply G1_gtr); exact rfl; exact rfl; exact rfl) | (apply G1_pick_f; exact rfl; exact rfl; exact rfl) | (apply G1_fieldAddr; exact T.f109_6; exact rfl; exact rfl) | (apply G1_not_t; exact rfl; exact rfl)) | apply G_nil | apply Post_next | apply W_seq | apply W_region | (apply W_cond_dec; exact rfl; all_goals (intro h; try (exfalso; omega))) | apply W_skip)
            all_goals try (exfalso; first | omega | exact hne (by assumption))
            apply G_on; exact rfl; apply G1_storeB; exact T.z44; exact rfl; exact rfl; exact hbk; exact rfl; exact rfl; (first | exact Nat.le_of_ble_eq_true rfl | (focus (simp [Value.cells]; done))); (first | exact Enc.one _ _ | (focus (simp [Value.oneCell']; done)) | (focus (simp [Value.cells, Value.oneCell']; done)) | exact Enc.oneAgg _ _); exact rfl; (first | exact .inl rfl | exact .inr (by simp [exempt])); exact rfl; intro w3 hA3 hg3 hs3
            replace hA3 : Blk w3.heap ar 109 [.slice p inp.length c, .int .i64 (a : Int), .int .i64 (r.left : Int), .int .i64 r.size, .slice pw r.words.length cw, .int .i64 (r.held : Int), .int .i64 12] := hA3
            have h3 := (hR.xt (show Ext w w2 from (by repeat first | assumption | exact Ext.rfl' | apply Ext.drew | apply Ext.alloc | refine Ext.trans ?_ (by assumption)))).set hg3 hA3 rfl hla
            repeat' (first | (apply G_on; exact rfl; (apply G1_assign; exact rfl; exact rfl)) | apply G_nil | apply Post_next | apply W_seq | apply W_region | apply W_ret | apply Post_then_ret)
            refine Post_ret Tryz.results54 ⟨_, _, rfl, rfl, _, _, rfl, rfl, rfl⟩ ?_
            unfold NumA
            rw [hv]
            exact ⟨fr_ar (FrS.of_ext (by repeat first | assumption | exact Ext.rfl' | apply Ext.drew | apply Ext.alloc | refine Ext.trans ?_ (by assumption))) hg3, rfl, h3⟩
          · have hv := hv0.trans ((if_neg h1).trans (if_neg h2))
            repeat' (first | (apply G_on; exact rfl; first | ((first | apply G1_assign | apply G1_move); exact rfl; exact rfl) | (apply G1_sindexJ (q := 0) (s := mkStr (ch :: t)); exact T.str9; exact rfl; exact rfl; exact rfl; omega; exact rfl) | (apply G1_ssliceLoE (r := mkStr t); exact T.str9; exact rfl; exact rfl; omega; omega; exact mkStr_tail ch t; exact rfl) | (apply G1_call (f := 44); exact rfl; exact rfl; exact rfl; exact nparse_yes hn (TabIs.ext hT (by repeat first | assumption | exact Ext.rfl' | apply Ext.drew | apply Ext.alloc | refine Ext.trans ?_ (by assumption))); rintro _ w2 ⟨rfl, hx2⟩; refine ⟨(by first | exact .inl rfl | exact .inr (by assumption)), ?_⟩; (first | replace hbk := hbk.ext hx2 | replace hbk := hbk.ext ((Ext.drew Ext.rfl').trans hx2))) | ((first | apply G1_seql | apply G1_neq | apply G1_extract | apply G1_lss | apply G1_gtr); exact rfl; exact rfl; exact rfl) | (apply G1_pick_f; exact rfl; exact rfl; exact rfl) | (apply G1_not_t; exact rfl; exact rfl)) | apply G_nil | apply Post_next | apply W_seq | apply W_region | (apply W_cond_dec; exact rfl; all_goals (intro h; try (exfalso; omega))) | apply W_skip | apply W_ret)
            all_goals try (exfalso; first | omega | exact hne (by assumption))
            refine Post_ret Tryz.results54 ⟨_, _, rfl, rfl, _, _, rfl, rfl, rfl⟩ ?_
            unfold NumA
            rw [hv]
            have hx02 : Ext w w2 := (by repeat first | assumption | exact Ext.rfl' | apply Ext.drew | apply Ext.alloc | refine Ext.trans ?_ (by assumption))
            exact ⟨FrS.of_ext hx02, rfl, hR.xt hx02⟩
      · have hv : numP (ch :: t) m lo hi = .error 10 := by
          unfold numP
          simp only
          rw [if_pos hc, numOf_none (fun n h => hn ⟨n, h⟩)]
        repeat' (first | (apply G_on; exact rfl; first | ((first | apply G1_assign | apply G1_move | apply G1_nilCheck); exact rfl; exact rfl) | (apply G1_sindexJ (q := 0) (s := mkStr (ch :: t)); exact T.str9; exact rfl; exact rfl; exact rfl; omega; exact rfl) | (apply G1_ssliceLoE (r := mkStr t); exact T.str9; exact rfl; exact rfl; omega; omega; exact mkStr_tail ch t; exact rfl) | (apply G1_call (f := 44); exact rfl; exact rfl; exact rfl; exact nparse_nb (fun n h => hn ⟨n, h⟩) (TabIs.ext hT (by repeat first | assumption | exact Ext.rfl' | apply Ext.drew | apply Ext.alloc | refine Ext.trans ?_ (by assumption))) (hE.ext (by repeat first | assumption | exact Ext.rfl' | apply Ext.drew | apply Ext.alloc | refine Ext.trans ?_ (by assumption))); rintro _ w2 ⟨rfl, hx2⟩; refine ⟨(by first | exact .inl rfl | exact .inr (by assumption)), ?_⟩; (first | replace hbk := hbk.ext hx2 | replace hbk := hbk.ext ((Ext.drew Ext.rfl').trans hx2))) | ((first | apply G1_seql | apply G1_neq | apply G1_extract); exact rfl; exact rfl; exact rfl) | (apply G1_pick_t; exact rfl; exact rfl; exact rfl) | (apply G1_pick_f; exact rfl; exact rfl; exact rfl) | (apply G1_fieldAddr; exact T.f109_6; exact rfl; exact rfl) | (apply G1_not_f; exact rfl; exact rfl)) | apply G_nil | apply Post_next | apply W_seq | apply W_region | (apply W_cond_true; exact rfl) | (apply W_cond_dec; exact rfl; all_goals (intro h; try (exfalso; omega))) | (apply G_off; exact rfl; exact rfl) | apply W_skip)
        all_goals try (exfalso; first | omega | exact hne (by assumption))
        apply G_on; exact rfl; apply G1_storeB; exact T.z44; exact rfl; exact rfl; exact hbk; exact rfl; exact rfl; (first | exact Nat.le_of_ble_eq_true rfl | (focus (simp [Value.cells]; done))); (first | exact Enc.one _ _ | (focus (simp [Value.oneCell']; done)) | (focus (simp [Value.cells, Value.oneCell']; done)) | exact Enc.oneAgg _ _); exact rfl; (first | exact .inl rfl | exact .inr (by simp [exempt])); exact rfl; intro w3 hA3 hg3 hs3
        replace hA3 : Blk w3.heap ar 109 [.slice p inp.length c, .int .i64 (a : Int), .int .i64 (r.left : Int), .int .i64 r.size, .slice pw r.words.length cw, .int .i64 (r.held : Int), .int .i64 10] := hA3
        have h3 := (hR.xt (show Ext w w2 from (by repeat first | assumption | exact Ext.rfl' | apply Ext.drew | apply Ext.alloc | refine Ext.trans ?_ (by assumption)))).set hg3 hA3 rfl hla
        repeat' (first | (apply G_on; exact rfl; (apply G1_assign; exact rfl; exact rfl)) | apply G_nil | apply Post_next | apply W_seq | apply W_region | apply W_ret | apply Post_then_ret)
        refine Post_ret Tryz.results54 ⟨_, _, rfl, rfl, _, _, rfl, rfl, rfl⟩ ?_
        unfold NumA
        rw [hv]
        exact ⟨fr_ar (FrS.of_ext (by repeat first | assumption | exact Ext.rfl' | apply Ext.drew | apply Ext.alloc | refine Ext.trans ?_ (by assumption))) hg3, rfl, h3⟩
    · have hci : ¬ (ch.toNat : Int) = (m.toNat : Int) := u8_ne hc
      have hv : numP (ch :: t) m lo hi = .error 10 := by
        unfold numP
        simp only
        rw [if_neg hc]
      repeat' (first | (apply G_on; exact rfl; first | ((first | apply G1_assign | apply G1_move | apply G1_nilCheck); exact rfl; exact rfl) | (apply G1_sindexJ (q := 0) (s := mkStr (ch :: t)); exact T.str9; exact rfl; exact rfl; exact rfl; omega; exact rfl) | ((first | apply G1_seql | apply G1_neq); exact rfl; exact rfl; exact rfl) | (apply G1_pick_f; exact rfl; exact rfl; exact rfl) | (apply G1_fieldAddr; exact T.f109_6; exact rfl; exact rfl)) | apply G_nil | apply Post_next | apply W_seq | apply W_region | (apply W_cond_dec; exact rfl; all_goals (intro h; try (exfalso; omega))))
      all_goals try (exfalso; first | omega | exact hne (by assumption))
      all_goals
        apply G_on; exact rfl; apply G1_storeB; exact T.z44; exact rfl; exact rfl; exact hbk; exact rfl; exact rfl; (first | exact Nat.le_of_ble_eq_true rfl | (focus (simp [Value.cells]; done))); (first | exact Enc.one _ _ | (focus (simp [Value.oneCell']; done)) | (focus (simp [Value.cells, Value.oneCell']; done)) | exact Enc.oneAgg _ _); exact rfl; (first | exact .inl rfl | exact .inr (by simp [exempt])); exact rfl; intro w3 hA3 hg3 hs3
        replace hA3 : Blk w3.heap ar 109 [.slice p inp.length c, .int .i64 (a : Int), .int .i64 (r.left : Int), .int .i64 r.size, .slice pw r.words.length cw, .int .i64 (r.held : Int), .int .i64 10] := hA3
        have h3 := (hR.xt (show Ext w w from (by repeat first | assumption | exact Ext.rfl' | apply Ext.drew | apply Ext.alloc | refine Ext.trans ?_ (by assumption)))).set hg3 hA3 rfl hla
        repeat' (first | (apply G_on; exact rfl; (apply G1_assign; exact rfl; exact rfl)) | apply G_nil | apply Post_next | apply W_seq | apply W_region | apply W_ret | apply Post_then_ret)
        refine Post_ret Tryz.results54 ⟨_, _, rfl, rfl, _, _, rfl, rfl, rfl⟩ ?_
        unfold NumA
        rw [hv]
        exact ⟨fr_ar (FrS.of_ext (by repeat first | assumption | exact Ext.rfl' | apply Ext.drew | apply Ext.alloc | refine Ext.trans ?_ (by assumption))) hg3, rfl, h3⟩
/-- a word's bytes, and what is to be done with them -/
inductive WordR where
  | more (r : RS) (k : Nat)
  | err (e : Int)
  | ok (s : List UInt8) (h k : Nat)
noncomputable def sizedP (r : RS) (cs : List UInt8) (k : Nat) : WordR :=
  if cs.length < r.size.toNat + 2 then .more r k
  else if (cs.drop r.size.toNat).take 2 = [13, 10] then .ok (cs.take r.size.toNat) (r.held + (r.size.toNat + 2)) (k + (r.size.toNat + 2)) else .err 10
noncomputable def wordP (r : RS) (cs : List UInt8) : WordR :=
  if r.size < 0 then
    match lineP cs with
    | .more => .more r 0
    | .err e => .err e
    | .ok s k => match numP s 36 0 4096 with
      | .error e => .err e
      | .ok n => sizedP { r with size := n, held := r.held + k } (cs.drop k) k
  else sizedP r cs 0
theorem sized_run {r : RS} {cs : List UInt8} (hl : 0 < r.left) (hs : 0 ≤ r.size) (k : Nat) : match sizedP r cs k with
    | .more r' k' => r' = r ∧ k' = k ∧ runP r cs = ⟨[], r, cs, 0⟩
    | .err e => (runP r cs).out = [] ∧ (runP r cs).err = e
    | .ok s h k' => ∃ j, k' = k + j ∧ j ≤ cs.length ∧ 0 < j ∧ runP r cs = if r.left = 1 then { runP rs0 (cs.drop j) with out := (r.words ++ [mkStr s]) :: (runP rs0 (cs.drop j)).out } else runP ⟨r.left - 1, -1, r.words ++ [mkStr s], h⟩ (cs.drop j) := by
  have hst : stepP r cs = if cs.length < r.size.toNat + 2 then .stop else if (cs.drop r.size.toNat).take 2 = [13, 10] then (if r.left = 1 then .go rs0 (r.size.toNat + 2) [r.words ++ [mkStr (cs.take r.size.toNat)]] else .go ⟨r.left - 1, -1, r.words ++ [mkStr (cs.take r.size.toNat)], r.held + (r.size.toNat + 2)⟩ (r.size.toNat + 2) []) else .fault 10 := by
    unfold stepP
    rw [if_neg (by omega), if_neg (by omega)]
  unfold sizedP
  by_cases h1 : cs.length < r.size.toNat + 2
  · rw [if_pos h1] at hst ⊢
    exact ⟨rfl, rfl, run_stop hst⟩
  · rw [if_neg h1] at hst ⊢
    by_cases h2 : (cs.drop r.size.toNat).take 2 = [13, 10]
    · rw [if_pos h2] at hst ⊢
      refine ⟨r.size.toNat + 2, rfl, by omega, by omega, ?_⟩
      by_cases h3 : r.left = 1
      · rw [if_pos h3] at hst ⊢
        rw [run_go hst]
        rfl
      · rw [if_neg h3] at hst ⊢
        rw [run_go hst]
        simp
    · rw [if_neg h2] at hst ⊢
      rw [run_fault hst]
      exact ⟨rfl, rfl⟩
theorem word_run {r : RS} {cs : List UInt8} (hl : 0 < r.left) : match wordP r cs with
    | .more r' k => k ≤ cs.length ∧ r'.left = r.left ∧ r'.words = r.words ∧ runP r cs = ⟨[], r', cs.drop k, 0⟩
    | .err e => (runP r cs).out = [] ∧ (runP r cs).err = e
    | .ok s h k => k ≤ cs.length ∧ 0 < k ∧ runP r cs = if r.left = 1 then { runP rs0 (cs.drop k) with out := (r.words ++ [mkStr s]) :: (runP rs0 (cs.drop k)).out } else runP ⟨r.left - 1, -1, r.words ++ [mkStr s], h⟩ (cs.drop k) := by
  unfold wordP
  by_cases hs : r.size < 0
  · rw [if_pos hs]
    have hst : stepP r cs = match lineP cs with
      | .more => .stop
      | .err e => .fault e
      | .ok s k => match numP s 36 0 4096 with
        | .error e => .fault e
        | .ok n => .go { r with size := n, held := r.held + k } k [] := by
      unfold stepP
      rw [if_neg (by omega), if_pos hs]
      rfl
    cases hln : lineP cs with
    | more =>
      rw [hln] at hst
      exact ⟨Nat.zero_le _, rfl, rfl, by rw [run_stop hst, List.drop_zero]⟩
    | err e =>
      rw [hln] at hst
      rw [run_fault hst]
      exact ⟨rfl, rfl⟩
    | ok s k =>
      rw [hln] at hst
      have hk := line_len hln
      simp only at hst ⊢
      cases hn : numP s 36 0 4096 with
      | error e =>
        rw [hn] at hst
        rw [run_fault hst]
        exact ⟨rfl, rfl⟩
      | ok n =>
        rw [hn] at hst
        have hnb := num_ok hn
        simp only at hst ⊢
        have key := sized_run (r := { r with size := n, held := r.held + k }) (cs := cs.drop k) hl hnb.1 k
        rw [run_go hst]
        simp only [List.nil_append]
        cases hz : sizedP { r with size := n, held := r.held + k } (cs.drop k) k with
        | more r' k' =>
          rw [hz] at key
          obtain ⟨rfl, rfl, h3⟩ := key
          exact ⟨hk.2, rfl, rfl, by rw [h3]⟩
        | err e =>
          rw [hz] at key
          exact key
        | ok s' h k' =>
          rw [hz] at key
          obtain ⟨j, rfl, h3, h4, h5⟩ := key
          rw [List.length_drop] at h3
          rw [List.drop_drop] at h5
          exact ⟨by omega, by omega, h5⟩
  · rw [if_neg hs]
    have key := sized_run (r := r) (cs := cs) hl (by omega) 0
    cases hz : sizedP r cs 0 with
    | more r' k' =>
      rw [hz] at key
      obtain ⟨rfl, rfl, h3⟩ := key
      exact ⟨Nat.zero_le _, rfl, rfl, by rw [h3, List.drop_zero]⟩
    | err e =>
      rw [hz] at key
      exact key
    | ok s' h k' =>
      rw [hz] at key
      obtain ⟨j, rfl, h3, h4, h5⟩ := key
      rw [Nat.zero_add]
      exact ⟨h3, h4, h5⟩
end Go.Proofs.YtipbakiecocioaaGreatDoor

/- Requests: the reader's word; the walk. -/
namespace Go.Proofs.YtipbakiecocioaaGreatDoor
open Go.V
attribute [local irreducible] Blk Own hcell IntT SliceT PlainT AggT SizeT StrT FieldT ZeroT EqT ArrT
def WordA (w0 w : World) (ar B : Nat) (p : Option Addr) (c : Nat) (inp : List UInt8) (a : Nat) (pw : Option Addr) (cw : Nat) (r : RS) (x : WordR) (v : Value) (w' : World) : Prop :=
  FrS (fun q => q = ar) w w' ∧ match x with
  | .more r' k => v = .tuple #[.string ⟨#[]⟩, .bool false] ∧ RdSt w0 w' ar B p c inp (a + k) pw cw r' 0
  | .err e => v = .tuple #[.string ⟨#[]⟩, .bool false] ∧ ∃ a' r', RdSt w0 w' ar B p c inp a' pw cw r' e
  | .ok s h k => v = .tuple #[.string (mkStr s), .bool true] ∧ RdSt w0 w' ar B p c inp (a + k) pw cw { r with size := -1, held := h } 0
theorem grown_same {w w1 w2 : World} {b : Nat} (h : w.grownBy w1 (some b)) (k : w1.grownBy w2 (some b)) : w.grownBy w2 (some b) :=
  ⟨k.os.trans h.os, k.tape.trans h.tape, k.output.trans h.output, Nat.le_trans h.size k.size, fun q hq hne => (k.block q (Nat.lt_of_lt_of_le hq h.size) hne).trans (h.block q hq hne)⟩

set_option maxHeartbeats 4000000 in
theorem word_spec {w0 : World} {ar B : Nat} {p : Option Addr} {c : Nat} {inp : List UInt8} {a : Nat} {pw : Option Addr} {cw : Nat} {r : RS} {w : World} (hR : RdSt w0 w ar B p c inp a pw cw r 0) (hN : inp.length ≤ 1000000000) (hH : r.held + (inp.length - a) ≤ 1000000000) (hs0 : -1 ≤ r.size) (hs1 : r.size ≤ 4096) (hT : Pow w0) (hE : Errs w0) :
    Ctr Tryz.prog 51 [.pointer (some (adr (bx ar) 0))] w (WordA w0 w ar B p c inp a pw cw r (wordP r (inp.drop a))) := by
  obtain ⟨W0, hW0⟩ : ∃ x, wordP r (inp.drop a) = x := ⟨_, rfl⟩
  have hW := hW0
  unfold wordP at hW
  have hbk0 := hR.blk
  refine Ctr_of Tryz.func51 Tryz.ntmps51 rfl rfl rfl ?_
  by_cases hsz : r.size < 0
  · rw [if_pos hsz] at hW
    have hline := line_spec hR hN
    cases hl : lineP (inp.drop a) with
    | more =>
      rw [hl] at hW hline
      simp only at hW
      repeat' (first | (apply G_on; exact rfl; first | ((first | apply G1_assign | apply G1_move | apply G1_nilCheck); exact rfl; exact rfl) | (apply G1_fieldAddr; exact T.f109_3; exact rfl; exact rfl) | (apply G1_loadB; exact T.p3; exact rfl; assumption; exact rfl; exact rfl) | (apply G1_lss; exact rfl; exact rfl; exact rfl)) | apply G_nil | apply Post_next | apply W_seq | apply W_region | (apply W_cond_dec; exact rfl; all_goals (intro h; try (exfalso; omega))))
      apply G_on; exact rfl; apply G1_call (f := 52); exact rfl; exact rfl; exact rfl; exact hline; intro v w2 hv; refine ⟨.inl rfl, ?_⟩
      obtain ⟨hF2, rfl, hR2⟩ := hv
      repeat' (first | (apply G_on; exact rfl; first | ((first | apply G1_assign | apply G1_move); exact rfl; exact rfl) | (apply G1_extract; exact rfl; exact rfl; exact rfl) | (apply G1_not_f; exact rfl; exact rfl)) | apply G_nil | apply Post_next | apply W_seq | apply W_region | (apply W_cond_true; exact rfl) | apply W_ret | apply Post_then_ret)
      refine Post_ret Tryz.results51 ⟨_, _, rfl, rfl, _, _, rfl, rfl, rfl⟩ ?_
      unfold WordA
      rw [hW0, ← hW]
      exact ⟨hF2, rfl, hR2⟩
    | err e =>
      rw [hl] at hW hline
      simp only at hW
      repeat' (first | (apply G_on; exact rfl; first | ((first | apply G1_assign | apply G1_move | apply G1_nilCheck); exact rfl; exact rfl) | (apply G1_fieldAddr; exact T.f109_3; exact rfl; exact rfl) | (apply G1_loadB; exact T.p3; exact rfl; assumption; exact rfl; exact rfl) | (apply G1_lss; exact rfl; exact rfl; exact rfl)) | apply G_nil | apply Post_next | apply W_seq | apply W_region | (apply W_cond_dec; exact rfl; all_goals (intro h; try (exfalso; omega))))
      apply G_on; exact rfl; apply G1_call (f := 52); exact rfl; exact rfl; exact rfl; exact hline; intro v w2 hv; refine ⟨.inl rfl, ?_⟩
      obtain ⟨hF2, rfl, hR2⟩ := hv
      repeat' (first | (apply G_on; exact rfl; first | ((first | apply G1_assign | apply G1_move); exact rfl; exact rfl) | (apply G1_extract; exact rfl; exact rfl; exact rfl) | (apply G1_not_f; exact rfl; exact rfl)) | apply G_nil | apply Post_next | apply W_seq | apply W_region | (apply W_cond_true; exact rfl) | apply W_ret | apply Post_then_ret)
      refine Post_ret Tryz.results51 ⟨_, _, rfl, rfl, _, _, rfl, rfl, rfl⟩ ?_
      unfold WordA
      rw [hW0, ← hW]
      exact ⟨hF2, rfl, a, r, hR2⟩
    | ok s k =>
      have hlk := line_len hl
      have hlk2 := (line_ok hl).2.1
      have hlk3 := (line_ok hl).2.2.2.2.2
      rw [List.length_drop] at hlk
      rw [hl] at hW hline
      simp only at hW
      repeat' (first | (apply G_on; exact rfl; first | ((first | apply G1_assign | apply G1_move | apply G1_nilCheck); exact rfl; exact rfl) | (apply G1_fieldAddr; exact T.f109_3; exact rfl; exact rfl) | (apply G1_loadB; exact T.p3; exact rfl; assumption; exact rfl; exact rfl) | (apply G1_lss; exact rfl; exact rfl; exact rfl)) | apply G_nil | apply Post_next | apply W_seq | apply W_region | (apply W_cond_dec; exact rfl; all_goals (intro h; try (exfalso; omega))))
      apply G_on; exact rfl; apply G1_call (f := 52); exact rfl; exact rfl; exact rfl; exact hline; intro v w2 hv; refine ⟨.inl rfl, ?_⟩
      obtain ⟨hF2, rfl, hR2⟩ := hv
      have hnum := number_spec (m := 36) (mi := 36) (s := s) (lo := 0) (hi := 4096) hR2 rfl (by omega) hT hE
      have hlk4 : s.length ≤ 1000000000 := by omega
      cases hn : numP s 36 0 4096 with
      | error e =>
        rw [hn] at hW hnum
        simp only at hW
        repeat' (first | (apply G_on; exact rfl; first | ((first | apply G1_assign | apply G1_move); exact rfl; exact rfl) | (apply G1_extract; exact rfl; exact rfl; exact rfl) | (apply G1_not_t; exact rfl; exact rfl)) | apply G_nil | apply Post_next | apply W_seq | apply W_region | (apply W_cond_false; exact rfl) | apply W_skip)
        apply G_on; exact rfl; apply G1_call (f := 54); exact rfl; exact rfl; exact rfl; exact hnum; intro v w3 hv; refine ⟨.inl rfl, ?_⟩
        obtain ⟨hF3, rfl, hR3⟩ := hv
        repeat' (first | (apply G_on; exact rfl; first | ((first | apply G1_assign | apply G1_move); exact rfl; exact rfl) | (apply G1_extract; exact rfl; exact rfl; exact rfl) | (apply G1_not_f; exact rfl; exact rfl)) | apply G_nil | apply Post_next | apply W_seq | apply W_region | (apply W_cond_true; exact rfl) | apply W_ret | apply Post_then_ret)
        refine Post_ret Tryz.results51 ⟨_, _, rfl, rfl, _, _, rfl, rfl, rfl⟩ ?_
        unfold WordA
        rw [hW0, ← hW]
        exact ⟨hF2.trans hF3 (fun _ _ h => h), rfl, _, r, hR3⟩
      | ok n =>
        have hnb := num_ok hn
        rw [hn] at hW hnum
        simp only [List.drop_drop] at hW
        repeat' (first | (apply G_on; exact rfl; first | ((first | apply G1_assign | apply G1_move); exact rfl; exact rfl) | (apply G1_extract; exact rfl; exact rfl; exact rfl) | (apply G1_not_t; exact rfl; exact rfl)) | apply G_nil | apply Post_next | apply W_seq | apply W_region | (apply W_cond_false; exact rfl) | apply W_skip)
        apply G_on; exact rfl; apply G1_call (f := 54); exact rfl; exact rfl; exact rfl; exact hnum; intro v w3 hv; refine ⟨.inl rfl, ?_⟩
        obtain ⟨hF3, rfl, hR3⟩ := hv
        have hbk3 := hR3.blk
        have hss := mkStr_size s
        have hla3 := hR3.la
        repeat' (first | (apply G_on; exact rfl; first | ((first | apply G1_assign | apply G1_move | apply G1_nilCheck); exact rfl; exact rfl) | (apply G1_fieldAddr; exact T.f109_3; exact rfl; exact rfl) | (apply G1_extract; exact rfl; exact rfl; exact rfl) | (apply G1_not_t; exact rfl; exact rfl)) | apply G_nil | apply Post_next | apply W_seq | apply W_region | (apply W_cond_false; exact rfl) | apply W_skip)
        apply G_on; exact rfl; apply G1_storeB; exact T.z3; exact rfl; exact rfl; exact hbk3; exact rfl; exact rfl; (first | exact Nat.le_of_ble_eq_true rfl | (focus (simp [Value.cells]; done))); (first | exact Enc.one _ _ | (focus (simp [Value.oneCell']; done)) | (focus (simp [Value.cells, Value.oneCell']; done)) | exact Enc.oneAgg _ _); exact rfl; (first | exact .inl rfl | exact .inr (by simp [exempt])); exact rfl; intro w4 hA4 hg4 hs4
        repeat' (first | (apply G_on; exact rfl; first | ((first | apply G1_move | apply G1_nilCheck); exact rfl; exact rfl) | (apply G1_fieldAddr; exact T.f109_5; exact rfl; exact rfl) | (apply G1_loadB; exact T.p3; exact rfl; assumption; exact rfl; exact rfl) | (apply G1_slen; exact T.str9; exact rfl; exact rfl) | (apply G1_add; exact rfl; exact rfl; omega; omega; exact rfl)) | apply G_nil | apply Post_next | apply W_region)
        apply G_on; exact rfl; apply G1_storeB; exact T.z3; exact rfl; exact rfl; exact hA4; exact rfl; exact rfl; (first | exact Nat.le_of_ble_eq_true rfl | (focus (simp [Value.cells]; done))); (first | exact Enc.one _ _ | (focus (simp [Value.oneCell']; done)) | (focus (simp [Value.cells, Value.oneCell']; done)) | exact Enc.oneAgg _ _); exact rfl; (first | exact .inl rfl | exact .inr (by simp [exempt])); exact rfl; intro w5 hA5 hg5 hs5
        replace hA5 : Blk w5.heap ar 109 [.slice p inp.length c, .int .i64 ((a + k : Nat) : Int), .int .i64 (r.left : Int), .int .i64 n, .slice pw r.words.length cw, .int .i64 ((r.held : Int) + (((mkStr s).size : Int) + 2)), .int .i64 0] := hA5
        rw [show (r.held : Int) + (((mkStr s).size : Int) + 2) = ((r.held + k : Nat) : Int) by rw [hss]; omega] at hA5
        have hgg := grown_same hg4 hg5
        have hR5 := hR3.set (r' := { r with size := n, held := r.held + k }) hgg hA5 rfl hla3
        have hF5 := fr_ar (hF2.trans hF3 (fun _ _ h => h)) hgg
        obtain ⟨a1, ha1⟩ : ∃ a1, a1 = a + k := ⟨_, rfl⟩
        rw [← ha1] at hR5 hW
        rw [hW0]
        clear hbk0 hbk3 hA4 hA5 hnum hline hR3 hR2 hR
        have hX := hR5
        have hF := hF5
        obtain ⟨u, hu⟩ : ∃ u : Nat, n = (u : Int) := ⟨(n).toNat, by omega⟩
        have hbk := hX.blk
        have hC := hX.row.sl
        have hok := hC.ok
        have hle := hok.le
        have hla := hX.la
        try simp only at hbk
        rw [hu] at hbk
        have hut : (n).toNat = u := by rw [hu]; exact Int.toNat_natCast u
        have hcl : (inp.drop a1).length = inp.length - a1 := List.length_drop
        have hD : Sl w5.heap eByte (subp p c a1 1) (c - a1) (inp.drop a1) := hC.drop (by omega)
        have hokD : Okp (subp p c a1 1) (inp.length - a1) (c - a1) := hcl ▸ hD.ok
        have hleD := hokD.le
        unfold sizedP at hW
        simp only [hut, hcl] at hW
        by_cases hmr : inp.length - a1 < u + 2
        · rw [if_pos hmr] at hW
          repeat' (first | (apply G_on; exact rfl; first | ((first | apply G1_assign | apply G1_move | apply G1_nilCheck); exact rfl; exact rfl) | (apply G1_sliceLoJ (q := a1); exact T.s22; exact rfl; exact rfl; exact rfl; exact hok; omega; exact rfl) | (apply G1_fieldAddr; (first | exact T.f109_3 | exact T.f109_0 | exact T.f109_1); exact rfl; exact rfl) | (apply G1_loadB; (first | exact T.p3 | exact T.p22); exact rfl; assumption; exact rfl; exact rfl) | (apply G1_lss; exact rfl; exact rfl; exact rfl) | (apply G1_add; exact rfl; exact rfl; omega; omega; exact rfl) | (apply G1_len; exact T.s22; exact rfl; exact rfl)) | apply G_nil | apply Post_next | apply W_seq | apply W_region | (apply W_cond_dec; exact rfl; all_goals (intro h; try (exfalso; omega))) | refine W_drawn 1 [] [0,1,2,3,4,5,6,7,8,9] mixed (by decide +kernel) ?_ | apply W_ret | apply Post_then_ret)
          all_goals try (exfalso; omega)
          refine Post_ret Tryz.results51 ⟨_, _, rfl, rfl, _, _, rfl, rfl, rfl⟩ ?_
          unfold WordA
          rw [← hW]
          exact ⟨hF.trans (FrS.of_ext (F := fun q => q = ar) (by repeat first | assumption | exact Ext.rfl' | apply Ext.drew | apply Ext.alloc | refine Ext.trans ?_ (by assumption))) (fun _ _ h => h), rfl, by rw [← ha1]; exact hX.xt (by repeat first | assumption | exact Ext.rfl' | apply Ext.drew | apply Ext.alloc | refine Ext.trans ?_ (by assumption))⟩
        · rw [if_neg hmr] at hW
          obtain ⟨x2, hx2'⟩ := get_some (xs := inp.drop a1) (k := u) (by omega)
          obtain ⟨y2, hy2'⟩ := get_some (xs := inp.drop a1) (k := u + 1) (by omega)
          have hdu : ((inp.drop a1).drop u).take 2 = [x2, y2] := by rw [drop_at hx2', drop_at hy2']; rfl
          have hS2 : Sl w5.heap eByte (subp (subp p c a1 1) (c - a1) u 1) (c - a1 - u) [x2, y2] := by
            have h1 := (hD.drop (l := u) (by omega)).take 2
            rw [hdu] at h1
            exact h1
          rw [hdu] at hW
          by_cases hp2 : [x2, y2] = ([13, 10] : List UInt8)
          · rw [if_pos hp2] at hW
            have hcr : mkStr [x2, y2] = ⟨#[13, 10]⟩ := by rw [hp2]; rfl
            have hS3 : Sl w5.heap eByte (subp p c a1 1) (c - a1) ((inp.drop a1).take u) := hD.take u
            repeat' (first | (apply G_on; exact rfl; first | ((first | apply G1_assign | apply G1_move | apply G1_nilCheck); exact rfl; exact rfl) | (apply G1_sliceLoJ (q := a1); exact T.s22; exact rfl; exact rfl; exact rfl; exact hok; omega; exact rfl) | (apply G1_sliceBothJ (q := u) (r := u + 2); exact T.s22; exact rfl; exact rfl; exact rfl; omega; omega; omega; omega; exact rfl) | (apply G1_toStringL (bs := [x2, y2]); exact T.s22; exact T.i5; exact T.str9; exact rfl; (simp only [List.length_cons, List.length_nil]; omega); exact hS2.ext (by repeat first | assumption | exact Ext.rfl' | apply Ext.drew | apply Ext.alloc | refine Ext.trans ?_ (by assumption)); exact rfl) | (apply G1_sneF; exact rfl; exact rfl; exact hcr; exact rfl) | (apply G1_sliceHiJ (q := u); exact T.s22; exact rfl; exact rfl; omega; omega; exact rfl) | (apply G1_toStringL (bs := (inp.drop a1).take u); exact T.s22; exact T.i5; exact T.str9; exact rfl; (rw [List.length_take]; omega); exact hS3.ext (by repeat first | assumption | exact Ext.rfl' | apply Ext.drew | apply Ext.alloc | refine Ext.trans ?_ (by assumption)); exact rfl) | (apply G1_fieldAddr; (first | exact T.f109_3 | exact T.f109_0 | exact T.f109_1); exact rfl; exact rfl) | (apply G1_loadB; (first | exact T.p3 | exact T.p22); exact rfl; assumption; exact rfl; exact rfl) | (apply G1_lss; exact rfl; exact rfl; exact rfl) | (apply G1_add; exact rfl; exact rfl; omega; omega; exact rfl) | (apply G1_len; exact T.s22; exact rfl; exact rfl)) | apply G_nil | apply Post_next | apply W_seq | apply W_region | (apply W_cond_false; exact rfl) | (apply W_cond_dec; exact rfl; all_goals (intro h; try (exfalso; omega))) | refine W_drawn 1 [] [0,1,2,3,4,5,6,7,8,9] mixed (by decide +kernel) ?_ | apply W_skip)
            all_goals try (exfalso; omega)
            apply G_on; exact rfl; apply G1_storeB; exact T.z3; exact rfl; exact rfl; exact hbk; exact rfl; exact rfl; (first | exact Nat.le_of_ble_eq_true rfl | (focus (simp [Value.cells]; done))); (first | exact Enc.one _ _ | (focus (simp [Value.oneCell']; done)) | (focus (simp [Value.cells, Value.oneCell']; done)) | exact Enc.oneAgg _ _); exact rfl; (first | exact .inl rfl | exact .inr (by simp [exempt])); exact rfl; intro v1 hV1 hj1 hn1
            repeat' (first | (apply G_on; exact rfl; first | ((first | apply G1_move | apply G1_nilCheck); exact rfl; exact rfl) | (apply G1_fieldAddr; exact T.f109_5; exact rfl; exact rfl) | (apply G1_loadB; exact T.p3; exact rfl; assumption; exact rfl; exact rfl) | (apply G1_add; exact rfl; exact rfl; omega; omega; exact rfl)) | apply G_nil | apply Post_next | apply W_seq | apply W_region)
            apply G_on; exact rfl; apply G1_storeB; exact T.z3; exact rfl; exact rfl; exact hV1; exact rfl; exact rfl; (first | exact Nat.le_of_ble_eq_true rfl | (focus (simp [Value.cells]; done))); (first | exact Enc.one _ _ | (focus (simp [Value.oneCell']; done)) | (focus (simp [Value.cells, Value.oneCell']; done)) | exact Enc.oneAgg _ _); exact rfl; (first | exact .inl rfl | exact .inr (by simp [exempt])); exact rfl; intro v2 hV2 hj2 hn2
            repeat' (first | (apply G_on; exact rfl; first | ((first | apply G1_move | apply G1_nilCheck); exact rfl; exact rfl) | (apply G1_fieldAddr; exact T.f109_3; exact rfl; exact rfl)) | apply G_nil | apply Post_next | apply W_seq | apply W_region)
            apply G_on; exact rfl; apply G1_storeB; exact T.z3; exact rfl; exact rfl; exact hV2; exact rfl; exact rfl; (first | exact Nat.le_of_ble_eq_true rfl | (focus (simp [Value.cells]; done))); (first | exact Enc.one _ _ | (focus (simp [Value.oneCell']; done)) | (focus (simp [Value.cells, Value.oneCell']; done)) | exact Enc.oneAgg _ _); exact rfl; (first | exact .inl rfl | exact .inr (by simp [exempt])); exact rfl; intro v3 hV3 hj3 hn3
            replace hV3 : Blk v3.heap ar 109 [.slice p inp.length c, .int .i64 ((a1 : Int) + ((u : Int) + 2)), .int .i64 (r.left : Int), .int .i64 (-1), .slice pw r.words.length cw, .int .i64 ((((r.held + k) : Nat) : Int) + ((u : Int) + 2)), .int .i64 0] := hV3
            rw [show (a1 : Int) + ((u : Int) + 2) = ((a1 + (u + 2) : Nat) : Int) by omega, show (((r.held + k) : Nat) : Int) + ((u : Int) + 2) = (((r.held + k) + (u + 2) : Nat) : Int) by omega] at hV3
            repeat' (first | (apply G_on; exact rfl; ((first | apply G1_assign | apply G1_move); exact rfl; exact rfl)) | apply G_nil | apply Post_next | apply W_seq | apply W_region | apply W_ret)
            refine Post_ret Tryz.results51 ⟨_, _, rfl, rfl, _, _, rfl, rfl, rfl⟩ ?_
            unfold WordA
            rw [← hW]
            have hxx : Ext w5 w5 := Ext.rfl'
            have hjj := grown_same (grown_same hj1 hj2) hj3
            have hl2 : a1 + (u + 2) ≤ inp.length := by omega
            have h4 := (hX.xt (Ext.drew hxx)).set (r' := { r with size := -1, held := (r.held + k) + (u + 2) }) hjj hV3 rfl hl2
            refine ⟨fr_ar (hF.trans (FrS.of_ext (F := fun q => q = ar) (Ext.drew hxx)) (fun _ _ h => h)) hjj, rfl, ?_⟩
            rw [show a + (k + (u + 2)) = a1 + (u + 2) by omega]
            exact h4
          · rw [if_neg hp2] at hW
            have hcr : ¬ mkStr [x2, y2] = ⟨#[13, 10]⟩ := fun e => hp2 (by
              have e2 : (⟨#[13, 10]⟩ : ByteArray) = mkStr [13, 10] := rfl
              rw [e2] at e
              exact mkStr_inj.1 e)
            repeat' (first | (apply G_on; exact rfl; first | ((first | apply G1_assign | apply G1_move | apply G1_nilCheck); exact rfl; exact rfl) | (apply G1_sliceLoJ (q := a1); exact T.s22; exact rfl; exact rfl; exact rfl; exact hok; omega; exact rfl) | (apply G1_sliceBothJ (q := u) (r := u + 2); exact T.s22; exact rfl; exact rfl; exact rfl; omega; omega; omega; omega; exact rfl) | (apply G1_toStringL (bs := [x2, y2]); exact T.s22; exact T.i5; exact T.str9; exact rfl; (simp only [List.length_cons, List.length_nil]; omega); exact hS2.ext (by repeat first | assumption | exact Ext.rfl' | apply Ext.drew | apply Ext.alloc | refine Ext.trans ?_ (by assumption)); exact rfl) | (apply G1_sneT; exact rfl; exact rfl; exact hcr; exact rfl) | (apply G1_fieldAddr; (first | exact T.f109_3 | exact T.f109_0 | exact T.f109_1 | exact T.f109_6); exact rfl; exact rfl) | (apply G1_loadB; (first | exact T.p3 | exact T.p22); exact rfl; assumption; exact rfl; exact rfl) | (apply G1_lss; exact rfl; exact rfl; exact rfl) | (apply G1_add; exact rfl; exact rfl; omega; omega; exact rfl) | (apply G1_len; exact T.s22; exact rfl; exact rfl)) | apply G_nil | apply Post_next | apply W_seq | apply W_region | (apply W_cond_true; exact rfl) | (apply W_cond_dec; exact rfl; all_goals (intro h; try (exfalso; omega))) | refine W_drawn 1 [] [0,1,2,3,4,5,6,7,8,9] mixed (by decide +kernel) ?_ | apply W_skip)
            all_goals try (exfalso; omega)
            apply G_on; exact rfl; apply G1_storeB; exact T.z44; exact rfl; exact rfl; exact hbk; exact rfl; exact rfl; (first | exact Nat.le_of_ble_eq_true rfl | (focus (simp [Value.cells]; done))); (first | exact Enc.one _ _ | (focus (simp [Value.oneCell']; done)) | (focus (simp [Value.cells, Value.oneCell']; done)) | exact Enc.oneAgg _ _); exact rfl; (first | exact .inl rfl | exact .inr (by simp [exempt])); exact rfl; intro v1 hV1 hj1 hn1
            replace hV1 : Blk v1.heap ar 109 [.slice p inp.length c, .int .i64 (a1 : Int), .int .i64 (r.left : Int), .int .i64 (u : Int), .slice pw r.words.length cw, .int .i64 (((r.held + k) : Nat) : Int), .int .i64 10] := hV1
            repeat' (first | (apply G_on; exact rfl; (apply G1_assign; exact rfl; exact rfl)) | apply G_nil | apply Post_next | apply W_seq | apply W_region | apply W_ret | apply Post_then_ret)
            refine Post_ret Tryz.results51 ⟨_, _, rfl, rfl, _, _, rfl, rfl, rfl⟩ ?_
            unfold WordA
            rw [← hW]
            have hxx : Ext w5 w5 := Ext.rfl'
            exact ⟨fr_ar (hF.trans (FrS.of_ext (F := fun q => q = ar) (Ext.drew hxx)) (fun _ _ h => h)) hj1, rfl, a1, _, (hX.xt (Ext.drew hxx)).set (r' := { r with size := (u : Int), held := (r.held + k) }) hj1 hV1 rfl hla⟩
  · rw [if_neg hsz] at hW
    obtain ⟨a1, ha1⟩ : ∃ a1, a1 = a + 0 := ⟨_, rfl⟩
    have ha1' : a1 = a := by omega
    have hR1 : RdSt w0 w ar B p c inp a1 pw cw r 0 := by rw [ha1']; exact hR
    rw [← ha1'] at hW
    rw [hW0]
    clear hbk0
    have hW : sizedP r (inp.drop a1) 0 = W0 := hW
    have hX := hR1
    have hF := (FrS.of_ext (F := fun q => q = ar) (Ext.rfl' (w := w)))
    obtain ⟨u, hu⟩ : ∃ u : Nat, r.size = (u : Int) := ⟨(r.size).toNat, by omega⟩
    have hbk := hX.blk
    have hC := hX.row.sl
    have hok := hC.ok
    have hle := hok.le
    have hla := hX.la
    try simp only at hbk
    rw [hu] at hbk
    have hut : (r.size).toNat = u := by rw [hu]; exact Int.toNat_natCast u
    have hcl : (inp.drop a1).length = inp.length - a1 := List.length_drop
    have hD : Sl w.heap eByte (subp p c a1 1) (c - a1) (inp.drop a1) := hC.drop (by omega)
    have hokD : Okp (subp p c a1 1) (inp.length - a1) (c - a1) := hcl ▸ hD.ok
    have hleD := hokD.le
    unfold sizedP at hW
    simp only [hut, hcl] at hW
    by_cases hmr : inp.length - a1 < u + 2
    · rw [if_pos hmr] at hW
      repeat' (first | (apply G_on; exact rfl; first | ((first | apply G1_assign | apply G1_move | apply G1_nilCheck); exact rfl; exact rfl) | (apply G1_sliceLoJ (q := a1); exact T.s22; exact rfl; exact rfl; exact rfl; exact hok; omega; exact rfl) | (apply G1_fieldAddr; (first | exact T.f109_3 | exact T.f109_0 | exact T.f109_1); exact rfl; exact rfl) | (apply G1_loadB; (first | exact T.p3 | exact T.p22); exact rfl; assumption; exact rfl; exact rfl) | (apply G1_lss; exact rfl; exact rfl; exact rfl) | (apply G1_add; exact rfl; exact rfl; omega; omega; exact rfl) | (apply G1_len; exact T.s22; exact rfl; exact rfl)) | apply G_nil | apply Post_next | apply W_seq | apply W_region | (apply W_cond_false; exact rfl) | (apply W_cond_dec; exact rfl; all_goals (intro h; try (exfalso; omega))) | refine W_drawn 1 [] [0,1,2,3,4,5,6,7,8,9] mixed (by decide +kernel) ?_ | apply W_skip | apply W_ret | apply Post_then_ret)
      all_goals try (exfalso; omega)
      refine Post_ret Tryz.results51 ⟨_, _, rfl, rfl, _, _, rfl, rfl, rfl⟩ ?_
      unfold WordA
      rw [← hW]
      exact ⟨hF.trans (FrS.of_ext (F := fun q => q = ar) (by repeat first | assumption | exact Ext.rfl' | apply Ext.drew | apply Ext.alloc | refine Ext.trans ?_ (by assumption))) (fun _ _ h => h), rfl, by rw [← ha1]; exact hX.xt (by repeat first | assumption | exact Ext.rfl' | apply Ext.drew | apply Ext.alloc | refine Ext.trans ?_ (by assumption))⟩
    · rw [if_neg hmr] at hW
      obtain ⟨x2, hx2'⟩ := get_some (xs := inp.drop a1) (k := u) (by omega)
      obtain ⟨y2, hy2'⟩ := get_some (xs := inp.drop a1) (k := u + 1) (by omega)
      have hdu : ((inp.drop a1).drop u).take 2 = [x2, y2] := by rw [drop_at hx2', drop_at hy2']; rfl
      have hS2 : Sl w.heap eByte (subp (subp p c a1 1) (c - a1) u 1) (c - a1 - u) [x2, y2] := by
        have h1 := (hD.drop (l := u) (by omega)).take 2
        rw [hdu] at h1
        exact h1
      rw [hdu] at hW
      by_cases hp2 : [x2, y2] = ([13, 10] : List UInt8)
      · rw [if_pos hp2] at hW
        have hcr : mkStr [x2, y2] = ⟨#[13, 10]⟩ := by rw [hp2]; rfl
        have hS3 : Sl w.heap eByte (subp p c a1 1) (c - a1) ((inp.drop a1).take u) := hD.take u
        repeat' (first | (apply G_on; exact rfl; first | ((first | apply G1_assign | apply G1_move | apply G1_nilCheck); exact rfl; exact rfl) | (apply G1_sliceLoJ (q := a1); exact T.s22; exact rfl; exact rfl; exact rfl; exact hok; omega; exact rfl) | (apply G1_sliceBothJ (q := u) (r := u + 2); exact T.s22; exact rfl; exact rfl; exact rfl; omega; omega; omega; omega; exact rfl) | (apply G1_toStringL (bs := [x2, y2]); exact T.s22; exact T.i5; exact T.str9; exact rfl; (simp only [List.length_cons, List.length_nil]; omega); exact hS2.ext (by repeat first | assumption | exact Ext.rfl' | apply Ext.drew | apply Ext.alloc | refine Ext.trans ?_ (by assumption)); exact rfl) | (apply G1_sneF; exact rfl; exact rfl; exact hcr; exact rfl) | (apply G1_sliceHiJ (q := u); exact T.s22; exact rfl; exact rfl; omega; omega; exact rfl) | (apply G1_toStringL (bs := (inp.drop a1).take u); exact T.s22; exact T.i5; exact T.str9; exact rfl; (rw [List.length_take]; omega); exact hS3.ext (by repeat first | assumption | exact Ext.rfl' | apply Ext.drew | apply Ext.alloc | refine Ext.trans ?_ (by assumption)); exact rfl) | (apply G1_fieldAddr; (first | exact T.f109_3 | exact T.f109_0 | exact T.f109_1); exact rfl; exact rfl) | (apply G1_loadB; (first | exact T.p3 | exact T.p22); exact rfl; assumption; exact rfl; exact rfl) | (apply G1_lss; exact rfl; exact rfl; exact rfl) | (apply G1_add; exact rfl; exact rfl; omega; omega; exact rfl) | (apply G1_len; exact T.s22; exact rfl; exact rfl)) | apply G_nil | apply Post_next | apply W_seq | apply W_region | (apply W_cond_false; exact rfl) | (apply W_cond_dec; exact rfl; all_goals (intro h; try (exfalso; omega))) | refine W_drawn 1 [] [0,1,2,3,4,5,6,7,8,9] mixed (by decide +kernel) ?_ | apply W_skip)
        all_goals try (exfalso; omega)
        apply G_on; exact rfl; apply G1_storeB; exact T.z3; exact rfl; exact rfl; exact hbk; exact rfl; exact rfl; (first | exact Nat.le_of_ble_eq_true rfl | (focus (simp [Value.cells]; done))); (first | exact Enc.one _ _ | (focus (simp [Value.oneCell']; done)) | (focus (simp [Value.cells, Value.oneCell']; done)) | exact Enc.oneAgg _ _); exact rfl; (first | exact .inl rfl | exact .inr (by simp [exempt])); exact rfl; intro v1 hV1 hj1 hn1
        repeat' (first | (apply G_on; exact rfl; first | ((first | apply G1_move | apply G1_nilCheck); exact rfl; exact rfl) | (apply G1_fieldAddr; exact T.f109_5; exact rfl; exact rfl) | (apply G1_loadB; exact T.p3; exact rfl; assumption; exact rfl; exact rfl) | (apply G1_add; exact rfl; exact rfl; omega; omega; exact rfl)) | apply G_nil | apply Post_next | apply W_seq | apply W_region)
        apply G_on; exact rfl; apply G1_storeB; exact T.z3; exact rfl; exact rfl; exact hV1; exact rfl; exact rfl; (first | exact Nat.le_of_ble_eq_true rfl | (focus (simp [Value.cells]; done))); (first | exact Enc.one _ _ | (focus (simp [Value.oneCell']; done)) | (focus (simp [Value.cells, Value.oneCell']; done)) | exact Enc.oneAgg _ _); exact rfl; (first | exact .inl rfl | exact .inr (by simp [exempt])); exact rfl; intro v2 hV2 hj2 hn2
        repeat' (first | (apply G_on; exact rfl; first | ((first | apply G1_move | apply G1_nilCheck); exact rfl; exact rfl) | (apply G1_fieldAddr; exact T.f109_3; exact rfl; exact rfl)) | apply G_nil | apply Post_next | apply W_seq | apply W_region)
        apply G_on; exact rfl; apply G1_storeB; exact T.z3; exact rfl; exact rfl; exact hV2; exact rfl; exact rfl; (first | exact Nat.le_of_ble_eq_true rfl | (focus (simp [Value.cells]; done))); (first | exact Enc.one _ _ | (focus (simp [Value.oneCell']; done)) | (focus (simp [Value.cells, Value.oneCell']; done)) | exact Enc.oneAgg _ _); exact rfl; (first | exact .inl rfl | exact .inr (by simp [exempt])); exact rfl; intro v3 hV3 hj3 hn3
        replace hV3 : Blk v3.heap ar 109 [.slice p inp.length c, .int .i64 ((a1 : Int) + ((u : Int) + 2)), .int .i64 (r.left : Int), .int .i64 (-1), .slice pw r.words.length cw, .int .i64 (((r.held : Nat) : Int) + ((u : Int) + 2)), .int .i64 0] := hV3
        rw [show (a1 : Int) + ((u : Int) + 2) = ((a1 + (u + 2) : Nat) : Int) by omega, show ((r.held : Nat) : Int) + ((u : Int) + 2) = ((r.held + (u + 2) : Nat) : Int) by omega] at hV3
        repeat' (first | (apply G_on; exact rfl; ((first | apply G1_assign | apply G1_move); exact rfl; exact rfl)) | apply G_nil | apply Post_next | apply W_seq | apply W_region | apply W_ret)
        refine Post_ret Tryz.results51 ⟨_, _, rfl, rfl, _, _, rfl, rfl, rfl⟩ ?_
        unfold WordA
        rw [← hW]
        have hxx : Ext w w := Ext.rfl'
        have hjj := grown_same (grown_same hj1 hj2) hj3
        have hl2 : a1 + (u + 2) ≤ inp.length := by omega
        have h4 := (hX.xt (Ext.drew hxx)).set (r' := { r with size := -1, held := r.held + (u + 2) }) hjj hV3 rfl hl2
        refine ⟨fr_ar (hF.trans (FrS.of_ext (F := fun q => q = ar) (Ext.drew hxx)) (fun _ _ h => h)) hjj, rfl, ?_⟩
        rw [show a + (0 + (u + 2)) = a1 + (u + 2) by omega]
        exact h4
      · rw [if_neg hp2] at hW
        have hcr : ¬ mkStr [x2, y2] = ⟨#[13, 10]⟩ := fun e => hp2 (by
          have e2 : (⟨#[13, 10]⟩ : ByteArray) = mkStr [13, 10] := rfl
          rw [e2] at e
          exact mkStr_inj.1 e)
        repeat' (first | (apply G_on; exact rfl; first | ((first | apply G1_assign | apply G1_move | apply G1_nilCheck); exact rfl; exact rfl) | (apply G1_sliceLoJ (q := a1); exact T.s22; exact rfl; exact rfl; exact rfl; exact hok; omega; exact rfl) | (apply G1_sliceBothJ (q := u) (r := u + 2); exact T.s22; exact rfl; exact rfl; exact rfl; omega; omega; omega; omega; exact rfl) | (apply G1_toStringL (bs := [x2, y2]); exact T.s22; exact T.i5; exact T.str9; exact rfl; (simp only [List.length_cons, List.length_nil]; omega); exact hS2.ext (by repeat first | assumption | exact Ext.rfl' | apply Ext.drew | apply Ext.alloc | refine Ext.trans ?_ (by assumption)); exact rfl) | (apply G1_sneT; exact rfl; exact rfl; exact hcr; exact rfl) | (apply G1_fieldAddr; (first | exact T.f109_3 | exact T.f109_0 | exact T.f109_1 | exact T.f109_6); exact rfl; exact rfl) | (apply G1_loadB; (first | exact T.p3 | exact T.p22); exact rfl; assumption; exact rfl; exact rfl) | (apply G1_lss; exact rfl; exact rfl; exact rfl) | (apply G1_add; exact rfl; exact rfl; omega; omega; exact rfl) | (apply G1_len; exact T.s22; exact rfl; exact rfl)) | apply G_nil | apply Post_next | apply W_seq | apply W_region | (apply W_cond_true; exact rfl) | (apply W_cond_false; exact rfl) | (apply W_cond_dec; exact rfl; all_goals (intro h; try (exfalso; omega))) | refine W_drawn 1 [] [0,1,2,3,4,5,6,7,8,9] mixed (by decide +kernel) ?_ | apply W_skip)
        all_goals try (exfalso; omega)
        apply G_on; exact rfl; apply G1_storeB; exact T.z44; exact rfl; exact rfl; exact hbk; exact rfl; exact rfl; (first | exact Nat.le_of_ble_eq_true rfl | (focus (simp [Value.cells]; done))); (first | exact Enc.one _ _ | (focus (simp [Value.oneCell']; done)) | (focus (simp [Value.cells, Value.oneCell']; done)) | exact Enc.oneAgg _ _); exact rfl; (first | exact .inl rfl | exact .inr (by simp [exempt])); exact rfl; intro v1 hV1 hj1 hn1
        replace hV1 : Blk v1.heap ar 109 [.slice p inp.length c, .int .i64 (a1 : Int), .int .i64 (r.left : Int), .int .i64 (u : Int), .slice pw r.words.length cw, .int .i64 ((r.held : Nat) : Int), .int .i64 10] := hV1
        repeat' (first | (apply G_on; exact rfl; (apply G1_assign; exact rfl; exact rfl)) | apply G_nil | apply Post_next | apply W_seq | apply W_region | apply W_ret | apply Post_then_ret)
        refine Post_ret Tryz.results51 ⟨_, _, rfl, rfl, _, _, rfl, rfl, rfl⟩ ?_
        unfold WordA
        rw [← hW]
        have hxx : Ext w w := Ext.rfl'
        exact ⟨fr_ar (hF.trans (FrS.of_ext (F := fun q => q = ar) (Ext.drew hxx)) (fun _ _ h => h)) hj1, rfl, a1, _, (hX.xt (Ext.drew hxx)).set (r' := { r with size := (u : Int), held := r.held }) hj1 hV1 rfl hla⟩
end Go.Proofs.YtipbakiecocioaaGreatDoor

/- Requests: the words of a line, the beginning of one; what a reader drops at last; the walks. -/
namespace Go.V
section
variable {P : Program} {n : Nat} {ops : Array Oper} {dr : Nat × List Nat} {l : List Oper} {E : Env} {w : World} {K : Env → World → Prop}
variable {d : Option Nat} {ty : TypeId} {pos : String} {af : Array Edge} {g : Option (Nat × Bool)} {x y : Operand} {i : Int} {t t' : TypeId} {s s' : ByteArray}
theorem G1_seF (hx : E.look x = some (.string s)) (hy : E.look y = some (.string s')) (hne : ¬ s = s') (hd : dstOk n d = true) (h : G P n ops dr l (E.put d (.bool false)) w K) : G1 P n ops dr ⟨d, .binOp .eql t x y t', ty, pos, af, g⟩ l E w K :=
  G1_seql hx hy hd (by rw [decide_eq_false hne]; exact h)
theorem G1_seT (hx : E.look x = some (.string s)) (hy : E.look y = some (.string s')) (he : s = s') (hd : dstOk n d = true) (h : G P n ops dr l (E.put d (.bool true)) w K) : G1 P n ops dr ⟨d, .binOp .eql t x y t', ty, pos, af, g⟩ l E w K :=
  G1_seql hx hy hd (by rw [decide_eq_true he]; exact h)
/-- the library's search for a byte in a string -/
theorem G1_indexByteT {f : FuncId} {fn : Func} {tys : Array TypeId} (hf : P.funcs[f]? = some fn) (hname : (fn.name == "runtime.NumGoroutine") = false) (hb : fn.body.isNone = true) (hn : Extern.findNext fn = none) (hfi : Extern.find fn = some Extern.BytealgIndexByte.indexByte)
    (hx : E.look x = some (.string s)) (hy : E.look y = some (.int .u8 i)) (he : effects P dr.1 ⟨d, .call ⟨.value (.func f), #[x, y], tys⟩, ty, pos, af, g⟩ = true) (hd : dstOk n d = true)
    (h : G P n ops dr l (E.put d (.int .i64 (fst s.data.toList i.toNat.toUInt8))) w K) : G1 P n ops dr ⟨d, .call ⟨.value (.func f), #[x, y], tys⟩, ty, pos, af, g⟩ l E w K :=
  G1_indexByte hf hname hb hn hfi hx hy he hd (by rw [Lib.firstIdx_eq]; exact h)
end
end Go.V
namespace Go.Proofs.YtipbakiecocioaaGreatDoor
open Go.V
attribute [local irreducible] Blk Own hcell IntT SliceT PlainT AggT SizeT StrT FieldT ZeroT EqT ArrT
theorem cutG_sp : ∀ (r w : List UInt8), cutG w r = (if w ++ r.take (chAt 32 r) = [] then [] else [w ++ r.take (chAt 32 r)]) ++ cutG [] (r.drop (chAt 32 r + 1))
  | [], w => by simp [cutG, chAt]
  | c :: l, w => by
    rw [cutG_cons]
    by_cases hc : c = 32
    · have e : chAt 32 (c :: l) = 0 := if_pos hc
      rw [if_pos hc, e]
      simp only [List.take_zero, List.append_nil, Nat.zero_add, List.drop_succ_cons, List.drop_zero]
      split <;> simp
    · have e : chAt 32 (c :: l) = chAt 32 l + 1 := if_neg hc
      rw [if_neg hc, e, cutG_sp l (w ++ [c])]
      simp
theorem mkStr_data (l : List UInt8) : (mkStr l).data.toList = l := by unfold mkStr; simp
def spc : ByteArray := ⟨#[32]⟩
theorem liteIB {s : List UInt8} {i : Int} {w : World} : Ctr Tryz.prog 143 [.string (mkStr s), .int .u8 i] w (fun v w' => v = .int .i64 (fst s i.toNat.toUInt8) ∧ Ext w w') := by
  refine Ctr_of Tryz.func143 Tryz.ntmps143 rfl rfl rfl ?_
  repeat' (first | (apply G_on; exact rfl; first | ((first | apply G1_assign | apply G1_move); exact rfl; exact rfl) | (apply G1_indexByteT; exact Tryz.func74; exact rfl; exact rfl; exact ib0; exact ib1; exact rfl; exact rfl; exact rfl; exact rfl)) | apply G_nil | apply Post_next | apply W_seq | apply W_region | apply W_ret)
  refine Post_ret Tryz.results143 ⟨_, _, rfl, rfl, rfl⟩ ?_
  exact ⟨by rw [mkStr_data]; rfl, (by repeat first | assumption | exact Ext.rfl' | apply Ext.drew | apply Ext.alloc | refine Ext.trans ?_ (by assumption))⟩
theorem liteIx {s : List UInt8} {w : World} : Ctr Tryz.prog 131 [.string (mkStr s), .string spc] w (fun v w' => v = .int .i64 (fst s 32) ∧ Ext w w') := by
  have hb : ((bget spc 0).toNat : Int) = 32 := rfl
  have hz : spc.size = 1 := rfl
  have hib := fun w' => liteIB (w := w') (s := s) (i := 32)
  refine Ctr_of Tryz.func131 Tryz.ntmps131 rfl rfl rfl ?_
  by_cases he : spc = mkStr s
  · have hs : s = [32] := by
      have : mkStr [32] = mkStr s := he
      exact (mkStr_inj.1 this).symm
    repeat' (first | (apply G_on; exact rfl; first | ((first | apply G1_assign | apply G1_move); exact rfl; exact rfl) | (apply G1_seT; exact rfl; exact rfl; exact he; exact rfl) | (apply G1_slen; exact T.str9; exact rfl; exact rfl) | (apply G1_eql; exact rfl; exact rfl; exact rfl) | (apply G1_pick_f; exact rfl; exact rfl; exact rfl)) | apply G_nil | apply Post_next | apply W_seq | apply W_region | (apply W_cond_true; exact rfl) | apply W_ret | apply W_block | apply Post_then_ret | apply Post_block_ret)
    all_goals try (exfalso; omega)
    refine Post_ret Tryz.results131 ⟨_, _, rfl, rfl, rfl⟩ ?_
    exact ⟨by rw [hs]; rfl, (by repeat first | assumption | exact Ext.rfl' | apply Ext.drew | apply Ext.alloc | refine Ext.trans ?_ (by assumption))⟩
  · repeat' (first | (apply G_on; exact rfl; first | ((first | apply G1_assign | apply G1_move); exact rfl; exact rfl) | (apply G1_seF; exact rfl; exact rfl; exact he; exact rfl) | (apply G1_sindexJ (q := 0) (s := spc); exact T.str9; exact rfl; exact rfl; exact rfl; omega; exact rfl) | (apply G1_call (f := 143); exact rfl; exact rfl; exact rfl; exact hib _; rintro _ w2 ⟨rfl, hx2⟩; refine ⟨(by first | exact .inl rfl | exact .inr (by assumption)), ?_⟩) | (apply G1_slen; exact T.str9; exact rfl; exact rfl) | (apply G1_eql; exact rfl; exact rfl; exact rfl) | (apply G1_pick_f; exact rfl; exact rfl; exact rfl)) | apply G_nil | apply Post_next | apply W_seq | apply W_region | (apply W_cond_true; exact rfl) | (apply W_cond_false; exact rfl) | apply W_ret | apply W_block | apply Post_then_ret | apply Post_block_ret)
    all_goals try (exfalso; omega)
    refine Post_ret Tryz.results131 ⟨_, _, rfl, rfl, rfl⟩ ?_
    exact ⟨rfl, (by repeat first | assumption | exact Ext.rfl' | apply Ext.drew | apply Ext.alloc | refine Ext.trans ?_ (by assumption))⟩
theorem strCut_spec {s : List UInt8} {w : World} (hs : s.length ≤ 1000000000) :
    Ctr Tryz.prog 86 [.string (mkStr s), .string spc] w (fun v w' => (∃ b, v = .tuple #[.string (mkStr (s.take (chAt 32 s))), .string (mkStr (s.drop (chAt 32 s + 1))), .bool b]) ∧ Ext w w') := by
  have hsz := mkStr_size s
  have hz : spc.size = 1 := rfl
  have hle := chAt_le 32 s
  have hlc : ∀ w', Ctr Tryz.prog 115 [.string (mkStr s), .string spc] w' (fun v w'' => (∃ b, v = .tuple #[.string (mkStr (s.take (chAt 32 s))), .string (mkStr (s.drop (chAt 32 s + 1))), .bool b]) ∧ Ext w' w'') := fun w' => by
    have hix := fun w' => liteIx (w := w') (s := s)
    rw [fst_ch] at hix
    refine Ctr_of Tryz.func115 Tryz.ntmps115 rfl rfl rfl ?_
    by_cases hf : chAt 32 s < s.length
    · rw [if_pos hf] at hix
      have e1 : (mkStr s).extract 0 (chAt 32 s) = mkStr (s.take (chAt 32 s)) := mkStr_take s _
      have e2 : (mkStr s).extract (chAt 32 s + 1) (mkStr s).size = mkStr (s.drop (chAt 32 s + 1)) := by
        rw [mkStr_cut, hsz, List.take_of_length_le (by rw [List.length_drop]; omega)]
      repeat' (first | (apply G_on; exact rfl; first | ((first | apply G1_assign | apply G1_move); exact rfl; exact rfl) | (apply G1_call (f := 131); exact rfl; exact rfl; exact rfl; exact hix _; rintro _ w2 ⟨rfl, hx2⟩; refine ⟨(by first | exact .inl rfl | exact .inr (by assumption)), ?_⟩) | (apply G1_ssliceLoE (r := mkStr (s.drop (chAt 32 s + 1))); exact T.str9; exact rfl; exact rfl; omega; omega; exact e2; exact rfl) | (apply G1_geq; exact rfl; exact rfl; exact rfl) | (apply G1_ssliceHi; exact T.str9; exact rfl; exact rfl; omega; omega; exact rfl) | (apply G1_slen; exact T.str9; exact rfl; exact rfl) | (apply G1_add; exact rfl; exact rfl; omega; omega; exact rfl)) | apply G_nil | apply Post_next | apply W_seq | apply W_region | (apply W_cond_true; exact rfl) | refine W_drawn 1 [] [0,1,2,3,4,5,6,7,8,9,10,11] mixed (by decide +kernel) ?_ | apply W_ret | apply Post_then_ret)
      all_goals try (exfalso; omega)
      refine Post_ret Tryz.results115 ⟨_, _, rfl, rfl, _, _, rfl, rfl, _, _, rfl, rfl, rfl⟩ ?_
      refine ⟨⟨true, ?_⟩, (by repeat first | assumption | exact Ext.rfl' | apply Ext.drew | apply Ext.alloc | refine Ext.trans ?_ (by assumption))⟩
      rw [← e1]
      rfl
    · rw [if_neg hf] at hix
      repeat' (first | (apply G_on; exact rfl; first | ((first | apply G1_assign | apply G1_move); exact rfl; exact rfl) | (apply G1_call (f := 131); exact rfl; exact rfl; exact rfl; exact hix _; rintro _ w2 ⟨rfl, hx2⟩; refine ⟨(by first | exact .inl rfl | exact .inr (by assumption)), ?_⟩) | (apply G1_geq; exact rfl; exact rfl; exact rfl)) | apply G_nil | apply Post_next | apply W_seq | apply W_region | (apply W_cond_false; exact rfl) | apply W_skip | apply W_ret)
      all_goals try (exfalso; omega)
      refine Post_ret Tryz.results115 ⟨_, _, rfl, rfl, _, _, rfl, rfl, _, _, rfl, rfl, rfl⟩ ?_
      refine ⟨⟨false, ?_⟩, (by repeat first | assumption | exact Ext.rfl' | apply Ext.drew | apply Ext.alloc | refine Ext.trans ?_ (by assumption))⟩
      rw [List.take_of_length_le (by omega), List.drop_of_length_le (by omega)]
      rfl
  refine Ctr_of Tryz.func86 Tryz.ntmps86 rfl rfl rfl ?_
  repeat' (first | (apply G_on; exact rfl; first | ((first | apply G1_assign | apply G1_move); exact rfl; exact rfl) | (apply G1_call (f := 115); exact rfl; exact rfl; exact rfl; exact hlc _; rintro _ w2 ⟨⟨b, rfl⟩, hx2⟩; refine ⟨(by first | exact .inl rfl | exact .inr (by assumption)), ?_⟩) | (apply G1_extract; exact rfl; exact rfl; exact rfl)) | apply G_nil | apply Post_next | apply W_seq | apply W_region | apply W_ret)
  refine Post_ret Tryz.results86 ⟨_, _, rfl, rfl, _, _, rfl, rfl, _, _, rfl, rfl, rfl⟩ ?_
  exact ⟨⟨b, rfl⟩, (by repeat first | assumption | exact Ext.rfl' | apply Ext.drew | apply Ext.alloc | refine Ext.trans ?_ (by assumption))⟩
theorem split_spec {s : List UInt8} {w : World} (hs : s.length ≤ 1000000) :
    Ctr Tryz.prog 55 [.string (mkStr s)] w (fun v w' => ∃ p c, v = .slice p (cutG [] s).length c ∧ Own w' w.heap.size 9 eStr p c ((cutG [] s).map mkStr) ∧ Ext w w') := by
  refine Ctr_of Tryz.func55 Tryz.ntmps55 rfl rfl rfl ?_
  repeat' (first | (apply G_on; exact rfl; (apply G1_assign; exact rfl; exact rfl)) | apply G_nil | apply Post_next | apply W_seq | apply W_region | apply W_block)
  refine W_loop (ι := List UInt8 × List (List UInt8) × Option Addr × Nat) (fun y => [(0, .string (mkStr y.1)), (3, .slice y.2.2.1 (y.2.1.map mkStr).length y.2.2.2)])
    (fun y w' => Ext w w' ∧ Own w' w.heap.size 9 eStr y.2.2.1 y.2.2.2 (y.2.1.map mkStr) ∧ y.2.1 ++ cutG [] y.1 = cutG [] s ∧ y.1.length + y.2.1.length ≤ s.length) (fun y => y.1.length) (s, [], none, 0) ⟨rfl, rfl, trivial⟩
    ⟨(by repeat first | assumption | exact Ext.rfl' | apply Ext.drew | apply Ext.alloc | refine Ext.trans ?_ (by assumption)), Own.nil _ _ _ _, rfl, Nat.le_refl _⟩ ?_
  rintro ⟨u, os, p, c⟩ w2 ⟨hx2, hO, hcut, hul⟩
  simp only at hO hcut hul
  refine W_keep [(0, .string (mkStr u)), (3, .slice p (os.map mkStr).length c)] ⟨rfl, rfl, trivial⟩ ?_
  have hge := hO.ge
  have hz2 := hx2.size
  have hom : (os.map mkStr).length = os.length := by simp
  by_cases hu0 : u = []
  · have hue : mkStr u = ⟨#[]⟩ := (mkStr_nil u).2 hu0
    have e0 : cutG [] u = [] := by rw [hu0]; rfl
    rw [e0, List.append_nil] at hcut
    repeat' (first | (apply G_on; exact rfl; first | ((first | apply G1_assign | apply G1_move); exact rfl; exact rfl) | (apply G1_sneF; exact rfl; exact rfl; exact hue; exact rfl)) | apply G_nil | apply Post_next | apply W_seq | apply W_region | (apply W_cond_false; exact rfl) | apply W_exit | apply W_ret | apply Post_then_exit | apply Post_block_exit)
    refine Post_ret Tryz.results55 ⟨_, _, rfl, rfl, rfl⟩ ?_
    exact ⟨p, c, by rw [← hcut, ← hom]; rfl, by rw [← hcut]; exact hO, (by repeat first | assumption | exact Ext.rfl' | apply Ext.drew | apply Ext.alloc | refine Ext.trans ?_ (by assumption))⟩
  · have hue : ¬ mkStr u = ⟨#[]⟩ := fun h => hu0 ((mkStr_nil u).1 h)
    have hlu : 0 < u.length := List.length_pos_iff.2 hu0
    have hle := chAt_le 32 u
    have hcs := fun w' => strCut_spec (w := w') (s := u) (by omega)
    rw [cutG_sp u [], List.nil_append] at hcut
    have hdl : (u.drop (chAt 32 u + 1)).length < u.length := by rw [List.length_drop]; omega
    have hdl2 : (u.drop (chAt 32 u + 1)).length + 1 + (u.take (chAt 32 u)).length ≤ u.length + 1 := by rw [List.length_drop, List.length_take]; omega
    by_cases ht0 : u.take (chAt 32 u) = []
    · have hte : mkStr (u.take (chAt 32 u)) = ⟨#[]⟩ := (mkStr_nil _).2 ht0
      rw [if_pos ht0, List.nil_append] at hcut
      repeat' (first | (apply G_on; exact rfl; first | ((first | apply G1_assign | apply G1_move); exact rfl; exact rfl) | (apply G1_sneT; exact rfl; exact rfl; exact hue; exact rfl) | (apply G1_call (f := 86); exact rfl; exact rfl; exact rfl; exact hcs _; rintro _ w3 ⟨⟨b, rfl⟩, hx3⟩; refine ⟨(by first | exact .inl rfl | exact .inr (by assumption)), ?_⟩; replace hO := hO.ext hx3) | (apply G1_sneF; exact rfl; exact rfl; exact hte; exact rfl) | (apply G1_extract; exact rfl; exact rfl; exact rfl)) | apply G_nil | apply Post_next | apply W_seq | apply W_region | (apply W_cond_true; exact rfl) | (apply W_cond_false; exact rfl) | apply W_skip | apply W_block | apply Post_block_normal)
      exact Post_round (u.drop (chAt 32 u + 1), os, p, c) ⟨rfl, rfl, trivial⟩ ⟨(by repeat first | assumption | exact Ext.rfl' | apply Ext.drew | apply Ext.alloc | refine Ext.trans ?_ (by assumption)), hO, hcut, by simp only; omega⟩ (by simp only; omega)
    · have hte : ¬ mkStr (u.take (chAt 32 u)) = ⟨#[]⟩ := fun h => ht0 ((mkStr_nil _).1 h)
      have htl : 0 < (u.take (chAt 32 u)).length := List.length_pos_iff.2 ht0
      rw [if_neg ht0] at hcut
      repeat' (first | (apply G_on; exact rfl; first | ((first | apply G1_assign | apply G1_move); exact rfl; exact rfl) | (apply G1_sneT; exact rfl; exact rfl; exact hue; exact rfl) | (apply G1_call (f := 86); exact rfl; exact rfl; exact rfl; exact hcs _; rintro _ w3 ⟨⟨b, rfl⟩, hx3⟩; refine ⟨(by first | exact .inl rfl | exact .inr (by assumption)), ?_⟩; replace hO := hO.ext hx3) | (apply G1_sneT; exact rfl; exact rfl; exact hte; exact rfl) | (apply G1_extract; exact rfl; exact rfl; exact rfl)) | apply G_nil | apply Post_next | apply W_seq | apply W_region | (apply W_cond_true; exact rfl) | apply W_skip | apply W_block)
      apply G_on; exact rfl
      apply G1_build1 eStr (mkStr (u.take (chAt 32 u))); exact T.s37; exact rfl; exact rfl; exact rfl; decide; exact rfl; exact rfl
      intro p4 w4 hp4 hs4 _ hx4 hz4
      replace hO := hO.ext hx4
      have hx24 : Ext w w4 := (by repeat first | assumption | exact Ext.rfl' | apply Ext.drew | apply Ext.alloc | refine Ext.trans ?_ (by assumption))
      have hz24 := hx24.size
      repeat' (first | (apply G_on; exact rfl; first | ((first | apply G1_assign | apply G1_move); exact rfl; exact rfl) | (apply G1_appendA; exact T.s37; exact rfl; exact rfl; exact hO; exact hs4; exact rfl; omega; (simp only [List.length_cons, List.length_nil]; omega); (simp only [List.length_cons, List.length_nil]; omega); exact rfl; exact rfl; exact rfl; intro p5 c5 w5 ha5)) | apply G_nil | apply Post_next | apply W_region | apply Post_block_normal)
      exact Post_round (u.drop (chAt 32 u + 1), os ++ [u.take (chAt 32 u)], p5, c5) ⟨rfl, by show _ = some (Value.slice p5 ((os ++ [u.take (chAt 32 u)]).map mkStr).length c5); simp; rfl, trivial⟩ ⟨hx24.app ha5 (fun k hk => (hge k hk).1), by simp only [List.map_append]; exact ha5.own, by simp only [List.append_assoc]; exact hcut, by simp only [List.length_append, List.length_singleton]; omega⟩ (by simp only; omega)
def ast : ByteArray := ⟨#[42]⟩
theorem hasAst_spec {s : List UInt8} {w : World} (hs : s.length ≤ 1000000000) : Ctr Tryz.prog 53 [.string (mkStr s), .string ast] w (fun v w' => v = .bool (decide (s.head? = some 42)) ∧ Ext w w') := by
  have hsz := mkStr_size s
  have hz : ast.size = 1 := rfl
  have hl : ∀ w', Ctr Tryz.prog 85 [.string (mkStr s), .string ast] w' (fun v w'' => v = .bool (decide (s.head? = some 42)) ∧ Ext w' w'') := fun w' => by
    refine Ctr_of Tryz.func85 Tryz.ntmps85 rfl rfl rfl ?_
    cases s with
    | nil =>
      repeat' (first | (apply G_on; exact rfl; first | ((first | apply G1_assign | apply G1_move); exact rfl; exact rfl) | (apply G1_slen; exact T.str9; exact rfl; exact rfl) | (apply G1_geq; exact rfl; exact rfl; exact rfl) | (apply G1_pick_f; exact rfl; exact rfl; exact rfl)) | apply G_nil | apply Post_next | apply W_seq | apply W_region | (apply G_off; exact rfl; exact rfl) | apply W_ret)
      all_goals try (exfalso; simp only [List.length_nil] at hsz; omega)
      refine Post_ret Tryz.results85 ⟨_, _, rfl, rfl, rfl⟩ ?_
      exact ⟨rfl, (by repeat first | assumption | exact Ext.rfl' | apply Ext.drew | apply Ext.alloc | refine Ext.trans ?_ (by assumption))⟩
    | cons c t =>
      simp only [List.length_cons] at hsz
      have e1 : (mkStr (c :: t)).extract 0 1 = mkStr [c] := mkStr_take (c :: t) 1
      by_cases hc : c = 42
      · have he : (mkStr (c :: t)).extract 0 1 = ast := by rw [e1, hc]; rfl
        repeat' (first | (apply G_on; exact rfl; first | ((first | apply G1_assign | apply G1_move); exact rfl; exact rfl) | (apply G1_seT; exact rfl; exact rfl; exact he; exact rfl) | (apply G1_slen; exact T.str9; exact rfl; exact rfl) | (apply G1_geq; exact rfl; exact rfl; exact rfl) | (apply G1_ssliceHi; exact T.str9; exact rfl; exact rfl; omega; omega; exact rfl) | (apply G1_pick_t; exact rfl; exact rfl; exact rfl)) | apply G_nil | apply Post_next | apply W_seq | apply W_region | ((fail_if_success (apply G_on; exact rfl)); apply G_split_dec; exact rfl; exact rfl; all_goals (intro h; try (exfalso; omega))) | apply W_ret)
        all_goals try (exfalso; omega)
        refine Post_ret Tryz.results85 ⟨_, _, rfl, rfl, rfl⟩ ?_
        exact ⟨by rw [hc]; rfl, (by repeat first | assumption | exact Ext.rfl' | apply Ext.drew | apply Ext.alloc | refine Ext.trans ?_ (by assumption))⟩
      · have he : ¬ (mkStr (c :: t)).extract 0 1 = ast := fun e => hc (by
          have e2 : mkStr [c] = mkStr [42] := e1.symm.trans e
          have := mkStr_inj.1 e2
          simpa using this)
        have hd0 : (decide ((c :: t).head? = some 42)) = false := decide_eq_false (by simpa using hc)
        repeat' (first | (apply G_on; exact rfl; first | ((first | apply G1_assign | apply G1_move); exact rfl; exact rfl) | (apply G1_seF; exact rfl; exact rfl; exact he; exact rfl) | (apply G1_slen; exact T.str9; exact rfl; exact rfl) | (apply G1_geq; exact rfl; exact rfl; exact rfl) | (apply G1_ssliceHi; exact T.str9; exact rfl; exact rfl; omega; omega; exact rfl) | (apply G1_pick_t; exact rfl; exact rfl; exact rfl)) | apply G_nil | apply Post_next | apply W_seq | apply W_region | ((fail_if_success (apply G_on; exact rfl)); apply G_split_dec; exact rfl; exact rfl; all_goals (intro h; try (exfalso; omega))) | apply W_ret)
        all_goals try (exfalso; omega)
        refine Post_ret Tryz.results85 ⟨_, _, rfl, rfl, rfl⟩ ?_
        exact ⟨by rw [hd0]; rfl, (by repeat first | assumption | exact Ext.rfl' | apply Ext.drew | apply Ext.alloc | refine Ext.trans ?_ (by assumption))⟩
  refine Ctr_of Tryz.func53 Tryz.ntmps53 rfl rfl rfl ?_
  repeat' (first | (apply G_on; exact rfl; first | ((first | apply G1_assign | apply G1_move); exact rfl; exact rfl) | (apply G1_call (f := 85); exact rfl; exact rfl; exact rfl; exact hl _; rintro _ w2 ⟨rfl, hx2⟩; refine ⟨(by first | exact .inl rfl | exact .inr (by assumption)), ?_⟩)) | apply G_nil | apply Post_next | apply W_seq | apply W_region | apply W_ret)
  refine Post_ret Tryz.results53 ⟨_, _, rfl, rfl, rfl⟩ ?_
  exact ⟨rfl, (by repeat first | assumption | exact Ext.rfl' | apply Ext.drew | apply Ext.alloc | refine Ext.trans ?_ (by assumption))⟩
end Go.Proofs.YtipbakiecocioaaGreatDoor

/- Regions in which several operations with an effect may come up at once: one walk for each order of these. -/
namespace Go.V
open Go.RowKit

inductive Tr where
  | leaf (c : List Nat)
  | node (c : List Nat) (b : Tr)
  | alt (i : Nat) (t r : Tr)
  | stop

def okp (ops : Array Oper) (ef rd wr : Oper → Bool) : List Nat → Array Bool → Bool
  | [], _ => true
  | i :: c, listed =>
    (if ef (ops.getD i default) then Region.ready .any ops listed == [i] else (Region.ready .any ops listed).contains i && freeX ops rd wr listed i) && okp ops ef rd wr c (listed.setIfInBounds i true)

def afterL : List Nat → Array Bool → Array Bool
  | [], l => l
  | i :: c, l => afterL c (l.setIfInBounds i true)

def Tr.seq : Tr → Bool
  | .leaf _ => true
  | .node _ _ => true
  | _ => false

def okT (ops : Array Oper) (ef rd wr : Oper → Bool) : Tr → Nat → List Nat → Array Bool → Bool
  | .leaf c, f, _, listed => Nat.beq c.length f && okc ops ef rd wr c listed
  | .node c b, f, _, listed => Nat.blt c.length f && okp ops ef rd wr c listed && !b.seq && !(Region.ready .any ops (afterL c listed)).isEmpty && okT ops ef rd wr b (f - c.length) (Region.ready .any ops (afterL c listed)) (afterL c listed)
  | .alt _ _ _, _, [], _ => false
  | .alt i t r, f, i' :: rem, listed => Nat.blt 0 f && Nat.beq i i' && Nat.blt i ops.size && t.seq && !r.seq && okT ops ef rd wr t (f - 1) [] (listed.setIfInBounds i true) && okT ops ef rd wr r f rem listed
  | .stop, _, rem, _ => rem.isEmpty

section
variable {P : Program} {S : List Nat} {ops : Array Oper} {ef rd wr : Oper → Bool}

def GAT (P : Program) (S : List Nat) (ops : Array Oper) (ef rd wr : Oper → Bool) (K : Act → World → Prop) : Tr → Act → World → Prop
  | .leaf c, a, w => GA P S ops ef rd wr K (c.map fun i => ops.getD i default) a w
  | .node c b, a, w => GA P S ops ef rd wr (fun a w => GAT P S ops ef rd wr K b a w) (c.map fun i => ops.getD i default) a w
  | .alt i t r, a, w => GA P S ops ef rd wr (fun a w => GAT P S ops ef rd wr K t a w) [ops.getD i default] a w ∧ GAT P S ops ef rd wr K r a w
  | .stop, _, _ => True

theorem GA_mono {K K' : Act → World → Prop} (hK : ∀ a w, K a w → K' a w) : ∀ (l : List Oper) (a : Act) (w : World), GA P S ops ef rd wr K l a w → GA P S ops ef rd wr K' l a w
  | [], a, w, h => hK a w h
  | o :: l, a, w, h => by
    simp only [GA] at h ⊢
    rcases h with ⟨v, hy, h⟩ | ⟨he, hw, h⟩
    · exact .inl ⟨v, hy, GA_mono hK l _ _ h⟩
    · exact .inr ⟨he, hw, stepX_mono (fun a w h => GA_mono hK l a w h) h⟩

theorem GA_pre {K K1 : Act → World → Prop} (hs : Region.noSelect ops = true) (g : Nat) :
    ∀ (c : List Nat) (listed : Array Bool) (a : Act) (w : World), okp ops ef rd wr c listed = true → (∀ a w, K1 a w → wpX P S ops wr K g (afterL c listed) a w) →
      GA P S ops ef rd wr K1 (c.map fun i => ops.getD i default) a w → wpX P S ops wr K (c.length + g) listed a w
  | [], listed, a, w, _, hK, h => by simpa [afterL] using hK a w h
  | i :: c, listed, a, w, hc, hK, h => by
    have hf : (i :: c).length + g = (c.length + g) + 1 := by simp; omega
    rw [hf]
    simp only [okp, Bool.and_eq_true] at hc
    obtain ⟨h0, hc⟩ := hc
    have hmem : i ∈ Region.ready .any ops listed := by
      by_cases he : ef (ops.getD i default) = true
      · simp only [he, if_true, beq_iff_eq] at h0; rw [h0]; simp
      · simp only [he] at h0; simp at h0; exact h0.1
    obtain ⟨_, o, ho, _⟩ := mem_ready.1 hmem
    have hget : ops.getD i default = o := by
      have := Array.getElem?_eq_some_iff.1 ho
      simp [Array.getD, this.1, this.2]
    simp only [List.map_cons] at h
    rw [hget] at h h0
    simp only [GA] at h
    have ih := fun a w h => GA_pre hs g c (listed.setIfInBounds i true) a w hc hK h
    have alone : ef o = true → ∀ K', opX P S ops wr i K' a w → (∀ a w, K' a w → wpX P S ops wr K (c.length + g) (listed.setIfInBounds i true) a w) → wpX P S ops wr K ((c.length + g) + 1) listed a w := by
      intro he K' hop hK
      simp only [he, if_true, beq_iff_eq] at h0
      refine ⟨fun h => (by rw [h] at hmem; cases hmem), fun j hj => ?_⟩
      rw [h0] at hj
      obtain rfl : j = i := by simpa using hj
      exact opX_mono hK hop
    rcases h with ⟨v, hy, h⟩ | ⟨he, hw, h⟩
    · by_cases he : ef o = true
      · exact alone he (fun a w => GA P S ops ef rd wr K1 (c.map fun i => ops.getD i default) a w) (hy.opX ho h) ih
      · simp only [he] at h0
        simp only [Bool.false_eq_true, if_false, Bool.and_eq_true] at h0
        exact wpX_first ho (Region.noSelect_spec hs) _ listed a w (freeX_spec ho h0.2) hmem hy (ih _ _ h)
    · refine alone he _ ?_ ih
      unfold opX
      simp only [ho, hw, if_true]
      exact h

theorem GAT_sound {K : Act → World → Prop} (hs : Region.noSelect ops = true) : ∀ (T : Tr) (f : Nat) (rem : List Nat) (listed : Array Bool) (a : Act) (w : World), okT ops ef rd wr T f rem listed = true → GAT P S ops ef rd wr K T a w →
    (T.seq = true → wpX P S ops wr K f listed a w) ∧ (T.seq = false → ∀ i ∈ rem, opX P S ops wr i (wpX P S ops wr K (f - 1) (listed.setIfInBounds i true)) a w)
  | .leaf c, f, rem, listed, a, w, hc, h => by
    simp only [okT, Bool.and_eq_true] at hc
    have hl : c.length = f := by simpa using hc.1
    subst hl
    exact ⟨fun _ => GA_sound hs c listed a w hc.2 h, fun h => by simp [Tr.seq] at h⟩
  | .node c b, f, rem, listed, a, w, hc, h => by
    simp only [okT, Bool.and_eq_true] at hc
    obtain ⟨⟨⟨⟨h1, h2⟩, h3⟩, h4⟩, h5⟩ := hc
    refine ⟨fun _ => ?_, fun h => by simp [Tr.seq] at h⟩
    have hlt : c.length < f := by simpa using h1
    obtain ⟨g, rfl⟩ : ∃ g, f = c.length + (g + 1) := ⟨f - c.length - 1, by omega⟩
    have e : c.length + (g + 1) - c.length = g + 1 := by omega
    rw [e] at h5
    refine GA_pre hs (g + 1) c listed a w h2 (fun a w hb => ?_) h
    have hbs : b.seq = false := by simpa using h3
    have := (GAT_sound hs b (g + 1) _ _ a w h5 hb).2 hbs
    refine ⟨fun h0 => ?_, fun i hi => this i hi⟩
    rw [h0] at h4
    simp at h4
  | .alt i t r, f, [], listed, a, w, hc, h => by simp [okT] at hc
  | .alt i t r, f, i' :: rem, listed, a, w, hc, h => by
    simp only [okT, Bool.and_eq_true] at hc
    obtain ⟨⟨⟨⟨⟨⟨h1, h2⟩, h3⟩, h4⟩, h5⟩, h6⟩, h7⟩ := hc
    have hii : i = i' := by simpa using h2
    subst hii
    refine ⟨fun h => by simp [Tr.seq] at h, fun _ m hm => ?_⟩
    obtain ⟨ha, hb⟩ := h
    rcases List.mem_cons.1 hm with rfl | hm
    · have hlt : m < ops.size := by simpa using h3
      have ho : ops[m]? = some (ops.getD m default) := by simp [hlt]
      have ih := fun a w h => (GAT_sound (K := K) hs t (f - 1) [] (listed.setIfInBounds m true) a w h6 h).1 h4
      simp only [GA] at ha
      rcases ha with ⟨v, hy, h⟩ | ⟨he, hw, h⟩
      · exact hy.opX ho (ih _ _ h)
      · unfold opX
        simp only [ho, hw, if_true]
        exact stepX_mono (fun a w h => ih a w h) h
    · exact (GAT_sound hs r f rem listed a w h7 hb).2 (by simpa using h5) m hm
  | .stop, f, rem, listed, a, w, hc, h => by
    refine ⟨fun h => by simp [Tr.seq] at h, fun _ m hm => ?_⟩
    simp [okT] at hc
    subst hc
    cases hm
end

section
variable {P : Program} {n : Nat} {ops : Array Oper} {dr : Nat × List Nat} {E : Env} {w : World} {K : Env → World → Prop} {Q : Exit → Act → World → Prop}

def GT (P : Program) (n : Nat) (ops : Array Oper) (dr : Nat × List Nat) : Tr → Env → World → (Env → World → Prop) → Prop
  | .leaf c, E, w, K => G P n ops dr (c.map fun i => ops.getD i default) E w K
  | .node c b, E, w, K => G P n ops dr (c.map fun i => ops.getD i default) E w (fun E w => GT P n ops dr b E w K)
  | .alt i t r, E, w, K => G P n ops dr [ops.getD i default] E w (fun E w => GT P n ops dr t E w K) ∧ GT P n ops dr r E w K
  | .stop, _, _, _ => True

theorem GT_leaf {c : List Nat} (h : G P n ops dr (c.map fun i => ops.getD i default) E w K) : GT P n ops dr (.leaf c) E w K := h
theorem GT_node {c : List Nat} {b : Tr} (h : G P n ops dr (c.map fun i => ops.getD i default) E w (fun E w => GT P n ops dr b E w K)) : GT P n ops dr (.node c b) E w K := h
theorem GT_alt {i : Nat} {t r : Tr} (h1 : G P n ops dr [ops.getD i default] E w (fun E w => GT P n ops dr t E w K)) (h2 : GT P n ops dr r E w K) : GT P n ops dr (.alt i t r) E w K := ⟨h1, h2⟩
theorem GT_stop : GT P n ops dr .stop E w K := trivial

theorem GT_GAT : ∀ (T : Tr) (E : Env) (w : World), GT P n ops dr T E w K → ∀ a, Holds n E a → GAT P dr.2 ops (effects P dr.1) (readsM P) (writes dr.1) (fun a' w' => ∃ E', Holds n E' a' ∧ K E' w') T a w
  | .leaf c, E, w, h, a, ha => by
    simp only [GT] at h
    unfold G at h
    exact h a ha
  | .node c b, E, w, h, a, ha => by
    simp only [GT] at h
    unfold G at h
    exact GA_mono (fun a w ⟨E', h1, h2⟩ => GT_GAT b E' w h2 a h1) _ _ _ (h a ha)
  | .alt i t r, E, w, h, a, ha => by
    obtain ⟨h1, h2⟩ := h
    unfold G at h1
    exact ⟨GA_mono (fun a w ⟨E', h1, h2⟩ => GT_GAT t E' w h2 a h1) _ _ _ (h1 a ha), GT_GAT r E w h2 a ha⟩
  | .stop, E, w, h, a, ha => trivial

theorem W_drawnT {id : Nat} {l : List Oper} (k : Nat) (S : List Nat) (T : Tr) (hm : P.follows .mixedOrders = true)
    (hc : (Region.noSelect l.toArray && okT l.toArray (effects P k) (readsM P) (writes k) T l.length [] (Array.replicate l.length false) && T.seq) = true)
    (h : GT P n l.toArray (k, S) T E w.drew (Post n Q .normal)) : W P n (.region id l.toArray true) Q E w := by
  unfold W
  intro a ha
  simp only [Bool.and_eq_true] at hc
  refine wp_region_any hm (wpAny_of_wpX (S := S) (wr := writes k) (K := fun a' w' => ∃ E', Holds n E' a' ∧ Post n Q .normal E' w') (fun a _ ⟨_, hE, hp⟩ => by unfold Post at hp; exact hp a hE) _ _ _ _ ?_)
  have := (GAT_sound (P := P) (S := S) hc.1.1 T l.length [] (Array.replicate l.length false) a { w with drawn := w.drawn + 1 } hc.1.2 (GT_GAT T E w.drew h a ha)).1 hc.2
  simpa using this
end
attribute [irreducible] GT
end Go.V

/- Requests: what a reader drops at last, and what it gives; the walks. -/
namespace Go.V
section
variable {P : Program} {n : Nat} {ops : Array Oper} {dr : Nat × List Nat} {l : List Oper} {E : Env} {w : World} {K : Env → World → Prop}
variable {d : Option Nat} {ty : TypeId} {pos : String} {af : Array Edge} {g : Option (Nat × Bool)} {x y : Operand} {t t' u sz by_ : Nat} {q : Option Addr}
/-- a copy of nothing to no row -/
theorem G1_copyN {dc sc : Nat} (hu : SliceT P t u sz by_) (hx : E.look x = some (.slice none 0 dc)) (hy : E.look y = some (.slice none 0 sc))
    (he : effects P dr.1 ⟨d, .call ⟨.builtin .copy, #[x, y], #[t, t']⟩, ty, pos, af, g⟩ = true) (hw : writes dr.1 ⟨d, .call ⟨.builtin .copy, #[x, y], #[t, t']⟩, ty, pos, af, g⟩ = true) (hd : dstOk n d = true)
    (h : G P n ops dr l (E.put d (.int .i64 0)) w K) : G1 P n ops dr ⟨d, .call ⟨.builtin .copy, #[x, y], #[t, t']⟩, ty, pos, af, g⟩ l E w K := by
  obtain ⟨hu1, inf, z, hi, rfl, rfl, hz, hz2⟩ := hu
  have hmin : Nat.min 0 0 = 0 := rfl
  exact G1_eff (.int .i64 0) w he hd (fun a ha => by simp [execOp, resolve, invoke, builtin, ha.eval hx, ha.eval hy, Builtin.copy_, run_underlying hu1, Builtin.lenOf, Builtin.firstCells, sizeOf, typeInfo, hi, hmin, goInt]; try rfl) (.inl hw) h
end
end Go.V
namespace Go.Proofs.YtipbakiecocioaaGreatDoor
open Go.V
attribute [local irreducible] Blk Own hcell IntT SliceT PlainT AggT SizeT StrT FieldT ZeroT EqT ArrT


theorem tidy_nil {w0 : World} {ar B c a : Nat} {inp : List UInt8} {pw : Option Addr} {cw : Nat} {r : RS} {w : World} (hR : RdSt w0 w ar B none c inp a pw cw r 0) :
    Ctr Tryz.prog 56 [.pointer (some (adr (bx ar) 0))] w (fun _ w' => FrS (fun q => q = ar ∨ bx q = (none : Option Addr)) w w' ∧ RdSt w0 w' ar B none c (inp.drop a) 0 pw cw r 0) := by
  have hok := hR.row.sl.ok
  have hc0 := hok.nul rfl
  have hle := hok.le
  have hla := hR.la
  have hi0 : inp = [] := List.eq_nil_of_length_eq_zero (by omega)
  subst hi0
  have ha0 : a = 0 := by simpa using hla
  subst ha0 hc0
  have hbk := hR.blk
  simp only [List.length_nil] at hbk
  refine Ctr_of Tryz.func56 Tryz.ntmps56 rfl rfl rfl ?_
  repeat' (first | (apply G_on; exact rfl; first | ((first | apply G1_move | apply G1_nilCheck); exact rfl; exact rfl) | (apply G1_fieldAddr; exact T.f109_6; exact rfl; exact rfl) | (apply G1_loadB; exact T.p44; exact rfl; assumption; exact rfl; exact rfl) | (apply G1_neq; exact rfl; exact rfl; exact rfl)) | apply G_nil | apply Post_next | apply W_seq | apply W_region | (apply W_cond_false; exact rfl) | apply W_skip)
  all_goals try (exfalso; omega)
  refine W_drawnT 1 [] (.node [0,1,2,4,5,6,8,9,10,3] (.alt 7 (.node [] (.alt 11 (.leaf [12,13,14]) .stop)) (.alt 11 (.node [] (.alt 7 (.leaf [12,13,14]) .stop)) .stop))) mixed (by decide +kernel) ?_
  repeat' (first | (apply G_on; exact rfl; first | ((first | apply G1_move | apply G1_assign | apply G1_nilCheck); exact rfl; exact rfl) | (apply G1_sliceLoJ (q := 0); exact T.s22; exact rfl; exact rfl; exact rfl; exact hok; exact Nat.le_refl _; exact rfl) | (apply G1_copyN; exact T.s22; exact rfl; exact rfl; exact rfl; exact rfl; exact rfl) | (apply G1_sliceHiJ (q := 0); exact T.s22; exact rfl; exact rfl; exact rfl; exact Nat.zero_le _; exact rfl) | (apply G1_fieldAddr; (first | exact T.f109_0 | exact T.f109_1); exact rfl; exact rfl) | (apply G1_loadB; (first | exact T.p22 | exact T.p3); exact rfl; assumption; exact rfl; exact rfl)) | apply G_nil | apply Post_next | apply W_region | (refine GT_leaf ?_) | (refine GT_node ?_) | (apply GT_alt) | (exact GT_stop))
  all_goals
    apply G_on; exact rfl; apply G1_storeB; exact T.z22; exact rfl; exact rfl; exact hbk; exact rfl; exact rfl; (first | exact Nat.le_of_ble_eq_true rfl | (focus (simp [Value.cells]; done))); (first | exact Enc.one _ _ | (focus (simp [Value.oneCell']; done)) | (focus (simp [Value.cells, Value.oneCell']; done)) | exact Enc.oneAgg _ _); exact rfl; (first | exact .inl rfl | exact .inr (by simp [exempt])); exact rfl; intro w2 hA2 hg2 hs2
    repeat' (apply G_on; exact rfl; first | (apply G1_nilCheck; exact rfl; exact rfl) | (apply G1_fieldAddr; exact T.f109_1; exact rfl; exact rfl))
    apply G_on; exact rfl; apply G1_storeB; exact T.z3; exact rfl; exact rfl; exact hA2; exact rfl; exact rfl; (first | exact Nat.le_of_ble_eq_true rfl | (focus (simp [Value.cells]; done))); (first | exact Enc.one _ _ | (focus (simp [Value.oneCell']; done)) | (focus (simp [Value.cells, Value.oneCell']; done)) | exact Enc.oneAgg _ _); exact rfl; (first | exact .inl rfl | exact .inr (by simp [exempt])); exact rfl; intro w3 hA3 hg3 hs3
    replace hA3 : Blk w3.heap ar 109 [.slice none 0 0, .int .i64 ((0 : Nat) : Int), .int .i64 (r.left : Int), .int .i64 r.size, .slice pw r.words.length cw, .int .i64 (r.held : Int), .int .i64 0] := hA3
    have hg := grown_same hg2 hg3
    have h3 := (hR.xt (show Ext w _ from Ext.drew Ext.rfl')).set hg hA3 rfl (Nat.le_refl _)
    repeat' apply G_nil
    refine Post_end Tryz.results56 (vs := []) rfl ?_
    exact ⟨(FrS.of_ext (F := fun q => q = ar ∨ bx q = (none : Option Addr)) (show Ext w _ from Ext.drew Ext.rfl')).trans (FrS.of_grown hg (fun k hk => by injection hk with hk; exact .inl hk.symm)) (fun _ _ h => h), h3⟩
theorem bytes_enc : ∀ l : List UInt8, l.flatMap eByte.enc = l.map (fun x => Value.int .u8 x.toNat)
  | [] => rfl
  | x :: l => by rw [List.flatMap_cons, bytes_enc l]; rfl
theorem tidy_row {w0 : World} {ar B : Nat} {p : Option Addr} {c a : Nat} {inp : List UInt8} {pw : Option Addr} {cw : Nat} {r : RS} {w : World} (hR : RdSt w0 w ar B p c inp a pw cw r 0) (hp : p ≠ none) (hap : ∀ x y, pw = some x → p = some y → x.block ≠ y.block) (hN : inp.length ≤ 1000000000) :
    Ctr Tryz.prog 56 [.pointer (some (adr (bx ar) 0))] w (fun _ w' => FrS (fun q => q = ar ∨ bx q = p) w w' ∧ RdSt w0 w' ar B p c (inp.drop a) 0 pw cw r 0) := by
  have hC := hR.row.sl
  have hok := hC.ok
  have hle := hok.le
  have hla := hR.la
  have hbk := hR.blk
  have hlt := hR.lt
  have hD : Sl w.heap eByte (subp p c a 1) (c - a) (inp.drop a) := hC.drop (by omega)
  obtain ⟨gb, cur, rfl, hgB, hV, hcl, hcm, hnc, htk⟩ := hR.row.toBlk hp
  have hdl : ((inp.drop a).flatMap eByte.enc).length = inp.length - a := by rw [bytes_enc, List.length_map, List.length_drop]
  have hac : (inp.drop a).flatMap eByte.enc ≠ [] → a < c := fun hne => Nat.lt_of_not_le (fun hge => hne (by rw [List.drop_of_length_le (by omega)]; rfl))
  have hcl1 : cur.length = c := by rw [hcl]; exact Nat.mul_one c
  refine Ctr_of Tryz.func56 Tryz.ntmps56 rfl rfl rfl ?_
  repeat' (first | (apply G_on; exact rfl; first | ((first | apply G1_move | apply G1_nilCheck); exact rfl; exact rfl) | (apply G1_fieldAddr; exact T.f109_6; exact rfl; exact rfl) | (apply G1_loadB; exact T.p44; exact rfl; assumption; exact rfl; exact rfl) | (apply G1_neq; exact rfl; exact rfl; exact rfl)) | apply G_nil | apply Post_next | apply W_seq | apply W_region | (apply W_cond_false; exact rfl) | apply W_skip)
  all_goals try (exfalso; omega)
  refine W_drawnT 1 [] (.node [0,1,2,4,5,6,8,9,10,3] (.alt 7 (.node [] (.alt 11 (.leaf [12,13,14]) .stop)) (.alt 11 (.node [] (.alt 7 (.leaf [12,13,14]) .stop)) .stop))) mixed (by decide +kernel) ?_
  repeat' (first | (apply G_on; exact rfl; first | ((first | apply G1_move | apply G1_nilCheck); exact rfl; exact rfl) | (apply G1_sliceLoJ (q := a); exact T.s22; exact rfl; exact rfl; exact rfl; exact hok; omega; exact rfl) | (apply G1_fieldAddr; (first | exact T.f109_0 | exact T.f109_1); exact rfl; exact rfl) | (apply G1_loadB; (first | exact T.p22 | exact T.p3); exact rfl; assumption; exact rfl; exact rfl)) | apply G_nil | (refine GT_leaf ?_) | (refine GT_node ?_) | (apply GT_alt) | (exact GT_stop))
  all_goals
    apply G_on; exact rfl
    apply G1_copyB (gb := gb) (o := 0) (T := 5) (cur := cur) ((inp.drop a).flatMap eByte.enc); exact T.s22; exact rfl; exact rfl
    · exact rfl
    · exact hV.ext (Ext.drew Ext.rfl')
    · exact fun hne => ⟨gb, a * 1, subp_bx (hac hne)⟩
    · rw [hdl, Nat.min_eq_left (by omega), Nat.mul_one]
    · intro j v hj
      rw [bytes_enc, List.getElem?_map] at hj
      rcases hx : (inp.drop a)[j]? with _ | x
      · rw [hx] at hj; cases hj
      · rw [hx] at hj
        have := (hD.ext (show Ext w w.drew from Ext.drew Ext.rfl')).cell j x hx 0 v hj
        simpa [eByte] using this
    · rw [hdl, hcl1]; omega
    · exact flat_one _ _
    · decide
    · exact rfl
    · exact rfl
    · exact rfl
    intro w2 hV2 hg2 hz2
    have hx1 : Ext w w.drew := Ext.drew Ext.rfl'
    have hbk2 := (hbk.ext hx1).grown hg2 (by intro e; injection e with e; omega)
    rw [Nat.min_eq_left (show inp.length - a ≤ inp.length by omega)]
    repeat' (first | (apply G_on; exact rfl; first | ((first | apply G1_move | apply G1_assign | apply G1_nilCheck); exact rfl; exact rfl) | (apply G1_sliceHiJ (q := inp.length - a); exact T.s22; exact rfl; exact rfl; exact rfl; omega; exact rfl) | (apply G1_fieldAddr; exact T.f109_0; exact rfl; exact rfl) | (apply G1_loadB; exact T.p22; exact rfl; assumption; exact rfl; exact rfl)) | apply G_nil | apply Post_next | apply W_region)
    apply G_on; exact rfl; apply G1_storeB; exact T.z22; exact rfl; exact rfl; exact hbk2; exact rfl; exact rfl; (first | exact Nat.le_of_ble_eq_true rfl | (focus (simp [Value.cells]; done))); (first | exact Enc.one _ _ | (focus (simp [Value.oneCell']; done)) | (focus (simp [Value.cells, Value.oneCell']; done)) | exact Enc.oneAgg _ _); exact rfl; (first | exact .inl rfl | exact .inr (by simp [exempt])); exact rfl; intro w3 hA3 hg3 hs3
    repeat' (apply G_on; exact rfl; first | (apply G1_nilCheck; exact rfl; exact rfl) | (apply G1_fieldAddr; exact T.f109_1; exact rfl; exact rfl))
    apply G_on; exact rfl; apply G1_storeB; exact T.z3; exact rfl; exact rfl; exact hA3; exact rfl; exact rfl; (first | exact Nat.le_of_ble_eq_true rfl | (focus (simp [Value.cells]; done))); (first | exact Enc.one _ _ | (focus (simp [Value.oneCell']; done)) | (focus (simp [Value.cells, Value.oneCell']; done)) | exact Enc.oneAgg _ _); exact rfl; (first | exact .inl rfl | exact .inr (by simp [exempt])); exact rfl; intro w4 hA4 hg4 hs4
    rw [← List.length_drop] at hA4
    replace hA4 : Blk w4.heap ar 109 [.slice (bx gb) (inp.drop a).length c, .int .i64 ((0 : Nat) : Int), .int .i64 (r.left : Int), .int .i64 r.size, .slice pw r.words.length cw, .int .i64 (r.held : Int), .int .i64 0] := hA4
    have hg := grown_same hg3 hg4
    have hO2 : Own w2 B 5 eByte (bx gb) c (inp.drop a) := Own.ofBlk hgB hV2 (by show _ = c * 1; simp only [List.length_append, List.length_take, List.length_drop, hdl]; omega) hcm (by rw [List.length_drop]; omega) (by
      rw [List.take_zero, List.nil_append]
      exact List.take_left' (by rw [hdl, List.length_drop]; exact (Nat.mul_one _).symm))
    have hW2 := (hR.wds.ext hx1).kept hg2 (fun x hx e => by injection e with e; exact hap x _ hx rfl e.symm)
    have hE2 : Ext w0 w2 := (hR.ext.trans hx1).own hg2 (fun k hk => by injection hk with hk; have := hR.h0; omega)
    repeat' apply G_nil
    refine Post_end Tryz.results56 (vs := []) rfl ?_
    have hne : ∀ x : Addr, some ar = some x.block → B ≤ x.block → False := fun x e h2 => by injection e with e; omega
    have h3 : RdSt w0 w4 ar B (bx gb) c (inp.drop a) 0 pw cw r 0 :=
      ⟨hA4, hO2.kept hg (fun x hx e => hne x e (hO2.ge x.block (by rw [hx]; rfl)).1), hW2.kept hg (fun x hx e => hne x e (hW2.ge x.block (by rw [hx]; rfl)).1), hE2.own hg (fun k hk => by injection hk with hk; have := hR.h0; omega), hR.h0, hR.lt, Nat.le_trans hR.hB (Nat.le_trans hx1.size (Nat.le_trans hg2.size hg.size)), Nat.zero_le _⟩
    exact ⟨((FrS.of_ext (F := fun q => q = ar ∨ bx q = bx gb) hx1).trans (FrS.of_grown (F := fun q => q = ar ∨ bx q = bx gb) hg2 (fun k hk => by injection hk with hk; exact .inr (by rw [hk]))) (fun _ _ h => h)).trans (FrS.of_grown (F := fun q => q = ar ∨ bx q = bx gb) hg (fun k hk => by injection hk with hk; exact .inl hk.symm)) (fun _ _ h => h), h3⟩
def rdBad (ft : Int) : Value := .agg #[.slice none 0 0, .int .i64 0, .int .i64 0, .int .i64 0, .slice none 0 0, .int .i64 0, .int .i64 ft]
def rdNew : Value := .agg #[.slice none 0 0, .int .i64 0, .int .i64 0, .int .i64 (-1), .slice none 0 0, .int .i64 0, .int .i64 0]
theorem bldBad (ft : Int) (w : World) : (Instr.build 109 [(6, Value.int .i64 ft)].toArray).run Tryz.prog w = .ok (rdBad ft) w := by kernel_rfl
theorem bldNew (w : World) : (Instr.build 109 [(3, Value.int .i64 (-1))].toArray).run Tryz.prog w = .ok rdNew w := by kernel_rfl
theorem one_bad (ft : Int) : ∀ v, v ∈ (rdBad ft).cells.toList → v.oneCell' = true := by
  have e : (rdBad ft).cells.toList = [.slice none 0 0, .int .i64 0, .int .i64 0, .int .i64 0, .slice none 0 0, .int .i64 0, .int .i64 ft] := rfl
  rw [e]
  simp [Value.oneCell']
theorem tidy_bad {w0 : World} {ar B : Nat} {p : Option Addr} {c a : Nat} {inp : List UInt8} {pw : Option Addr} {cw : Nat} {r : RS} {ft : Int} {w : World} (hR : RdSt w0 w ar B p c inp a pw cw r ft) (hft : ft ≠ 0) :
    Ctr Tryz.prog 56 [.pointer (some (adr (bx ar) 0))] w (fun _ w' => FrS (fun q => q = ar) w w' ∧ RdSt w0 w' ar B none 0 [] 0 none 0 { left := 0, size := 0, words := [], held := 0 } ft) := by
  have hbk := hR.blk
  refine Ctr_of Tryz.func56 Tryz.ntmps56 rfl rfl rfl ?_
  repeat' (first | (apply G_on; exact rfl; first | ((first | apply G1_move | apply G1_nilCheck); exact rfl; exact rfl) | (apply G1_build (rdBad ft); exact rfl; exact bldBad _; exact rfl) | (apply G1_fieldAddr; exact T.f109_6; exact rfl; exact rfl) | (apply G1_loadB; exact T.p44; exact rfl; assumption; exact rfl; exact rfl) | (apply G1_neq; exact rfl; exact rfl; exact rfl)) | apply G_nil | apply Post_next | apply W_seq | apply W_region | (apply W_cond_dec; exact rfl; all_goals (intro h; try (exfalso; omega))))
  all_goals try (exfalso; omega)
  apply G_on; exact rfl; apply G1_storeB; exact T.z109; exact rfl; exact rfl; exact hbk; exact rfl; exact rfl; exact Nat.le_of_ble_eq_true rfl; exact one_bad ft; exact rfl; exact .inl rfl; exact rfl; intro w3 hA3 hg3 hs3
  replace hA3 : Blk w3.heap ar 109 [.slice none 0 0, .int .i64 ((0 : Nat) : Int), .int .i64 ((0 : Nat) : Int), .int .i64 0, .slice none 0 0, .int .i64 ((0 : Nat) : Int), .int .i64 ft] := hA3
  have hx1 : Ext w w := Ext.rfl'
  repeat' (first | apply G_nil | apply Post_next | apply W_ret | apply Post_then_ret)
  refine Post_ret Tryz.results56 (vs := []) rfl ?_
  exact ⟨FrS.of_grown hg3 (fun k hk => by injection hk with hk; exact hk.symm), ⟨hA3, Own.nil _ _ _ _, Own.nil _ _ _ _, hR.ext.own hg3 (fun k hk => by injection hk with hk; have := hR.h0; omega), hR.h0, hR.lt, Nat.le_trans hR.hB hg3.size, Nat.le_refl _⟩⟩
/-- a new reader -/
theorem new_spec {w : World} : Ctr Tryz.prog 17 [] w (fun v w' => Ext w w' ∧ ∃ ar, v = .pointer (some (adr (bx ar) 0)) ∧ RdSt w w' ar (ar + 1) none 0 [] 0 none 0 rs0 0) := by
  refine Ctr_of Tryz.func17 Tryz.ntmps17 rfl rfl rfl ?_
  repeat' (first | (apply G_on; exact rfl; first | (apply G1_assign; exact rfl; exact rfl) | (apply G1_build rdNew; exact rfl; exact bldNew; exact rfl)) | apply G_nil | apply Post_next | apply W_seq | apply W_region)
  apply G_on; exact rfl; apply G1_box; exact rfl; exact rfl; exact rfl; intro a1 w1 ha1 hA1 hx1 hs1
  replace hA1 : Blk w1.heap a1 109 [.slice none 0 0, .int .i64 ((0 : Nat) : Int), .int .i64 ((0 : Nat) : Int), .int .i64 (-1), .slice none 0 0, .int .i64 ((0 : Nat) : Int), .int .i64 0] := hA1
  repeat' (first | (apply G_on; exact rfl; (apply G1_assign; exact rfl; exact rfl)) | apply G_nil | apply Post_next | apply W_ret)
  refine Post_ret Tryz.results17 ⟨_, _, rfl, rfl, rfl⟩ ?_
  exact ⟨hx1, a1, rfl, ⟨hA1, Own.nil _ _ _ _, Own.nil _ _ _ _, hx1, by omega, by omega, by omega, Nat.le_refl _⟩⟩

end Go.Proofs.YtipbakiecocioaaGreatDoor

/- Requests: what a reader gives; the walk. -/
namespace Go.V
theorem blk_ne {H : Array Obj} {b b' : Nat} {t t' : TypeId} {cs cs' : List Value} (h : Blk H b t cs) (h' : Blk H b' t' cs') (ht : t ≠ t') : b ≠ b' := by
  rintro rfl
  unfold Blk at h h'
  rw [h] at h'
  injection h' with e
  injection e
  contradiction
/-- a row of one's own is a block of its type -/
theorem Own.ty {α : Type} {e : Enc α} {w : World} {B T : Nat} {p : Option Addr} {c : Nat} {xs : List α} (h : Own w B T e p c xs) {x : Addr} (hx : p = some x) : ∃ cur, Blk w.heap x.block T cur := by
  obtain ⟨gb, cur, e1, _, hV, _⟩ := h.toBlk (by rw [hx]; exact fun h => by cases h)
  rw [hx] at e1
  injection e1 with e1
  exact ⟨cur, by rw [e1]; exact hV⟩
theorem Own.apart {α : Type} {e : Enc α} {w : World} {B T : Nat} {p : Option Addr} {c : Nat} {xs : List α} (h : Own w B T e p c xs) {x : Addr} (hx : p = some x) {b t : Nat} {cs : List Value} (hb : Blk w.heap b t cs) (ht : T ≠ t) : b ≠ x.block := by
  obtain ⟨cur, hV⟩ := h.ty hx
  exact fun e => blk_ne hV hb ht e.symm
theorem Own.apart2 {α β : Type} {e : Enc α} {f : Enc β} {w : World} {B T B' T' : Nat} {p q : Option Addr} {c d : Nat} {xs : List α} {ys : List β} (h : Own w B T e p c xs) (k : Own w B' T' f q d ys) (ht : T ≠ T') {x y : Addr} (hx : p = some x) (hy : q = some y) : x.block ≠ y.block := by
  obtain ⟨cur, hV⟩ := h.ty hx
  exact k.apart hy hV (fun e => ht e.symm)
end Go.V
namespace Go.Proofs.YtipbakiecocioaaGreatDoor
open Go.V
attribute [local irreducible] Blk Own hcell IntT SliceT PlainT AggT SizeT StrT FieldT ZeroT EqT ArrT
/-- another block than the reader's own is turned -/
theorem RdSt.turned {w0 w w' : World} {ar B : Nat} {p : Option Addr} {c : Nat} {inp : List UInt8} {a : Nat} {pw : Option Addr} {cw : Nat} {r : RS} {ft : Int} {row : Option Nat} (h : RdSt w0 w ar B p c inp a pw cw r ft) (hg : w.grownBy w' row)
    (h1 : row ≠ some ar) (h2 : ∀ x, p = some x → row ≠ some x.block) (h3 : ∀ x, pw = some x → row ≠ some x.block) (h4 : ∀ k, row = some k → w0.heap.size ≤ k) : RdSt w0 w' ar B p c inp a pw cw r ft :=
  ⟨h.blk.grown hg h1, h.row.kept hg h2, h.wds.kept hg h3, h.ext.own hg h4, h.h0, h.lt, Nat.le_trans h.hB hg.size, h.la⟩
theorem RdSt.apart {w0 w : World} {ar B : Nat} {p : Option Addr} {c : Nat} {inp : List UInt8} {a : Nat} {pw : Option Addr} {cw : Nat} {r : RS} {ft : Int} (h : RdSt w0 w ar B p c inp a pw cw r ft) : ∀ x y, pw = some x → p = some y → x.block ≠ y.block :=
  fun _ _ hx hy => h.wds.apart2 h.row (by decide) hx hy
theorem tidy_ok {w0 : World} {ar B : Nat} {p : Option Addr} {c a : Nat} {inp : List UInt8} {pw : Option Addr} {cw : Nat} {r : RS} {w : World} (hR : RdSt w0 w ar B p c inp a pw cw r 0) (hN : inp.length ≤ 1000000000) :
    Ctr Tryz.prog 56 [.pointer (some (adr (bx ar) 0))] w (fun _ w' => FrS (fun q => q = ar ∨ bx q = p) w w' ∧ RdSt w0 w' ar B p c (inp.drop a) 0 pw cw r 0) := by
  cases p with
  | none => exact tidy_nil hR
  | some x => exact tidy_row hR (fun e => by cases e) hR.apart hN
/-- what Feed has beside the reader: the pointer to it, the done lines -/
structure GvSt (w : World) (ar B a2 a8 : Nat) (pd : Option Addr) (cd : Nat) (hs : List Hdr) : Prop where
  ptr : Blk w.heap a2 60 [.pointer (some (adr (bx ar) 0))]
  box : Blk w.heap a8 58 [.slice pd hs.length cd]
  row : Own w B 37 eSlc pd cd hs
set_option maxHeartbeats 2000000 in
theorem give_spec {w0 : World} {ar B B' a2 a8 : Nat} {p : Option Addr} {c a : Nat} {inp : List UInt8} {pw : Option Addr} {cw : Nat} {r : RS} {pd : Option Addr} {cd : Nat} {hs : List Hdr} {q : Option Addr} {m d : Nat} {w : World} (hR : RdSt w0 w ar B p c inp a pw cw r 0) (hG : GvSt w ar B' a2 a8 pd cd hs)
    (h8 : w0.heap.size ≤ a8) (hB : w0.heap.size ≤ B') (hB' : B' ≤ w.heap.size) (hl : hs.length ≤ 1000000000) :
    Ctr Tryz.prog 50 [.slice q m d, .pointer (some (adr (bx a8) 0)), .pointer (some (adr (bx a2) 0))] w (fun _ w' => ∃ pd' cd', RdSt w0 w' ar B p c inp a none 0 { r with words := [], held := 0 } 0 ∧ GvSt w' ar B' a2 a8 pd' cd' (hs ++ [(q, m, d)]) ∧ FrS (fun k => k = ar ∨ k = a8 ∨ bx k = pd) w w' ∧ ∀ k, blk pd' = some k → blk pd = some k ∨ w.heap.size ≤ k) := by
  have hA2 := hG.ptr
  have hA8 := hG.box
  have hO := hG.row
  have hzB := hR.hB
  refine Ctr_of Tryz.func50 Tryz.ntmps50 rfl rfl rfl ?_
  repeat' (first | (apply G_on; exact rfl; first | ((first | apply G1_move | apply G1_nilCheck); exact rfl; exact rfl) | (apply G1_loadB; (first | exact T.p58 | exact T.p60); exact rfl; assumption; exact rfl; exact rfl) | (apply G1_loadBS; (first | exact T.p58 | exact T.p60); exact rfl; assumption; exact rfl; (first | assumption | (focus (simp [exempt]; omega))); exact rfl) | (apply G1_loadFld; (first | exact T.p58 | exact T.p60); exact rfl; assumption; assumption; exact rfl; exact rfl; exact rfl) | (apply G1_loadEl1; (first | exact T.p58 | exact T.p60); exact rfl; assumption; assumption; exact rfl; exact rfl; exact rfl) | (apply G1_nilCheckF; exact rfl; exact rfl) | (apply G1_fieldAddr; (first | exact T.f109_4 | exact T.f109_5); exact rfl; exact rfl)) | apply G_nil | apply Post_next | apply W_seq | apply W_region | (apply W_cond_true; exact rfl) | (apply W_cond_false; exact rfl) | (apply W_cond_dec; exact rfl; all_goals (intro h; try (exfalso; omega))) | (apply W_cond; exact rfl; all_goals intro h) | (apply G_off; exact rfl; exact rfl) | ((fail_if_success (apply G_on; exact rfl)); apply G_split_dec; exact rfl; exact rfl; all_goals (intro h; try (exfalso; omega))) | ((fail_if_success (apply G_on; exact rfl)); apply G_split; exact rfl; exact rfl; all_goals intro h) | refine W_drawn 1 [] [0,1,2,3,4,5,6,7] mixed (by decide +kernel) ?_ | apply W_skip | apply W_exit | apply W_ret | apply W_block | apply Post_then_ret | apply Post_block_ret | apply Post_then_exit | apply Post_block_exit | (apply Post_block_other; exact rfl) | apply Post_block_normal)
  apply G_on; exact rfl
  apply G1_build1 eSlc (q, m, d); exact T.s58; exact rfl; exact rfl; exact rfl; decide; exact rfl; exact rfl
  intro p4 w4 hp4 hs4 _ hx4 hz4
  replace hO := hO.ext hx4
  replace hA2 := hA2.ext hx4
  replace hA8 := hA8.ext hx4
  have hR4 := hR.xt hx4
  have hge := hO.ge
  repeat' (first | (apply G_on; exact rfl; first | ((first | apply G1_move | apply G1_nilCheck); exact rfl; exact rfl) | (apply G1_appendA; exact T.s58; exact rfl; exact rfl; exact hO; exact hs4; exact rfl; omega; (simp only [List.length_cons, List.length_nil]; omega); (simp only [List.length_cons, List.length_nil]; omega); exact rfl; exact rfl; exact rfl; intro p5 c5 w5 ha5) | (apply G1_loadB; (first | exact T.p58 | exact T.p60); exact rfl; assumption; exact rfl; exact rfl) | (apply G1_loadBS; (first | exact T.p58 | exact T.p60); exact rfl; assumption; exact rfl; (first | assumption | (focus (simp [exempt]; omega))); exact rfl) | (apply G1_loadFld; (first | exact T.p58 | exact T.p60); exact rfl; assumption; assumption; exact rfl; exact rfl; exact rfl) | (apply G1_loadEl1; (first | exact T.p58 | exact T.p60); exact rfl; assumption; assumption; exact rfl; exact rfl; exact rfl) | (apply G1_nilCheckF; exact rfl; exact rfl) | (apply G1_fieldAddr; (first | exact T.f109_4 | exact T.f109_5); exact rfl; exact rfl)) | apply G_nil | apply Post_next | apply W_seq | apply W_region | (apply W_cond_true; exact rfl) | (apply W_cond_false; exact rfl) | (apply W_cond_dec; exact rfl; all_goals (intro h; try (exfalso; omega))) | (apply W_cond; exact rfl; all_goals intro h) | (apply G_off; exact rfl; exact rfl) | ((fail_if_success (apply G_on; exact rfl)); apply G_split_dec; exact rfl; exact rfl; all_goals (intro h; try (exfalso; omega))) | ((fail_if_success (apply G_on; exact rfl)); apply G_split; exact rfl; exact rfl; all_goals intro h) | refine W_drawn 1 [] [0,1,2,3,4,5,6,7] mixed (by decide +kernel) ?_ | apply W_skip | apply W_exit | apply W_ret | apply W_block | apply Post_then_ret | apply Post_block_ret | apply Post_then_exit | apply Post_block_exit | (apply Post_block_other; exact rfl) | apply Post_block_normal)
  have hrow : ∀ k, blk pd = some k → ∃ x, pd = some x ∧ x.block = k := fun k hk => by
    cases hpd : pd with
    | none => rw [hpd] at hk; cases hk
    | some x => rw [hpd] at hk; injection hk with hk; exact ⟨x, rfl, hk⟩
  have hR5 := hR4.turned ha5.grown (fun e => by obtain ⟨x, hx, hk⟩ := hrow _ e; exact hO.apart hx hR4.blk (by decide) hk.symm) (fun y hy e => by obtain ⟨x, hx, hk⟩ := hrow _ e; exact hO.apart2 hR4.row (by decide) hx hy hk) (fun y hy e => by obtain ⟨x, hx, hk⟩ := hrow _ e; exact hO.apart2 hR4.wds (by decide) hx hy hk) (fun k e => by have := hge k e; omega)
  have hA25 := hA2.grown ha5.grown (fun e => by obtain ⟨x, hx, hk⟩ := hrow _ e; exact hO.apart hx hA2 (by decide) hk.symm)
  have hA85 := hA8.grown ha5.grown (fun e => by obtain ⟨x, hx, hk⟩ := hrow _ e; exact hO.apart hx hA8 (by decide) hk.symm)
  apply G_on; exact rfl; apply G1_storeB; exact T.z58; exact rfl; exact rfl; exact hA85; exact rfl; exact rfl; (first | exact Nat.le_of_ble_eq_true rfl | (focus (simp [Value.cells]; done))); (first | exact Enc.one _ _ | (focus (simp [Value.oneCell']; done)) | (focus (simp [Value.cells, Value.oneCell']; done)) | exact Enc.oneAgg _ _); exact rfl; (first | exact .inl rfl | exact .inr (by simp [exempt])); exact rfl; intro w6 hA86 hg6 hs6
  replace hA86 : Blk w6.heap a8 58 [.slice p5 (hs ++ [(q, m, d)]).length c5] := hA86
  have hR6 := hR5.turned hg6 (fun e => by injection e with e; exact blk_ne hA85 hR5.blk (by decide) e) (fun y hy e => by injection e with e; exact hR5.row.apart hy hA85 (by decide) e) (fun y hy e => by injection e with e; exact hR5.wds.apart hy hA85 (by decide) e) (fun k e => by injection e with e; omega)
  have hA26 := hA25.grown hg6 (fun e => by injection e with e; exact blk_ne hA85 hA25 (by decide) e)
  have hO6 := ha5.own.kept hg6 (fun x hx e => by injection e with e; exact ha5.own.apart hx hA85 (by decide) e)
  have hbk := hR6.blk
  repeat' (first | (apply G_on; exact rfl; first | ((first | apply G1_move | apply G1_nilCheck); exact rfl; exact rfl) | (apply G1_loadB; (first | exact T.p58 | exact T.p60); exact rfl; assumption; exact rfl; exact rfl) | (apply G1_loadBS; (first | exact T.p58 | exact T.p60); exact rfl; assumption; exact rfl; (first | assumption | (focus (simp [exempt]; omega))); exact rfl) | (apply G1_loadFld; (first | exact T.p58 | exact T.p60); exact rfl; assumption; assumption; exact rfl; exact rfl; exact rfl) | (apply G1_loadEl1; (first | exact T.p58 | exact T.p60); exact rfl; assumption; assumption; exact rfl; exact rfl; exact rfl) | (apply G1_nilCheckF; exact rfl; exact rfl) | (apply G1_fieldAddr; (first | exact T.f109_4 | exact T.f109_5); exact rfl; exact rfl)) | apply G_nil | apply Post_next | apply W_seq | apply W_region | (apply W_cond_true; exact rfl) | (apply W_cond_false; exact rfl) | (apply W_cond_dec; exact rfl; all_goals (intro h; try (exfalso; omega))) | (apply W_cond; exact rfl; all_goals intro h) | (apply G_off; exact rfl; exact rfl) | ((fail_if_success (apply G_on; exact rfl)); apply G_split_dec; exact rfl; exact rfl; all_goals (intro h; try (exfalso; omega))) | ((fail_if_success (apply G_on; exact rfl)); apply G_split; exact rfl; exact rfl; all_goals intro h) | refine W_drawn 1 [] [0,1,2,3,4,5,6,7] mixed (by decide +kernel) ?_ | apply W_skip | apply W_exit | apply W_ret | apply W_block | apply Post_then_ret | apply Post_block_ret | apply Post_then_exit | apply Post_block_exit | (apply Post_block_other; exact rfl) | apply Post_block_normal)
  have nA2 := blk_ne hA26 hbk (by decide)
  refine W_drawn 3 [ar] [0,1,2,3,4,5,6,7] mixed (by decide +kernel) ?_
  repeat' (first | (apply G_on; exact rfl; first | ((first | apply G1_move | apply G1_nilCheck); exact rfl; exact rfl) | (apply G1_loadB; (first | exact T.p58 | exact T.p60); exact rfl; assumption; exact rfl; exact rfl) | (apply G1_loadBS; (first | exact T.p58 | exact T.p60); exact rfl; assumption; exact rfl; (first | assumption | (focus (simp [exempt]; omega))); exact rfl) | (apply G1_loadFld; (first | exact T.p58 | exact T.p60); exact rfl; assumption; assumption; exact rfl; exact rfl; exact rfl) | (apply G1_loadEl1; (first | exact T.p58 | exact T.p60); exact rfl; assumption; assumption; exact rfl; exact rfl; exact rfl) | (apply G1_nilCheckF; exact rfl; exact rfl) | (apply G1_fieldAddr; (first | exact T.f109_4 | exact T.f109_5); exact rfl; exact rfl)) | apply G_nil | apply Post_next | apply W_seq | apply W_region | (apply W_cond_true; exact rfl) | (apply W_cond_false; exact rfl) | (apply W_cond_dec; exact rfl; all_goals (intro h; try (exfalso; omega))) | (apply W_cond; exact rfl; all_goals intro h) | (apply G_off; exact rfl; exact rfl) | ((fail_if_success (apply G_on; exact rfl)); apply G_split_dec; exact rfl; exact rfl; all_goals (intro h; try (exfalso; omega))) | ((fail_if_success (apply G_on; exact rfl)); apply G_split; exact rfl; exact rfl; all_goals intro h) | refine W_drawn 1 [] [0,1,2,3,4,5,6,7] mixed (by decide +kernel) ?_ | apply W_skip | apply W_exit | apply W_ret | apply W_block | apply Post_then_ret | apply Post_block_ret | apply Post_then_exit | apply Post_block_exit | (apply Post_block_other; exact rfl) | apply Post_block_normal)
  apply G_on; exact rfl; apply G1_storeB; exact T.z37; exact rfl; exact rfl; exact hbk; exact rfl; exact rfl; (first | exact Nat.le_of_ble_eq_true rfl | (focus (simp [Value.cells]; done))); (first | exact Enc.one _ _ | (focus (simp [Value.oneCell']; done)) | (focus (simp [Value.cells, Value.oneCell']; done)) | exact Enc.oneAgg _ _); exact rfl; (first | exact .inl rfl | exact .inr (by simp [exempt])); exact rfl; intro w7 hA7 hg7 hs7
  repeat' (first | (apply G_on; exact rfl; first | ((first | apply G1_move | apply G1_nilCheck); exact rfl; exact rfl) | (apply G1_loadB; (first | exact T.p58 | exact T.p60); exact rfl; assumption; exact rfl; exact rfl) | (apply G1_loadBS; (first | exact T.p58 | exact T.p60); exact rfl; assumption; exact rfl; (first | assumption | (focus (simp [exempt]; omega))); exact rfl) | (apply G1_loadFld; (first | exact T.p58 | exact T.p60); exact rfl; assumption; assumption; exact rfl; exact rfl; exact rfl) | (apply G1_loadEl1; (first | exact T.p58 | exact T.p60); exact rfl; assumption; assumption; exact rfl; exact rfl; exact rfl) | (apply G1_nilCheckF; exact rfl; exact rfl) | (apply G1_fieldAddr; (first | exact T.f109_4 | exact T.f109_5); exact rfl; exact rfl)) | apply G_nil | apply Post_next | apply W_seq | apply W_region | (apply W_cond_true; exact rfl) | (apply W_cond_false; exact rfl) | (apply W_cond_dec; exact rfl; all_goals (intro h; try (exfalso; omega))) | (apply W_cond; exact rfl; all_goals intro h) | (apply G_off; exact rfl; exact rfl) | ((fail_if_success (apply G_on; exact rfl)); apply G_split_dec; exact rfl; exact rfl; all_goals (intro h; try (exfalso; omega))) | ((fail_if_success (apply G_on; exact rfl)); apply G_split; exact rfl; exact rfl; all_goals intro h) | refine W_drawn 1 [] [0,1,2,3,4,5,6,7] mixed (by decide +kernel) ?_ | apply W_skip | apply W_exit | apply W_ret | apply W_block | apply Post_then_ret | apply Post_block_ret | apply Post_then_exit | apply Post_block_exit | (apply Post_block_other; exact rfl) | apply Post_block_normal)
  apply G_on; exact rfl; apply G1_storeB; exact T.z3; exact rfl; exact rfl; exact hA7; exact rfl; exact rfl; (first | exact Nat.le_of_ble_eq_true rfl | (focus (simp [Value.cells]; done))); (first | exact Enc.one _ _ | (focus (simp [Value.oneCell']; done)) | (focus (simp [Value.cells, Value.oneCell']; done)) | exact Enc.oneAgg _ _); exact rfl; (first | exact .inl rfl | exact .inr (by simp [exempt])); exact rfl; intro w8 hA8' hg8 hs8
  replace hA8' : Blk w8.heap ar 109 [.slice p inp.length c, .int .i64 (a : Int), .int .i64 (r.left : Int), .int .i64 r.size, .slice none 0 0, .int .i64 ((0 : Nat) : Int), .int .i64 0] := hA8'
  have hg := grown_same hg7 hg8
  have hx6 : Ext w6 w6.drew := Ext.drew Ext.rfl'
  have hR7 := hR6.xt hx6
  have hq : ∀ x : Addr, some ar = some x.block → B ≤ x.block → False := fun x e h2 => by injection e with e; have := hR.lt; omega
  have hne : ∀ x, p = some x → some ar ≠ some x.block := fun x hx e => hq x e (hR7.row.ge x.block (by rw [hx]; rfl)).1
  have hR8 : RdSt w0 w8 ar B p c inp a none 0 { r with words := [], held := 0 } 0 :=
    ⟨hA8', hR7.row.kept hg hne, Own.nil _ _ _ _, hR7.ext.own hg (fun k hk => by injection hk with hk; have := hR.h0; omega), hR.h0, hR.lt, Nat.le_trans hR7.hB hg.size, hR.la⟩
  have hO8 := (hO6.ext hx6).kept hg (fun x hx e => by injection e with e; exact (hO6.ext hx6).apart hx hR7.blk (by decide) e)
  repeat' (first | (apply G_on; exact rfl; first | ((first | apply G1_move | apply G1_nilCheck); exact rfl; exact rfl) | (apply G1_loadB; (first | exact T.p58 | exact T.p60); exact rfl; assumption; exact rfl; exact rfl) | (apply G1_loadBS; (first | exact T.p58 | exact T.p60); exact rfl; assumption; exact rfl; (first | assumption | (focus (simp [exempt]; omega))); exact rfl) | (apply G1_loadFld; (first | exact T.p58 | exact T.p60); exact rfl; assumption; assumption; exact rfl; exact rfl; exact rfl) | (apply G1_loadEl1; (first | exact T.p58 | exact T.p60); exact rfl; assumption; assumption; exact rfl; exact rfl; exact rfl) | (apply G1_nilCheckF; exact rfl; exact rfl) | (apply G1_fieldAddr; (first | exact T.f109_4 | exact T.f109_5); exact rfl; exact rfl)) | apply G_nil | apply Post_next | apply W_seq | apply W_region | (apply W_cond_true; exact rfl) | (apply W_cond_false; exact rfl) | (apply W_cond_dec; exact rfl; all_goals (intro h; try (exfalso; omega))) | (apply W_cond; exact rfl; all_goals intro h) | (apply G_off; exact rfl; exact rfl) | ((fail_if_success (apply G_on; exact rfl)); apply G_split_dec; exact rfl; exact rfl; all_goals (intro h; try (exfalso; omega))) | ((fail_if_success (apply G_on; exact rfl)); apply G_split; exact rfl; exact rfl; all_goals intro h) | refine W_drawn 1 [] [0,1,2,3,4,5,6,7] mixed (by decide +kernel) ?_ | apply W_skip | apply W_exit | apply W_ret | apply W_block | apply Post_then_ret | apply Post_block_ret | apply Post_then_exit | apply Post_block_exit | (apply Post_block_other; exact rfl) | apply Post_block_normal)
  refine Post_end Tryz.results50 (vs := []) rfl ?_
  refine ⟨p5, c5, hR8, ⟨(hA26.ext hx6).grown hg (fun e => by injection e with e; exact nA2 e.symm), (hA86.ext hx6).grown hg (fun e => by injection e with e; exact blk_ne hR7.blk (hA86.ext hx6) (by decide) e), hO8⟩, ?_⟩
  have f1 : FrS (fun k => k = ar ∨ k = a8 ∨ bx k = pd) w w4 := FrS.of_ext hx4
  have f2 : FrS (fun k => k = ar ∨ k = a8 ∨ bx k = pd) w4 w5 := FrS.of_grown ha5.grown (fun k hk => by
    obtain ⟨x, hx, e⟩ := hrow _ hk
    obtain ⟨gb, cur, e1, _⟩ := hO.toBlk (by rw [hx]; exact fun h => by cases h)
    rw [hx] at e1
    injection e1 with e1
    refine .inr (.inr ?_)
    rw [hx, e1, ← e, e1])
  have f3 : FrS (fun k => k = ar ∨ k = a8 ∨ bx k = pd) w5 w6 := FrS.of_grown hg6 (fun k hk => by injection hk with hk; exact .inr (.inl hk.symm))
  have f4 : FrS (fun k => k = ar ∨ k = a8 ∨ bx k = pd) w6.drew w8 := FrS.of_grown hg (fun k hk => by injection hk with hk; exact .inl hk.symm)
  have hnp := ha5.new
  unfold NewP at hnp
  have hz4' := hx4.size
  exact ⟨(((f1.trans f2 (fun _ _ h => h)).trans f3 (fun _ _ h => h)).trans (FrS.of_ext hx6) (fun _ _ h => h)).trans f4 (fun _ _ h => h), fun k hk => hnp.elim (fun h => .inl (by rw [← h]; exact hk)) (fun h => .inr (by have := h k hk; omega))⟩
end Go.Proofs.YtipbakiecocioaaGreatDoor

/- Requests: Feed; the walk. -/
namespace Go.V
section
variable {P : Program} {n : Nat} {E : Env} {w : World} {Q : Exit → Act → World → Prop}
theorem W_scopeI {c : Code} (h : W P n c (Exit.noGoto Q) E w) : W P n (.scope c) Q E w := by
  unfold W at *
  exact fun a ha => wp_scope_straight (h a ha)
theorem W_label {id : Nat} (h : Post n Q .normal E w) : W P n (.label id) Q E w := by
  unfold W; unfold Post at h
  exact fun a ha => wp_label (h a ha)
theorem Post_scopeN (h : Post n Q .normal E w) : Post n (Exit.noGoto Q) .normal E w := by unfold Post at *; exact h
theorem Post_scopeR (h : Post n Q .ret E w) : Post n (Exit.noGoto Q) .ret E w := by unfold Post at *; exact h
theorem Post_scopeE {id : Nat} (h : Post n Q (.exit id) E w) : Post n (Exit.noGoto Q) (.exit id) E w := by unfold Post at *; exact h
end
/-- what lies in a block that is not turned stays -/
theorem Sl.fr {α : Type} {e : Enc α} {F : Nat → Prop} {w w' : World} {p : Option Addr} {c : Nat} {xs : List α} (h : Sl w.heap e p c xs) (hf : FrS F w w') (hn : ∀ x, p = some x → ¬ F x.block) : Sl w'.heap e p c xs := by
  cases p with
  | none => exact ⟨h.ok, fun i x hi k v hv => by have := h.ok.nul rfl; have := h.ok.le; have := (List.getElem?_eq_some_iff.1 hi).1; omega⟩
  | some y =>
    refine ⟨h.ok, fun i x hi k v hv => ?_⟩
    have h1 := h.cell i x hi k v hv
    have hb : (adr (some y) (i * e.sz + k)).block = y.block := rfl
    rw [hcell_block (hf.block _ (hcell_lt h1) (by rw [hb]; exact hn y rfl))]
    exact h1
end Go.V
namespace Go.Proofs.YtipbakiecocioaaGreatDoor
open Go.V
attribute [local irreducible] Blk Own hcell IntT SliceT PlainT AggT SizeT StrT FieldT ZeroT EqT ArrT
theorem feed_bad {w0 : World} {ar B : Nat} {p : Option Addr} {c a : Nat} {inp : List UInt8} {pw : Option Addr} {cw : Nat} {r : RS} {ft : Int} {q : Option Addr} {m d : Nat} {w : World} (hR : RdSt w0 w ar B p c inp a pw cw r ft) (hft : ft ≠ 0) :
    Ctr Tryz.prog 18 [.pointer (some (adr (bx ar) 0)), .slice q m d] w (fun v w' => v = .tuple #[.slice none 0 0, .int .i64 ft] ∧ Ext w w') := by
  have hbk := hR.blk
  refine Ctr_of Tryz.func18 Tryz.ntmps18 rfl rfl rfl ?_
  repeat' (first | (apply G_on; exact rfl; first | ((first | apply G1_assign | apply G1_move | apply G1_nilCheck | apply G1_makeFunc); exact rfl; exact rfl) | (apply G1_loadB; (first | exact T.p60 | exact T.p44 | exact T.p22 | exact T.p3 | exact T.p37 | exact T.p58); exact rfl; assumption; exact rfl; exact rfl) | (apply G1_loadBS; (first | exact T.p60 | exact T.p44 | exact T.p22 | exact T.p3 | exact T.p37 | exact T.p58); exact rfl; assumption; exact rfl; (first | assumption | (focus (simp [exempt]; omega))); exact rfl) | (apply G1_loadFld; (first | exact T.p60 | exact T.p44 | exact T.p22 | exact T.p3 | exact T.p37 | exact T.p58); exact rfl; assumption; assumption; exact rfl; exact rfl; exact rfl) | (apply G1_loadEl1; (first | exact T.p60 | exact T.p44 | exact T.p22 | exact T.p3 | exact T.p37 | exact T.p58); exact rfl; assumption; assumption; exact rfl; exact rfl; exact rfl) | (apply G1_nilCheckF; exact rfl; exact rfl) | (apply G1_fieldAddr; (first | exact T.f109_6 | exact T.f109_0 | exact T.f109_2 | exact T.f109_4 | exact T.f109_5); exact rfl; exact rfl) | ((first | apply G1_neq | apply G1_lss | apply G1_gtr | apply G1_extract | apply G1_eql); exact rfl; exact rfl; exact rfl) | (apply G1_len; (first | exact T.s110 | exact T.s37); exact rfl; exact rfl) | (apply G1_indexAddrN; exact T.s110; exact rfl; exact rfl; (first | assumption | exact Sl.ok (by assumption) | exact (Own.sl (by assumption)).ok); omega; exact rfl) | (apply G1_indexAddr; exact T.s110; exact rfl; exact rfl; (first | assumption | exact Sl.ok (by assumption) | exact (Own.sl (by assumption)).ok); omega; omega; exact rfl) | (apply G1_add; exact rfl; exact rfl; omega; omega; exact rfl) | (apply G1_not_t; exact rfl; exact rfl) | (apply G1_not_f; exact rfl; exact rfl) | (apply G1_not_dec; exact rfl; exact rfl) | (apply G1_not; exact rfl; exact rfl) | (apply G1_sub; exact rfl; exact rfl; omega; omega; exact rfl) | (apply G1_slen; exact T.str9; exact rfl; exact rfl)) | apply G_nil | apply Post_next | apply W_seq | apply W_region | apply W_scopeI | apply W_label | apply Post_scopeR | apply Post_scopeN | apply Post_scopeE | (apply W_cond_true; exact rfl) | (apply W_cond_false; exact rfl) | (apply W_cond_dec; exact rfl; all_goals (intro h; try (exfalso; omega))) | (apply W_cond; exact rfl; all_goals intro h) | (apply G_off; exact rfl; exact rfl) | ((fail_if_success (apply G_on; exact rfl)); apply G_split_dec; exact rfl; exact rfl; all_goals (intro h; try (exfalso; omega))) | ((fail_if_success (apply G_on; exact rfl)); apply G_split; exact rfl; exact rfl; all_goals intro h) | refine W_drawn 1 [] [0,1,2,3,4,5] mixed (by decide +kernel) ?_ | refine W_drawn 1 [] [0,1,2,3,4,5,6,7,8,9] mixed (by decide +kernel) ?_ | refine W_drawn 1 [] [0,1,2,3,4,5,6,7,8,9,10] mixed (by decide +kernel) ?_ | refine W_drawn 1 [] [0,1,2,3,4,5,6,7,8,9,10,11] mixed (by decide +kernel) ?_ | refine W_drawn 1 [] [0,1,2,3,4,5,6] mixed (by decide +kernel) ?_ | apply W_skip | apply W_exit | apply W_ret | apply W_block | apply Post_then_ret | apply Post_block_ret | apply Post_then_exit | apply Post_block_exit | (apply Post_block_other; exact rfl) | apply Post_block_normal)
  apply G_on; exact rfl; apply G1_box; exact rfl; exact rfl; exact rfl; intro a2 w1 ha1 hA2 hx1 hs1
  replace hA2 : Blk w1.heap a2 60 [.pointer (some (adr (bx ar) 0))] := hA2
  replace hbk := hbk.ext hx1
  repeat' (first | (apply G_on; exact rfl; first | ((first | apply G1_assign | apply G1_move | apply G1_nilCheck | apply G1_makeFunc); exact rfl; exact rfl) | (apply G1_loadB; (first | exact T.p60 | exact T.p44 | exact T.p22 | exact T.p3 | exact T.p37 | exact T.p58); exact rfl; assumption; exact rfl; exact rfl) | (apply G1_loadBS; (first | exact T.p60 | exact T.p44 | exact T.p22 | exact T.p3 | exact T.p37 | exact T.p58); exact rfl; assumption; exact rfl; (first | assumption | (focus (simp [exempt]; omega))); exact rfl) | (apply G1_loadFld; (first | exact T.p60 | exact T.p44 | exact T.p22 | exact T.p3 | exact T.p37 | exact T.p58); exact rfl; assumption; assumption; exact rfl; exact rfl; exact rfl) | (apply G1_loadEl1; (first | exact T.p60 | exact T.p44 | exact T.p22 | exact T.p3 | exact T.p37 | exact T.p58); exact rfl; assumption; assumption; exact rfl; exact rfl; exact rfl) | (apply G1_nilCheckF; exact rfl; exact rfl) | (apply G1_fieldAddr; (first | exact T.f109_6 | exact T.f109_0 | exact T.f109_2 | exact T.f109_4 | exact T.f109_5); exact rfl; exact rfl) | ((first | apply G1_neq | apply G1_lss | apply G1_gtr | apply G1_extract | apply G1_eql); exact rfl; exact rfl; exact rfl) | (apply G1_len; (first | exact T.s110 | exact T.s37); exact rfl; exact rfl) | (apply G1_indexAddrN; exact T.s110; exact rfl; exact rfl; (first | assumption | exact Sl.ok (by assumption) | exact (Own.sl (by assumption)).ok); omega; exact rfl) | (apply G1_indexAddr; exact T.s110; exact rfl; exact rfl; (first | assumption | exact Sl.ok (by assumption) | exact (Own.sl (by assumption)).ok); omega; omega; exact rfl) | (apply G1_add; exact rfl; exact rfl; omega; omega; exact rfl) | (apply G1_not_t; exact rfl; exact rfl) | (apply G1_not_f; exact rfl; exact rfl) | (apply G1_not_dec; exact rfl; exact rfl) | (apply G1_not; exact rfl; exact rfl) | (apply G1_sub; exact rfl; exact rfl; omega; omega; exact rfl) | (apply G1_slen; exact T.str9; exact rfl; exact rfl)) | apply G_nil | apply Post_next | apply W_seq | apply W_region | apply W_scopeI | apply W_label | apply Post_scopeR | apply Post_scopeN | apply Post_scopeE | (apply W_cond_true; exact rfl) | (apply W_cond_false; exact rfl) | (apply W_cond_dec; exact rfl; all_goals (intro h; try (exfalso; omega))) | (apply W_cond; exact rfl; all_goals intro h) | (apply G_off; exact rfl; exact rfl) | ((fail_if_success (apply G_on; exact rfl)); apply G_split_dec; exact rfl; exact rfl; all_goals (intro h; try (exfalso; omega))) | ((fail_if_success (apply G_on; exact rfl)); apply G_split; exact rfl; exact rfl; all_goals intro h) | refine W_drawn 1 [] [0,1,2,3,4,5] mixed (by decide +kernel) ?_ | refine W_drawn 1 [] [0,1,2,3,4,5,6,7,8,9] mixed (by decide +kernel) ?_ | refine W_drawn 1 [] [0,1,2,3,4,5,6,7,8,9,10] mixed (by decide +kernel) ?_ | refine W_drawn 1 [] [0,1,2,3,4,5,6,7,8,9,10,11] mixed (by decide +kernel) ?_ | refine W_drawn 1 [] [0,1,2,3,4,5,6] mixed (by decide +kernel) ?_ | apply W_skip | apply W_exit | apply W_ret | apply W_block | apply Post_then_ret | apply Post_block_ret | apply Post_then_exit | apply Post_block_exit | (apply Post_block_other; exact rfl) | apply Post_block_normal)
  all_goals try (exfalso; omega)
  refine Post_ret Tryz.results18 ⟨_, _, rfl, rfl, _, _, rfl, rfl, rfl⟩ ?_
  exact ⟨rfl, (by repeat first | assumption | exact Ext.rfl' | apply Ext.drew | apply Ext.alloc | refine Ext.trans ?_ (by assumption))⟩
end Go.Proofs.YtipbakiecocioaaGreatDoor

/- Requests: what holds of a reader's state at all times; in plain Lean. -/
namespace Go.Proofs.YtipbakiecocioaaGreatDoor
open Go.V
attribute [local irreducible] Blk Own hcell IntT SliceT PlainT AggT SizeT StrT FieldT ZeroT EqT ArrT
structure GoodR (r : RS) : Prop where
  size : -1 ≤ r.size ∧ r.size ≤ 4096
  words : r.left + r.words.length ≤ 128
  zero : r.left = 0 → r = rs0
theorem good0 : GoodR rs0 := ⟨⟨by simp [rs0], by simp [rs0]⟩, by simp [rs0], fun _ => rfl⟩
theorem step_good {r r' : RS} {cs : List UInt8} {k : Nat} {out : List (List ByteArray)} (hr : GoodR r) (h : stepP r cs = .go r' k out) : GoodR r' ∧ r'.held ≤ r.held + k ∧ out.length ≤ 1 := by
  unfold stepP at h
  split at h
  · rename_i h0
    split at h
    · cases h
    · cases h
    · rename_i s k' hl
      have h1 := line_len hl
      split at h
      · split at h
        · cases h
        · rename_i n hn
          have := num_ok hn
          cases h
          exact ⟨⟨⟨by simp only; omega, by simp only; omega⟩, by simp only [List.length_nil]; omega, fun e => by simp only at e; omega⟩, by simp only; omega, Nat.zero_le _⟩
      · split at h
        · cases h
        · cases h
          refine ⟨good0, by simp only [rs0]; omega, ?_⟩
          split
          · exact Nat.zero_le _
          · exact Nat.le_refl _
  rename_i h0
  have hw := hr.words
  split at h
  · split at h
    · cases h
    · cases h
    · rename_i s k' hl
      have h1 := line_len hl
      split at h
      · cases h
      · rename_i n hn
        have := num_ok hn
        cases h
        exact ⟨⟨⟨by simp only; omega, by simp only; omega⟩, hw, fun e => absurd e h0⟩, Nat.le_refl _, Nat.zero_le _⟩
  split at h
  · cases h
  split at h
  · split at h
    · cases h
      exact ⟨good0, by simp only [rs0]; omega, Nat.le_refl _⟩
    · rename_i h1
      cases h
      exact ⟨⟨⟨by simp only; omega, by simp only; omega⟩, by simp only [List.length_append, List.length_singleton]; omega, fun e => by simp only at e; omega⟩, Nat.le_refl _, Nat.zero_le _⟩
  · cases h
theorem run_good : ∀ (n : Nat) {r : RS} {cs : List UInt8}, cs.length < n → GoodR r → GoodR (runP r cs).st ∧ (runP r cs).st.held + (runP r cs).rest.length ≤ r.held + cs.length ∧ (runP r cs).rest.length ≤ cs.length ∧ (runP r cs).out.length ≤ cs.length ∧ ((runP r cs).err = 0 ∨ (runP r cs).err = 10 ∨ (runP r cs).err = 12)
  | 0, _, _, h, _ => by omega
  | n + 1, r, cs, hn, hr => by
    cases h : stepP r cs with
    | stop => rw [run_stop h]; exact ⟨hr, Nat.le_refl _, Nat.le_refl _, Nat.zero_le _, .inl rfl⟩
    | fault e => rw [run_fault h]; exact ⟨hr, Nat.le_refl _, Nat.le_refl _, Nat.zero_le _, .inr (step_fault h)⟩
    | go r' k out =>
      have hk := step_go h
      obtain ⟨g1, g2, g3⟩ := step_good hr h
      obtain ⟨i1, i2, i3, i4, i5⟩ := run_good n (r := r') (cs := cs.drop k) (by rw [List.length_drop]; omega) g1
      rw [run_go h]
      rw [List.length_drop] at i2 i3 i4
      exact ⟨i1, by simp only; omega, by simp only; omega, by simp only [List.length_append]; omega, i5⟩
theorem sized_held {r : RS} {cs : List UInt8} {k0 : Nat} : match sizedP r cs k0 with
    | .more r' k => r' = r ∧ k = k0
    | .err _ => True
    | .ok _ h k => h + k0 = r.held + k := by
  unfold sizedP
  by_cases h1 : cs.length < r.size.toNat + 2
  · rw [if_pos h1]; exact ⟨rfl, rfl⟩
  · rw [if_neg h1]
    by_cases h2 : (cs.drop r.size.toNat).take 2 = [13, 10]
    · rw [if_pos h2]; simp only; omega
    · rw [if_neg h2]; trivial
theorem word_held {r : RS} {cs : List UInt8} : match wordP r cs with
    | .more r' k => r'.held = r.held + k
    | .err _ => True
    | .ok _ h k => h = r.held + k := by
  unfold wordP
  by_cases hs : r.size < 0
  · rw [if_pos hs]
    cases lineP cs with
    | more => rfl
    | err e => trivial
    | ok s k =>
      simp only
      cases numP s 36 0 4096 with
      | error e => trivial
      | ok n =>
        simp only
        have key := sized_held (r := { r with size := n, held := r.held + k }) (cs := cs.drop k) (k0 := k)
        cases hz : sizedP { r with size := n, held := r.held + k } (cs.drop k) k with
        | more r' k' => rw [hz] at key; obtain ⟨rfl, rfl⟩ := key; rfl
        | err e => trivial
        | ok s' h k' => rw [hz] at key; simp only at key ⊢; omega
  · rw [if_neg hs]
    have key := sized_held (r := r) (cs := cs) (k0 := 0)
    cases hz : sizedP r cs 0 with
    | more r' k' => rw [hz] at key; obtain ⟨rfl, rfl⟩ := key; rfl
    | err e => trivial
    | ok s' h k' => rw [hz] at key; simp only at key ⊢; omega
theorem word_err {r : RS} {cs : List UInt8} {e : Int} (h : wordP r cs = .err e) : e = 10 ∨ e = 12 := by
  have key : ∀ (r : RS) (cs : List UInt8) k, sizedP r cs k = .err e → e = 10 ∨ e = 12 := fun r cs k h => by
    unfold sizedP at h
    split at h
    · cases h
    · split at h
      · cases h
      · cases h; exact .inl rfl
  unfold wordP at h
  split at h
  · split at h
    · cases h
    · rename_i hl; cases h; exact line_err hl
    · split at h
      · rename_i hn; cases h; exact num_err hn
      · exact key _ _ _ h
  · exact key _ _ _ h
end Go.Proofs.YtipbakiecocioaaGreatDoor

/- Requests: what lies beside the reader while Feed runs; in plain Lean. -/
namespace Go.V
theorem Own.apartB {α : Type} {e : Enc α} {w : World} {B T : Nat} {p : Option Addr} {c : Nat} {xs : List α} (h : Own w B T e p c xs) {b t : Nat} {cs : List Value} (hb : Blk w.heap b t cs) (ht : T ≠ t) : blk p ≠ some b := by
  intro hk
  cases p with
  | none => cases hk
  | some x => injection hk with hk; exact h.apart rfl hb ht hk.symm
theorem Own.apartR {α β : Type} {e : Enc α} {f : Enc β} {w : World} {B T B' T' : Nat} {p q : Option Addr} {c d : Nat} {xs : List α} {ys : List β} (h : Own w B T e p c xs) (k : Own w B' T' f q d ys) (ht : T ≠ T') : ∀ y, q = some y → blk p ≠ some y.block := by
  intro y hy hk
  cases p with
  | none => cases hk
  | some x => injection hk with hk; exact h.apart2 k ht rfl hy hk
/-- a row of one's own whose block is not turned -/
theorem Own.fr {α : Type} {e : Enc α} {F : Nat → Prop} {w w' : World} {B T : Nat} {p : Option Addr} {c : Nat} {xs : List α} (h : Own w B T e p c xs) (hf : FrS F w w') (hn : ∀ k, blk p = some k → ¬ F k) : Own w' B T e p c xs := by
  obtain ⟨h1, h2⟩ := h
  refine ⟨h1, ?_⟩
  rcases h2 with h2 | ⟨g, cap, cur, h3, h4, h5, h6⟩
  · exact .inl h2
  · refine .inr ⟨g, cap, cur, h3, h4, ?_, h6⟩
    injection h3 with h3 _ _
    rw [hf.block g (Array.getElem?_eq_some_iff.1 h5).1 (hn g (by rw [h3]; rfl))]
    exact h5
/-- slices of bytes that lie apart from some blocks -/
structure PartsAt (H : Array Obj) (F : Nat → Prop) (hs : List Hdr) (bss : List (List UInt8)) : Prop where
  len : hs.length = bss.length
  get : ∀ (i : Nat) h b, hs[i]? = some h → bss[i]? = some b → h.2.1 = b.length ∧ Sl H eByte h.1 h.2.2 b ∧ ∀ x, h.1 = some x → b ≠ [] → ¬ F x.block
theorem Sl.fr' {α : Type} {e : Enc α} {F : Nat → Prop} {w w' : World} {p : Option Addr} {c : Nat} {xs : List α} (h : Sl w.heap e p c xs) (hf : FrS F w w') (hn : ∀ x, p = some x → xs ≠ [] → ¬ F x.block) : Sl w'.heap e p c xs := by
  cases xs with
  | nil => exact ⟨h.ok, fun i x hi => by simp at hi⟩
  | cons y ys => exact h.fr hf (fun x hx => hn x hx (by simp))
theorem flat_snoc {α : Type} {xs : List (List α)} {i : Nat} {b : List α} (h : xs[i]? = some b) : (xs.take (i + 1)).flatten = (xs.take i).flatten ++ b := by
  rw [take_snoc h, List.flatten_append]; simp
theorem flat_le {α : Type} (xs : List (List α)) (i : Nat) : (xs.take i).flatten.length ≤ xs.flatten.length := by
  have : xs.flatten = (xs.take i).flatten ++ (xs.drop i).flatten := by rw [← List.flatten_append, List.take_append_drop]
  rw [this, List.length_append]; omega
theorem blk_apart {α β : Type} {e : Enc α} {f : Enc β} {w : World} {B T B' T' : Nat} {p q : Option Addr} {c d : Nat} {xs : List α} {ys : List β} {k : Nat} (h : Own w B T e p c xs) (h' : Own w B' T' f q d ys) (ht : T ≠ T') (hp : blk p = some k) (hq : blk q = some k) : False := by
  cases q with
  | none => cases hq
  | some y => injection hq with hq; exact h.apartR h' ht y rfl (by rw [hp, hq])
theorem FrS.mono {F G : Nat → Prop} {w w' : World} (h : FrS F w w') (hg : ∀ k, F k → G k) : FrS G w w' := ⟨h.os, h.tape, h.output, h.size, fun k hk hn => h.block k hk (fun e => hn (hg k e))⟩
theorem FrS.one {w w' : World} {b : Nat} (hf : FrS (fun q => q = b) w w') : w.grownBy w' (some b) :=
  ⟨hf.os, hf.tape, hf.output, hf.size, fun q hq hne => hf.block q hq (fun e => hne (by rw [e]))⟩
theorem Sl.cells' {α : Type} {e : Enc α} {H H' : Array Obj} {p : Option Addr} {c : Nat} {xs : List α} (hs : Sl H e p c xs) (h : ∀ a v, hcell H a = some v → hcell H' a = some v) : Sl H' e p c xs := Sl.cells h hs
end Go.V
namespace Go.Proofs.YtipbakiecocioaaGreatDoor
open Go.V
attribute [local irreducible] Blk Own hcell IntT SliceT PlainT AggT SizeT StrT FieldT ZeroT EqT ArrT
/-- how far Feed is: the bytes done, the reader's state, its words' row, the done lines and their row -/
structure FdY where
  a : Nat
  r : RS
  pw : Option Addr
  cw : Nat
  hs : List Hdr
  ls : List (List ByteArray)
  pd : Option Addr
  cd : Nat
/-- a block of strings -/
def IsStr (H : Array Obj) (k : Nat) : Prop := ∃ cur, H[k]? = some (.cells cur 9 (0, 0))
theorem noStr {H : Array Obj} {k t : Nat} {cs : List Value} (h : Blk H k t cs) (ht : t ≠ 9) : ¬ IsStr H k := by
  rintro ⟨cur, e⟩
  unfold Blk at h
  rw [h] at e
  injection e with e
  injection e with _ e2 _
  exact ht e2
theorem own_noStr {α : Type} {e : Enc α} {w : World} {B T : Nat} {p : Option Addr} {c : Nat} {xs : List α} (h : Own w B T e p c xs) (hT : T ≠ 9) {k : Nat} (hk : blk p = some k) : ¬ IsStr w.heap k := by
  rintro ⟨cur, e⟩
  obtain ⟨cur', e'⟩ := h.at hk
  rw [e'] at e
  injection e with e
  injection e with _ e2 _
  exact hT e2
/-- lists of words that lie in blocks of strings, apart from X -/
def WordsAt (H : Array Obj) (X : Nat → Prop) (hs : List Hdr) (ls : List (List ByteArray)) : Prop := CmdsAt (veil (fun k => X k ∨ ¬ IsStr H k) H) hs ls
theorem WordsAt.nil {H : Array Obj} {X : Nat → Prop} : WordsAt H X [] [] := CmdsAt.nil
theorem WordsAt.fr {F X X' : Nat → Prop} {w w' : World} {hs : List Hdr} {ls : List (List ByteArray)} (h : WordsAt w.heap X hs ls) (hf : FrS F w w') (hh : ∀ k, k < w.heap.size → IsStr w.heap k → ¬ X k → ¬ F k ∧ ¬ X' k) : WordsAt w'.heap X' hs ls := by
  unfold WordsAt at *
  refine h.hide (fun q hn hq => ?_)
  have h1 : IsStr w.heap q := Classical.byContradiction fun e => hn (.inr e)
  obtain ⟨h2, h3⟩ := hh q hq h1 (fun e => hn (.inl e))
  have h4 := hf.block q hq h2
  refine ⟨fun e => e.elim h3 (fun e => e ?_), h4⟩
  obtain ⟨cur, e1⟩ := h1
  exact ⟨cur, by rw [h4]; exact e1⟩
theorem WordsAt.ext {X : Nat → Prop} {w w' : World} {hs : List Hdr} {ls : List (List ByteArray)} (h : WordsAt w.heap X hs ls) (hx : Ext w w') : WordsAt w'.heap X hs ls := h.fr (FrS.of_ext (F := fun _ => False) hx) (fun _ _ _ h => ⟨id, h⟩)
theorem WordsAt.shown {H : Array Obj} {X : Nat → Prop} {hs : List Hdr} {ls : List (List ByteArray)} (h : WordsAt H X hs ls) : CmdsAt H hs ls := CmdsAt.shown h
theorem WordsAt.snoc {w : World} {X : Nat → Prop} {hs : List Hdr} {ls : List (List ByteArray)} {B : Nat} {q : Option Addr} {d : Nat} {l : List ByteArray} (h : WordsAt w.heap X hs ls) (hO : Own w B 9 eStr q d l) (hq : ∀ k, blk q = some k → ¬ X k) : WordsAt w.heap X (hs ++ [(q, l.length, d)]) (ls ++ [l]) :=
  CmdsAt.snoc h (hO.hidden (fun k hk e => e.elim (hq k hk) (fun e => e (hO.at hk))))
theorem WordsAt.app {H : Array Obj} {X : Nat → Prop} {hs hs' : List Hdr} {ls ls' : List (List ByteArray)} (h : WordsAt H X hs ls) (k : WordsAt H X hs' ls') : WordsAt H X (hs ++ hs') (ls ++ ls') := CmdsAt.app h k
/-- what is beside the reader -/
structure FdO (w w' : World) (ar a2 a8 : Nat) (p0 pw0 p : Option Addr) (y : FdY) : Prop where
  gv : GvSt w' ar w.heap.size a2 a8 y.pd y.cd y.hs
  cm : WordsAt w'.heap (fun k => blk y.pw = some k) y.hs y.ls
  fr : FrS (fun k => k = ar ∨ blk p0 = some k ∨ blk pw0 = some k) w w'
  np : ∀ k, blk p = some k → blk p0 = some k ∨ w.heap.size ≤ k
  npw : ∀ k, blk y.pw = some k → blk pw0 = some k ∨ w.heap.size ≤ k
  h8 : w.heap.size ≤ a8
  h2 : w.heap.size ≤ a2
structure FdI (w0 w w' : World) (ar B a2 a8 : Nat) (p0 pw0 p : Option Addr) (c : Nat) (I : List UInt8) (r0 : RS) (y : FdY) : Prop where
  rd : RdSt w0 w' ar B p c I y.a y.pw y.cw y.r 0
  o : FdO w w' ar a2 a8 p0 pw0 p y
  run : runP r0 I = { runP y.r (I.drop y.a) with out := y.ls ++ (runP y.r (I.drop y.a)).out }
  held : y.r.held + (I.length - y.a) ≤ 1000000000
  good : GoodR y.r
  cnt : y.ls.length ≤ y.a
/-- the reader's own cells alone are turned -/
theorem FdO.own {w w1 w' : World} {ar a2 a8 : Nat} {p0 pw0 p : Option Addr} {y : FdY} {cs : List Value} (h : FdO w w1 ar a2 a8 p0 pw0 p y) (hR : Blk w1.heap ar 109 cs) (hf : FrS (fun q => q = ar) w1 w') : FdO w w' ar a2 a8 p0 pw0 p y :=
  ⟨⟨hf.blk h.gv.ptr (fun e => blk_ne h.gv.ptr hR (by decide) e), hf.blk h.gv.box (fun e => blk_ne h.gv.box hR (by decide) e), h.gv.row.kept hf.one (fun x hx e => by injection e with e; exact h.gv.row.apart hx hR (by decide) e)⟩,
    h.cm.fr hf (fun q _ hs hn => ⟨fun e => noStr hR (by decide) (by rw [← e]; exact hs), hn⟩), h.fr.trans hf (fun q _ e => .inl e), h.np, h.npw, h.h8, h.h2⟩
/-- what Feed answers -/
structure FeedA (w0 w : World) (ar B : Nat) (p pw : Option Addr) (X : Res) (v : Value) (w' : World) : Prop where
  fr : FrS (fun k => k = ar ∨ blk p = some k ∨ blk pw = some k) w w'
  ex : ∃ pd cd hs p' c' pw' cw', v = .tuple #[.slice pd hs.length cd, .int .i64 X.err] ∧ Own w' w.heap.size 37 eSlc pd cd hs ∧
    WordsAt w'.heap (fun k => blk pw' = some k) hs X.out ∧ (∀ k, blk p' = some k → blk p = some k ∨ w.heap.size ≤ k) ∧ (∀ k, blk pw' = some k → blk pw = some k ∨ w.heap.size ≤ k) ∧
    (X.err = 0 → RdSt w0 w' ar B p' c' X.rest 0 pw' cw' X.st 0) ∧ (X.err ≠ 0 → RdSt w0 w' ar B p' c' [] 0 pw' cw' ⟨0, 0, [], 0⟩ X.err)
theorem feed_done {w0 w w1 w' : World} {ar B a2 a8 c : Nat} {p0 pw0 p : Option Addr} {I : List UInt8} {y : FdY} {r0 : RS} (hR : RdSt w0 w1 ar B p c I y.a y.pw y.cw y.r 0) (h : FdO w w1 ar a2 a8 p0 pw0 p y) (hf : FrS (fun q => q = ar ∨ bx q = p) w1 w')
    (hR' : RdSt w0 w' ar B p c (I.drop y.a) 0 y.pw y.cw y.r 0) (hX : runP r0 I = ⟨y.ls, y.r, I.drop y.a, 0⟩) :
    GvSt w' ar w.heap.size a2 a8 y.pd y.cd y.hs ∧ ∀ w2, Ext w' w2 → FeedA w0 w ar B p0 pw0 (runP r0 I) (.tuple #[.slice y.pd y.hs.length y.cd, .int .i64 0]) w2 := by
  have hbp : ∀ q, bx q = p → blk p = some q := fun q e => by rw [← e]; rfl
  have n2 : ¬ (a2 = ar ∨ bx a2 = p) := fun e => e.elim (fun e => blk_ne h.gv.ptr hR.blk (by decide) e) (fun e => hR.row.apartB h.gv.ptr (by decide) (hbp _ e))
  have n8 : ¬ (a8 = ar ∨ bx a8 = p) := fun e => e.elim (fun e => blk_ne h.gv.box hR.blk (by decide) e) (fun e => hR.row.apartB h.gv.box (by decide) (hbp _ e))
  have hrow : Own w' w.heap.size 37 eSlc y.pd y.cd y.hs := h.gv.row.fr hf (fun k hk e => by
    have hx : ∃ x, y.pd = some x ∧ x.block = k := by
      cases hp : y.pd with
      | none => rw [hp] at hk; cases hk
      | some x => rw [hp] at hk; injection hk with hk; exact ⟨x, rfl, hk⟩
    obtain ⟨x, hx, e2⟩ := hx
    subst e2
    rcases e with e | e
    · exact h.gv.row.apart hx hR.blk (by decide) e.symm
    · exact h.gv.row.apart2 hR.row (by decide) hx e.symm rfl)
  have hgv : GvSt w' ar w.heap.size a2 a8 y.pd y.cd y.hs := ⟨hf.blk h.gv.ptr n2, hf.blk h.gv.box n8, hrow⟩
  refine ⟨hgv, fun w2 hx => ?_⟩
  rw [hX]
  refine ⟨?_, y.pd, y.cd, y.hs, p, c, y.pw, y.cw, rfl, hrow.ext hx, ?_, h.np, h.npw, fun _ => hR'.xt hx, fun e => absurd rfl e⟩
  · exact (h.fr.trans hf (fun q hq e => e.elim .inl (fun e => (h.np q (hbp q e)).elim (fun e => .inr (.inl e)) (fun e => by omega)))).trans (FrS.of_ext hx) (fun _ _ h => h)
  · refine (h.cm.fr hf (fun q _ hs hn => ⟨fun e => ?_, hn⟩)).ext hx
    rcases e with e | e
    · exact noStr hR.blk (by decide) (by rw [← e]; exact hs)
    · exact own_noStr hR.row (by decide) (hbp q e) hs
theorem feed_fail {w0 w w1 w' : World} {ar B a2 a8 c : Nat} {p0 pw0 p : Option Addr} {I : List UInt8} {a cw : Nat} {r : RS} {e : Int} {y : FdY} {r0 : RS} (hR : RdSt w0 w1 ar B p c I a y.pw cw r e) (h : FdO w w1 ar a2 a8 p0 pw0 p y) (hf : FrS (fun q => q = ar) w1 w')
    (hR' : RdSt w0 w' ar B none 0 [] 0 none 0 { left := 0, size := 0, words := [], held := 0 } e) (he : e ≠ 0) (hX : (runP r0 I).out = y.ls ∧ (runP r0 I).err = e) :
    GvSt w' ar w.heap.size a2 a8 y.pd y.cd y.hs ∧ ∀ w2, Ext w' w2 → FeedA w0 w ar B p0 pw0 (runP r0 I) (.tuple #[.slice y.pd y.hs.length y.cd, .int .i64 e]) w2 := by
  have h2 := h.own hR.blk hf
  refine ⟨h2.gv, fun w2 hx => ⟨h2.fr.trans (FrS.of_ext hx) (fun _ _ h => h), y.pd, y.cd, y.hs, none, 0, none, 0, by rw [hX.2], h2.gv.row.ext hx, ?_, fun k hk => (by cases hk), fun k hk => (by cases hk), fun e0 => absurd (hX.2.symm.trans e0) he, fun _ => by rw [hX.2]; exact hR'.xt hx⟩⟩
  rw [hX.1]
  exact h2.cm.fr (FrS.of_ext (F := fun _ => False) hx) (fun q _ hs hn => ⟨id, fun e => by cases e⟩)
/-- a list is given -/
theorem FdO.give {w0 w w1 w' : World} {ar B a2 a8 c : Nat} {p0 pw0 p : Option Addr} {I : List UInt8} {y : FdY} {a : Nat} {r : RS} {ft : Int} {pd' : Option Addr} {cd' : Nat} {q : Option Addr} {d m : Nat} {l : List ByteArray} {a' : Nat} {r' : RS} (h : FdO w w1 ar a2 a8 p0 pw0 p y) (hR : RdSt w0 w1 ar B p c I a y.pw y.cw r ft)
    (hG : GvSt w' ar w.heap.size a2 a8 pd' cd' (y.hs ++ [(q, m, d)])) (hf : FrS (fun k => k = ar ∨ k = a8 ∨ bx k = y.pd) w1 w') (hnd : ∀ k, blk pd' = some k → blk y.pd = some k ∨ w1.heap.size ≤ k) (hm : m = l.length) {Bl : Nat} (hl : Own w1 Bl 9 eStr q d l) :
    FdO w w' ar a2 a8 p0 pw0 p ⟨a', r', none, 0, y.hs ++ [(q, m, d)], y.ls ++ [l], pd', cd'⟩ := by
  have hbp : ∀ k, bx k = y.pd → blk y.pd = some k := fun k e => by rw [← e]; rfl
  have hsz := h.fr.size
  have hp1 : ∀ k, blk p = some k → k < w1.heap.size := fun k hk => (hR.row.ge k hk).2
  refine ⟨hG, ?_, h.fr.trans hf (fun k hk e => ?_), h.np, fun k hk => (by cases hk), h.h8, h.h2⟩
  · subst hm
    refine ((h.cm.fr (FrS.of_ext (F := fun _ => False) Ext.rfl') (X' := fun k => blk (none : Option Addr) = some k) (fun q _ _ _ => ⟨id, fun e => by cases e⟩)).snoc hl (fun k _ e => by cases e)).fr hf (fun q _ hs _ => ⟨fun e => ?_, fun e => by cases e⟩)
    rcases e with e | e | e
    · exact noStr hR.blk (by decide) (by rw [← e]; exact hs)
    · exact noStr h.gv.box (by decide) (by rw [← e]; exact hs)
    · exact own_noStr h.gv.row (by decide) (hbp q e) hs
  · rcases e with e | e | e
    · exact .inl e
    · have := h.h8; omega
    · have := (h.gv.row.ge k (hbp k e)).1; omega
/-- a word is laid behind those that came -/
theorem feed_word {w0 w w5 w6 w7 w8 w9 : World} {ar B a2 a8 c cw c8 : Nat} {p0 pw0 p pw p8 : Option Addr} {I : List UInt8} {z : FdY} {a a' : Nat} {r r5 : RS} {x : ByteArray} (_hR5 : RdSt w0 w5 ar B p c I a' pw cw r5 0) (_hO5 : FdO w w5 ar a2 a8 p0 pw0 p z) (_hf : FrS (fun q => q = ar) w5 w6) (hR : RdSt w0 w6 ar B p c I a z.pw z.cw r 0) (hO : FdO w w6 ar a2 a8 p0 pw0 p z) (hx : Ext w6 w7)
    (ha : App w7 w8 B 9 eStr z.pw p8 c8 (r.words ++ [x])) (hg : w8.grownBy w9 (some ar)) (hA : Blk w9.heap ar 109 [.slice p I.length c, .int .i64 (a : Int), .int .i64 (r.left : Int), .int .i64 r.size, .slice p8 (r.words ++ [x]).length c8, .int .i64 (r.held : Int), .int .i64 0]) :
    RdSt w0 w9 ar B p c I a p8 c8 ⟨r.left, r.size, r.words ++ [x], r.held⟩ 0 ∧ FdO w w9 ar a2 a8 p0 pw0 p ⟨a, ⟨r.left, r.size, r.words ++ [x], r.held⟩, p8, c8, z.hs, z.ls, z.pd, z.cd⟩ := by
  have hR7 := hR.xt hx
  have hnp := ha.new
  unfold NewP at hnp
  have hz7 := hx.size
  have hfr : FrS (fun k => k = ar ∨ blk z.pw = some k) w6 w9 := ((FrS.of_ext hx).trans (FrS.of_grown (F := fun k => k = ar ∨ blk z.pw = some k) ha.grown (fun k hk => .inr hk)) (fun _ _ h => h)).trans (FrS.of_grown (F := fun k => k = ar ∨ blk z.pw = some k) hg (fun k hk => by injection hk with hk; exact .inl hk.symm)) (fun _ _ h => h)
  have hw8 := hR7.row.kept ha.grown (fun y hy => hR7.wds.apartR hR7.row (by decide) y hy)
  have hb8 := hR7.blk.grown ha.grown (hR7.wds.apartB hR7.blk (by decide))
  have hpw : ∀ k, blk z.pw = some k → B ≤ k := fun k hk => (hR.wds.ge k hk).1
  have h0 := hR.h0
  have hlt := hR.lt
  have hpx : ∀ k, blk z.pd = some k → ∃ y, z.pd = some y ∧ y.block = k := fun k hk => by
    cases hp : z.pd with
    | none => rw [hp] at hk; cases hk
    | some y => rw [hp] at hk; injection hk with hk; exact ⟨y, rfl, hk⟩
  refine ⟨⟨hA, hw8.kept hg (fun y hy e => by injection e with e; exact hw8.apart hy hb8 (by decide) e), ha.own.kept hg (fun y hy e => by injection e with e; exact ha.own.apart hy hb8 (by decide) e), (hR7.ext.own ha.grown (fun k hk => by have := hpw k hk; omega)).own hg (fun k hk => by injection hk with hk; omega), h0, hlt, Nat.le_trans ha.base hg.size, hR.la⟩, ?_⟩
  refine ⟨⟨hfr.blk hO.gv.ptr (fun e => e.elim (fun e => blk_ne hO.gv.ptr hR.blk (by decide) e) (fun e => hR.wds.apartB hO.gv.ptr (by decide) e)), hfr.blk hO.gv.box (fun e => e.elim (fun e => blk_ne hO.gv.box hR.blk (by decide) e) (fun e => hR.wds.apartB hO.gv.box (by decide) e)), hO.gv.row.fr hfr (fun k hk e => ?_)⟩, ?_, hO.fr.trans hfr (fun q hq e => e.elim .inl (fun e => (hO.npw q e).elim (fun e => .inr (.inr e)) (fun e => by omega))), hO.np, fun k hk => ?_, hO.h8, hO.h2⟩
  · obtain ⟨y, hy, e2⟩ := hpx k hk
    subst e2
    exact e.elim (fun e => hO.gv.row.apart hy hR.blk (by decide) e.symm) (fun e => hR.wds.apartR hO.gv.row (by decide) y hy e)
  · refine hO.cm.fr hfr (fun q hq hs hn => ⟨fun e => e.elim (fun e => noStr hR.blk (by decide) (by rw [← e]; exact hs)) hn, fun e => ?_⟩)
    rcases hnp with h | h
    · exact hn (by rw [← h]; exact e)
    · have := h q e; omega
  · rcases hnp with h | h
    · exact hO.npw k (by rw [← h]; exact hk)
    · have := h k hk; have := hO.fr.size; exact .inr (by omega)
end Go.Proofs.YtipbakiecocioaaGreatDoor
