/- Texts of this proof laid together: RepTake, ReqLine, ReqMem, ReqRef, ReqRef2, ReqRef3, EqStr, ReqRead1, ReqRead2. -/
import Derived.Test.YtipbakiecocioaaGreatDoorVM3
import Derived.Lib.BytesEntry
/- resp.Read's closure: the walk. -/

namespace Go.V
section
variable {P : Program} {n : Nat} {ops : Array Oper} {dr : Nat × List Nat} {l : List Oper} {E : Env} {w : World} {K : Env → World → Prop}
variable {d : Option Nat} {ty : TypeId} {pos : String} {af : Array Edge} {g : Option (Nat × Bool)} {x y : Operand} {i : Int} {s : ByteArray} {t : TypeId} {k : IntKind}
theorem G1_ssliceLoE {r : ByteArray} (hu : StrT P t) (hx : E.look x = some (.string s)) (hy : E.look y = some (.int k i)) (h0 : 0 ≤ i) (h1 : i ≤ s.size) (hr : s.extract i.toNat s.size = r) (hd : dstOk n d = true)
    (h : G P n ops dr l (E.put d (.string r)) w K) : G1 P n ops dr ⟨d, .slice t x (some y) none none, ty, pos, af, g⟩ l E w K := by
  subst hr
  exact G1_ssliceLo hu hx hy h0 h1 hd h
end
theorem u8_ne {m c : UInt8} (h : ¬ m = c) : ¬ (m.toNat : Int) = (c.toNat : Int) := fun e => h (UInt8.toNat_inj.1 (by omega))
theorem mkStr_bget (m : UInt8) (s : List UInt8) : bget (mkStr (m :: s)) 0 = m := by
  rw [bget_list]
  have : (mkStr (m :: s)).data.toList = m :: s := by unfold mkStr; simp
  rw [this]; rfl
theorem mkStr_tail (m : UInt8) (s : List UInt8) : (mkStr (m :: s)).extract 1 (mkStr (m :: s)).size = mkStr s := by
  apply ByteArray.ext
  apply Array.toList_inj.1
  rw [ByteArray.data_extract, Array.toList_extract]
  unfold mkStr
  simp [ByteArray.size]
end Go.V
namespace Go.Proofs.YtipbakiecocioaaGreatDoor
open Go.V
attribute [local irreducible] Blk Own hcell IntT SliceT PlainT AggT SizeT StrT FieldT ZeroT EqT ArrT
theorem plF : PlainT Tryz.prog 97 := PlainT.of Tryz.underlying97 rfl
/-- what resp.Read's closure finds in memory -/
structure TakeSt (w0 w : World) (ab aa aT : Nat) (tT : TypeId) (p : Option Addr) (c : Nat) (bs : List UInt8) (k : Nat) : Prop where
  ext : Ext w0 w
  inp : Blk w.heap ab 22 [.slice p bs.length c]
  pos : Blk w.heap aa 3 [.int .i64 (k : Int)]
  take : Blk w.heap aT tT [.func (.func 39) #[] #[.pointer (some (adr (bx ab) 0)), .pointer (some (adr (bx aa) 0)), .pointer (some (adr (bx aT) 0))]]
  sl : Sl w0.heap eByte p c bs
  h0 : w0.heap.size ≤ aa
  h1 : ab ≠ aa
  h2 : aT ≠ aa
theorem TakeSt.xt {w0 w w' : World} {ab aa aT : Nat} {tT : TypeId} {p : Option Addr} {c : Nat} {bs : List UInt8} {k : Nat} (h : TakeSt w0 w ab aa aT tT p c bs k) (hx : Ext w w') : TakeSt w0 w' ab aa aT tT p c bs k :=
  ⟨h.ext.trans hx, h.inp.ext hx, h.pos.ext hx, h.take.ext hx, h.sl, h.h0, h.h1, h.h2⟩
theorem TakeSt.set {w0 w w' : World} {ab aa aT : Nat} {tT : TypeId} {p : Option Addr} {c : Nat} {bs : List UInt8} {k k' : Nat} (h : TakeSt w0 w ab aa aT tT p c bs k) (hb : Blk w'.heap aa 3 [.int .i64 (k' : Int)]) (hg : w.grownBy w' (some aa)) : TakeSt w0 w' ab aa aT tT p c bs k' :=
  ⟨h.ext.own hg (fun k hk => by injection hk with hk; have := h.h0; omega), h.inp.grown hg (fun e => by injection e with e; exact h.h1 e.symm), hb, h.take.grown hg (fun e => by injection e with e; exact h.h2 e.symm), h.sl, h.h0, h.h1, h.h2⟩
theorem exempt1 {a k : Nat} (h : k ≠ a) : exempt [a] k = false := by
  simp [exempt, h]
theorem exempt1_a {a : Nat} : exempt [a] a = true := by simp [exempt]
/-- the same, and what the call has turned so far -/
structure TkS (w0 w w' : World) (ab aa aT : Nat) (tT : TypeId) (p : Option Addr) (c : Nat) (bs : List UInt8) (k : Nat) : Prop where
  st : TakeSt w0 w' ab aa aT tT p c bs k
  x : ExtS [aa] w w'
  l1 : ab < w.heap.size
  l2 : aa < w.heap.size
  l3 : aT < w.heap.size
  l0 : w0.heap.size ≤ w.heap.size
section
variable {w0 w w1 w2 : World} {ab aa aT : Nat} {tT : TypeId} {p : Option Addr} {c : Nat} {bs : List UInt8} {k k' : Nat}
theorem TkS.init (h : TakeSt w0 w ab aa aT tT p c bs k) : TkS w0 w w ab aa aT tT p c bs k := ⟨h, ExtS.rfl', h.inp.lt, h.pos.lt, h.take.lt, h.ext.size⟩
theorem TkS.xt (h : TkS w0 w w1 ab aa aT tT p c bs k) (hx : Ext w1 w2) : TkS w0 w w2 ab aa aT tT p c bs k := ⟨h.st.xt hx, h.x.trans hx.toS, h.l1, h.l2, h.l3, h.l0⟩
theorem TkS.set (h : TkS w0 w w1 ab aa aT tT p c bs k) (hb : Blk w2.heap aa 3 [.int .i64 (k' : Int)]) (hg : w1.grownBy w2 (some aa)) : TkS w0 w w2 ab aa aT tT p c bs k' :=
  ⟨h.st.set hb hg, h.x.trans (ExtS.of_grown hg (fun k hk => by injection hk with hk; rw [← hk]; exact exempt1_a)), h.l1, h.l2, h.l3, h.l0⟩
theorem TkS.own {row : Option Nat} (h : TkS w0 w w1 ab aa aT tT p c bs k) (hg : w1.grownBy w2 row) (hb : ∀ q, row = some q → w.heap.size ≤ q) : TkS w0 w w2 ab aa aT tT p c bs k :=
  ⟨⟨h.st.ext.own hg (fun q hq => by have := hb q hq; have := h.l0; omega), h.st.inp.grown hg (fun e => by have := hb _ e; have := h.l1; omega), h.st.pos.grown hg (fun e => by have := hb _ e; have := h.l2; omega), h.st.take.grown hg (fun e => by have := hb _ e; have := h.l3; omega), h.st.sl, h.st.h0, h.st.h1, h.st.h2⟩, h.x.own hg hb, h.l1, h.l2, h.l3, h.l0⟩
/-- behind a call of the closure -/
theorem TkS.call (h : TkS w0 w w1 ab aa aT tT p c bs k) (hs : TakeSt w0 w2 ab aa aT tT p c bs k') (hx : ExtS [aa] w1 w2) : TkS w0 w w2 ab aa aT tT p c bs k' := ⟨hs, h.x.trans hx, h.l1, h.l2, h.l3, h.l0⟩
end
def zRep : RawR := leafR 0 ⟨#[]⟩ 0
theorem bldZ (w : World) : (Instr.build 31 ([] : List (Nat × Value)).toArray).run Tryz.prog w = .ok (.agg (eRep.enc zRep).toArray) w := by kernel_rfl
theorem leaf_at {H : Array Obj} {d : Nat} {kd : Int} {s : ByteArray} {n : Int} (hs : s.size ≤ maxLen) (hn : -9223372036854775808 ≤ n ∧ n ≤ 9223372036854775807) : RepAt H (d + 1) (leafR kd s n) (.mk kd s n []) :=
  ⟨rfl, rfl, rfl, rfl, hs, hn, [], Sl.nil, rfl, fun i r' t' h => by simp at h⟩
theorem nil_size : (⟨#[]⟩ : ByteArray).size ≤ maxLen := Nat.zero_le _
theorem fit0 : (-9223372036854775808 : Int) ≤ 0 ∧ (0 : Int) ≤ 9223372036854775807 := by decide
/-- what the closure answers -/
def TakeR (w0 w : World) (d ab aa aT : Nat) (tT : TypeId) (p : Option Addr) (c : Nat) (bs : List UInt8) (k : Nat) (v : Value) (w' : World) : Prop :=
  (∃ t j r, rdT d (bs.drop k) = some (t, j) ∧ v = .tuple #[.agg (eRep.enc r).toArray, .bool true] ∧ RepAt (veil (fun q => q < w.heap.size) w'.heap) (d + 1) r t ∧ TakeSt w0 w' ab aa aT tT p c bs (k + j) ∧ ExtS [aa] w w') ∨
  (rdT d (bs.drop k) = none ∧ ∃ r k', v = .tuple #[.agg (eRep.enc r).toArray, .bool false] ∧ TakeSt w0 w' ab aa aT tT p c bs k' ∧ ExtS [aa] w w')







set_option maxHeartbeats 8000000 in
theorem take_spec {w0 : World} (hU : Utf w0) (hT : Pow w0) (hE : Errs w0) : ∀ (d : Nat) {w : World} {k ab aa aT : Nat} {tT : TypeId} {p : Option Addr} {c : Nat} {bs : List UInt8}, k ≤ bs.length → bs.length ≤ 1000000000 → TakeSt w0 w ab aa aT tT p c bs k → d ≤ 4 →
    Ctr Tryz.prog 39 [.int .i64 (4 - (d : Int)), .pointer (some (adr (bx ab) 0)), .pointer (some (adr (bx aa) 0)), .pointer (some (adr (bx aT) 0))] w (TakeR w0 w d ab aa aT tT p c bs k) := by
  intro d
  induction d with
  | zero =>
    intro w k ab aa aT tT p c bs hk hbs h hd4
    have hU1 := hU.ext h.ext
    have hT1 : Pow w := TabIs.ext hT h.ext
    have hE1 := hE.ext h.ext
    have hC := h.sl.ext h.ext
    have hok := hC.ok
    have hle := hok.le
    have n1 := hC.bound
    have t0 := TkS.init h
    have l0 := t0.l0
    have l1 := t0.l1
    have l2 := t0.l2
    have l3 := t0.l3
    obtain ⟨cs, hcs⟩ : ∃ cs, bs.drop k = cs := ⟨_, rfl⟩
    have hcl : cs.length = bs.length - k := by rw [← hcs, List.length_drop]
    have hcap : bs.length ≤ maxLen := Nat.le_trans hle hok.cap
    have hD : Sl w.heap eByte (subp p c k 1) (c - k) cs := by rw [← hcs]; exact hC.drop (by omega)
    refine Ctr_of Tryz.func39 Tryz.ntmps39 rfl rfl rfl ?_
    repeat' (first | apply W_seq | apply W_region)
    apply G_on; exact rfl; apply G1_alloc; exact T.zero31; exact rfl; exact rfl; intro a5 w1 ha5 hA5 hx1 hs1
    replace hA5 : Blk w1.heap a5 31 (eRep.enc zRep) := hA5
    have t1 := t0.xt hx1
    have hinp := t1.st.inp
    have hpos := t1.st.pos
    have hix : ∀ w', Ext w w' → Ctr Tryz.prog 41 [.slice (subp p c k 1) (bs.length - k) (c - k), .string brs] w' (fun v w'' => v = .int .i64 (brI cs) ∧ Ext w' w'') := fun w' hx => by
      have := bytesIndex_spec (hD.ext hx) (hU1.ext hx)
      rw [hcl] at this
      exact this
    have hcut : ∀ w', Ext w w' → Ctr Tryz.prog 40 [.slice (subp p c k 1) (bs.length - k) (c - k), .int .i64 (brI cs)] w' (fun v w'' => v = (if (cs.drop (brAt cs)).take 2 = [13, 10] then .tuple #[.string (mkStr (cs.take (brAt cs))), .bool true] else .tuple #[.string ⟨#[]⟩, .bool false]) ∧ Ext w' w'') := fun w' hx => by
      rw [← hcl]
      by_cases hb : brAt cs < cs.length
      · have e : brI cs = (brAt cs : Int) := if_pos hb
        rw [e]
        exact cut_spec (hD.ext hx) (by omega)
      · have e : brI cs = -1 := if_neg hb
        have e2 : cs.drop (brAt cs) = [] := List.drop_of_length_le (by omega)
        rw [e, e2, if_neg (by simp)]
        exact cut_no (hD.ext hx) (by omega)
    by_cases hln : (cs.drop (brAt cs)).take 2 = [13, 10]
    rotate_left
    · rw [if_neg hln] at hcut
      repeat' (first | (apply G_on; exact rfl; first | ((first | apply G1_assign | apply G1_move); exact rfl; exact rfl) | (apply G1_sliceLoJ (q := k); exact T.s22; exact rfl; exact rfl; exact rfl; exact hok; omega; exact rfl) | (apply G1_call (f := 41); exact rfl; exact rfl; exact rfl; exact hix _ (by repeat first | assumption | exact Ext.rfl' | apply Ext.drew | apply Ext.alloc | refine Ext.trans ?_ (by assumption)); rintro _ w2 ⟨rfl, hx2⟩; refine ⟨(by first | exact .inl rfl | exact .inr (by assumption)), ?_⟩; (first | replace hinp := hinp.ext hx2 | replace hinp := hinp.ext ((Ext.drew Ext.rfl').trans hx2)); (first | replace hpos := hpos.ext hx2 | replace hpos := hpos.ext ((Ext.drew Ext.rfl').trans hx2)); (first | replace hA5 := hA5.ext hx2 | replace hA5 := hA5.ext ((Ext.drew Ext.rfl').trans hx2))) | (apply G1_call (f := 40); exact rfl; exact rfl; exact rfl; exact hcut _ (by repeat first | assumption | exact Ext.rfl' | apply Ext.drew | apply Ext.alloc | refine Ext.trans ?_ (by assumption)); rintro _ w3 ⟨rfl, hx3⟩; refine ⟨(by first | exact .inl rfl | exact .inr (by assumption)), ?_⟩; (first | replace hinp := hinp.ext hx3 | replace hinp := hinp.ext ((Ext.drew Ext.rfl').trans hx3)); (first | replace hpos := hpos.ext hx3 | replace hpos := hpos.ext ((Ext.drew Ext.rfl').trans hx3)); (first | replace hA5 := hA5.ext hx3 | replace hA5 := hA5.ext ((Ext.drew Ext.rfl').trans hx3))) | (apply G1_build (.agg (eRep.enc zRep).toArray); exact rfl; exact bldZ; exact rfl) | (apply G1_loadB; (first | exact T.p22 | exact T.p3); exact rfl; assumption; exact rfl; exact rfl) | (apply G1_extract; exact rfl; exact rfl; exact rfl) | (apply G1_not_f; exact rfl; exact rfl) | (apply G1_pick_t; exact rfl; exact rfl; exact rfl)) | apply G_nil | apply Post_next | apply W_seq | apply W_region | (apply W_cond_true; exact rfl) | (apply G_off; exact rfl; exact rfl) | refine W_drawn 1 [] [0,1,2,3,4,5,6,7,8,9,10,11,12] mixed (by decide +kernel) ?_)
      have t3 := t1.xt (show Ext w1 w3 from (by repeat first | assumption | exact Ext.rfl' | apply Ext.drew | apply Ext.alloc | refine Ext.trans ?_ (by assumption)))
      apply G_on; exact rfl; apply G1_storeB; exact T.z31; exact rfl; exact rfl; exact hA5; exact rfl; exact rfl; (first | exact Nat.le_of_ble_eq_true rfl | (focus (simp [Value.cells]; done))); (first | exact Enc.one _ _ | (focus (simp [Value.oneCell']; done)) | (focus (simp [Value.cells, Value.oneCell']; done)) | exact Enc.oneAgg _ _); exact rfl; (first | exact .inl rfl | exact .inr (by simp [exempt])); exact rfl; intro wf hAf hgf hsf
      replace hAf : Blk wf.heap a5 31 (eRep.enc zRep) := hAf
      have tf := t3.own hgf (fun q hq => by injection hq with hq; omega)
      repeat' (first | (apply G_on; exact rfl; (apply G1_assign; exact rfl; exact rfl)) | apply G_nil | apply Post_next | apply W_ret | apply Post_then_ret)
      refine Post_ret Tryz.results39 ⟨_, _, _, rfl, rfl, run_loadVar_box T.a31 (by assumption) rfl, _, _, rfl, rfl, rfl⟩ ?_
      refine .inr ⟨?_, zRep, _, rfl, tf.st, tf.x⟩
      rw [hcs]
      exact rdT_none (rdHead_no (.inr hln))
    simp only [if_pos hln] at hcut
    have hl2 := brAt_two hln
    by_cases hz : brAt cs = 0
    · simp only [hz, List.take_zero] at hcut
      have hee : mkStr [] = ⟨#[]⟩ := rfl
      rw [hee] at hcut
      repeat' (first | (apply G_on; exact rfl; first | ((first | apply G1_assign | apply G1_move); exact rfl; exact rfl) | (apply G1_sliceLoJ (q := k); exact T.s22; exact rfl; exact rfl; exact rfl; exact hok; omega; exact rfl) | (apply G1_call (f := 41); exact rfl; exact rfl; exact rfl; exact hix _ (by repeat first | assumption | exact Ext.rfl' | apply Ext.drew | apply Ext.alloc | refine Ext.trans ?_ (by assumption)); rintro _ w2 ⟨rfl, hx2⟩; refine ⟨(by first | exact .inl rfl | exact .inr (by assumption)), ?_⟩; (first | replace hinp := hinp.ext hx2 | replace hinp := hinp.ext ((Ext.drew Ext.rfl').trans hx2)); (first | replace hpos := hpos.ext hx2 | replace hpos := hpos.ext ((Ext.drew Ext.rfl').trans hx2)); (first | replace hA5 := hA5.ext hx2 | replace hA5 := hA5.ext ((Ext.drew Ext.rfl').trans hx2))) | (apply G1_call (f := 40); exact rfl; exact rfl; exact rfl; exact hcut _ (by repeat first | assumption | exact Ext.rfl' | apply Ext.drew | apply Ext.alloc | refine Ext.trans ?_ (by assumption)); rintro _ w3 ⟨rfl, hx3⟩; refine ⟨(by first | exact .inl rfl | exact .inr (by assumption)), ?_⟩; (first | replace hinp := hinp.ext hx3 | replace hinp := hinp.ext ((Ext.drew Ext.rfl').trans hx3)); (first | replace hpos := hpos.ext hx3 | replace hpos := hpos.ext ((Ext.drew Ext.rfl').trans hx3)); (first | replace hA5 := hA5.ext hx3 | replace hA5 := hA5.ext ((Ext.drew Ext.rfl').trans hx3))) | (apply G1_build (.agg (eRep.enc zRep).toArray); exact rfl; exact bldZ; exact rfl) | (apply G1_loadB; (first | exact T.p22 | exact T.p3); exact rfl; assumption; exact rfl; exact rfl) | (apply G1_extract; exact rfl; exact rfl; exact rfl) | (apply G1_not_t; exact rfl; exact rfl) | (apply G1_seql; exact rfl; exact rfl; exact rfl) | (apply G1_pick_f; exact rfl; exact rfl; exact rfl)) | apply G_nil | apply Post_next | apply W_seq | apply W_region | (apply W_cond_true; exact rfl) | refine W_drawn 1 [] [0,1,2,3,4,5,6,7,8,9,10,11,12] mixed (by decide +kernel) ?_)
      have t3 := t1.xt (show Ext w1 w3 from (by repeat first | assumption | exact Ext.rfl' | apply Ext.drew | apply Ext.alloc | refine Ext.trans ?_ (by assumption)))
      apply G_on; exact rfl; apply G1_storeB; exact T.z31; exact rfl; exact rfl; exact hA5; exact rfl; exact rfl; (first | exact Nat.le_of_ble_eq_true rfl | (focus (simp [Value.cells]; done))); (first | exact Enc.one _ _ | (focus (simp [Value.oneCell']; done)) | (focus (simp [Value.cells, Value.oneCell']; done)) | exact Enc.oneAgg _ _); exact rfl; (first | exact .inl rfl | exact .inr (by simp [exempt])); exact rfl; intro wf hAf hgf hsf
      replace hAf : Blk wf.heap a5 31 (eRep.enc zRep) := hAf
      have tf := t3.own hgf (fun q hq => by injection hq with hq; omega)
      repeat' (first | (apply G_on; exact rfl; (apply G1_assign; exact rfl; exact rfl)) | apply G_nil | apply Post_next | apply W_ret | apply Post_then_ret)
      refine Post_ret Tryz.results39 ⟨_, _, _, rfl, rfl, run_loadVar_box T.a31 (by assumption) rfl, _, _, rfl, rfl, rfl⟩ ?_
      refine .inr ⟨?_, zRep, _, rfl, tf.st, tf.x⟩
      rw [hcs]
      exact rdT_none (rdHead_no (.inl hz))
    obtain ⟨m, s, hms⟩ : ∃ m s, cs.take (brAt cs) = m :: s := by
      cases e : cs.take (brAt cs) with
      | nil => have := congrArg List.length e; rw [List.length_take, List.length_nil] at this; omega
      | cons m s => exact ⟨m, s, rfl⟩
    have hsl : s.length + 1 = brAt cs := by
      have := congrArg List.length hms
      rw [List.length_take, List.length_cons] at this
      omega
    have hrd := rdHead_line hms hln
    rw [hms] at hcut
    have hne : ¬ mkStr (m :: s) = ⟨#[]⟩ := fun e => by
      have := congrArg ByteArray.size e
      rw [mkStr_size] at this
      cases this
    have hms2 : (mkStr (m :: s)).size = s.length + 1 := by rw [mkStr_size]; rfl
    have hss : (mkStr s).size = s.length := mkStr_size s
    obtain ⟨k1, hk1⟩ : ∃ k1, k1 = k + (s.length + 3) := ⟨_, rfl⟩
    have hk1l : k1 ≤ bs.length := by omega
    have hdk1 : bs.drop k1 = cs.drop (brAt cs + 2) := by
      have e : k1 = k + (brAt cs + 2) := by omega
      rw [e, ← List.drop_drop, hcs]
    repeat' (first | (apply G_on; exact rfl; first | ((first | apply G1_assign | apply G1_move); exact rfl; exact rfl) | (apply G1_sliceLoJ (q := k); exact T.s22; exact rfl; exact rfl; exact rfl; exact hok; omega; exact rfl) | (apply G1_call (f := 41); exact rfl; exact rfl; exact rfl; exact hix _ (by repeat first | assumption | exact Ext.rfl' | apply Ext.drew | apply Ext.alloc | refine Ext.trans ?_ (by assumption)); rintro _ w2 ⟨rfl, hx2⟩; refine ⟨(by first | exact .inl rfl | exact .inr (by assumption)), ?_⟩; (first | replace hinp := hinp.ext hx2 | replace hinp := hinp.ext ((Ext.drew Ext.rfl').trans hx2)); (first | replace hpos := hpos.ext hx2 | replace hpos := hpos.ext ((Ext.drew Ext.rfl').trans hx2)); (first | replace hA5 := hA5.ext hx2 | replace hA5 := hA5.ext ((Ext.drew Ext.rfl').trans hx2))) | (apply G1_call (f := 40); exact rfl; exact rfl; exact rfl; exact hcut _ (by repeat first | assumption | exact Ext.rfl' | apply Ext.drew | apply Ext.alloc | refine Ext.trans ?_ (by assumption)); rintro _ w3 ⟨rfl, hx3⟩; refine ⟨(by first | exact .inl rfl | exact .inr (by assumption)), ?_⟩; (first | replace hinp := hinp.ext hx3 | replace hinp := hinp.ext ((Ext.drew Ext.rfl').trans hx3)); (first | replace hpos := hpos.ext hx3 | replace hpos := hpos.ext ((Ext.drew Ext.rfl').trans hx3)); (first | replace hA5 := hA5.ext hx3 | replace hA5 := hA5.ext ((Ext.drew Ext.rfl').trans hx3))) | (apply G1_loadB; (first | exact T.p22 | exact T.p3); exact rfl; assumption; exact rfl; exact rfl) | (apply G1_extract; exact rfl; exact rfl; exact rfl) | (apply G1_not_t; exact rfl; exact rfl) | (apply G1_seql; exact rfl; exact rfl; exact rfl) | (apply G1_pick_f; exact rfl; exact rfl; exact rfl) | (apply G1_slen; exact T.str9; exact rfl; exact rfl) | (apply G1_add; exact rfl; exact rfl; omega; omega; exact rfl)) | apply G_nil | apply Post_next | apply W_seq | apply W_region | (apply W_cond_false; exact rfl) | refine W_drawn 1 [] [0,1,2,3,4,5,6,7,8,9,10,11,12] mixed (by decide +kernel) ?_ | apply W_skip)
    all_goals try exact absurd (by assumption) hne
    have t3 := t1.xt (show Ext w1 w3 from (by repeat first | assumption | exact Ext.rfl' | apply Ext.drew | apply Ext.alloc | refine Ext.trans ?_ (by assumption)))
    apply G_on; exact rfl; apply G1_storeB; exact T.z3; exact rfl; exact rfl; exact hpos; exact rfl; exact rfl; (first | exact Nat.le_of_ble_eq_true rfl | (focus (simp [Value.cells]; done))); (first | exact Enc.one _ _ | (focus (simp [Value.oneCell']; done)) | (focus (simp [Value.cells, Value.oneCell']; done)) | exact Enc.oneAgg _ _); exact rfl; (first | exact .inl rfl | exact .inr (by simp [exempt])); exact rfl; intro w4 hP4 hg4 hs4
    replace hP4 : Blk w4.heap aa 3 [.int .i64 ((k : Int) + (((mkStr (m :: s)).size : Int) + 2))] := hP4
    have e4 : (k : Int) + (((mkStr (m :: s)).size : Int) + 2) = ((k1 : Nat) : Int) := by rw [hms2, hk1]; push_cast; omega
    rw [e4] at hP4
    have t4 := t3.set hP4 hg4
    have hA5 := hA5.grown hg4 (fun e => by injection e; omega)
    have hb0 : ((bget (mkStr (m :: s)) 0).toNat : Int) = (m.toNat : Int) := by rw [mkStr_bget]
    have hE4 := hE.ext t4.st.ext
    have hT4 : Pow w4 := TabIs.ext hT t4.st.ext
    have x4 := t4.st.ext
    have hinp := t4.st.inp
    have hpos := t4.st.pos
    clear hcut hix
    have hrd : rdHead cs = rdLine m s (bs.drop k1) (s.length + 3) := by rw [hrd, hdk1, ← hsl]
    have hL : (bs.drop k1).length = bs.length - k1 := by simp
    by_cases m0 : m = 43
    · have hmm : (m.toNat : Int) = 43 := by rw [m0]; rfl
      repeat' (first | (apply G_on; exact rfl; first | ((first | apply G1_assign | apply G1_move); exact rfl; exact rfl) | (apply G1_sindexJ (q := 0) (s := mkStr (m :: s)); exact T.str9; exact rfl; exact rfl; exact rfl; omega; exact rfl) | (apply G1_ssliceLoE (r := mkStr s); exact T.str9; exact rfl; exact rfl; omega; omega; exact mkStr_tail m s; exact rfl) | (apply G1_call (f := 42); exact rfl; exact rfl; exact rfl; exact mk_text; rintro _ w5 ⟨rfl, hx5⟩; refine ⟨(by first | exact .inl rfl | exact .inr (by assumption)), ?_⟩; (first | replace hA5 := hA5.ext hx5 | replace hA5 := hA5.ext ((Ext.drew Ext.rfl').trans hx5))) | (apply G1_eql; exact rfl; exact rfl; exact rfl)) | apply G_nil | apply Post_next | apply W_seq | apply W_region | (apply W_cond_dec; exact rfl; all_goals (intro h; try (exfalso; omega))) | refine W_drawn 1 [] [0,1,2,3,4,5] mixed (by decide +kernel) ?_ | apply W_block)
      have t5 := t4.xt (show Ext w4 w5 from (by repeat first | assumption | exact Ext.rfl' | apply Ext.drew | apply Ext.alloc | refine Ext.trans ?_ (by assumption)))
      apply G_on; exact rfl; apply G1_storeB; exact T.z31; exact rfl; exact rfl; exact hA5; exact rfl; exact rfl; (first | exact Nat.le_of_ble_eq_true rfl | (focus (simp [Value.cells]; done))); (first | exact Enc.one _ _ | (focus (simp [Value.oneCell']; done)) | (focus (simp [Value.cells, Value.oneCell']; done)) | exact Enc.oneAgg _ _); exact rfl; (first | exact .inl rfl | exact .inr (by simp [exempt])); exact rfl; intro wf hAf hgf hsf
      replace hAf : Blk wf.heap a5 31 (eRep.enc (leafR 0 (mkStr s) 0)) := hAf
      have tf := t5.own hgf (fun q hq => by injection hq with hq; omega)
      repeat' (first | (apply G_on; exact rfl; (apply G1_assign; exact rfl; exact rfl)) | apply G_nil | apply Post_next | apply W_ret | apply Post_then_ret | apply Post_block_ret)
      refine Post_ret Tryz.results39 ⟨_, _, _, rfl, rfl, run_loadVar_box T.a31 (by assumption) rfl, _, _, rfl, rfl, rfl⟩ ?_
      refine .inl ⟨.mk 0 (mkStr s) 0 [], s.length + 3, leafR 0 (mkStr s) 0, by rw [hcs]; exact rdT_leaf (hrd.trans (by unfold rdLine; rw [if_pos m0])), rfl, leaf_at (by omega) fit0, by rw [← hk1]; exact tf.st, tf.x⟩
    have hm0 : ¬ (m.toNat : Int) = 43 := u8_ne m0
    by_cases m1 : m = 45
    · have hmm : (m.toNat : Int) = 45 := by rw [m1]; rfl
      repeat' (first | (apply G_on; exact rfl; first | ((first | apply G1_assign | apply G1_move); exact rfl; exact rfl) | (apply G1_sindexJ (q := 0) (s := mkStr (m :: s)); exact T.str9; exact rfl; exact rfl; exact rfl; omega; exact rfl) | (apply G1_ssliceLoE (r := mkStr s); exact T.str9; exact rfl; exact rfl; omega; omega; exact mkStr_tail m s; exact rfl) | (apply G1_call (f := 43); exact rfl; exact rfl; exact rfl; exact mk_wrong; rintro _ w5 ⟨rfl, hx5⟩; refine ⟨(by first | exact .inl rfl | exact .inr (by assumption)), ?_⟩; (first | replace hA5 := hA5.ext hx5 | replace hA5 := hA5.ext ((Ext.drew Ext.rfl').trans hx5))) | (apply G1_eql; exact rfl; exact rfl; exact rfl)) | apply G_nil | apply Post_next | apply W_seq | apply W_region | (apply W_cond_dec; exact rfl; all_goals (intro h; try (exfalso; omega))) | refine W_drawn 1 [] [0,1,2,3,4,5] mixed (by decide +kernel) ?_ | apply W_block)
      have t5 := t4.xt (show Ext w4 w5 from (by repeat first | assumption | exact Ext.rfl' | apply Ext.drew | apply Ext.alloc | refine Ext.trans ?_ (by assumption)))
      apply G_on; exact rfl; apply G1_storeB; exact T.z31; exact rfl; exact rfl; exact hA5; exact rfl; exact rfl; (first | exact Nat.le_of_ble_eq_true rfl | (focus (simp [Value.cells]; done))); (first | exact Enc.one _ _ | (focus (simp [Value.oneCell']; done)) | (focus (simp [Value.cells, Value.oneCell']; done)) | exact Enc.oneAgg _ _); exact rfl; (first | exact .inl rfl | exact .inr (by simp [exempt])); exact rfl; intro wf hAf hgf hsf
      replace hAf : Blk wf.heap a5 31 (eRep.enc (leafR 1 (mkStr s) 0)) := hAf
      have tf := t5.own hgf (fun q hq => by injection hq with hq; omega)
      repeat' (first | (apply G_on; exact rfl; (apply G1_assign; exact rfl; exact rfl)) | apply G_nil | apply Post_next | apply W_ret | apply Post_then_ret | apply Post_block_ret)
      refine Post_ret Tryz.results39 ⟨_, _, _, rfl, rfl, run_loadVar_box T.a31 (by assumption) rfl, _, _, rfl, rfl, rfl⟩ ?_
      refine .inl ⟨.mk 1 (mkStr s) 0 [], s.length + 3, leafR 1 (mkStr s) 0, by rw [hcs]; exact rdT_leaf (hrd.trans (by unfold rdLine; rw [if_neg m0, if_pos m1])), rfl, leaf_at (by omega) fit0, by rw [← hk1]; exact tf.st, tf.x⟩
    have hm1 : ¬ (m.toNat : Int) = 45 := u8_ne m1
    by_cases hnn : ∃ n, IsNum (mkStr s) n
    rotate_left
    · have hnn' : ∀ n, ¬ IsNum (mkStr s) n := fun n hn => hnn ⟨n, hn⟩
      repeat' (first | (apply G_on; exact rfl; first | ((first | apply G1_assign | apply G1_move); exact rfl; exact rfl) | (apply G1_sindexJ (q := 0) (s := mkStr (m :: s)); exact T.str9; exact rfl; exact rfl; exact rfl; omega; exact rfl) | (apply G1_ssliceLoE (r := mkStr s); exact T.str9; exact rfl; exact rfl; omega; omega; exact mkStr_tail m s; exact rfl) | (apply G1_build (.agg (eRep.enc zRep).toArray); exact rfl; exact bldZ; exact rfl) | (apply G1_call (f := 44); exact rfl; exact rfl; exact rfl; exact nparse_nb hnn' (TabIs.ext hT4 (by repeat first | assumption | exact Ext.rfl' | apply Ext.drew | apply Ext.alloc | refine Ext.trans ?_ (by assumption))) (hE4.ext (by repeat first | assumption | exact Ext.rfl' | apply Ext.drew | apply Ext.alloc | refine Ext.trans ?_ (by assumption))); rintro _ w5 ⟨rfl, hx5⟩; refine ⟨(by first | exact .inl rfl | exact .inr (by assumption)), ?_⟩; (first | replace hA5 := hA5.ext hx5 | replace hA5 := hA5.ext ((Ext.drew Ext.rfl').trans hx5))) | (apply G1_extract; exact rfl; exact rfl; exact rfl) | (apply G1_not_f; exact rfl; exact rfl) | (apply G1_eql; exact rfl; exact rfl; exact rfl)) | apply G_nil | apply Post_next | apply W_seq | apply W_region | (apply W_cond_true; exact rfl) | (apply W_cond_dec; exact rfl; all_goals (intro h; try (exfalso; omega))) | refine W_drawn 1 [] [0,1,2,3,4,5] mixed (by decide +kernel) ?_ | apply W_skip | apply W_block | apply Post_block_normal)
      have t5 := t4.xt (show Ext w4 w5 from (by repeat first | assumption | exact Ext.rfl' | apply Ext.drew | apply Ext.alloc | refine Ext.trans ?_ (by assumption)))
      apply G_on; exact rfl; apply G1_storeB; exact T.z31; exact rfl; exact rfl; exact hA5; exact rfl; exact rfl; (first | exact Nat.le_of_ble_eq_true rfl | (focus (simp [Value.cells]; done))); (first | exact Enc.one _ _ | (focus (simp [Value.oneCell']; done)) | (focus (simp [Value.cells, Value.oneCell']; done)) | exact Enc.oneAgg _ _); exact rfl; (first | exact .inl rfl | exact .inr (by simp [exempt])); exact rfl; intro wf hAf hgf hsf
      replace hAf : Blk wf.heap a5 31 (eRep.enc zRep) := hAf
      have tf := t5.own hgf (fun q hq => by injection hq with hq; omega)
      repeat' (first | (apply G_on; exact rfl; (apply G1_assign; exact rfl; exact rfl)) | apply G_nil | apply Post_next | apply W_ret | apply Post_then_ret | apply Post_block_ret)
      refine Post_ret Tryz.results39 ⟨_, _, _, rfl, rfl, run_loadVar_box T.a31 (by assumption) rfl, _, _, rfl, rfl, rfl⟩ ?_
      refine .inr ⟨?_, zRep, _, rfl, tf.st, tf.x⟩
      rw [hcs]
      exact rdT_none (hrd.trans (by unfold rdLine; rw [if_neg m0, if_neg m1, numOf_none hnn']))
    obtain ⟨n, hIs⟩ := hnn
    have hfn := hIs.1
    unfold fit64 at hfn
    have hnum := numOf_some hIs
    by_cases m2 : m = 58
    · have hmm : (m.toNat : Int) = 58 := by rw [m2]; rfl
      repeat' (first | (apply G_on; exact rfl; first | ((first | apply G1_assign | apply G1_move); exact rfl; exact rfl) | (apply G1_sindexJ (q := 0) (s := mkStr (m :: s)); exact T.str9; exact rfl; exact rfl; exact rfl; omega; exact rfl) | (apply G1_ssliceLoE (r := mkStr s); exact T.str9; exact rfl; exact rfl; omega; omega; exact mkStr_tail m s; exact rfl) | (apply G1_call (f := 44); exact rfl; exact rfl; exact rfl; exact nparse_yes hIs (TabIs.ext hT4 (by repeat first | assumption | exact Ext.rfl' | apply Ext.drew | apply Ext.alloc | refine Ext.trans ?_ (by assumption))); rintro _ w5 ⟨rfl, hx5⟩; refine ⟨(by first | exact .inl rfl | exact .inr (by assumption)), ?_⟩; (first | replace hA5 := hA5.ext hx5 | replace hA5 := hA5.ext ((Ext.drew Ext.rfl').trans hx5))) | (apply G1_call (f := 45); exact rfl; exact rfl; exact rfl; exact mk_int; rintro _ w6 ⟨rfl, hx6⟩; refine ⟨(by first | exact .inl rfl | exact .inr (by assumption)), ?_⟩; (first | replace hA5 := hA5.ext hx6 | replace hA5 := hA5.ext ((Ext.drew Ext.rfl').trans hx6))) | (apply G1_extract; exact rfl; exact rfl; exact rfl) | (apply G1_not_t; exact rfl; exact rfl) | (apply G1_eql; exact rfl; exact rfl; exact rfl)) | apply G_nil | apply Post_next | apply W_seq | apply W_region | (apply W_cond_false; exact rfl) | (apply W_cond_dec; exact rfl; all_goals (intro h; try (exfalso; omega))) | refine W_drawn 1 [] [0,1,2,3,4,5] mixed (by decide +kernel) ?_ | apply W_skip | apply W_block | apply Post_block_normal)
      have t5 := t4.xt (show Ext w4 w6 from (by repeat first | assumption | exact Ext.rfl' | apply Ext.drew | apply Ext.alloc | refine Ext.trans ?_ (by assumption)))
      apply G_on; exact rfl; apply G1_storeB; exact T.z31; exact rfl; exact rfl; exact hA5; exact rfl; exact rfl; (first | exact Nat.le_of_ble_eq_true rfl | (focus (simp [Value.cells]; done))); (first | exact Enc.one _ _ | (focus (simp [Value.oneCell']; done)) | (focus (simp [Value.cells, Value.oneCell']; done)) | exact Enc.oneAgg _ _); exact rfl; (first | exact .inl rfl | exact .inr (by simp [exempt])); exact rfl; intro wf hAf hgf hsf
      replace hAf : Blk wf.heap a5 31 (eRep.enc (leafR 2 ⟨#[]⟩ n)) := hAf
      have tf := t5.own hgf (fun q hq => by injection hq with hq; omega)
      repeat' (first | (apply G_on; exact rfl; (apply G1_assign; exact rfl; exact rfl)) | apply G_nil | apply Post_next | apply W_ret | apply Post_then_ret | apply Post_block_ret)
      refine Post_ret Tryz.results39 ⟨_, _, _, rfl, rfl, run_loadVar_box T.a31 (by assumption) rfl, _, _, rfl, rfl, rfl⟩ ?_
      refine .inl ⟨.mk 2 ⟨#[]⟩ n [], s.length + 3, leafR 2 ⟨#[]⟩ n, by rw [hcs]; exact rdT_leaf (hrd.trans (by unfold rdLine; rw [if_neg m0, if_neg m1, hnum]; simp only; rw [if_pos m2])), rfl, leaf_at nil_size hfn, by rw [← hk1]; exact tf.st, tf.x⟩
    have hm2 : ¬ (m.toNat : Int) = 58 := u8_ne m2
    by_cases m3 : m = 36
    · have hmm : (m.toNat : Int) = 36 := by rw [m3]; rfl
      by_cases hn1 : n = -1
      · repeat' (first | (apply G_on; exact rfl; first | ((first | apply G1_assign | apply G1_move); exact rfl; exact rfl) | (apply G1_sindexJ (q := 0) (s := mkStr (m :: s)); exact T.str9; exact rfl; exact rfl; exact rfl; omega; exact rfl) | (apply G1_ssliceLoE (r := mkStr s); exact T.str9; exact rfl; exact rfl; omega; omega; exact mkStr_tail m s; exact rfl) | (apply G1_call (f := 44); exact rfl; exact rfl; exact rfl; exact nparse_yes hIs (TabIs.ext hT4 (by repeat first | assumption | exact Ext.rfl' | apply Ext.drew | apply Ext.alloc | refine Ext.trans ?_ (by assumption))); rintro _ w5 ⟨rfl, hx5⟩; refine ⟨(by first | exact .inl rfl | exact .inr (by assumption)), ?_⟩; (first | replace hA5 := hA5.ext hx5 | replace hA5 := hA5.ext ((Ext.drew Ext.rfl').trans hx5))) | (apply G1_call (f := 46); exact rfl; exact rfl; exact rfl; exact mk_none; rintro _ w6 ⟨rfl, hx6⟩; refine ⟨(by first | exact .inl rfl | exact .inr (by assumption)), ?_⟩; (first | replace hA5 := hA5.ext hx6 | replace hA5 := hA5.ext ((Ext.drew Ext.rfl').trans hx6))) | (apply G1_extract; exact rfl; exact rfl; exact rfl) | (apply G1_not_t; exact rfl; exact rfl) | (apply G1_pick_t; exact rfl; exact rfl; exact rfl) | (apply G1_eql; exact rfl; exact rfl; exact rfl)) | apply G_nil | apply Post_next | apply W_seq | apply W_region | (apply W_cond_false; exact rfl) | (apply W_cond_dec; exact rfl; all_goals (intro h; try (exfalso; omega))) | ((fail_if_success (apply G_on; exact rfl)); apply G_split_dec; exact rfl; exact rfl; all_goals (intro h; try (exfalso; omega))) | refine W_drawn 1 [] [0,1,2,3,4,5] mixed (by decide +kernel) ?_ | apply W_skip | apply W_block | apply Post_block_normal)
        have t5 := t4.xt (show Ext w4 w6 from (by repeat first | assumption | exact Ext.rfl' | apply Ext.drew | apply Ext.alloc | refine Ext.trans ?_ (by assumption)))
        apply G_on; exact rfl; apply G1_storeB; exact T.z31; exact rfl; exact rfl; exact hA5; exact rfl; exact rfl; (first | exact Nat.le_of_ble_eq_true rfl | (focus (simp [Value.cells]; done))); (first | exact Enc.one _ _ | (focus (simp [Value.oneCell']; done)) | (focus (simp [Value.cells, Value.oneCell']; done)) | exact Enc.oneAgg _ _); exact rfl; (first | exact .inl rfl | exact .inr (by simp [exempt])); exact rfl; intro wf hAf hgf hsf
        replace hAf : Blk wf.heap a5 31 (eRep.enc (leafR 4 ⟨#[]⟩ 0)) := hAf
        have tf := t5.own hgf (fun q hq => by injection hq with hq; omega)
        repeat' (first | (apply G_on; exact rfl; (apply G1_assign; exact rfl; exact rfl)) | apply G_nil | apply Post_next | apply W_ret | apply Post_then_ret | apply Post_block_ret)
        refine Post_ret Tryz.results39 ⟨_, _, _, rfl, rfl, run_loadVar_box T.a31 (by assumption) rfl, _, _, rfl, rfl, rfl⟩ ?_
        refine .inl ⟨.mk 4 ⟨#[]⟩ 0 [], s.length + 3, leafR 4 ⟨#[]⟩ 0, by rw [hcs]; exact rdT_leaf (hrd.trans (by unfold rdLine; rw [if_neg m0, if_neg m1, hnum]; simp only; rw [if_neg m2, if_pos m3, if_pos hn1])), rfl, leaf_at nil_size fit0, by rw [← hk1]; exact tf.st, tf.x⟩
      · have hD4 : Sl w4.heap eByte (subp p c k1 1) (c - k1) (bs.drop k1) := (h.sl.ext x4).drop (by omega)
        by_cases hok2 : 0 ≤ n ∧ n ≤ ((bs.drop k1).length : Int) ∧ ((bs.drop k1).drop n.toNat).take 2 = [13, 10]
        · have hcut2 : ∀ w', Ext w4 w' → Ctr Tryz.prog 40 [.slice (subp p c k1 1) (bs.length - k1) (c - k1), .int .i64 n] w' (fun v w'' => v = .tuple #[.string (mkStr ((bs.drop k1).take n.toNat)), .bool true] ∧ Ext w' w'') := fun w' hx => by
            have e : n = ((n.toNat : Nat) : Int) := by omega
            have := cut_spec (hD4.ext hx) (k := n.toNat) (by omega)
            rw [if_pos hok2.2.2, ← e, hL] at this
            exact this
          have hsz : (mkStr ((bs.drop k1).take n.toNat)).size = n.toNat := by rw [mkStr_size, List.length_take]; omega
          repeat' (first | (apply G_on; exact rfl; first | ((first | apply G1_assign | apply G1_move); exact rfl; exact rfl) | (apply G1_sindexJ (q := 0) (s := mkStr (m :: s)); exact T.str9; exact rfl; exact rfl; exact rfl; omega; exact rfl) | (apply G1_ssliceLoE (r := mkStr s); exact T.str9; exact rfl; exact rfl; omega; omega; exact mkStr_tail m s; exact rfl) | (apply G1_call (f := 44); exact rfl; exact rfl; exact rfl; exact nparse_yes hIs (TabIs.ext hT4 (by repeat first | assumption | exact Ext.rfl' | apply Ext.drew | apply Ext.alloc | refine Ext.trans ?_ (by assumption))); rintro _ w5 ⟨rfl, hx5⟩; refine ⟨(by first | exact .inl rfl | exact .inr (by assumption)), ?_⟩; (first | replace hinp := hinp.ext hx5 | replace hinp := hinp.ext ((Ext.drew Ext.rfl').trans hx5)); (first | replace hpos := hpos.ext hx5 | replace hpos := hpos.ext ((Ext.drew Ext.rfl').trans hx5)); (first | replace hA5 := hA5.ext hx5 | replace hA5 := hA5.ext ((Ext.drew Ext.rfl').trans hx5))) | (apply G1_sliceLoJ (q := k1); exact T.s22; exact rfl; exact rfl; exact rfl; exact hok; omega; exact rfl) | (apply G1_call (f := 40); exact rfl; exact rfl; exact rfl; exact hcut2 _ (by repeat first | assumption | exact Ext.rfl' | apply Ext.drew | apply Ext.alloc | refine Ext.trans ?_ (by assumption)); rintro _ w6 ⟨rfl, hx6⟩; refine ⟨(by first | exact .inl rfl | exact .inr (by assumption)), ?_⟩; (first | replace hinp := hinp.ext hx6 | replace hinp := hinp.ext ((Ext.drew Ext.rfl').trans hx6)); (first | replace hpos := hpos.ext hx6 | replace hpos := hpos.ext ((Ext.drew Ext.rfl').trans hx6)); (first | replace hA5 := hA5.ext hx6 | replace hA5 := hA5.ext ((Ext.drew Ext.rfl').trans hx6))) | (apply G1_loadB; (first | exact T.p22 | exact T.p3); exact rfl; assumption; exact rfl; exact rfl) | (apply G1_extract; exact rfl; exact rfl; exact rfl) | (apply G1_not_t; exact rfl; exact rfl) | (apply G1_pick_t; exact rfl; exact rfl; exact rfl) | (apply G1_slen; exact T.str9; exact rfl; exact rfl) | (apply G1_add; exact rfl; exact rfl; omega; omega; exact rfl) | (apply G1_eql; exact rfl; exact rfl; exact rfl)) | apply G_nil | apply Post_next | apply W_seq | apply W_region | (apply W_cond_false; exact rfl) | (apply W_cond_dec; exact rfl; all_goals (intro h; try (exfalso; omega))) | ((fail_if_success (apply G_on; exact rfl)); apply G_split_dec; exact rfl; exact rfl; all_goals (intro h; try (exfalso; omega))) | refine W_drawn 1 [] [0,1,2,3,4,5] mixed (by decide +kernel) ?_ | apply W_skip | apply W_block | apply Post_block_normal)
          have t6 := t4.xt (show Ext w4 w6 from (by repeat first | assumption | exact Ext.rfl' | apply Ext.drew | apply Ext.alloc | refine Ext.trans ?_ (by assumption)))
          apply G_on; exact rfl; apply G1_storeB; exact T.z3; exact rfl; exact rfl; exact hpos; exact rfl; exact rfl; (first | exact Nat.le_of_ble_eq_true rfl | (focus (simp [Value.cells]; done))); (first | exact Enc.one _ _ | (focus (simp [Value.oneCell']; done)) | (focus (simp [Value.cells, Value.oneCell']; done)) | exact Enc.oneAgg _ _); exact rfl; (first | exact .inl rfl | exact .inr (by simp [exempt])); exact rfl; intro w7 hP7 hg7 hs7
          replace hP7 : Blk w7.heap aa 3 [.int .i64 ((k1 : Int) + (((mkStr ((bs.drop k1).take n.toNat)).size : Int) + 2))] := hP7
          have e7 : (k1 : Int) + (((mkStr ((bs.drop k1).take n.toNat)).size : Int) + 2) = ((k1 + n.toNat + 2 : Nat) : Int) := by rw [hsz]; push_cast; omega
          rw [e7] at hP7
          have t7 := t6.set hP7 hg7
          replace hA5 := hA5.grown hg7 (fun e => by injection e; omega)
          repeat' (first | (apply G_on; exact rfl; first | (apply G1_move; exact rfl; exact rfl) | (apply G1_call (f := 47); exact rfl; exact rfl; exact rfl; exact mk_str; rintro _ w8 ⟨rfl, hx8⟩; refine ⟨(by first | exact .inl rfl | exact .inr (by assumption)), ?_⟩; (first | replace hA5 := hA5.ext hx8 | replace hA5 := hA5.ext ((Ext.drew Ext.rfl').trans hx8)))) | apply G_nil | apply Post_next | apply W_seq | apply W_region)
          have t8 := t7.xt (show Ext w7 w8 from (by repeat first | assumption | exact Ext.rfl' | apply Ext.drew | apply Ext.alloc | refine Ext.trans ?_ (by assumption)))
          apply G_on; exact rfl; apply G1_storeB; exact T.z31; exact rfl; exact rfl; exact hA5; exact rfl; exact rfl; (first | exact Nat.le_of_ble_eq_true rfl | (focus (simp [Value.cells]; done))); (first | exact Enc.one _ _ | (focus (simp [Value.oneCell']; done)) | (focus (simp [Value.cells, Value.oneCell']; done)) | exact Enc.oneAgg _ _); exact rfl; (first | exact .inl rfl | exact .inr (by simp [exempt])); exact rfl; intro wf hAf hgf hsf
          replace hAf : Blk wf.heap a5 31 (eRep.enc (leafR 3 (mkStr ((bs.drop k1).take n.toNat)) 0)) := hAf
          have tf := t8.own hgf (fun q hq => by injection hq with hq; omega)
          repeat' (first | (apply G_on; exact rfl; (apply G1_assign; exact rfl; exact rfl)) | apply G_nil | apply Post_next | apply W_ret | apply Post_then_ret | apply Post_block_ret)
          refine Post_ret Tryz.results39 ⟨_, _, _, rfl, rfl, run_loadVar_box T.a31 (by assumption) rfl, _, _, rfl, rfl, rfl⟩ ?_
          refine .inl ⟨.mk 3 (mkStr ((bs.drop k1).take n.toNat)) 0 [], s.length + 3 + n.toNat + 2, leafR 3 (mkStr ((bs.drop k1).take n.toNat)) 0, by rw [hcs]; exact rdT_leaf (hrd.trans (by unfold rdLine; rw [if_neg m0, if_neg m1, hnum]; simp only; rw [if_neg m2, if_pos m3, if_neg hn1, if_pos hok2])), rfl, leaf_at (by omega) fit0, ?_, tf.x⟩
          rw [show k + (s.length + 3 + n.toNat + 2) = k1 + n.toNat + 2 by omega]
          exact tf.st
        · have hcut2 : ∀ w', Ext w4 w' → Ctr Tryz.prog 40 [.slice (subp p c k1 1) (bs.length - k1) (c - k1), .int .i64 n] w' (fun v w'' => v = .tuple #[.string ⟨#[]⟩, .bool false] ∧ Ext w' w'') := fun w' hx => by
            by_cases hr : 0 ≤ n ∧ n ≤ ((bs.drop k1).length : Int)
            · have e : n = ((n.toNat : Nat) : Int) := by omega
              have := cut_spec (hD4.ext hx) (k := n.toNat) (by omega)
              rw [if_neg (fun e => hok2 ⟨hr.1, hr.2, e⟩), ← e, hL] at this
              exact this
            · have := cut_no (hD4.ext hx) hr
              rw [hL] at this
              exact this
          have hsz : (⟨#[]⟩ : ByteArray).size = 0 := rfl
          repeat' (first | (apply G_on; exact rfl; first | ((first | apply G1_assign | apply G1_move); exact rfl; exact rfl) | (apply G1_sindexJ (q := 0) (s := mkStr (m :: s)); exact T.str9; exact rfl; exact rfl; exact rfl; omega; exact rfl) | (apply G1_ssliceLoE (r := mkStr s); exact T.str9; exact rfl; exact rfl; omega; omega; exact mkStr_tail m s; exact rfl) | (apply G1_call (f := 44); exact rfl; exact rfl; exact rfl; exact nparse_yes hIs (TabIs.ext hT4 (by repeat first | assumption | exact Ext.rfl' | apply Ext.drew | apply Ext.alloc | refine Ext.trans ?_ (by assumption))); rintro _ w5 ⟨rfl, hx5⟩; refine ⟨(by first | exact .inl rfl | exact .inr (by assumption)), ?_⟩; (first | replace hinp := hinp.ext hx5 | replace hinp := hinp.ext ((Ext.drew Ext.rfl').trans hx5)); (first | replace hpos := hpos.ext hx5 | replace hpos := hpos.ext ((Ext.drew Ext.rfl').trans hx5)); (first | replace hA5 := hA5.ext hx5 | replace hA5 := hA5.ext ((Ext.drew Ext.rfl').trans hx5))) | (apply G1_sliceLoJ (q := k1); exact T.s22; exact rfl; exact rfl; exact rfl; exact hok; omega; exact rfl) | (apply G1_call (f := 40); exact rfl; exact rfl; exact rfl; exact hcut2 _ (by repeat first | assumption | exact Ext.rfl' | apply Ext.drew | apply Ext.alloc | refine Ext.trans ?_ (by assumption)); rintro _ w6 ⟨rfl, hx6⟩; refine ⟨(by first | exact .inl rfl | exact .inr (by assumption)), ?_⟩; (first | replace hinp := hinp.ext hx6 | replace hinp := hinp.ext ((Ext.drew Ext.rfl').trans hx6)); (first | replace hpos := hpos.ext hx6 | replace hpos := hpos.ext ((Ext.drew Ext.rfl').trans hx6)); (first | replace hA5 := hA5.ext hx6 | replace hA5 := hA5.ext ((Ext.drew Ext.rfl').trans hx6))) | (apply G1_loadB; (first | exact T.p22 | exact T.p3); exact rfl; assumption; exact rfl; exact rfl) | (apply G1_extract; exact rfl; exact rfl; exact rfl) | (apply G1_not_t; exact rfl; exact rfl) | (apply G1_pick_t; exact rfl; exact rfl; exact rfl) | (apply G1_slen; exact T.str9; exact rfl; exact rfl) | (apply G1_add; exact rfl; exact rfl; omega; omega; exact rfl) | (apply G1_eql; exact rfl; exact rfl; exact rfl)) | apply G_nil | apply Post_next | apply W_seq | apply W_region | (apply W_cond_false; exact rfl) | (apply W_cond_dec; exact rfl; all_goals (intro h; try (exfalso; omega))) | ((fail_if_success (apply G_on; exact rfl)); apply G_split_dec; exact rfl; exact rfl; all_goals (intro h; try (exfalso; omega))) | refine W_drawn 1 [] [0,1,2,3,4,5] mixed (by decide +kernel) ?_ | apply W_skip | apply W_block | apply Post_block_normal)
          have t6 := t4.xt (show Ext w4 w6 from (by repeat first | assumption | exact Ext.rfl' | apply Ext.drew | apply Ext.alloc | refine Ext.trans ?_ (by assumption)))
          apply G_on; exact rfl; apply G1_storeB; exact T.z3; exact rfl; exact rfl; exact hpos; exact rfl; exact rfl; (first | exact Nat.le_of_ble_eq_true rfl | (focus (simp [Value.cells]; done))); (first | exact Enc.one _ _ | (focus (simp [Value.oneCell']; done)) | (focus (simp [Value.cells, Value.oneCell']; done)) | exact Enc.oneAgg _ _); exact rfl; (first | exact .inl rfl | exact .inr (by simp [exempt])); exact rfl; intro w7 hP7 hg7 hs7
          replace hP7 : Blk w7.heap aa 3 [.int .i64 ((k1 : Int) + (((⟨#[]⟩ : ByteArray).size : Int) + 2))] := hP7
          have e7 : (k1 : Int) + (((⟨#[]⟩ : ByteArray).size : Int) + 2) = ((k1 + 2 : Nat) : Int) := by rw [hsz]; push_cast; omega
          rw [e7] at hP7
          have t7 := t6.set hP7 hg7
          replace hA5 := hA5.grown hg7 (fun e => by injection e; omega)
          repeat' (first | (apply G_on; exact rfl; first | (apply G1_move; exact rfl; exact rfl) | (apply G1_call (f := 47); exact rfl; exact rfl; exact rfl; exact mk_str; rintro _ w8 ⟨rfl, hx8⟩; refine ⟨(by first | exact .inl rfl | exact .inr (by assumption)), ?_⟩; (first | replace hA5 := hA5.ext hx8 | replace hA5 := hA5.ext ((Ext.drew Ext.rfl').trans hx8)))) | apply G_nil | apply Post_next | apply W_seq | apply W_region)
          have t8 := t7.xt (show Ext w7 w8 from (by repeat first | assumption | exact Ext.rfl' | apply Ext.drew | apply Ext.alloc | refine Ext.trans ?_ (by assumption)))
          apply G_on; exact rfl; apply G1_storeB; exact T.z31; exact rfl; exact rfl; exact hA5; exact rfl; exact rfl; (first | exact Nat.le_of_ble_eq_true rfl | (focus (simp [Value.cells]; done))); (first | exact Enc.one _ _ | (focus (simp [Value.oneCell']; done)) | (focus (simp [Value.cells, Value.oneCell']; done)) | exact Enc.oneAgg _ _); exact rfl; (first | exact .inl rfl | exact .inr (by simp [exempt])); exact rfl; intro wf hAf hgf hsf
          replace hAf : Blk wf.heap a5 31 (eRep.enc (leafR 3 ⟨#[]⟩ 0)) := hAf
          have tf := t8.own hgf (fun q hq => by injection hq with hq; omega)
          repeat' (first | (apply G_on; exact rfl; (apply G1_assign; exact rfl; exact rfl)) | apply G_nil | apply Post_next | apply W_ret | apply Post_then_ret | apply Post_block_ret)
          refine Post_ret Tryz.results39 ⟨_, _, _, rfl, rfl, run_loadVar_box T.a31 (by assumption) rfl, _, _, rfl, rfl, rfl⟩ ?_
          refine .inr ⟨?_, leafR 3 ⟨#[]⟩ 0, _, rfl, tf.st, tf.x⟩
          rw [hcs]
          exact rdT_none (hrd.trans (by unfold rdLine; rw [if_neg m0, if_neg m1, hnum]; simp only; rw [if_neg m2, if_pos m3, if_neg hn1, if_neg hok2]))
    have hm3 : ¬ (m.toNat : Int) = 36 := u8_ne m3
    by_cases hm4 : m = 42 ∧ 0 ≤ n
    rotate_left
    · have hm5 : ¬ (m.toNat : Int) = 42 ∨ n < 0 := by
        by_cases m4 : m = 42
        · right
          have : ¬ 0 ≤ n := fun h0 => hm4 ⟨m4, h0⟩
          omega
        · exact .inl (u8_ne m4)
      repeat' (first | (apply G_on; exact rfl; first | ((first | apply G1_assign | apply G1_move); exact rfl; exact rfl) | (apply G1_sindexJ (q := 0) (s := mkStr (m :: s)); exact T.str9; exact rfl; exact rfl; exact rfl; omega; exact rfl) | (apply G1_ssliceLoE (r := mkStr s); exact T.str9; exact rfl; exact rfl; omega; omega; exact mkStr_tail m s; exact rfl) | (apply G1_build (.agg (eRep.enc zRep).toArray); exact rfl; exact bldZ; exact rfl) | (apply G1_call (f := 44); exact rfl; exact rfl; exact rfl; exact nparse_yes hIs (TabIs.ext hT4 (by repeat first | assumption | exact Ext.rfl' | apply Ext.drew | apply Ext.alloc | refine Ext.trans ?_ (by assumption))); rintro _ w5 ⟨rfl, hx5⟩; refine ⟨(by first | exact .inl rfl | exact .inr (by assumption)), ?_⟩; (first | replace hA5 := hA5.ext hx5 | replace hA5 := hA5.ext ((Ext.drew Ext.rfl').trans hx5))) | ((first | apply G1_extract | apply G1_neq | apply G1_lss); exact rfl; exact rfl; exact rfl) | (apply G1_not_t; exact rfl; exact rfl) | (apply G1_pick_t; exact rfl; exact rfl; exact rfl) | (apply G1_pick_f; exact rfl; exact rfl; exact rfl) | (apply G1_eql; exact rfl; exact rfl; exact rfl)) | apply G_nil | apply Post_next | apply W_seq | apply W_region | (apply W_cond_true; exact rfl) | (apply W_cond_false; exact rfl) | (apply W_cond_dec; exact rfl; all_goals (intro h; try (exfalso; omega))) | (apply G_off; exact rfl; exact rfl) | ((fail_if_success (apply G_on; exact rfl)); apply G_split_dec; exact rfl; exact rfl; all_goals (intro h; try (exfalso; omega))) | refine W_drawn 1 [] [0,1,2,3,4,5] mixed (by decide +kernel) ?_ | apply W_skip | apply W_block | apply Post_block_normal)
      all_goals
        have t5 := t4.xt (show Ext w4 w5 from (by repeat first | assumption | exact Ext.rfl' | apply Ext.drew | apply Ext.alloc | refine Ext.trans ?_ (by assumption)))
        apply G_on; exact rfl; apply G1_storeB; exact T.z31; exact rfl; exact rfl; exact hA5; exact rfl; exact rfl; (first | exact Nat.le_of_ble_eq_true rfl | (focus (simp [Value.cells]; done))); (first | exact Enc.one _ _ | (focus (simp [Value.oneCell']; done)) | (focus (simp [Value.cells, Value.oneCell']; done)) | exact Enc.oneAgg _ _); exact rfl; (first | exact .inl rfl | exact .inr (by simp [exempt])); exact rfl; intro wf hAf hgf hsf
        replace hAf : Blk wf.heap a5 31 (eRep.enc zRep) := hAf
        have tf := t5.own hgf (fun q hq => by injection hq with hq; omega)
        repeat' (first | (apply G_on; exact rfl; (apply G1_assign; exact rfl; exact rfl)) | apply G_nil | apply Post_next | apply W_ret | apply Post_then_ret | apply Post_block_ret)
        refine Post_ret Tryz.results39 ⟨_, _, _, rfl, rfl, run_loadVar_box T.a31 (by assumption) rfl, _, _, rfl, rfl, rfl⟩ ?_
        refine .inr ⟨?_, zRep, _, rfl, tf.st, tf.x⟩
        rw [hcs]
        exact rdT_none (hrd.trans (by unfold rdLine; rw [if_neg m0, if_neg m1, hnum]; simp only; rw [if_neg m2, if_neg m3, if_neg hm4]))
    have hrl : rdHead cs = .list n.toNat (s.length + 3) := hrd.trans (by unfold rdLine; rw [if_neg m0, if_neg m1, hnum]; simp only; rw [if_neg m2, if_neg m3, if_pos hm4])
    have hmm : (m.toNat : Int) = 42 := by rw [hm4.1]; rfl
    have hn0 := hm4.2
    repeat' (first | (apply G_on; exact rfl; first | ((first | apply G1_assign | apply G1_move); exact rfl; exact rfl) | (apply G1_sindexJ (q := 0) (s := mkStr (m :: s)); exact T.str9; exact rfl; exact rfl; exact rfl; omega; exact rfl) | (apply G1_ssliceLoE (r := mkStr s); exact T.str9; exact rfl; exact rfl; omega; omega; exact mkStr_tail m s; exact rfl) | (apply G1_build (.agg (eRep.enc zRep).toArray); exact rfl; exact bldZ; exact rfl) | (apply G1_call (f := 44); exact rfl; exact rfl; exact rfl; exact nparse_yes hIs (TabIs.ext hT4 (by repeat first | assumption | exact Ext.rfl' | apply Ext.drew | apply Ext.alloc | refine Ext.trans ?_ (by assumption))); rintro _ w5 ⟨rfl, hx5⟩; refine ⟨(by first | exact .inl rfl | exact .inr (by assumption)), ?_⟩; (first | replace hA5 := hA5.ext hx5 | replace hA5 := hA5.ext ((Ext.drew Ext.rfl').trans hx5))) | ((first | apply G1_extract | apply G1_neq | apply G1_lss | apply G1_geq); exact rfl; exact rfl; exact rfl) | (apply G1_not_t; exact rfl; exact rfl) | (apply G1_pick_f; exact rfl; exact rfl; exact rfl) | (apply G1_eql; exact rfl; exact rfl; exact rfl)) | apply G_nil | apply Post_next | apply W_seq | apply W_region | (apply W_cond_true; exact rfl) | (apply W_cond_false; exact rfl) | (apply W_cond_dec; exact rfl; all_goals (intro h; try (exfalso; omega))) | (apply G_off; exact rfl; exact rfl) | ((fail_if_success (apply G_on; exact rfl)); apply G_split_dec; exact rfl; exact rfl; all_goals (intro h; try (exfalso; omega))) | refine W_drawn 1 [] [0,1,2,3,4,5] mixed (by decide +kernel) ?_ | apply W_skip | apply W_block | apply Post_block_normal)
    all_goals
      have t5 := t4.xt (show Ext w4 w5 from (by repeat first | assumption | exact Ext.rfl' | apply Ext.drew | apply Ext.alloc | refine Ext.trans ?_ (by assumption)))
      apply G_on; exact rfl; apply G1_storeB; exact T.z31; exact rfl; exact rfl; exact hA5; exact rfl; exact rfl; (first | exact Nat.le_of_ble_eq_true rfl | (focus (simp [Value.cells]; done))); (first | exact Enc.one _ _ | (focus (simp [Value.oneCell']; done)) | (focus (simp [Value.cells, Value.oneCell']; done)) | exact Enc.oneAgg _ _); exact rfl; (first | exact .inl rfl | exact .inr (by simp [exempt])); exact rfl; intro wf hAf hgf hsf
      replace hAf : Blk wf.heap a5 31 (eRep.enc zRep) := hAf
      have tf := t5.own hgf (fun q hq => by injection hq with hq; omega)
      repeat' (first | (apply G_on; exact rfl; (apply G1_assign; exact rfl; exact rfl)) | apply G_nil | apply Post_next | apply W_ret | apply Post_then_ret | apply Post_block_ret)
      refine Post_ret Tryz.results39 ⟨_, _, _, rfl, rfl, run_loadVar_box T.a31 (by assumption) rfl, _, _, rfl, rfl, rfl⟩ ?_
      refine .inr ⟨?_, zRep, _, rfl, tf.st, tf.x⟩
      rw [hcs]
      exact rdT_list0 hrl
  | succ d ih =>
    intro w k ab aa aT tT p c bs hk hbs h hd4
    have hU1 := hU.ext h.ext
    have hT1 : Pow w := TabIs.ext hT h.ext
    have hE1 := hE.ext h.ext
    have hC := h.sl.ext h.ext
    have hok := hC.ok
    have hle := hok.le
    have n1 := hC.bound
    have t0 := TkS.init h
    have l0 := t0.l0
    have l1 := t0.l1
    have l2 := t0.l2
    have l3 := t0.l3
    obtain ⟨cs, hcs⟩ : ∃ cs, bs.drop k = cs := ⟨_, rfl⟩
    have hcl : cs.length = bs.length - k := by rw [← hcs, List.length_drop]
    have hcap : bs.length ≤ maxLen := Nat.le_trans hle hok.cap
    have hD : Sl w.heap eByte (subp p c k 1) (c - k) cs := by rw [← hcs]; exact hC.drop (by omega)
    refine Ctr_of Tryz.func39 Tryz.ntmps39 rfl rfl rfl ?_
    repeat' (first | apply W_seq | apply W_region)
    apply G_on; exact rfl; apply G1_alloc; exact T.zero31; exact rfl; exact rfl; intro a5 w1 ha5 hA5 hx1 hs1
    replace hA5 : Blk w1.heap a5 31 (eRep.enc zRep) := hA5
    have t1 := t0.xt hx1
    have hinp := t1.st.inp
    have hpos := t1.st.pos
    have hix : ∀ w', Ext w w' → Ctr Tryz.prog 41 [.slice (subp p c k 1) (bs.length - k) (c - k), .string brs] w' (fun v w'' => v = .int .i64 (brI cs) ∧ Ext w' w'') := fun w' hx => by
      have := bytesIndex_spec (hD.ext hx) (hU1.ext hx)
      rw [hcl] at this
      exact this
    have hcut : ∀ w', Ext w w' → Ctr Tryz.prog 40 [.slice (subp p c k 1) (bs.length - k) (c - k), .int .i64 (brI cs)] w' (fun v w'' => v = (if (cs.drop (brAt cs)).take 2 = [13, 10] then .tuple #[.string (mkStr (cs.take (brAt cs))), .bool true] else .tuple #[.string ⟨#[]⟩, .bool false]) ∧ Ext w' w'') := fun w' hx => by
      rw [← hcl]
      by_cases hb : brAt cs < cs.length
      · have e : brI cs = (brAt cs : Int) := if_pos hb
        rw [e]
        exact cut_spec (hD.ext hx) (by omega)
      · have e : brI cs = -1 := if_neg hb
        have e2 : cs.drop (brAt cs) = [] := List.drop_of_length_le (by omega)
        rw [e, e2, if_neg (by simp)]
        exact cut_no (hD.ext hx) (by omega)
    by_cases hln : (cs.drop (brAt cs)).take 2 = [13, 10]
    rotate_left
    · rw [if_neg hln] at hcut
      repeat' (first | (apply G_on; exact rfl; first | ((first | apply G1_assign | apply G1_move); exact rfl; exact rfl) | (apply G1_sliceLoJ (q := k); exact T.s22; exact rfl; exact rfl; exact rfl; exact hok; omega; exact rfl) | (apply G1_call (f := 41); exact rfl; exact rfl; exact rfl; exact hix _ (by repeat first | assumption | exact Ext.rfl' | apply Ext.drew | apply Ext.alloc | refine Ext.trans ?_ (by assumption)); rintro _ w2 ⟨rfl, hx2⟩; refine ⟨(by first | exact .inl rfl | exact .inr (by assumption)), ?_⟩; (first | replace hinp := hinp.ext hx2 | replace hinp := hinp.ext ((Ext.drew Ext.rfl').trans hx2)); (first | replace hpos := hpos.ext hx2 | replace hpos := hpos.ext ((Ext.drew Ext.rfl').trans hx2)); (first | replace hA5 := hA5.ext hx2 | replace hA5 := hA5.ext ((Ext.drew Ext.rfl').trans hx2))) | (apply G1_call (f := 40); exact rfl; exact rfl; exact rfl; exact hcut _ (by repeat first | assumption | exact Ext.rfl' | apply Ext.drew | apply Ext.alloc | refine Ext.trans ?_ (by assumption)); rintro _ w3 ⟨rfl, hx3⟩; refine ⟨(by first | exact .inl rfl | exact .inr (by assumption)), ?_⟩; (first | replace hinp := hinp.ext hx3 | replace hinp := hinp.ext ((Ext.drew Ext.rfl').trans hx3)); (first | replace hpos := hpos.ext hx3 | replace hpos := hpos.ext ((Ext.drew Ext.rfl').trans hx3)); (first | replace hA5 := hA5.ext hx3 | replace hA5 := hA5.ext ((Ext.drew Ext.rfl').trans hx3))) | (apply G1_build (.agg (eRep.enc zRep).toArray); exact rfl; exact bldZ; exact rfl) | (apply G1_loadB; (first | exact T.p22 | exact T.p3); exact rfl; assumption; exact rfl; exact rfl) | (apply G1_extract; exact rfl; exact rfl; exact rfl) | (apply G1_not_f; exact rfl; exact rfl) | (apply G1_pick_t; exact rfl; exact rfl; exact rfl)) | apply G_nil | apply Post_next | apply W_seq | apply W_region | (apply W_cond_true; exact rfl) | (apply G_off; exact rfl; exact rfl) | refine W_drawn 1 [] [0,1,2,3,4,5,6,7,8,9,10,11,12] mixed (by decide +kernel) ?_)
      have t3 := t1.xt (show Ext w1 w3 from (by repeat first | assumption | exact Ext.rfl' | apply Ext.drew | apply Ext.alloc | refine Ext.trans ?_ (by assumption)))
      apply G_on; exact rfl; apply G1_storeB; exact T.z31; exact rfl; exact rfl; exact hA5; exact rfl; exact rfl; (first | exact Nat.le_of_ble_eq_true rfl | (focus (simp [Value.cells]; done))); (first | exact Enc.one _ _ | (focus (simp [Value.oneCell']; done)) | (focus (simp [Value.cells, Value.oneCell']; done)) | exact Enc.oneAgg _ _); exact rfl; (first | exact .inl rfl | exact .inr (by simp [exempt])); exact rfl; intro wf hAf hgf hsf
      replace hAf : Blk wf.heap a5 31 (eRep.enc zRep) := hAf
      have tf := t3.own hgf (fun q hq => by injection hq with hq; omega)
      repeat' (first | (apply G_on; exact rfl; (apply G1_assign; exact rfl; exact rfl)) | apply G_nil | apply Post_next | apply W_ret | apply Post_then_ret)
      refine Post_ret Tryz.results39 ⟨_, _, _, rfl, rfl, run_loadVar_box T.a31 (by assumption) rfl, _, _, rfl, rfl, rfl⟩ ?_
      refine .inr ⟨?_, zRep, _, rfl, tf.st, tf.x⟩
      rw [hcs]
      exact rdT_none (rdHead_no (.inr hln))
    simp only [if_pos hln] at hcut
    have hl2 := brAt_two hln
    by_cases hz : brAt cs = 0
    · simp only [hz, List.take_zero] at hcut
      have hee : mkStr [] = ⟨#[]⟩ := rfl
      rw [hee] at hcut
      repeat' (first | (apply G_on; exact rfl; first | ((first | apply G1_assign | apply G1_move); exact rfl; exact rfl) | (apply G1_sliceLoJ (q := k); exact T.s22; exact rfl; exact rfl; exact rfl; exact hok; omega; exact rfl) | (apply G1_call (f := 41); exact rfl; exact rfl; exact rfl; exact hix _ (by repeat first | assumption | exact Ext.rfl' | apply Ext.drew | apply Ext.alloc | refine Ext.trans ?_ (by assumption)); rintro _ w2 ⟨rfl, hx2⟩; refine ⟨(by first | exact .inl rfl | exact .inr (by assumption)), ?_⟩; (first | replace hinp := hinp.ext hx2 | replace hinp := hinp.ext ((Ext.drew Ext.rfl').trans hx2)); (first | replace hpos := hpos.ext hx2 | replace hpos := hpos.ext ((Ext.drew Ext.rfl').trans hx2)); (first | replace hA5 := hA5.ext hx2 | replace hA5 := hA5.ext ((Ext.drew Ext.rfl').trans hx2))) | (apply G1_call (f := 40); exact rfl; exact rfl; exact rfl; exact hcut _ (by repeat first | assumption | exact Ext.rfl' | apply Ext.drew | apply Ext.alloc | refine Ext.trans ?_ (by assumption)); rintro _ w3 ⟨rfl, hx3⟩; refine ⟨(by first | exact .inl rfl | exact .inr (by assumption)), ?_⟩; (first | replace hinp := hinp.ext hx3 | replace hinp := hinp.ext ((Ext.drew Ext.rfl').trans hx3)); (first | replace hpos := hpos.ext hx3 | replace hpos := hpos.ext ((Ext.drew Ext.rfl').trans hx3)); (first | replace hA5 := hA5.ext hx3 | replace hA5 := hA5.ext ((Ext.drew Ext.rfl').trans hx3))) | (apply G1_build (.agg (eRep.enc zRep).toArray); exact rfl; exact bldZ; exact rfl) | (apply G1_loadB; (first | exact T.p22 | exact T.p3); exact rfl; assumption; exact rfl; exact rfl) | (apply G1_extract; exact rfl; exact rfl; exact rfl) | (apply G1_not_t; exact rfl; exact rfl) | (apply G1_seql; exact rfl; exact rfl; exact rfl) | (apply G1_pick_f; exact rfl; exact rfl; exact rfl)) | apply G_nil | apply Post_next | apply W_seq | apply W_region | (apply W_cond_true; exact rfl) | refine W_drawn 1 [] [0,1,2,3,4,5,6,7,8,9,10,11,12] mixed (by decide +kernel) ?_)
      have t3 := t1.xt (show Ext w1 w3 from (by repeat first | assumption | exact Ext.rfl' | apply Ext.drew | apply Ext.alloc | refine Ext.trans ?_ (by assumption)))
      apply G_on; exact rfl; apply G1_storeB; exact T.z31; exact rfl; exact rfl; exact hA5; exact rfl; exact rfl; (first | exact Nat.le_of_ble_eq_true rfl | (focus (simp [Value.cells]; done))); (first | exact Enc.one _ _ | (focus (simp [Value.oneCell']; done)) | (focus (simp [Value.cells, Value.oneCell']; done)) | exact Enc.oneAgg _ _); exact rfl; (first | exact .inl rfl | exact .inr (by simp [exempt])); exact rfl; intro wf hAf hgf hsf
      replace hAf : Blk wf.heap a5 31 (eRep.enc zRep) := hAf
      have tf := t3.own hgf (fun q hq => by injection hq with hq; omega)
      repeat' (first | (apply G_on; exact rfl; (apply G1_assign; exact rfl; exact rfl)) | apply G_nil | apply Post_next | apply W_ret | apply Post_then_ret)
      refine Post_ret Tryz.results39 ⟨_, _, _, rfl, rfl, run_loadVar_box T.a31 (by assumption) rfl, _, _, rfl, rfl, rfl⟩ ?_
      refine .inr ⟨?_, zRep, _, rfl, tf.st, tf.x⟩
      rw [hcs]
      exact rdT_none (rdHead_no (.inl hz))
    obtain ⟨m, s, hms⟩ : ∃ m s, cs.take (brAt cs) = m :: s := by
      cases e : cs.take (brAt cs) with
      | nil => have := congrArg List.length e; rw [List.length_take, List.length_nil] at this; omega
      | cons m s => exact ⟨m, s, rfl⟩
    have hsl : s.length + 1 = brAt cs := by
      have := congrArg List.length hms
      rw [List.length_take, List.length_cons] at this
      omega
    have hrd := rdHead_line hms hln
    rw [hms] at hcut
    have hne : ¬ mkStr (m :: s) = ⟨#[]⟩ := fun e => by
      have := congrArg ByteArray.size e
      rw [mkStr_size] at this
      cases this
    have hms2 : (mkStr (m :: s)).size = s.length + 1 := by rw [mkStr_size]; rfl
    have hss : (mkStr s).size = s.length := mkStr_size s
    obtain ⟨k1, hk1⟩ : ∃ k1, k1 = k + (s.length + 3) := ⟨_, rfl⟩
    have hk1l : k1 ≤ bs.length := by omega
    have hdk1 : bs.drop k1 = cs.drop (brAt cs + 2) := by
      have e : k1 = k + (brAt cs + 2) := by omega
      rw [e, ← List.drop_drop, hcs]
    repeat' (first | (apply G_on; exact rfl; first | ((first | apply G1_assign | apply G1_move); exact rfl; exact rfl) | (apply G1_sliceLoJ (q := k); exact T.s22; exact rfl; exact rfl; exact rfl; exact hok; omega; exact rfl) | (apply G1_call (f := 41); exact rfl; exact rfl; exact rfl; exact hix _ (by repeat first | assumption | exact Ext.rfl' | apply Ext.drew | apply Ext.alloc | refine Ext.trans ?_ (by assumption)); rintro _ w2 ⟨rfl, hx2⟩; refine ⟨(by first | exact .inl rfl | exact .inr (by assumption)), ?_⟩; (first | replace hinp := hinp.ext hx2 | replace hinp := hinp.ext ((Ext.drew Ext.rfl').trans hx2)); (first | replace hpos := hpos.ext hx2 | replace hpos := hpos.ext ((Ext.drew Ext.rfl').trans hx2)); (first | replace hA5 := hA5.ext hx2 | replace hA5 := hA5.ext ((Ext.drew Ext.rfl').trans hx2))) | (apply G1_call (f := 40); exact rfl; exact rfl; exact rfl; exact hcut _ (by repeat first | assumption | exact Ext.rfl' | apply Ext.drew | apply Ext.alloc | refine Ext.trans ?_ (by assumption)); rintro _ w3 ⟨rfl, hx3⟩; refine ⟨(by first | exact .inl rfl | exact .inr (by assumption)), ?_⟩; (first | replace hinp := hinp.ext hx3 | replace hinp := hinp.ext ((Ext.drew Ext.rfl').trans hx3)); (first | replace hpos := hpos.ext hx3 | replace hpos := hpos.ext ((Ext.drew Ext.rfl').trans hx3)); (first | replace hA5 := hA5.ext hx3 | replace hA5 := hA5.ext ((Ext.drew Ext.rfl').trans hx3))) | (apply G1_loadB; (first | exact T.p22 | exact T.p3); exact rfl; assumption; exact rfl; exact rfl) | (apply G1_extract; exact rfl; exact rfl; exact rfl) | (apply G1_not_t; exact rfl; exact rfl) | (apply G1_seql; exact rfl; exact rfl; exact rfl) | (apply G1_pick_f; exact rfl; exact rfl; exact rfl) | (apply G1_slen; exact T.str9; exact rfl; exact rfl) | (apply G1_add; exact rfl; exact rfl; omega; omega; exact rfl)) | apply G_nil | apply Post_next | apply W_seq | apply W_region | (apply W_cond_false; exact rfl) | refine W_drawn 1 [] [0,1,2,3,4,5,6,7,8,9,10,11,12] mixed (by decide +kernel) ?_ | apply W_skip)
    all_goals try exact absurd (by assumption) hne
    have t3 := t1.xt (show Ext w1 w3 from (by repeat first | assumption | exact Ext.rfl' | apply Ext.drew | apply Ext.alloc | refine Ext.trans ?_ (by assumption)))
    apply G_on; exact rfl; apply G1_storeB; exact T.z3; exact rfl; exact rfl; exact hpos; exact rfl; exact rfl; (first | exact Nat.le_of_ble_eq_true rfl | (focus (simp [Value.cells]; done))); (first | exact Enc.one _ _ | (focus (simp [Value.oneCell']; done)) | (focus (simp [Value.cells, Value.oneCell']; done)) | exact Enc.oneAgg _ _); exact rfl; (first | exact .inl rfl | exact .inr (by simp [exempt])); exact rfl; intro w4 hP4 hg4 hs4
    replace hP4 : Blk w4.heap aa 3 [.int .i64 ((k : Int) + (((mkStr (m :: s)).size : Int) + 2))] := hP4
    have e4 : (k : Int) + (((mkStr (m :: s)).size : Int) + 2) = ((k1 : Nat) : Int) := by rw [hms2, hk1]; push_cast; omega
    rw [e4] at hP4
    have t4 := t3.set hP4 hg4
    have hA5 := hA5.grown hg4 (fun e => by injection e; omega)
    have hb0 : ((bget (mkStr (m :: s)) 0).toNat : Int) = (m.toNat : Int) := by rw [mkStr_bget]
    have hE4 := hE.ext t4.st.ext
    have hT4 : Pow w4 := TabIs.ext hT t4.st.ext
    have x4 := t4.st.ext
    have hinp := t4.st.inp
    have hpos := t4.st.pos
    clear hcut hix
    have hrd : rdHead cs = rdLine m s (bs.drop k1) (s.length + 3) := by rw [hrd, hdk1, ← hsl]
    have hL : (bs.drop k1).length = bs.length - k1 := by simp
    by_cases m0 : m = 43
    · have hmm : (m.toNat : Int) = 43 := by rw [m0]; rfl
      repeat' (first | (apply G_on; exact rfl; first | ((first | apply G1_assign | apply G1_move); exact rfl; exact rfl) | (apply G1_sindexJ (q := 0) (s := mkStr (m :: s)); exact T.str9; exact rfl; exact rfl; exact rfl; omega; exact rfl) | (apply G1_ssliceLoE (r := mkStr s); exact T.str9; exact rfl; exact rfl; omega; omega; exact mkStr_tail m s; exact rfl) | (apply G1_call (f := 42); exact rfl; exact rfl; exact rfl; exact mk_text; rintro _ w5 ⟨rfl, hx5⟩; refine ⟨(by first | exact .inl rfl | exact .inr (by assumption)), ?_⟩; (first | replace hA5 := hA5.ext hx5 | replace hA5 := hA5.ext ((Ext.drew Ext.rfl').trans hx5))) | (apply G1_eql; exact rfl; exact rfl; exact rfl)) | apply G_nil | apply Post_next | apply W_seq | apply W_region | (apply W_cond_dec; exact rfl; all_goals (intro h; try (exfalso; omega))) | refine W_drawn 1 [] [0,1,2,3,4,5] mixed (by decide +kernel) ?_ | apply W_block)
      have t5 := t4.xt (show Ext w4 w5 from (by repeat first | assumption | exact Ext.rfl' | apply Ext.drew | apply Ext.alloc | refine Ext.trans ?_ (by assumption)))
      apply G_on; exact rfl; apply G1_storeB; exact T.z31; exact rfl; exact rfl; exact hA5; exact rfl; exact rfl; (first | exact Nat.le_of_ble_eq_true rfl | (focus (simp [Value.cells]; done))); (first | exact Enc.one _ _ | (focus (simp [Value.oneCell']; done)) | (focus (simp [Value.cells, Value.oneCell']; done)) | exact Enc.oneAgg _ _); exact rfl; (first | exact .inl rfl | exact .inr (by simp [exempt])); exact rfl; intro wf hAf hgf hsf
      replace hAf : Blk wf.heap a5 31 (eRep.enc (leafR 0 (mkStr s) 0)) := hAf
      have tf := t5.own hgf (fun q hq => by injection hq with hq; omega)
      repeat' (first | (apply G_on; exact rfl; (apply G1_assign; exact rfl; exact rfl)) | apply G_nil | apply Post_next | apply W_ret | apply Post_then_ret | apply Post_block_ret)
      refine Post_ret Tryz.results39 ⟨_, _, _, rfl, rfl, run_loadVar_box T.a31 (by assumption) rfl, _, _, rfl, rfl, rfl⟩ ?_
      refine .inl ⟨.mk 0 (mkStr s) 0 [], s.length + 3, leafR 0 (mkStr s) 0, by rw [hcs]; exact rdT_leaf (hrd.trans (by unfold rdLine; rw [if_pos m0])), rfl, leaf_at (by omega) fit0, by rw [← hk1]; exact tf.st, tf.x⟩
    have hm0 : ¬ (m.toNat : Int) = 43 := u8_ne m0
    by_cases m1 : m = 45
    · have hmm : (m.toNat : Int) = 45 := by rw [m1]; rfl
      repeat' (first | (apply G_on; exact rfl; first | ((first | apply G1_assign | apply G1_move); exact rfl; exact rfl) | (apply G1_sindexJ (q := 0) (s := mkStr (m :: s)); exact T.str9; exact rfl; exact rfl; exact rfl; omega; exact rfl) | (apply G1_ssliceLoE (r := mkStr s); exact T.str9; exact rfl; exact rfl; omega; omega; exact mkStr_tail m s; exact rfl) | (apply G1_call (f := 43); exact rfl; exact rfl; exact rfl; exact mk_wrong; rintro _ w5 ⟨rfl, hx5⟩; refine ⟨(by first | exact .inl rfl | exact .inr (by assumption)), ?_⟩; (first | replace hA5 := hA5.ext hx5 | replace hA5 := hA5.ext ((Ext.drew Ext.rfl').trans hx5))) | (apply G1_eql; exact rfl; exact rfl; exact rfl)) | apply G_nil | apply Post_next | apply W_seq | apply W_region | (apply W_cond_dec; exact rfl; all_goals (intro h; try (exfalso; omega))) | refine W_drawn 1 [] [0,1,2,3,4,5] mixed (by decide +kernel) ?_ | apply W_block)
      have t5 := t4.xt (show Ext w4 w5 from (by repeat first | assumption | exact Ext.rfl' | apply Ext.drew | apply Ext.alloc | refine Ext.trans ?_ (by assumption)))
      apply G_on; exact rfl; apply G1_storeB; exact T.z31; exact rfl; exact rfl; exact hA5; exact rfl; exact rfl; (first | exact Nat.le_of_ble_eq_true rfl | (focus (simp [Value.cells]; done))); (first | exact Enc.one _ _ | (focus (simp [Value.oneCell']; done)) | (focus (simp [Value.cells, Value.oneCell']; done)) | exact Enc.oneAgg _ _); exact rfl; (first | exact .inl rfl | exact .inr (by simp [exempt])); exact rfl; intro wf hAf hgf hsf
      replace hAf : Blk wf.heap a5 31 (eRep.enc (leafR 1 (mkStr s) 0)) := hAf
      have tf := t5.own hgf (fun q hq => by injection hq with hq; omega)
      repeat' (first | (apply G_on; exact rfl; (apply G1_assign; exact rfl; exact rfl)) | apply G_nil | apply Post_next | apply W_ret | apply Post_then_ret | apply Post_block_ret)
      refine Post_ret Tryz.results39 ⟨_, _, _, rfl, rfl, run_loadVar_box T.a31 (by assumption) rfl, _, _, rfl, rfl, rfl⟩ ?_
      refine .inl ⟨.mk 1 (mkStr s) 0 [], s.length + 3, leafR 1 (mkStr s) 0, by rw [hcs]; exact rdT_leaf (hrd.trans (by unfold rdLine; rw [if_neg m0, if_pos m1])), rfl, leaf_at (by omega) fit0, by rw [← hk1]; exact tf.st, tf.x⟩
    have hm1 : ¬ (m.toNat : Int) = 45 := u8_ne m1
    by_cases hnn : ∃ n, IsNum (mkStr s) n
    rotate_left
    · have hnn' : ∀ n, ¬ IsNum (mkStr s) n := fun n hn => hnn ⟨n, hn⟩
      repeat' (first | (apply G_on; exact rfl; first | ((first | apply G1_assign | apply G1_move); exact rfl; exact rfl) | (apply G1_sindexJ (q := 0) (s := mkStr (m :: s)); exact T.str9; exact rfl; exact rfl; exact rfl; omega; exact rfl) | (apply G1_ssliceLoE (r := mkStr s); exact T.str9; exact rfl; exact rfl; omega; omega; exact mkStr_tail m s; exact rfl) | (apply G1_build (.agg (eRep.enc zRep).toArray); exact rfl; exact bldZ; exact rfl) | (apply G1_call (f := 44); exact rfl; exact rfl; exact rfl; exact nparse_nb hnn' (TabIs.ext hT4 (by repeat first | assumption | exact Ext.rfl' | apply Ext.drew | apply Ext.alloc | refine Ext.trans ?_ (by assumption))) (hE4.ext (by repeat first | assumption | exact Ext.rfl' | apply Ext.drew | apply Ext.alloc | refine Ext.trans ?_ (by assumption))); rintro _ w5 ⟨rfl, hx5⟩; refine ⟨(by first | exact .inl rfl | exact .inr (by assumption)), ?_⟩; (first | replace hA5 := hA5.ext hx5 | replace hA5 := hA5.ext ((Ext.drew Ext.rfl').trans hx5))) | (apply G1_extract; exact rfl; exact rfl; exact rfl) | (apply G1_not_f; exact rfl; exact rfl) | (apply G1_eql; exact rfl; exact rfl; exact rfl)) | apply G_nil | apply Post_next | apply W_seq | apply W_region | (apply W_cond_true; exact rfl) | (apply W_cond_dec; exact rfl; all_goals (intro h; try (exfalso; omega))) | refine W_drawn 1 [] [0,1,2,3,4,5] mixed (by decide +kernel) ?_ | apply W_skip | apply W_block | apply Post_block_normal)
      have t5 := t4.xt (show Ext w4 w5 from (by repeat first | assumption | exact Ext.rfl' | apply Ext.drew | apply Ext.alloc | refine Ext.trans ?_ (by assumption)))
      apply G_on; exact rfl; apply G1_storeB; exact T.z31; exact rfl; exact rfl; exact hA5; exact rfl; exact rfl; (first | exact Nat.le_of_ble_eq_true rfl | (focus (simp [Value.cells]; done))); (first | exact Enc.one _ _ | (focus (simp [Value.oneCell']; done)) | (focus (simp [Value.cells, Value.oneCell']; done)) | exact Enc.oneAgg _ _); exact rfl; (first | exact .inl rfl | exact .inr (by simp [exempt])); exact rfl; intro wf hAf hgf hsf
      replace hAf : Blk wf.heap a5 31 (eRep.enc zRep) := hAf
      have tf := t5.own hgf (fun q hq => by injection hq with hq; omega)
      repeat' (first | (apply G_on; exact rfl; (apply G1_assign; exact rfl; exact rfl)) | apply G_nil | apply Post_next | apply W_ret | apply Post_then_ret | apply Post_block_ret)
      refine Post_ret Tryz.results39 ⟨_, _, _, rfl, rfl, run_loadVar_box T.a31 (by assumption) rfl, _, _, rfl, rfl, rfl⟩ ?_
      refine .inr ⟨?_, zRep, _, rfl, tf.st, tf.x⟩
      rw [hcs]
      exact rdT_none (hrd.trans (by unfold rdLine; rw [if_neg m0, if_neg m1, numOf_none hnn']))
    obtain ⟨n, hIs⟩ := hnn
    have hfn := hIs.1
    unfold fit64 at hfn
    have hnum := numOf_some hIs
    by_cases m2 : m = 58
    · have hmm : (m.toNat : Int) = 58 := by rw [m2]; rfl
      repeat' (first | (apply G_on; exact rfl; first | ((first | apply G1_assign | apply G1_move); exact rfl; exact rfl) | (apply G1_sindexJ (q := 0) (s := mkStr (m :: s)); exact T.str9; exact rfl; exact rfl; exact rfl; omega; exact rfl) | (apply G1_ssliceLoE (r := mkStr s); exact T.str9; exact rfl; exact rfl; omega; omega; exact mkStr_tail m s; exact rfl) | (apply G1_call (f := 44); exact rfl; exact rfl; exact rfl; exact nparse_yes hIs (TabIs.ext hT4 (by repeat first | assumption | exact Ext.rfl' | apply Ext.drew | apply Ext.alloc | refine Ext.trans ?_ (by assumption))); rintro _ w5 ⟨rfl, hx5⟩; refine ⟨(by first | exact .inl rfl | exact .inr (by assumption)), ?_⟩; (first | replace hA5 := hA5.ext hx5 | replace hA5 := hA5.ext ((Ext.drew Ext.rfl').trans hx5))) | (apply G1_call (f := 45); exact rfl; exact rfl; exact rfl; exact mk_int; rintro _ w6 ⟨rfl, hx6⟩; refine ⟨(by first | exact .inl rfl | exact .inr (by assumption)), ?_⟩; (first | replace hA5 := hA5.ext hx6 | replace hA5 := hA5.ext ((Ext.drew Ext.rfl').trans hx6))) | (apply G1_extract; exact rfl; exact rfl; exact rfl) | (apply G1_not_t; exact rfl; exact rfl) | (apply G1_eql; exact rfl; exact rfl; exact rfl)) | apply G_nil | apply Post_next | apply W_seq | apply W_region | (apply W_cond_false; exact rfl) | (apply W_cond_dec; exact rfl; all_goals (intro h; try (exfalso; omega))) | refine W_drawn 1 [] [0,1,2,3,4,5] mixed (by decide +kernel) ?_ | apply W_skip | apply W_block | apply Post_block_normal)
      have t5 := t4.xt (show Ext w4 w6 from (by repeat first | assumption | exact Ext.rfl' | apply Ext.drew | apply Ext.alloc | refine Ext.trans ?_ (by assumption)))
      apply G_on; exact rfl; apply G1_storeB; exact T.z31; exact rfl; exact rfl; exact hA5; exact rfl; exact rfl; (first | exact Nat.le_of_ble_eq_true rfl | (focus (simp [Value.cells]; done))); (first | exact Enc.one _ _ | (focus (simp [Value.oneCell']; done)) | (focus (simp [Value.cells, Value.oneCell']; done)) | exact Enc.oneAgg _ _); exact rfl; (first | exact .inl rfl | exact .inr (by simp [exempt])); exact rfl; intro wf hAf hgf hsf
      replace hAf : Blk wf.heap a5 31 (eRep.enc (leafR 2 ⟨#[]⟩ n)) := hAf
      have tf := t5.own hgf (fun q hq => by injection hq with hq; omega)
      repeat' (first | (apply G_on; exact rfl; (apply G1_assign; exact rfl; exact rfl)) | apply G_nil | apply Post_next | apply W_ret | apply Post_then_ret | apply Post_block_ret)
      refine Post_ret Tryz.results39 ⟨_, _, _, rfl, rfl, run_loadVar_box T.a31 (by assumption) rfl, _, _, rfl, rfl, rfl⟩ ?_
      refine .inl ⟨.mk 2 ⟨#[]⟩ n [], s.length + 3, leafR 2 ⟨#[]⟩ n, by rw [hcs]; exact rdT_leaf (hrd.trans (by unfold rdLine; rw [if_neg m0, if_neg m1, hnum]; simp only; rw [if_pos m2])), rfl, leaf_at nil_size hfn, by rw [← hk1]; exact tf.st, tf.x⟩
    have hm2 : ¬ (m.toNat : Int) = 58 := u8_ne m2
    by_cases m3 : m = 36
    · have hmm : (m.toNat : Int) = 36 := by rw [m3]; rfl
      by_cases hn1 : n = -1
      · repeat' (first | (apply G_on; exact rfl; first | ((first | apply G1_assign | apply G1_move); exact rfl; exact rfl) | (apply G1_sindexJ (q := 0) (s := mkStr (m :: s)); exact T.str9; exact rfl; exact rfl; exact rfl; omega; exact rfl) | (apply G1_ssliceLoE (r := mkStr s); exact T.str9; exact rfl; exact rfl; omega; omega; exact mkStr_tail m s; exact rfl) | (apply G1_call (f := 44); exact rfl; exact rfl; exact rfl; exact nparse_yes hIs (TabIs.ext hT4 (by repeat first | assumption | exact Ext.rfl' | apply Ext.drew | apply Ext.alloc | refine Ext.trans ?_ (by assumption))); rintro _ w5 ⟨rfl, hx5⟩; refine ⟨(by first | exact .inl rfl | exact .inr (by assumption)), ?_⟩; (first | replace hA5 := hA5.ext hx5 | replace hA5 := hA5.ext ((Ext.drew Ext.rfl').trans hx5))) | (apply G1_call (f := 46); exact rfl; exact rfl; exact rfl; exact mk_none; rintro _ w6 ⟨rfl, hx6⟩; refine ⟨(by first | exact .inl rfl | exact .inr (by assumption)), ?_⟩; (first | replace hA5 := hA5.ext hx6 | replace hA5 := hA5.ext ((Ext.drew Ext.rfl').trans hx6))) | (apply G1_extract; exact rfl; exact rfl; exact rfl) | (apply G1_not_t; exact rfl; exact rfl) | (apply G1_pick_t; exact rfl; exact rfl; exact rfl) | (apply G1_eql; exact rfl; exact rfl; exact rfl)) | apply G_nil | apply Post_next | apply W_seq | apply W_region | (apply W_cond_false; exact rfl) | (apply W_cond_dec; exact rfl; all_goals (intro h; try (exfalso; omega))) | ((fail_if_success (apply G_on; exact rfl)); apply G_split_dec; exact rfl; exact rfl; all_goals (intro h; try (exfalso; omega))) | refine W_drawn 1 [] [0,1,2,3,4,5] mixed (by decide +kernel) ?_ | apply W_skip | apply W_block | apply Post_block_normal)
        have t5 := t4.xt (show Ext w4 w6 from (by repeat first | assumption | exact Ext.rfl' | apply Ext.drew | apply Ext.alloc | refine Ext.trans ?_ (by assumption)))
        apply G_on; exact rfl; apply G1_storeB; exact T.z31; exact rfl; exact rfl; exact hA5; exact rfl; exact rfl; (first | exact Nat.le_of_ble_eq_true rfl | (focus (simp [Value.cells]; done))); (first | exact Enc.one _ _ | (focus (simp [Value.oneCell']; done)) | (focus (simp [Value.cells, Value.oneCell']; done)) | exact Enc.oneAgg _ _); exact rfl; (first | exact .inl rfl | exact .inr (by simp [exempt])); exact rfl; intro wf hAf hgf hsf
        replace hAf : Blk wf.heap a5 31 (eRep.enc (leafR 4 ⟨#[]⟩ 0)) := hAf
        have tf := t5.own hgf (fun q hq => by injection hq with hq; omega)
        repeat' (first | (apply G_on; exact rfl; (apply G1_assign; exact rfl; exact rfl)) | apply G_nil | apply Post_next | apply W_ret | apply Post_then_ret | apply Post_block_ret)
        refine Post_ret Tryz.results39 ⟨_, _, _, rfl, rfl, run_loadVar_box T.a31 (by assumption) rfl, _, _, rfl, rfl, rfl⟩ ?_
        refine .inl ⟨.mk 4 ⟨#[]⟩ 0 [], s.length + 3, leafR 4 ⟨#[]⟩ 0, by rw [hcs]; exact rdT_leaf (hrd.trans (by unfold rdLine; rw [if_neg m0, if_neg m1, hnum]; simp only; rw [if_neg m2, if_pos m3, if_pos hn1])), rfl, leaf_at nil_size fit0, by rw [← hk1]; exact tf.st, tf.x⟩
      · have hD4 : Sl w4.heap eByte (subp p c k1 1) (c - k1) (bs.drop k1) := (h.sl.ext x4).drop (by omega)
        by_cases hok2 : 0 ≤ n ∧ n ≤ ((bs.drop k1).length : Int) ∧ ((bs.drop k1).drop n.toNat).take 2 = [13, 10]
        · have hcut2 : ∀ w', Ext w4 w' → Ctr Tryz.prog 40 [.slice (subp p c k1 1) (bs.length - k1) (c - k1), .int .i64 n] w' (fun v w'' => v = .tuple #[.string (mkStr ((bs.drop k1).take n.toNat)), .bool true] ∧ Ext w' w'') := fun w' hx => by
            have e : n = ((n.toNat : Nat) : Int) := by omega
            have := cut_spec (hD4.ext hx) (k := n.toNat) (by omega)
            rw [if_pos hok2.2.2, ← e, hL] at this
            exact this
          have hsz : (mkStr ((bs.drop k1).take n.toNat)).size = n.toNat := by rw [mkStr_size, List.length_take]; omega
          repeat' (first | (apply G_on; exact rfl; first | ((first | apply G1_assign | apply G1_move); exact rfl; exact rfl) | (apply G1_sindexJ (q := 0) (s := mkStr (m :: s)); exact T.str9; exact rfl; exact rfl; exact rfl; omega; exact rfl) | (apply G1_ssliceLoE (r := mkStr s); exact T.str9; exact rfl; exact rfl; omega; omega; exact mkStr_tail m s; exact rfl) | (apply G1_call (f := 44); exact rfl; exact rfl; exact rfl; exact nparse_yes hIs (TabIs.ext hT4 (by repeat first | assumption | exact Ext.rfl' | apply Ext.drew | apply Ext.alloc | refine Ext.trans ?_ (by assumption))); rintro _ w5 ⟨rfl, hx5⟩; refine ⟨(by first | exact .inl rfl | exact .inr (by assumption)), ?_⟩; (first | replace hinp := hinp.ext hx5 | replace hinp := hinp.ext ((Ext.drew Ext.rfl').trans hx5)); (first | replace hpos := hpos.ext hx5 | replace hpos := hpos.ext ((Ext.drew Ext.rfl').trans hx5)); (first | replace hA5 := hA5.ext hx5 | replace hA5 := hA5.ext ((Ext.drew Ext.rfl').trans hx5))) | (apply G1_sliceLoJ (q := k1); exact T.s22; exact rfl; exact rfl; exact rfl; exact hok; omega; exact rfl) | (apply G1_call (f := 40); exact rfl; exact rfl; exact rfl; exact hcut2 _ (by repeat first | assumption | exact Ext.rfl' | apply Ext.drew | apply Ext.alloc | refine Ext.trans ?_ (by assumption)); rintro _ w6 ⟨rfl, hx6⟩; refine ⟨(by first | exact .inl rfl | exact .inr (by assumption)), ?_⟩; (first | replace hinp := hinp.ext hx6 | replace hinp := hinp.ext ((Ext.drew Ext.rfl').trans hx6)); (first | replace hpos := hpos.ext hx6 | replace hpos := hpos.ext ((Ext.drew Ext.rfl').trans hx6)); (first | replace hA5 := hA5.ext hx6 | replace hA5 := hA5.ext ((Ext.drew Ext.rfl').trans hx6))) | (apply G1_loadB; (first | exact T.p22 | exact T.p3); exact rfl; assumption; exact rfl; exact rfl) | (apply G1_extract; exact rfl; exact rfl; exact rfl) | (apply G1_not_t; exact rfl; exact rfl) | (apply G1_pick_t; exact rfl; exact rfl; exact rfl) | (apply G1_slen; exact T.str9; exact rfl; exact rfl) | (apply G1_add; exact rfl; exact rfl; omega; omega; exact rfl) | (apply G1_eql; exact rfl; exact rfl; exact rfl)) | apply G_nil | apply Post_next | apply W_seq | apply W_region | (apply W_cond_false; exact rfl) | (apply W_cond_dec; exact rfl; all_goals (intro h; try (exfalso; omega))) | ((fail_if_success (apply G_on; exact rfl)); apply G_split_dec; exact rfl; exact rfl; all_goals (intro h; try (exfalso; omega))) | refine W_drawn 1 [] [0,1,2,3,4,5] mixed (by decide +kernel) ?_ | apply W_skip | apply W_block | apply Post_block_normal)
          have t6 := t4.xt (show Ext w4 w6 from (by repeat first | assumption | exact Ext.rfl' | apply Ext.drew | apply Ext.alloc | refine Ext.trans ?_ (by assumption)))
          apply G_on; exact rfl; apply G1_storeB; exact T.z3; exact rfl; exact rfl; exact hpos; exact rfl; exact rfl; (first | exact Nat.le_of_ble_eq_true rfl | (focus (simp [Value.cells]; done))); (first | exact Enc.one _ _ | (focus (simp [Value.oneCell']; done)) | (focus (simp [Value.cells, Value.oneCell']; done)) | exact Enc.oneAgg _ _); exact rfl; (first | exact .inl rfl | exact .inr (by simp [exempt])); exact rfl; intro w7 hP7 hg7 hs7
          replace hP7 : Blk w7.heap aa 3 [.int .i64 ((k1 : Int) + (((mkStr ((bs.drop k1).take n.toNat)).size : Int) + 2))] := hP7
          have e7 : (k1 : Int) + (((mkStr ((bs.drop k1).take n.toNat)).size : Int) + 2) = ((k1 + n.toNat + 2 : Nat) : Int) := by rw [hsz]; push_cast; omega
          rw [e7] at hP7
          have t7 := t6.set hP7 hg7
          replace hA5 := hA5.grown hg7 (fun e => by injection e; omega)
          repeat' (first | (apply G_on; exact rfl; first | (apply G1_move; exact rfl; exact rfl) | (apply G1_call (f := 47); exact rfl; exact rfl; exact rfl; exact mk_str; rintro _ w8 ⟨rfl, hx8⟩; refine ⟨(by first | exact .inl rfl | exact .inr (by assumption)), ?_⟩; (first | replace hA5 := hA5.ext hx8 | replace hA5 := hA5.ext ((Ext.drew Ext.rfl').trans hx8)))) | apply G_nil | apply Post_next | apply W_seq | apply W_region)
          have t8 := t7.xt (show Ext w7 w8 from (by repeat first | assumption | exact Ext.rfl' | apply Ext.drew | apply Ext.alloc | refine Ext.trans ?_ (by assumption)))
          apply G_on; exact rfl; apply G1_storeB; exact T.z31; exact rfl; exact rfl; exact hA5; exact rfl; exact rfl; (first | exact Nat.le_of_ble_eq_true rfl | (focus (simp [Value.cells]; done))); (first | exact Enc.one _ _ | (focus (simp [Value.oneCell']; done)) | (focus (simp [Value.cells, Value.oneCell']; done)) | exact Enc.oneAgg _ _); exact rfl; (first | exact .inl rfl | exact .inr (by simp [exempt])); exact rfl; intro wf hAf hgf hsf
          replace hAf : Blk wf.heap a5 31 (eRep.enc (leafR 3 (mkStr ((bs.drop k1).take n.toNat)) 0)) := hAf
          have tf := t8.own hgf (fun q hq => by injection hq with hq; omega)
          repeat' (first | (apply G_on; exact rfl; (apply G1_assign; exact rfl; exact rfl)) | apply G_nil | apply Post_next | apply W_ret | apply Post_then_ret | apply Post_block_ret)
          refine Post_ret Tryz.results39 ⟨_, _, _, rfl, rfl, run_loadVar_box T.a31 (by assumption) rfl, _, _, rfl, rfl, rfl⟩ ?_
          refine .inl ⟨.mk 3 (mkStr ((bs.drop k1).take n.toNat)) 0 [], s.length + 3 + n.toNat + 2, leafR 3 (mkStr ((bs.drop k1).take n.toNat)) 0, by rw [hcs]; exact rdT_leaf (hrd.trans (by unfold rdLine; rw [if_neg m0, if_neg m1, hnum]; simp only; rw [if_neg m2, if_pos m3, if_neg hn1, if_pos hok2])), rfl, leaf_at (by omega) fit0, ?_, tf.x⟩
          rw [show k + (s.length + 3 + n.toNat + 2) = k1 + n.toNat + 2 by omega]
          exact tf.st
        · have hcut2 : ∀ w', Ext w4 w' → Ctr Tryz.prog 40 [.slice (subp p c k1 1) (bs.length - k1) (c - k1), .int .i64 n] w' (fun v w'' => v = .tuple #[.string ⟨#[]⟩, .bool false] ∧ Ext w' w'') := fun w' hx => by
            by_cases hr : 0 ≤ n ∧ n ≤ ((bs.drop k1).length : Int)
            · have e : n = ((n.toNat : Nat) : Int) := by omega
              have := cut_spec (hD4.ext hx) (k := n.toNat) (by omega)
              rw [if_neg (fun e => hok2 ⟨hr.1, hr.2, e⟩), ← e, hL] at this
              exact this
            · have := cut_no (hD4.ext hx) hr
              rw [hL] at this
              exact this
          have hsz : (⟨#[]⟩ : ByteArray).size = 0 := rfl
          repeat' (first | (apply G_on; exact rfl; first | ((first | apply G1_assign | apply G1_move); exact rfl; exact rfl) | (apply G1_sindexJ (q := 0) (s := mkStr (m :: s)); exact T.str9; exact rfl; exact rfl; exact rfl; omega; exact rfl) | (apply G1_ssliceLoE (r := mkStr s); exact T.str9; exact rfl; exact rfl; omega; omega; exact mkStr_tail m s; exact rfl) | (apply G1_call (f := 44); exact rfl; exact rfl; exact rfl; exact nparse_yes hIs (TabIs.ext hT4 (by repeat first | assumption | exact Ext.rfl' | apply Ext.drew | apply Ext.alloc | refine Ext.trans ?_ (by assumption))); rintro _ w5 ⟨rfl, hx5⟩; refine ⟨(by first | exact .inl rfl | exact .inr (by assumption)), ?_⟩; (first | replace hinp := hinp.ext hx5 | replace hinp := hinp.ext ((Ext.drew Ext.rfl').trans hx5)); (first | replace hpos := hpos.ext hx5 | replace hpos := hpos.ext ((Ext.drew Ext.rfl').trans hx5)); (first | replace hA5 := hA5.ext hx5 | replace hA5 := hA5.ext ((Ext.drew Ext.rfl').trans hx5))) | (apply G1_sliceLoJ (q := k1); exact T.s22; exact rfl; exact rfl; exact rfl; exact hok; omega; exact rfl) | (apply G1_call (f := 40); exact rfl; exact rfl; exact rfl; exact hcut2 _ (by repeat first | assumption | exact Ext.rfl' | apply Ext.drew | apply Ext.alloc | refine Ext.trans ?_ (by assumption)); rintro _ w6 ⟨rfl, hx6⟩; refine ⟨(by first | exact .inl rfl | exact .inr (by assumption)), ?_⟩; (first | replace hinp := hinp.ext hx6 | replace hinp := hinp.ext ((Ext.drew Ext.rfl').trans hx6)); (first | replace hpos := hpos.ext hx6 | replace hpos := hpos.ext ((Ext.drew Ext.rfl').trans hx6)); (first | replace hA5 := hA5.ext hx6 | replace hA5 := hA5.ext ((Ext.drew Ext.rfl').trans hx6))) | (apply G1_loadB; (first | exact T.p22 | exact T.p3); exact rfl; assumption; exact rfl; exact rfl) | (apply G1_extract; exact rfl; exact rfl; exact rfl) | (apply G1_not_t; exact rfl; exact rfl) | (apply G1_pick_t; exact rfl; exact rfl; exact rfl) | (apply G1_slen; exact T.str9; exact rfl; exact rfl) | (apply G1_add; exact rfl; exact rfl; omega; omega; exact rfl) | (apply G1_eql; exact rfl; exact rfl; exact rfl)) | apply G_nil | apply Post_next | apply W_seq | apply W_region | (apply W_cond_false; exact rfl) | (apply W_cond_dec; exact rfl; all_goals (intro h; try (exfalso; omega))) | ((fail_if_success (apply G_on; exact rfl)); apply G_split_dec; exact rfl; exact rfl; all_goals (intro h; try (exfalso; omega))) | refine W_drawn 1 [] [0,1,2,3,4,5] mixed (by decide +kernel) ?_ | apply W_skip | apply W_block | apply Post_block_normal)
          have t6 := t4.xt (show Ext w4 w6 from (by repeat first | assumption | exact Ext.rfl' | apply Ext.drew | apply Ext.alloc | refine Ext.trans ?_ (by assumption)))
          apply G_on; exact rfl; apply G1_storeB; exact T.z3; exact rfl; exact rfl; exact hpos; exact rfl; exact rfl; (first | exact Nat.le_of_ble_eq_true rfl | (focus (simp [Value.cells]; done))); (first | exact Enc.one _ _ | (focus (simp [Value.oneCell']; done)) | (focus (simp [Value.cells, Value.oneCell']; done)) | exact Enc.oneAgg _ _); exact rfl; (first | exact .inl rfl | exact .inr (by simp [exempt])); exact rfl; intro w7 hP7 hg7 hs7
          replace hP7 : Blk w7.heap aa 3 [.int .i64 ((k1 : Int) + (((⟨#[]⟩ : ByteArray).size : Int) + 2))] := hP7
          have e7 : (k1 : Int) + (((⟨#[]⟩ : ByteArray).size : Int) + 2) = ((k1 + 2 : Nat) : Int) := by rw [hsz]; push_cast; omega
          rw [e7] at hP7
          have t7 := t6.set hP7 hg7
          replace hA5 := hA5.grown hg7 (fun e => by injection e; omega)
          repeat' (first | (apply G_on; exact rfl; first | (apply G1_move; exact rfl; exact rfl) | (apply G1_call (f := 47); exact rfl; exact rfl; exact rfl; exact mk_str; rintro _ w8 ⟨rfl, hx8⟩; refine ⟨(by first | exact .inl rfl | exact .inr (by assumption)), ?_⟩; (first | replace hA5 := hA5.ext hx8 | replace hA5 := hA5.ext ((Ext.drew Ext.rfl').trans hx8)))) | apply G_nil | apply Post_next | apply W_seq | apply W_region)
          have t8 := t7.xt (show Ext w7 w8 from (by repeat first | assumption | exact Ext.rfl' | apply Ext.drew | apply Ext.alloc | refine Ext.trans ?_ (by assumption)))
          apply G_on; exact rfl; apply G1_storeB; exact T.z31; exact rfl; exact rfl; exact hA5; exact rfl; exact rfl; (first | exact Nat.le_of_ble_eq_true rfl | (focus (simp [Value.cells]; done))); (first | exact Enc.one _ _ | (focus (simp [Value.oneCell']; done)) | (focus (simp [Value.cells, Value.oneCell']; done)) | exact Enc.oneAgg _ _); exact rfl; (first | exact .inl rfl | exact .inr (by simp [exempt])); exact rfl; intro wf hAf hgf hsf
          replace hAf : Blk wf.heap a5 31 (eRep.enc (leafR 3 ⟨#[]⟩ 0)) := hAf
          have tf := t8.own hgf (fun q hq => by injection hq with hq; omega)
          repeat' (first | (apply G_on; exact rfl; (apply G1_assign; exact rfl; exact rfl)) | apply G_nil | apply Post_next | apply W_ret | apply Post_then_ret | apply Post_block_ret)
          refine Post_ret Tryz.results39 ⟨_, _, _, rfl, rfl, run_loadVar_box T.a31 (by assumption) rfl, _, _, rfl, rfl, rfl⟩ ?_
          refine .inr ⟨?_, leafR 3 ⟨#[]⟩ 0, _, rfl, tf.st, tf.x⟩
          rw [hcs]
          exact rdT_none (hrd.trans (by unfold rdLine; rw [if_neg m0, if_neg m1, hnum]; simp only; rw [if_neg m2, if_pos m3, if_neg hn1, if_neg hok2]))
    have hm3 : ¬ (m.toNat : Int) = 36 := u8_ne m3
    by_cases hm4 : m = 42 ∧ 0 ≤ n
    rotate_left
    · have hm5 : ¬ (m.toNat : Int) = 42 ∨ n < 0 := by
        by_cases m4 : m = 42
        · right
          have : ¬ 0 ≤ n := fun h0 => hm4 ⟨m4, h0⟩
          omega
        · exact .inl (u8_ne m4)
      repeat' (first | (apply G_on; exact rfl; first | ((first | apply G1_assign | apply G1_move); exact rfl; exact rfl) | (apply G1_sindexJ (q := 0) (s := mkStr (m :: s)); exact T.str9; exact rfl; exact rfl; exact rfl; omega; exact rfl) | (apply G1_ssliceLoE (r := mkStr s); exact T.str9; exact rfl; exact rfl; omega; omega; exact mkStr_tail m s; exact rfl) | (apply G1_build (.agg (eRep.enc zRep).toArray); exact rfl; exact bldZ; exact rfl) | (apply G1_call (f := 44); exact rfl; exact rfl; exact rfl; exact nparse_yes hIs (TabIs.ext hT4 (by repeat first | assumption | exact Ext.rfl' | apply Ext.drew | apply Ext.alloc | refine Ext.trans ?_ (by assumption))); rintro _ w5 ⟨rfl, hx5⟩; refine ⟨(by first | exact .inl rfl | exact .inr (by assumption)), ?_⟩; (first | replace hA5 := hA5.ext hx5 | replace hA5 := hA5.ext ((Ext.drew Ext.rfl').trans hx5))) | ((first | apply G1_extract | apply G1_neq | apply G1_lss); exact rfl; exact rfl; exact rfl) | (apply G1_not_t; exact rfl; exact rfl) | (apply G1_pick_t; exact rfl; exact rfl; exact rfl) | (apply G1_pick_f; exact rfl; exact rfl; exact rfl) | (apply G1_eql; exact rfl; exact rfl; exact rfl)) | apply G_nil | apply Post_next | apply W_seq | apply W_region | (apply W_cond_true; exact rfl) | (apply W_cond_false; exact rfl) | (apply W_cond_dec; exact rfl; all_goals (intro h; try (exfalso; omega))) | (apply G_off; exact rfl; exact rfl) | ((fail_if_success (apply G_on; exact rfl)); apply G_split_dec; exact rfl; exact rfl; all_goals (intro h; try (exfalso; omega))) | refine W_drawn 1 [] [0,1,2,3,4,5] mixed (by decide +kernel) ?_ | apply W_skip | apply W_block | apply Post_block_normal)
      all_goals
        have t5 := t4.xt (show Ext w4 w5 from (by repeat first | assumption | exact Ext.rfl' | apply Ext.drew | apply Ext.alloc | refine Ext.trans ?_ (by assumption)))
        apply G_on; exact rfl; apply G1_storeB; exact T.z31; exact rfl; exact rfl; exact hA5; exact rfl; exact rfl; (first | exact Nat.le_of_ble_eq_true rfl | (focus (simp [Value.cells]; done))); (first | exact Enc.one _ _ | (focus (simp [Value.oneCell']; done)) | (focus (simp [Value.cells, Value.oneCell']; done)) | exact Enc.oneAgg _ _); exact rfl; (first | exact .inl rfl | exact .inr (by simp [exempt])); exact rfl; intro wf hAf hgf hsf
        replace hAf : Blk wf.heap a5 31 (eRep.enc zRep) := hAf
        have tf := t5.own hgf (fun q hq => by injection hq with hq; omega)
        repeat' (first | (apply G_on; exact rfl; (apply G1_assign; exact rfl; exact rfl)) | apply G_nil | apply Post_next | apply W_ret | apply Post_then_ret | apply Post_block_ret)
        refine Post_ret Tryz.results39 ⟨_, _, _, rfl, rfl, run_loadVar_box T.a31 (by assumption) rfl, _, _, rfl, rfl, rfl⟩ ?_
        refine .inr ⟨?_, zRep, _, rfl, tf.st, tf.x⟩
        rw [hcs]
        exact rdT_none (hrd.trans (by unfold rdLine; rw [if_neg m0, if_neg m1, hnum]; simp only; rw [if_neg m2, if_neg m3, if_neg hm4]))
    have hrl : rdHead cs = .list n.toNat (s.length + 3) := hrd.trans (by unfold rdLine; rw [if_neg m0, if_neg m1, hnum]; simp only; rw [if_neg m2, if_neg m3, if_pos hm4])
    have hmm : (m.toNat : Int) = 42 := by rw [hm4.1]; rfl
    have hn0 := hm4.2
    repeat' (first | (apply G_on; exact rfl; first | ((first | apply G1_assign | apply G1_move); exact rfl; exact rfl) | (apply G1_sindexJ (q := 0) (s := mkStr (m :: s)); exact T.str9; exact rfl; exact rfl; exact rfl; omega; exact rfl) | (apply G1_ssliceLoE (r := mkStr s); exact T.str9; exact rfl; exact rfl; omega; omega; exact mkStr_tail m s; exact rfl) | (apply G1_build (.agg (eRep.enc (leafR 5 ⟨#[]⟩ 0)).toArray); exact rfl; exact bldK _; exact rfl) | (apply G1_call (f := 44); exact rfl; exact rfl; exact rfl; exact nparse_yes hIs (TabIs.ext hT4 (by repeat first | assumption | exact Ext.rfl' | apply Ext.drew | apply Ext.alloc | refine Ext.trans ?_ (by assumption))); rintro _ w5 ⟨rfl, hx5⟩; refine ⟨(by first | exact .inl rfl | exact .inr (by assumption)), ?_⟩; (first | replace hinp := hinp.ext hx5 | replace hinp := hinp.ext ((Ext.drew Ext.rfl').trans hx5)); (first | replace hpos := hpos.ext hx5 | replace hpos := hpos.ext ((Ext.drew Ext.rfl').trans hx5)); (first | replace hA5 := hA5.ext hx5 | replace hA5 := hA5.ext ((Ext.drew Ext.rfl').trans hx5))) | ((first | apply G1_extract | apply G1_neq | apply G1_lss | apply G1_geq); exact rfl; exact rfl; exact rfl) | (apply G1_not_t; exact rfl; exact rfl) | (apply G1_pick_f; exact rfl; exact rfl; exact rfl) | (apply G1_eql; exact rfl; exact rfl; exact rfl)) | apply G_nil | apply Post_next | apply W_seq | apply W_region | (apply W_cond_false; exact rfl) | (apply W_cond_dec; exact rfl; all_goals (intro h; try (exfalso; omega))) | (apply G_off; exact rfl; exact rfl) | ((fail_if_success (apply G_on; exact rfl)); apply G_split_dec; exact rfl; exact rfl; all_goals (intro h; try (exfalso; omega))) | refine W_drawn 1 [] [0,1,2,3,4,5] mixed (by decide +kernel) ?_ | apply W_skip | apply W_block | apply Post_block_normal)
    have t5 := t4.xt (show Ext w4 w5 from (by repeat first | assumption | exact Ext.rfl' | apply Ext.drew | apply Ext.alloc | refine Ext.trans ?_ (by assumption)))
    have ha5l := hA5.lt
    apply G_on; exact rfl; apply G1_alloc; exact T.zero31; exact rfl; exact rfl; intro a14 w6 ha14 hA14 hx6 hs6
    replace hA5 := hA5.ext hx6
    skip
    apply G_on; exact rfl; apply G1_storeB; exact T.z31; exact rfl; exact rfl; exact hA14; exact rfl; exact rfl; (first | exact Nat.le_of_ble_eq_true rfl | (focus (simp [Value.cells]; done))); (first | exact Enc.one _ _ | (focus (simp [Value.oneCell']; done)) | (focus (simp [Value.cells, Value.oneCell']; done)) | exact Enc.oneAgg _ _); exact rfl; (first | exact .inl rfl | exact .inr (by simp [exempt])); exact rfl; intro w7 hA7 hg7 hs7
    replace hA7 : Blk w7.heap a14 31 [.int .i64 5, .string ⟨#[]⟩, .int .i64 0, .slice none 0 0] := hA7
    replace hA5 := hA5.grown hg7 (fun e => by injection e; omega)
    have t7 := (t5.xt hx6).own hg7 (fun q hq => by injection hq with hq; omega)
    have hBw : w.heap.size ≤ w7.heap.size := t7.x.size
    have hB5 := hA5.lt
    have hB14 := hA7.lt
    repeat' (first | (apply G_on; exact rfl; (apply G1_move; exact rfl; exact rfl)) | apply G_nil | apply Post_next | apply W_seq | apply W_region | apply W_block)
    refine W_loop (ι := Nat × Nat × Option Addr × Nat × List RawR × List Rep) (fun y => [(0, .int .i64 (4 - ((d + 1 : Nat) : Int))), (3, .pointer (some (adr (bx aT) 0))), (5, .pointer (some (adr (bx a5) 0))), (14, .pointer (some (adr (bx a14) 0))), (107, .int .i64 n), (108, .int .i64 (y.1 : Int))])
      (fun y w' => TkS w0 w w' ab aa aT tT p c bs (k1 + y.2.1) ∧ Blk w'.heap a5 31 (eRep.enc zRep) ∧ Blk w'.heap a14 31 [.int .i64 5, .string ⟨#[]⟩, .int .i64 0, .slice y.2.2.1 y.2.2.2.2.1.length y.2.2.2.1] ∧
        Own w' w7.heap.size 31 eRep y.2.2.1 y.2.2.2.1 y.2.2.2.2.1 ∧ y.2.2.2.2.1.length = y.2.2.2.2.2.length ∧
        (∀ (q : Nat) r t, y.2.2.2.2.1[q]? = some r → y.2.2.2.2.2[q]? = some t → RepAt (veil (fun b => b < w7.heap.size ∨ blk y.2.2.1 = some b) w'.heap) (d + 1) r t) ∧
        rdL (rdT d) y.1 (bs.drop k1) = some (y.2.2.2.2.2, y.2.1) ∧ y.1 ≤ n.toNat ∧ w7.heap.size ≤ w'.heap.size) (fun y => n.toNat - y.1) (0, 0, none, 0, [], []) ⟨rfl, rfl, rfl, rfl, rfl, rfl, trivial⟩
      ⟨t7, hA5, hA7, Own.nil _ _ _ _, rfl, fun q r t hq => by simp at hq, rfl, Nat.zero_le _, Nat.le_refl _⟩ ?_
    clear hA5 hA7 t7
    rintro ⟨i, j, pl, cl, rs, ts⟩ w8 ⟨t8, hA5, hA14, hO, hrt, hEl, hrdl, hin, hB8⟩
    simp only at t8 hA14 hO hrt hEl hrdl hin
    refine W_keep [(0, .int .i64 (4 - ((d + 1 : Nat) : Int))), (3, .pointer (some (adr (bx aT) 0))), (5, .pointer (some (adr (bx a5) 0))), (14, .pointer (some (adr (bx a14) 0))), (107, .int .i64 n), (108, .int .i64 (i : Int))] ⟨rfl, rfl, rfl, rfl, rfl, rfl, trivial⟩ ?_
    obtain ⟨hti, h3i, hjl⟩ := rdL_len (rdT_len d) _ _ _ _ hrdl
    rw [hL] at hjl
    have hge := hO.ge
    by_cases hlt : (i : Int) < n
    · have htk := t8.st.take
      have ihc := ih (w := w8) (k := k1 + j) (by omega) hbs t8.st (by omega)
      have e4 : (4 - ((d + 1 : Nat) : Int)) + 1 = 4 - (d : Int) := by push_cast; omega
      rw [← e4] at ihc
      repeat' (first | (apply G_on; exact rfl; first | (apply G1_move; exact rfl; exact rfl) | (apply G1_loadB; exact plF; exact rfl; exact htk; exact rfl; exact rfl) | (apply G1_lss; exact rfl; exact rfl; exact rfl) | (apply G1_add; exact rfl; exact rfl; omega; omega; exact rfl)) | apply G_nil | apply Post_next | apply W_seq | apply W_region | (apply W_cond_dec; exact rfl; all_goals (intro h; try (exfalso; omega))) | apply W_skip | apply W_block)
      apply G_on; exact rfl; apply G1_callv; exact rfl; exact rfl; exact rfl; exact rfl; exact ihc; rintro v w9 hv; refine ⟨(by first | exact .inl rfl | exact .inr (by assumption)), ?_⟩
      unfold TakeR at hv
      rcases hv with ⟨t, j2, r, hr1, rfl, hr2, hr3, hr4⟩ | ⟨hr1, r, k9, rfl, hr3, hr4⟩
      · have hlen2 := rdT_len _ _ _ _ hr1
        simp only [List.length_drop] at hlen2
        have t9 := t8.call hr3 hr4
        have z9 := hr4.size
        replace hA5 := hr4.blk hA5 (exempt1 (by omega))
        replace hA14 := hr4.blk hA14 (exempt1 (by omega))
        replace hO := hO.kept hr4.grown1 (fun a' ha' e => by injection e with e; have := hge a'.block (by rw [ha']; rfl); omega)
        repeat' (apply G_on; exact rfl; first | (apply G1_move; exact rfl; exact rfl) | (apply G1_extract; exact rfl; exact rfl; exact rfl))
        apply G_on; exact rfl; apply G1_alloc; exact T.zero31; exact rfl; exact rfl; intro a15 w10 ha15 hA15 hx10 hs10
        skip
        apply G_on; exact rfl; apply G1_storeB; exact T.z31; exact rfl; exact rfl; exact hA15; exact rfl; exact rfl; (first | exact Nat.le_of_ble_eq_true rfl | (focus (simp [Value.cells]; done))); (first | exact Enc.one _ _ | (focus (simp [Value.oneCell']; done)) | (focus (simp [Value.cells, Value.oneCell']; done)) | exact Enc.oneAgg _ _); exact rfl; (first | exact .inl rfl | exact .inr (by simp [exempt])); exact rfl; intro w11 hA11 hg11 hs11
        replace hA11 : Blk w11.heap a15 31 (eRep.enc r) := hA11
        have hx911 : Ext w9 w11 := hx10.own hg11 (fun q hq => by injection hq; omega)
        replace hA5 := hA5.ext hx911
        replace hA14 := hA14.ext hx911
        replace hO := hO.ext hx911
        have t11 := t9.xt hx911
        repeat' (first | (apply G_on; exact rfl; first | ((first | apply G1_assign | apply G1_move); exact rfl; exact rfl) | (apply G1_loadB; exact T.p26; exact rfl; assumption; exact rfl; exact rfl) | (apply G1_not_t; exact rfl; exact rfl) | (apply G1_fieldAddr; exact T.f31_3; exact rfl; exact rfl) | (apply G1_loadBAgg; exact T.a31; exact rfl; assumption; exact rfl; exact rfl)) | apply G_nil | apply Post_next | apply W_seq | apply W_region | (apply W_cond_false; exact rfl) | apply W_skip)
        apply G_on; exact rfl
        apply G1_build1 eRep r; exact T.s26; exact rfl; exact rfl; exact rfl; decide; exact rfl; exact rfl
        intro p12 w12 hp12 hs12 _ hx12 hz12
        replace hA5 := hA5.ext hx12
        replace hA14 := hA14.ext hx12
        replace hO := hO.ext hx12
        have t12 := t11.xt hx12
        have z12 := hx911.size
        repeat' (apply G_on; exact rfl; first | (apply G1_appendA; exact T.s26; exact rfl; exact rfl; exact hO; exact hs12; exact rfl; omega; (simp only [List.length_cons, List.length_nil]; omega); (simp only [List.length_cons, List.length_nil]; omega); exact rfl; exact rfl; exact rfl; intro p13 c13 w13 ha13) | (apply G1_fieldAddr; exact T.f31_3; exact rfl; exact rfl))
        have z13 := ha13.grown.size
        have t13 := t12.own ha13.grown (fun q hq => by have := hge q hq; omega)
        replace hA5 := hA5.grown ha13.grown (fun e => by have := hge _ e; omega)
        replace hA14 := hA14.grown ha13.grown (fun e => by have := hge _ e; omega)
        apply G_on; exact rfl; apply G1_storeB; exact T.z26; exact rfl; exact rfl; exact hA14; exact rfl; exact rfl; (first | exact Nat.le_of_ble_eq_true rfl | (focus (simp [Value.cells]; done))); (first | exact Enc.one _ _ | (focus (simp [Value.oneCell']; done)) | (focus (simp [Value.cells, Value.oneCell']; done)) | exact Enc.oneAgg _ _); exact rfl; (first | exact .inl rfl | exact .inr (by simp [exempt])); exact rfl; intro w14 hA14' hg14 hs14
        replace hA14' : Blk w14.heap a14 31 [.int .i64 5, .string ⟨#[]⟩, .int .i64 0, .slice p13 (rs ++ [r]).length c13] := hA14'
        have t14 := t13.own hg14 (fun q hq => by injection hq with hq; omega)
        replace hA5 := hA5.grown hg14 (fun e => by injection e; omega)
        have hO14 := ha13.own.kept hg14 (fun a' ha' e => by injection e with e; have := ha13.own.ge a'.block (by rw [ha']; rfl); omega)
        have hnew : ∀ b, b < w9.heap.size → blk pl ≠ some b → blk p13 ≠ some b := fun b hb hne e => by
          have hnp := ha13.new
          unfold NewP at hnp
          rcases hnp with h | h
          · exact hne (by rw [← h]; exact e)
          · have := h b e; have := hx12.size; omega
        have hblk : ∀ b, b < w9.heap.size → w7.heap.size ≤ b → blk pl ≠ some b → w14.heap[b]? = w9.heap[b]? := fun b hb hb2 hne => by
          rw [hg14.block b (by omega) (fun e => by injection e; omega), ha13.grown.block b (by have := hx12.size; omega) (fun e => hne e.symm), hx12.block b (by omega), hx911.block b hb]
        repeat' (first | (apply G_on; exact rfl; first | (apply G1_move; exact rfl; exact rfl) | (apply G1_add; exact rfl; exact rfl; omega; omega; exact rfl)) | apply G_nil | apply Post_next | apply W_region | apply Post_block_normal)
        refine Post_round (i + 1, j + j2, p13, c13, rs ++ [r], ts ++ [t]) ⟨rfl, rfl, rfl, rfl, rfl, rfl, trivial⟩ ⟨by simp only; rw [← Nat.add_assoc]; exact t14, hA5, hA14', hO14, by simp [hrt], ?_, ?_, by simp only; omega, by omega⟩ (by simp only; omega)
        · intro q r' t' hr' ht'
          simp only at hr' ht' ⊢
          by_cases hq : q < rs.length
          · rw [List.getElem?_append_left hq] at hr'
            rw [List.getElem?_append_left (by omega)] at ht'
            refine (hEl q r' t' hr' ht').hide (fun b hb hbl => ?_)
            have hb1 : ¬ b < w7.heap.size := fun h => hb (.inl h)
            have hb2 : blk pl ≠ some b := fun h => hb (.inr h)
            refine ⟨fun h => h.elim hb1 (hnew b (by omega) hb2), ?_⟩
            rw [hblk b (by omega) (by omega) hb2, hr4.block b hbl (exempt1 (by omega))]
          · have e1 := get_lt hr'
            rw [List.length_append, List.length_singleton] at e1
            obtain rfl : q = rs.length := by omega
            rw [List.getElem?_append_right (Nat.le_refl _), Nat.sub_self] at hr'
            rw [List.getElem?_append_right (by omega), hrt, Nat.sub_self] at ht'
            obtain rfl : r = r' := by simpa using hr'
            obtain rfl : t = t' := by simpa using ht'
            refine hr2.hide (fun b hb hbl => ?_)
            have hb2 : blk pl ≠ some b := fun h => by have := hge b h; omega
            exact ⟨fun h => h.elim (by omega) (hnew b hbl hb2), hblk b hbl (by omega) hb2⟩
        · simp only
          rw [rdL_snoc, hrdl]
          simp only [Option.bind_some, List.drop_drop, hr1, Option.map_some]
      · have t9 := t8.call hr3 hr4
        have z9 := hr4.size
        replace hA5 := hr4.blk hA5 (exempt1 (by omega))
        repeat' (apply G_on; exact rfl; first | (apply G1_move; exact rfl; exact rfl) | (apply G1_extract; exact rfl; exact rfl; exact rfl))
        apply G_on; exact rfl; apply G1_alloc; exact T.zero31; exact rfl; exact rfl; intro a15 w10 ha15 hA15 hx10 hs10
        skip
        apply G_on; exact rfl; apply G1_storeB; exact T.z31; exact rfl; exact rfl; exact hA15; exact rfl; exact rfl; (first | exact Nat.le_of_ble_eq_true rfl | (focus (simp [Value.cells]; done))); (first | exact Enc.one _ _ | (focus (simp [Value.oneCell']; done)) | (focus (simp [Value.cells, Value.oneCell']; done)) | exact Enc.oneAgg _ _); exact rfl; (first | exact .inl rfl | exact .inr (by simp [exempt])); exact rfl; intro w11 hA11 hg11 hs11
        have hx911 : Ext w9 w11 := hx10.own hg11 (fun q hq => by injection hq; omega)
        replace hA5 := hA5.ext hx911
        have t11 := t9.xt hx911
        repeat' (first | (apply G_on; exact rfl; first | ((first | apply G1_assign | apply G1_move); exact rfl; exact rfl) | (apply G1_build (.agg (eRep.enc zRep).toArray); exact rfl; exact bldZ; exact rfl) | (apply G1_not_f; exact rfl; exact rfl)) | apply G_nil | apply Post_next | apply W_seq | apply W_region | (apply W_cond_true; exact rfl))
        apply G_on; exact rfl; apply G1_storeB; exact T.z31; exact rfl; exact rfl; exact hA5; exact rfl; exact rfl; (first | exact Nat.le_of_ble_eq_true rfl | (focus (simp [Value.cells]; done))); (first | exact Enc.one _ _ | (focus (simp [Value.oneCell']; done)) | (focus (simp [Value.cells, Value.oneCell']; done)) | exact Enc.oneAgg _ _); exact rfl; (first | exact .inl rfl | exact .inr (by simp [exempt])); exact rfl; intro wf hAf hgf hsf
        replace hAf : Blk wf.heap a5 31 (eRep.enc zRep) := hAf
        have tf := t11.own hgf (fun q hq => by injection hq with hq; omega)
        repeat' (first | (apply G_on; exact rfl; (apply G1_assign; exact rfl; exact rfl)) | apply G_nil | apply Post_next | apply W_ret | apply Post_then_ret | apply Post_block_ret)
        refine Post_ret Tryz.results39 ⟨_, _, _, rfl, rfl, run_loadVar_box T.a31 (by assumption) rfl, _, _, rfl, rfl, rfl⟩ ?_
        refine .inr ⟨?_, zRep, _, rfl, tf.st, tf.x⟩
        rw [hcs, rdT_list hrl]
        have e5 : cs.drop (s.length + 3) = bs.drop k1 := by rw [hdk1, ← hsl]
        rw [e5, rdL_stop (n := i + 1) (by omega) (by
          rw [rdL_snoc, hrdl]
          simp only [Option.bind_some, List.drop_drop, hr1, Option.map_none])]
        rfl
    · have hi : i = n.toNat := by omega
      subst hi
      repeat' (first | (apply G_on; exact rfl; first | (apply G1_lss; exact rfl; exact rfl; exact rfl) | (apply G1_loadBAgg; exact T.a31; exact rfl; assumption; exact rfl; exact rfl)) | apply G_nil | apply Post_next | apply W_seq | apply W_region | (apply W_cond_dec; exact rfl; all_goals (intro h; try (exfalso; omega))) | apply W_exit | apply Post_then_exit | apply Post_block_exit)
      apply G_on; exact rfl; apply G1_storeB; exact T.z31; exact rfl; exact rfl; exact hA5; exact rfl; exact rfl; (first | exact Nat.le_of_ble_eq_true rfl | (focus (simp [Value.cells]; done))); (first | exact Enc.one _ _ | (focus (simp [Value.oneCell']; done)) | (focus (simp [Value.cells, Value.oneCell']; done)) | exact Enc.oneAgg _ _); exact rfl; (first | exact .inl rfl | exact .inr (by simp [exempt])); exact rfl; intro wf hAf hgf hsf
      replace hAf : Blk wf.heap a5 31 (eRep.enc ⟨5, ⟨#[]⟩, 0, pl, rs.length, cl⟩) := hAf
      have tf := t8.own hgf (fun q hq => by injection hq with hq; omega)
      have hOf := hO.kept hgf (fun a' ha' e => by injection e with e; have := hge a'.block (by rw [ha']; rfl); omega)
      repeat' (first | (apply G_on; exact rfl; (apply G1_assign; exact rfl; exact rfl)) | apply G_nil | apply Post_next | apply W_ret)
      refine Post_ret Tryz.results39 ⟨_, _, _, rfl, rfl, run_loadVar_box T.a31 (by assumption) rfl, _, _, rfl, rfl, rfl⟩ ?_
      refine .inl ⟨.mk 5 ⟨#[]⟩ 0 ts, s.length + 3 + j, ⟨5, ⟨#[]⟩, 0, pl, rs.length, cl⟩, ?_, rfl, ⟨rfl, rfl, rfl, hrt, nil_size, fit0, rs, hOf.hidden (fun q hq hlt => ?_), hrt, fun q r t hr ht => (hEl q r t hr ht).hide (fun b hb hbl => ⟨fun h => hb (.inl (by omega)), ?_⟩)⟩, ?_, tf.x⟩
      · have e5 : cs.drop (s.length + 3) = bs.drop k1 := by rw [hdk1, ← hsl]
        rw [hcs, rdT_list hrl, e5, hrdl]
        rfl
      · have := hge q hq; omega
      · exact hgf.block b hbl (fun e => by injection e with e; exact hb (.inl (by omega)))
      · rw [show k + (s.length + 3 + j) = k1 + j by omega]
        exact tf.st
end Go.Proofs.YtipbakiecocioaaGreatDoor

/- Requests: the program's and the document's line, number; the walks. -/

namespace Go.V
open Go.RowKit
/-- where a byte first stands, or -1 -/
def fst (l : List UInt8) (c : UInt8) : Int := Lib.indexByte l c
section
variable {P : Program} {n : Nat} {ops : Array Oper} {dr : Nat × List Nat} {l : List Oper} {E : Env} {w : World} {K : Env → World → Prop}
variable {d : Option Nat} {ty : TypeId} {pos : String} {af : Array Edge} {g : Option (Nat × Bool)} {x y : Operand} {i : Int} {t t' : TypeId} {s s' : ByteArray}
theorem G1_sneF (hx : E.look x = some (.string s)) (hy : E.look y = some (.string s')) (he : s = s') (hd : dstOk n d = true) (h : G P n ops dr l (E.put d (.bool false)) w K) : G1 P n ops dr ⟨d, .binOp .neq t x y t', ty, pos, af, g⟩ l E w K :=
  G1_sneq hx hy hd (by rw [decide_eq_false (fun hn => hn he)]; exact h)
theorem G1_sneT (hx : E.look x = some (.string s)) (hy : E.look y = some (.string s')) (he : ¬ s = s') (hd : dstOk n d = true) (h : G P n ops dr l (E.put d (.bool true)) w K) : G1 P n ops dr ⟨d, .binOp .neq t x y t', ty, pos, af, g⟩ l E w K :=
  G1_sneq hx hy hd (by rw [decide_eq_true he]; exact h)
/-- the library's search for a byte in a slice -/
theorem G1_indexByteL {f : FuncId} {fn : Func} {p : Option Addr} {c m : Nat} {bs : List UInt8} {tys : Array TypeId} (hf : P.funcs[f]? = some fn) (hname : (fn.name == "runtime.NumGoroutine") = false) (hb : fn.body.isNone = true) (hn : Extern.findNext fn = none) (hfi : Extern.find fn = some Extern.BytealgIndexByte.indexByte)
    (hx : E.look x = some (.slice p m c)) (hy : E.look y = some (.int .u8 i)) (hm : m = bs.length) (hs : Sl w.heap eByte p c bs) (he : effects P dr.1 ⟨d, .call ⟨.value (.func f), #[x, y], tys⟩, ty, pos, af, g⟩ = true) (hd : dstOk n d = true)
    (h : G P n ops dr l (E.put d (.int .i64 (fst bs i.toNat.toUInt8))) w K) : G1 P n ops dr ⟨d, .call ⟨.value (.func f), #[x, y], tys⟩, ty, pos, af, g⟩ l E w K := by
  subst hm
  have hr0 : (Extern.BytealgIndexByte.indexByte #[.slice p bs.length c, .int .u8 i]).run P w = .ok (.int .i64 (fst bs i.toNat.toUInt8)) w := by
    cases p with
    | none =>
      have h1 := hs.ok.nul rfl
      have h2 := hs.ok.le
      obtain rfl := List.eq_nil_of_length_eq_zero (show bs.length = 0 by omega)
      exact Lib.run_indexByteNil w _ _ _
    | some a =>
      by_cases h0 : bs.length = 0
      · obtain rfl := List.eq_nil_of_length_eq_zero h0
        exact Lib.run_indexByteSlice w a.block a.off 0 c [] rfl (fun j hj => by omega) i |> fun h => by
          have e : (Extern.BytealgIndexByte.indexByte #[.slice (some a) ([] : List UInt8).length c, .int .u8 i]).run P w = (Extern.BytealgIndexByte.indexByte #[.slice (some ⟨a.block, a.off, none⟩) 0 c, .int .u8 i]).run P w := rfl
          rw [e]
          exact h
      · have hsp := hs.ok.spot a rfl (by have := hs.ok.le; omega)
        obtain ⟨b, off, sp⟩ := a
        simp only at hsp
        subst hsp
        have key := Lib.run_indexByteSlice (P := P) w b off bs.length c (bs.map (fun z => (z.toNat : Int))) (by simp) (fun j hj => by
          obtain ⟨z, hz⟩ := get_some hj
          have h1 := hs.cell j z hz 0 (.int .u8 (z.toNat : Int)) rfl
          have e : adr (some ⟨b, off, none⟩) (j * eByte.sz + 0) = ⟨b, off + j, none⟩ := by simp [adr, Addr.add, eByte]
          rw [e] at h1
          rw [cell_eq, h1, List.getD_eq_getElem?_getD, List.getElem?_map, hz]
          rfl) i
        have e : Lib.bytesOf (bs.map (fun z => (z.toNat : Int))) = bs := by
          unfold Lib.bytesOf
          rw [List.map_map]
          conv => rhs; rw [← List.map_id bs]
          apply List.map_congr_left
          intro z _
          simp
        rw [e] at key
        exact key
  have hr : (callFunc f #[.slice p bs.length c, .int .u8 i]).run P w = .ok (.value (.int .i64 (fst bs i.toNat.toUInt8))) w := by
    rw [run_callFunc_extern hf hname hb hn hfi, hr0]
    rfl
  exact G1_eff _ w he hd (fun a ha => by
    have e0 : a.eval (.func f) = .func (.func f) #[] #[] := rfl
    simp [execOp, resolve, Deferred.ofValue, e0, invoke, ha.eval hx, ha.eval hy, hr]) (.inr ExtS.rfl') h
end
end Go.V
namespace Go.Proofs.YtipbakiecocioaaGreatDoor
open Go.V
attribute [local irreducible] Blk Own hcell IntT SliceT PlainT AggT SizeT StrT FieldT ZeroT EqT ArrT

/-- the place of the first c; the length, where there is none -/
def chAt (c : UInt8) : List UInt8 → Nat
  | [] => 0
  | b :: l => if b = c then 0 else chAt c l + 1
theorem chAt_le (c : UInt8) : ∀ l : List UInt8, chAt c l ≤ l.length
  | [] => Nat.le_refl _
  | b :: l => by
    unfold chAt
    have := chAt_le c l
    split
    · omega
    · simp only [List.length_cons]; omega
theorem nl_ch : ∀ l : List UInt8, nlAt l = chAt 10 l
  | [] => rfl
  | b :: l => by
    unfold nlAt chAt
    rw [nl_ch l]
theorem fst_ch (c : UInt8) : ∀ l : List UInt8, fst l c = if chAt c l < l.length then (chAt c l : Int) else -1
  | [] => rfl
  | b :: l => by
    have ih := fst_ch c l
    unfold fst at ih ⊢
    unfold Lib.indexByte chAt
    by_cases hb : b = c
    · simp [hb]
    · have hb2 : (b == c) = false := by simpa using hb
      rw [if_neg (show ¬ (b == c) = true by rw [hb2]; decide), if_neg hb]
      by_cases h : chAt c l < l.length
      · rw [if_pos h] at ih
        rw [ih, if_neg (show ¬ (((chAt c l : Nat) : Int) == -1) = true by first | (simp; done) | (simp; omega)), if_pos (show chAt c l + 1 < (b :: l).length by simp only [List.length_cons]; omega)]
        push_cast; rfl
      · rw [if_neg h] at ih
        rw [ih, if_neg (show ¬ chAt c l + 1 < (b :: l).length by simp only [List.length_cons]; omega)]
        rfl
end Go.Proofs.YtipbakiecocioaaGreatDoor

/- Requests: lists of words in memory, and which blocks a reader turns; in plain Lean. -/

namespace Go.V
/-- a slice as it lies -/
abbrev Hdr := Option Addr × Nat × Nat
def eSlc : Enc Hdr := ⟨1, fun r => [.slice r.1 r.2.1 r.2.2], fun _ => rfl, fun _ v hv => by simp at hv; subst hv; rfl, by decide⟩
/-- headers, and the words behind them -/
structure CmdsAt (H : Array Obj) (hs : List Hdr) (ls : List (List ByteArray)) : Prop where
  len : hs.length = ls.length
  get : ∀ (i : Nat) h l, hs[i]? = some h → ls[i]? = some l → h.2.1 = l.length ∧ Sl H eStr h.1 h.2.2 l
theorem CmdsAt.nil {H : Array Obj} : CmdsAt H [] [] := ⟨rfl, fun i h l hi => by simp at hi⟩
theorem CmdsAt.cells {H H' : Array Obj} {hs : List Hdr} {ls : List (List ByteArray)} (h : CmdsAt H hs ls) (hh : ∀ a v, hcell H a = some v → hcell H' a = some v) : CmdsAt H' hs ls :=
  ⟨h.len, fun i x l hx hl => ⟨(h.get i x l hx hl).1, (h.get i x l hx hl).2.cells hh⟩⟩
theorem CmdsAt.shown {S : Nat → Prop} {H : Array Obj} {hs : List Hdr} {ls : List (List ByteArray)} (h : CmdsAt (veil S H) hs ls) : CmdsAt H hs ls :=
  h.cells fun _ _ hv => (hcell_veil.1 hv).2.2
theorem veil_cells {S S' : Nat → Prop} {H H' : Array Obj} (hh : ∀ q, ¬ S q → q < H.size → ¬ S' q ∧ H'[q]? = H[q]?) : ∀ a v, hcell (veil S H) a = some v → hcell (veil S' H') a = some v := fun a v hv => by
  obtain ⟨h1, hp, h2⟩ := hcell_veil.1 hv
  obtain ⟨h3, h4⟩ := hh a.block h1 (hcell_lt h2)
  exact hcell_veil.2 ⟨h3, by rw [h4]; exact hp, by rw [hcell_block h4]; exact h2⟩
theorem CmdsAt.hide {S S' : Nat → Prop} {H H' : Array Obj} {hs : List Hdr} {ls : List (List ByteArray)} (h : CmdsAt (veil S H) hs ls) (hh : ∀ q, ¬ S q → q < H.size → ¬ S' q ∧ H'[q]? = H[q]?) : CmdsAt (veil S' H') hs ls :=
  h.cells (veil_cells hh)
theorem CmdsAt.snoc {H : Array Obj} {hs : List Hdr} {ls : List (List ByteArray)} (h : CmdsAt H hs ls) {p : Option Addr} {c : Nat} {l : List ByteArray} (hl : Sl H eStr p c l) : CmdsAt H (hs ++ [(p, l.length, c)]) (ls ++ [l]) := by
  refine ⟨by simp [h.len], fun i x y hx hy => ?_⟩
  by_cases hi : i < hs.length
  · rw [List.getElem?_append_left hi] at hx
    rw [List.getElem?_append_left (by rw [← h.len]; exact hi)] at hy
    exact h.get i x y hx hy
  · have e1 := (List.getElem?_eq_some_iff.1 hx).1
    rw [List.length_append, List.length_singleton] at e1
    obtain rfl : i = hs.length := by omega
    rw [List.getElem?_append_right (Nat.le_refl _), Nat.sub_self] at hx
    rw [List.getElem?_append_right (by rw [h.len]; exact Nat.le_refl _), h.len, Nat.sub_self] at hy
    obtain rfl : (p, l.length, c) = x := by simpa using hx
    obtain rfl : l = y := by simpa using hy
    exact ⟨rfl, hl⟩
theorem CmdsAt.app {H : Array Obj} {hs hs' : List Hdr} {ls ls' : List (List ByteArray)} (h : CmdsAt H hs ls) (k : CmdsAt H hs' ls') : CmdsAt H (hs ++ hs') (ls ++ ls') := by
  refine ⟨by simp [h.len, k.len], fun i x y hx hy => ?_⟩
  by_cases hi : i < hs.length
  · rw [List.getElem?_append_left hi] at hx
    rw [List.getElem?_append_left (by rw [← h.len]; exact hi)] at hy
    exact h.get i x y hx hy
  · rw [List.getElem?_append_right (by omega)] at hx
    rw [List.getElem?_append_right (by rw [← h.len]; omega), ← h.len] at hy
    exact k.get _ x y hx hy
/-- of the blocks that were there only those of F are turned -/
structure FrS (F : Nat → Prop) (w w' : World) : Prop where
  os : w'.os = w.os
  tape : w'.tape = w.tape
  output : w'.output = w.output
  size : w.heap.size ≤ w'.heap.size
  block : ∀ k, k < w.heap.size → ¬ F k → w'.heap[k]? = w.heap[k]?
theorem FrS.of_ext {F : Nat → Prop} {w w' : World} (h : Ext w w') : FrS F w w' := ⟨h.os, h.tape, h.output, h.size, fun k hk _ => h.block k hk⟩
theorem FrS.of_grown {F : Nat → Prop} {row : Option Nat} {w w' : World} (h : w.grownBy w' row) (hf : ∀ k, row = some k → F k) : FrS F w w' :=
  ⟨h.os, h.tape, h.output, h.size, fun k hk hn => h.block k hk (fun e => hn (hf k e.symm))⟩
theorem FrS.trans {F G : Nat → Prop} {w w1 w2 : World} (h : FrS F w w1) (k : FrS G w1 w2) (hg : ∀ q, q < w.heap.size → G q → F q) : FrS F w w2 :=
  ⟨k.os.trans h.os, k.tape.trans h.tape, k.output.trans h.output, Nat.le_trans h.size k.size, fun q hq hn => (k.block q (Nat.lt_of_lt_of_le hq h.size) (fun hgq => hn (hg q hq hgq))).trans (h.block q hq hn)⟩
theorem FrS.toE {F : Nat → Prop} {w w' : World} (h : FrS F w w') (hf : ∀ q, q < w.heap.size → ¬ F q) : Ext w w' := ⟨h.os, h.tape, h.output, h.size, fun k hk => h.block k hk (hf k hk)⟩
theorem FrS.blk {F : Nat → Prop} {w w' : World} (h : FrS F w w') {b : Nat} {t : TypeId} {cs : List Value} (hb : Blk w.heap b t cs) (hf : ¬ F b) : Blk w'.heap b t cs := by
  have := h.block b hb.lt hf
  unfold Blk at *
  rw [this]; exact hb
end Go.V

/- Requests: the document's cut, list, Told; the walks. -/

namespace Go.Proofs.YtipbakiecocioaaGreatDoor
open Go.V
attribute [local irreducible] Blk Own hcell IntT SliceT PlainT AggT SizeT StrT FieldT ZeroT EqT ArrT
theorem cutG_cons (w : List UInt8) (c : UInt8) (l : List UInt8) : cutG w (c :: l) = if c = 32 then (if w = [] then cutG [] l else w :: cutG [] l) else cutG (w ++ [c]) l := rfl
theorem cutG_len : ∀ (l w : List UInt8), (cutG w l).length ≤ w.length + l.length ∧ ∀ x ∈ cutG w l, x.length ≤ w.length + l.length
  | [], w => by
    unfold cutG
    split
    · simp
    · rename_i h
      have : 0 < w.length := List.length_pos_iff.2 h
      simp
      omega
  | c :: l, w => by
    rw [cutG_cons]
    simp only [List.length_cons]
    split
    · have ih := cutG_len l []
      simp only [List.length_nil] at ih
      split
      · exact ⟨by omega, fun x hx => by have := ih.2 x hx; omega⟩
      · rename_i h
        have : 0 < w.length := List.length_pos_iff.2 h
        simp only [List.length_cons, List.mem_cons]
        refine ⟨by omega, fun x hx => ?_⟩
        rcases hx with rfl | hx
        · omega
        · have := ih.2 x hx; omega
    · have ih := cutG_len l (w ++ [c])
      simp only [List.length_append, List.length_singleton] at ih
      exact ⟨by omega, fun x hx => by have := ih.2 x hx; omega⟩
theorem mkStr_cut (s : List UInt8) (a b : Nat) : (mkStr s).extract a b = mkStr ((s.drop a).take (b - a)) := by
  apply ByteArray.ext
  apply Array.toList_inj.1
  rw [ByteArray.data_extract, Array.toList_extract]
  unfold mkStr
  simp [List.extract_eq_take_drop]
theorem mkStr_nil (l : List UInt8) : mkStr l = ⟨#[]⟩ ↔ l = [] := by
  constructor
  · intro h
    have := congrArg ByteArray.size h
    rw [mkStr_size] at this
    exact List.eq_nil_of_length_eq_zero this
  · intro h; rw [h]; rfl
end Go.Proofs.YtipbakiecocioaaGreatDoor

/- Requests: the document's list and Told; the walks. -/

namespace Go.Proofs.YtipbakiecocioaaGreatDoor
open Go.V
attribute [local irreducible] Blk Own hcell IntT SliceT PlainT AggT SizeT StrT FieldT ZeroT EqT ArrT

end Go.Proofs.YtipbakiecocioaaGreatDoor

/- Requests: the document's Told, Words, Same; the walks. -/

namespace Go.Proofs.YtipbakiecocioaaGreatDoor
open Go.V
attribute [local irreducible] Blk Own hcell IntT SliceT PlainT AggT SizeT StrT FieldT ZeroT EqT ArrT
/-- lists of words that lie in new rows -/
structure NewCmds (w w' : World) (q : Option Addr) (d : Nat) (hs : List Hdr) (ls : List (List ByteArray)) : Prop where
  ext : Ext w w'
  own : Own w' w.heap.size 37 eSlc q d hs
  at_ : CmdsAt (veil (fun b => b < w.heap.size ∨ blk q = some b) w'.heap) hs ls
theorem NewCmds.ext' {w w1 w2 : World} {q : Option Addr} {d : Nat} {hs : List Hdr} {ls : List (List ByteArray)} (h : NewCmds w w1 q d hs ls) (hx : Ext w1 w2) : NewCmds w w2 q d hs ls :=
  ⟨h.ext.trans hx, h.own.ext hx, h.at_.hide (fun b hb hl => ⟨hb, hx.block b hl⟩)⟩
/-- one more is laid behind -/
theorem NewCmds.push {w w1 w2 w3 : World} {q q' : Option Addr} {d d' : Nat} {hs : List Hdr} {ls : List (List ByteArray)} {p : Option Addr} {c B : Nat} {l : List ByteArray} (h : NewCmds w w1 q d hs ls) (hB : w.heap.size ≤ B) (hq : ∀ k, blk q = some k → k < B) (hl : Own w1 B 9 eStr p c l) (hx : Ext w1 w2) (ha : App w2 w3 w.heap.size 37 eSlc q q' d' (hs ++ [(p, l.length, c)])) :
    NewCmds w w3 q' d' (hs ++ [(p, l.length, c)]) (ls ++ [l]) := by
  have hge := h.own.ge
  have hz := hx.size
  have hstep : ∀ b, b < w1.heap.size → blk q ≠ some b → blk q' ≠ some b ∧ w3.heap[b]? = w1.heap[b]? := fun b hb hne => by
    refine ⟨fun e => ?_, ?_⟩
    · have hnp := ha.new
      unfold NewP at hnp
      rcases hnp with h | h
      · exact hne (by rw [← h]; exact e)
      · have := h b e; omega
    · rw [ha.grown.block b (by omega) (fun e => hne e.symm), hx.block b hb]
  refine ⟨(h.ext.trans hx).app ha (fun k hk => (hge k hk).1), ha.own, (h.at_.hide (fun b hb hl => ?_)).snoc ?_⟩
  · obtain ⟨s1, s2⟩ := hstep b hl (fun e => hb (.inr e))
    exact ⟨fun e => e.elim (fun e => hb (.inl e)) s1, s2⟩
  · refine (hl.hidden (S := fun b => b < B) (fun k hk hlt => ?_)).cells (veil_cells (fun b hb hlt => ?_))
    · have := (hl.ge k hk).1; omega
    · obtain ⟨s1, s2⟩ := hstep b hlt (fun e => by have := hq b e; omega)
      exact ⟨fun e => e.elim (fun e => hb (by omega)) s1, s2⟩
end Go.Proofs.YtipbakiecocioaaGreatDoor

/- Lists of strings compared. -/

namespace Go.Proofs.YtipbakiecocioaaGreatDoor
open Go.V
attribute [local irreducible] Blk Own hcell IntT SliceT PlainT AggT SizeT StrT FieldT ZeroT EqT ArrT
end Go.Proofs.YtipbakiecocioaaGreatDoor

/- Requests: the reader in memory; its line and number; the walks. -/

namespace Go.Proofs.YtipbakiecocioaaGreatDoor
open Go.V
attribute [local irreducible] Blk Own hcell IntT SliceT PlainT AggT SizeT StrT FieldT ZeroT EqT ArrT



theorem ibs0 : Extern.findNext Tryz.f114 = none := by kernel_rfl
theorem ibs1 : Extern.find Tryz.f114 = some Extern.BytealgIndexByte.indexByte := by kernel_rfl
theorem bytesIB_spec {p : Option Addr} {c : Nat} {bs : List UInt8} {i : Int} {w : World} (hC : Sl w.heap eByte p c bs) :
    Ctr Tryz.prog 84 [.slice p bs.length c, .int .u8 i] w (fun v w' => v = .int .i64 (fst bs i.toNat.toUInt8) ∧ Ext w w') := by
  refine Ctr_of Tryz.func84 Tryz.ntmps84 rfl rfl rfl ?_
  repeat' (first | (apply G_on; exact rfl; first | ((first | apply G1_assign | apply G1_move); exact rfl; exact rfl) | (apply G1_indexByteL (bs := bs); exact Tryz.func114; exact rfl; exact rfl; exact ibs0; exact ibs1; exact rfl; exact rfl; exact rfl; exact hC; exact rfl; exact rfl)) | apply G_nil | apply Post_next | apply W_seq | apply W_region | apply W_ret)
  refine Post_ret Tryz.results84 ⟨_, _, rfl, rfl, rfl⟩ ?_
  exact ⟨rfl, (by repeat first | assumption | exact Ext.rfl' | apply Ext.drew | apply Ext.alloc | refine Ext.trans ?_ (by assumption))⟩
/-- a reader in memory: the bytes that came, how many of them are done, the state, the error -/
structure RdSt (w0 w : World) (ar B : Nat) (p : Option Addr) (c : Nat) (inp : List UInt8) (a : Nat) (pw : Option Addr) (cw : Nat) (r : RS) (ft : Int) : Prop where
  blk : Blk w.heap ar 109 [.slice p inp.length c, .int .i64 (a : Int), .int .i64 (r.left : Int), .int .i64 r.size, .slice pw r.words.length cw, .int .i64 (r.held : Int), .int .i64 ft]
  row : Own w B 5 eByte p c inp
  wds : Own w B 9 eStr pw cw r.words
  ext : Ext w0 w
  h0 : w0.heap.size ≤ ar
  lt : ar < B
  hB : B ≤ w.heap.size
  la : a ≤ inp.length
theorem RdSt.xt {w0 w w' : World} {ar B : Nat} {p : Option Addr} {c : Nat} {inp : List UInt8} {a : Nat} {pw : Option Addr} {cw : Nat} {r : RS} {ft : Int} (h : RdSt w0 w ar B p c inp a pw cw r ft) (hx : Ext w w') : RdSt w0 w' ar B p c inp a pw cw r ft :=
  ⟨h.blk.ext hx, h.row.ext hx, h.wds.ext hx, h.ext.trans hx, h.h0, h.lt, Nat.le_trans h.hB hx.size, h.la⟩
/-- the reader's own cells are turned -/
theorem RdSt.set {w0 w w' : World} {ar B : Nat} {p : Option Addr} {c : Nat} {inp : List UInt8} {a a' : Nat} {pw : Option Addr} {cw : Nat} {r r' : RS} {ft ft' : Int} (h : RdSt w0 w ar B p c inp a pw cw r ft) (hg : w.grownBy w' (some ar))
    (hb : Blk w'.heap ar 109 [.slice p inp.length c, .int .i64 (a' : Int), .int .i64 (r'.left : Int), .int .i64 r'.size, .slice pw r'.words.length cw, .int .i64 (r'.held : Int), .int .i64 ft']) (hw : r'.words = r.words) (hl : a' ≤ inp.length) : RdSt w0 w' ar B p c inp a' pw cw r' ft' :=
  ⟨hb, h.row.kept hg (fun x hx e => by injection e with e; have := (h.row.ge x.block (by rw [hx]; rfl)).1; have := h.lt; omega), by rw [hw]; exact h.wds.kept hg (fun x hx e => by injection e with e; have := (h.wds.ge x.block (by rw [hx]; rfl)).1; have := h.lt; omega), h.ext.own hg (fun k hk => by injection hk with hk; have := h.h0; omega), h.h0, h.lt, Nat.le_trans h.hB hg.size, hl⟩
theorem nl_take (cs : List UInt8) : fst (cs.take (min cs.length 1026)) 10 = if nlAt cs < cs.length ∧ nlAt cs < 1026 then (nlAt cs : Int) else -1 := by
  rw [fst_ch, ← nl_ch]
  have hl : (cs.take (min cs.length 1026)).length = min cs.length 1026 := by rw [List.length_take]; omega
  rw [hl]
  have hsplit : cs = cs.take (min cs.length 1026) ++ cs.drop (min cs.length 1026) := (List.take_append_drop _ _).symm
  by_cases h : nlAt (cs.take (min cs.length 1026)) < min cs.length 1026
  · have h1 := nlAt_app (cs.drop (min cs.length 1026)) (l := cs.take (min cs.length 1026)) (by rw [hl]; exact h)
    rw [← hsplit] at h1
    rw [if_pos h, if_pos (by rw [h1]; omega), h1]
  · have h0 := nlAt_le (cs.take (min cs.length 1026))
    have h1 := nlAt_ge (cs.drop (min cs.length 1026)) (l := cs.take (min cs.length 1026)) (by omega)
    rw [← hsplit, hl] at h1
    rw [if_neg h, if_neg (by omega)]
/-- what a part of the reader answers -/
def LineA (w0 w : World) (ar B : Nat) (p : Option Addr) (c : Nat) (inp : List UInt8) (a : Nat) (pw : Option Addr) (cw : Nat) (r : RS) (x : LineR) (v : Value) (w' : World) : Prop :=
  FrS (fun q => q = ar) w w' ∧ match x with
  | .more => v = .tuple #[.string ⟨#[]⟩, .bool false] ∧ RdSt w0 w' ar B p c inp a pw cw r 0
  | .err e => v = .tuple #[.string ⟨#[]⟩, .bool false] ∧ RdSt w0 w' ar B p c inp a pw cw r e
  | .ok s k => v = .tuple #[.string (mkStr s), .bool true] ∧ RdSt w0 w' ar B p c inp (a + k) pw cw r 0
set_option maxHeartbeats 2000000 in
theorem line_spec {w0 : World} {ar B : Nat} {p : Option Addr} {c : Nat} {inp : List UInt8} {a : Nat} {pw : Option Addr} {cw : Nat} {r : RS} {w : World} (hR : RdSt w0 w ar B p c inp a pw cw r 0) (hN : inp.length ≤ 1000000000) :
    Ctr Tryz.prog 52 [.pointer (some (adr (bx ar) 0))] w (LineA w0 w ar B p c inp a pw cw r (lineP (inp.drop a))) := by
  have hC := hR.row.sl
  have hok := hC.ok
  have hle := hok.le
  have hla := hR.la
  have hbk := hR.blk
  obtain ⟨cs, hcs⟩ : ∃ cs, inp.drop a = cs := ⟨_, rfl⟩
  have hcl : cs.length = inp.length - a := by rw [← hcs, List.length_drop]
  have hD : Sl w.heap eByte (subp p c a 1) (c - a) cs := by rw [← hcs]; exact hC.drop (by omega)
  obtain ⟨m, hm⟩ : ∃ m, m = min cs.length 1026 := ⟨_, rfl⟩
  have hib := fun w' (hx : Ext w w') => bytesIB_spec (w := w') (i := 10) ((hD.take m).ext hx)
  have hml : (cs.take m).length = m := by rw [List.length_take]; omega
  have hfi : fst (cs.take m) (10 : Int).toNat.toUInt8 = if nlAt cs < cs.length ∧ nlAt cs < 1026 then (nlAt cs : Int) else -1 := by rw [hm]; exact nl_take cs
  rw [hml, hfi] at hib
  rw [hcs]
  have hlp : lineP cs = if nlAt cs < cs.length ∧ nlAt cs < 1026 then (if nlAt cs = 0 ∨ cs.getD (nlAt cs - 1) 0 ≠ 13 then .err 10 else .ok (cs.take (nlAt cs - 1)) (nlAt cs + 1)) else if cs.length < 1026 then .more else .err 12 := rfl
  obtain ⟨q, hq⟩ : ∃ q, nlAt cs = q := ⟨_, rfl⟩
  rw [hq] at hlp hib
  have hfr : ∀ w1 w2, Ext w w1 → w1.grownBy w2 (some ar) → FrS (fun q => q = ar) w w2 := fun w1 w2 hx hg => (FrS.of_ext hx).trans (FrS.of_grown hg (fun k hk => by injection hk with hk; exact hk.symm)) (fun _ _ h => h)
  have hokD : Okp (subp p c a 1) (inp.length - a) (c - a) := hcl ▸ hD.ok
  refine Ctr_of Tryz.func52 Tryz.ntmps52 rfl rfl rfl ?_
  by_cases hf : q < cs.length ∧ q < 1026
  · rw [if_pos hf] at hlp
    simp only [if_pos hf] at hib
    by_cases hq0 : q = 0
    · rw [if_pos (.inl hq0)] at hlp
      repeat' (first | (apply W_cond_dec; exact rfl; all_goals (intro h; try (exfalso; omega))) | (apply G_on; exact rfl; first | ((first | apply G1_assign | apply G1_move | apply G1_nilCheck); exact rfl; exact rfl) | (apply G1_sliceLoJ (q := a); exact T.s22; exact rfl; exact rfl; exact rfl; exact hok; omega; exact rfl) | (apply G1_sliceHiJ (q := m); exact T.s22; exact rfl; exact rfl; omega; omega; exact rfl) | (apply G1_call (f := 84); exact rfl; exact rfl; exact rfl; exact hib _ (by repeat first | assumption | exact Ext.rfl' | apply Ext.drew | apply Ext.alloc | refine Ext.trans ?_ (by assumption)); rintro _ w2 ⟨rfl, hx2⟩; refine ⟨(by first | exact .inl rfl | exact .inr (by assumption)), ?_⟩; (first | replace hbk := hbk.ext hx2 | replace hbk := hbk.ext ((Ext.drew Ext.rfl').trans hx2))) | (apply G1_fieldAddr; (first | exact T.f109_0 | exact T.f109_1 | exact T.f109_6); exact rfl; exact rfl) | (apply G1_loadB; (first | exact T.p22 | exact T.p3); exact rfl; assumption; exact rfl; exact rfl) | (apply G1_len; exact T.s22; exact rfl; exact rfl) | ((first | apply G1_min | apply G1_lss | apply G1_eql); exact rfl; exact rfl; exact rfl) | (apply G1_pick_t; exact rfl; exact rfl; exact rfl) | (apply G1_pick_f; exact rfl; exact rfl; exact rfl)) | apply G_nil | apply Post_next | apply W_seq | apply W_region | (apply W_cond_true; exact rfl) | (apply W_cond_false; exact rfl) | (apply G_off; exact rfl; exact rfl) | ((fail_if_success (apply G_on; exact rfl)); apply G_split_dec; exact rfl; exact rfl; all_goals (intro h; try (exfalso; omega))) | refine W_drawn 1 [] [0,1,2,3,4,5,6,7,8,9] mixed (by decide +kernel) ?_ | apply W_block)
      all_goals try (exfalso; omega)
      apply G_on; exact rfl; apply G1_storeB; exact T.z44; exact rfl; exact rfl; exact hbk; exact rfl; exact rfl; (first | exact Nat.le_of_ble_eq_true rfl | (focus (simp [Value.cells]; done))); (first | exact Enc.one _ _ | (focus (simp [Value.oneCell']; done)) | (focus (simp [Value.cells, Value.oneCell']; done)) | exact Enc.oneAgg _ _); exact rfl; (first | exact .inl rfl | exact .inr (by simp [exempt])); exact rfl; intro w3 hA3 hg3 hs3
      replace hA3 : Blk w3.heap ar 109 [.slice p inp.length c, .int .i64 (a : Int), .int .i64 (r.left : Int), .int .i64 r.size, .slice pw r.words.length cw, .int .i64 (r.held : Int), .int .i64 10] := hA3
      have h3 := (hR.xt (show Ext w w2 from (by repeat first | assumption | exact Ext.rfl' | apply Ext.drew | apply Ext.alloc | refine Ext.trans ?_ (by assumption)))).set hg3 hA3 rfl hla
      repeat' (first | (apply G_on; exact rfl; (apply G1_assign; exact rfl; exact rfl)) | apply G_nil | apply Post_next | apply W_seq | apply W_region | apply W_ret | apply Post_then_ret | apply Post_block_ret)
      refine Post_ret Tryz.results52 ⟨_, _, rfl, rfl, _, _, rfl, rfl, rfl⟩ ?_
      unfold LineA
      rw [hlp]
      exact ⟨hfr w2 w3 (by repeat first | assumption | exact Ext.rfl' | apply Ext.drew | apply Ext.alloc | refine Ext.trans ?_ (by assumption)) hg3, rfl, h3⟩
    · obtain ⟨y, hy⟩ := get_some (xs := cs) (k := q - 1) (by omega)
      have hcy : cs.getD (q - 1) 0 = y := by rw [List.getD_eq_getElem?_getD, hy]; rfl
      rw [hcy] at hlp
      by_cases h13 : y = 13
      · rw [if_neg (fun h => h.elim hq0 (fun h => h h13))] at hlp
        have hyi : (y.toNat : Int) = 13 := by rw [h13]; rfl
        repeat' (first | (apply W_cond_dec; exact rfl; all_goals (intro h; try (exfalso; omega))) | (apply G_on; exact rfl; first | ((first | apply G1_assign | apply G1_move | apply G1_nilCheck); exact rfl; exact rfl) | (apply G1_sliceLoJ (q := a); exact T.s22; exact rfl; exact rfl; exact rfl; exact hok; omega; exact rfl) | (apply G1_sliceHiJ (q := m); exact T.s22; exact rfl; exact rfl; omega; omega; exact rfl) | (apply G1_call (f := 84); exact rfl; exact rfl; exact rfl; exact hib _ (by repeat first | assumption | exact Ext.rfl' | apply Ext.drew | apply Ext.alloc | refine Ext.trans ?_ (by assumption)); rintro _ w2 ⟨rfl, hx2⟩; refine ⟨(by first | exact .inl rfl | exact .inr (by assumption)), ?_⟩; (first | replace hbk := hbk.ext hx2 | replace hbk := hbk.ext ((Ext.drew Ext.rfl').trans hx2))) | (apply G1_indexAddrJ (q := q - 1); exact T.s22; exact rfl; exact rfl; omega; exact hokD; omega; exact rfl) | (apply G1_loadEl1 (q := q - 1) (e := eByte); exact T.p5; exact rfl; exact hD.ext (by repeat first | assumption | exact Ext.rfl' | apply Ext.drew | apply Ext.alloc | refine Ext.trans ?_ (by assumption)); exact hy; exact rfl; exact rfl; exact rfl) | (apply G1_fieldAddr; (first | exact T.f109_0 | exact T.f109_1); exact rfl; exact rfl) | (apply G1_loadB; (first | exact T.p22 | exact T.p3); exact rfl; assumption; exact rfl; exact rfl) | (apply G1_len; exact T.s22; exact rfl; exact rfl) | ((first | apply G1_min | apply G1_lss | apply G1_eql | apply G1_neq); exact rfl; exact rfl; exact rfl) | (apply G1_pick_f; exact rfl; exact rfl; exact rfl) | (apply G1_sub; exact rfl; exact rfl; omega; omega; exact rfl) | (apply G1_add; exact rfl; exact rfl; omega; omega; exact rfl)) | apply G_nil | apply Post_next | apply W_seq | apply W_region | (apply W_cond_false; exact rfl) | (apply G_off; exact rfl; exact rfl) | ((fail_if_success (apply G_on; exact rfl)); apply G_split_dec; exact rfl; exact rfl; all_goals (intro h; try (exfalso; omega))) | refine W_drawn 1 [] [0,1,2,3,4,5,6,7,8,9] mixed (by decide +kernel) ?_ | apply W_skip | apply W_block | apply Post_block_normal)
        all_goals try (exfalso; omega)
        apply G_on; exact rfl; apply G1_storeB; exact T.z3; exact rfl; exact rfl; exact hbk; exact rfl; exact rfl; (first | exact Nat.le_of_ble_eq_true rfl | (focus (simp [Value.cells]; done))); (first | exact Enc.one _ _ | (focus (simp [Value.oneCell']; done)) | (focus (simp [Value.cells, Value.oneCell']; done)) | exact Enc.oneAgg _ _); exact rfl; (first | exact .inl rfl | exact .inr (by simp [exempt])); exact rfl; intro w3 hA3 hg3 hs3
        replace hA3 : Blk w3.heap ar 109 [.slice p inp.length c, .int .i64 ((a : Int) + ((q : Int) + 1)), .int .i64 (r.left : Int), .int .i64 r.size, .slice pw r.words.length cw, .int .i64 (r.held : Int), .int .i64 0] := hA3
        rw [show (a : Int) + ((q : Int) + 1) = ((a + (q + 1) : Nat) : Int) by omega] at hA3
        have hx02 : Ext w w2 := (by repeat first | assumption | exact Ext.rfl' | apply Ext.drew | apply Ext.alloc | refine Ext.trans ?_ (by assumption))
        have h3 := (hR.xt hx02).set hg3 hA3 rfl (by omega)
        have hS3 : Sl w3.heap eByte (subp p c a 1) (c - a) (cs.take (q - 1)) := by
          have h1 := (h3.row.sl.drop (l := a) (by omega)).take (q - 1)
          rw [hcs] at h1
          exact h1
        repeat' (first | (apply G_on; exact rfl; first | ((first | apply G1_assign | apply G1_move); exact rfl; exact rfl) | (apply G1_sliceHiJ (q := q - 1); exact T.s22; exact rfl; exact rfl; omega; omega; exact rfl) | (apply G1_toStringL (bs := cs.take (q - 1)); exact T.s22; exact T.i5; exact T.str9; exact rfl; (rw [List.length_take]; omega); exact hS3; exact rfl) | (apply G1_sub; exact rfl; exact rfl; omega; omega; exact rfl)) | apply G_nil | apply Post_next | apply W_seq | apply W_region | apply W_ret)
        refine Post_ret Tryz.results52 ⟨_, _, rfl, rfl, _, _, rfl, rfl, rfl⟩ ?_
        unfold LineA
        rw [hlp]
        exact ⟨hfr w2 w3 hx02 hg3, rfl, h3⟩
      · rw [if_pos (.inr h13)] at hlp
        have hyi : ¬ (y.toNat : Int) = 13 := u8_ne (c := 13) h13
        repeat' (first | (apply W_cond_dec; exact rfl; all_goals (intro h; try (exfalso; omega))) | (apply G_on; exact rfl; first | ((first | apply G1_assign | apply G1_move | apply G1_nilCheck); exact rfl; exact rfl) | (apply G1_sliceLoJ (q := a); exact T.s22; exact rfl; exact rfl; exact rfl; exact hok; omega; exact rfl) | (apply G1_sliceHiJ (q := m); exact T.s22; exact rfl; exact rfl; omega; omega; exact rfl) | (apply G1_call (f := 84); exact rfl; exact rfl; exact rfl; exact hib _ (by repeat first | assumption | exact Ext.rfl' | apply Ext.drew | apply Ext.alloc | refine Ext.trans ?_ (by assumption)); rintro _ w2 ⟨rfl, hx2⟩; refine ⟨(by first | exact .inl rfl | exact .inr (by assumption)), ?_⟩; (first | replace hbk := hbk.ext hx2 | replace hbk := hbk.ext ((Ext.drew Ext.rfl').trans hx2))) | (apply G1_indexAddrJ (q := q - 1); exact T.s22; exact rfl; exact rfl; omega; exact hokD; omega; exact rfl) | (apply G1_loadEl1 (q := q - 1) (e := eByte); exact T.p5; exact rfl; exact hD.ext (by repeat first | assumption | exact Ext.rfl' | apply Ext.drew | apply Ext.alloc | refine Ext.trans ?_ (by assumption)); exact hy; exact rfl; exact rfl; exact rfl) | (apply G1_fieldAddr; (first | exact T.f109_0 | exact T.f109_1 | exact T.f109_6); exact rfl; exact rfl) | (apply G1_loadB; (first | exact T.p22 | exact T.p3); exact rfl; assumption; exact rfl; exact rfl) | (apply G1_len; exact T.s22; exact rfl; exact rfl) | ((first | apply G1_min | apply G1_lss | apply G1_eql | apply G1_neq); exact rfl; exact rfl; exact rfl) | (apply G1_pick_f; exact rfl; exact rfl; exact rfl) | (apply G1_sub; exact rfl; exact rfl; omega; omega; exact rfl)) | apply G_nil | apply Post_next | apply W_seq | apply W_region | (apply W_cond_false; exact rfl) | (apply G_off; exact rfl; exact rfl) | ((fail_if_success (apply G_on; exact rfl)); apply G_split_dec; exact rfl; exact rfl; all_goals (intro h; try (exfalso; omega))) | refine W_drawn 1 [] [0,1,2,3,4,5,6,7,8,9] mixed (by decide +kernel) ?_ | apply W_block)
        all_goals try (exfalso; omega)
        apply G_on; exact rfl; apply G1_storeB; exact T.z44; exact rfl; exact rfl; exact hbk; exact rfl; exact rfl; (first | exact Nat.le_of_ble_eq_true rfl | (focus (simp [Value.cells]; done))); (first | exact Enc.one _ _ | (focus (simp [Value.oneCell']; done)) | (focus (simp [Value.cells, Value.oneCell']; done)) | exact Enc.oneAgg _ _); exact rfl; (first | exact .inl rfl | exact .inr (by simp [exempt])); exact rfl; intro w3 hA3 hg3 hs3
        replace hA3 : Blk w3.heap ar 109 [.slice p inp.length c, .int .i64 (a : Int), .int .i64 (r.left : Int), .int .i64 r.size, .slice pw r.words.length cw, .int .i64 (r.held : Int), .int .i64 10] := hA3
        have h3 := (hR.xt (show Ext w w2 from (by repeat first | assumption | exact Ext.rfl' | apply Ext.drew | apply Ext.alloc | refine Ext.trans ?_ (by assumption)))).set hg3 hA3 rfl hla
        repeat' (first | (apply G_on; exact rfl; (apply G1_assign; exact rfl; exact rfl)) | apply G_nil | apply Post_next | apply W_seq | apply W_region | apply W_ret | apply Post_then_ret | apply Post_block_ret)
        refine Post_ret Tryz.results52 ⟨_, _, rfl, rfl, _, _, rfl, rfl, rfl⟩ ?_
        unfold LineA
        rw [hlp]
        exact ⟨hfr w2 w3 (by repeat first | assumption | exact Ext.rfl' | apply Ext.drew | apply Ext.alloc | refine Ext.trans ?_ (by assumption)) hg3, rfl, h3⟩
  · rw [if_neg hf] at hlp
    simp only [if_neg hf] at hib
    by_cases h26 : cs.length < 1026
    · rw [if_pos h26] at hlp
      repeat' (first | (apply W_cond_dec; exact rfl; all_goals (intro h; try (exfalso; omega))) | (apply G_on; exact rfl; first | ((first | apply G1_assign | apply G1_move | apply G1_nilCheck); exact rfl; exact rfl) | (apply G1_sliceLoJ (q := a); exact T.s22; exact rfl; exact rfl; exact rfl; exact hok; omega; exact rfl) | (apply G1_sliceHiJ (q := m); exact T.s22; exact rfl; exact rfl; omega; omega; exact rfl) | (apply G1_call (f := 84); exact rfl; exact rfl; exact rfl; exact hib _ (by repeat first | assumption | exact Ext.rfl' | apply Ext.drew | apply Ext.alloc | refine Ext.trans ?_ (by assumption)); rintro _ w2 ⟨rfl, hx2⟩; refine ⟨(by first | exact .inl rfl | exact .inr (by assumption)), ?_⟩; (first | replace hbk := hbk.ext hx2 | replace hbk := hbk.ext ((Ext.drew Ext.rfl').trans hx2))) | (apply G1_fieldAddr; (first | exact T.f109_0 | exact T.f109_1); exact rfl; exact rfl) | (apply G1_loadB; (first | exact T.p22 | exact T.p3); exact rfl; assumption; exact rfl; exact rfl) | (apply G1_len; exact T.s22; exact rfl; exact rfl) | ((first | apply G1_min | apply G1_lss); exact rfl; exact rfl; exact rfl) | (apply G1_pick_t; exact rfl; exact rfl; exact rfl)) | apply G_nil | apply Post_next | apply W_seq | apply W_region | refine W_drawn 1 [] [0,1,2,3,4,5,6,7,8,9] mixed (by decide +kernel) ?_ | apply W_ret | apply W_block | apply Post_then_ret | apply Post_block_ret)
      all_goals try (exfalso; omega)
      refine Post_ret Tryz.results52 ⟨_, _, rfl, rfl, _, _, rfl, rfl, rfl⟩ ?_
      unfold LineA
      rw [hlp]
      have hx02 : Ext w w2 := (by repeat first | assumption | exact Ext.rfl' | apply Ext.drew | apply Ext.alloc | refine Ext.trans ?_ (by assumption))
      exact ⟨FrS.of_ext hx02, rfl, hR.xt hx02⟩
    · rw [if_neg h26] at hlp
      repeat' (first | (apply W_cond_dec; exact rfl; all_goals (intro h; try (exfalso; omega))) | (apply G_on; exact rfl; first | ((first | apply G1_assign | apply G1_move | apply G1_nilCheck); exact rfl; exact rfl) | (apply G1_sliceLoJ (q := a); exact T.s22; exact rfl; exact rfl; exact rfl; exact hok; omega; exact rfl) | (apply G1_sliceHiJ (q := m); exact T.s22; exact rfl; exact rfl; omega; omega; exact rfl) | (apply G1_call (f := 84); exact rfl; exact rfl; exact rfl; exact hib _ (by repeat first | assumption | exact Ext.rfl' | apply Ext.drew | apply Ext.alloc | refine Ext.trans ?_ (by assumption)); rintro _ w2 ⟨rfl, hx2⟩; refine ⟨(by first | exact .inl rfl | exact .inr (by assumption)), ?_⟩; (first | replace hbk := hbk.ext hx2 | replace hbk := hbk.ext ((Ext.drew Ext.rfl').trans hx2))) | (apply G1_fieldAddr; (first | exact T.f109_0 | exact T.f109_1 | exact T.f109_6); exact rfl; exact rfl) | (apply G1_loadB; (first | exact T.p22 | exact T.p3); exact rfl; assumption; exact rfl; exact rfl) | (apply G1_len; exact T.s22; exact rfl; exact rfl) | ((first | apply G1_min | apply G1_lss); exact rfl; exact rfl; exact rfl) | (apply G1_pick_t; exact rfl; exact rfl; exact rfl)) | apply G_nil | apply Post_next | apply W_seq | apply W_region | refine W_drawn 1 [] [0,1,2,3,4,5,6,7,8,9] mixed (by decide +kernel) ?_ | apply W_block)
      all_goals try (exfalso; omega)
      apply G_on; exact rfl; apply G1_storeB; exact T.z44; exact rfl; exact rfl; exact hbk; exact rfl; exact rfl; (first | exact Nat.le_of_ble_eq_true rfl | (focus (simp [Value.cells]; done))); (first | exact Enc.one _ _ | (focus (simp [Value.oneCell']; done)) | (focus (simp [Value.cells, Value.oneCell']; done)) | exact Enc.oneAgg _ _); exact rfl; (first | exact .inl rfl | exact .inr (by simp [exempt])); exact rfl; intro w3 hA3 hg3 hs3
      replace hA3 : Blk w3.heap ar 109 [.slice p inp.length c, .int .i64 (a : Int), .int .i64 (r.left : Int), .int .i64 r.size, .slice pw r.words.length cw, .int .i64 (r.held : Int), .int .i64 12] := hA3
      have h3 := (hR.xt (show Ext w w2 from (by repeat first | assumption | exact Ext.rfl' | apply Ext.drew | apply Ext.alloc | refine Ext.trans ?_ (by assumption)))).set hg3 hA3 rfl hla
      repeat' (first | (apply G_on; exact rfl; (apply G1_assign; exact rfl; exact rfl)) | apply G_nil | apply Post_next | apply W_seq | apply W_region | apply W_ret | apply Post_then_ret | apply Post_block_ret)
      refine Post_ret Tryz.results52 ⟨_, _, rfl, rfl, _, _, rfl, rfl, rfl⟩ ?_
      unfold LineA
      rw [hlp]
      exact ⟨hfr w2 w3 (by repeat first | assumption | exact Ext.rfl' | apply Ext.drew | apply Ext.alloc | refine Ext.trans ?_ (by assumption)) hg3, rfl, h3⟩
end Go.Proofs.YtipbakiecocioaaGreatDoor

/- Requests: the reader's number and word; the walks. -/

namespace Go.Proofs.YtipbakiecocioaaGreatDoor
open Go.V
attribute [local irreducible] Blk Own hcell IntT SliceT PlainT AggT SizeT StrT FieldT ZeroT EqT ArrT
/-- how a reader's part leaves it: only its own cells are turned -/
def NumA (w0 w : World) (ar B : Nat) (p : Option Addr) (c : Nat) (inp : List UInt8) (a : Nat) (pw : Option Addr) (cw : Nat) (r : RS) (x : Except Int Int) (v : Value) (w' : World) : Prop :=
  FrS (fun q => q = ar) w w' ∧ match x with
  | .error e => v = .tuple #[.int .i64 0, .bool false] ∧ RdSt w0 w' ar B p c inp a pw cw r e
  | .ok n => v = .tuple #[.int .i64 n, .bool true] ∧ RdSt w0 w' ar B p c inp a pw cw r 0
theorem fr_ar {w w1 w2 : World} {ar : Nat} (h : FrS (fun q => q = ar) w w1) (hg : w1.grownBy w2 (some ar)) : FrS (fun q => q = ar) w w2 :=
  h.trans (FrS.of_grown hg (fun k hk => by injection hk with hk; exact hk.symm)) (fun _ _ h => h)

theorem number_spec {w0 : World} {ar B : Nat} {p : Option Addr} {c : Nat} {inp : List UInt8} {a : Nat} {pw : Option Addr} {cw : Nat} {r : RS} {w : World} {s : List UInt8} {m : UInt8} {mi lo hi : Int} (hR : RdSt w0 w ar B p c inp a pw cw r 0) (hm : mi = (m.toNat : Int)) (hs : s.length ≤ 1000000000) (hT : Pow w0) (hE : Errs w0) :
    Ctr Tryz.prog 54 [.pointer (some (adr (bx ar) 0)), .string (mkStr s), .int .u8 mi, .int .i64 lo, .int .i64 hi] w (NumA w0 w ar B p c inp a pw cw r (numP s m lo hi)) := by
  subst hm
  have hsz := mkStr_size s
  have hbk := hR.blk
  have hla := hR.la
  replace hT : Pow w := TabIs.ext hT hR.ext
  replace hE := hE.ext hR.ext
  refine Ctr_of Tryz.func54 Tryz.ntmps54 rfl rfl rfl ?_
  cases s with
  | nil =>
    have hv : numP [] m lo hi = .error 10 := rfl
    have hee : mkStr [] = ⟨#[]⟩ := rfl
    repeat' (first | (apply G_on; exact rfl; first | ((first | apply G1_assign | apply G1_move | apply G1_nilCheck); exact rfl; exact rfl) | (apply G1_seql; exact rfl; exact rfl; exact rfl) | (apply G1_pick_t; exact rfl; exact rfl; exact rfl) | (apply G1_fieldAddr; exact T.f109_6; exact rfl; exact rfl)) | apply G_nil | apply Post_next | apply W_seq | apply W_region | (apply W_cond_true; exact rfl) | (apply G_off; exact rfl; exact rfl))
    all_goals try (exfalso; exact absurd hee (by assumption))
    apply G_on; exact rfl; apply G1_storeB; exact T.z44; exact rfl; exact rfl; exact hbk; exact rfl; exact rfl; (first | exact Nat.le_of_ble_eq_true rfl | (focus (simp [Value.cells]; done))); (first | exact Enc.one _ _ | (focus (simp [Value.oneCell']; done)) | (focus (simp [Value.cells, Value.oneCell']; done)) | exact Enc.oneAgg _ _); exact rfl; (first | exact .inl rfl | exact .inr (by simp [exempt])); exact rfl; intro w3 hA3 hg3 hs3
    replace hA3 : Blk w3.heap ar 109 [.slice p inp.length c, .int .i64 (a : Int), .int .i64 (r.left : Int), .int .i64 r.size, .slice pw r.words.length cw, .int .i64 (r.held : Int), .int .i64 10] := hA3
    have h3 := (hR.xt (show Ext w w from (by repeat first | assumption | exact Ext.rfl' | apply Ext.drew | apply Ext.alloc | refine Ext.trans ?_ (by assumption)))).set hg3 hA3 rfl hla
    repeat' (first | (apply G_on; exact rfl; (apply G1_assign; exact rfl; exact rfl)) | apply G_nil | apply Post_next | apply W_seq | apply W_region | apply W_ret | apply Post_then_ret)
    refine Post_ret Tryz.results54 ⟨_, _, rfl, rfl, _, _, rfl, rfl, rfl⟩ ?_
    unfold NumA
    rw [hv]
    exact ⟨fr_ar (FrS.of_ext (by repeat first | assumption | exact Ext.rfl' | apply Ext.drew | apply Ext.alloc | refine Ext.trans ?_ (by assumption))) hg3, rfl, h3⟩
  | cons ch t =>
    have hb0 : ((bget (mkStr (ch :: t)) 0).toNat : Int) = (ch.toNat : Int) := by rw [mkStr_bget]
    simp only [List.length_cons] at hsz
    have hne : ¬ mkStr (ch :: t) = ⟨#[]⟩ := fun e => by
      have := congrArg ByteArray.size e
      rw [hsz] at this
      cases this
    by_cases hc : ch = m
    · have hci : (ch.toNat : Int) = (m.toNat : Int) := by rw [hc]
      by_cases hn : ∃ n, IsNum (mkStr t) n
      · obtain ⟨n, hn⟩ := hn
        have hfn := hn.1
        unfold fit64 at hfn
        have hv0 : numP (ch :: t) m lo hi = if n < lo then .error 10 else if hi < n then .error 12 else .ok n := by
          unfold numP
          simp only
          rw [if_pos hc, numOf_some hn]
        by_cases h1 : n < lo
        · have hv := hv0.trans (if_pos h1)
          repeat' (first | (apply G_on; exact rfl; first | ((first | apply G1_assign | apply G1_move | apply G1_nilCheck); exact rfl; exact rfl) | (apply G1_sindexJ (q := 0) (s := mkStr (ch :: t)); exact T.str9; exact rfl; exact rfl; exact rfl; omega; exact rfl) | (apply G1_ssliceLoE (r := mkStr t); exact T.str9; exact rfl; exact rfl; omega; omega; exact mkStr_tail ch t; exact rfl) | (apply G1_call (f := 44); exact rfl; exact rfl; exact rfl; exact nparse_yes hn (TabIs.ext hT (by repeat first | assumption | exact Ext.rfl' | apply Ext.drew | apply Ext.alloc | refine Ext.trans ?_ (by assumption))); rintro _ w2 ⟨rfl, hx2⟩; refine ⟨(by first | exact .inl rfl | exact .inr (by assumption)), ?_⟩; (first | replace hbk := hbk.ext hx2 | replace hbk := hbk.ext ((Ext.drew Ext.rfl').trans hx2))) | ((first | apply G1_seql | apply G1_neq | apply G1_extract | apply G1_lss); exact rfl; exact rfl; exact rfl) | (apply G1_pick_f; exact rfl; exact rfl; exact rfl) | (apply G1_fieldAddr; exact T.f109_6; exact rfl; exact rfl) | (apply G1_not_t; exact rfl; exact rfl)) | apply G_nil | apply Post_next | apply W_seq | apply W_region | (apply W_cond_dec; exact rfl; all_goals (intro h; try (exfalso; omega))) | apply W_skip)
          all_goals try (exfalso; first | omega | exact hne (by assumption))
          apply G_on; exact rfl; apply G1_storeB; exact T.z44; exact rfl; exact rfl; exact hbk; exact rfl; exact rfl; (first | exact Nat.le_of_ble_eq_true rfl | (focus (simp [Value.cells]; done))); (first | exact Enc.one _ _ | (focus (simp [Value.oneCell']; done)) | (focus (simp [Value.cells, Value.oneCell']; done)) | exact Enc.oneAgg _ _); exact rfl; (first | exact .inl rfl | exact .inr (by simp [exempt])); exact rfl; intro w3 hA3 hg3 hs3
          replace hA3 : Blk w3.heap ar 109 [.slice p inp.length c, .int .i64 (a : Int), .int .i64 (r.left : Int), .int .i64 r.size, .slice pw r.words.length cw, .int .i64 (r.held : Int), .int .i64 10] := hA3
          have h3 := (hR.xt (show Ext w w2 from (by repeat first | assumption | exact Ext.rfl' | apply Ext.drew | apply Ext.alloc | refine Ext.trans ?_ (by assumption)))).set hg3 hA3 rfl hla
          repeat' (first | (apply G_on; exact rfl; (apply G1_assign; exact rfl; exact rfl)) | apply G_nil | apply Post_next | apply W_seq | apply W_region | apply W_ret | apply Post_then_ret)
          refine Post_ret Tryz.results54 ⟨_, _, rfl, rfl, _, _, rfl, rfl, rfl⟩ ?_
          unfold NumA
          rw [hv]
          exact ⟨fr_ar (FrS.of_ext (by repeat first | assumption | exact Ext.rfl' | apply Ext.drew | apply Ext.alloc | refine Ext.trans ?_ (by assumption))) hg3, rfl, h3⟩
        · by_cases h2 : hi < n
          · have hv := hv0.trans ((if_neg h1).trans (if_pos h2))
            repeat' (first | (apply G_on; exact rfl; first | ((first | apply G1_assign | apply G1_move | apply G1_nilCheck); exact rfl; exact rfl) | (apply G1_sindexJ (q := 0) (s := mkStr (ch :: t)); exact T.str9; exact rfl; exact rfl; exact rfl; omega; exact rfl) | (apply G1_ssliceLoE (r := mkStr t); exact T.str9; exact rfl; exact rfl; omega; omega; exact mkStr_tail ch t; exact rfl) | (apply G1_call (f := 44); exact rfl; exact rfl; exact rfl; exact nparse_yes hn (TabIs.ext hT (by repeat first | assumption | exact Ext.rfl' | apply Ext.drew | apply Ext.alloc | refine Ext.trans ?_ (by assumption))); rintro _ w2 ⟨rfl, hx2⟩; refine ⟨(by first | exact .inl rfl | exact .inr (by assumption)), ?_⟩; (first | replace hbk := hbk.ext hx2 | replace hbk := hbk.ext ((Ext.drew Ext.rfl').trans hx2))) | ((first | apply G1_seql | apply G1_neq | apply G1_extract | apply G1_lss | apply G1_gtr); exact rfl; exact rfl; exact rfl) | (apply G1_pick_f; exact rfl; exact rfl; exact rfl) | (apply G1_fieldAddr; exact T.f109_6; exact rfl; exact rfl) | (apply G1_not_t; exact rfl; exact rfl)) | apply G_nil | apply Post_next | apply W_seq | apply W_region | (apply W_cond_dec; exact rfl; all_goals (intro h; try (exfalso; omega))) | apply W_skip)
            all_goals try (exfalso; first | omega | exact hne (by assumption))
            apply G_on; exact rfl; apply G1_storeB; exact T.z44; exact rfl; exact rfl; exact hbk; exact rfl; exact rfl; (first | exact Nat.le_of_ble_eq_true rfl | (focus (simp [Value.cells]; done))); (first | exact Enc.one _ _ | (focus (simp [Value.oneCell']; done)) | (focus (simp [Value.cells, Value.oneCell']; done)) | exact Enc.oneAgg _ _); exact rfl; (first | exact .inl rfl | exact .inr (by simp [exempt])); exact rfl; intro w3 hA3 hg3 hs3
            replace hA3 : Blk w3.heap ar 109 [.slice p inp.length c, .int .i64 (a : Int), .int .i64 (r.left : Int), .int .i64 r.size, .slice pw r.words.length cw, .int .i64 (r.held : Int), .int .i64 12] := hA3
            have h3 := (hR.xt (show Ext w w2 from (by repeat first | assumption | exact Ext.rfl' | apply Ext.drew | apply Ext.alloc | refine Ext.trans ?_ (by assumption)))).set hg3 hA3 rfl hla
            repeat' (first | (apply G_on; exact rfl; (apply G1_assign; exact rfl; exact rfl)) | apply G_nil | apply Post_next | apply W_seq | apply W_region | apply W_ret | apply Post_then_ret)
            refine Post_ret Tryz.results54 ⟨_, _, rfl, rfl, _, _, rfl, rfl, rfl⟩ ?_
            unfold NumA
            rw [hv]
            exact ⟨fr_ar (FrS.of_ext (by repeat first | assumption | exact Ext.rfl' | apply Ext.drew | apply Ext.alloc | refine Ext.trans ?_ (by assumption))) hg3, rfl, h3⟩
          · have hv := hv0.trans ((if_neg h1).trans (if_neg h2))
            repeat' (first | (apply G_on; exact rfl; first | ((first | apply G1_assign | apply G1_move); exact rfl; exact rfl) | (apply G1_sindexJ (q := 0) (s := mkStr (ch :: t)); exact T.str9; exact rfl; exact rfl; exact rfl; omega; exact rfl) | (apply G1_ssliceLoE (r := mkStr t); exact T.str9; exact rfl; exact rfl; omega; omega; exact mkStr_tail ch t; exact rfl) | (apply G1_call (f := 44); exact rfl; exact rfl; exact rfl; exact nparse_yes hn (TabIs.ext hT (by repeat first | assumption | exact Ext.rfl' | apply Ext.drew | apply Ext.alloc | refine Ext.trans ?_ (by assumption))); rintro _ w2 ⟨rfl, hx2⟩; refine ⟨(by first | exact .inl rfl | exact .inr (by assumption)), ?_⟩; (first | replace hbk := hbk.ext hx2 | replace hbk := hbk.ext ((Ext.drew Ext.rfl').trans hx2))) | ((first | apply G1_seql | apply G1_neq | apply G1_extract | apply G1_lss | apply G1_gtr); exact rfl; exact rfl; exact rfl) | (apply G1_pick_f; exact rfl; exact rfl; exact rfl) | (apply G1_not_t; exact rfl; exact rfl)) | apply G_nil | apply Post_next | apply W_seq | apply W_region | (apply W_cond_dec; exact rfl; all_goals (intro h; try (exfalso; omega))) | apply W_skip | apply W_ret)
            all_goals try (exfalso; first | omega | exact hne (by assumption))
            refine Post_ret Tryz.results54 ⟨_, _, rfl, rfl, _, _, rfl, rfl, rfl⟩ ?_
            unfold NumA
            rw [hv]
            have hx02 : Ext w w2 := (by repeat first | assumption | exact Ext.rfl' | apply Ext.drew | apply Ext.alloc | refine Ext.trans ?_ (by assumption))
            exact ⟨FrS.of_ext hx02, rfl, hR.xt hx02⟩
      · have hv : numP (ch :: t) m lo hi = .error 10 := by
          unfold numP
          simp only
          rw [if_pos hc, numOf_none (fun n h => hn ⟨n, h⟩)]
        repeat' (first | (apply G_on; exact rfl; first | ((first | apply G1_assign | apply G1_move | apply G1_nilCheck); exact rfl; exact rfl) | (apply G1_sindexJ (q := 0) (s := mkStr (ch :: t)); exact T.str9; exact rfl; exact rfl; exact rfl; omega; exact rfl) | (apply G1_ssliceLoE (r := mkStr t); exact T.str9; exact rfl; exact rfl; omega; omega; exact mkStr_tail ch t; exact rfl) | (apply G1_call (f := 44); exact rfl; exact rfl; exact rfl; exact nparse_nb (fun n h => hn ⟨n, h⟩) (TabIs.ext hT (by repeat first | assumption | exact Ext.rfl' | apply Ext.drew | apply Ext.alloc | refine Ext.trans ?_ (by assumption))) (hE.ext (by repeat first | assumption | exact Ext.rfl' | apply Ext.drew | apply Ext.alloc | refine Ext.trans ?_ (by assumption))); rintro _ w2 ⟨rfl, hx2⟩; refine ⟨(by first | exact .inl rfl | exact .inr (by assumption)), ?_⟩; (first | replace hbk := hbk.ext hx2 | replace hbk := hbk.ext ((Ext.drew Ext.rfl').trans hx2))) | ((first | apply G1_seql | apply G1_neq | apply G1_extract); exact rfl; exact rfl; exact rfl) | (apply G1_pick_t; exact rfl; exact rfl; exact rfl) | (apply G1_pick_f; exact rfl; exact rfl; exact rfl) | (apply G1_fieldAddr; exact T.f109_6; exact rfl; exact rfl) | (apply G1_not_f; exact rfl; exact rfl)) | apply G_nil | apply Post_next | apply W_seq | apply W_region | (apply W_cond_true; exact rfl) | (apply W_cond_dec; exact rfl; all_goals (intro h; try (exfalso; omega))) | (apply G_off; exact rfl; exact rfl) | apply W_skip)
        all_goals try (exfalso; first | omega | exact hne (by assumption))
        apply G_on; exact rfl; apply G1_storeB; exact T.z44; exact rfl; exact rfl; exact hbk; exact rfl; exact rfl; (first | exact Nat.le_of_ble_eq_true rfl | (focus (simp [Value.cells]; done))); (first | exact Enc.one _ _ | (focus (simp [Value.oneCell']; done)) | (focus (simp [Value.cells, Value.oneCell']; done)) | exact Enc.oneAgg _ _); exact rfl; (first | exact .inl rfl | exact .inr (by simp [exempt])); exact rfl; intro w3 hA3 hg3 hs3
        replace hA3 : Blk w3.heap ar 109 [.slice p inp.length c, .int .i64 (a : Int), .int .i64 (r.left : Int), .int .i64 r.size, .slice pw r.words.length cw, .int .i64 (r.held : Int), .int .i64 10] := hA3
        have h3 := (hR.xt (show Ext w w2 from (by repeat first | assumption | exact Ext.rfl' | apply Ext.drew | apply Ext.alloc | refine Ext.trans ?_ (by assumption)))).set hg3 hA3 rfl hla
        repeat' (first | (apply G_on; exact rfl; (apply G1_assign; exact rfl; exact rfl)) | apply G_nil | apply Post_next | apply W_seq | apply W_region | apply W_ret | apply Post_then_ret)
        refine Post_ret Tryz.results54 ⟨_, _, rfl, rfl, _, _, rfl, rfl, rfl⟩ ?_
        unfold NumA
        rw [hv]
        exact ⟨fr_ar (FrS.of_ext (by repeat first | assumption | exact Ext.rfl' | apply Ext.drew | apply Ext.alloc | refine Ext.trans ?_ (by assumption))) hg3, rfl, h3⟩
    · have hci : ¬ (ch.toNat : Int) = (m.toNat : Int) := u8_ne hc
      have hv : numP (ch :: t) m lo hi = .error 10 := by
        unfold numP
        simp only
        rw [if_neg hc]
      repeat' (first | (apply G_on; exact rfl; first | ((first | apply G1_assign | apply G1_move | apply G1_nilCheck); exact rfl; exact rfl) | (apply G1_sindexJ (q := 0) (s := mkStr (ch :: t)); exact T.str9; exact rfl; exact rfl; exact rfl; omega; exact rfl) | ((first | apply G1_seql | apply G1_neq); exact rfl; exact rfl; exact rfl) | (apply G1_pick_f; exact rfl; exact rfl; exact rfl) | (apply G1_fieldAddr; exact T.f109_6; exact rfl; exact rfl)) | apply G_nil | apply Post_next | apply W_seq | apply W_region | (apply W_cond_dec; exact rfl; all_goals (intro h; try (exfalso; omega))))
      all_goals try (exfalso; first | omega | exact hne (by assumption))
      all_goals
        apply G_on; exact rfl; apply G1_storeB; exact T.z44; exact rfl; exact rfl; exact hbk; exact rfl; exact rfl; (first | exact Nat.le_of_ble_eq_true rfl | (focus (simp [Value.cells]; done))); (first | exact Enc.one _ _ | (focus (simp [Value.oneCell']; done)) | (focus (simp [Value.cells, Value.oneCell']; done)) | exact Enc.oneAgg _ _); exact rfl; (first | exact .inl rfl | exact .inr (by simp [exempt])); exact rfl; intro w3 hA3 hg3 hs3
        replace hA3 : Blk w3.heap ar 109 [.slice p inp.length c, .int .i64 (a : Int), .int .i64 (r.left : Int), .int .i64 r.size, .slice pw r.words.length cw, .int .i64 (r.held : Int), .int .i64 10] := hA3
        have h3 := (hR.xt (show Ext w w from (by repeat first | assumption | exact Ext.rfl' | apply Ext.drew | apply Ext.alloc | refine Ext.trans ?_ (by assumption)))).set hg3 hA3 rfl hla
        repeat' (first | (apply G_on; exact rfl; (apply G1_assign; exact rfl; exact rfl)) | apply G_nil | apply Post_next | apply W_seq | apply W_region | apply W_ret | apply Post_then_ret)
        refine Post_ret Tryz.results54 ⟨_, _, rfl, rfl, _, _, rfl, rfl, rfl⟩ ?_
        unfold NumA
        rw [hv]
        exact ⟨fr_ar (FrS.of_ext (by repeat first | assumption | exact Ext.rfl' | apply Ext.drew | apply Ext.alloc | refine Ext.trans ?_ (by assumption))) hg3, rfl, h3⟩
/-- a word's bytes, and what is to be done with them -/
inductive WordR where
  | more (r : RS) (k : Nat)
  | err (e : Int)
  | ok (s : List UInt8) (h k : Nat)
noncomputable def sizedP (r : RS) (cs : List UInt8) (k : Nat) : WordR :=
  if cs.length < r.size.toNat + 2 then .more r k
  else if (cs.drop r.size.toNat).take 2 = [13, 10] then .ok (cs.take r.size.toNat) (r.held + (r.size.toNat + 2)) (k + (r.size.toNat + 2)) else .err 10
noncomputable def wordP (r : RS) (cs : List UInt8) : WordR :=
  if r.size < 0 then
    match lineP cs with
    | .more => .more r 0
    | .err e => .err e
    | .ok s k => match numP s 36 0 4096 with
      | .error e => .err e
      | .ok n => sizedP { r with size := n, held := r.held + k } (cs.drop k) k
  else sizedP r cs 0
theorem sized_run {r : RS} {cs : List UInt8} (hl : 0 < r.left) (hs : 0 ≤ r.size) (k : Nat) : match sizedP r cs k with
    | .more r' k' => r' = r ∧ k' = k ∧ runP r cs = ⟨[], r, cs, 0⟩
    | .err e => (runP r cs).out = [] ∧ (runP r cs).err = e
    | .ok s h k' => ∃ j, k' = k + j ∧ j ≤ cs.length ∧ 0 < j ∧ runP r cs = if r.left = 1 then { runP rs0 (cs.drop j) with out := (r.words ++ [mkStr s]) :: (runP rs0 (cs.drop j)).out } else runP ⟨r.left - 1, -1, r.words ++ [mkStr s], h⟩ (cs.drop j) := by
  have hst : stepP r cs = if cs.length < r.size.toNat + 2 then .stop else if (cs.drop r.size.toNat).take 2 = [13, 10] then (if r.left = 1 then .go rs0 (r.size.toNat + 2) [r.words ++ [mkStr (cs.take r.size.toNat)]] else .go ⟨r.left - 1, -1, r.words ++ [mkStr (cs.take r.size.toNat)], r.held + (r.size.toNat + 2)⟩ (r.size.toNat + 2) []) else .fault 10 := by
    unfold stepP
    rw [if_neg (by omega), if_neg (by omega)]
  unfold sizedP
  by_cases h1 : cs.length < r.size.toNat + 2
  · rw [if_pos h1] at hst ⊢
    exact ⟨rfl, rfl, run_stop hst⟩
  · rw [if_neg h1] at hst ⊢
    by_cases h2 : (cs.drop r.size.toNat).take 2 = [13, 10]
    · rw [if_pos h2] at hst ⊢
      refine ⟨r.size.toNat + 2, rfl, by omega, by omega, ?_⟩
      by_cases h3 : r.left = 1
      · rw [if_pos h3] at hst ⊢
        rw [run_go hst]
        rfl
      · rw [if_neg h3] at hst ⊢
        rw [run_go hst]
        simp
    · rw [if_neg h2] at hst ⊢
      rw [run_fault hst]
      exact ⟨rfl, rfl⟩
theorem word_run {r : RS} {cs : List UInt8} (hl : 0 < r.left) : match wordP r cs with
    | .more r' k => k ≤ cs.length ∧ r'.left = r.left ∧ r'.words = r.words ∧ runP r cs = ⟨[], r', cs.drop k, 0⟩
    | .err e => (runP r cs).out = [] ∧ (runP r cs).err = e
    | .ok s h k => k ≤ cs.length ∧ 0 < k ∧ runP r cs = if r.left = 1 then { runP rs0 (cs.drop k) with out := (r.words ++ [mkStr s]) :: (runP rs0 (cs.drop k)).out } else runP ⟨r.left - 1, -1, r.words ++ [mkStr s], h⟩ (cs.drop k) := by
  unfold wordP
  by_cases hs : r.size < 0
  · rw [if_pos hs]
    have hst : stepP r cs = match lineP cs with
      | .more => .stop
      | .err e => .fault e
      | .ok s k => match numP s 36 0 4096 with
        | .error e => .fault e
        | .ok n => .go { r with size := n, held := r.held + k } k [] := by
      unfold stepP
      rw [if_neg (by omega), if_pos hs]
      rfl
    cases hln : lineP cs with
    | more =>
      rw [hln] at hst
      exact ⟨Nat.zero_le _, rfl, rfl, by rw [run_stop hst, List.drop_zero]⟩
    | err e =>
      rw [hln] at hst
      rw [run_fault hst]
      exact ⟨rfl, rfl⟩
    | ok s k =>
      rw [hln] at hst
      have hk := line_len hln
      simp only at hst ⊢
      cases hn : numP s 36 0 4096 with
      | error e =>
        rw [hn] at hst
        rw [run_fault hst]
        exact ⟨rfl, rfl⟩
      | ok n =>
        rw [hn] at hst
        have hnb := num_ok hn
        simp only at hst ⊢
        have key := sized_run (r := { r with size := n, held := r.held + k }) (cs := cs.drop k) hl hnb.1 k
        rw [run_go hst]
        simp only [List.nil_append]
        cases hz : sizedP { r with size := n, held := r.held + k } (cs.drop k) k with
        | more r' k' =>
          rw [hz] at key
          obtain ⟨rfl, rfl, h3⟩ := key
          exact ⟨hk.2, rfl, rfl, by rw [h3]⟩
        | err e =>
          rw [hz] at key
          exact key
        | ok s' h k' =>
          rw [hz] at key
          obtain ⟨j, rfl, h3, h4, h5⟩ := key
          rw [List.length_drop] at h3
          rw [List.drop_drop] at h5
          exact ⟨by omega, by omega, h5⟩
  · rw [if_neg hs]
    have key := sized_run (r := r) (cs := cs) hl (by omega) 0
    cases hz : sizedP r cs 0 with
    | more r' k' =>
      rw [hz] at key
      obtain ⟨rfl, rfl, h3⟩ := key
      exact ⟨Nat.zero_le _, rfl, rfl, by rw [h3, List.drop_zero]⟩
    | err e =>
      rw [hz] at key
      exact key
    | ok s' h k' =>
      rw [hz] at key
      obtain ⟨j, rfl, h3, h4, h5⟩ := key
      rw [Nat.zero_add]
      exact ⟨h3, h4, h5⟩
end Go.Proofs.YtipbakiecocioaaGreatDoor
