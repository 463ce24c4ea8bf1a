/- resp.Read's closure: the walk. -/
import Derived.Test.YtikjnmpijflnaaaDoorVRepHid
import Derived.Test.YtikjnmpijflnaaaDoorVRepRdW
import Derived.Test.YtikjnmpijflnaaaDoorVRepList
import Derived.Test.YtikjnmpijflnaaaDoorVRepWrite
import Derived.Test.YtikjnmpijflnaaaDoorVBytesIndex
import Derived.Test.YtikjnmpijflnaaaDoorVNumParse
namespace Go.V
section
variable {P : Program} {n : Nat} {ops : Array Oper} {dr : Nat × List Nat} {l : List Oper} {E : Env} {w : World} {K : Env → World → Prop}
variable {d : Option Nat} {ty : TypeId} {pos : String} {af : Array Edge} {g : Option (Nat × Bool)} {x y : Operand} {i : Int} {s : ByteArray} {t : TypeId} {k : IntKind}
theorem G1_ssliceLoE {r : ByteArray} (hu : StrT P t) (hx : E.look x = some (.string s)) (hy : E.look y = some (.int k i)) (h0 : 0 ≤ i) (h1 : i ≤ s.size) (hr : s.extract i.toNat s.size = r) (hd : dstOk n d = true)
    (h : G P n ops dr l (E.put d (.string r)) w K) : G1 P n ops dr ⟨d, .slice t x (some y) none none, ty, pos, af, g⟩ l E w K := by
  subst hr
  exact G1_ssliceLo hu hx hy h0 h1 hd h
end
theorem u8_ne {m c : UInt8} (h : ¬ m = c) : ¬ (m.toNat : Int) = (c.toNat : Int) := fun e => h (UInt8.toNat_inj.1 (by omega))
theorem mkStr_bget (m : UInt8) (s : List UInt8) : bget (mkStr (m :: s)) 0 = m := by
  rw [bget_list]
  have : (mkStr (m :: s)).data.toList = m :: s := by unfold mkStr; simp
  rw [this]; rfl
theorem mkStr_tail (m : UInt8) (s : List UInt8) : (mkStr (m :: s)).extract 1 (mkStr (m :: s)).size = mkStr s := by
  apply ByteArray.ext
  apply Array.toList_inj.1
  rw [ByteArray.data_extract, Array.toList_extract]
  unfold mkStr
  simp [ByteArray.size]
end Go.V
namespace Go.Proofs.YtikjnmpijflnaaaDoor
open Go.V
attribute [local irreducible] Blk Own hcell IntT SliceT PlainT AggT SizeT StrT FieldT ZeroT EqT ArrT
theorem plF : PlainT Tryd.prog 92 := PlainT.of Tryd.underlying92 rfl
/-- what resp.Read's closure finds in memory -/
structure TakeSt (w0 w : World) (ab aa aT : Nat) (tT : TypeId) (p : Option Addr) (c : Nat) (bs : List UInt8) (k : Nat) : Prop where
  ext : Ext w0 w
  inp : Blk w.heap ab 28 [.slice p bs.length c]
  pos : Blk w.heap aa 3 [.int .i64 (k : Int)]
  take : Blk w.heap aT tT [.func (.func 57) #[] #[.pointer (some (adr (bx ab) 0)), .pointer (some (adr (bx aa) 0)), .pointer (some (adr (bx aT) 0))]]
  sl : Sl w0.heap eByte p c bs
  h0 : w0.heap.size ≤ aa
  h1 : ab ≠ aa
  h2 : aT ≠ aa
theorem TakeSt.xt {w0 w w' : World} {ab aa aT : Nat} {tT : TypeId} {p : Option Addr} {c : Nat} {bs : List UInt8} {k : Nat} (h : TakeSt w0 w ab aa aT tT p c bs k) (hx : Ext w w') : TakeSt w0 w' ab aa aT tT p c bs k :=
  ⟨h.ext.trans hx, h.inp.ext hx, h.pos.ext hx, h.take.ext hx, h.sl, h.h0, h.h1, h.h2⟩
theorem TakeSt.set {w0 w w' : World} {ab aa aT : Nat} {tT : TypeId} {p : Option Addr} {c : Nat} {bs : List UInt8} {k k' : Nat} (h : TakeSt w0 w ab aa aT tT p c bs k) (hb : Blk w'.heap aa 3 [.int .i64 (k' : Int)]) (hg : w.grownBy w' (some aa)) : TakeSt w0 w' ab aa aT tT p c bs k' :=
  ⟨h.ext.own hg (fun k hk => by injection hk with hk; have := h.h0; omega), h.inp.grown hg (fun e => by injection e with e; exact h.h1 e.symm), hb, h.take.grown hg (fun e => by injection e with e; exact h.h2 e.symm), h.sl, h.h0, h.h1, h.h2⟩
theorem exempt1 {a k : Nat} (h : k ≠ a) : exempt [a] k = false := by
  simp [exempt, h]
theorem exempt1_a {a : Nat} : exempt [a] a = true := by simp [exempt]
/-- the same, and what the call has turned so far -/
structure TkS (w0 w w' : World) (ab aa aT : Nat) (tT : TypeId) (p : Option Addr) (c : Nat) (bs : List UInt8) (k : Nat) : Prop where
  st : TakeSt w0 w' ab aa aT tT p c bs k
  x : ExtS [aa] w w'
  l1 : ab < w.heap.size
  l2 : aa < w.heap.size
  l3 : aT < w.heap.size
  l0 : w0.heap.size ≤ w.heap.size
section
variable {w0 w w1 w2 : World} {ab aa aT : Nat} {tT : TypeId} {p : Option Addr} {c : Nat} {bs : List UInt8} {k k' : Nat}
theorem TkS.init (h : TakeSt w0 w ab aa aT tT p c bs k) : TkS w0 w w ab aa aT tT p c bs k := ⟨h, ExtS.rfl', h.inp.lt, h.pos.lt, h.take.lt, h.ext.size⟩
theorem TkS.xt (h : TkS w0 w w1 ab aa aT tT p c bs k) (hx : Ext w1 w2) : TkS w0 w w2 ab aa aT tT p c bs k := ⟨h.st.xt hx, h.x.trans hx.toS, h.l1, h.l2, h.l3, h.l0⟩
theorem TkS.set (h : TkS w0 w w1 ab aa aT tT p c bs k) (hb : Blk w2.heap aa 3 [.int .i64 (k' : Int)]) (hg : w1.grownBy w2 (some aa)) : TkS w0 w w2 ab aa aT tT p c bs k' :=
  ⟨h.st.set hb hg, h.x.trans (ExtS.of_grown hg (fun k hk => by injection hk with hk; rw [← hk]; exact exempt1_a)), h.l1, h.l2, h.l3, h.l0⟩
theorem TkS.own {row : Option Nat} (h : TkS w0 w w1 ab aa aT tT p c bs k) (hg : w1.grownBy w2 row) (hb : ∀ q, row = some q → w.heap.size ≤ q) : TkS w0 w w2 ab aa aT tT p c bs k :=
  ⟨⟨h.st.ext.own hg (fun q hq => by have := hb q hq; have := h.l0; omega), h.st.inp.grown hg (fun e => by have := hb _ e; have := h.l1; omega), h.st.pos.grown hg (fun e => by have := hb _ e; have := h.l2; omega), h.st.take.grown hg (fun e => by have := hb _ e; have := h.l3; omega), h.st.sl, h.st.h0, h.st.h1, h.st.h2⟩, h.x.own hg hb, h.l1, h.l2, h.l3, h.l0⟩
/-- behind a call of the closure -/
theorem TkS.call (h : TkS w0 w w1 ab aa aT tT p c bs k) (hs : TakeSt w0 w2 ab aa aT tT p c bs k') (hx : ExtS [aa] w1 w2) : TkS w0 w w2 ab aa aT tT p c bs k' := ⟨hs, h.x.trans hx, h.l1, h.l2, h.l3, h.l0⟩
end
def zRep : RawR := leafR 0 ⟨#[]⟩ 0
theorem bldZ (w : World) : (Instr.build 24 ([] : List (Nat × Value)).toArray).run Tryd.prog w = .ok (.agg (eRep.enc zRep).toArray) w := by kernel_rfl
theorem leaf_at {H : Array Obj} {d : Nat} {kd : Int} {s : ByteArray} {n : Int} (hs : s.size ≤ maxLen) (hn : -9223372036854775808 ≤ n ∧ n ≤ 9223372036854775807) : RepAt H (d + 1) (leafR kd s n) (.mk kd s n []) :=
  ⟨rfl, rfl, rfl, rfl, hs, hn, [], Sl.nil, rfl, fun i r' t' h => by simp at h⟩
theorem nil_size : (⟨#[]⟩ : ByteArray).size ≤ maxLen := Nat.zero_le _
theorem fit0 : (-9223372036854775808 : Int) ≤ 0 ∧ (0 : Int) ≤ 9223372036854775807 := by decide
/-- what the closure answers -/
def TakeR (w0 w : World) (d ab aa aT : Nat) (tT : TypeId) (p : Option Addr) (c : Nat) (bs : List UInt8) (k : Nat) (v : Value) (w' : World) : Prop :=
  (∃ t j r, rdT d (bs.drop k) = some (t, j) ∧ v = .tuple #[.agg (eRep.enc r).toArray, .bool true] ∧ RepAt (veil (fun q => q < w.heap.size) w'.heap) (d + 1) r t ∧ TakeSt w0 w' ab aa aT tT p c bs (k + j) ∧ ExtS [aa] w w') ∨
  (rdT d (bs.drop k) = none ∧ ∃ r k', v = .tuple #[.agg (eRep.enc r).toArray, .bool false] ∧ TakeSt w0 w' ab aa aT tT p c bs k' ∧ ExtS [aa] w w')







set_option maxHeartbeats 8000000 in
theorem take_spec {w0 : World} (hU : Utf w0) (hT : Pow w0) (hE : Errs w0) : ∀ (d : Nat) {w : World} {k ab aa aT : Nat} {tT : TypeId} {p : Option Addr} {c : Nat} {bs : List UInt8}, k ≤ bs.length → bs.length ≤ 1000000000 → TakeSt w0 w ab aa aT tT p c bs k → d ≤ 4 →
    Ctr Tryd.prog 57 [.int .i64 (4 - (d : Int)), .pointer (some (adr (bx ab) 0)), .pointer (some (adr (bx aa) 0)), .pointer (some (adr (bx aT) 0))] w (TakeR w0 w d ab aa aT tT p c bs k) := by
  intro d
  induction d with
  | zero =>
    intro w k ab aa aT tT p c bs hk hbs h hd4
    have hU1 := hU.ext h.ext
    have hT1 : Pow w := TabIs.ext hT h.ext
    have hE1 := hE.ext h.ext
    have hC := h.sl.ext h.ext
    have hok := hC.ok
    have hle := hok.le
    have n1 := hC.bound
    have t0 := TkS.init h
    have l0 := t0.l0
    have l1 := t0.l1
    have l2 := t0.l2
    have l3 := t0.l3
    obtain ⟨cs, hcs⟩ : ∃ cs, bs.drop k = cs := ⟨_, rfl⟩
    have hcl : cs.length = bs.length - k := by rw [← hcs, List.length_drop]
    have hcap : bs.length ≤ maxLen := Nat.le_trans hle hok.cap
    have hD : Sl w.heap eByte (subp p c k 1) (c - k) cs := by rw [← hcs]; exact hC.drop (by omega)
    refine Ctr_of Tryd.func57 Tryd.ntmps57 rfl rfl rfl ?_
    repeat' (first | apply W_seq | apply W_region)
    apply G_on; exact rfl; apply G1_alloc; exact T.zero24; exact rfl; exact rfl; intro a5 w1 ha5 hA5 hx1 hs1
    replace hA5 : Blk w1.heap a5 24 (eRep.enc zRep) := hA5
    have t1 := t0.xt hx1
    have hinp := t1.st.inp
    have hpos := t1.st.pos
    have hix : ∀ w', Ext w w' → Ctr Tryd.prog 59 [.slice (subp p c k 1) (bs.length - k) (c - k), .string brs] w' (fun v w'' => v = .int .i64 (brI cs) ∧ Ext w' w'') := fun w' hx => by
      have := bytesIndex_spec (hD.ext hx) (hU1.ext hx)
      rw [hcl] at this
      exact this
    have hcut : ∀ w', Ext w w' → Ctr Tryd.prog 58 [.slice (subp p c k 1) (bs.length - k) (c - k), .int .i64 (brI cs)] w' (fun v w'' => v = (if (cs.drop (brAt cs)).take 2 = [13, 10] then .tuple #[.string (mkStr (cs.take (brAt cs))), .bool true] else .tuple #[.string ⟨#[]⟩, .bool false]) ∧ Ext w' w'') := fun w' hx => by
      rw [← hcl]
      by_cases hb : brAt cs < cs.length
      · have e : brI cs = (brAt cs : Int) := if_pos hb
        rw [e]
        exact cut_spec (hD.ext hx) (by omega)
      · have e : brI cs = -1 := if_neg hb
        have e2 : cs.drop (brAt cs) = [] := List.drop_of_length_le (by omega)
        rw [e, e2, if_neg (by simp)]
        exact cut_no (hD.ext hx) (by omega)
    by_cases hln : (cs.drop (brAt cs)).take 2 = [13, 10]
    rotate_left
    · rw [if_neg hln] at hcut
      repeat' (first | (apply G_on; exact rfl; first | ((first | apply G1_assign | apply G1_move); exact rfl; exact rfl) | (apply G1_sliceLoJ (q := k); exact T.s28; exact rfl; exact rfl; exact rfl; exact hok; omega; exact rfl) | (apply G1_call (f := 59); exact rfl; exact rfl; exact rfl; exact hix _ (by repeat first | assumption | exact Ext.rfl' | apply Ext.drew | apply Ext.alloc | refine Ext.trans ?_ (by assumption)); rintro _ w2 ⟨rfl, hx2⟩; refine ⟨(by first | exact .inl rfl | exact .inr (by assumption)), ?_⟩; (first | replace hinp := hinp.ext hx2 | replace hinp := hinp.ext ((Ext.drew Ext.rfl').trans hx2)); (first | replace hpos := hpos.ext hx2 | replace hpos := hpos.ext ((Ext.drew Ext.rfl').trans hx2)); (first | replace hA5 := hA5.ext hx2 | replace hA5 := hA5.ext ((Ext.drew Ext.rfl').trans hx2))) | (apply G1_call (f := 58); exact rfl; exact rfl; exact rfl; exact hcut _ (by repeat first | assumption | exact Ext.rfl' | apply Ext.drew | apply Ext.alloc | refine Ext.trans ?_ (by assumption)); rintro _ w3 ⟨rfl, hx3⟩; refine ⟨(by first | exact .inl rfl | exact .inr (by assumption)), ?_⟩; (first | replace hinp := hinp.ext hx3 | replace hinp := hinp.ext ((Ext.drew Ext.rfl').trans hx3)); (first | replace hpos := hpos.ext hx3 | replace hpos := hpos.ext ((Ext.drew Ext.rfl').trans hx3)); (first | replace hA5 := hA5.ext hx3 | replace hA5 := hA5.ext ((Ext.drew Ext.rfl').trans hx3))) | (apply G1_build (.agg (eRep.enc zRep).toArray); exact rfl; exact bldZ; exact rfl) | (apply G1_loadB; (first | exact T.p28 | exact T.p3); exact rfl; assumption; exact rfl; exact rfl) | (apply G1_extract; exact rfl; exact rfl; exact rfl) | (apply G1_not_f; exact rfl; exact rfl) | (apply G1_pick_t; exact rfl; exact rfl; exact rfl)) | apply G_nil | apply Post_next | apply W_seq | apply W_region | (apply W_cond_true; exact rfl) | (apply G_off; exact rfl; exact rfl) | refine W_drawn 1 [] [0,1,2,3,4,5,6,7,8,9,10,11,12] mixed (by decide +kernel) ?_)
      have t3 := t1.xt (show Ext w1 w3 from (by repeat first | assumption | exact Ext.rfl' | apply Ext.drew | apply Ext.alloc | refine Ext.trans ?_ (by assumption)))
      apply G_on; exact rfl; apply G1_storeB; exact T.z24; exact rfl; exact rfl; exact hA5; exact rfl; exact rfl; (first | exact Nat.le_of_ble_eq_true rfl | (focus (simp [Value.cells]; done))); (first | exact Enc.one _ _ | (focus (simp [Value.oneCell']; done)) | (focus (simp [Value.cells, Value.oneCell']; done)) | exact Enc.oneAgg _ _); exact rfl; (first | exact .inl rfl | exact .inr (by simp [exempt])); exact rfl; intro wf hAf hgf hsf
      replace hAf : Blk wf.heap a5 24 (eRep.enc zRep) := hAf
      have tf := t3.own hgf (fun q hq => by injection hq with hq; omega)
      repeat' (first | (apply G_on; exact rfl; (apply G1_assign; exact rfl; exact rfl)) | apply G_nil | apply Post_next | apply W_ret | apply Post_then_ret)
      refine Post_ret Tryd.results57 ⟨_, _, _, rfl, rfl, run_loadVar_box T.a24 (by assumption) rfl, _, _, rfl, rfl, rfl⟩ ?_
      refine .inr ⟨?_, zRep, _, rfl, tf.st, tf.x⟩
      rw [hcs]
      exact rdT_none (rdHead_no (.inr hln))
    simp only [if_pos hln] at hcut
    have hl2 := brAt_two hln
    by_cases hz : brAt cs = 0
    · simp only [hz, List.take_zero] at hcut
      have hee : mkStr [] = ⟨#[]⟩ := rfl
      rw [hee] at hcut
      repeat' (first | (apply G_on; exact rfl; first | ((first | apply G1_assign | apply G1_move); exact rfl; exact rfl) | (apply G1_sliceLoJ (q := k); exact T.s28; exact rfl; exact rfl; exact rfl; exact hok; omega; exact rfl) | (apply G1_call (f := 59); exact rfl; exact rfl; exact rfl; exact hix _ (by repeat first | assumption | exact Ext.rfl' | apply Ext.drew | apply Ext.alloc | refine Ext.trans ?_ (by assumption)); rintro _ w2 ⟨rfl, hx2⟩; refine ⟨(by first | exact .inl rfl | exact .inr (by assumption)), ?_⟩; (first | replace hinp := hinp.ext hx2 | replace hinp := hinp.ext ((Ext.drew Ext.rfl').trans hx2)); (first | replace hpos := hpos.ext hx2 | replace hpos := hpos.ext ((Ext.drew Ext.rfl').trans hx2)); (first | replace hA5 := hA5.ext hx2 | replace hA5 := hA5.ext ((Ext.drew Ext.rfl').trans hx2))) | (apply G1_call (f := 58); exact rfl; exact rfl; exact rfl; exact hcut _ (by repeat first | assumption | exact Ext.rfl' | apply Ext.drew | apply Ext.alloc | refine Ext.trans ?_ (by assumption)); rintro _ w3 ⟨rfl, hx3⟩; refine ⟨(by first | exact .inl rfl | exact .inr (by assumption)), ?_⟩; (first | replace hinp := hinp.ext hx3 | replace hinp := hinp.ext ((Ext.drew Ext.rfl').trans hx3)); (first | replace hpos := hpos.ext hx3 | replace hpos := hpos.ext ((Ext.drew Ext.rfl').trans hx3)); (first | replace hA5 := hA5.ext hx3 | replace hA5 := hA5.ext ((Ext.drew Ext.rfl').trans hx3))) | (apply G1_build (.agg (eRep.enc zRep).toArray); exact rfl; exact bldZ; exact rfl) | (apply G1_loadB; (first | exact T.p28 | exact T.p3); exact rfl; assumption; exact rfl; exact rfl) | (apply G1_extract; exact rfl; exact rfl; exact rfl) | (apply G1_not_t; exact rfl; exact rfl) | (apply G1_seql; exact rfl; exact rfl; exact rfl) | (apply G1_pick_f; exact rfl; exact rfl; exact rfl)) | apply G_nil | apply Post_next | apply W_seq | apply W_region | (apply W_cond_true; exact rfl) | refine W_drawn 1 [] [0,1,2,3,4,5,6,7,8,9,10,11,12] mixed (by decide +kernel) ?_)
      have t3 := t1.xt (show Ext w1 w3 from (by repeat first | assumption | exact Ext.rfl' | apply Ext.drew | apply Ext.alloc | refine Ext.trans ?_ (by assumption)))
      apply G_on; exact rfl; apply G1_storeB; exact T.z24; exact rfl; exact rfl; exact hA5; exact rfl; exact rfl; (first | exact Nat.le_of_ble_eq_true rfl | (focus (simp [Value.cells]; done))); (first | exact Enc.one _ _ | (focus (simp [Value.oneCell']; done)) | (focus (simp [Value.cells, Value.oneCell']; done)) | exact Enc.oneAgg _ _); exact rfl; (first | exact .inl rfl | exact .inr (by simp [exempt])); exact rfl; intro wf hAf hgf hsf
      replace hAf : Blk wf.heap a5 24 (eRep.enc zRep) := hAf
      have tf := t3.own hgf (fun q hq => by injection hq with hq; omega)
      repeat' (first | (apply G_on; exact rfl; (apply G1_assign; exact rfl; exact rfl)) | apply G_nil | apply Post_next | apply W_ret | apply Post_then_ret)
      refine Post_ret Tryd.results57 ⟨_, _, _, rfl, rfl, run_loadVar_box T.a24 (by assumption) rfl, _, _, rfl, rfl, rfl⟩ ?_
      refine .inr ⟨?_, zRep, _, rfl, tf.st, tf.x⟩
      rw [hcs]
      exact rdT_none (rdHead_no (.inl hz))
    obtain ⟨m, s, hms⟩ : ∃ m s, cs.take (brAt cs) = m :: s := by
      cases e : cs.take (brAt cs) with
      | nil => have := congrArg List.length e; rw [List.length_take, List.length_nil] at this; omega
      | cons m s => exact ⟨m, s, rfl⟩
    have hsl : s.length + 1 = brAt cs := by
      have := congrArg List.length hms
      rw [List.length_take, List.length_cons] at this
      omega
    have hrd := rdHead_line hms hln
    rw [hms] at hcut
    have hne : ¬ mkStr (m :: s) = ⟨#[]⟩ := fun e => by
      have := congrArg ByteArray.size e
      rw [mkStr_size] at this
      cases this
    have hms2 : (mkStr (m :: s)).size = s.length + 1 := by rw [mkStr_size]; rfl
    have hss : (mkStr s).size = s.length := mkStr_size s
    obtain ⟨k1, hk1⟩ : ∃ k1, k1 = k + (s.length + 3) := ⟨_, rfl⟩
    have hk1l : k1 ≤ bs.length := by omega
    have hdk1 : bs.drop k1 = cs.drop (brAt cs + 2) := by
      have e : k1 = k + (brAt cs + 2) := by omega
      rw [e, ← List.drop_drop, hcs]
    repeat' (first | (apply G_on; exact rfl; first | ((first | apply G1_assign | apply G1_move); exact rfl; exact rfl) | (apply G1_sliceLoJ (q := k); exact T.s28; exact rfl; exact rfl; exact rfl; exact hok; omega; exact rfl) | (apply G1_call (f := 59); exact rfl; exact rfl; exact rfl; exact hix _ (by repeat first | assumption | exact Ext.rfl' | apply Ext.drew | apply Ext.alloc | refine Ext.trans ?_ (by assumption)); rintro _ w2 ⟨rfl, hx2⟩; refine ⟨(by first | exact .inl rfl | exact .inr (by assumption)), ?_⟩; (first | replace hinp := hinp.ext hx2 | replace hinp := hinp.ext ((Ext.drew Ext.rfl').trans hx2)); (first | replace hpos := hpos.ext hx2 | replace hpos := hpos.ext ((Ext.drew Ext.rfl').trans hx2)); (first | replace hA5 := hA5.ext hx2 | replace hA5 := hA5.ext ((Ext.drew Ext.rfl').trans hx2))) | (apply G1_call (f := 58); exact rfl; exact rfl; exact rfl; exact hcut _ (by repeat first | assumption | exact Ext.rfl' | apply Ext.drew | apply Ext.alloc | refine Ext.trans ?_ (by assumption)); rintro _ w3 ⟨rfl, hx3⟩; refine ⟨(by first | exact .inl rfl | exact .inr (by assumption)), ?_⟩; (first | replace hinp := hinp.ext hx3 | replace hinp := hinp.ext ((Ext.drew Ext.rfl').trans hx3)); (first | replace hpos := hpos.ext hx3 | replace hpos := hpos.ext ((Ext.drew Ext.rfl').trans hx3)); (first | replace hA5 := hA5.ext hx3 | replace hA5 := hA5.ext ((Ext.drew Ext.rfl').trans hx3))) | (apply G1_loadB; (first | exact T.p28 | exact T.p3); exact rfl; assumption; exact rfl; exact rfl) | (apply G1_extract; exact rfl; exact rfl; exact rfl) | (apply G1_not_t; exact rfl; exact rfl) | (apply G1_seql; exact rfl; exact rfl; exact rfl) | (apply G1_pick_f; exact rfl; exact rfl; exact rfl) | (apply G1_slen; exact T.str9; exact rfl; exact rfl) | (apply G1_add; exact rfl; exact rfl; omega; omega; exact rfl)) | apply G_nil | apply Post_next | apply W_seq | apply W_region | (apply W_cond_false; exact rfl) | refine W_drawn 1 [] [0,1,2,3,4,5,6,7,8,9,10,11,12] mixed (by decide +kernel) ?_ | apply W_skip)
    all_goals try exact absurd (by assumption) hne
    have t3 := t1.xt (show Ext w1 w3 from (by repeat first | assumption | exact Ext.rfl' | apply Ext.drew | apply Ext.alloc | refine Ext.trans ?_ (by assumption)))
    apply G_on; exact rfl; apply G1_storeB; exact T.z3; exact rfl; exact rfl; exact hpos; exact rfl; exact rfl; (first | exact Nat.le_of_ble_eq_true rfl | (focus (simp [Value.cells]; done))); (first | exact Enc.one _ _ | (focus (simp [Value.oneCell']; done)) | (focus (simp [Value.cells, Value.oneCell']; done)) | exact Enc.oneAgg _ _); exact rfl; (first | exact .inl rfl | exact .inr (by simp [exempt])); exact rfl; intro w4 hP4 hg4 hs4
    replace hP4 : Blk w4.heap aa 3 [.int .i64 ((k : Int) + (((mkStr (m :: s)).size : Int) + 2))] := hP4
    have e4 : (k : Int) + (((mkStr (m :: s)).size : Int) + 2) = ((k1 : Nat) : Int) := by rw [hms2, hk1]; push_cast; omega
    rw [e4] at hP4
    have t4 := t3.set hP4 hg4
    have hA5 := hA5.grown hg4 (fun e => by injection e; omega)
    have hb0 : ((bget (mkStr (m :: s)) 0).toNat : Int) = (m.toNat : Int) := by rw [mkStr_bget]
    have hE4 := hE.ext t4.st.ext
    have hT4 : Pow w4 := TabIs.ext hT t4.st.ext
    have x4 := t4.st.ext
    have hinp := t4.st.inp
    have hpos := t4.st.pos
    clear hcut hix
    have hrd : rdHead cs = rdLine m s (bs.drop k1) (s.length + 3) := by rw [hrd, hdk1, ← hsl]
    have hL : (bs.drop k1).length = bs.length - k1 := by simp
    by_cases m0 : m = 43
    · have hmm : (m.toNat : Int) = 43 := by rw [m0]; rfl
      repeat' (first | (apply G_on; exact rfl; first | ((first | apply G1_assign | apply G1_move); exact rfl; exact rfl) | (apply G1_sindexJ (q := 0) (s := mkStr (m :: s)); exact T.str9; exact rfl; exact rfl; exact rfl; omega; exact rfl) | (apply G1_ssliceLoE (r := mkStr s); exact T.str9; exact rfl; exact rfl; omega; omega; exact mkStr_tail m s; exact rfl) | (apply G1_call (f := 19); exact rfl; exact rfl; exact rfl; exact mk_text; rintro _ w5 ⟨rfl, hx5⟩; refine ⟨(by first | exact .inl rfl | exact .inr (by assumption)), ?_⟩; (first | replace hA5 := hA5.ext hx5 | replace hA5 := hA5.ext ((Ext.drew Ext.rfl').trans hx5))) | (apply G1_eql; exact rfl; exact rfl; exact rfl)) | apply G_nil | apply Post_next | apply W_seq | apply W_region | (apply W_cond_dec; exact rfl; all_goals (intro h; try (exfalso; omega))) | refine W_drawn 1 [] [0,1,2,3,4,5] mixed (by decide +kernel) ?_ | apply W_block)
      have t5 := t4.xt (show Ext w4 w5 from (by repeat first | assumption | exact Ext.rfl' | apply Ext.drew | apply Ext.alloc | refine Ext.trans ?_ (by assumption)))
      apply G_on; exact rfl; apply G1_storeB; exact T.z24; exact rfl; exact rfl; exact hA5; exact rfl; exact rfl; (first | exact Nat.le_of_ble_eq_true rfl | (focus (simp [Value.cells]; done))); (first | exact Enc.one _ _ | (focus (simp [Value.oneCell']; done)) | (focus (simp [Value.cells, Value.oneCell']; done)) | exact Enc.oneAgg _ _); exact rfl; (first | exact .inl rfl | exact .inr (by simp [exempt])); exact rfl; intro wf hAf hgf hsf
      replace hAf : Blk wf.heap a5 24 (eRep.enc (leafR 0 (mkStr s) 0)) := hAf
      have tf := t5.own hgf (fun q hq => by injection hq with hq; omega)
      repeat' (first | (apply G_on; exact rfl; (apply G1_assign; exact rfl; exact rfl)) | apply G_nil | apply Post_next | apply W_ret | apply Post_then_ret | apply Post_block_ret)
      refine Post_ret Tryd.results57 ⟨_, _, _, rfl, rfl, run_loadVar_box T.a24 (by assumption) rfl, _, _, rfl, rfl, rfl⟩ ?_
      refine .inl ⟨.mk 0 (mkStr s) 0 [], s.length + 3, leafR 0 (mkStr s) 0, by rw [hcs]; exact rdT_leaf (hrd.trans (by unfold rdLine; rw [if_pos m0])), rfl, leaf_at (by omega) fit0, by rw [← hk1]; exact tf.st, tf.x⟩
    have hm0 : ¬ (m.toNat : Int) = 43 := u8_ne m0
    by_cases m1 : m = 45
    · have hmm : (m.toNat : Int) = 45 := by rw [m1]; rfl
      repeat' (first | (apply G_on; exact rfl; first | ((first | apply G1_assign | apply G1_move); exact rfl; exact rfl) | (apply G1_sindexJ (q := 0) (s := mkStr (m :: s)); exact T.str9; exact rfl; exact rfl; exact rfl; omega; exact rfl) | (apply G1_ssliceLoE (r := mkStr s); exact T.str9; exact rfl; exact rfl; omega; omega; exact mkStr_tail m s; exact rfl) | (apply G1_call (f := 20); exact rfl; exact rfl; exact rfl; exact mk_wrong; rintro _ w5 ⟨rfl, hx5⟩; refine ⟨(by first | exact .inl rfl | exact .inr (by assumption)), ?_⟩; (first | replace hA5 := hA5.ext hx5 | replace hA5 := hA5.ext ((Ext.drew Ext.rfl').trans hx5))) | (apply G1_eql; exact rfl; exact rfl; exact rfl)) | apply G_nil | apply Post_next | apply W_seq | apply W_region | (apply W_cond_dec; exact rfl; all_goals (intro h; try (exfalso; omega))) | refine W_drawn 1 [] [0,1,2,3,4,5] mixed (by decide +kernel) ?_ | apply W_block)
      have t5 := t4.xt (show Ext w4 w5 from (by repeat first | assumption | exact Ext.rfl' | apply Ext.drew | apply Ext.alloc | refine Ext.trans ?_ (by assumption)))
      apply G_on; exact rfl; apply G1_storeB; exact T.z24; exact rfl; exact rfl; exact hA5; exact rfl; exact rfl; (first | exact Nat.le_of_ble_eq_true rfl | (focus (simp [Value.cells]; done))); (first | exact Enc.one _ _ | (focus (simp [Value.oneCell']; done)) | (focus (simp [Value.cells, Value.oneCell']; done)) | exact Enc.oneAgg _ _); exact rfl; (first | exact .inl rfl | exact .inr (by simp [exempt])); exact rfl; intro wf hAf hgf hsf
      replace hAf : Blk wf.heap a5 24 (eRep.enc (leafR 1 (mkStr s) 0)) := hAf
      have tf := t5.own hgf (fun q hq => by injection hq with hq; omega)
      repeat' (first | (apply G_on; exact rfl; (apply G1_assign; exact rfl; exact rfl)) | apply G_nil | apply Post_next | apply W_ret | apply Post_then_ret | apply Post_block_ret)
      refine Post_ret Tryd.results57 ⟨_, _, _, rfl, rfl, run_loadVar_box T.a24 (by assumption) rfl, _, _, rfl, rfl, rfl⟩ ?_
      refine .inl ⟨.mk 1 (mkStr s) 0 [], s.length + 3, leafR 1 (mkStr s) 0, by rw [hcs]; exact rdT_leaf (hrd.trans (by unfold rdLine; rw [if_neg m0, if_pos m1])), rfl, leaf_at (by omega) fit0, by rw [← hk1]; exact tf.st, tf.x⟩
    have hm1 : ¬ (m.toNat : Int) = 45 := u8_ne m1
    by_cases hnn : ∃ n, IsNum (mkStr s) n
    rotate_left
    · have hnn' : ∀ n, ¬ IsNum (mkStr s) n := fun n hn => hnn ⟨n, hn⟩
      repeat' (first | (apply G_on; exact rfl; first | ((first | apply G1_assign | apply G1_move); exact rfl; exact rfl) | (apply G1_sindexJ (q := 0) (s := mkStr (m :: s)); exact T.str9; exact rfl; exact rfl; exact rfl; omega; exact rfl) | (apply G1_ssliceLoE (r := mkStr s); exact T.str9; exact rfl; exact rfl; omega; omega; exact mkStr_tail m s; exact rfl) | (apply G1_build (.agg (eRep.enc zRep).toArray); exact rfl; exact bldZ; exact rfl) | (apply G1_call (f := 60); exact rfl; exact rfl; exact rfl; exact nparse_nb hnn' (TabIs.ext hT4 (by repeat first | assumption | exact Ext.rfl' | apply Ext.drew | apply Ext.alloc | refine Ext.trans ?_ (by assumption))) (hE4.ext (by repeat first | assumption | exact Ext.rfl' | apply Ext.drew | apply Ext.alloc | refine Ext.trans ?_ (by assumption))); rintro _ w5 ⟨rfl, hx5⟩; refine ⟨(by first | exact .inl rfl | exact .inr (by assumption)), ?_⟩; (first | replace hA5 := hA5.ext hx5 | replace hA5 := hA5.ext ((Ext.drew Ext.rfl').trans hx5))) | (apply G1_extract; exact rfl; exact rfl; exact rfl) | (apply G1_not_f; exact rfl; exact rfl) | (apply G1_eql; exact rfl; exact rfl; exact rfl)) | apply G_nil | apply Post_next | apply W_seq | apply W_region | (apply W_cond_true; exact rfl) | (apply W_cond_dec; exact rfl; all_goals (intro h; try (exfalso; omega))) | refine W_drawn 1 [] [0,1,2,3,4,5] mixed (by decide +kernel) ?_ | apply W_skip | apply W_block | apply Post_block_normal)
      have t5 := t4.xt (show Ext w4 w5 from (by repeat first | assumption | exact Ext.rfl' | apply Ext.drew | apply Ext.alloc | refine Ext.trans ?_ (by assumption)))
      apply G_on; exact rfl; apply G1_storeB; exact T.z24; exact rfl; exact rfl; exact hA5; exact rfl; exact rfl; (first | exact Nat.le_of_ble_eq_true rfl | (focus (simp [Value.cells]; done))); (first | exact Enc.one _ _ | (focus (simp [Value.oneCell']; done)) | (focus (simp [Value.cells, Value.oneCell']; done)) | exact Enc.oneAgg _ _); exact rfl; (first | exact .inl rfl | exact .inr (by simp [exempt])); exact rfl; intro wf hAf hgf hsf
      replace hAf : Blk wf.heap a5 24 (eRep.enc zRep) := hAf
      have tf := t5.own hgf (fun q hq => by injection hq with hq; omega)
      repeat' (first | (apply G_on; exact rfl; (apply G1_assign; exact rfl; exact rfl)) | apply G_nil | apply Post_next | apply W_ret | apply Post_then_ret | apply Post_block_ret)
      refine Post_ret Tryd.results57 ⟨_, _, _, rfl, rfl, run_loadVar_box T.a24 (by assumption) rfl, _, _, rfl, rfl, rfl⟩ ?_
      refine .inr ⟨?_, zRep, _, rfl, tf.st, tf.x⟩
      rw [hcs]
      exact rdT_none (hrd.trans (by unfold rdLine; rw [if_neg m0, if_neg m1, numOf_none hnn']))
    obtain ⟨n, hIs⟩ := hnn
    have hfn := hIs.1
    unfold fit64 at hfn
    have hnum := numOf_some hIs
    by_cases m2 : m = 58
    · have hmm : (m.toNat : Int) = 58 := by rw [m2]; rfl
      repeat' (first | (apply G_on; exact rfl; first | ((first | apply G1_assign | apply G1_move); exact rfl; exact rfl) | (apply G1_sindexJ (q := 0) (s := mkStr (m :: s)); exact T.str9; exact rfl; exact rfl; exact rfl; omega; exact rfl) | (apply G1_ssliceLoE (r := mkStr s); exact T.str9; exact rfl; exact rfl; omega; omega; exact mkStr_tail m s; exact rfl) | (apply G1_call (f := 60); exact rfl; exact rfl; exact rfl; exact nparse_yes hIs (TabIs.ext hT4 (by repeat first | assumption | exact Ext.rfl' | apply Ext.drew | apply Ext.alloc | refine Ext.trans ?_ (by assumption))); rintro _ w5 ⟨rfl, hx5⟩; refine ⟨(by first | exact .inl rfl | exact .inr (by assumption)), ?_⟩; (first | replace hA5 := hA5.ext hx5 | replace hA5 := hA5.ext ((Ext.drew Ext.rfl').trans hx5))) | (apply G1_call (f := 21); exact rfl; exact rfl; exact rfl; exact mk_int; rintro _ w6 ⟨rfl, hx6⟩; refine ⟨(by first | exact .inl rfl | exact .inr (by assumption)), ?_⟩; (first | replace hA5 := hA5.ext hx6 | replace hA5 := hA5.ext ((Ext.drew Ext.rfl').trans hx6))) | (apply G1_extract; exact rfl; exact rfl; exact rfl) | (apply G1_not_t; exact rfl; exact rfl) | (apply G1_eql; exact rfl; exact rfl; exact rfl)) | apply G_nil | apply Post_next | apply W_seq | apply W_region | (apply W_cond_false; exact rfl) | (apply W_cond_dec; exact rfl; all_goals (intro h; try (exfalso; omega))) | refine W_drawn 1 [] [0,1,2,3,4,5] mixed (by decide +kernel) ?_ | apply W_skip | apply W_block | apply Post_block_normal)
      have t5 := t4.xt (show Ext w4 w6 from (by repeat first | assumption | exact Ext.rfl' | apply Ext.drew | apply Ext.alloc | refine Ext.trans ?_ (by assumption)))
      apply G_on; exact rfl; apply G1_storeB; exact T.z24; exact rfl; exact rfl; exact hA5; exact rfl; exact rfl; (first | exact Nat.le_of_ble_eq_true rfl | (focus (simp [Value.cells]; done))); (first | exact Enc.one _ _ | (focus (simp [Value.oneCell']; done)) | (focus (simp [Value.cells, Value.oneCell']; done)) | exact Enc.oneAgg _ _); exact rfl; (first | exact .inl rfl | exact .inr (by simp [exempt])); exact rfl; intro wf hAf hgf hsf
      replace hAf : Blk wf.heap a5 24 (eRep.enc (leafR 2 ⟨#[]⟩ n)) := hAf
      have tf := t5.own hgf (fun q hq => by injection hq with hq; omega)
      repeat' (first | (apply G_on; exact rfl; (apply G1_assign; exact rfl; exact rfl)) | apply G_nil | apply Post_next | apply W_ret | apply Post_then_ret | apply Post_block_ret)
      refine Post_ret Tryd.results57 ⟨_, _, _, rfl, rfl, run_loadVar_box T.a24 (by assumption) rfl, _, _, rfl, rfl, rfl⟩ ?_
      refine .inl ⟨.mk 2 ⟨#[]⟩ n [], s.length + 3, leafR 2 ⟨#[]⟩ n, by rw [hcs]; exact rdT_leaf (hrd.trans (by unfold rdLine; rw [if_neg m0, if_neg m1, hnum]; simp only; rw [if_pos m2])), rfl, leaf_at nil_size hfn, by rw [← hk1]; exact tf.st, tf.x⟩
    have hm2 : ¬ (m.toNat : Int) = 58 := u8_ne m2
    by_cases m3 : m = 36
    · have hmm : (m.toNat : Int) = 36 := by rw [m3]; rfl
      by_cases hn1 : n = -1
      · repeat' (first | (apply G_on; exact rfl; first | ((first | apply G1_assign | apply G1_move); exact rfl; exact rfl) | (apply G1_sindexJ (q := 0) (s := mkStr (m :: s)); exact T.str9; exact rfl; exact rfl; exact rfl; omega; exact rfl) | (apply G1_ssliceLoE (r := mkStr s); exact T.str9; exact rfl; exact rfl; omega; omega; exact mkStr_tail m s; exact rfl) | (apply G1_call (f := 60); exact rfl; exact rfl; exact rfl; exact nparse_yes hIs (TabIs.ext hT4 (by repeat first | assumption | exact Ext.rfl' | apply Ext.drew | apply Ext.alloc | refine Ext.trans ?_ (by assumption))); rintro _ w5 ⟨rfl, hx5⟩; refine ⟨(by first | exact .inl rfl | exact .inr (by assumption)), ?_⟩; (first | replace hA5 := hA5.ext hx5 | replace hA5 := hA5.ext ((Ext.drew Ext.rfl').trans hx5))) | (apply G1_call (f := 23); exact rfl; exact rfl; exact rfl; exact mk_none; rintro _ w6 ⟨rfl, hx6⟩; refine ⟨(by first | exact .inl rfl | exact .inr (by assumption)), ?_⟩; (first | replace hA5 := hA5.ext hx6 | replace hA5 := hA5.ext ((Ext.drew Ext.rfl').trans hx6))) | (apply G1_extract; exact rfl; exact rfl; exact rfl) | (apply G1_not_t; exact rfl; exact rfl) | (apply G1_pick_t; exact rfl; exact rfl; exact rfl) | (apply G1_eql; exact rfl; exact rfl; exact rfl)) | apply G_nil | apply Post_next | apply W_seq | apply W_region | (apply W_cond_false; exact rfl) | (apply W_cond_dec; exact rfl; all_goals (intro h; try (exfalso; omega))) | ((fail_if_success (apply G_on; exact rfl)); apply G_split_dec; exact rfl; exact rfl; all_goals (intro h; try (exfalso; omega))) | refine W_drawn 1 [] [0,1,2,3,4,5] mixed (by decide +kernel) ?_ | apply W_skip | apply W_block | apply Post_block_normal)
        have t5 := t4.xt (show Ext w4 w6 from (by repeat first | assumption | exact Ext.rfl' | apply Ext.drew | apply Ext.alloc | refine Ext.trans ?_ (by assumption)))
        apply G_on; exact rfl; apply G1_storeB; exact T.z24; exact rfl; exact rfl; exact hA5; exact rfl; exact rfl; (first | exact Nat.le_of_ble_eq_true rfl | (focus (simp [Value.cells]; done))); (first | exact Enc.one _ _ | (focus (simp [Value.oneCell']; done)) | (focus (simp [Value.cells, Value.oneCell']; done)) | exact Enc.oneAgg _ _); exact rfl; (first | exact .inl rfl | exact .inr (by simp [exempt])); exact rfl; intro wf hAf hgf hsf
        replace hAf : Blk wf.heap a5 24 (eRep.enc (leafR 4 ⟨#[]⟩ 0)) := hAf
        have tf := t5.own hgf (fun q hq => by injection hq with hq; omega)
        repeat' (first | (apply G_on; exact rfl; (apply G1_assign; exact rfl; exact rfl)) | apply G_nil | apply Post_next | apply W_ret | apply Post_then_ret | apply Post_block_ret)
        refine Post_ret Tryd.results57 ⟨_, _, _, rfl, rfl, run_loadVar_box T.a24 (by assumption) rfl, _, _, rfl, rfl, rfl⟩ ?_
        refine .inl ⟨.mk 4 ⟨#[]⟩ 0 [], s.length + 3, leafR 4 ⟨#[]⟩ 0, by rw [hcs]; exact rdT_leaf (hrd.trans (by unfold rdLine; rw [if_neg m0, if_neg m1, hnum]; simp only; rw [if_neg m2, if_pos m3, if_pos hn1])), rfl, leaf_at nil_size fit0, by rw [← hk1]; exact tf.st, tf.x⟩
      · have hD4 : Sl w4.heap eByte (subp p c k1 1) (c - k1) (bs.drop k1) := (h.sl.ext x4).drop (by omega)
        by_cases hok2 : 0 ≤ n ∧ n ≤ ((bs.drop k1).length : Int) ∧ ((bs.drop k1).drop n.toNat).take 2 = [13, 10]
        · have hcut2 : ∀ w', Ext w4 w' → Ctr Tryd.prog 58 [.slice (subp p c k1 1) (bs.length - k1) (c - k1), .int .i64 n] w' (fun v w'' => v = .tuple #[.string (mkStr ((bs.drop k1).take n.toNat)), .bool true] ∧ Ext w' w'') := fun w' hx => by
            have e : n = ((n.toNat : Nat) : Int) := by omega
            have := cut_spec (hD4.ext hx) (k := n.toNat) (by omega)
            rw [if_pos hok2.2.2, ← e, hL] at this
            exact this
          have hsz : (mkStr ((bs.drop k1).take n.toNat)).size = n.toNat := by rw [mkStr_size, List.length_take]; omega
          repeat' (first | (apply G_on; exact rfl; first | ((first | apply G1_assign | apply G1_move); exact rfl; exact rfl) | (apply G1_sindexJ (q := 0) (s := mkStr (m :: s)); exact T.str9; exact rfl; exact rfl; exact rfl; omega; exact rfl) | (apply G1_ssliceLoE (r := mkStr s); exact T.str9; exact rfl; exact rfl; omega; omega; exact mkStr_tail m s; exact rfl) | (apply G1_call (f := 60); exact rfl; exact rfl; exact rfl; exact nparse_yes hIs (TabIs.ext hT4 (by repeat first | assumption | exact Ext.rfl' | apply Ext.drew | apply Ext.alloc | refine Ext.trans ?_ (by assumption))); rintro _ w5 ⟨rfl, hx5⟩; refine ⟨(by first | exact .inl rfl | exact .inr (by assumption)), ?_⟩; (first | replace hinp := hinp.ext hx5 | replace hinp := hinp.ext ((Ext.drew Ext.rfl').trans hx5)); (first | replace hpos := hpos.ext hx5 | replace hpos := hpos.ext ((Ext.drew Ext.rfl').trans hx5)); (first | replace hA5 := hA5.ext hx5 | replace hA5 := hA5.ext ((Ext.drew Ext.rfl').trans hx5))) | (apply G1_sliceLoJ (q := k1); exact T.s28; exact rfl; exact rfl; exact rfl; exact hok; omega; exact rfl) | (apply G1_call (f := 58); exact rfl; exact rfl; exact rfl; exact hcut2 _ (by repeat first | assumption | exact Ext.rfl' | apply Ext.drew | apply Ext.alloc | refine Ext.trans ?_ (by assumption)); rintro _ w6 ⟨rfl, hx6⟩; refine ⟨(by first | exact .inl rfl | exact .inr (by assumption)), ?_⟩; (first | replace hinp := hinp.ext hx6 | replace hinp := hinp.ext ((Ext.drew Ext.rfl').trans hx6)); (first | replace hpos := hpos.ext hx6 | replace hpos := hpos.ext ((Ext.drew Ext.rfl').trans hx6)); (first | replace hA5 := hA5.ext hx6 | replace hA5 := hA5.ext ((Ext.drew Ext.rfl').trans hx6))) | (apply G1_loadB; (first | exact T.p28 | exact T.p3); exact rfl; assumption; exact rfl; exact rfl) | (apply G1_extract; exact rfl; exact rfl; exact rfl) | (apply G1_not_t; exact rfl; exact rfl) | (apply G1_pick_t; exact rfl; exact rfl; exact rfl) | (apply G1_slen; exact T.str9; exact rfl; exact rfl) | (apply G1_add; exact rfl; exact rfl; omega; omega; exact rfl) | (apply G1_eql; exact rfl; exact rfl; exact rfl)) | apply G_nil | apply Post_next | apply W_seq | apply W_region | (apply W_cond_false; exact rfl) | (apply W_cond_dec; exact rfl; all_goals (intro h; try (exfalso; omega))) | ((fail_if_success (apply G_on; exact rfl)); apply G_split_dec; exact rfl; exact rfl; all_goals (intro h; try (exfalso; omega))) | refine W_drawn 1 [] [0,1,2,3,4,5] mixed (by decide +kernel) ?_ | apply W_skip | apply W_block | apply Post_block_normal)
          have t6 := t4.xt (show Ext w4 w6 from (by repeat first | assumption | exact Ext.rfl' | apply Ext.drew | apply Ext.alloc | refine Ext.trans ?_ (by assumption)))
          apply G_on; exact rfl; apply G1_storeB; exact T.z3; exact rfl; exact rfl; exact hpos; exact rfl; exact rfl; (first | exact Nat.le_of_ble_eq_true rfl | (focus (simp [Value.cells]; done))); (first | exact Enc.one _ _ | (focus (simp [Value.oneCell']; done)) | (focus (simp [Value.cells, Value.oneCell']; done)) | exact Enc.oneAgg _ _); exact rfl; (first | exact .inl rfl | exact .inr (by simp [exempt])); exact rfl; intro w7 hP7 hg7 hs7
          replace hP7 : Blk w7.heap aa 3 [.int .i64 ((k1 : Int) + (((mkStr ((bs.drop k1).take n.toNat)).size : Int) + 2))] := hP7
          have e7 : (k1 : Int) + (((mkStr ((bs.drop k1).take n.toNat)).size : Int) + 2) = ((k1 + n.toNat + 2 : Nat) : Int) := by rw [hsz]; push_cast; omega
          rw [e7] at hP7
          have t7 := t6.set hP7 hg7
          replace hA5 := hA5.grown hg7 (fun e => by injection e; omega)
          repeat' (first | (apply G_on; exact rfl; first | (apply G1_move; exact rfl; exact rfl) | (apply G1_call (f := 22); exact rfl; exact rfl; exact rfl; exact mk_str; rintro _ w8 ⟨rfl, hx8⟩; refine ⟨(by first | exact .inl rfl | exact .inr (by assumption)), ?_⟩; (first | replace hA5 := hA5.ext hx8 | replace hA5 := hA5.ext ((Ext.drew Ext.rfl').trans hx8)))) | apply G_nil | apply Post_next | apply W_seq | apply W_region)
          have t8 := t7.xt (show Ext w7 w8 from (by repeat first | assumption | exact Ext.rfl' | apply Ext.drew | apply Ext.alloc | refine Ext.trans ?_ (by assumption)))
          apply G_on; exact rfl; apply G1_storeB; exact T.z24; exact rfl; exact rfl; exact hA5; exact rfl; exact rfl; (first | exact Nat.le_of_ble_eq_true rfl | (focus (simp [Value.cells]; done))); (first | exact Enc.one _ _ | (focus (simp [Value.oneCell']; done)) | (focus (simp [Value.cells, Value.oneCell']; done)) | exact Enc.oneAgg _ _); exact rfl; (first | exact .inl rfl | exact .inr (by simp [exempt])); exact rfl; intro wf hAf hgf hsf
          replace hAf : Blk wf.heap a5 24 (eRep.enc (leafR 3 (mkStr ((bs.drop k1).take n.toNat)) 0)) := hAf
          have tf := t8.own hgf (fun q hq => by injection hq with hq; omega)
          repeat' (first | (apply G_on; exact rfl; (apply G1_assign; exact rfl; exact rfl)) | apply G_nil | apply Post_next | apply W_ret | apply Post_then_ret | apply Post_block_ret)
          refine Post_ret Tryd.results57 ⟨_, _, _, rfl, rfl, run_loadVar_box T.a24 (by assumption) rfl, _, _, rfl, rfl, rfl⟩ ?_
          refine .inl ⟨.mk 3 (mkStr ((bs.drop k1).take n.toNat)) 0 [], s.length + 3 + n.toNat + 2, leafR 3 (mkStr ((bs.drop k1).take n.toNat)) 0, by rw [hcs]; exact rdT_leaf (hrd.trans (by unfold rdLine; rw [if_neg m0, if_neg m1, hnum]; simp only; rw [if_neg m2, if_pos m3, if_neg hn1, if_pos hok2])), rfl, leaf_at (by omega) fit0, ?_, tf.x⟩
          rw [show k + (s.length + 3 + n.toNat + 2) = k1 + n.toNat + 2 by omega]
          exact tf.st
        · have hcut2 : ∀ w', Ext w4 w' → Ctr Tryd.prog 58 [.slice (subp p c k1 1) (bs.length - k1) (c - k1), .int .i64 n] w' (fun v w'' => v = .tuple #[.string ⟨#[]⟩, .bool false] ∧ Ext w' w'') := fun w' hx => by
            by_cases hr : 0 ≤ n ∧ n ≤ ((bs.drop k1).length : Int)
            · have e : n = ((n.toNat : Nat) : Int) := by omega
              have := cut_spec (hD4.ext hx) (k := n.toNat) (by omega)
              rw [if_neg (fun e => hok2 ⟨hr.1, hr.2, e⟩), ← e, hL] at this
              exact this
            · have := cut_no (hD4.ext hx) hr
              rw [hL] at this
              exact this
          have hsz : (⟨#[]⟩ : ByteArray).size = 0 := rfl
          repeat' (first | (apply G_on; exact rfl; first | ((first | apply G1_assign | apply G1_move); exact rfl; exact rfl) | (apply G1_sindexJ (q := 0) (s := mkStr (m :: s)); exact T.str9; exact rfl; exact rfl; exact rfl; omega; exact rfl) | (apply G1_ssliceLoE (r := mkStr s); exact T.str9; exact rfl; exact rfl; omega; omega; exact mkStr_tail m s; exact rfl) | (apply G1_call (f := 60); exact rfl; exact rfl; exact rfl; exact nparse_yes hIs (TabIs.ext hT4 (by repeat first | assumption | exact Ext.rfl' | apply Ext.drew | apply Ext.alloc | refine Ext.trans ?_ (by assumption))); rintro _ w5 ⟨rfl, hx5⟩; refine ⟨(by first | exact .inl rfl | exact .inr (by assumption)), ?_⟩; (first | replace hinp := hinp.ext hx5 | replace hinp := hinp.ext ((Ext.drew Ext.rfl').trans hx5)); (first | replace hpos := hpos.ext hx5 | replace hpos := hpos.ext ((Ext.drew Ext.rfl').trans hx5)); (first | replace hA5 := hA5.ext hx5 | replace hA5 := hA5.ext ((Ext.drew Ext.rfl').trans hx5))) | (apply G1_sliceLoJ (q := k1); exact T.s28; exact rfl; exact rfl; exact rfl; exact hok; omega; exact rfl) | (apply G1_call (f := 58); exact rfl; exact rfl; exact rfl; exact hcut2 _ (by repeat first | assumption | exact Ext.rfl' | apply Ext.drew | apply Ext.alloc | refine Ext.trans ?_ (by assumption)); rintro _ w6 ⟨rfl, hx6⟩; refine ⟨(by first | exact .inl rfl | exact .inr (by assumption)), ?_⟩; (first | replace hinp := hinp.ext hx6 | replace hinp := hinp.ext ((Ext.drew Ext.rfl').trans hx6)); (first | replace hpos := hpos.ext hx6 | replace hpos := hpos.ext ((Ext.drew Ext.rfl').trans hx6)); (first | replace hA5 := hA5.ext hx6 | replace hA5 := hA5.ext ((Ext.drew Ext.rfl').trans hx6))) | (apply G1_loadB; (first | exact T.p28 | exact T.p3); exact rfl; assumption; exact rfl; exact rfl) | (apply G1_extract; exact rfl; exact rfl; exact rfl) | (apply G1_not_t; exact rfl; exact rfl) | (apply G1_pick_t; exact rfl; exact rfl; exact rfl) | (apply G1_slen; exact T.str9; exact rfl; exact rfl) | (apply G1_add; exact rfl; exact rfl; omega; omega; exact rfl) | (apply G1_eql; exact rfl; exact rfl; exact rfl)) | apply G_nil | apply Post_next | apply W_seq | apply W_region | (apply W_cond_false; exact rfl) | (apply W_cond_dec; exact rfl; all_goals (intro h; try (exfalso; omega))) | ((fail_if_success (apply G_on; exact rfl)); apply G_split_dec; exact rfl; exact rfl; all_goals (intro h; try (exfalso; omega))) | refine W_drawn 1 [] [0,1,2,3,4,5] mixed (by decide +kernel) ?_ | apply W_skip | apply W_block | apply Post_block_normal)
          have t6 := t4.xt (show Ext w4 w6 from (by repeat first | assumption | exact Ext.rfl' | apply Ext.drew | apply Ext.alloc | refine Ext.trans ?_ (by assumption)))
          apply G_on; exact rfl; apply G1_storeB; exact T.z3; exact rfl; exact rfl; exact hpos; exact rfl; exact rfl; (first | exact Nat.le_of_ble_eq_true rfl | (focus (simp [Value.cells]; done))); (first | exact Enc.one _ _ | (focus (simp [Value.oneCell']; done)) | (focus (simp [Value.cells, Value.oneCell']; done)) | exact Enc.oneAgg _ _); exact rfl; (first | exact .inl rfl | exact .inr (by simp [exempt])); exact rfl; intro w7 hP7 hg7 hs7
          replace hP7 : Blk w7.heap aa 3 [.int .i64 ((k1 : Int) + (((⟨#[]⟩ : ByteArray).size : Int) + 2))] := hP7
          have e7 : (k1 : Int) + (((⟨#[]⟩ : ByteArray).size : Int) + 2) = ((k1 + 2 : Nat) : Int) := by rw [hsz]; push_cast; omega
          rw [e7] at hP7
          have t7 := t6.set hP7 hg7
          replace hA5 := hA5.grown hg7 (fun e => by injection e; omega)
          repeat' (first | (apply G_on; exact rfl; first | (apply G1_move; exact rfl; exact rfl) | (apply G1_call (f := 22); exact rfl; exact rfl; exact rfl; exact mk_str; rintro _ w8 ⟨rfl, hx8⟩; refine ⟨(by first | exact .inl rfl | exact .inr (by assumption)), ?_⟩; (first | replace hA5 := hA5.ext hx8 | replace hA5 := hA5.ext ((Ext.drew Ext.rfl').trans hx8)))) | apply G_nil | apply Post_next | apply W_seq | apply W_region)
          have t8 := t7.xt (show Ext w7 w8 from (by repeat first | assumption | exact Ext.rfl' | apply Ext.drew | apply Ext.alloc | refine Ext.trans ?_ (by assumption)))
          apply G_on; exact rfl; apply G1_storeB; exact T.z24; exact rfl; exact rfl; exact hA5; exact rfl; exact rfl; (first | exact Nat.le_of_ble_eq_true rfl | (focus (simp [Value.cells]; done))); (first | exact Enc.one _ _ | (focus (simp [Value.oneCell']; done)) | (focus (simp [Value.cells, Value.oneCell']; done)) | exact Enc.oneAgg _ _); exact rfl; (first | exact .inl rfl | exact .inr (by simp [exempt])); exact rfl; intro wf hAf hgf hsf
          replace hAf : Blk wf.heap a5 24 (eRep.enc (leafR 3 ⟨#[]⟩ 0)) := hAf
          have tf := t8.own hgf (fun q hq => by injection hq with hq; omega)
          repeat' (first | (apply G_on; exact rfl; (apply G1_assign; exact rfl; exact rfl)) | apply G_nil | apply Post_next | apply W_ret | apply Post_then_ret | apply Post_block_ret)
          refine Post_ret Tryd.results57 ⟨_, _, _, rfl, rfl, run_loadVar_box T.a24 (by assumption) rfl, _, _, rfl, rfl, rfl⟩ ?_
          refine .inr ⟨?_, leafR 3 ⟨#[]⟩ 0, _, rfl, tf.st, tf.x⟩
          rw [hcs]
          exact rdT_none (hrd.trans (by unfold rdLine; rw [if_neg m0, if_neg m1, hnum]; simp only; rw [if_neg m2, if_pos m3, if_neg hn1, if_neg hok2]))
    have hm3 : ¬ (m.toNat : Int) = 36 := u8_ne m3
    by_cases hm4 : m = 42 ∧ 0 ≤ n
    rotate_left
    · have hm5 : ¬ (m.toNat : Int) = 42 ∨ n < 0 := by
        by_cases m4 : m = 42
        · right
          have : ¬ 0 ≤ n := fun h0 => hm4 ⟨m4, h0⟩
          omega
        · exact .inl (u8_ne m4)
      repeat' (first | (apply G_on; exact rfl; first | ((first | apply G1_assign | apply G1_move); exact rfl; exact rfl) | (apply G1_sindexJ (q := 0) (s := mkStr (m :: s)); exact T.str9; exact rfl; exact rfl; exact rfl; omega; exact rfl) | (apply G1_ssliceLoE (r := mkStr s); exact T.str9; exact rfl; exact rfl; omega; omega; exact mkStr_tail m s; exact rfl) | (apply G1_build (.agg (eRep.enc zRep).toArray); exact rfl; exact bldZ; exact rfl) | (apply G1_call (f := 60); exact rfl; exact rfl; exact rfl; exact nparse_yes hIs (TabIs.ext hT4 (by repeat first | assumption | exact Ext.rfl' | apply Ext.drew | apply Ext.alloc | refine Ext.trans ?_ (by assumption))); rintro _ w5 ⟨rfl, hx5⟩; refine ⟨(by first | exact .inl rfl | exact .inr (by assumption)), ?_⟩; (first | replace hA5 := hA5.ext hx5 | replace hA5 := hA5.ext ((Ext.drew Ext.rfl').trans hx5))) | ((first | apply G1_extract | apply G1_neq | apply G1_lss); exact rfl; exact rfl; exact rfl) | (apply G1_not_t; exact rfl; exact rfl) | (apply G1_pick_t; exact rfl; exact rfl; exact rfl) | (apply G1_pick_f; exact rfl; exact rfl; exact rfl) | (apply G1_eql; exact rfl; exact rfl; exact rfl)) | apply G_nil | apply Post_next | apply W_seq | apply W_region | (apply W_cond_true; exact rfl) | (apply W_cond_false; exact rfl) | (apply W_cond_dec; exact rfl; all_goals (intro h; try (exfalso; omega))) | (apply G_off; exact rfl; exact rfl) | ((fail_if_success (apply G_on; exact rfl)); apply G_split_dec; exact rfl; exact rfl; all_goals (intro h; try (exfalso; omega))) | refine W_drawn 1 [] [0,1,2,3,4,5] mixed (by decide +kernel) ?_ | apply W_skip | apply W_block | apply Post_block_normal)
      all_goals
        have t5 := t4.xt (show Ext w4 w5 from (by repeat first | assumption | exact Ext.rfl' | apply Ext.drew | apply Ext.alloc | refine Ext.trans ?_ (by assumption)))
        apply G_on; exact rfl; apply G1_storeB; exact T.z24; exact rfl; exact rfl; exact hA5; exact rfl; exact rfl; (first | exact Nat.le_of_ble_eq_true rfl | (focus (simp [Value.cells]; done))); (first | exact Enc.one _ _ | (focus (simp [Value.oneCell']; done)) | (focus (simp [Value.cells, Value.oneCell']; done)) | exact Enc.oneAgg _ _); exact rfl; (first | exact .inl rfl | exact .inr (by simp [exempt])); exact rfl; intro wf hAf hgf hsf
        replace hAf : Blk wf.heap a5 24 (eRep.enc zRep) := hAf
        have tf := t5.own hgf (fun q hq => by injection hq with hq; omega)
        repeat' (first | (apply G_on; exact rfl; (apply G1_assign; exact rfl; exact rfl)) | apply G_nil | apply Post_next | apply W_ret | apply Post_then_ret | apply Post_block_ret)
        refine Post_ret Tryd.results57 ⟨_, _, _, rfl, rfl, run_loadVar_box T.a24 (by assumption) rfl, _, _, rfl, rfl, rfl⟩ ?_
        refine .inr ⟨?_, zRep, _, rfl, tf.st, tf.x⟩
        rw [hcs]
        exact rdT_none (hrd.trans (by unfold rdLine; rw [if_neg m0, if_neg m1, hnum]; simp only; rw [if_neg m2, if_neg m3, if_neg hm4]))
    have hrl : rdHead cs = .list n.toNat (s.length + 3) := hrd.trans (by unfold rdLine; rw [if_neg m0, if_neg m1, hnum]; simp only; rw [if_neg m2, if_neg m3, if_pos hm4])
    have hmm : (m.toNat : Int) = 42 := by rw [hm4.1]; rfl
    have hn0 := hm4.2
    repeat' (first | (apply G_on; exact rfl; first | ((first | apply G1_assign | apply G1_move); exact rfl; exact rfl) | (apply G1_sindexJ (q := 0) (s := mkStr (m :: s)); exact T.str9; exact rfl; exact rfl; exact rfl; omega; exact rfl) | (apply G1_ssliceLoE (r := mkStr s); exact T.str9; exact rfl; exact rfl; omega; omega; exact mkStr_tail m s; exact rfl) | (apply G1_build (.agg (eRep.enc zRep).toArray); exact rfl; exact bldZ; exact rfl) | (apply G1_call (f := 60); exact rfl; exact rfl; exact rfl; exact nparse_yes hIs (TabIs.ext hT4 (by repeat first | assumption | exact Ext.rfl' | apply Ext.drew | apply Ext.alloc | refine Ext.trans ?_ (by assumption))); rintro _ w5 ⟨rfl, hx5⟩; refine ⟨(by first | exact .inl rfl | exact .inr (by assumption)), ?_⟩; (first | replace hA5 := hA5.ext hx5 | replace hA5 := hA5.ext ((Ext.drew Ext.rfl').trans hx5))) | ((first | apply G1_extract | apply G1_neq | apply G1_lss | apply G1_geq); exact rfl; exact rfl; exact rfl) | (apply G1_not_t; exact rfl; exact rfl) | (apply G1_pick_f; exact rfl; exact rfl; exact rfl) | (apply G1_eql; exact rfl; exact rfl; exact rfl)) | apply G_nil | apply Post_next | apply W_seq | apply W_region | (apply W_cond_true; exact rfl) | (apply W_cond_false; exact rfl) | (apply W_cond_dec; exact rfl; all_goals (intro h; try (exfalso; omega))) | (apply G_off; exact rfl; exact rfl) | ((fail_if_success (apply G_on; exact rfl)); apply G_split_dec; exact rfl; exact rfl; all_goals (intro h; try (exfalso; omega))) | refine W_drawn 1 [] [0,1,2,3,4,5] mixed (by decide +kernel) ?_ | apply W_skip | apply W_block | apply Post_block_normal)
    all_goals
      have t5 := t4.xt (show Ext w4 w5 from (by repeat first | assumption | exact Ext.rfl' | apply Ext.drew | apply Ext.alloc | refine Ext.trans ?_ (by assumption)))
      apply G_on; exact rfl; apply G1_storeB; exact T.z24; exact rfl; exact rfl; exact hA5; exact rfl; exact rfl; (first | exact Nat.le_of_ble_eq_true rfl | (focus (simp [Value.cells]; done))); (first | exact Enc.one _ _ | (focus (simp [Value.oneCell']; done)) | (focus (simp [Value.cells, Value.oneCell']; done)) | exact Enc.oneAgg _ _); exact rfl; (first | exact .inl rfl | exact .inr (by simp [exempt])); exact rfl; intro wf hAf hgf hsf
      replace hAf : Blk wf.heap a5 24 (eRep.enc zRep) := hAf
      have tf := t5.own hgf (fun q hq => by injection hq with hq; omega)
      repeat' (first | (apply G_on; exact rfl; (apply G1_assign; exact rfl; exact rfl)) | apply G_nil | apply Post_next | apply W_ret | apply Post_then_ret | apply Post_block_ret)
      refine Post_ret Tryd.results57 ⟨_, _, _, rfl, rfl, run_loadVar_box T.a24 (by assumption) rfl, _, _, rfl, rfl, rfl⟩ ?_
      refine .inr ⟨?_, zRep, _, rfl, tf.st, tf.x⟩
      rw [hcs]
      exact rdT_list0 hrl
  | succ d ih =>
    intro w k ab aa aT tT p c bs hk hbs h hd4
    have hU1 := hU.ext h.ext
    have hT1 : Pow w := TabIs.ext hT h.ext
    have hE1 := hE.ext h.ext
    have hC := h.sl.ext h.ext
    have hok := hC.ok
    have hle := hok.le
    have n1 := hC.bound
    have t0 := TkS.init h
    have l0 := t0.l0
    have l1 := t0.l1
    have l2 := t0.l2
    have l3 := t0.l3
    obtain ⟨cs, hcs⟩ : ∃ cs, bs.drop k = cs := ⟨_, rfl⟩
    have hcl : cs.length = bs.length - k := by rw [← hcs, List.length_drop]
    have hcap : bs.length ≤ maxLen := Nat.le_trans hle hok.cap
    have hD : Sl w.heap eByte (subp p c k 1) (c - k) cs := by rw [← hcs]; exact hC.drop (by omega)
    refine Ctr_of Tryd.func57 Tryd.ntmps57 rfl rfl rfl ?_
    repeat' (first | apply W_seq | apply W_region)
    apply G_on; exact rfl; apply G1_alloc; exact T.zero24; exact rfl; exact rfl; intro a5 w1 ha5 hA5 hx1 hs1
    replace hA5 : Blk w1.heap a5 24 (eRep.enc zRep) := hA5
    have t1 := t0.xt hx1
    have hinp := t1.st.inp
    have hpos := t1.st.pos
    have hix : ∀ w', Ext w w' → Ctr Tryd.prog 59 [.slice (subp p c k 1) (bs.length - k) (c - k), .string brs] w' (fun v w'' => v = .int .i64 (brI cs) ∧ Ext w' w'') := fun w' hx => by
      have := bytesIndex_spec (hD.ext hx) (hU1.ext hx)
      rw [hcl] at this
      exact this
    have hcut : ∀ w', Ext w w' → Ctr Tryd.prog 58 [.slice (subp p c k 1) (bs.length - k) (c - k), .int .i64 (brI cs)] w' (fun v w'' => v = (if (cs.drop (brAt cs)).take 2 = [13, 10] then .tuple #[.string (mkStr (cs.take (brAt cs))), .bool true] else .tuple #[.string ⟨#[]⟩, .bool false]) ∧ Ext w' w'') := fun w' hx => by
      rw [← hcl]
      by_cases hb : brAt cs < cs.length
      · have e : brI cs = (brAt cs : Int) := if_pos hb
        rw [e]
        exact cut_spec (hD.ext hx) (by omega)
      · have e : brI cs = -1 := if_neg hb
        have e2 : cs.drop (brAt cs) = [] := List.drop_of_length_le (by omega)
        rw [e, e2, if_neg (by simp)]
        exact cut_no (hD.ext hx) (by omega)
    by_cases hln : (cs.drop (brAt cs)).take 2 = [13, 10]
    rotate_left
    · rw [if_neg hln] at hcut
      repeat' (first | (apply G_on; exact rfl; first | ((first | apply G1_assign | apply G1_move); exact rfl; exact rfl) | (apply G1_sliceLoJ (q := k); exact T.s28; exact rfl; exact rfl; exact rfl; exact hok; omega; exact rfl) | (apply G1_call (f := 59); exact rfl; exact rfl; exact rfl; exact hix _ (by repeat first | assumption | exact Ext.rfl' | apply Ext.drew | apply Ext.alloc | refine Ext.trans ?_ (by assumption)); rintro _ w2 ⟨rfl, hx2⟩; refine ⟨(by first | exact .inl rfl | exact .inr (by assumption)), ?_⟩; (first | replace hinp := hinp.ext hx2 | replace hinp := hinp.ext ((Ext.drew Ext.rfl').trans hx2)); (first | replace hpos := hpos.ext hx2 | replace hpos := hpos.ext ((Ext.drew Ext.rfl').trans hx2)); (first | replace hA5 := hA5.ext hx2 | replace hA5 := hA5.ext ((Ext.drew Ext.rfl').trans hx2))) | (apply G1_call (f := 58); exact rfl; exact rfl; exact rfl; exact hcut _ (by repeat first | assumption | exact Ext.rfl' | apply Ext.drew | apply Ext.alloc | refine Ext.trans ?_ (by assumption)); rintro _ w3 ⟨rfl, hx3⟩; refine ⟨(by first | exact .inl rfl | exact .inr (by assumption)), ?_⟩; (first | replace hinp := hinp.ext hx3 | replace hinp := hinp.ext ((Ext.drew Ext.rfl').trans hx3)); (first | replace hpos := hpos.ext hx3 | replace hpos := hpos.ext ((Ext.drew Ext.rfl').trans hx3)); (first | replace hA5 := hA5.ext hx3 | replace hA5 := hA5.ext ((Ext.drew Ext.rfl').trans hx3))) | (apply G1_build (.agg (eRep.enc zRep).toArray); exact rfl; exact bldZ; exact rfl) | (apply G1_loadB; (first | exact T.p28 | exact T.p3); exact rfl; assumption; exact rfl; exact rfl) | (apply G1_extract; exact rfl; exact rfl; exact rfl) | (apply G1_not_f; exact rfl; exact rfl) | (apply G1_pick_t; exact rfl; exact rfl; exact rfl)) | apply G_nil | apply Post_next | apply W_seq | apply W_region | (apply W_cond_true; exact rfl) | (apply G_off; exact rfl; exact rfl) | refine W_drawn 1 [] [0,1,2,3,4,5,6,7,8,9,10,11,12] mixed (by decide +kernel) ?_)
      have t3 := t1.xt (show Ext w1 w3 from (by repeat first | assumption | exact Ext.rfl' | apply Ext.drew | apply Ext.alloc | refine Ext.trans ?_ (by assumption)))
      apply G_on; exact rfl; apply G1_storeB; exact T.z24; exact rfl; exact rfl; exact hA5; exact rfl; exact rfl; (first | exact Nat.le_of_ble_eq_true rfl | (focus (simp [Value.cells]; done))); (first | exact Enc.one _ _ | (focus (simp [Value.oneCell']; done)) | (focus (simp [Value.cells, Value.oneCell']; done)) | exact Enc.oneAgg _ _); exact rfl; (first | exact .inl rfl | exact .inr (by simp [exempt])); exact rfl; intro wf hAf hgf hsf
      replace hAf : Blk wf.heap a5 24 (eRep.enc zRep) := hAf
      have tf := t3.own hgf (fun q hq => by injection hq with hq; omega)
      repeat' (first | (apply G_on; exact rfl; (apply G1_assign; exact rfl; exact rfl)) | apply G_nil | apply Post_next | apply W_ret | apply Post_then_ret)
      refine Post_ret Tryd.results57 ⟨_, _, _, rfl, rfl, run_loadVar_box T.a24 (by assumption) rfl, _, _, rfl, rfl, rfl⟩ ?_
      refine .inr ⟨?_, zRep, _, rfl, tf.st, tf.x⟩
      rw [hcs]
      exact rdT_none (rdHead_no (.inr hln))
    simp only [if_pos hln] at hcut
    have hl2 := brAt_two hln
    by_cases hz : brAt cs = 0
    · simp only [hz, List.take_zero] at hcut
      have hee : mkStr [] = ⟨#[]⟩ := rfl
      rw [hee] at hcut
      repeat' (first | (apply G_on; exact rfl; first | ((first | apply G1_assign | apply G1_move); exact rfl; exact rfl) | (apply G1_sliceLoJ (q := k); exact T.s28; exact rfl; exact rfl; exact rfl; exact hok; omega; exact rfl) | (apply G1_call (f := 59); exact rfl; exact rfl; exact rfl; exact hix _ (by repeat first | assumption | exact Ext.rfl' | apply Ext.drew | apply Ext.alloc | refine Ext.trans ?_ (by assumption)); rintro _ w2 ⟨rfl, hx2⟩; refine ⟨(by first | exact .inl rfl | exact .inr (by assumption)), ?_⟩; (first | replace hinp := hinp.ext hx2 | replace hinp := hinp.ext ((Ext.drew Ext.rfl').trans hx2)); (first | replace hpos := hpos.ext hx2 | replace hpos := hpos.ext ((Ext.drew Ext.rfl').trans hx2)); (first | replace hA5 := hA5.ext hx2 | replace hA5 := hA5.ext ((Ext.drew Ext.rfl').trans hx2))) | (apply G1_call (f := 58); exact rfl; exact rfl; exact rfl; exact hcut _ (by repeat first | assumption | exact Ext.rfl' | apply Ext.drew | apply Ext.alloc | refine Ext.trans ?_ (by assumption)); rintro _ w3 ⟨rfl, hx3⟩; refine ⟨(by first | exact .inl rfl | exact .inr (by assumption)), ?_⟩; (first | replace hinp := hinp.ext hx3 | replace hinp := hinp.ext ((Ext.drew Ext.rfl').trans hx3)); (first | replace hpos := hpos.ext hx3 | replace hpos := hpos.ext ((Ext.drew Ext.rfl').trans hx3)); (first | replace hA5 := hA5.ext hx3 | replace hA5 := hA5.ext ((Ext.drew Ext.rfl').trans hx3))) | (apply G1_build (.agg (eRep.enc zRep).toArray); exact rfl; exact bldZ; exact rfl) | (apply G1_loadB; (first | exact T.p28 | exact T.p3); exact rfl; assumption; exact rfl; exact rfl) | (apply G1_extract; exact rfl; exact rfl; exact rfl) | (apply G1_not_t; exact rfl; exact rfl) | (apply G1_seql; exact rfl; exact rfl; exact rfl) | (apply G1_pick_f; exact rfl; exact rfl; exact rfl)) | apply G_nil | apply Post_next | apply W_seq | apply W_region | (apply W_cond_true; exact rfl) | refine W_drawn 1 [] [0,1,2,3,4,5,6,7,8,9,10,11,12] mixed (by decide +kernel) ?_)
      have t3 := t1.xt (show Ext w1 w3 from (by repeat first | assumption | exact Ext.rfl' | apply Ext.drew | apply Ext.alloc | refine Ext.trans ?_ (by assumption)))
      apply G_on; exact rfl; apply G1_storeB; exact T.z24; exact rfl; exact rfl; exact hA5; exact rfl; exact rfl; (first | exact Nat.le_of_ble_eq_true rfl | (focus (simp [Value.cells]; done))); (first | exact Enc.one _ _ | (focus (simp [Value.oneCell']; done)) | (focus (simp [Value.cells, Value.oneCell']; done)) | exact Enc.oneAgg _ _); exact rfl; (first | exact .inl rfl | exact .inr (by simp [exempt])); exact rfl; intro wf hAf hgf hsf
      replace hAf : Blk wf.heap a5 24 (eRep.enc zRep) := hAf
      have tf := t3.own hgf (fun q hq => by injection hq with hq; omega)
      repeat' (first | (apply G_on; exact rfl; (apply G1_assign; exact rfl; exact rfl)) | apply G_nil | apply Post_next | apply W_ret | apply Post_then_ret)
      refine Post_ret Tryd.results57 ⟨_, _, _, rfl, rfl, run_loadVar_box T.a24 (by assumption) rfl, _, _, rfl, rfl, rfl⟩ ?_
      refine .inr ⟨?_, zRep, _, rfl, tf.st, tf.x⟩
      rw [hcs]
      exact rdT_none (rdHead_no (.inl hz))
    obtain ⟨m, s, hms⟩ : ∃ m s, cs.take (brAt cs) = m :: s := by
      cases e : cs.take (brAt cs) with
      | nil => have := congrArg List.length e; rw [List.length_take, List.length_nil] at this; omega
      | cons m s => exact ⟨m, s, rfl⟩
    have hsl : s.length + 1 = brAt cs := by
      have := congrArg List.length hms
      rw [List.length_take, List.length_cons] at this
      omega
    have hrd := rdHead_line hms hln
    rw [hms] at hcut
    have hne : ¬ mkStr (m :: s) = ⟨#[]⟩ := fun e => by
      have := congrArg ByteArray.size e
      rw [mkStr_size] at this
      cases this
    have hms2 : (mkStr (m :: s)).size = s.length + 1 := by rw [mkStr_size]; rfl
    have hss : (mkStr s).size = s.length := mkStr_size s
    obtain ⟨k1, hk1⟩ : ∃ k1, k1 = k + (s.length + 3) := ⟨_, rfl⟩
    have hk1l : k1 ≤ bs.length := by omega
    have hdk1 : bs.drop k1 = cs.drop (brAt cs + 2) := by
      have e : k1 = k + (brAt cs + 2) := by omega
      rw [e, ← List.drop_drop, hcs]
    repeat' (first | (apply G_on; exact rfl; first | ((first | apply G1_assign | apply G1_move); exact rfl; exact rfl) | (apply G1_sliceLoJ (q := k); exact T.s28; exact rfl; exact rfl; exact rfl; exact hok; omega; exact rfl) | (apply G1_call (f := 59); exact rfl; exact rfl; exact rfl; exact hix _ (by repeat first | assumption | exact Ext.rfl' | apply Ext.drew | apply Ext.alloc | refine Ext.trans ?_ (by assumption)); rintro _ w2 ⟨rfl, hx2⟩; refine ⟨(by first | exact .inl rfl | exact .inr (by assumption)), ?_⟩; (first | replace hinp := hinp.ext hx2 | replace hinp := hinp.ext ((Ext.drew Ext.rfl').trans hx2)); (first | replace hpos := hpos.ext hx2 | replace hpos := hpos.ext ((Ext.drew Ext.rfl').trans hx2)); (first | replace hA5 := hA5.ext hx2 | replace hA5 := hA5.ext ((Ext.drew Ext.rfl').trans hx2))) | (apply G1_call (f := 58); exact rfl; exact rfl; exact rfl; exact hcut _ (by repeat first | assumption | exact Ext.rfl' | apply Ext.drew | apply Ext.alloc | refine Ext.trans ?_ (by assumption)); rintro _ w3 ⟨rfl, hx3⟩; refine ⟨(by first | exact .inl rfl | exact .inr (by assumption)), ?_⟩; (first | replace hinp := hinp.ext hx3 | replace hinp := hinp.ext ((Ext.drew Ext.rfl').trans hx3)); (first | replace hpos := hpos.ext hx3 | replace hpos := hpos.ext ((Ext.drew Ext.rfl').trans hx3)); (first | replace hA5 := hA5.ext hx3 | replace hA5 := hA5.ext ((Ext.drew Ext.rfl').trans hx3))) | (apply G1_loadB; (first | exact T.p28 | exact T.p3); exact rfl; assumption; exact rfl; exact rfl) | (apply G1_extract; exact rfl; exact rfl; exact rfl) | (apply G1_not_t; exact rfl; exact rfl) | (apply G1_seql; exact rfl; exact rfl; exact rfl) | (apply G1_pick_f; exact rfl; exact rfl; exact rfl) | (apply G1_slen; exact T.str9; exact rfl; exact rfl) | (apply G1_add; exact rfl; exact rfl; omega; omega; exact rfl)) | apply G_nil | apply Post_next | apply W_seq | apply W_region | (apply W_cond_false; exact rfl) | refine W_drawn 1 [] [0,1,2,3,4,5,6,7,8,9,10,11,12] mixed (by decide +kernel) ?_ | apply W_skip)
    all_goals try exact absurd (by assumption) hne
    have t3 := t1.xt (show Ext w1 w3 from (by repeat first | assumption | exact Ext.rfl' | apply Ext.drew | apply Ext.alloc | refine Ext.trans ?_ (by assumption)))
    apply G_on; exact rfl; apply G1_storeB; exact T.z3; exact rfl; exact rfl; exact hpos; exact rfl; exact rfl; (first | exact Nat.le_of_ble_eq_true rfl | (focus (simp [Value.cells]; done))); (first | exact Enc.one _ _ | (focus (simp [Value.oneCell']; done)) | (focus (simp [Value.cells, Value.oneCell']; done)) | exact Enc.oneAgg _ _); exact rfl; (first | exact .inl rfl | exact .inr (by simp [exempt])); exact rfl; intro w4 hP4 hg4 hs4
    replace hP4 : Blk w4.heap aa 3 [.int .i64 ((k : Int) + (((mkStr (m :: s)).size : Int) + 2))] := hP4
    have e4 : (k : Int) + (((mkStr (m :: s)).size : Int) + 2) = ((k1 : Nat) : Int) := by rw [hms2, hk1]; push_cast; omega
    rw [e4] at hP4
    have t4 := t3.set hP4 hg4
    have hA5 := hA5.grown hg4 (fun e => by injection e; omega)
    have hb0 : ((bget (mkStr (m :: s)) 0).toNat : Int) = (m.toNat : Int) := by rw [mkStr_bget]
    have hE4 := hE.ext t4.st.ext
    have hT4 : Pow w4 := TabIs.ext hT t4.st.ext
    have x4 := t4.st.ext
    have hinp := t4.st.inp
    have hpos := t4.st.pos
    clear hcut hix
    have hrd : rdHead cs = rdLine m s (bs.drop k1) (s.length + 3) := by rw [hrd, hdk1, ← hsl]
    have hL : (bs.drop k1).length = bs.length - k1 := by simp
    by_cases m0 : m = 43
    · have hmm : (m.toNat : Int) = 43 := by rw [m0]; rfl
      repeat' (first | (apply G_on; exact rfl; first | ((first | apply G1_assign | apply G1_move); exact rfl; exact rfl) | (apply G1_sindexJ (q := 0) (s := mkStr (m :: s)); exact T.str9; exact rfl; exact rfl; exact rfl; omega; exact rfl) | (apply G1_ssliceLoE (r := mkStr s); exact T.str9; exact rfl; exact rfl; omega; omega; exact mkStr_tail m s; exact rfl) | (apply G1_call (f := 19); exact rfl; exact rfl; exact rfl; exact mk_text; rintro _ w5 ⟨rfl, hx5⟩; refine ⟨(by first | exact .inl rfl | exact .inr (by assumption)), ?_⟩; (first | replace hA5 := hA5.ext hx5 | replace hA5 := hA5.ext ((Ext.drew Ext.rfl').trans hx5))) | (apply G1_eql; exact rfl; exact rfl; exact rfl)) | apply G_nil | apply Post_next | apply W_seq | apply W_region | (apply W_cond_dec; exact rfl; all_goals (intro h; try (exfalso; omega))) | refine W_drawn 1 [] [0,1,2,3,4,5] mixed (by decide +kernel) ?_ | apply W_block)
      have t5 := t4.xt (show Ext w4 w5 from (by repeat first | assumption | exact Ext.rfl' | apply Ext.drew | apply Ext.alloc | refine Ext.trans ?_ (by assumption)))
      apply G_on; exact rfl; apply G1_storeB; exact T.z24; exact rfl; exact rfl; exact hA5; exact rfl; exact rfl; (first | exact Nat.le_of_ble_eq_true rfl | (focus (simp [Value.cells]; done))); (first | exact Enc.one _ _ | (focus (simp [Value.oneCell']; done)) | (focus (simp [Value.cells, Value.oneCell']; done)) | exact Enc.oneAgg _ _); exact rfl; (first | exact .inl rfl | exact .inr (by simp [exempt])); exact rfl; intro wf hAf hgf hsf
      replace hAf : Blk wf.heap a5 24 (eRep.enc (leafR 0 (mkStr s) 0)) := hAf
      have tf := t5.own hgf (fun q hq => by injection hq with hq; omega)
      repeat' (first | (apply G_on; exact rfl; (apply G1_assign; exact rfl; exact rfl)) | apply G_nil | apply Post_next | apply W_ret | apply Post_then_ret | apply Post_block_ret)
      refine Post_ret Tryd.results57 ⟨_, _, _, rfl, rfl, run_loadVar_box T.a24 (by assumption) rfl, _, _, rfl, rfl, rfl⟩ ?_
      refine .inl ⟨.mk 0 (mkStr s) 0 [], s.length + 3, leafR 0 (mkStr s) 0, by rw [hcs]; exact rdT_leaf (hrd.trans (by unfold rdLine; rw [if_pos m0])), rfl, leaf_at (by omega) fit0, by rw [← hk1]; exact tf.st, tf.x⟩
    have hm0 : ¬ (m.toNat : Int) = 43 := u8_ne m0
    by_cases m1 : m = 45
    · have hmm : (m.toNat : Int) = 45 := by rw [m1]; rfl
      repeat' (first | (apply G_on; exact rfl; first | ((first | apply G1_assign | apply G1_move); exact rfl; exact rfl) | (apply G1_sindexJ (q := 0) (s := mkStr (m :: s)); exact T.str9; exact rfl; exact rfl; exact rfl; omega; exact rfl) | (apply G1_ssliceLoE (r := mkStr s); exact T.str9; exact rfl; exact rfl; omega; omega; exact mkStr_tail m s; exact rfl) | (apply G1_call (f := 20); exact rfl; exact rfl; exact rfl; exact mk_wrong; rintro _ w5 ⟨rfl, hx5⟩; refine ⟨(by first | exact .inl rfl | exact .inr (by assumption)), ?_⟩; (first | replace hA5 := hA5.ext hx5 | replace hA5 := hA5.ext ((Ext.drew Ext.rfl').trans hx5))) | (apply G1_eql; exact rfl; exact rfl; exact rfl)) | apply G_nil | apply Post_next | apply W_seq | apply W_region | (apply W_cond_dec; exact rfl; all_goals (intro h; try (exfalso; omega))) | refine W_drawn 1 [] [0,1,2,3,4,5] mixed (by decide +kernel) ?_ | apply W_block)
      have t5 := t4.xt (show Ext w4 w5 from (by repeat first | assumption | exact Ext.rfl' | apply Ext.drew | apply Ext.alloc | refine Ext.trans ?_ (by assumption)))
      apply G_on; exact rfl; apply G1_storeB; exact T.z24; exact rfl; exact rfl; exact hA5; exact rfl; exact rfl; (first | exact Nat.le_of_ble_eq_true rfl | (focus (simp [Value.cells]; done))); (first | exact Enc.one _ _ | (focus (simp [Value.oneCell']; done)) | (focus (simp [Value.cells, Value.oneCell']; done)) | exact Enc.oneAgg _ _); exact rfl; (first | exact .inl rfl | exact .inr (by simp [exempt])); exact rfl; intro wf hAf hgf hsf
      replace hAf : Blk wf.heap a5 24 (eRep.enc (leafR 1 (mkStr s) 0)) := hAf
      have tf := t5.own hgf (fun q hq => by injection hq with hq; omega)
      repeat' (first | (apply G_on; exact rfl; (apply G1_assign; exact rfl; exact rfl)) | apply G_nil | apply Post_next | apply W_ret | apply Post_then_ret | apply Post_block_ret)
      refine Post_ret Tryd.results57 ⟨_, _, _, rfl, rfl, run_loadVar_box T.a24 (by assumption) rfl, _, _, rfl, rfl, rfl⟩ ?_
      refine .inl ⟨.mk 1 (mkStr s) 0 [], s.length + 3, leafR 1 (mkStr s) 0, by rw [hcs]; exact rdT_leaf (hrd.trans (by unfold rdLine; rw [if_neg m0, if_pos m1])), rfl, leaf_at (by omega) fit0, by rw [← hk1]; exact tf.st, tf.x⟩
    have hm1 : ¬ (m.toNat : Int) = 45 := u8_ne m1
    by_cases hnn : ∃ n, IsNum (mkStr s) n
    rotate_left
    · have hnn' : ∀ n, ¬ IsNum (mkStr s) n := fun n hn => hnn ⟨n, hn⟩
      repeat' (first | (apply G_on; exact rfl; first | ((first | apply G1_assign | apply G1_move); exact rfl; exact rfl) | (apply G1_sindexJ (q := 0) (s := mkStr (m :: s)); exact T.str9; exact rfl; exact rfl; exact rfl; omega; exact rfl) | (apply G1_ssliceLoE (r := mkStr s); exact T.str9; exact rfl; exact rfl; omega; omega; exact mkStr_tail m s; exact rfl) | (apply G1_build (.agg (eRep.enc zRep).toArray); exact rfl; exact bldZ; exact rfl) | (apply G1_call (f := 60); exact rfl; exact rfl; exact rfl; exact nparse_nb hnn' (TabIs.ext hT4 (by repeat first | assumption | exact Ext.rfl' | apply Ext.drew | apply Ext.alloc | refine Ext.trans ?_ (by assumption))) (hE4.ext (by repeat first | assumption | exact Ext.rfl' | apply Ext.drew | apply Ext.alloc | refine Ext.trans ?_ (by assumption))); rintro _ w5 ⟨rfl, hx5⟩; refine ⟨(by first | exact .inl rfl | exact .inr (by assumption)), ?_⟩; (first | replace hA5 := hA5.ext hx5 | replace hA5 := hA5.ext ((Ext.drew Ext.rfl').trans hx5))) | (apply G1_extract; exact rfl; exact rfl; exact rfl) | (apply G1_not_f; exact rfl; exact rfl) | (apply G1_eql; exact rfl; exact rfl; exact rfl)) | apply G_nil | apply Post_next | apply W_seq | apply W_region | (apply W_cond_true; exact rfl) | (apply W_cond_dec; exact rfl; all_goals (intro h; try (exfalso; omega))) | refine W_drawn 1 [] [0,1,2,3,4,5] mixed (by decide +kernel) ?_ | apply W_skip | apply W_block | apply Post_block_normal)
      have t5 := t4.xt (show Ext w4 w5 from (by repeat first | assumption | exact Ext.rfl' | apply Ext.drew | apply Ext.alloc | refine Ext.trans ?_ (by assumption)))
      apply G_on; exact rfl; apply G1_storeB; exact T.z24; exact rfl; exact rfl; exact hA5; exact rfl; exact rfl; (first | exact Nat.le_of_ble_eq_true rfl | (focus (simp [Value.cells]; done))); (first | exact Enc.one _ _ | (focus (simp [Value.oneCell']; done)) | (focus (simp [Value.cells, Value.oneCell']; done)) | exact Enc.oneAgg _ _); exact rfl; (first | exact .inl rfl | exact .inr (by simp [exempt])); exact rfl; intro wf hAf hgf hsf
      replace hAf : Blk wf.heap a5 24 (eRep.enc zRep) := hAf
      have tf := t5.own hgf (fun q hq => by injection hq with hq; omega)
      repeat' (first | (apply G_on; exact rfl; (apply G1_assign; exact rfl; exact rfl)) | apply G_nil | apply Post_next | apply W_ret | apply Post_then_ret | apply Post_block_ret)
      refine Post_ret Tryd.results57 ⟨_, _, _, rfl, rfl, run_loadVar_box T.a24 (by assumption) rfl, _, _, rfl, rfl, rfl⟩ ?_
      refine .inr ⟨?_, zRep, _, rfl, tf.st, tf.x⟩
      rw [hcs]
      exact rdT_none (hrd.trans (by unfold rdLine; rw [if_neg m0, if_neg m1, numOf_none hnn']))
    obtain ⟨n, hIs⟩ := hnn
    have hfn := hIs.1
    unfold fit64 at hfn
    have hnum := numOf_some hIs
    by_cases m2 : m = 58
    · have hmm : (m.toNat : Int) = 58 := by rw [m2]; rfl
      repeat' (first | (apply G_on; exact rfl; first | ((first | apply G1_assign | apply G1_move); exact rfl; exact rfl) | (apply G1_sindexJ (q := 0) (s := mkStr (m :: s)); exact T.str9; exact rfl; exact rfl; exact rfl; omega; exact rfl) | (apply G1_ssliceLoE (r := mkStr s); exact T.str9; exact rfl; exact rfl; omega; omega; exact mkStr_tail m s; exact rfl) | (apply G1_call (f := 60); exact rfl; exact rfl; exact rfl; exact nparse_yes hIs (TabIs.ext hT4 (by repeat first | assumption | exact Ext.rfl' | apply Ext.drew | apply Ext.alloc | refine Ext.trans ?_ (by assumption))); rintro _ w5 ⟨rfl, hx5⟩; refine ⟨(by first | exact .inl rfl | exact .inr (by assumption)), ?_⟩; (first | replace hA5 := hA5.ext hx5 | replace hA5 := hA5.ext ((Ext.drew Ext.rfl').trans hx5))) | (apply G1_call (f := 21); exact rfl; exact rfl; exact rfl; exact mk_int; rintro _ w6 ⟨rfl, hx6⟩; refine ⟨(by first | exact .inl rfl | exact .inr (by assumption)), ?_⟩; (first | replace hA5 := hA5.ext hx6 | replace hA5 := hA5.ext ((Ext.drew Ext.rfl').trans hx6))) | (apply G1_extract; exact rfl; exact rfl; exact rfl) | (apply G1_not_t; exact rfl; exact rfl) | (apply G1_eql; exact rfl; exact rfl; exact rfl)) | apply G_nil | apply Post_next | apply W_seq | apply W_region | (apply W_cond_false; exact rfl) | (apply W_cond_dec; exact rfl; all_goals (intro h; try (exfalso; omega))) | refine W_drawn 1 [] [0,1,2,3,4,5] mixed (by decide +kernel) ?_ | apply W_skip | apply W_block | apply Post_block_normal)
      have t5 := t4.xt (show Ext w4 w6 from (by repeat first | assumption | exact Ext.rfl' | apply Ext.drew | apply Ext.alloc | refine Ext.trans ?_ (by assumption)))
      apply G_on; exact rfl; apply G1_storeB; exact T.z24; exact rfl; exact rfl; exact hA5; exact rfl; exact rfl; (first | exact Nat.le_of_ble_eq_true rfl | (focus (simp [Value.cells]; done))); (first | exact Enc.one _ _ | (focus (simp [Value.oneCell']; done)) | (focus (simp [Value.cells, Value.oneCell']; done)) | exact Enc.oneAgg _ _); exact rfl; (first | exact .inl rfl | exact .inr (by simp [exempt])); exact rfl; intro wf hAf hgf hsf
      replace hAf : Blk wf.heap a5 24 (eRep.enc (leafR 2 ⟨#[]⟩ n)) := hAf
      have tf := t5.own hgf (fun q hq => by injection hq with hq; omega)
      repeat' (first | (apply G_on; exact rfl; (apply G1_assign; exact rfl; exact rfl)) | apply G_nil | apply Post_next | apply W_ret | apply Post_then_ret | apply Post_block_ret)
      refine Post_ret Tryd.results57 ⟨_, _, _, rfl, rfl, run_loadVar_box T.a24 (by assumption) rfl, _, _, rfl, rfl, rfl⟩ ?_
      refine .inl ⟨.mk 2 ⟨#[]⟩ n [], s.length + 3, leafR 2 ⟨#[]⟩ n, by rw [hcs]; exact rdT_leaf (hrd.trans (by unfold rdLine; rw [if_neg m0, if_neg m1, hnum]; simp only; rw [if_pos m2])), rfl, leaf_at nil_size hfn, by rw [← hk1]; exact tf.st, tf.x⟩
    have hm2 : ¬ (m.toNat : Int) = 58 := u8_ne m2
    by_cases m3 : m = 36
    · have hmm : (m.toNat : Int) = 36 := by rw [m3]; rfl
      by_cases hn1 : n = -1
      · repeat' (first | (apply G_on; exact rfl; first | ((first | apply G1_assign | apply G1_move); exact rfl; exact rfl) | (apply G1_sindexJ (q := 0) (s := mkStr (m :: s)); exact T.str9; exact rfl; exact rfl; exact rfl; omega; exact rfl) | (apply G1_ssliceLoE (r := mkStr s); exact T.str9; exact rfl; exact rfl; omega; omega; exact mkStr_tail m s; exact rfl) | (apply G1_call (f := 60); exact rfl; exact rfl; exact rfl; exact nparse_yes hIs (TabIs.ext hT4 (by repeat first | assumption | exact Ext.rfl' | apply Ext.drew | apply Ext.alloc | refine Ext.trans ?_ (by assumption))); rintro _ w5 ⟨rfl, hx5⟩; refine ⟨(by first | exact .inl rfl | exact .inr (by assumption)), ?_⟩; (first | replace hA5 := hA5.ext hx5 | replace hA5 := hA5.ext ((Ext.drew Ext.rfl').trans hx5))) | (apply G1_call (f := 23); exact rfl; exact rfl; exact rfl; exact mk_none; rintro _ w6 ⟨rfl, hx6⟩; refine ⟨(by first | exact .inl rfl | exact .inr (by assumption)), ?_⟩; (first | replace hA5 := hA5.ext hx6 | replace hA5 := hA5.ext ((Ext.drew Ext.rfl').trans hx6))) | (apply G1_extract; exact rfl; exact rfl; exact rfl) | (apply G1_not_t; exact rfl; exact rfl) | (apply G1_pick_t; exact rfl; exact rfl; exact rfl) | (apply G1_eql; exact rfl; exact rfl; exact rfl)) | apply G_nil | apply Post_next | apply W_seq | apply W_region | (apply W_cond_false; exact rfl) | (apply W_cond_dec; exact rfl; all_goals (intro h; try (exfalso; omega))) | ((fail_if_success (apply G_on; exact rfl)); apply G_split_dec; exact rfl; exact rfl; all_goals (intro h; try (exfalso; omega))) | refine W_drawn 1 [] [0,1,2,3,4,5] mixed (by decide +kernel) ?_ | apply W_skip | apply W_block | apply Post_block_normal)
        have t5 := t4.xt (show Ext w4 w6 from (by repeat first | assumption | exact Ext.rfl' | apply Ext.drew | apply Ext.alloc | refine Ext.trans ?_ (by assumption)))
        apply G_on; exact rfl; apply G1_storeB; exact T.z24; exact rfl; exact rfl; exact hA5; exact rfl; exact rfl; (first | exact Nat.le_of_ble_eq_true rfl | (focus (simp [Value.cells]; done))); (first | exact Enc.one _ _ | (focus (simp [Value.oneCell']; done)) | (focus (simp [Value.cells, Value.oneCell']; done)) | exact Enc.oneAgg _ _); exact rfl; (first | exact .inl rfl | exact .inr (by simp [exempt])); exact rfl; intro wf hAf hgf hsf
        replace hAf : Blk wf.heap a5 24 (eRep.enc (leafR 4 ⟨#[]⟩ 0)) := hAf
        have tf := t5.own hgf (fun q hq => by injection hq with hq; omega)
        repeat' (first | (apply G_on; exact rfl; (apply G1_assign; exact rfl; exact rfl)) | apply G_nil | apply Post_next | apply W_ret | apply Post_then_ret | apply Post_block_ret)
        refine Post_ret Tryd.results57 ⟨_, _, _, rfl, rfl, run_loadVar_box T.a24 (by assumption) rfl, _, _, rfl, rfl, rfl⟩ ?_
        refine .inl ⟨.mk 4 ⟨#[]⟩ 0 [], s.length + 3, leafR 4 ⟨#[]⟩ 0, by rw [hcs]; exact rdT_leaf (hrd.trans (by unfold rdLine; rw [if_neg m0, if_neg m1, hnum]; simp only; rw [if_neg m2, if_pos m3, if_pos hn1])), rfl, leaf_at nil_size fit0, by rw [← hk1]; exact tf.st, tf.x⟩
      · have hD4 : Sl w4.heap eByte (subp p c k1 1) (c - k1) (bs.drop k1) := (h.sl.ext x4).drop (by omega)
        by_cases hok2 : 0 ≤ n ∧ n ≤ ((bs.drop k1).length : Int) ∧ ((bs.drop k1).drop n.toNat).take 2 = [13, 10]
        · have hcut2 : ∀ w', Ext w4 w' → Ctr Tryd.prog 58 [.slice (subp p c k1 1) (bs.length - k1) (c - k1), .int .i64 n] w' (fun v w'' => v = .tuple #[.string (mkStr ((bs.drop k1).take n.toNat)), .bool true] ∧ Ext w' w'') := fun w' hx => by
            have e : n = ((n.toNat : Nat) : Int) := by omega
            have := cut_spec (hD4.ext hx) (k := n.toNat) (by omega)
            rw [if_pos hok2.2.2, ← e, hL] at this
            exact this
          have hsz : (mkStr ((bs.drop k1).take n.toNat)).size = n.toNat := by rw [mkStr_size, List.length_take]; omega
          repeat' (first | (apply G_on; exact rfl; first | ((first | apply G1_assign | apply G1_move); exact rfl; exact rfl) | (apply G1_sindexJ (q := 0) (s := mkStr (m :: s)); exact T.str9; exact rfl; exact rfl; exact rfl; omega; exact rfl) | (apply G1_ssliceLoE (r := mkStr s); exact T.str9; exact rfl; exact rfl; omega; omega; exact mkStr_tail m s; exact rfl) | (apply G1_call (f := 60); exact rfl; exact rfl; exact rfl; exact nparse_yes hIs (TabIs.ext hT4 (by repeat first | assumption | exact Ext.rfl' | apply Ext.drew | apply Ext.alloc | refine Ext.trans ?_ (by assumption))); rintro _ w5 ⟨rfl, hx5⟩; refine ⟨(by first | exact .inl rfl | exact .inr (by assumption)), ?_⟩; (first | replace hinp := hinp.ext hx5 | replace hinp := hinp.ext ((Ext.drew Ext.rfl').trans hx5)); (first | replace hpos := hpos.ext hx5 | replace hpos := hpos.ext ((Ext.drew Ext.rfl').trans hx5)); (first | replace hA5 := hA5.ext hx5 | replace hA5 := hA5.ext ((Ext.drew Ext.rfl').trans hx5))) | (apply G1_sliceLoJ (q := k1); exact T.s28; exact rfl; exact rfl; exact rfl; exact hok; omega; exact rfl) | (apply G1_call (f := 58); exact rfl; exact rfl; exact rfl; exact hcut2 _ (by repeat first | assumption | exact Ext.rfl' | apply Ext.drew | apply Ext.alloc | refine Ext.trans ?_ (by assumption)); rintro _ w6 ⟨rfl, hx6⟩; refine ⟨(by first | exact .inl rfl | exact .inr (by assumption)), ?_⟩; (first | replace hinp := hinp.ext hx6 | replace hinp := hinp.ext ((Ext.drew Ext.rfl').trans hx6)); (first | replace hpos := hpos.ext hx6 | replace hpos := hpos.ext ((Ext.drew Ext.rfl').trans hx6)); (first | replace hA5 := hA5.ext hx6 | replace hA5 := hA5.ext ((Ext.drew Ext.rfl').trans hx6))) | (apply G1_loadB; (first | exact T.p28 | exact T.p3); exact rfl; assumption; exact rfl; exact rfl) | (apply G1_extract; exact rfl; exact rfl; exact rfl) | (apply G1_not_t; exact rfl; exact rfl) | (apply G1_pick_t; exact rfl; exact rfl; exact rfl) | (apply G1_slen; exact T.str9; exact rfl; exact rfl) | (apply G1_add; exact rfl; exact rfl; omega; omega; exact rfl) | (apply G1_eql; exact rfl; exact rfl; exact rfl)) | apply G_nil | apply Post_next | apply W_seq | apply W_region | (apply W_cond_false; exact rfl) | (apply W_cond_dec; exact rfl; all_goals (intro h; try (exfalso; omega))) | ((fail_if_success (apply G_on; exact rfl)); apply G_split_dec; exact rfl; exact rfl; all_goals (intro h; try (exfalso; omega))) | refine W_drawn 1 [] [0,1,2,3,4,5] mixed (by decide +kernel) ?_ | apply W_skip | apply W_block | apply Post_block_normal)
          have t6 := t4.xt (show Ext w4 w6 from (by repeat first | assumption | exact Ext.rfl' | apply Ext.drew | apply Ext.alloc | refine Ext.trans ?_ (by assumption)))
          apply G_on; exact rfl; apply G1_storeB; exact T.z3; exact rfl; exact rfl; exact hpos; exact rfl; exact rfl; (first | exact Nat.le_of_ble_eq_true rfl | (focus (simp [Value.cells]; done))); (first | exact Enc.one _ _ | (focus (simp [Value.oneCell']; done)) | (focus (simp [Value.cells, Value.oneCell']; done)) | exact Enc.oneAgg _ _); exact rfl; (first | exact .inl rfl | exact .inr (by simp [exempt])); exact rfl; intro w7 hP7 hg7 hs7
          replace hP7 : Blk w7.heap aa 3 [.int .i64 ((k1 : Int) + (((mkStr ((bs.drop k1).take n.toNat)).size : Int) + 2))] := hP7
          have e7 : (k1 : Int) + (((mkStr ((bs.drop k1).take n.toNat)).size : Int) + 2) = ((k1 + n.toNat + 2 : Nat) : Int) := by rw [hsz]; push_cast; omega
          rw [e7] at hP7
          have t7 := t6.set hP7 hg7
          replace hA5 := hA5.grown hg7 (fun e => by injection e; omega)
          repeat' (first | (apply G_on; exact rfl; first | (apply G1_move; exact rfl; exact rfl) | (apply G1_call (f := 22); exact rfl; exact rfl; exact rfl; exact mk_str; rintro _ w8 ⟨rfl, hx8⟩; refine ⟨(by first | exact .inl rfl | exact .inr (by assumption)), ?_⟩; (first | replace hA5 := hA5.ext hx8 | replace hA5 := hA5.ext ((Ext.drew Ext.rfl').trans hx8)))) | apply G_nil | apply Post_next | apply W_seq | apply W_region)
          have t8 := t7.xt (show Ext w7 w8 from (by repeat first | assumption | exact Ext.rfl' | apply Ext.drew | apply Ext.alloc | refine Ext.trans ?_ (by assumption)))
          apply G_on; exact rfl; apply G1_storeB; exact T.z24; exact rfl; exact rfl; exact hA5; exact rfl; exact rfl; (first | exact Nat.le_of_ble_eq_true rfl | (focus (simp [Value.cells]; done))); (first | exact Enc.one _ _ | (focus (simp [Value.oneCell']; done)) | (focus (simp [Value.cells, Value.oneCell']; done)) | exact Enc.oneAgg _ _); exact rfl; (first | exact .inl rfl | exact .inr (by simp [exempt])); exact rfl; intro wf hAf hgf hsf
          replace hAf : Blk wf.heap a5 24 (eRep.enc (leafR 3 (mkStr ((bs.drop k1).take n.toNat)) 0)) := hAf
          have tf := t8.own hgf (fun q hq => by injection hq with hq; omega)
          repeat' (first | (apply G_on; exact rfl; (apply G1_assign; exact rfl; exact rfl)) | apply G_nil | apply Post_next | apply W_ret | apply Post_then_ret | apply Post_block_ret)
          refine Post_ret Tryd.results57 ⟨_, _, _, rfl, rfl, run_loadVar_box T.a24 (by assumption) rfl, _, _, rfl, rfl, rfl⟩ ?_
          refine .inl ⟨.mk 3 (mkStr ((bs.drop k1).take n.toNat)) 0 [], s.length + 3 + n.toNat + 2, leafR 3 (mkStr ((bs.drop k1).take n.toNat)) 0, by rw [hcs]; exact rdT_leaf (hrd.trans (by unfold rdLine; rw [if_neg m0, if_neg m1, hnum]; simp only; rw [if_neg m2, if_pos m3, if_neg hn1, if_pos hok2])), rfl, leaf_at (by omega) fit0, ?_, tf.x⟩
          rw [show k + (s.length + 3 + n.toNat + 2) = k1 + n.toNat + 2 by omega]
          exact tf.st
        · have hcut2 : ∀ w', Ext w4 w' → Ctr Tryd.prog 58 [.slice (subp p c k1 1) (bs.length - k1) (c - k1), .int .i64 n] w' (fun v w'' => v = .tuple #[.string ⟨#[]⟩, .bool false] ∧ Ext w' w'') := fun w' hx => by
            by_cases hr : 0 ≤ n ∧ n ≤ ((bs.drop k1).length : Int)
            · have e : n = ((n.toNat : Nat) : Int) := by omega
              have := cut_spec (hD4.ext hx) (k := n.toNat) (by omega)
              rw [if_neg (fun e => hok2 ⟨hr.1, hr.2, e⟩), ← e, hL] at this
              exact this
            · have := cut_no (hD4.ext hx) hr
              rw [hL] at this
              exact this
          have hsz : (⟨#[]⟩ : ByteArray).size = 0 := rfl
          repeat' (first | (apply G_on; exact rfl; first | ((first | apply G1_assign | apply G1_move); exact rfl; exact rfl) | (apply G1_sindexJ (q := 0) (s := mkStr (m :: s)); exact T.str9; exact rfl; exact rfl; exact rfl; omega; exact rfl) | (apply G1_ssliceLoE (r := mkStr s); exact T.str9; exact rfl; exact rfl; omega; omega; exact mkStr_tail m s; exact rfl) | (apply G1_call (f := 60); exact rfl; exact rfl; exact rfl; exact nparse_yes hIs (TabIs.ext hT4 (by repeat first | assumption | exact Ext.rfl' | apply Ext.drew | apply Ext.alloc | refine Ext.trans ?_ (by assumption))); rintro _ w5 ⟨rfl, hx5⟩; refine ⟨(by first | exact .inl rfl | exact .inr (by assumption)), ?_⟩; (first | replace hinp := hinp.ext hx5 | replace hinp := hinp.ext ((Ext.drew Ext.rfl').trans hx5)); (first | replace hpos := hpos.ext hx5 | replace hpos := hpos.ext ((Ext.drew Ext.rfl').trans hx5)); (first | replace hA5 := hA5.ext hx5 | replace hA5 := hA5.ext ((Ext.drew Ext.rfl').trans hx5))) | (apply G1_sliceLoJ (q := k1); exact T.s28; exact rfl; exact rfl; exact rfl; exact hok; omega; exact rfl) | (apply G1_call (f := 58); exact rfl; exact rfl; exact rfl; exact hcut2 _ (by repeat first | assumption | exact Ext.rfl' | apply Ext.drew | apply Ext.alloc | refine Ext.trans ?_ (by assumption)); rintro _ w6 ⟨rfl, hx6⟩; refine ⟨(by first | exact .inl rfl | exact .inr (by assumption)), ?_⟩; (first | replace hinp := hinp.ext hx6 | replace hinp := hinp.ext ((Ext.drew Ext.rfl').trans hx6)); (first | replace hpos := hpos.ext hx6 | replace hpos := hpos.ext ((Ext.drew Ext.rfl').trans hx6)); (first | replace hA5 := hA5.ext hx6 | replace hA5 := hA5.ext ((Ext.drew Ext.rfl').trans hx6))) | (apply G1_loadB; (first | exact T.p28 | exact T.p3); exact rfl; assumption; exact rfl; exact rfl) | (apply G1_extract; exact rfl; exact rfl; exact rfl) | (apply G1_not_t; exact rfl; exact rfl) | (apply G1_pick_t; exact rfl; exact rfl; exact rfl) | (apply G1_slen; exact T.str9; exact rfl; exact rfl) | (apply G1_add; exact rfl; exact rfl; omega; omega; exact rfl) | (apply G1_eql; exact rfl; exact rfl; exact rfl)) | apply G_nil | apply Post_next | apply W_seq | apply W_region | (apply W_cond_false; exact rfl) | (apply W_cond_dec; exact rfl; all_goals (intro h; try (exfalso; omega))) | ((fail_if_success (apply G_on; exact rfl)); apply G_split_dec; exact rfl; exact rfl; all_goals (intro h; try (exfalso; omega))) | refine W_drawn 1 [] [0,1,2,3,4,5] mixed (by decide +kernel) ?_ | apply W_skip | apply W_block | apply Post_block_normal)
          have t6 := t4.xt (show Ext w4 w6 from (by repeat first | assumption | exact Ext.rfl' | apply Ext.drew | apply Ext.alloc | refine Ext.trans ?_ (by assumption)))
          apply G_on; exact rfl; apply G1_storeB; exact T.z3; exact rfl; exact rfl; exact hpos; exact rfl; exact rfl; (first | exact Nat.le_of_ble_eq_true rfl | (focus (simp [Value.cells]; done))); (first | exact Enc.one _ _ | (focus (simp [Value.oneCell']; done)) | (focus (simp [Value.cells, Value.oneCell']; done)) | exact Enc.oneAgg _ _); exact rfl; (first | exact .inl rfl | exact .inr (by simp [exempt])); exact rfl; intro w7 hP7 hg7 hs7
          replace hP7 : Blk w7.heap aa 3 [.int .i64 ((k1 : Int) + (((⟨#[]⟩ : ByteArray).size : Int) + 2))] := hP7
          have e7 : (k1 : Int) + (((⟨#[]⟩ : ByteArray).size : Int) + 2) = ((k1 + 2 : Nat) : Int) := by rw [hsz]; push_cast; omega
          rw [e7] at hP7
          have t7 := t6.set hP7 hg7
          replace hA5 := hA5.grown hg7 (fun e => by injection e; omega)
          repeat' (first | (apply G_on; exact rfl; first | (apply G1_move; exact rfl; exact rfl) | (apply G1_call (f := 22); exact rfl; exact rfl; exact rfl; exact mk_str; rintro _ w8 ⟨rfl, hx8⟩; refine ⟨(by first | exact .inl rfl | exact .inr (by assumption)), ?_⟩; (first | replace hA5 := hA5.ext hx8 | replace hA5 := hA5.ext ((Ext.drew Ext.rfl').trans hx8)))) | apply G_nil | apply Post_next | apply W_seq | apply W_region)
          have t8 := t7.xt (show Ext w7 w8 from (by repeat first | assumption | exact Ext.rfl' | apply Ext.drew | apply Ext.alloc | refine Ext.trans ?_ (by assumption)))
          apply G_on; exact rfl; apply G1_storeB; exact T.z24; exact rfl; exact rfl; exact hA5; exact rfl; exact rfl; (first | exact Nat.le_of_ble_eq_true rfl | (focus (simp [Value.cells]; done))); (first | exact Enc.one _ _ | (focus (simp [Value.oneCell']; done)) | (focus (simp [Value.cells, Value.oneCell']; done)) | exact Enc.oneAgg _ _); exact rfl; (first | exact .inl rfl | exact .inr (by simp [exempt])); exact rfl; intro wf hAf hgf hsf
          replace hAf : Blk wf.heap a5 24 (eRep.enc (leafR 3 ⟨#[]⟩ 0)) := hAf
          have tf := t8.own hgf (fun q hq => by injection hq with hq; omega)
          repeat' (first | (apply G_on; exact rfl; (apply G1_assign; exact rfl; exact rfl)) | apply G_nil | apply Post_next | apply W_ret | apply Post_then_ret | apply Post_block_ret)
          refine Post_ret Tryd.results57 ⟨_, _, _, rfl, rfl, run_loadVar_box T.a24 (by assumption) rfl, _, _, rfl, rfl, rfl⟩ ?_
          refine .inr ⟨?_, leafR 3 ⟨#[]⟩ 0, _, rfl, tf.st, tf.x⟩
          rw [hcs]
          exact rdT_none (hrd.trans (by unfold rdLine; rw [if_neg m0, if_neg m1, hnum]; simp only; rw [if_neg m2, if_pos m3, if_neg hn1, if_neg hok2]))
    have hm3 : ¬ (m.toNat : Int) = 36 := u8_ne m3
    by_cases hm4 : m = 42 ∧ 0 ≤ n
    rotate_left
    · have hm5 : ¬ (m.toNat : Int) = 42 ∨ n < 0 := by
        by_cases m4 : m = 42
        · right
          have : ¬ 0 ≤ n := fun h0 => hm4 ⟨m4, h0⟩
          omega
        · exact .inl (u8_ne m4)
      repeat' (first | (apply G_on; exact rfl; first | ((first | apply G1_assign | apply G1_move); exact rfl; exact rfl) | (apply G1_sindexJ (q := 0) (s := mkStr (m :: s)); exact T.str9; exact rfl; exact rfl; exact rfl; omega; exact rfl) | (apply G1_ssliceLoE (r := mkStr s); exact T.str9; exact rfl; exact rfl; omega; omega; exact mkStr_tail m s; exact rfl) | (apply G1_build (.agg (eRep.enc zRep).toArray); exact rfl; exact bldZ; exact rfl) | (apply G1_call (f := 60); exact rfl; exact rfl; exact rfl; exact nparse_yes hIs (TabIs.ext hT4 (by repeat first | assumption | exact Ext.rfl' | apply Ext.drew | apply Ext.alloc | refine Ext.trans ?_ (by assumption))); rintro _ w5 ⟨rfl, hx5⟩; refine ⟨(by first | exact .inl rfl | exact .inr (by assumption)), ?_⟩; (first | replace hA5 := hA5.ext hx5 | replace hA5 := hA5.ext ((Ext.drew Ext.rfl').trans hx5))) | ((first | apply G1_extract | apply G1_neq | apply G1_lss); exact rfl; exact rfl; exact rfl) | (apply G1_not_t; exact rfl; exact rfl) | (apply G1_pick_t; exact rfl; exact rfl; exact rfl) | (apply G1_pick_f; exact rfl; exact rfl; exact rfl) | (apply G1_eql; exact rfl; exact rfl; exact rfl)) | apply G_nil | apply Post_next | apply W_seq | apply W_region | (apply W_cond_true; exact rfl) | (apply W_cond_false; exact rfl) | (apply W_cond_dec; exact rfl; all_goals (intro h; try (exfalso; omega))) | (apply G_off; exact rfl; exact rfl) | ((fail_if_success (apply G_on; exact rfl)); apply G_split_dec; exact rfl; exact rfl; all_goals (intro h; try (exfalso; omega))) | refine W_drawn 1 [] [0,1,2,3,4,5] mixed (by decide +kernel) ?_ | apply W_skip | apply W_block | apply Post_block_normal)
      all_goals
        have t5 := t4.xt (show Ext w4 w5 from (by repeat first | assumption | exact Ext.rfl' | apply Ext.drew | apply Ext.alloc | refine Ext.trans ?_ (by assumption)))
        apply G_on; exact rfl; apply G1_storeB; exact T.z24; exact rfl; exact rfl; exact hA5; exact rfl; exact rfl; (first | exact Nat.le_of_ble_eq_true rfl | (focus (simp [Value.cells]; done))); (first | exact Enc.one _ _ | (focus (simp [Value.oneCell']; done)) | (focus (simp [Value.cells, Value.oneCell']; done)) | exact Enc.oneAgg _ _); exact rfl; (first | exact .inl rfl | exact .inr (by simp [exempt])); exact rfl; intro wf hAf hgf hsf
        replace hAf : Blk wf.heap a5 24 (eRep.enc zRep) := hAf
        have tf := t5.own hgf (fun q hq => by injection hq with hq; omega)
        repeat' (first | (apply G_on; exact rfl; (apply G1_assign; exact rfl; exact rfl)) | apply G_nil | apply Post_next | apply W_ret | apply Post_then_ret | apply Post_block_ret)
        refine Post_ret Tryd.results57 ⟨_, _, _, rfl, rfl, run_loadVar_box T.a24 (by assumption) rfl, _, _, rfl, rfl, rfl⟩ ?_
        refine .inr ⟨?_, zRep, _, rfl, tf.st, tf.x⟩
        rw [hcs]
        exact rdT_none (hrd.trans (by unfold rdLine; rw [if_neg m0, if_neg m1, hnum]; simp only; rw [if_neg m2, if_neg m3, if_neg hm4]))
    have hrl : rdHead cs = .list n.toNat (s.length + 3) := hrd.trans (by unfold rdLine; rw [if_neg m0, if_neg m1, hnum]; simp only; rw [if_neg m2, if_neg m3, if_pos hm4])
    have hmm : (m.toNat : Int) = 42 := by rw [hm4.1]; rfl
    have hn0 := hm4.2
    repeat' (first | (apply G_on; exact rfl; first | ((first | apply G1_assign | apply G1_move); exact rfl; exact rfl) | (apply G1_sindexJ (q := 0) (s := mkStr (m :: s)); exact T.str9; exact rfl; exact rfl; exact rfl; omega; exact rfl) | (apply G1_ssliceLoE (r := mkStr s); exact T.str9; exact rfl; exact rfl; omega; omega; exact mkStr_tail m s; exact rfl) | (apply G1_build (.agg (eRep.enc (leafR 5 ⟨#[]⟩ 0)).toArray); exact rfl; exact bldK _; exact rfl) | (apply G1_call (f := 60); exact rfl; exact rfl; exact rfl; exact nparse_yes hIs (TabIs.ext hT4 (by repeat first | assumption | exact Ext.rfl' | apply Ext.drew | apply Ext.alloc | refine Ext.trans ?_ (by assumption))); rintro _ w5 ⟨rfl, hx5⟩; refine ⟨(by first | exact .inl rfl | exact .inr (by assumption)), ?_⟩; (first | replace hinp := hinp.ext hx5 | replace hinp := hinp.ext ((Ext.drew Ext.rfl').trans hx5)); (first | replace hpos := hpos.ext hx5 | replace hpos := hpos.ext ((Ext.drew Ext.rfl').trans hx5)); (first | replace hA5 := hA5.ext hx5 | replace hA5 := hA5.ext ((Ext.drew Ext.rfl').trans hx5))) | ((first | apply G1_extract | apply G1_neq | apply G1_lss | apply G1_geq); exact rfl; exact rfl; exact rfl) | (apply G1_not_t; exact rfl; exact rfl) | (apply G1_pick_f; exact rfl; exact rfl; exact rfl) | (apply G1_eql; exact rfl; exact rfl; exact rfl)) | apply G_nil | apply Post_next | apply W_seq | apply W_region | (apply W_cond_false; exact rfl) | (apply W_cond_dec; exact rfl; all_goals (intro h; try (exfalso; omega))) | (apply G_off; exact rfl; exact rfl) | ((fail_if_success (apply G_on; exact rfl)); apply G_split_dec; exact rfl; exact rfl; all_goals (intro h; try (exfalso; omega))) | refine W_drawn 1 [] [0,1,2,3,4,5] mixed (by decide +kernel) ?_ | apply W_skip | apply W_block | apply Post_block_normal)
    have t5 := t4.xt (show Ext w4 w5 from (by repeat first | assumption | exact Ext.rfl' | apply Ext.drew | apply Ext.alloc | refine Ext.trans ?_ (by assumption)))
    have ha5l := hA5.lt
    apply G_on; exact rfl; apply G1_alloc; exact T.zero24; exact rfl; exact rfl; intro a14 w6 ha14 hA14 hx6 hs6
    replace hA5 := hA5.ext hx6
    skip
    apply G_on; exact rfl; apply G1_storeB; exact T.z24; exact rfl; exact rfl; exact hA14; exact rfl; exact rfl; (first | exact Nat.le_of_ble_eq_true rfl | (focus (simp [Value.cells]; done))); (first | exact Enc.one _ _ | (focus (simp [Value.oneCell']; done)) | (focus (simp [Value.cells, Value.oneCell']; done)) | exact Enc.oneAgg _ _); exact rfl; (first | exact .inl rfl | exact .inr (by simp [exempt])); exact rfl; intro w7 hA7 hg7 hs7
    replace hA7 : Blk w7.heap a14 24 [.int .i64 5, .string ⟨#[]⟩, .int .i64 0, .slice none 0 0] := hA7
    replace hA5 := hA5.grown hg7 (fun e => by injection e; omega)
    have t7 := (t5.xt hx6).own hg7 (fun q hq => by injection hq with hq; omega)
    have hBw : w.heap.size ≤ w7.heap.size := t7.x.size
    have hB5 := hA5.lt
    have hB14 := hA7.lt
    repeat' (first | (apply G_on; exact rfl; (apply G1_move; exact rfl; exact rfl)) | apply G_nil | apply Post_next | apply W_seq | apply W_region | apply W_block)
    refine W_loop (ι := Nat × Nat × Option Addr × Nat × List RawR × List Rep) (fun y => [(0, .int .i64 (4 - ((d + 1 : Nat) : Int))), (3, .pointer (some (adr (bx aT) 0))), (5, .pointer (some (adr (bx a5) 0))), (14, .pointer (some (adr (bx a14) 0))), (107, .int .i64 n), (108, .int .i64 (y.1 : Int))])
      (fun y w' => TkS w0 w w' ab aa aT tT p c bs (k1 + y.2.1) ∧ Blk w'.heap a5 24 (eRep.enc zRep) ∧ Blk w'.heap a14 24 [.int .i64 5, .string ⟨#[]⟩, .int .i64 0, .slice y.2.2.1 y.2.2.2.2.1.length y.2.2.2.1] ∧
        Own w' w7.heap.size 24 eRep y.2.2.1 y.2.2.2.1 y.2.2.2.2.1 ∧ y.2.2.2.2.1.length = y.2.2.2.2.2.length ∧
        (∀ (q : Nat) r t, y.2.2.2.2.1[q]? = some r → y.2.2.2.2.2[q]? = some t → RepAt (veil (fun b => b < w7.heap.size ∨ blk y.2.2.1 = some b) w'.heap) (d + 1) r t) ∧
        rdL (rdT d) y.1 (bs.drop k1) = some (y.2.2.2.2.2, y.2.1) ∧ y.1 ≤ n.toNat ∧ w7.heap.size ≤ w'.heap.size) (fun y => n.toNat - y.1) (0, 0, none, 0, [], []) ⟨rfl, rfl, rfl, rfl, rfl, rfl, trivial⟩
      ⟨t7, hA5, hA7, Own.nil _ _ _ _, rfl, fun q r t hq => by simp at hq, rfl, Nat.zero_le _, Nat.le_refl _⟩ ?_
    clear hA5 hA7 t7
    rintro ⟨i, j, pl, cl, rs, ts⟩ w8 ⟨t8, hA5, hA14, hO, hrt, hEl, hrdl, hin, hB8⟩
    simp only at t8 hA14 hO hrt hEl hrdl hin
    refine W_keep [(0, .int .i64 (4 - ((d + 1 : Nat) : Int))), (3, .pointer (some (adr (bx aT) 0))), (5, .pointer (some (adr (bx a5) 0))), (14, .pointer (some (adr (bx a14) 0))), (107, .int .i64 n), (108, .int .i64 (i : Int))] ⟨rfl, rfl, rfl, rfl, rfl, rfl, trivial⟩ ?_
    obtain ⟨hti, h3i, hjl⟩ := rdL_len (rdT_len d) _ _ _ _ hrdl
    rw [hL] at hjl
    have hge := hO.ge
    by_cases hlt : (i : Int) < n
    · have htk := t8.st.take
      have ihc := ih (w := w8) (k := k1 + j) (by omega) hbs t8.st (by omega)
      have e4 : (4 - ((d + 1 : Nat) : Int)) + 1 = 4 - (d : Int) := by push_cast; omega
      rw [← e4] at ihc
      repeat' (first | (apply G_on; exact rfl; first | (apply G1_move; exact rfl; exact rfl) | (apply G1_loadB; exact plF; exact rfl; exact htk; exact rfl; exact rfl) | (apply G1_lss; exact rfl; exact rfl; exact rfl) | (apply G1_add; exact rfl; exact rfl; omega; omega; exact rfl)) | apply G_nil | apply Post_next | apply W_seq | apply W_region | (apply W_cond_dec; exact rfl; all_goals (intro h; try (exfalso; omega))) | apply W_skip | apply W_block)
      apply G_on; exact rfl; apply G1_callv; exact rfl; exact rfl; exact rfl; exact rfl; exact ihc; rintro v w9 hv; refine ⟨(by first | exact .inl rfl | exact .inr (by assumption)), ?_⟩
      unfold TakeR at hv
      rcases hv with ⟨t, j2, r, hr1, rfl, hr2, hr3, hr4⟩ | ⟨hr1, r, k9, rfl, hr3, hr4⟩
      · have hlen2 := rdT_len _ _ _ _ hr1
        simp only [List.length_drop] at hlen2
        have t9 := t8.call hr3 hr4
        have z9 := hr4.size
        replace hA5 := hr4.blk hA5 (exempt1 (by omega))
        replace hA14 := hr4.blk hA14 (exempt1 (by omega))
        replace hO := hO.kept hr4.grown1 (fun a' ha' e => by injection e with e; have := hge a'.block (by rw [ha']; rfl); omega)
        repeat' (apply G_on; exact rfl; first | (apply G1_move; exact rfl; exact rfl) | (apply G1_extract; exact rfl; exact rfl; exact rfl))
        apply G_on; exact rfl; apply G1_alloc; exact T.zero24; exact rfl; exact rfl; intro a15 w10 ha15 hA15 hx10 hs10
        skip
        apply G_on; exact rfl; apply G1_storeB; exact T.z24; exact rfl; exact rfl; exact hA15; exact rfl; exact rfl; (first | exact Nat.le_of_ble_eq_true rfl | (focus (simp [Value.cells]; done))); (first | exact Enc.one _ _ | (focus (simp [Value.oneCell']; done)) | (focus (simp [Value.cells, Value.oneCell']; done)) | exact Enc.oneAgg _ _); exact rfl; (first | exact .inl rfl | exact .inr (by simp [exempt])); exact rfl; intro w11 hA11 hg11 hs11
        replace hA11 : Blk w11.heap a15 24 (eRep.enc r) := hA11
        have hx911 : Ext w9 w11 := hx10.own hg11 (fun q hq => by injection hq; omega)
        replace hA5 := hA5.ext hx911
        replace hA14 := hA14.ext hx911
        replace hO := hO.ext hx911
        have t11 := t9.xt hx911
        repeat' (first | (apply G_on; exact rfl; first | ((first | apply G1_assign | apply G1_move); exact rfl; exact rfl) | (apply G1_loadB; exact T.p22; exact rfl; assumption; exact rfl; exact rfl) | (apply G1_not_t; exact rfl; exact rfl) | (apply G1_fieldAddr; exact T.f24_3; exact rfl; exact rfl) | (apply G1_loadBAgg; exact T.a24; exact rfl; assumption; exact rfl; exact rfl)) | apply G_nil | apply Post_next | apply W_seq | apply W_region | (apply W_cond_false; exact rfl) | apply W_skip)
        apply G_on; exact rfl
        apply G1_build1 eRep r; exact T.s22; exact rfl; exact rfl; exact rfl; decide; exact rfl; exact rfl
        intro p12 w12 hp12 hs12 _ hx12 hz12
        replace hA5 := hA5.ext hx12
        replace hA14 := hA14.ext hx12
        replace hO := hO.ext hx12
        have t12 := t11.xt hx12
        have z12 := hx911.size
        repeat' (apply G_on; exact rfl; first | (apply G1_appendA; exact T.s22; exact rfl; exact rfl; exact hO; exact hs12; exact rfl; omega; (simp only [List.length_cons, List.length_nil]; omega); (simp only [List.length_cons, List.length_nil]; omega); exact rfl; exact rfl; exact rfl; intro p13 c13 w13 ha13) | (apply G1_fieldAddr; exact T.f24_3; exact rfl; exact rfl))
        have z13 := ha13.grown.size
        have t13 := t12.own ha13.grown (fun q hq => by have := hge q hq; omega)
        replace hA5 := hA5.grown ha13.grown (fun e => by have := hge _ e; omega)
        replace hA14 := hA14.grown ha13.grown (fun e => by have := hge _ e; omega)
        apply G_on; exact rfl; apply G1_storeB; exact T.z22; exact rfl; exact rfl; exact hA14; exact rfl; exact rfl; (first | exact Nat.le_of_ble_eq_true rfl | (focus (simp [Value.cells]; done))); (first | exact Enc.one _ _ | (focus (simp [Value.oneCell']; done)) | (focus (simp [Value.cells, Value.oneCell']; done)) | exact Enc.oneAgg _ _); exact rfl; (first | exact .inl rfl | exact .inr (by simp [exempt])); exact rfl; intro w14 hA14' hg14 hs14
        replace hA14' : Blk w14.heap a14 24 [.int .i64 5, .string ⟨#[]⟩, .int .i64 0, .slice p13 (rs ++ [r]).length c13] := hA14'
        have t14 := t13.own hg14 (fun q hq => by injection hq with hq; omega)
        replace hA5 := hA5.grown hg14 (fun e => by injection e; omega)
        have hO14 := ha13.own.kept hg14 (fun a' ha' e => by injection e with e; have := ha13.own.ge a'.block (by rw [ha']; rfl); omega)
        have hnew : ∀ b, b < w9.heap.size → blk pl ≠ some b → blk p13 ≠ some b := fun b hb hne e => by
          have hnp := ha13.new
          unfold NewP at hnp
          rcases hnp with h | h
          · exact hne (by rw [← h]; exact e)
          · have := h b e; have := hx12.size; omega
        have hblk : ∀ b, b < w9.heap.size → w7.heap.size ≤ b → blk pl ≠ some b → w14.heap[b]? = w9.heap[b]? := fun b hb hb2 hne => by
          rw [hg14.block b (by omega) (fun e => by injection e; omega), ha13.grown.block b (by have := hx12.size; omega) (fun e => hne e.symm), hx12.block b (by omega), hx911.block b hb]
        repeat' (first | (apply G_on; exact rfl; first | (apply G1_move; exact rfl; exact rfl) | (apply G1_add; exact rfl; exact rfl; omega; omega; exact rfl)) | apply G_nil | apply Post_next | apply W_region | apply Post_block_normal)
        refine Post_round (i + 1, j + j2, p13, c13, rs ++ [r], ts ++ [t]) ⟨rfl, rfl, rfl, rfl, rfl, rfl, trivial⟩ ⟨by simp only; rw [← Nat.add_assoc]; exact t14, hA5, hA14', hO14, by simp [hrt], ?_, ?_, by simp only; omega, by omega⟩ (by simp only; omega)
        · intro q r' t' hr' ht'
          simp only at hr' ht' ⊢
          by_cases hq : q < rs.length
          · rw [List.getElem?_append_left hq] at hr'
            rw [List.getElem?_append_left (by omega)] at ht'
            refine (hEl q r' t' hr' ht').hide (fun b hb hbl => ?_)
            have hb1 : ¬ b < w7.heap.size := fun h => hb (.inl h)
            have hb2 : blk pl ≠ some b := fun h => hb (.inr h)
            refine ⟨fun h => h.elim hb1 (hnew b (by omega) hb2), ?_⟩
            rw [hblk b (by omega) (by omega) hb2, hr4.block b hbl (exempt1 (by omega))]
          · have e1 := get_lt hr'
            rw [List.length_append, List.length_singleton] at e1
            obtain rfl : q = rs.length := by omega
            rw [List.getElem?_append_right (Nat.le_refl _), Nat.sub_self] at hr'
            rw [List.getElem?_append_right (by omega), hrt, Nat.sub_self] at ht'
            obtain rfl : r = r' := by simpa using hr'
            obtain rfl : t = t' := by simpa using ht'
            refine hr2.hide (fun b hb hbl => ?_)
            have hb2 : blk pl ≠ some b := fun h => by have := hge b h; omega
            exact ⟨fun h => h.elim (by omega) (hnew b hbl hb2), hblk b hbl (by omega) hb2⟩
        · simp only
          rw [rdL_snoc, hrdl]
          simp only [Option.bind_some, List.drop_drop, hr1, Option.map_some]
      · have t9 := t8.call hr3 hr4
        have z9 := hr4.size
        replace hA5 := hr4.blk hA5 (exempt1 (by omega))
        repeat' (apply G_on; exact rfl; first | (apply G1_move; exact rfl; exact rfl) | (apply G1_extract; exact rfl; exact rfl; exact rfl))
        apply G_on; exact rfl; apply G1_alloc; exact T.zero24; exact rfl; exact rfl; intro a15 w10 ha15 hA15 hx10 hs10
        skip
        apply G_on; exact rfl; apply G1_storeB; exact T.z24; exact rfl; exact rfl; exact hA15; exact rfl; exact rfl; (first | exact Nat.le_of_ble_eq_true rfl | (focus (simp [Value.cells]; done))); (first | exact Enc.one _ _ | (focus (simp [Value.oneCell']; done)) | (focus (simp [Value.cells, Value.oneCell']; done)) | exact Enc.oneAgg _ _); exact rfl; (first | exact .inl rfl | exact .inr (by simp [exempt])); exact rfl; intro w11 hA11 hg11 hs11
        have hx911 : Ext w9 w11 := hx10.own hg11 (fun q hq => by injection hq; omega)
        replace hA5 := hA5.ext hx911
        have t11 := t9.xt hx911
        repeat' (first | (apply G_on; exact rfl; first | ((first | apply G1_assign | apply G1_move); exact rfl; exact rfl) | (apply G1_build (.agg (eRep.enc zRep).toArray); exact rfl; exact bldZ; exact rfl) | (apply G1_not_f; exact rfl; exact rfl)) | apply G_nil | apply Post_next | apply W_seq | apply W_region | (apply W_cond_true; exact rfl))
        apply G_on; exact rfl; apply G1_storeB; exact T.z24; exact rfl; exact rfl; exact hA5; exact rfl; exact rfl; (first | exact Nat.le_of_ble_eq_true rfl | (focus (simp [Value.cells]; done))); (first | exact Enc.one _ _ | (focus (simp [Value.oneCell']; done)) | (focus (simp [Value.cells, Value.oneCell']; done)) | exact Enc.oneAgg _ _); exact rfl; (first | exact .inl rfl | exact .inr (by simp [exempt])); exact rfl; intro wf hAf hgf hsf
        replace hAf : Blk wf.heap a5 24 (eRep.enc zRep) := hAf
        have tf := t11.own hgf (fun q hq => by injection hq with hq; omega)
        repeat' (first | (apply G_on; exact rfl; (apply G1_assign; exact rfl; exact rfl)) | apply G_nil | apply Post_next | apply W_ret | apply Post_then_ret | apply Post_block_ret)
        refine Post_ret Tryd.results57 ⟨_, _, _, rfl, rfl, run_loadVar_box T.a24 (by assumption) rfl, _, _, rfl, rfl, rfl⟩ ?_
        refine .inr ⟨?_, zRep, _, rfl, tf.st, tf.x⟩
        rw [hcs, rdT_list hrl]
        have e5 : cs.drop (s.length + 3) = bs.drop k1 := by rw [hdk1, ← hsl]
        rw [e5, rdL_stop (n := i + 1) (by omega) (by
          rw [rdL_snoc, hrdl]
          simp only [Option.bind_some, List.drop_drop, hr1, Option.map_none])]
        rfl
    · have hi : i = n.toNat := by omega
      subst hi
      repeat' (first | (apply G_on; exact rfl; first | (apply G1_lss; exact rfl; exact rfl; exact rfl) | (apply G1_loadBAgg; exact T.a24; exact rfl; assumption; exact rfl; exact rfl)) | apply G_nil | apply Post_next | apply W_seq | apply W_region | (apply W_cond_dec; exact rfl; all_goals (intro h; try (exfalso; omega))) | apply W_exit | apply Post_then_exit | apply Post_block_exit)
      apply G_on; exact rfl; apply G1_storeB; exact T.z24; exact rfl; exact rfl; exact hA5; exact rfl; exact rfl; (first | exact Nat.le_of_ble_eq_true rfl | (focus (simp [Value.cells]; done))); (first | exact Enc.one _ _ | (focus (simp [Value.oneCell']; done)) | (focus (simp [Value.cells, Value.oneCell']; done)) | exact Enc.oneAgg _ _); exact rfl; (first | exact .inl rfl | exact .inr (by simp [exempt])); exact rfl; intro wf hAf hgf hsf
      replace hAf : Blk wf.heap a5 24 (eRep.enc ⟨5, ⟨#[]⟩, 0, pl, rs.length, cl⟩) := hAf
      have tf := t8.own hgf (fun q hq => by injection hq with hq; omega)
      have hOf := hO.kept hgf (fun a' ha' e => by injection e with e; have := hge a'.block (by rw [ha']; rfl); omega)
      repeat' (first | (apply G_on; exact rfl; (apply G1_assign; exact rfl; exact rfl)) | apply G_nil | apply Post_next | apply W_ret)
      refine Post_ret Tryd.results57 ⟨_, _, _, rfl, rfl, run_loadVar_box T.a24 (by assumption) rfl, _, _, rfl, rfl, rfl⟩ ?_
      refine .inl ⟨.mk 5 ⟨#[]⟩ 0 ts, s.length + 3 + j, ⟨5, ⟨#[]⟩, 0, pl, rs.length, cl⟩, ?_, rfl, ⟨rfl, rfl, rfl, hrt, nil_size, fit0, rs, hOf.hidden (fun q hq hlt => ?_), hrt, fun q r t hr ht => (hEl q r t hr ht).hide (fun b hb hbl => ⟨fun h => hb (.inl (by omega)), ?_⟩)⟩, ?_, tf.x⟩
      · have e5 : cs.drop (s.length + 3) = bs.drop k1 := by rw [hdk1, ← hsl]
        rw [hcs, rdT_list hrl, e5, hrdl]
        rfl
      · have := hge q hq; omega
      · exact hgf.block b hbl (fun e => by injection e with e; exact hb (.inl (by omega)))
      · rw [show k + (s.length + 3 + j) = k1 + j by omega]
        exact tf.st
end Go.Proofs.YtikjnmpijflnaaaDoor
