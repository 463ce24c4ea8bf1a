/- resp.Write: the walks of its closures and of itself. -/
import Derived.Test.YtikjnmpijflnaaaDoorVRepRight
import Derived.Test.YtikjnmpijflnaaaDoorVRepPlain
import Derived.Test.YtikjnmpijflnaaaDoorVNum1
namespace Go.V
section
variable {P : Program} {n : Nat} {ops : Array Oper} {dr : Nat × List Nat} {l : List Oper} {E : Env} {w : World} {K : Env → World → Prop}
theorem G1_callvS {f : FuncId} {first cap : Array Value} {x : Operand} {d : Option Nat} {args : Array Operand} {tys : Array TypeId} {ty : TypeId} {pos : String} {af : Array Edge} {g : Option (Nat × Bool)} {vs : List Value} {Φ : Value → World → Prop}
    (hf : E.look x = some (.func (.func f) first cap)) (hargs : E.looks args.toList = some vs) (he : effects P dr.1 ⟨d, .call ⟨.value x, args, tys⟩, ty, pos, af, g⟩ = true) (hd : dstOk n d = true)
    (hc : Ctr P f (first.toList ++ vs ++ cap.toList) w Φ) (h : ∀ v w', Φ v w' → (writes dr.1 ⟨d, .call ⟨.value x, args, tys⟩, ty, pos, af, g⟩ = true ∨ ExtS dr.2 w w') ∧ G P n ops dr l (E.put d v) w' K) :
    G1 P n ops dr ⟨d, .call ⟨.value x, args, tys⟩, ty, pos, af, g⟩ l E w K := by
  unfold Ctr at hc
  unfold G1 G at *
  intro a ha hw
  refine .inr ⟨he, hw, ?_⟩
  have hm : args.map a.eval = vs.toArray := by
    rw [← ha.evals hargs]; apply Array.ext'; simp
  unfold stepX Oper.wp
  have e1 : first ++ vs.toArray ++ cap = (first.toList ++ vs ++ cap.toList).toArray := by
    apply Array.ext'; simp
  have : (execOp a.eval ⟨d, .call ⟨.value x, args, tys⟩, ty, pos, af, g⟩).run P w = .ok (.enter f (first.toList ++ vs ++ cap.toList).toArray) w := by
    rw [← e1]
    simp [execOp, resolve, Deferred.ofValue, ha.eval hf, invoke, hm, run_callFunc hc.1]
  rw [this]
  refine Calls.mono hc.2 ?_
  rintro e w' ⟨v, rfl, hv⟩
  exact ⟨(h v w' hv).1, (h v w' hv).2 _ (ha.put _ _ (dstOk_spec hd))⟩
end
theorem ExtS.blk {S : List Nat} {w w' : World} {b : Nat} {t : TypeId} {cs : List Value} (h : ExtS S w w') (hb : Blk w.heap b t cs) (hs : exempt S b = false) : Blk w'.heap b t cs := by
  have := h.block b hb.lt hs
  unfold Blk at *
  rw [this]; exact hb
/-- the block of an address, or another -/
def pblk (p : Option Addr) (a : Nat) : Nat := (blk p).getD a
theorem exempt3 {a g k : Nat} (h1 : k ≠ a) (h2 : k ≠ g) : exempt [a, g, g] k = false := by
  simp [exempt, h1, h2]
theorem exempt3_a {a g : Nat} : exempt [a, g, g] a = true := by simp [exempt]
theorem exempt3_g {a g : Nat} : exempt [a, g, g] g = true := by simp [exempt]
/-- the block of the row goes on to one that is new, or stays -/
theorem ExtS.then3 {w w1 w2 : World} {a g g' : Nat} (h : ExtS [a, g, g] w w1) (k : ExtS [a, g', g'] w1 w2) (hn : g' = g ∨ w.heap.size ≤ g' ∨ g' = a) : ExtS [a, g, g] w w2 :=
  ⟨k.os.trans h.os, k.tape.trans h.tape, k.output.trans h.output, Nat.le_trans h.size k.size, fun i hi hs => by
    have h1 := h.block i hi hs
    have hne : i ≠ a ∧ i ≠ g := by
      constructor
      · intro e; subst e; rw [exempt3_a] at hs; cases hs
      · intro e; subst e; rw [exempt3_g] at hs; cases hs
    rw [k.block i (Nat.lt_of_lt_of_le hi h.size) (exempt3 hne.1 (by rcases hn with rfl | hn | rfl <;> omega)), h1]⟩
end Go.V
namespace Go.Proofs.YtikjnmpijflnaaaDoor
open Go.V
attribute [local irreducible] Blk Own hcell IntT SliceT PlainT AggT SizeT StrT FieldT ZeroT EqT ArrT
theorem plL : PlainT Tryd.prog 64 := PlainT.of Tryd.underlying64 rfl
theorem plP : PlainT Tryd.prog 65 := PlainT.of Tryd.underlying65 rfl
structure PutSt (w0 w : World) (B a aL aP : Nat) (tL tP : TypeId) (p : Option Addr) (c : Nat) (bs : List UInt8) : Prop where
  ext : Ext w0 w
  box : Blk w.heap a 28 [.slice p bs.length c]
  line : Blk w.heap aL tL [.func (.func 38) #[] #[.pointer (some (adr (bx a) 0))]]
  put : Blk w.heap aP tP [.func (.func 39) #[] #[.pointer (some (adr (bx aL) 0)), .pointer (some (adr (bx a) 0)), .pointer (some (adr (bx aP) 0))]]
  own : Own w B 5 eByte p c bs
  h0 : w0.heap.size ≤ a
  h1 : a < B
  h2 : aL < B
  h3 : aP < B
  h4 : aL ≠ a
  h5 : aP ≠ a
  hB : B ≤ w.heap.size
section
variable {w0 w w' : World} {B a aL aP : Nat} {tL tP : TypeId} {p p' : Option Addr} {c c' : Nat} {bs : List UInt8}
theorem PutSt.xt (h : PutSt w0 w B a aL aP tL tP p c bs) (hx : Ext w w') : PutSt w0 w' B a aL aP tL tP p c bs :=
  ⟨h.ext.trans hx, h.box.ext hx, h.line.ext hx, h.put.ext hx, h.own.ext hx, h.h0, h.h1, h.h2, h.h3, h.h4, h.h5, Nat.le_trans h.hB hx.size⟩
/-- the row has been appended to, and is laid into its variable -/
theorem PutSt.app {bs' : List UInt8} {w1 w2 : World} (h : PutSt w0 w B a aL aP tL tP p c bs) (ha : App w w1 B 5 eByte p p' c' bs') (hb : Blk w2.heap a 28 [.slice p' bs'.length c']) (hg : w1.grownBy w2 (some a)) :
    PutSt w0 w2 B a aL aP tL tP p' c' bs' ∧ ExtS [a, pblk p a, pblk p a] w w2 := by
  have hge := h.own.ge
  have hge1 := ha.own.ge
  have g1 : ∀ k, k < B → blk p ≠ some k := fun k hk e => by have := (hge k e).1; omega
  have hB1 : B ≤ w1.heap.size := Nat.le_trans h.hB ha.grown.size
  have h1' := h.h1
  refine ⟨⟨?_, hb, ?_, ?_, ?_, h.h0, h.h1, h.h2, h.h3, h.h4, h.h5, Nat.le_trans hB1 hg.size⟩, ?_⟩
  · have e1 : Ext w0 w1 := h.ext.app ha (fun k hk => by have := (hge k hk).1; have := h.h0; omega)
    exact e1.own hg (fun k hk => by injection hk with hk; have := h.h0; omega)
  · exact (h.line.grown ha.grown (g1 aL h.h2)).grown hg (fun e => by injection e with e; exact h.h4 e.symm)
  · exact (h.put.grown ha.grown (g1 aP h.h3)).grown hg (fun e => by injection e with e; exact h.h5 e.symm)
  · exact ha.own.kept hg (fun a' ha' e => by injection e with e; have := (hge1 a'.block (by rw [ha']; rfl)).1; omega)
  · exact (ExtS.of_grown ha.grown (fun k hk => by
      have : pblk p a = k := by unfold pblk; rw [hk]; rfl
      rw [← this]; exact exempt3_g)).trans (ExtS.of_grown hg (fun k hk => by injection hk with hk; rw [← hk]; exact exempt3_a))
end
theorem pblk_new {w : World} {p p' : Option Addr} {a : Nat} (h : NewP w p p') : pblk p' a = pblk p a ∨ w.heap.size ≤ pblk p' a ∨ pblk p' a = a := by
  unfold NewP at h
  rcases h with h | h
  · left; unfold pblk; rw [h]
  · right
    cases hb : blk p' with
    | none => right; unfold pblk; rw [hb]; rfl
    | some k => left; have := h k hb; unfold pblk; rw [hb]; exact this

theorem wline_spec {w0 w : World} {B a aL aP : Nat} {tL tP : TypeId} {p : Option Addr} {c : Nat} {bs : List UInt8} {m : UInt8} {mi : Int} {s : ByteArray} (hm : mi = (m.toNat : Int)) (h : PutSt w0 w B a aL aP tL tP p c bs) (hl : bs.length + s.size ≤ 1000000000) :
    Ctr Tryd.prog 38 [.int .u8 mi, .string s, .pointer (some (adr (bx a) 0))] w (fun v w' => v = .tuple #[] ∧ ∃ p' c', PutSt w0 w' B a aL aP tL tP p' c' (bs ++ (m :: (s.data.toList ++ crlf))) ∧ ExtS [a, pblk p a, pblk p a] w w') := by
  subst hm
  have hss : s.data.toList.length = s.size := by rw [Array.length_toList]; rfl
  refine Ctr_of Tryd.func38 Tryd.ntmps38 rfl rfl rfl ?_
  have hb := h.box
  repeat' (first | (apply G_on; exact rfl; first | (apply G1_move; exact rfl; exact rfl) | (apply G1_loadB; exact T.p28; exact rfl; assumption; exact rfl; exact rfl)) | apply W_seq | apply W_region)
  apply G_on; exact rfl
  apply G1_build1 eByte m; exact T.s28; exact rfl; exact rfl; exact rfl; decide; exact rfl; exact rfl
  intro p1 w1 hp1 hs1 _ hx1 hz1
  have h1 := h.xt hx1
  have hb := h1.box
  have hO := h1.own
  have hBB := h1.hB
  repeat' (apply G_on; exact rfl; (apply G1_appendA; exact T.s28; exact rfl; exact rfl; exact hO; exact hs1; exact rfl; omega; (simp only [List.length_cons, List.length_nil]; omega); (simp only [List.length_cons, List.length_nil]; omega); exact rfl; exact rfl; exact rfl; intro p2 c2 w2 ha2))
  have hb3 := h1.box.grown ha2.grown (fun e => by have := (h1.own.ge a e).1; have := h1.h1; omega)
  apply G_on; exact rfl; apply G1_storeB; exact T.z28; exact rfl; exact rfl; exact hb3; exact rfl; exact rfl; (first | exact Nat.le_of_ble_eq_true rfl | (focus (simp [Value.cells]; done))); (first | exact Enc.one _ _ | (focus (simp [Value.oneCell']; done)) | (focus (simp [Value.cells, Value.oneCell']; done)) | exact Enc.oneAgg _ _); exact rfl; (first | exact .inl rfl | exact .inr (by simp [exempt])); exact rfl; intro w3 hc3 hg3 hs3
  replace hc3 : Blk w3.heap a 28 [.slice _ _ _] := hc3
  obtain ⟨h3, x3⟩ := h1.app ha2 hc3 hg3
  have hb := h3.box
  have hO := h3.own
  have hBB := h3.hB
  repeat' (first | (apply G_on; exact rfl; first | (apply G1_move; exact rfl; exact rfl) | (apply G1_appendStr; exact T.s28; exact T.str9; exact rfl; exact rfl; exact hO; exact hBB; (simp only [List.length_append, List.length_cons, List.length_nil]; omega); (simp only [List.length_append, List.length_cons, List.length_nil]; omega); exact rfl; exact rfl; exact rfl; intro p4 c4 w4 ha4) | (apply G1_loadB; exact T.p28; exact rfl; assumption; exact rfl; exact rfl)) | apply G_nil | apply Post_next | apply W_seq | apply W_region)
  have hb5 := h3.box.grown ha4.grown (fun e => by have := (h3.own.ge a e).1; have := h3.h1; omega)
  apply G_on; exact rfl; apply G1_storeB; exact T.z28; exact rfl; exact rfl; exact hb5; exact rfl; exact rfl; (first | exact Nat.le_of_ble_eq_true rfl | (focus (simp [Value.cells]; done))); (first | exact Enc.one _ _ | (focus (simp [Value.oneCell']; done)) | (focus (simp [Value.cells, Value.oneCell']; done)) | exact Enc.oneAgg _ _); exact rfl; (first | exact .inl rfl | exact .inr (by simp [exempt])); exact rfl; intro w5 hc5 hg5 hs5
  replace hc5 : Blk w5.heap a 28 [.slice _ _ _] := hc5
  obtain ⟨h5, x5⟩ := h3.app ha4 hc5 hg5
  have hb := h5.box
  have hO := h5.own
  have hBB := h5.hB
  repeat' (first | (apply G_on; exact rfl; first | (apply G1_appendStr (s := ⟨#[13, 10]⟩); exact T.s28; exact T.str9; exact rfl; exact rfl; exact hO; exact hBB; (simp only [List.length_append, List.length_cons, List.length_nil, hss]; show (_ + 2) * _ ≤ _; omega); (simp only [List.length_append, List.length_cons, List.length_nil, hss]; show _ + 2 ≤ _; omega); exact rfl; exact rfl; exact rfl; intro p6 c6 w6 ha6) | (apply G1_loadB; exact T.p28; exact rfl; assumption; exact rfl; exact rfl)) | apply G_nil | apply Post_next | apply W_region)
  have hb7 := h5.box.grown ha6.grown (fun e => by have := (h5.own.ge a e).1; have := h5.h1; omega)
  apply G_on; exact rfl; apply G1_storeB; exact T.z28; exact rfl; exact rfl; exact hb7; exact rfl; exact rfl; (first | exact Nat.le_of_ble_eq_true rfl | (focus (simp [Value.cells]; done))); (first | exact Enc.one _ _ | (focus (simp [Value.oneCell']; done)) | (focus (simp [Value.cells, Value.oneCell']; done)) | exact Enc.oneAgg _ _); exact rfl; (first | exact .inl rfl | exact .inr (by simp [exempt])); exact rfl; intro w7 hc7 hg7 hs7
  replace hc7 : Blk w7.heap a 28 [.slice _ _ _] := hc7
  obtain ⟨h7, x7⟩ := h5.app ha6 hc7 hg7
  have hb := h7.box
  have hO := h7.own
  have hBB := h7.hB
  repeat' apply G_nil
  refine Post_end Tryd.results38 (vs := []) rfl ?_
  have e0 : bs ++ [m] ++ s.data.toList ++ (⟨#[13, 10]⟩ : ByteArray).data.toList = bs ++ (m :: (s.data.toList ++ crlf)) := by simp [crlf]
  rw [e0] at h7
  exact ⟨rfl, p6, c6, h7, ((hx1.toS.trans x3).then3 x5 (by have := pblk_new (a := a) ha2.new; have := hx1.size; omega)).then3 x7 (by
    have n2 := pblk_new (a := a) ha2.new
    have n4 := pblk_new (a := a) ha4.new
    have z1 := hx1.size
    have z3 := x3.size
    omega)⟩
theorem itoaL (n : Int) : (itoaB n).data.toList = Lib.itoa n := by show (Lib.itoa n).toArray.toList = _; simp
theorem itoaS (n : Int) : (itoaB n).size = (Lib.itoa n).length := by show (Lib.itoa n).toArray.size = _; simp

theorem flat_take_le {α : Type} (f : α → List UInt8) (l : List α) (k : Nat) : ((l.take k).flatMap f).length ≤ (l.flatMap f).length := by
  have h : l.flatMap f = (l.take k).flatMap f ++ (l.drop k).flatMap f := by rw [← List.flatMap_append, List.take_append_drop]
  rw [h, List.length_append]; omega

theorem put_spec {w0 : World} (hT : Pow w0) : ∀ (d : Nat) {e : Nat} {r : RawR} {t : Rep} {w : World} {B a aL aP : Nat} {tL tP : TypeId} {p : Option Addr} {c : Nat} {bs : List UInt8}, rightT d t = true → RepAt w0.heap e r t → PutSt w0 w B a aL aP tL tP p c bs → bs.length + (wT d t).length ≤ 1000000000 →
    Ctr Tryd.prog 39 [.agg (eRep.enc r).toArray, .pointer (some (adr (bx aL) 0)), .pointer (some (adr (bx a) 0)), .pointer (some (adr (bx aP) 0))] w (fun v w' => v = .tuple #[] ∧ ∃ p' c', PutSt w0 w' B a aL aP tL tP p' c' (bs ++ wT d t)) := by
  intro d
  induction d with
  | zero =>
    intro e r t w B a aL aP tL tP p c bs hri hr h hlen
    have hlf := right_leaf hri
    obtain ⟨e, rs, rfl, hk, hs, hn, hl, hsz, hfit, hL⟩ := hr.open
    simp only [maxLen] at hsz
    have n1 := hL.sl.bound
    have hll := hL.len
    have hlo := hlf.lo
    have hhi := hlf.hi
    refine Ctr_of Tryd.func39 Tryd.ntmps39 rfl rfl rfl ?_
    repeat' (first | apply W_seq | apply W_region)
    apply G_on; exact rfl; apply G1_box; exact rfl; exact rfl; exact rfl; intro a4 w1 ha4 hA1 hx1 hs1
    replace hA1 : Blk w1.heap a4 24 [.int .i64 r.kind, .string r.s, .int .i64 r.n, .slice r.p r.len r.cap] := hA1
    rw [hk, hs, hn, hl] at hA1
    have h1 := h.xt hx1
    rcases (show t.kind = 0 ∨ t.kind = 1 ∨ t.kind = 2 ∨ t.kind = 3 ∨ t.kind = 4 ∨ t.kind = 5 by omega) with hk0 | hk0 | hk0 | hk0 | hk0 | hk0
    · have ew : wT 0 t = 43 :: (t.s.data.toList ++ crlf) := by simp [wT, wHead, hk0]
      rw [ew] at hlen ⊢
      have hln := h1.line
      repeat' (first | (apply G_on; exact rfl; first | (apply G1_assign; exact rfl; exact rfl) | (apply G1_loadB; exact plL; exact rfl; exact hln; exact rfl; exact rfl) | (apply G1_fieldAddr; (first | exact T.f24_0 | exact T.f24_1); exact rfl; exact rfl) | (apply G1_loadB; (first | exact T.p3 | exact T.p9); exact rfl; assumption; exact rfl; exact rfl) | (apply G1_eql; exact rfl; exact rfl; exact rfl)) | apply G_nil | apply Post_next | apply W_seq | apply W_region | (apply W_cond_dec; exact rfl; all_goals (intro h; try (exfalso; omega))) | apply W_block)
      apply G_on; exact rfl; apply G1_callv; exact rfl; exact rfl; exact rfl; exact rfl; exact wline_spec (m := 43) (by decide) h1 (by rw [size_list]; simp only [List.length_cons, List.length_append] at hlen; omega); rintro _ w2 ⟨rfl, p2, c2, h2, x2⟩; refine ⟨(by first | exact .inl rfl | exact .inr (by assumption)), ?_⟩
      repeat' (first | apply G_nil | apply Post_block_normal)
      refine Post_end Tryd.results39 (vs := []) rfl ?_
      exact ⟨rfl, p2, c2, h2⟩
    · have ew : wT 0 t = 45 :: (t.s.data.toList ++ crlf) := by simp [wT, wHead, hk0]
      rw [ew] at hlen ⊢
      have hln := h1.line
      repeat' (first | (apply G_on; exact rfl; first | (apply G1_assign; exact rfl; exact rfl) | (apply G1_loadB; exact plL; exact rfl; exact hln; exact rfl; exact rfl) | (apply G1_fieldAddr; (first | exact T.f24_0 | exact T.f24_1); exact rfl; exact rfl) | (apply G1_loadB; (first | exact T.p3 | exact T.p9); exact rfl; assumption; exact rfl; exact rfl) | (apply G1_eql; exact rfl; exact rfl; exact rfl)) | apply G_nil | apply Post_next | apply W_seq | apply W_region | (apply W_cond_dec; exact rfl; all_goals (intro h; try (exfalso; omega))) | apply W_block)
      apply G_on; exact rfl; apply G1_callv; exact rfl; exact rfl; exact rfl; exact rfl; exact wline_spec (m := 45) (by decide) h1 (by rw [size_list]; simp only [List.length_cons, List.length_append] at hlen; omega); rintro _ w2 ⟨rfl, p2, c2, h2, x2⟩; refine ⟨(by first | exact .inl rfl | exact .inr (by assumption)), ?_⟩
      repeat' (first | apply G_nil | apply Post_block_normal)
      refine Post_end Tryd.results39 (vs := []) rfl ?_
      exact ⟨rfl, p2, c2, h2⟩
    · have ew : wT 0 t = 58 :: (Lib.itoa t.n ++ crlf) := by simp [wT, wHead, hk0]
      rw [ew] at hlen ⊢
      obtain ⟨g, hg⟩ : ∃ g, g = pblk p a := ⟨_, rfl⟩
      have hgB : g = a ∨ B ≤ g := by
        rw [hg]
        cases hbk : blk p with
        | none => left; unfold pblk; rw [hbk]; rfl
        | some k => right; unfold pblk; rw [hbk]; exact (h1.own.ge k hbk).1
      have q1 := h1.h1
      have q2 := h1.h2
      have q4 := h1.h4
      have q5 := h1.hB
      have hgw : g < w1.heap.size := by
        rw [hg]
        cases hbk : blk p with
        | none => unfold pblk; rw [hbk]; show a < _; omega
        | some k => unfold pblk; rw [hbk]; exact (h1.own.ge k hbk).2
      have hgw0 : g < w.heap.size := by
        rw [hg]
        cases hbk : blk p with
        | none => unfold pblk; rw [hbk]; show a < _; have := h.hB; omega
        | some k => unfold pblk; rw [hbk]; exact (h.own.ge k hbk).2
      have xL : exempt [a, g, g] aL = false := exempt3 q4 (by omega)
      have xA : exempt [a, g, g] a4 = false := exempt3 (by have := h.hB; omega) (by omega)
      have hln := h1.line
      repeat' (first | (apply G_on; exact rfl; first | (apply G1_assign; exact rfl; exact rfl) | (apply G1_fieldAddr; exact T.f24_0; exact rfl; exact rfl) | (apply G1_loadB; exact T.p3; exact rfl; assumption; exact rfl; exact rfl) | (apply G1_eql; exact rfl; exact rfl; exact rfl)) | apply G_nil | apply Post_next | apply W_seq | apply W_region | (apply W_cond_dec; exact rfl; all_goals (intro h; try (exfalso; omega))) | apply W_block)
      refine W_drawn 1 [a, g, g] [0,1,2,3,4] mixed (by decide +kernel) ?_
      repeat' (apply G_on; exact rfl; first | (apply G1_loadBS; exact plL; exact rfl; exact hln; exact rfl; exact xL; exact rfl) | (apply G1_fieldAddr; exact T.f24_2; exact rfl; exact rfl) | (apply G1_loadBS; exact T.p3; exact rfl; assumption; exact rfl; (first | assumption | (focus (simp [exempt]; omega))); exact rfl))
      apply G_on; exact rfl; apply G1_callS; exact rfl; exact rfl; exact rfl; exact print_spec hfit.1 hfit.2 (TabIs.ext hT (Ext.drew h1.ext)); rintro _ w3 ⟨rfl, hx3⟩; refine ⟨(by first | exact .inl rfl | exact .inr hx3.toS), ?_⟩
      replace hx3 : Ext w1 w3 := (Ext.drew Ext.rfl').trans hx3
      have h3 := h1.xt hx3
      skip
      apply G_on; exact rfl
      apply G1_callvS; exact rfl; exact rfl; exact rfl; exact rfl; exact wline_spec (m := 58) (by decide) h3 (by rw [itoaS]; simp only [List.length_cons, List.length_append] at hlen; omega)
      rintro _ w4' ⟨rfl, p4, c4, h4, x4⟩
      refine ⟨.inr (by rw [hg]; exact x4), ?_⟩
      have hA4 := x4.blk (hA1.ext hx3) (by rw [← hg]; exact xA)
      repeat' (first | apply G_nil | apply Post_block_normal)
      refine Post_end Tryd.results39 (vs := []) rfl ?_
      rw [itoaL] at h4
      exact ⟨rfl, p4, c4, h4⟩
    · have ew : wT 0 t = 36 :: (Lib.itoa t.s.size ++ crlf ++ (t.s.data.toList ++ crlf)) := by simp [wT, wHead, hk0]
      rw [ew] at hlen ⊢
      obtain ⟨g, hg⟩ : ∃ g, g = pblk p a := ⟨_, rfl⟩
      have hgB : g = a ∨ B ≤ g := by
        rw [hg]
        cases hbk : blk p with
        | none => left; unfold pblk; rw [hbk]; rfl
        | some k => right; unfold pblk; rw [hbk]; exact (h1.own.ge k hbk).1
      have q1 := h1.h1
      have q2 := h1.h2
      have q4 := h1.h4
      have q5 := h1.hB
      have hgw : g < w1.heap.size := by
        rw [hg]
        cases hbk : blk p with
        | none => unfold pblk; rw [hbk]; show a < _; omega
        | some k => unfold pblk; rw [hbk]; exact (h1.own.ge k hbk).2
      have hgw0 : g < w.heap.size := by
        rw [hg]
        cases hbk : blk p with
        | none => unfold pblk; rw [hbk]; show a < _; have := h.hB; omega
        | some k => unfold pblk; rw [hbk]; exact (h.own.ge k hbk).2
      have xL : exempt [a, g, g] aL = false := exempt3 q4 (by omega)
      have xA : exempt [a, g, g] a4 = false := exempt3 (by have := h.hB; omega) (by omega)
      have hln := h1.line
      repeat' (first | (apply G_on; exact rfl; first | (apply G1_assign; exact rfl; exact rfl) | (apply G1_fieldAddr; exact T.f24_0; exact rfl; exact rfl) | (apply G1_loadB; exact T.p3; exact rfl; assumption; exact rfl; exact rfl) | (apply G1_eql; exact rfl; exact rfl; exact rfl)) | apply G_nil | apply Post_next | apply W_seq | apply W_region | (apply W_cond_dec; exact rfl; all_goals (intro h; try (exfalso; omega))) | apply W_block)
      refine W_drawn 1 [a, g, g] [0,1,2,3,4,5] mixed (by decide +kernel) ?_
      repeat' (apply G_on; exact rfl; first | (apply G1_loadBS; exact plL; exact rfl; exact hln; exact rfl; exact xL; exact rfl) | (apply G1_fieldAddr; exact T.f24_1; exact rfl; exact rfl) | (apply G1_loadBS; exact T.p9; exact rfl; assumption; exact rfl; (first | assumption | (focus (simp [exempt]; omega))); exact rfl) | (apply G1_slen; exact T.str9; exact rfl; exact rfl))
      apply G_on; exact rfl; apply G1_callS; exact rfl; exact rfl; exact rfl; exact print_spec (by omega) (by omega) (TabIs.ext hT (Ext.drew h1.ext)); rintro _ w3 ⟨rfl, hx3⟩; refine ⟨(by first | exact .inl rfl | exact .inr hx3.toS), ?_⟩
      replace hx3 : Ext w1 w3 := (Ext.drew Ext.rfl').trans hx3
      have h3 := h1.xt hx3
      skip
      apply G_on; exact rfl
      apply G1_callvS; exact rfl; exact rfl; exact rfl; exact rfl; exact wline_spec (m := 36) (by decide) h3 (by rw [itoaS]; simp only [List.length_cons, List.length_append] at hlen; omega)
      rintro _ w4' ⟨rfl, p4, c4, h4, x4⟩
      refine ⟨.inr (by rw [hg]; exact x4), ?_⟩
      have hA4 := x4.blk (hA1.ext hx3) (by rw [← hg]; exact xA)
      rw [itoaL] at h4
      have hb := h4.box
      have hO := h4.own
      have hBB := h4.hB
      have hss : t.s.data.toList.length = t.s.size := by rw [Array.length_toList]; rfl
      simp only [List.length_cons, List.length_append, hss, crlf, List.length_nil] at hlen
      repeat' (first | (apply G_on; exact rfl; first | (apply G1_appendStr (s := t.s); exact T.s28; exact T.str9; exact rfl; exact rfl; exact hO; exact hBB; (simp only [List.length_append, List.length_cons, List.length_nil, crlf]; omega); (simp only [List.length_append, List.length_cons, List.length_nil, crlf]; omega); exact rfl; exact rfl; exact rfl; intro p5 c5 w5 ha5) | (apply G1_fieldAddr; exact T.f24_1; exact rfl; exact rfl) | (apply G1_loadB; (first | exact T.p9 | exact T.p28); exact rfl; assumption; exact rfl; exact rfl)) | apply G_nil | apply Post_next | apply W_seq | apply W_region)
      have hb6 := h4.box.grown ha5.grown (fun e => by have := (h4.own.ge a e).1; have := h4.h1; omega)
      apply G_on; exact rfl; apply G1_storeB; exact T.z28; exact rfl; exact rfl; exact hb6; exact rfl; exact rfl; (first | exact Nat.le_of_ble_eq_true rfl | (focus (simp [Value.cells]; done))); (first | exact Enc.one _ _ | (focus (simp [Value.oneCell']; done)) | (focus (simp [Value.cells, Value.oneCell']; done)) | exact Enc.oneAgg _ _); exact rfl; (first | exact .inl rfl | exact .inr (by simp [exempt])); exact rfl; intro w6 hc6 hg6 hs6
      replace hc6 : Blk w6.heap a 28 [.slice _ _ _] := hc6
      obtain ⟨h6, x6⟩ := h4.app ha5 hc6 hg6
      have hb := h6.box
      have hO := h6.own
      have hBB := h6.hB
      repeat' (first | (apply G_on; exact rfl; first | (apply G1_appendStr (s := ⟨#[13, 10]⟩); exact T.s28; exact T.str9; exact rfl; exact rfl; exact hO; exact hBB; (simp only [List.length_append, List.length_cons, List.length_nil, hss, crlf]; show (_ + 2) * _ ≤ _; omega); (simp only [List.length_append, List.length_cons, List.length_nil, hss, crlf]; show _ + 2 ≤ _; omega); exact rfl; exact rfl; exact rfl; intro p7 c7 w7 ha7) | (apply G1_loadB; exact T.p28; exact rfl; assumption; exact rfl; exact rfl)) | apply G_nil | apply Post_next | apply W_region)
      have hb8 := h6.box.grown ha7.grown (fun e => by have := (h6.own.ge a e).1; have := h6.h1; omega)
      apply G_on; exact rfl; apply G1_storeB; exact T.z28; exact rfl; exact rfl; exact hb8; exact rfl; exact rfl; (first | exact Nat.le_of_ble_eq_true rfl | (focus (simp [Value.cells]; done))); (first | exact Enc.one _ _ | (focus (simp [Value.oneCell']; done)) | (focus (simp [Value.cells, Value.oneCell']; done)) | exact Enc.oneAgg _ _); exact rfl; (first | exact .inl rfl | exact .inr (by simp [exempt])); exact rfl; intro w8 hc8 hg8 hs8
      replace hc8 : Blk w8.heap a 28 [.slice _ _ _] := hc8
      obtain ⟨h8, x8⟩ := h6.app ha7 hc8 hg8
      have hb := h8.box
      have hO := h8.own
      have hBB := h8.hB
      repeat' (first | apply G_nil | apply Post_block_normal)
      refine Post_end Tryd.results39 (vs := []) rfl ?_
      have e0 : bs ++ (36 :: (Lib.itoa t.s.size ++ crlf)) ++ t.s.data.toList ++ (⟨#[13, 10]⟩ : ByteArray).data.toList = bs ++ (36 :: (Lib.itoa t.s.size ++ crlf ++ (t.s.data.toList ++ crlf))) := by simp [crlf]
      rw [e0] at h8
      exact ⟨rfl, p7, c7, h8⟩
    · have ew : wT 0 t = 36 :: ((⟨#[45, 49]⟩ : ByteArray).data.toList ++ crlf) := by simp [wT, wHead, hk0]
      rw [ew] at hlen ⊢
      have hln := h1.line
      repeat' (first | (apply G_on; exact rfl; first | (apply G1_assign; exact rfl; exact rfl) | (apply G1_loadB; exact plL; exact rfl; exact hln; exact rfl; exact rfl) | (apply G1_fieldAddr; exact T.f24_0; exact rfl; exact rfl) | (apply G1_loadB; exact T.p3; exact rfl; assumption; exact rfl; exact rfl) | (apply G1_eql; exact rfl; exact rfl; exact rfl)) | apply G_nil | apply Post_next | apply W_seq | apply W_region | (apply W_cond_dec; exact rfl; all_goals (intro h; try (exfalso; omega))) | apply W_block)
      apply G_on; exact rfl; apply G1_callv; exact rfl; exact rfl; exact rfl; exact rfl; exact wline_spec (m := 36) (s := ⟨#[45, 49]⟩) (by decide) h1 (by show bs.length + 2 ≤ _; simp only [List.length_cons, List.length_append] at hlen; omega); rintro _ w2 ⟨rfl, p2, c2, h2, x2⟩; refine ⟨(by first | exact .inl rfl | exact .inr (by assumption)), ?_⟩
      repeat' (first | apply G_nil | apply Post_block_normal)
      refine Post_end Tryd.results39 (vs := []) rfl ?_
      exact ⟨rfl, p2, c2, h2⟩
    · rw [right_zero, hk0] at hri
      simp at hri
  | succ d ih =>
    intro e r t w B a aL aP tL tP p c bs hri hr h hlen
    have hlf := right_leaf hri
    obtain ⟨e, rs, rfl, hk, hs, hn, hl, hsz, hfit, hL⟩ := hr.open
    simp only [maxLen] at hsz
    have n1 := hL.sl.bound
    have hll := hL.len
    have hlo := hlf.lo
    have hhi := hlf.hi
    refine Ctr_of Tryd.func39 Tryd.ntmps39 rfl rfl rfl ?_
    repeat' (first | apply W_seq | apply W_region)
    apply G_on; exact rfl; apply G1_box; exact rfl; exact rfl; exact rfl; intro a4 w1 ha4 hA1 hx1 hs1
    replace hA1 : Blk w1.heap a4 24 [.int .i64 r.kind, .string r.s, .int .i64 r.n, .slice r.p r.len r.cap] := hA1
    rw [hk, hs, hn, hl] at hA1
    have h1 := h.xt hx1
    rcases (show t.kind = 0 ∨ t.kind = 1 ∨ t.kind = 2 ∨ t.kind = 3 ∨ t.kind = 4 ∨ t.kind = 5 by omega) with hk0 | hk0 | hk0 | hk0 | hk0 | hk0
    · have ew : wT (d + 1) t = 43 :: (t.s.data.toList ++ crlf) := by simp [wT, wHead, hk0]
      rw [ew] at hlen ⊢
      have hln := h1.line
      repeat' (first | (apply G_on; exact rfl; first | (apply G1_assign; exact rfl; exact rfl) | (apply G1_loadB; exact plL; exact rfl; exact hln; exact rfl; exact rfl) | (apply G1_fieldAddr; (first | exact T.f24_0 | exact T.f24_1); exact rfl; exact rfl) | (apply G1_loadB; (first | exact T.p3 | exact T.p9); exact rfl; assumption; exact rfl; exact rfl) | (apply G1_eql; exact rfl; exact rfl; exact rfl)) | apply G_nil | apply Post_next | apply W_seq | apply W_region | (apply W_cond_dec; exact rfl; all_goals (intro h; try (exfalso; omega))) | apply W_block)
      apply G_on; exact rfl; apply G1_callv; exact rfl; exact rfl; exact rfl; exact rfl; exact wline_spec (m := 43) (by decide) h1 (by rw [size_list]; simp only [List.length_cons, List.length_append] at hlen; omega); rintro _ w2 ⟨rfl, p2, c2, h2, x2⟩; refine ⟨(by first | exact .inl rfl | exact .inr (by assumption)), ?_⟩
      repeat' (first | apply G_nil | apply Post_block_normal)
      refine Post_end Tryd.results39 (vs := []) rfl ?_
      exact ⟨rfl, p2, c2, h2⟩
    · have ew : wT (d + 1) t = 45 :: (t.s.data.toList ++ crlf) := by simp [wT, wHead, hk0]
      rw [ew] at hlen ⊢
      have hln := h1.line
      repeat' (first | (apply G_on; exact rfl; first | (apply G1_assign; exact rfl; exact rfl) | (apply G1_loadB; exact plL; exact rfl; exact hln; exact rfl; exact rfl) | (apply G1_fieldAddr; (first | exact T.f24_0 | exact T.f24_1); exact rfl; exact rfl) | (apply G1_loadB; (first | exact T.p3 | exact T.p9); exact rfl; assumption; exact rfl; exact rfl) | (apply G1_eql; exact rfl; exact rfl; exact rfl)) | apply G_nil | apply Post_next | apply W_seq | apply W_region | (apply W_cond_dec; exact rfl; all_goals (intro h; try (exfalso; omega))) | apply W_block)
      apply G_on; exact rfl; apply G1_callv; exact rfl; exact rfl; exact rfl; exact rfl; exact wline_spec (m := 45) (by decide) h1 (by rw [size_list]; simp only [List.length_cons, List.length_append] at hlen; omega); rintro _ w2 ⟨rfl, p2, c2, h2, x2⟩; refine ⟨(by first | exact .inl rfl | exact .inr (by assumption)), ?_⟩
      repeat' (first | apply G_nil | apply Post_block_normal)
      refine Post_end Tryd.results39 (vs := []) rfl ?_
      exact ⟨rfl, p2, c2, h2⟩
    · have ew : wT (d + 1) t = 58 :: (Lib.itoa t.n ++ crlf) := by simp [wT, wHead, hk0]
      rw [ew] at hlen ⊢
      obtain ⟨g, hg⟩ : ∃ g, g = pblk p a := ⟨_, rfl⟩
      have hgB : g = a ∨ B ≤ g := by
        rw [hg]
        cases hbk : blk p with
        | none => left; unfold pblk; rw [hbk]; rfl
        | some k => right; unfold pblk; rw [hbk]; exact (h1.own.ge k hbk).1
      have q1 := h1.h1
      have q2 := h1.h2
      have q4 := h1.h4
      have q5 := h1.hB
      have hgw : g < w1.heap.size := by
        rw [hg]
        cases hbk : blk p with
        | none => unfold pblk; rw [hbk]; show a < _; omega
        | some k => unfold pblk; rw [hbk]; exact (h1.own.ge k hbk).2
      have hgw0 : g < w.heap.size := by
        rw [hg]
        cases hbk : blk p with
        | none => unfold pblk; rw [hbk]; show a < _; have := h.hB; omega
        | some k => unfold pblk; rw [hbk]; exact (h.own.ge k hbk).2
      have xL : exempt [a, g, g] aL = false := exempt3 q4 (by omega)
      have xA : exempt [a, g, g] a4 = false := exempt3 (by have := h.hB; omega) (by omega)
      have hln := h1.line
      repeat' (first | (apply G_on; exact rfl; first | (apply G1_assign; exact rfl; exact rfl) | (apply G1_fieldAddr; exact T.f24_0; exact rfl; exact rfl) | (apply G1_loadB; exact T.p3; exact rfl; assumption; exact rfl; exact rfl) | (apply G1_eql; exact rfl; exact rfl; exact rfl)) | apply G_nil | apply Post_next | apply W_seq | apply W_region | (apply W_cond_dec; exact rfl; all_goals (intro h; try (exfalso; omega))) | apply W_block)
      refine W_drawn 1 [a, g, g] [0,1,2,3,4] mixed (by decide +kernel) ?_
      repeat' (apply G_on; exact rfl; first | (apply G1_loadBS; exact plL; exact rfl; exact hln; exact rfl; exact xL; exact rfl) | (apply G1_fieldAddr; exact T.f24_2; exact rfl; exact rfl) | (apply G1_loadBS; exact T.p3; exact rfl; assumption; exact rfl; (first | assumption | (focus (simp [exempt]; omega))); exact rfl))
      apply G_on; exact rfl; apply G1_callS; exact rfl; exact rfl; exact rfl; exact print_spec hfit.1 hfit.2 (TabIs.ext hT (Ext.drew h1.ext)); rintro _ w3 ⟨rfl, hx3⟩; refine ⟨(by first | exact .inl rfl | exact .inr hx3.toS), ?_⟩
      replace hx3 : Ext w1 w3 := (Ext.drew Ext.rfl').trans hx3
      have h3 := h1.xt hx3
      skip
      apply G_on; exact rfl
      apply G1_callvS; exact rfl; exact rfl; exact rfl; exact rfl; exact wline_spec (m := 58) (by decide) h3 (by rw [itoaS]; simp only [List.length_cons, List.length_append] at hlen; omega)
      rintro _ w4' ⟨rfl, p4, c4, h4, x4⟩
      refine ⟨.inr (by rw [hg]; exact x4), ?_⟩
      have hA4 := x4.blk (hA1.ext hx3) (by rw [← hg]; exact xA)
      repeat' (first | apply G_nil | apply Post_block_normal)
      refine Post_end Tryd.results39 (vs := []) rfl ?_
      rw [itoaL] at h4
      exact ⟨rfl, p4, c4, h4⟩
    · have ew : wT (d + 1) t = 36 :: (Lib.itoa t.s.size ++ crlf ++ (t.s.data.toList ++ crlf)) := by simp [wT, wHead, hk0]
      rw [ew] at hlen ⊢
      obtain ⟨g, hg⟩ : ∃ g, g = pblk p a := ⟨_, rfl⟩
      have hgB : g = a ∨ B ≤ g := by
        rw [hg]
        cases hbk : blk p with
        | none => left; unfold pblk; rw [hbk]; rfl
        | some k => right; unfold pblk; rw [hbk]; exact (h1.own.ge k hbk).1
      have q1 := h1.h1
      have q2 := h1.h2
      have q4 := h1.h4
      have q5 := h1.hB
      have hgw : g < w1.heap.size := by
        rw [hg]
        cases hbk : blk p with
        | none => unfold pblk; rw [hbk]; show a < _; omega
        | some k => unfold pblk; rw [hbk]; exact (h1.own.ge k hbk).2
      have hgw0 : g < w.heap.size := by
        rw [hg]
        cases hbk : blk p with
        | none => unfold pblk; rw [hbk]; show a < _; have := h.hB; omega
        | some k => unfold pblk; rw [hbk]; exact (h.own.ge k hbk).2
      have xL : exempt [a, g, g] aL = false := exempt3 q4 (by omega)
      have xA : exempt [a, g, g] a4 = false := exempt3 (by have := h.hB; omega) (by omega)
      have hln := h1.line
      repeat' (first | (apply G_on; exact rfl; first | (apply G1_assign; exact rfl; exact rfl) | (apply G1_fieldAddr; exact T.f24_0; exact rfl; exact rfl) | (apply G1_loadB; exact T.p3; exact rfl; assumption; exact rfl; exact rfl) | (apply G1_eql; exact rfl; exact rfl; exact rfl)) | apply G_nil | apply Post_next | apply W_seq | apply W_region | (apply W_cond_dec; exact rfl; all_goals (intro h; try (exfalso; omega))) | apply W_block)
      refine W_drawn 1 [a, g, g] [0,1,2,3,4,5] mixed (by decide +kernel) ?_
      repeat' (apply G_on; exact rfl; first | (apply G1_loadBS; exact plL; exact rfl; exact hln; exact rfl; exact xL; exact rfl) | (apply G1_fieldAddr; exact T.f24_1; exact rfl; exact rfl) | (apply G1_loadBS; exact T.p9; exact rfl; assumption; exact rfl; (first | assumption | (focus (simp [exempt]; omega))); exact rfl) | (apply G1_slen; exact T.str9; exact rfl; exact rfl))
      apply G_on; exact rfl; apply G1_callS; exact rfl; exact rfl; exact rfl; exact print_spec (by omega) (by omega) (TabIs.ext hT (Ext.drew h1.ext)); rintro _ w3 ⟨rfl, hx3⟩; refine ⟨(by first | exact .inl rfl | exact .inr hx3.toS), ?_⟩
      replace hx3 : Ext w1 w3 := (Ext.drew Ext.rfl').trans hx3
      have h3 := h1.xt hx3
      skip
      apply G_on; exact rfl
      apply G1_callvS; exact rfl; exact rfl; exact rfl; exact rfl; exact wline_spec (m := 36) (by decide) h3 (by rw [itoaS]; simp only [List.length_cons, List.length_append] at hlen; omega)
      rintro _ w4' ⟨rfl, p4, c4, h4, x4⟩
      refine ⟨.inr (by rw [hg]; exact x4), ?_⟩
      have hA4 := x4.blk (hA1.ext hx3) (by rw [← hg]; exact xA)
      rw [itoaL] at h4
      have hb := h4.box
      have hO := h4.own
      have hBB := h4.hB
      have hss : t.s.data.toList.length = t.s.size := by rw [Array.length_toList]; rfl
      simp only [List.length_cons, List.length_append, hss, crlf, List.length_nil] at hlen
      repeat' (first | (apply G_on; exact rfl; first | (apply G1_appendStr (s := t.s); exact T.s28; exact T.str9; exact rfl; exact rfl; exact hO; exact hBB; (simp only [List.length_append, List.length_cons, List.length_nil, crlf]; omega); (simp only [List.length_append, List.length_cons, List.length_nil, crlf]; omega); exact rfl; exact rfl; exact rfl; intro p5 c5 w5 ha5) | (apply G1_fieldAddr; exact T.f24_1; exact rfl; exact rfl) | (apply G1_loadB; (first | exact T.p9 | exact T.p28); exact rfl; assumption; exact rfl; exact rfl)) | apply G_nil | apply Post_next | apply W_seq | apply W_region)
      have hb6 := h4.box.grown ha5.grown (fun e => by have := (h4.own.ge a e).1; have := h4.h1; omega)
      apply G_on; exact rfl; apply G1_storeB; exact T.z28; exact rfl; exact rfl; exact hb6; exact rfl; exact rfl; (first | exact Nat.le_of_ble_eq_true rfl | (focus (simp [Value.cells]; done))); (first | exact Enc.one _ _ | (focus (simp [Value.oneCell']; done)) | (focus (simp [Value.cells, Value.oneCell']; done)) | exact Enc.oneAgg _ _); exact rfl; (first | exact .inl rfl | exact .inr (by simp [exempt])); exact rfl; intro w6 hc6 hg6 hs6
      replace hc6 : Blk w6.heap a 28 [.slice _ _ _] := hc6
      obtain ⟨h6, x6⟩ := h4.app ha5 hc6 hg6
      have hb := h6.box
      have hO := h6.own
      have hBB := h6.hB
      repeat' (first | (apply G_on; exact rfl; first | (apply G1_appendStr (s := ⟨#[13, 10]⟩); exact T.s28; exact T.str9; exact rfl; exact rfl; exact hO; exact hBB; (simp only [List.length_append, List.length_cons, List.length_nil, hss, crlf]; show (_ + 2) * _ ≤ _; omega); (simp only [List.length_append, List.length_cons, List.length_nil, hss, crlf]; show _ + 2 ≤ _; omega); exact rfl; exact rfl; exact rfl; intro p7 c7 w7 ha7) | (apply G1_loadB; exact T.p28; exact rfl; assumption; exact rfl; exact rfl)) | apply G_nil | apply Post_next | apply W_region)
      have hb8 := h6.box.grown ha7.grown (fun e => by have := (h6.own.ge a e).1; have := h6.h1; omega)
      apply G_on; exact rfl; apply G1_storeB; exact T.z28; exact rfl; exact rfl; exact hb8; exact rfl; exact rfl; (first | exact Nat.le_of_ble_eq_true rfl | (focus (simp [Value.cells]; done))); (first | exact Enc.one _ _ | (focus (simp [Value.oneCell']; done)) | (focus (simp [Value.cells, Value.oneCell']; done)) | exact Enc.oneAgg _ _); exact rfl; (first | exact .inl rfl | exact .inr (by simp [exempt])); exact rfl; intro w8 hc8 hg8 hs8
      replace hc8 : Blk w8.heap a 28 [.slice _ _ _] := hc8
      obtain ⟨h8, x8⟩ := h6.app ha7 hc8 hg8
      have hb := h8.box
      have hO := h8.own
      have hBB := h8.hB
      repeat' (first | apply G_nil | apply Post_block_normal)
      refine Post_end Tryd.results39 (vs := []) rfl ?_
      have e0 : bs ++ (36 :: (Lib.itoa t.s.size ++ crlf)) ++ t.s.data.toList ++ (⟨#[13, 10]⟩ : ByteArray).data.toList = bs ++ (36 :: (Lib.itoa t.s.size ++ crlf ++ (t.s.data.toList ++ crlf))) := by simp [crlf]
      rw [e0] at h8
      exact ⟨rfl, p7, c7, h8⟩
    · have ew : wT (d + 1) t = 36 :: ((⟨#[45, 49]⟩ : ByteArray).data.toList ++ crlf) := by simp [wT, wHead, hk0]
      rw [ew] at hlen ⊢
      have hln := h1.line
      repeat' (first | (apply G_on; exact rfl; first | (apply G1_assign; exact rfl; exact rfl) | (apply G1_loadB; exact plL; exact rfl; exact hln; exact rfl; exact rfl) | (apply G1_fieldAddr; exact T.f24_0; exact rfl; exact rfl) | (apply G1_loadB; exact T.p3; exact rfl; assumption; exact rfl; exact rfl) | (apply G1_eql; exact rfl; exact rfl; exact rfl)) | apply G_nil | apply Post_next | apply W_seq | apply W_region | (apply W_cond_dec; exact rfl; all_goals (intro h; try (exfalso; omega))) | apply W_block)
      apply G_on; exact rfl; apply G1_callv; exact rfl; exact rfl; exact rfl; exact rfl; exact wline_spec (m := 36) (s := ⟨#[45, 49]⟩) (by decide) h1 (by show bs.length + 2 ≤ _; simp only [List.length_cons, List.length_append] at hlen; omega); rintro _ w2 ⟨rfl, p2, c2, h2, x2⟩; refine ⟨(by first | exact .inl rfl | exact .inr (by assumption)), ?_⟩
      repeat' (first | apply G_nil | apply Post_block_normal)
      refine Post_end Tryd.results39 (vs := []) rfl ?_
      exact ⟨rfl, p2, c2, h2⟩
    · have hri2 : t.l.all (rightT d) = true := by
        rw [right_succ] at hri
        simp only [Bool.and_eq_true] at hri
        exact hri.2
      have ew : wT (d + 1) t = 42 :: (Lib.itoa rs.length ++ crlf) ++ t.l.flatMap (wT d) := by simp [wT, wHead, hk0, hll]
      rw [ew] at hlen ⊢
      obtain ⟨g, hg⟩ : ∃ g, g = pblk p a := ⟨_, rfl⟩
      have hgB : g = a ∨ B ≤ g := by
        rw [hg]
        cases hbk : blk p with
        | none => left; unfold pblk; rw [hbk]; rfl
        | some k => right; unfold pblk; rw [hbk]; exact (h1.own.ge k hbk).1
      have q1 := h1.h1
      have q2 := h1.h2
      have q4 := h1.h4
      have q5 := h1.hB
      have hgw : g < w1.heap.size := by
        rw [hg]
        cases hbk : blk p with
        | none => unfold pblk; rw [hbk]; show a < _; omega
        | some k => unfold pblk; rw [hbk]; exact (h1.own.ge k hbk).2
      have hgw0 : g < w.heap.size := by
        rw [hg]
        cases hbk : blk p with
        | none => unfold pblk; rw [hbk]; show a < _; have := h.hB; omega
        | some k => unfold pblk; rw [hbk]; exact (h.own.ge k hbk).2
      have xL : exempt [a, g, g] aL = false := exempt3 q4 (by omega)
      have xA : exempt [a, g, g] a4 = false := exempt3 (by have := h.hB; omega) (by omega)
      have hln := h1.line
      repeat' (first | (apply G_on; exact rfl; first | (apply G1_assign; exact rfl; exact rfl) | (apply G1_fieldAddr; exact T.f24_0; exact rfl; exact rfl) | (apply G1_loadB; exact T.p3; exact rfl; assumption; exact rfl; exact rfl) | (apply G1_eql; exact rfl; exact rfl; exact rfl)) | apply G_nil | apply Post_next | apply W_seq | apply W_region | (apply W_cond_dec; exact rfl; all_goals (intro h; try (exfalso; omega))) | apply W_block)
      refine W_drawn 1 [a, g, g] [0,1,2,3,4,5] mixed (by decide +kernel) ?_
      repeat' (apply G_on; exact rfl; first | (apply G1_loadBS; exact plL; exact rfl; exact hln; exact rfl; exact xL; exact rfl) | (apply G1_fieldAddr; exact T.f24_3; exact rfl; exact rfl) | (apply G1_loadBS; exact T.p22; exact rfl; assumption; exact rfl; (first | assumption | (focus (simp [exempt]; omega))); exact rfl) | (apply G1_len; exact T.s22; exact rfl; exact rfl))
      apply G_on; exact rfl; apply G1_callS; exact rfl; exact rfl; exact rfl; exact print_spec (by omega) (by omega) (TabIs.ext hT (Ext.drew h1.ext)); rintro _ w3 ⟨rfl, hx3⟩; refine ⟨(by first | exact .inl rfl | exact .inr hx3.toS), ?_⟩
      replace hx3 : Ext w1 w3 := (Ext.drew Ext.rfl').trans hx3
      have h3 := h1.xt hx3
      skip
      apply G_on; exact rfl
      apply G1_callvS; exact rfl; exact rfl; exact rfl; exact rfl; exact wline_spec (m := 42) (by decide) h3 (by rw [itoaS]; simp only [List.length_cons, List.length_append] at hlen; omega)
      rintro _ w4' ⟨rfl, p4, c4, h4, x4⟩
      refine ⟨.inr (by rw [hg]; exact x4), ?_⟩
      have hA4 := x4.blk (hA1.ext hx3) (by rw [← hg]; exact xA)
      rw [itoaL] at h4
      repeat' (first | (apply G_on; exact rfl; first | (apply G1_move; exact rfl; exact rfl) | (apply G1_fieldAddr; exact T.f24_3; exact rfl; exact rfl) | (apply G1_loadB; exact T.p22; exact rfl; assumption; exact rfl; exact rfl) | (apply G1_len; exact T.s22; exact rfl; exact rfl)) | apply G_nil | apply Post_next | apply W_seq | apply W_region | apply W_block)
      refine W_loop (ι := Nat × Option Addr × Nat) (fun y => [(1, .pointer (some (adr (bx aL) 0))), (2, .pointer (some (adr (bx a) 0))), (3, .pointer (some (adr (bx aP) 0))), (55, .slice r.p rs.length r.cap), (56, .int .i64 (rs.length : Int)), (57, .int .i64 (y.1 : Int))])
        (fun y w' => PutSt w0 w' B a aL aP tL tP y.2.1 y.2.2 (bs ++ (42 :: (Lib.itoa rs.length ++ crlf)) ++ (t.l.take y.1).flatMap (wT d)) ∧ y.1 ≤ rs.length) (fun y => rs.length - y.1) (0, p4, c4) ⟨rfl, rfl, rfl, rfl, rfl, rfl, trivial⟩ ⟨by simpa using h4, Nat.zero_le _⟩ ?_
      rintro ⟨i, p6, c6⟩ w6 ⟨h6, hi⟩
      simp only at h6 hi
      refine W_keep [(1, .pointer (some (adr (bx aL) 0))), (2, .pointer (some (adr (bx a) 0))), (3, .pointer (some (adr (bx aP) 0))), (55, .slice r.p rs.length r.cap), (56, .int .i64 (rs.length : Int)), (57, .int .i64 (i : Int))] ⟨rfl, rfl, rfl, rfl, rfl, rfl, trivial⟩ ?_
      have hL6 := hL.ext h6.ext
      have hsl6 := hL6.sl
      by_cases hlt : i < rs.length
      · obtain ⟨r', hr'⟩ := get_some hlt
        obtain ⟨t', ht'⟩ := get_some (xs := t.l) (k := i) (by omega)
        have hts := take_snoc ht'
        have hrt : rightT d t' = true := List.all_eq_true.1 hri2 t' (List.mem_of_getElem? ht')
        have hfl := flat_take_le (wT d) t.l (i + 1)
        rw [hts, List.flatMap_append, List.length_append] at hfl
        simp only [List.flatMap_cons, List.flatMap_nil, List.append_nil] at hfl
        simp only [List.length_append, List.length_cons] at hlen
        repeat' (first | (apply G_on; exact rfl; first | (apply G1_lss; exact rfl; exact rfl; exact rfl) | (apply G1_indexAddrN; exact T.s22; exact rfl; exact rfl; (first | assumption | exact Sl.ok (by assumption) | exact (Own.sl (by assumption)).ok); omega; exact rfl) | (apply G1_loadEl; exact T.a24; exact rfl; assumption; assumption; exact rfl; exact rfl)) | apply G_nil | apply Post_next | apply W_seq | apply W_region | (apply W_cond_dec; exact rfl; all_goals (intro h; try (exfalso; omega))) | apply W_skip | apply W_block)
        apply G_on; exact rfl; apply G1_alloc; exact T.zero24; exact rfl; exact rfl; intro a7 w7 ha7 hA7 hx7 hs7
        replace hsl6 := hsl6.ext hx7
        skip
        apply G_on; exact rfl; apply G1_storeB; exact T.z24; exact rfl; exact rfl; exact hA7; exact rfl; exact rfl; (first | exact Nat.le_of_ble_eq_true rfl | (focus (simp [Value.cells]; done))); (first | exact Enc.one _ _ | (focus (simp [Value.oneCell']; done)) | (focus (simp [Value.cells, Value.oneCell']; done)) | exact Enc.oneAgg _ _); exact rfl; (first | exact .inl rfl | exact .inr (by simp [exempt])); exact rfl; intro w8 hA8 hg8 hs8
        replace hA8 : Blk w8.heap a7 24 (eRep.enc r') := hA8
        have hx68 : Ext w6 w8 := hx7.own hg8 (fun k hk => by injection hk; omega)
        have h8 := h6.xt hx68
        have hpt := h8.put
        repeat' (first | (apply G_on; exact rfl; first | (apply G1_loadB; exact plP; exact rfl; exact hpt; exact rfl; exact rfl) | (apply G1_loadBAgg; exact T.a24; exact rfl; assumption; exact rfl; exact rfl)) | apply G_nil | apply Post_next | apply W_region)
        apply G_on; exact rfl; apply G1_callv; exact rfl; exact rfl; exact rfl; exact rfl; exact ih hrt (hL.get i r' t' hr' ht') h8 (by simp only [List.length_append, List.length_cons]; omega); rintro _ w9 ⟨rfl, p9, c9, h9⟩; refine ⟨(by first | exact .inl rfl | exact .inr (by assumption)), ?_⟩
        repeat' (first | (apply G_on; exact rfl; first | (apply G1_move; exact rfl; exact rfl) | (apply G1_add; exact rfl; exact rfl; omega; omega; exact rfl)) | apply G_nil | apply Post_next | apply W_region | apply Post_block_normal)
        exact Post_round (i + 1, p9, c9) ⟨rfl, rfl, rfl, rfl, rfl, rfl, trivial⟩ ⟨by simp only; rw [hts, List.flatMap_append, ← List.append_assoc]; simpa using h9, by simp only; omega⟩ (by simp only; omega)
      · rw [List.take_of_length_le (by omega)] at h6
        repeat' (first | (apply G_on; exact rfl; (apply G1_lss; exact rfl; exact rfl; exact rfl)) | apply G_nil | apply Post_next | apply W_seq | apply W_region | (apply W_cond_dec; exact rfl; all_goals (intro h; try (exfalso; omega))) | apply W_exit | apply Post_then_exit | apply Post_block_exit | apply Post_block_normal)
        refine Post_end Tryd.results39 (vs := []) rfl ?_
        exact ⟨rfl, p6, c6, by rw [← List.append_assoc]; exact h6⟩
end Go.Proofs.YtikjnmpijflnaaaDoor
