/- Texts of this proof laid together: RepWrite, BytesCut, BytesAny, BytesIndex. -/
import Derived.Test.YtikjnmpijflnaaaDoorVM3
import Derived.Lib.SlBytesConst
import Derived.Shelf.Spec.DecodeRune
/- resp.Write: the walks of its closures and of itself. -/
namespace Go.V
section
variable {P : Program} {n : Nat} {ops : Array Oper} {dr : Nat × List Nat} {l : List Oper} {E : Env} {w : World} {K : Env → World → Prop}
theorem G1_callvS {f : FuncId} {first cap : Array Value} {x : Operand} {d : Option Nat} {args : Array Operand} {tys : Array TypeId} {ty : TypeId} {pos : String} {af : Array Edge} {g : Option (Nat × Bool)} {vs : List Value} {Φ : Value → World → Prop}
    (hf : E.look x = some (.func (.func f) first cap)) (hargs : E.looks args.toList = some vs) (he : effects P dr.1 ⟨d, .call ⟨.value x, args, tys⟩, ty, pos, af, g⟩ = true) (hd : dstOk n d = true)
    (hc : Ctr P f (first.toList ++ vs ++ cap.toList) w Φ) (h : ∀ v w', Φ v w' → (writes dr.1 ⟨d, .call ⟨.value x, args, tys⟩, ty, pos, af, g⟩ = true ∨ ExtS dr.2 w w') ∧ G P n ops dr l (E.put d v) w' K) :
    G1 P n ops dr ⟨d, .call ⟨.value x, args, tys⟩, ty, pos, af, g⟩ l E w K := by
  unfold Ctr at hc
  unfold G1 G at *
  intro a ha hw
  refine .inr ⟨he, hw, ?_⟩
  have hm : args.map a.eval = vs.toArray := by
    rw [← ha.evals hargs]; apply Array.ext'; simp
  unfold stepX Oper.wp
  have e1 : first ++ vs.toArray ++ cap = (first.toList ++ vs ++ cap.toList).toArray := by
    apply Array.ext'; simp
  have : (execOp a.eval ⟨d, .call ⟨.value x, args, tys⟩, ty, pos, af, g⟩).run P w = .ok (.enter f (first.toList ++ vs ++ cap.toList).toArray) w := by
    rw [← e1]
    simp [execOp, resolve, Deferred.ofValue, ha.eval hf, invoke, hm, run_callFunc hc.1]
  rw [this]
  refine Calls.mono hc.2 ?_
  rintro e w' ⟨v, rfl, hv⟩
  exact ⟨(h v w' hv).1, (h v w' hv).2 _ (ha.put _ _ (dstOk_spec hd))⟩
end
theorem ExtS.blk {S : List Nat} {w w' : World} {b : Nat} {t : TypeId} {cs : List Value} (h : ExtS S w w') (hb : Blk w.heap b t cs) (hs : exempt S b = false) : Blk w'.heap b t cs := by
  have := h.block b hb.lt hs
  unfold Blk at *
  rw [this]; exact hb
/-- the block of an address, or another -/
def pblk (p : Option Addr) (a : Nat) : Nat := (blk p).getD a
theorem exempt3 {a g k : Nat} (h1 : k ≠ a) (h2 : k ≠ g) : exempt [a, g, g] k = false := by
  simp [exempt, h1, h2]
theorem exempt3_a {a g : Nat} : exempt [a, g, g] a = true := by simp [exempt]
theorem exempt3_g {a g : Nat} : exempt [a, g, g] g = true := by simp [exempt]
/-- the block of the row goes on to one that is new, or stays -/
theorem ExtS.then3 {w w1 w2 : World} {a g g' : Nat} (h : ExtS [a, g, g] w w1) (k : ExtS [a, g', g'] w1 w2) (hn : g' = g ∨ w.heap.size ≤ g' ∨ g' = a) : ExtS [a, g, g] w w2 :=
  ⟨k.os.trans h.os, k.tape.trans h.tape, k.output.trans h.output, Nat.le_trans h.size k.size, fun i hi hs => by
    have h1 := h.block i hi hs
    have hne : i ≠ a ∧ i ≠ g := by
      constructor
      · intro e; subst e; rw [exempt3_a] at hs; cases hs
      · intro e; subst e; rw [exempt3_g] at hs; cases hs
    rw [k.block i (Nat.lt_of_lt_of_le hi h.size) (exempt3 hne.1 (by rcases hn with rfl | hn | rfl <;> omega)), h1]⟩
end Go.V
namespace Go.Proofs.YtikjnmpijflnaaaDoor
open Go.V
attribute [local irreducible] Blk Own hcell IntT SliceT PlainT AggT SizeT StrT FieldT ZeroT EqT ArrT
theorem plL : PlainT Tryd.prog 64 := PlainT.of Tryd.underlying64 rfl
theorem plP : PlainT Tryd.prog 65 := PlainT.of Tryd.underlying65 rfl
structure PutSt (w0 w : World) (B a aL aP : Nat) (tL tP : TypeId) (p : Option Addr) (c : Nat) (bs : List UInt8) : Prop where
  ext : Ext w0 w
  box : Blk w.heap a 28 [.slice p bs.length c]
  line : Blk w.heap aL tL [.func (.func 38) #[] #[.pointer (some (adr (bx a) 0))]]
  put : Blk w.heap aP tP [.func (.func 39) #[] #[.pointer (some (adr (bx aL) 0)), .pointer (some (adr (bx a) 0)), .pointer (some (adr (bx aP) 0))]]
  own : Own w B 5 eByte p c bs
  h0 : w0.heap.size ≤ a
  h1 : a < B
  h2 : aL < B
  h3 : aP < B
  h4 : aL ≠ a
  h5 : aP ≠ a
  hB : B ≤ w.heap.size
section
variable {w0 w w' : World} {B a aL aP : Nat} {tL tP : TypeId} {p p' : Option Addr} {c c' : Nat} {bs : List UInt8}
theorem PutSt.xt (h : PutSt w0 w B a aL aP tL tP p c bs) (hx : Ext w w') : PutSt w0 w' B a aL aP tL tP p c bs :=
  ⟨h.ext.trans hx, h.box.ext hx, h.line.ext hx, h.put.ext hx, h.own.ext hx, h.h0, h.h1, h.h2, h.h3, h.h4, h.h5, Nat.le_trans h.hB hx.size⟩
/-- the row has been appended to, and is laid into its variable -/
theorem PutSt.app {bs' : List UInt8} {w1 w2 : World} (h : PutSt w0 w B a aL aP tL tP p c bs) (ha : App w w1 B 5 eByte p p' c' bs') (hb : Blk w2.heap a 28 [.slice p' bs'.length c']) (hg : w1.grownBy w2 (some a)) :
    PutSt w0 w2 B a aL aP tL tP p' c' bs' ∧ ExtS [a, pblk p a, pblk p a] w w2 := by
  have hge := h.own.ge
  have hge1 := ha.own.ge
  have g1 : ∀ k, k < B → blk p ≠ some k := fun k hk e => by have := (hge k e).1; omega
  have hB1 : B ≤ w1.heap.size := Nat.le_trans h.hB ha.grown.size
  have h1' := h.h1
  refine ⟨⟨?_, hb, ?_, ?_, ?_, h.h0, h.h1, h.h2, h.h3, h.h4, h.h5, Nat.le_trans hB1 hg.size⟩, ?_⟩
  · have e1 : Ext w0 w1 := h.ext.app ha (fun k hk => by have := (hge k hk).1; have := h.h0; omega)
    exact e1.own hg (fun k hk => by injection hk with hk; have := h.h0; omega)
  · exact (h.line.grown ha.grown (g1 aL h.h2)).grown hg (fun e => by injection e with e; exact h.h4 e.symm)
  · exact (h.put.grown ha.grown (g1 aP h.h3)).grown hg (fun e => by injection e with e; exact h.h5 e.symm)
  · exact ha.own.kept hg (fun a' ha' e => by injection e with e; have := (hge1 a'.block (by rw [ha']; rfl)).1; omega)
  · exact (ExtS.of_grown ha.grown (fun k hk => by
      have : pblk p a = k := by unfold pblk; rw [hk]; rfl
      rw [← this]; exact exempt3_g)).trans (ExtS.of_grown hg (fun k hk => by injection hk with hk; rw [← hk]; exact exempt3_a))
end
theorem pblk_new {w : World} {p p' : Option Addr} {a : Nat} (h : NewP w p p') : pblk p' a = pblk p a ∨ w.heap.size ≤ pblk p' a ∨ pblk p' a = a := by
  unfold NewP at h
  rcases h with h | h
  · left; unfold pblk; rw [h]
  · right
    cases hb : blk p' with
    | none => right; unfold pblk; rw [hb]; rfl
    | some k => left; have := h k hb; unfold pblk; rw [hb]; exact this

theorem wline_spec {w0 w : World} {B a aL aP : Nat} {tL tP : TypeId} {p : Option Addr} {c : Nat} {bs : List UInt8} {m : UInt8} {mi : Int} {s : ByteArray} (hm : mi = (m.toNat : Int)) (h : PutSt w0 w B a aL aP tL tP p c bs) (hl : bs.length + s.size ≤ 1000000000) :
    Ctr Tryd.prog 38 [.int .u8 mi, .string s, .pointer (some (adr (bx a) 0))] w (fun v w' => v = .tuple #[] ∧ ∃ p' c', PutSt w0 w' B a aL aP tL tP p' c' (bs ++ (m :: (s.data.toList ++ crlf))) ∧ ExtS [a, pblk p a, pblk p a] w w') := by
  subst hm
  have hss : s.data.toList.length = s.size := by rw [Array.length_toList]; rfl
  refine Ctr_of Tryd.func38 Tryd.ntmps38 rfl rfl rfl ?_
  have hb := h.box
  repeat' (first | (apply G_on; exact rfl; first | (apply G1_move; exact rfl; exact rfl) | (apply G1_loadB; exact T.p28; exact rfl; assumption; exact rfl; exact rfl)) | apply W_seq | apply W_region)
  apply G_on; exact rfl
  apply G1_build1 eByte m; exact T.s28; exact rfl; exact rfl; exact rfl; decide; exact rfl; exact rfl
  intro p1 w1 hp1 hs1 _ hx1 hz1
  have h1 := h.xt hx1
  have hb := h1.box
  have hO := h1.own
  have hBB := h1.hB
  repeat' (apply G_on; exact rfl; (apply G1_appendA; exact T.s28; exact rfl; exact rfl; exact hO; exact hs1; exact rfl; omega; (simp only [List.length_cons, List.length_nil]; omega); (simp only [List.length_cons, List.length_nil]; omega); exact rfl; exact rfl; exact rfl; intro p2 c2 w2 ha2))
  have hb3 := h1.box.grown ha2.grown (fun e => by have := (h1.own.ge a e).1; have := h1.h1; omega)
  apply G_on; exact rfl; apply G1_storeB; exact T.z28; exact rfl; exact rfl; exact hb3; exact rfl; exact rfl; (first | exact Nat.le_of_ble_eq_true rfl | (focus (simp [Value.cells]; done))); (first | exact Enc.one _ _ | (focus (simp [Value.oneCell']; done)) | (focus (simp [Value.cells, Value.oneCell']; done)) | exact Enc.oneAgg _ _); exact rfl; (first | exact .inl rfl | exact .inr (by simp [exempt])); exact rfl; intro w3 hc3 hg3 hs3
  replace hc3 : Blk w3.heap a 28 [.slice _ _ _] := hc3
  obtain ⟨h3, x3⟩ := h1.app ha2 hc3 hg3
  have hb := h3.box
  have hO := h3.own
  have hBB := h3.hB
  repeat' (first | (apply G_on; exact rfl; first | (apply G1_move; exact rfl; exact rfl) | (apply G1_appendStr; exact T.s28; exact T.str9; exact rfl; exact rfl; exact hO; exact hBB; (simp only [List.length_append, List.length_cons, List.length_nil]; omega); (simp only [List.length_append, List.length_cons, List.length_nil]; omega); exact rfl; exact rfl; exact rfl; intro p4 c4 w4 ha4) | (apply G1_loadB; exact T.p28; exact rfl; assumption; exact rfl; exact rfl)) | apply G_nil | apply Post_next | apply W_seq | apply W_region)
  have hb5 := h3.box.grown ha4.grown (fun e => by have := (h3.own.ge a e).1; have := h3.h1; omega)
  apply G_on; exact rfl; apply G1_storeB; exact T.z28; exact rfl; exact rfl; exact hb5; exact rfl; exact rfl; (first | exact Nat.le_of_ble_eq_true rfl | (focus (simp [Value.cells]; done))); (first | exact Enc.one _ _ | (focus (simp [Value.oneCell']; done)) | (focus (simp [Value.cells, Value.oneCell']; done)) | exact Enc.oneAgg _ _); exact rfl; (first | exact .inl rfl | exact .inr (by simp [exempt])); exact rfl; intro w5 hc5 hg5 hs5
  replace hc5 : Blk w5.heap a 28 [.slice _ _ _] := hc5
  obtain ⟨h5, x5⟩ := h3.app ha4 hc5 hg5
  have hb := h5.box
  have hO := h5.own
  have hBB := h5.hB
  repeat' (first | (apply G_on; exact rfl; first | (apply G1_appendStr (s := ⟨#[13, 10]⟩); exact T.s28; exact T.str9; exact rfl; exact rfl; exact hO; exact hBB; (simp only [List.length_append, List.length_cons, List.length_nil, hss]; show (_ + 2) * _ ≤ _; omega); (simp only [List.length_append, List.length_cons, List.length_nil, hss]; show _ + 2 ≤ _; omega); exact rfl; exact rfl; exact rfl; intro p6 c6 w6 ha6) | (apply G1_loadB; exact T.p28; exact rfl; assumption; exact rfl; exact rfl)) | apply G_nil | apply Post_next | apply W_region)
  have hb7 := h5.box.grown ha6.grown (fun e => by have := (h5.own.ge a e).1; have := h5.h1; omega)
  apply G_on; exact rfl; apply G1_storeB; exact T.z28; exact rfl; exact rfl; exact hb7; exact rfl; exact rfl; (first | exact Nat.le_of_ble_eq_true rfl | (focus (simp [Value.cells]; done))); (first | exact Enc.one _ _ | (focus (simp [Value.oneCell']; done)) | (focus (simp [Value.cells, Value.oneCell']; done)) | exact Enc.oneAgg _ _); exact rfl; (first | exact .inl rfl | exact .inr (by simp [exempt])); exact rfl; intro w7 hc7 hg7 hs7
  replace hc7 : Blk w7.heap a 28 [.slice _ _ _] := hc7
  obtain ⟨h7, x7⟩ := h5.app ha6 hc7 hg7
  have hb := h7.box
  have hO := h7.own
  have hBB := h7.hB
  repeat' apply G_nil
  refine Post_end Tryd.results38 (vs := []) rfl ?_
  have e0 : bs ++ [m] ++ s.data.toList ++ (⟨#[13, 10]⟩ : ByteArray).data.toList = bs ++ (m :: (s.data.toList ++ crlf)) := by simp [crlf]
  rw [e0] at h7
  exact ⟨rfl, p6, c6, h7, ((hx1.toS.trans x3).then3 x5 (by have := pblk_new (a := a) ha2.new; have := hx1.size; omega)).then3 x7 (by
    have n2 := pblk_new (a := a) ha2.new
    have n4 := pblk_new (a := a) ha4.new
    have z1 := hx1.size
    have z3 := x3.size
    omega)⟩
theorem itoaL (n : Int) : (itoaB n).data.toList = Lib.itoa n := by show (Lib.itoa n).toArray.toList = _; simp
theorem itoaS (n : Int) : (itoaB n).size = (Lib.itoa n).length := by show (Lib.itoa n).toArray.size = _; simp

theorem flat_take_le {α : Type} (f : α → List UInt8) (l : List α) (k : Nat) : ((l.take k).flatMap f).length ≤ (l.flatMap f).length := by
  have h : l.flatMap f = (l.take k).flatMap f ++ (l.drop k).flatMap f := by rw [← List.flatMap_append, List.take_append_drop]
  rw [h, List.length_append]; omega

theorem put_spec {w0 : World} (hT : Pow w0) : ∀ (d : Nat) {e : Nat} {r : RawR} {t : Rep} {w : World} {B a aL aP : Nat} {tL tP : TypeId} {p : Option Addr} {c : Nat} {bs : List UInt8}, rightT d t = true → RepAt w0.heap e r t → PutSt w0 w B a aL aP tL tP p c bs → bs.length + (wT d t).length ≤ 1000000000 →
    Ctr Tryd.prog 39 [.agg (eRep.enc r).toArray, .pointer (some (adr (bx aL) 0)), .pointer (some (adr (bx a) 0)), .pointer (some (adr (bx aP) 0))] w (fun v w' => v = .tuple #[] ∧ ∃ p' c', PutSt w0 w' B a aL aP tL tP p' c' (bs ++ wT d t)) := by
  intro d
  induction d with
  | zero =>
    intro e r t w B a aL aP tL tP p c bs hri hr h hlen
    have hlf := right_leaf hri
    obtain ⟨e, rs, rfl, hk, hs, hn, hl, hsz, hfit, hL⟩ := hr.open
    simp only [maxLen] at hsz
    have n1 := hL.sl.bound
    have hll := hL.len
    have hlo := hlf.lo
    have hhi := hlf.hi
    refine Ctr_of Tryd.func39 Tryd.ntmps39 rfl rfl rfl ?_
    repeat' (first | apply W_seq | apply W_region)
    apply G_on; exact rfl; apply G1_box; exact rfl; exact rfl; exact rfl; intro a4 w1 ha4 hA1 hx1 hs1
    replace hA1 : Blk w1.heap a4 24 [.int .i64 r.kind, .string r.s, .int .i64 r.n, .slice r.p r.len r.cap] := hA1
    rw [hk, hs, hn, hl] at hA1
    have h1 := h.xt hx1
    rcases (show t.kind = 0 ∨ t.kind = 1 ∨ t.kind = 2 ∨ t.kind = 3 ∨ t.kind = 4 ∨ t.kind = 5 by omega) with hk0 | hk0 | hk0 | hk0 | hk0 | hk0
    · have ew : wT 0 t = 43 :: (t.s.data.toList ++ crlf) := by simp [wT, wHead, hk0]
      rw [ew] at hlen ⊢
      have hln := h1.line
      repeat' (first | (apply G_on; exact rfl; first | (apply G1_assign; exact rfl; exact rfl) | (apply G1_loadB; exact plL; exact rfl; exact hln; exact rfl; exact rfl) | (apply G1_fieldAddr; (first | exact T.f24_0 | exact T.f24_1); exact rfl; exact rfl) | (apply G1_loadB; (first | exact T.p3 | exact T.p9); exact rfl; assumption; exact rfl; exact rfl) | (apply G1_eql; exact rfl; exact rfl; exact rfl)) | apply G_nil | apply Post_next | apply W_seq | apply W_region | (apply W_cond_dec; exact rfl; all_goals (intro h; try (exfalso; omega))) | apply W_block)
      apply G_on; exact rfl; apply G1_callv; exact rfl; exact rfl; exact rfl; exact rfl; exact wline_spec (m := 43) (by decide) h1 (by rw [size_list]; simp only [List.length_cons, List.length_append] at hlen; omega); rintro _ w2 ⟨rfl, p2, c2, h2, x2⟩; refine ⟨(by first | exact .inl rfl | exact .inr (by assumption)), ?_⟩
      repeat' (first | apply G_nil | apply Post_block_normal)
      refine Post_end Tryd.results39 (vs := []) rfl ?_
      exact ⟨rfl, p2, c2, h2⟩
    · have ew : wT 0 t = 45 :: (t.s.data.toList ++ crlf) := by simp [wT, wHead, hk0]
      rw [ew] at hlen ⊢
      have hln := h1.line
      repeat' (first | (apply G_on; exact rfl; first | (apply G1_assign; exact rfl; exact rfl) | (apply G1_loadB; exact plL; exact rfl; exact hln; exact rfl; exact rfl) | (apply G1_fieldAddr; (first | exact T.f24_0 | exact T.f24_1); exact rfl; exact rfl) | (apply G1_loadB; (first | exact T.p3 | exact T.p9); exact rfl; assumption; exact rfl; exact rfl) | (apply G1_eql; exact rfl; exact rfl; exact rfl)) | apply G_nil | apply Post_next | apply W_seq | apply W_region | (apply W_cond_dec; exact rfl; all_goals (intro h; try (exfalso; omega))) | apply W_block)
      apply G_on; exact rfl; apply G1_callv; exact rfl; exact rfl; exact rfl; exact rfl; exact wline_spec (m := 45) (by decide) h1 (by rw [size_list]; simp only [List.length_cons, List.length_append] at hlen; omega); rintro _ w2 ⟨rfl, p2, c2, h2, x2⟩; refine ⟨(by first | exact .inl rfl | exact .inr (by assumption)), ?_⟩
      repeat' (first | apply G_nil | apply Post_block_normal)
      refine Post_end Tryd.results39 (vs := []) rfl ?_
      exact ⟨rfl, p2, c2, h2⟩
    · have ew : wT 0 t = 58 :: (Lib.itoa t.n ++ crlf) := by simp [wT, wHead, hk0]
      rw [ew] at hlen ⊢
      obtain ⟨g, hg⟩ : ∃ g, g = pblk p a := ⟨_, rfl⟩
      have hgB : g = a ∨ B ≤ g := by
        rw [hg]
        cases hbk : blk p with
        | none => left; unfold pblk; rw [hbk]; rfl
        | some k => right; unfold pblk; rw [hbk]; exact (h1.own.ge k hbk).1
      have q1 := h1.h1
      have q2 := h1.h2
      have q4 := h1.h4
      have q5 := h1.hB
      have hgw : g < w1.heap.size := by
        rw [hg]
        cases hbk : blk p with
        | none => unfold pblk; rw [hbk]; show a < _; omega
        | some k => unfold pblk; rw [hbk]; exact (h1.own.ge k hbk).2
      have hgw0 : g < w.heap.size := by
        rw [hg]
        cases hbk : blk p with
        | none => unfold pblk; rw [hbk]; show a < _; have := h.hB; omega
        | some k => unfold pblk; rw [hbk]; exact (h.own.ge k hbk).2
      have xL : exempt [a, g, g] aL = false := exempt3 q4 (by omega)
      have xA : exempt [a, g, g] a4 = false := exempt3 (by have := h.hB; omega) (by omega)
      have hln := h1.line
      repeat' (first | (apply G_on; exact rfl; first | (apply G1_assign; exact rfl; exact rfl) | (apply G1_fieldAddr; exact T.f24_0; exact rfl; exact rfl) | (apply G1_loadB; exact T.p3; exact rfl; assumption; exact rfl; exact rfl) | (apply G1_eql; exact rfl; exact rfl; exact rfl)) | apply G_nil | apply Post_next | apply W_seq | apply W_region | (apply W_cond_dec; exact rfl; all_goals (intro h; try (exfalso; omega))) | apply W_block)
      refine W_drawn 1 [a, g, g] [0,1,2,3,4] mixed (by decide +kernel) ?_
      repeat' (apply G_on; exact rfl; first | (apply G1_loadBS; exact plL; exact rfl; exact hln; exact rfl; exact xL; exact rfl) | (apply G1_fieldAddr; exact T.f24_2; exact rfl; exact rfl) | (apply G1_loadBS; exact T.p3; exact rfl; assumption; exact rfl; (first | assumption | (focus (simp [exempt]; omega))); exact rfl))
      apply G_on; exact rfl; apply G1_callS; exact rfl; exact rfl; exact rfl; exact print_spec hfit.1 hfit.2 (TabIs.ext hT (Ext.drew h1.ext)); rintro _ w3 ⟨rfl, hx3⟩; refine ⟨(by first | exact .inl rfl | exact .inr hx3.toS), ?_⟩
      replace hx3 : Ext w1 w3 := (Ext.drew Ext.rfl').trans hx3
      have h3 := h1.xt hx3
      skip
      apply G_on; exact rfl
      apply G1_callvS; exact rfl; exact rfl; exact rfl; exact rfl; exact wline_spec (m := 58) (by decide) h3 (by rw [itoaS]; simp only [List.length_cons, List.length_append] at hlen; omega)
      rintro _ w4' ⟨rfl, p4, c4, h4, x4⟩
      refine ⟨.inr (by rw [hg]; exact x4), ?_⟩
      have hA4 := x4.blk (hA1.ext hx3) (by rw [← hg]; exact xA)
      repeat' (first | apply G_nil | apply Post_block_normal)
      refine Post_end Tryd.results39 (vs := []) rfl ?_
      rw [itoaL] at h4
      exact ⟨rfl, p4, c4, h4⟩
    · have ew : wT 0 t = 36 :: (Lib.itoa t.s.size ++ crlf ++ (t.s.data.toList ++ crlf)) := by simp [wT, wHead, hk0]
      rw [ew] at hlen ⊢
      obtain ⟨g, hg⟩ : ∃ g, g = pblk p a := ⟨_, rfl⟩
      have hgB : g = a ∨ B ≤ g := by
        rw [hg]
        cases hbk : blk p with
        | none => left; unfold pblk; rw [hbk]; rfl
        | some k => right; unfold pblk; rw [hbk]; exact (h1.own.ge k hbk).1
      have q1 := h1.h1
      have q2 := h1.h2
      have q4 := h1.h4
      have q5 := h1.hB
      have hgw : g < w1.heap.size := by
        rw [hg]
        cases hbk : blk p with
        | none => unfold pblk; rw [hbk]; show a < _; omega
        | some k => unfold pblk; rw [hbk]; exact (h1.own.ge k hbk).2
      have hgw0 : g < w.heap.size := by
        rw [hg]
        cases hbk : blk p with
        | none => unfold pblk; rw [hbk]; show a < _; have := h.hB; omega
        | some k => unfold pblk; rw [hbk]; exact (h.own.ge k hbk).2
      have xL : exempt [a, g, g] aL = false := exempt3 q4 (by omega)
      have xA : exempt [a, g, g] a4 = false := exempt3 (by have := h.hB; omega) (by omega)
      have hln := h1.line
      repeat' (first | (apply G_on; exact rfl; first | (apply G1_assign; exact rfl; exact rfl) | (apply G1_fieldAddr; exact T.f24_0; exact rfl; exact rfl) | (apply G1_loadB; exact T.p3; exact rfl; assumption; exact rfl; exact rfl) | (apply G1_eql; exact rfl; exact rfl; exact rfl)) | apply G_nil | apply Post_next | apply W_seq | apply W_region | (apply W_cond_dec; exact rfl; all_goals (intro h; try (exfalso; omega))) | apply W_block)
      refine W_drawn 1 [a, g, g] [0,1,2,3,4,5] mixed (by decide +kernel) ?_
      repeat' (apply G_on; exact rfl; first | (apply G1_loadBS; exact plL; exact rfl; exact hln; exact rfl; exact xL; exact rfl) | (apply G1_fieldAddr; exact T.f24_1; exact rfl; exact rfl) | (apply G1_loadBS; exact T.p9; exact rfl; assumption; exact rfl; (first | assumption | (focus (simp [exempt]; omega))); exact rfl) | (apply G1_slen; exact T.str9; exact rfl; exact rfl))
      apply G_on; exact rfl; apply G1_callS; exact rfl; exact rfl; exact rfl; exact print_spec (by omega) (by omega) (TabIs.ext hT (Ext.drew h1.ext)); rintro _ w3 ⟨rfl, hx3⟩; refine ⟨(by first | exact .inl rfl | exact .inr hx3.toS), ?_⟩
      replace hx3 : Ext w1 w3 := (Ext.drew Ext.rfl').trans hx3
      have h3 := h1.xt hx3
      skip
      apply G_on; exact rfl
      apply G1_callvS; exact rfl; exact rfl; exact rfl; exact rfl; exact wline_spec (m := 36) (by decide) h3 (by rw [itoaS]; simp only [List.length_cons, List.length_append] at hlen; omega)
      rintro _ w4' ⟨rfl, p4, c4, h4, x4⟩
      refine ⟨.inr (by rw [hg]; exact x4), ?_⟩
      have hA4 := x4.blk (hA1.ext hx3) (by rw [← hg]; exact xA)
      rw [itoaL] at h4
      have hb := h4.box
      have hO := h4.own
      have hBB := h4.hB
      have hss : t.s.data.toList.length = t.s.size := by rw [Array.length_toList]; rfl
      simp only [List.length_cons, List.length_append, hss, crlf, List.length_nil] at hlen
      repeat' (first | (apply G_on; exact rfl; first | (apply G1_appendStr (s := t.s); exact T.s28; exact T.str9; exact rfl; exact rfl; exact hO; exact hBB; (simp only [List.length_append, List.length_cons, List.length_nil, crlf]; omega); (simp only [List.length_append, List.length_cons, List.length_nil, crlf]; omega); exact rfl; exact rfl; exact rfl; intro p5 c5 w5 ha5) | (apply G1_fieldAddr; exact T.f24_1; exact rfl; exact rfl) | (apply G1_loadB; (first | exact T.p9 | exact T.p28); exact rfl; assumption; exact rfl; exact rfl)) | apply G_nil | apply Post_next | apply W_seq | apply W_region)
      have hb6 := h4.box.grown ha5.grown (fun e => by have := (h4.own.ge a e).1; have := h4.h1; omega)
      apply G_on; exact rfl; apply G1_storeB; exact T.z28; exact rfl; exact rfl; exact hb6; exact rfl; exact rfl; (first | exact Nat.le_of_ble_eq_true rfl | (focus (simp [Value.cells]; done))); (first | exact Enc.one _ _ | (focus (simp [Value.oneCell']; done)) | (focus (simp [Value.cells, Value.oneCell']; done)) | exact Enc.oneAgg _ _); exact rfl; (first | exact .inl rfl | exact .inr (by simp [exempt])); exact rfl; intro w6 hc6 hg6 hs6
      replace hc6 : Blk w6.heap a 28 [.slice _ _ _] := hc6
      obtain ⟨h6, x6⟩ := h4.app ha5 hc6 hg6
      have hb := h6.box
      have hO := h6.own
      have hBB := h6.hB
      repeat' (first | (apply G_on; exact rfl; first | (apply G1_appendStr (s := ⟨#[13, 10]⟩); exact T.s28; exact T.str9; exact rfl; exact rfl; exact hO; exact hBB; (simp only [List.length_append, List.length_cons, List.length_nil, hss, crlf]; show (_ + 2) * _ ≤ _; omega); (simp only [List.length_append, List.length_cons, List.length_nil, hss, crlf]; show _ + 2 ≤ _; omega); exact rfl; exact rfl; exact rfl; intro p7 c7 w7 ha7) | (apply G1_loadB; exact T.p28; exact rfl; assumption; exact rfl; exact rfl)) | apply G_nil | apply Post_next | apply W_region)
      have hb8 := h6.box.grown ha7.grown (fun e => by have := (h6.own.ge a e).1; have := h6.h1; omega)
      apply G_on; exact rfl; apply G1_storeB; exact T.z28; exact rfl; exact rfl; exact hb8; exact rfl; exact rfl; (first | exact Nat.le_of_ble_eq_true rfl | (focus (simp [Value.cells]; done))); (first | exact Enc.one _ _ | (focus (simp [Value.oneCell']; done)) | (focus (simp [Value.cells, Value.oneCell']; done)) | exact Enc.oneAgg _ _); exact rfl; (first | exact .inl rfl | exact .inr (by simp [exempt])); exact rfl; intro w8 hc8 hg8 hs8
      replace hc8 : Blk w8.heap a 28 [.slice _ _ _] := hc8
      obtain ⟨h8, x8⟩ := h6.app ha7 hc8 hg8
      have hb := h8.box
      have hO := h8.own
      have hBB := h8.hB
      repeat' (first | apply G_nil | apply Post_block_normal)
      refine Post_end Tryd.results39 (vs := []) rfl ?_
      have e0 : bs ++ (36 :: (Lib.itoa t.s.size ++ crlf)) ++ t.s.data.toList ++ (⟨#[13, 10]⟩ : ByteArray).data.toList = bs ++ (36 :: (Lib.itoa t.s.size ++ crlf ++ (t.s.data.toList ++ crlf))) := by simp [crlf]
      rw [e0] at h8
      exact ⟨rfl, p7, c7, h8⟩
    · have ew : wT 0 t = 36 :: ((⟨#[45, 49]⟩ : ByteArray).data.toList ++ crlf) := by simp [wT, wHead, hk0]
      rw [ew] at hlen ⊢
      have hln := h1.line
      repeat' (first | (apply G_on; exact rfl; first | (apply G1_assign; exact rfl; exact rfl) | (apply G1_loadB; exact plL; exact rfl; exact hln; exact rfl; exact rfl) | (apply G1_fieldAddr; exact T.f24_0; exact rfl; exact rfl) | (apply G1_loadB; exact T.p3; exact rfl; assumption; exact rfl; exact rfl) | (apply G1_eql; exact rfl; exact rfl; exact rfl)) | apply G_nil | apply Post_next | apply W_seq | apply W_region | (apply W_cond_dec; exact rfl; all_goals (intro h; try (exfalso; omega))) | apply W_block)
      apply G_on; exact rfl; apply G1_callv; exact rfl; exact rfl; exact rfl; exact rfl; exact wline_spec (m := 36) (s := ⟨#[45, 49]⟩) (by decide) h1 (by show bs.length + 2 ≤ _; simp only [List.length_cons, List.length_append] at hlen; omega); rintro _ w2 ⟨rfl, p2, c2, h2, x2⟩; refine ⟨(by first | exact .inl rfl | exact .inr (by assumption)), ?_⟩
      repeat' (first | apply G_nil | apply Post_block_normal)
      refine Post_end Tryd.results39 (vs := []) rfl ?_
      exact ⟨rfl, p2, c2, h2⟩
    · rw [right_zero, hk0] at hri
      simp at hri
  | succ d ih =>
    intro e r t w B a aL aP tL tP p c bs hri hr h hlen
    have hlf := right_leaf hri
    obtain ⟨e, rs, rfl, hk, hs, hn, hl, hsz, hfit, hL⟩ := hr.open
    simp only [maxLen] at hsz
    have n1 := hL.sl.bound
    have hll := hL.len
    have hlo := hlf.lo
    have hhi := hlf.hi
    refine Ctr_of Tryd.func39 Tryd.ntmps39 rfl rfl rfl ?_
    repeat' (first | apply W_seq | apply W_region)
    apply G_on; exact rfl; apply G1_box; exact rfl; exact rfl; exact rfl; intro a4 w1 ha4 hA1 hx1 hs1
    replace hA1 : Blk w1.heap a4 24 [.int .i64 r.kind, .string r.s, .int .i64 r.n, .slice r.p r.len r.cap] := hA1
    rw [hk, hs, hn, hl] at hA1
    have h1 := h.xt hx1
    rcases (show t.kind = 0 ∨ t.kind = 1 ∨ t.kind = 2 ∨ t.kind = 3 ∨ t.kind = 4 ∨ t.kind = 5 by omega) with hk0 | hk0 | hk0 | hk0 | hk0 | hk0
    · have ew : wT (d + 1) t = 43 :: (t.s.data.toList ++ crlf) := by simp [wT, wHead, hk0]
      rw [ew] at hlen ⊢
      have hln := h1.line
      repeat' (first | (apply G_on; exact rfl; first | (apply G1_assign; exact rfl; exact rfl) | (apply G1_loadB; exact plL; exact rfl; exact hln; exact rfl; exact rfl) | (apply G1_fieldAddr; (first | exact T.f24_0 | exact T.f24_1); exact rfl; exact rfl) | (apply G1_loadB; (first | exact T.p3 | exact T.p9); exact rfl; assumption; exact rfl; exact rfl) | (apply G1_eql; exact rfl; exact rfl; exact rfl)) | apply G_nil | apply Post_next | apply W_seq | apply W_region | (apply W_cond_dec; exact rfl; all_goals (intro h; try (exfalso; omega))) | apply W_block)
      apply G_on; exact rfl; apply G1_callv; exact rfl; exact rfl; exact rfl; exact rfl; exact wline_spec (m := 43) (by decide) h1 (by rw [size_list]; simp only [List.length_cons, List.length_append] at hlen; omega); rintro _ w2 ⟨rfl, p2, c2, h2, x2⟩; refine ⟨(by first | exact .inl rfl | exact .inr (by assumption)), ?_⟩
      repeat' (first | apply G_nil | apply Post_block_normal)
      refine Post_end Tryd.results39 (vs := []) rfl ?_
      exact ⟨rfl, p2, c2, h2⟩
    · have ew : wT (d + 1) t = 45 :: (t.s.data.toList ++ crlf) := by simp [wT, wHead, hk0]
      rw [ew] at hlen ⊢
      have hln := h1.line
      repeat' (first | (apply G_on; exact rfl; first | (apply G1_assign; exact rfl; exact rfl) | (apply G1_loadB; exact plL; exact rfl; exact hln; exact rfl; exact rfl) | (apply G1_fieldAddr; (first | exact T.f24_0 | exact T.f24_1); exact rfl; exact rfl) | (apply G1_loadB; (first | exact T.p3 | exact T.p9); exact rfl; assumption; exact rfl; exact rfl) | (apply G1_eql; exact rfl; exact rfl; exact rfl)) | apply G_nil | apply Post_next | apply W_seq | apply W_region | (apply W_cond_dec; exact rfl; all_goals (intro h; try (exfalso; omega))) | apply W_block)
      apply G_on; exact rfl; apply G1_callv; exact rfl; exact rfl; exact rfl; exact rfl; exact wline_spec (m := 45) (by decide) h1 (by rw [size_list]; simp only [List.length_cons, List.length_append] at hlen; omega); rintro _ w2 ⟨rfl, p2, c2, h2, x2⟩; refine ⟨(by first | exact .inl rfl | exact .inr (by assumption)), ?_⟩
      repeat' (first | apply G_nil | apply Post_block_normal)
      refine Post_end Tryd.results39 (vs := []) rfl ?_
      exact ⟨rfl, p2, c2, h2⟩
    · have ew : wT (d + 1) t = 58 :: (Lib.itoa t.n ++ crlf) := by simp [wT, wHead, hk0]
      rw [ew] at hlen ⊢
      obtain ⟨g, hg⟩ : ∃ g, g = pblk p a := ⟨_, rfl⟩
      have hgB : g = a ∨ B ≤ g := by
        rw [hg]
        cases hbk : blk p with
        | none => left; unfold pblk; rw [hbk]; rfl
        | some k => right; unfold pblk; rw [hbk]; exact (h1.own.ge k hbk).1
      have q1 := h1.h1
      have q2 := h1.h2
      have q4 := h1.h4
      have q5 := h1.hB
      have hgw : g < w1.heap.size := by
        rw [hg]
        cases hbk : blk p with
        | none => unfold pblk; rw [hbk]; show a < _; omega
        | some k => unfold pblk; rw [hbk]; exact (h1.own.ge k hbk).2
      have hgw0 : g < w.heap.size := by
        rw [hg]
        cases hbk : blk p with
        | none => unfold pblk; rw [hbk]; show a < _; have := h.hB; omega
        | some k => unfold pblk; rw [hbk]; exact (h.own.ge k hbk).2
      have xL : exempt [a, g, g] aL = false := exempt3 q4 (by omega)
      have xA : exempt [a, g, g] a4 = false := exempt3 (by have := h.hB; omega) (by omega)
      have hln := h1.line
      repeat' (first | (apply G_on; exact rfl; first | (apply G1_assign; exact rfl; exact rfl) | (apply G1_fieldAddr; exact T.f24_0; exact rfl; exact rfl) | (apply G1_loadB; exact T.p3; exact rfl; assumption; exact rfl; exact rfl) | (apply G1_eql; exact rfl; exact rfl; exact rfl)) | apply G_nil | apply Post_next | apply W_seq | apply W_region | (apply W_cond_dec; exact rfl; all_goals (intro h; try (exfalso; omega))) | apply W_block)
      refine W_drawn 1 [a, g, g] [0,1,2,3,4] mixed (by decide +kernel) ?_
      repeat' (apply G_on; exact rfl; first | (apply G1_loadBS; exact plL; exact rfl; exact hln; exact rfl; exact xL; exact rfl) | (apply G1_fieldAddr; exact T.f24_2; exact rfl; exact rfl) | (apply G1_loadBS; exact T.p3; exact rfl; assumption; exact rfl; (first | assumption | (focus (simp [exempt]; omega))); exact rfl))
      apply G_on; exact rfl; apply G1_callS; exact rfl; exact rfl; exact rfl; exact print_spec hfit.1 hfit.2 (TabIs.ext hT (Ext.drew h1.ext)); rintro _ w3 ⟨rfl, hx3⟩; refine ⟨(by first | exact .inl rfl | exact .inr hx3.toS), ?_⟩
      replace hx3 : Ext w1 w3 := (Ext.drew Ext.rfl').trans hx3
      have h3 := h1.xt hx3
      skip
      apply G_on; exact rfl
      apply G1_callvS; exact rfl; exact rfl; exact rfl; exact rfl; exact wline_spec (m := 58) (by decide) h3 (by rw [itoaS]; simp only [List.length_cons, List.length_append] at hlen; omega)
      rintro _ w4' ⟨rfl, p4, c4, h4, x4⟩
      refine ⟨.inr (by rw [hg]; exact x4), ?_⟩
      have hA4 := x4.blk (hA1.ext hx3) (by rw [← hg]; exact xA)
      repeat' (first | apply G_nil | apply Post_block_normal)
      refine Post_end Tryd.results39 (vs := []) rfl ?_
      rw [itoaL] at h4
      exact ⟨rfl, p4, c4, h4⟩
    · have ew : wT (d + 1) t = 36 :: (Lib.itoa t.s.size ++ crlf ++ (t.s.data.toList ++ crlf)) := by simp [wT, wHead, hk0]
      rw [ew] at hlen ⊢
      obtain ⟨g, hg⟩ : ∃ g, g = pblk p a := ⟨_, rfl⟩
      have hgB : g = a ∨ B ≤ g := by
        rw [hg]
        cases hbk : blk p with
        | none => left; unfold pblk; rw [hbk]; rfl
        | some k => right; unfold pblk; rw [hbk]; exact (h1.own.ge k hbk).1
      have q1 := h1.h1
      have q2 := h1.h2
      have q4 := h1.h4
      have q5 := h1.hB
      have hgw : g < w1.heap.size := by
        rw [hg]
        cases hbk : blk p with
        | none => unfold pblk; rw [hbk]; show a < _; omega
        | some k => unfold pblk; rw [hbk]; exact (h1.own.ge k hbk).2
      have hgw0 : g < w.heap.size := by
        rw [hg]
        cases hbk : blk p with
        | none => unfold pblk; rw [hbk]; show a < _; have := h.hB; omega
        | some k => unfold pblk; rw [hbk]; exact (h.own.ge k hbk).2
      have xL : exempt [a, g, g] aL = false := exempt3 q4 (by omega)
      have xA : exempt [a, g, g] a4 = false := exempt3 (by have := h.hB; omega) (by omega)
      have hln := h1.line
      repeat' (first | (apply G_on; exact rfl; first | (apply G1_assign; exact rfl; exact rfl) | (apply G1_fieldAddr; exact T.f24_0; exact rfl; exact rfl) | (apply G1_loadB; exact T.p3; exact rfl; assumption; exact rfl; exact rfl) | (apply G1_eql; exact rfl; exact rfl; exact rfl)) | apply G_nil | apply Post_next | apply W_seq | apply W_region | (apply W_cond_dec; exact rfl; all_goals (intro h; try (exfalso; omega))) | apply W_block)
      refine W_drawn 1 [a, g, g] [0,1,2,3,4,5] mixed (by decide +kernel) ?_
      repeat' (apply G_on; exact rfl; first | (apply G1_loadBS; exact plL; exact rfl; exact hln; exact rfl; exact xL; exact rfl) | (apply G1_fieldAddr; exact T.f24_1; exact rfl; exact rfl) | (apply G1_loadBS; exact T.p9; exact rfl; assumption; exact rfl; (first | assumption | (focus (simp [exempt]; omega))); exact rfl) | (apply G1_slen; exact T.str9; exact rfl; exact rfl))
      apply G_on; exact rfl; apply G1_callS; exact rfl; exact rfl; exact rfl; exact print_spec (by omega) (by omega) (TabIs.ext hT (Ext.drew h1.ext)); rintro _ w3 ⟨rfl, hx3⟩; refine ⟨(by first | exact .inl rfl | exact .inr hx3.toS), ?_⟩
      replace hx3 : Ext w1 w3 := (Ext.drew Ext.rfl').trans hx3
      have h3 := h1.xt hx3
      skip
      apply G_on; exact rfl
      apply G1_callvS; exact rfl; exact rfl; exact rfl; exact rfl; exact wline_spec (m := 36) (by decide) h3 (by rw [itoaS]; simp only [List.length_cons, List.length_append] at hlen; omega)
      rintro _ w4' ⟨rfl, p4, c4, h4, x4⟩
      refine ⟨.inr (by rw [hg]; exact x4), ?_⟩
      have hA4 := x4.blk (hA1.ext hx3) (by rw [← hg]; exact xA)
      rw [itoaL] at h4
      have hb := h4.box
      have hO := h4.own
      have hBB := h4.hB
      have hss : t.s.data.toList.length = t.s.size := by rw [Array.length_toList]; rfl
      simp only [List.length_cons, List.length_append, hss, crlf, List.length_nil] at hlen
      repeat' (first | (apply G_on; exact rfl; first | (apply G1_appendStr (s := t.s); exact T.s28; exact T.str9; exact rfl; exact rfl; exact hO; exact hBB; (simp only [List.length_append, List.length_cons, List.length_nil, crlf]; omega); (simp only [List.length_append, List.length_cons, List.length_nil, crlf]; omega); exact rfl; exact rfl; exact rfl; intro p5 c5 w5 ha5) | (apply G1_fieldAddr; exact T.f24_1; exact rfl; exact rfl) | (apply G1_loadB; (first | exact T.p9 | exact T.p28); exact rfl; assumption; exact rfl; exact rfl)) | apply G_nil | apply Post_next | apply W_seq | apply W_region)
      have hb6 := h4.box.grown ha5.grown (fun e => by have := (h4.own.ge a e).1; have := h4.h1; omega)
      apply G_on; exact rfl; apply G1_storeB; exact T.z28; exact rfl; exact rfl; exact hb6; exact rfl; exact rfl; (first | exact Nat.le_of_ble_eq_true rfl | (focus (simp [Value.cells]; done))); (first | exact Enc.one _ _ | (focus (simp [Value.oneCell']; done)) | (focus (simp [Value.cells, Value.oneCell']; done)) | exact Enc.oneAgg _ _); exact rfl; (first | exact .inl rfl | exact .inr (by simp [exempt])); exact rfl; intro w6 hc6 hg6 hs6
      replace hc6 : Blk w6.heap a 28 [.slice _ _ _] := hc6
      obtain ⟨h6, x6⟩ := h4.app ha5 hc6 hg6
      have hb := h6.box
      have hO := h6.own
      have hBB := h6.hB
      repeat' (first | (apply G_on; exact rfl; first | (apply G1_appendStr (s := ⟨#[13, 10]⟩); exact T.s28; exact T.str9; exact rfl; exact rfl; exact hO; exact hBB; (simp only [List.length_append, List.length_cons, List.length_nil, hss, crlf]; show (_ + 2) * _ ≤ _; omega); (simp only [List.length_append, List.length_cons, List.length_nil, hss, crlf]; show _ + 2 ≤ _; omega); exact rfl; exact rfl; exact rfl; intro p7 c7 w7 ha7) | (apply G1_loadB; exact T.p28; exact rfl; assumption; exact rfl; exact rfl)) | apply G_nil | apply Post_next | apply W_region)
      have hb8 := h6.box.grown ha7.grown (fun e => by have := (h6.own.ge a e).1; have := h6.h1; omega)
      apply G_on; exact rfl; apply G1_storeB; exact T.z28; exact rfl; exact rfl; exact hb8; exact rfl; exact rfl; (first | exact Nat.le_of_ble_eq_true rfl | (focus (simp [Value.cells]; done))); (first | exact Enc.one _ _ | (focus (simp [Value.oneCell']; done)) | (focus (simp [Value.cells, Value.oneCell']; done)) | exact Enc.oneAgg _ _); exact rfl; (first | exact .inl rfl | exact .inr (by simp [exempt])); exact rfl; intro w8 hc8 hg8 hs8
      replace hc8 : Blk w8.heap a 28 [.slice _ _ _] := hc8
      obtain ⟨h8, x8⟩ := h6.app ha7 hc8 hg8
      have hb := h8.box
      have hO := h8.own
      have hBB := h8.hB
      repeat' (first | apply G_nil | apply Post_block_normal)
      refine Post_end Tryd.results39 (vs := []) rfl ?_
      have e0 : bs ++ (36 :: (Lib.itoa t.s.size ++ crlf)) ++ t.s.data.toList ++ (⟨#[13, 10]⟩ : ByteArray).data.toList = bs ++ (36 :: (Lib.itoa t.s.size ++ crlf ++ (t.s.data.toList ++ crlf))) := by simp [crlf]
      rw [e0] at h8
      exact ⟨rfl, p7, c7, h8⟩
    · have ew : wT (d + 1) t = 36 :: ((⟨#[45, 49]⟩ : ByteArray).data.toList ++ crlf) := by simp [wT, wHead, hk0]
      rw [ew] at hlen ⊢
      have hln := h1.line
      repeat' (first | (apply G_on; exact rfl; first | (apply G1_assign; exact rfl; exact rfl) | (apply G1_loadB; exact plL; exact rfl; exact hln; exact rfl; exact rfl) | (apply G1_fieldAddr; exact T.f24_0; exact rfl; exact rfl) | (apply G1_loadB; exact T.p3; exact rfl; assumption; exact rfl; exact rfl) | (apply G1_eql; exact rfl; exact rfl; exact rfl)) | apply G_nil | apply Post_next | apply W_seq | apply W_region | (apply W_cond_dec; exact rfl; all_goals (intro h; try (exfalso; omega))) | apply W_block)
      apply G_on; exact rfl; apply G1_callv; exact rfl; exact rfl; exact rfl; exact rfl; exact wline_spec (m := 36) (s := ⟨#[45, 49]⟩) (by decide) h1 (by show bs.length + 2 ≤ _; simp only [List.length_cons, List.length_append] at hlen; omega); rintro _ w2 ⟨rfl, p2, c2, h2, x2⟩; refine ⟨(by first | exact .inl rfl | exact .inr (by assumption)), ?_⟩
      repeat' (first | apply G_nil | apply Post_block_normal)
      refine Post_end Tryd.results39 (vs := []) rfl ?_
      exact ⟨rfl, p2, c2, h2⟩
    · have hri2 : t.l.all (rightT d) = true := by
        rw [right_succ] at hri
        simp only [Bool.and_eq_true] at hri
        exact hri.2
      have ew : wT (d + 1) t = 42 :: (Lib.itoa rs.length ++ crlf) ++ t.l.flatMap (wT d) := by simp [wT, wHead, hk0, hll]
      rw [ew] at hlen ⊢
      obtain ⟨g, hg⟩ : ∃ g, g = pblk p a := ⟨_, rfl⟩
      have hgB : g = a ∨ B ≤ g := by
        rw [hg]
        cases hbk : blk p with
        | none => left; unfold pblk; rw [hbk]; rfl
        | some k => right; unfold pblk; rw [hbk]; exact (h1.own.ge k hbk).1
      have q1 := h1.h1
      have q2 := h1.h2
      have q4 := h1.h4
      have q5 := h1.hB
      have hgw : g < w1.heap.size := by
        rw [hg]
        cases hbk : blk p with
        | none => unfold pblk; rw [hbk]; show a < _; omega
        | some k => unfold pblk; rw [hbk]; exact (h1.own.ge k hbk).2
      have hgw0 : g < w.heap.size := by
        rw [hg]
        cases hbk : blk p with
        | none => unfold pblk; rw [hbk]; show a < _; have := h.hB; omega
        | some k => unfold pblk; rw [hbk]; exact (h.own.ge k hbk).2
      have xL : exempt [a, g, g] aL = false := exempt3 q4 (by omega)
      have xA : exempt [a, g, g] a4 = false := exempt3 (by have := h.hB; omega) (by omega)
      have hln := h1.line
      repeat' (first | (apply G_on; exact rfl; first | (apply G1_assign; exact rfl; exact rfl) | (apply G1_fieldAddr; exact T.f24_0; exact rfl; exact rfl) | (apply G1_loadB; exact T.p3; exact rfl; assumption; exact rfl; exact rfl) | (apply G1_eql; exact rfl; exact rfl; exact rfl)) | apply G_nil | apply Post_next | apply W_seq | apply W_region | (apply W_cond_dec; exact rfl; all_goals (intro h; try (exfalso; omega))) | apply W_block)
      refine W_drawn 1 [a, g, g] [0,1,2,3,4,5] mixed (by decide +kernel) ?_
      repeat' (apply G_on; exact rfl; first | (apply G1_loadBS; exact plL; exact rfl; exact hln; exact rfl; exact xL; exact rfl) | (apply G1_fieldAddr; exact T.f24_3; exact rfl; exact rfl) | (apply G1_loadBS; exact T.p22; exact rfl; assumption; exact rfl; (first | assumption | (focus (simp [exempt]; omega))); exact rfl) | (apply G1_len; exact T.s22; exact rfl; exact rfl))
      apply G_on; exact rfl; apply G1_callS; exact rfl; exact rfl; exact rfl; exact print_spec (by omega) (by omega) (TabIs.ext hT (Ext.drew h1.ext)); rintro _ w3 ⟨rfl, hx3⟩; refine ⟨(by first | exact .inl rfl | exact .inr hx3.toS), ?_⟩
      replace hx3 : Ext w1 w3 := (Ext.drew Ext.rfl').trans hx3
      have h3 := h1.xt hx3
      skip
      apply G_on; exact rfl
      apply G1_callvS; exact rfl; exact rfl; exact rfl; exact rfl; exact wline_spec (m := 42) (by decide) h3 (by rw [itoaS]; simp only [List.length_cons, List.length_append] at hlen; omega)
      rintro _ w4' ⟨rfl, p4, c4, h4, x4⟩
      refine ⟨.inr (by rw [hg]; exact x4), ?_⟩
      have hA4 := x4.blk (hA1.ext hx3) (by rw [← hg]; exact xA)
      rw [itoaL] at h4
      repeat' (first | (apply G_on; exact rfl; first | (apply G1_move; exact rfl; exact rfl) | (apply G1_fieldAddr; exact T.f24_3; exact rfl; exact rfl) | (apply G1_loadB; exact T.p22; exact rfl; assumption; exact rfl; exact rfl) | (apply G1_len; exact T.s22; exact rfl; exact rfl)) | apply G_nil | apply Post_next | apply W_seq | apply W_region | apply W_block)
      refine W_loop (ι := Nat × Option Addr × Nat) (fun y => [(1, .pointer (some (adr (bx aL) 0))), (2, .pointer (some (adr (bx a) 0))), (3, .pointer (some (adr (bx aP) 0))), (55, .slice r.p rs.length r.cap), (56, .int .i64 (rs.length : Int)), (57, .int .i64 (y.1 : Int))])
        (fun y w' => PutSt w0 w' B a aL aP tL tP y.2.1 y.2.2 (bs ++ (42 :: (Lib.itoa rs.length ++ crlf)) ++ (t.l.take y.1).flatMap (wT d)) ∧ y.1 ≤ rs.length) (fun y => rs.length - y.1) (0, p4, c4) ⟨rfl, rfl, rfl, rfl, rfl, rfl, trivial⟩ ⟨by simpa using h4, Nat.zero_le _⟩ ?_
      rintro ⟨i, p6, c6⟩ w6 ⟨h6, hi⟩
      simp only at h6 hi
      refine W_keep [(1, .pointer (some (adr (bx aL) 0))), (2, .pointer (some (adr (bx a) 0))), (3, .pointer (some (adr (bx aP) 0))), (55, .slice r.p rs.length r.cap), (56, .int .i64 (rs.length : Int)), (57, .int .i64 (i : Int))] ⟨rfl, rfl, rfl, rfl, rfl, rfl, trivial⟩ ?_
      have hL6 := hL.ext h6.ext
      have hsl6 := hL6.sl
      by_cases hlt : i < rs.length
      · obtain ⟨r', hr'⟩ := get_some hlt
        obtain ⟨t', ht'⟩ := get_some (xs := t.l) (k := i) (by omega)
        have hts := take_snoc ht'
        have hrt : rightT d t' = true := List.all_eq_true.1 hri2 t' (List.mem_of_getElem? ht')
        have hfl := flat_take_le (wT d) t.l (i + 1)
        rw [hts, List.flatMap_append, List.length_append] at hfl
        simp only [List.flatMap_cons, List.flatMap_nil, List.append_nil] at hfl
        simp only [List.length_append, List.length_cons] at hlen
        repeat' (first | (apply G_on; exact rfl; first | (apply G1_lss; exact rfl; exact rfl; exact rfl) | (apply G1_indexAddrN; exact T.s22; exact rfl; exact rfl; (first | assumption | exact Sl.ok (by assumption) | exact (Own.sl (by assumption)).ok); omega; exact rfl) | (apply G1_loadEl; exact T.a24; exact rfl; assumption; assumption; exact rfl; exact rfl)) | apply G_nil | apply Post_next | apply W_seq | apply W_region | (apply W_cond_dec; exact rfl; all_goals (intro h; try (exfalso; omega))) | apply W_skip | apply W_block)
        apply G_on; exact rfl; apply G1_alloc; exact T.zero24; exact rfl; exact rfl; intro a7 w7 ha7 hA7 hx7 hs7
        replace hsl6 := hsl6.ext hx7
        skip
        apply G_on; exact rfl; apply G1_storeB; exact T.z24; exact rfl; exact rfl; exact hA7; exact rfl; exact rfl; (first | exact Nat.le_of_ble_eq_true rfl | (focus (simp [Value.cells]; done))); (first | exact Enc.one _ _ | (focus (simp [Value.oneCell']; done)) | (focus (simp [Value.cells, Value.oneCell']; done)) | exact Enc.oneAgg _ _); exact rfl; (first | exact .inl rfl | exact .inr (by simp [exempt])); exact rfl; intro w8 hA8 hg8 hs8
        replace hA8 : Blk w8.heap a7 24 (eRep.enc r') := hA8
        have hx68 : Ext w6 w8 := hx7.own hg8 (fun k hk => by injection hk; omega)
        have h8 := h6.xt hx68
        have hpt := h8.put
        repeat' (first | (apply G_on; exact rfl; first | (apply G1_loadB; exact plP; exact rfl; exact hpt; exact rfl; exact rfl) | (apply G1_loadBAgg; exact T.a24; exact rfl; assumption; exact rfl; exact rfl)) | apply G_nil | apply Post_next | apply W_region)
        apply G_on; exact rfl; apply G1_callv; exact rfl; exact rfl; exact rfl; exact rfl; exact ih hrt (hL.get i r' t' hr' ht') h8 (by simp only [List.length_append, List.length_cons]; omega); rintro _ w9 ⟨rfl, p9, c9, h9⟩; refine ⟨(by first | exact .inl rfl | exact .inr (by assumption)), ?_⟩
        repeat' (first | (apply G_on; exact rfl; first | (apply G1_move; exact rfl; exact rfl) | (apply G1_add; exact rfl; exact rfl; omega; omega; exact rfl)) | apply G_nil | apply Post_next | apply W_region | apply Post_block_normal)
        exact Post_round (i + 1, p9, c9) ⟨rfl, rfl, rfl, rfl, rfl, rfl, trivial⟩ ⟨by simp only; rw [hts, List.flatMap_append, ← List.append_assoc]; simpa using h9, by simp only; omega⟩ (by simp only; omega)
      · rw [List.take_of_length_le (by omega)] at h6
        repeat' (first | (apply G_on; exact rfl; (apply G1_lss; exact rfl; exact rfl; exact rfl)) | apply G_nil | apply Post_next | apply W_seq | apply W_region | (apply W_cond_dec; exact rfl; all_goals (intro h; try (exfalso; omega))) | apply W_exit | apply Post_then_exit | apply Post_block_exit | apply Post_block_normal)
        refine Post_end Tryd.results39 (vs := []) rfl ?_
        exact ⟨rfl, p6, c6, by rw [← List.append_assoc]; exact h6⟩
end Go.Proofs.YtikjnmpijflnaaaDoor

/- bytes.Equal, bytes.HasPrefix, resp.cut: the walks. -/
namespace Go.V
section
variable {P : Program} {n : Nat} {ops : Array Oper} {dr : Nat × List Nat} {l : List Oper} {E : Env} {w : World} {K : Env → World → Prop}
variable {d : Option Nat} {ty : TypeId} {pos : String} {af : Array Edge} {g : Option (Nat × Bool)} {x : Operand} {t e : Nat}
/-- a literal's row of bytes, marked as a string's -/
theorem G1_convMark {gb N c : Nat} {cs : List Value} {bs : List UInt8} (ht : P.underlying t = some (.slice e)) (hk : P.underlying e = some (.int .u8)) (hx : E.look x = some (.slice (bx gb) N c)) (hb : Blk w.heap gb e cs) (hs : Sl w.heap eByte (bx gb) c bs)
    (he : effects P dr.1 ⟨d, .convert t t x, ty, pos, af, g⟩ = true) (hw : writes dr.1 ⟨d, .convert t t x, ty, pos, af, g⟩ = true) (hd : dstOk n d = true)
    (h : ∀ w', Sl w'.heap eByte (bx gb) c bs → w.grownBy w' (some gb) → w'.heap.size = w.heap.size → G P n ops dr l (E.put d (.slice (bx gb) N c)) w' K) : G1 P n ops dr ⟨d, .convert t t x, ty, pos, af, g⟩ l E w K := by
  have hb' := hb
  unfold Blk at hb'
  have hsh : w.shape? gb = some (e, cs.length) := by
    unfold World.shape?
    rw [hb']
    simp
  have hrun : (convert t t (.slice (bx gb) N c)).run P w = .ok (.slice (bx gb) N c) (w.freeze ⟨gb, cs.length, none⟩ 1) := by
    simp [convert, run_underlying ht, run_underlying hk, markStringish, hsh]
  have hfz : (w.freeze ⟨gb, cs.length, none⟩ 1).heap = w.heap.modify gb (fun
      | .cells c elem (lo, hi) => .cells c elem (if lo == hi then (cs.length, cs.length + 1) else (min lo cs.length, max hi (cs.length + 1)))
      | o => o) := by
    unfold World.freeze
    rw [if_neg (by decide)]
    rfl
  have hcell : ∀ a, hcell (w.freeze ⟨gb, cs.length, none⟩ 1).heap a = hcell w.heap a := by
    intro a
    unfold Go.V.hcell
    rw [hfz, Array.getElem?_modify]
    by_cases hg : gb = a.block
    · subst hg
      rw [if_pos rfl, hb']
      rfl
    · rw [if_neg hg]
  refine G1_eff _ _ he hd (fun a ha => by simp only [execOp, ha.eval hx, Sem.run_bind, hrun]; rfl) (.inl hw) (h _ ?_ ?_ ?_)
  · exact ⟨hs.ok, fun i y hi k v hv => by rw [hcell]; exact hs.cell i y hi k v hv⟩
  · refine ⟨?_, ?_, ?_, ?_, fun k hk hne => ?_⟩
    · unfold World.freeze; rw [if_neg (by decide)]
    · unfold World.freeze; rw [if_neg (by decide)]
    · unfold World.freeze; rw [if_neg (by decide)]
    · rw [hfz]; simp
    · rw [hfz, Array.getElem?_modify, if_neg (fun e => hne (by rw [e]))]
  · rw [hfz]; simp
end
end Go.V
namespace Go.Proofs.YtikjnmpijflnaaaDoor
open Go.V
attribute [local irreducible] Blk Own hcell IntT SliceT PlainT AggT SizeT StrT FieldT ZeroT EqT ArrT
theorem bytes_equal {p q : Option Addr} {c d : Nat} {xs ys : List UInt8} {w : World} (hx : Sl w.heap eByte p c xs) (hy : Sl w.heap eByte q d ys) :
    Ctr Tryd.prog 81 [.slice p xs.length c, .slice q ys.length d] w (fun v w' => v = .bool (decide (xs = ys)) ∧ Ext w w') := by
  refine Ctr_of Tryd.func81 Tryd.ntmps81 rfl rfl rfl ?_
  repeat' (first | (apply G_on; exact rfl; first | ((first | apply G1_assign | apply G1_move); exact rfl; exact rfl) | (apply G1_toString; exact T.s28; exact T.i5; exact T.str9; exact rfl; (first | exact hx | exact hy); exact rfl) | (apply G1_seql; exact rfl; exact rfl; exact rfl)) | apply G_nil | apply Post_next | apply W_seq | apply W_region | apply W_ret)
  refine Post_ret Tryd.results81 ⟨_, _, rfl, rfl, rfl⟩ ?_
  refine ⟨?_, (by repeat first | assumption | exact Ext.rfl' | apply Ext.drew | apply Ext.alloc | refine Ext.trans ?_ (by assumption))⟩
  show Value.bool (decide _) = _
  congr 1
  rw [decide_eq_decide]
  exact mkStr_inj
theorem bytes_prefix {p q : Option Addr} {c d : Nat} {xs ys : List UInt8} {w : World} (hx : Sl w.heap eByte p c xs) (hy : Sl w.heap eByte q d ys) :
    Ctr Tryd.prog 68 [.slice p xs.length c, .slice q ys.length d] w (fun v w' => v = .bool (decide (ys.length ≤ xs.length ∧ xs.take ys.length = ys)) ∧ Ext w w') := by
  have hok := hx.ok
  have hle := hok.le
  refine Ctr_of Tryd.func68 Tryd.ntmps68 rfl rfl rfl ?_
  by_cases hl : ys.length ≤ xs.length
  · have ht := hx.take ys.length
    have htl : (xs.take ys.length).length = ys.length := by simp; omega
    have heq := fun (v : World) (h1 : Sl v.heap eByte p c (xs.take ys.length)) (h2 : Sl v.heap eByte q d ys) => bytes_equal (w := v) h1 h2
    simp only [htl] at heq
    repeat' (first | (apply G_on; exact rfl; first | ((first | apply G1_assign | apply G1_move); exact rfl; exact rfl) | (apply G1_sliceHiJ (q := ys.length); exact T.s28; exact rfl; exact rfl; exact rfl; omega; exact rfl) | (apply G1_call (f := 81); exact rfl; exact rfl; exact rfl; exact heq _ ht hy; rintro _ w2 ⟨rfl, hx2⟩; refine ⟨(by first | exact .inl rfl | exact .inr (by assumption)), ?_⟩) | (apply G1_len; exact T.s28; exact rfl; exact rfl) | (apply G1_geq; exact rfl; exact rfl; exact rfl) | (apply G1_pick_t; exact rfl; exact rfl; exact rfl)) | apply G_nil | apply Post_next | apply W_seq | apply W_region | ((fail_if_success (apply G_on; exact rfl)); apply G_split_dec; exact rfl; exact rfl; all_goals (intro h; try (exfalso; omega))) | apply W_ret)
    refine Post_ret Tryd.results68 ⟨_, _, rfl, rfl, rfl⟩ ?_
    refine ⟨?_, (by repeat first | assumption | exact Ext.rfl' | apply Ext.drew | apply Ext.alloc | refine Ext.trans ?_ (by assumption))⟩
    show Value.bool (decide _) = _
    congr 1
    rw [decide_eq_decide]
    exact ⟨fun h => ⟨hl, h⟩, fun h => h.2⟩
  · repeat' (first | (apply G_on; exact rfl; first | ((first | apply G1_assign | apply G1_move); exact rfl; exact rfl) | (apply G1_len; exact T.s28; exact rfl; exact rfl) | (apply G1_geq; exact rfl; exact rfl; exact rfl) | (apply G1_pick_f; exact rfl; exact rfl; exact rfl)) | apply G_nil | apply Post_next | apply W_seq | apply W_region | (apply G_off; exact rfl; exact rfl) | ((fail_if_success (apply G_on; exact rfl)); apply G_split_dec; exact rfl; exact rfl; all_goals (intro h; try (exfalso; omega))) | apply W_ret)
    refine Post_ret Tryd.results68 ⟨_, _, rfl, rfl, rfl⟩ ?_
    exact ⟨by rw [decide_eq_false (fun h => hl h.1)]; rfl, (by repeat first | assumption | exact Ext.rfl' | apply Ext.drew | apply Ext.alloc | refine Ext.trans ?_ (by assumption))⟩
theorem cut_no {p : Option Addr} {c : Nat} {bs : List UInt8} {n : Int} {w : World} (hC : Sl w.heap eByte p c bs) (h : ¬ (0 ≤ n ∧ n ≤ bs.length)) :
    Ctr Tryd.prog 58 [.slice p bs.length c, .int .i64 n] w (fun v w' => v = .tuple #[.string ⟨#[]⟩, .bool false] ∧ Ext w w') := by
  have n1 := hC.bound
  refine Ctr_of Tryd.func58 Tryd.ntmps58 rfl rfl rfl ?_
  repeat' (first | (apply G_on; exact rfl; first | ((first | apply G1_assign | apply G1_move); exact rfl; exact rfl) | ((first | apply G1_lss | apply G1_gtr); exact rfl; exact rfl; exact rfl) | (apply G1_len; exact T.s28; exact rfl; exact rfl) | (apply G1_pick_t; exact rfl; exact rfl; exact rfl) | (apply G1_pick_f; exact rfl; exact rfl; exact rfl)) | apply G_nil | apply Post_next | apply W_seq | apply W_region | (apply W_cond_true; exact rfl) | (apply G_off; exact rfl; exact rfl) | ((fail_if_success (apply G_on; exact rfl)); apply G_split_dec; exact rfl; exact rfl; all_goals (intro h; try (exfalso; omega))) | apply W_ret | apply Post_then_ret)
  all_goals
    refine Post_ret Tryd.results58 ⟨_, _, rfl, rfl, _, _, rfl, rfl, rfl⟩ ?_
    exact ⟨rfl, (by repeat first | assumption | exact Ext.rfl' | apply Ext.drew | apply Ext.alloc | refine Ext.trans ?_ (by assumption))⟩
theorem cut_spec {p : Option Addr} {c k : Nat} {bs : List UInt8} {w : World} (hC : Sl w.heap eByte p c bs) (hk : k ≤ bs.length) :
    Ctr Tryd.prog 58 [.slice p bs.length c, .int .i64 (k : Int)] w (fun v w' => v = (if (bs.drop k).take 2 = [13, 10] then .tuple #[.string (mkStr (bs.take k)), .bool true] else .tuple #[.string ⟨#[]⟩, .bool false]) ∧ Ext w w') := by
  have n1 := hC.bound
  have hok := hC.ok
  have hle := hok.le
  refine Ctr_of Tryd.func58 Tryd.ntmps58 rfl rfl rfl ?_
  repeat' (first | (apply G_on; exact rfl; first | ((first | apply G1_assign | apply G1_move); exact rfl; exact rfl) | (apply G1_sliceLoJ (q := k); exact T.s28; exact rfl; exact rfl; exact rfl; exact hok; omega; exact rfl) | ((first | apply G1_lss | apply G1_gtr); exact rfl; exact rfl; exact rfl) | (apply G1_len; exact T.s28; exact rfl; exact rfl) | (apply G1_pick_f; exact rfl; exact rfl; exact rfl)) | apply G_nil | apply Post_next | apply W_seq | apply W_region | ((fail_if_success (apply G_on; exact rfl)); apply G_split_dec; exact rfl; exact rfl; all_goals (intro h; try (exfalso; omega))))
  apply G_on; exact rfl
  apply G1_buildN eByte [13, 10]; exact T.s28; exact rfl; exact rfl; exact rfl; exact rfl; exact rfl; exact Nat.succ_pos _; exact Nat.le_of_ble_eq_true rfl; exact rfl; exact rfl
  intro p1 w1 ho1 hx1 hz1
  obtain ⟨gb, cur, hp1, hgb, hB, hcl, hcm, _, htk⟩ := ho1.toBlk (ho1.some_of_pos (by simp))
  subst hp1
  have hs1 := ho1.sl
  skip
  apply G_on; exact rfl
  apply G1_convMark; exact Tryd.underlying28; exact Tryd.underlying5; exact rfl; exact hB; exact hs1; exact rfl; exact rfl; exact rfl
  intro w2 hs2 hg2 hz2
  have hx2 : Ext w w2 := hx1.own hg2 (fun k hk => by injection hk; omega)
  have hC2 := hC.ext hx2
  have hd := hC2.drop (l := k) (by omega)
  have hp := fun v (h1 : Sl v.heap eByte (subp p c k 1) (c - k) (bs.drop k)) (h2 : Sl v.heap eByte (bx gb) 2 [13, 10]) => bytes_prefix (w := v) h1 h2
  simp only [List.length_drop] at hp
  have hC3 := hC2.take k
  have htk2 : (bs.take k).length = k := by simp; omega
  by_cases hcr : (bs.drop k).take 2 = [13, 10]
  · have hl2 : 2 ≤ bs.length - k := by
      have := congrArg List.length hcr
      simp at this
      omega
    have hb : decide (([13, 10] : List UInt8).length ≤ bs.length - k ∧ (bs.drop k).take ([13, 10] : List UInt8).length = [13, 10]) = true := decide_eq_true ⟨hl2, hcr⟩
    rw [hb] at hp
    rw [if_pos hcr]
    apply G_on; exact rfl; apply G1_call; exact rfl; exact rfl; exact rfl; exact hp _ hd hs2; rintro _ w3 ⟨rfl, hx3⟩; refine ⟨(by first | exact .inl rfl | exact .inr (by assumption)), ?_⟩
    have hC4 := hC3.ext hx3
    repeat' (first | (apply G_on; exact rfl; first | ((first | apply G1_assign | apply G1_move); exact rfl; exact rfl) | (apply G1_sliceHiJ (q := k); exact T.s28; exact rfl; exact rfl; exact rfl; omega; exact rfl) | (apply G1_toString (bs := bs.take k); exact T.s28; exact T.i5; exact T.str9; (rw [htk2]; exact rfl); exact hC4; exact rfl) | (apply G1_pick_f; exact rfl; exact rfl; exact rfl) | (apply G1_not_t; exact rfl; exact rfl)) | apply G_nil | apply Post_next | apply W_seq | apply W_region | (apply W_cond_false; exact rfl) | apply W_skip | apply W_ret)
    refine Post_ret Tryd.results58 ⟨_, _, rfl, rfl, _, _, rfl, rfl, rfl⟩ ?_
    exact ⟨rfl, (by repeat first | assumption | exact Ext.rfl' | apply Ext.drew | apply Ext.alloc | refine Ext.trans ?_ (by assumption))⟩
  · have hb : decide (([13, 10] : List UInt8).length ≤ bs.length - k ∧ (bs.drop k).take ([13, 10] : List UInt8).length = [13, 10]) = false := decide_eq_false (fun h => hcr h.2)
    rw [hb] at hp
    rw [if_neg hcr]
    apply G_on; exact rfl; apply G1_call; exact rfl; exact rfl; exact rfl; exact hp _ hd hs2; rintro _ w3 ⟨rfl, hx3⟩; refine ⟨(by first | exact .inl rfl | exact .inr (by assumption)), ?_⟩
    repeat' (first | (apply G_on; exact rfl; first | (apply G1_assign; exact rfl; exact rfl) | (apply G1_pick_f; exact rfl; exact rfl; exact rfl) | (apply G1_not_f; exact rfl; exact rfl)) | apply G_nil | apply Post_next | apply W_seq | apply W_region | (apply W_cond_true; exact rfl) | apply W_ret | apply Post_then_ret)
    refine Post_ret Tryd.results58 ⟨_, _, rfl, rfl, _, _, rfl, rfl, rfl⟩ ?_
    exact ⟨rfl, (by repeat first | assumption | exact Ext.rfl' | apply Ext.drew | apply Ext.alloc | refine Ext.trans ?_ (by assumption))⟩
end Go.Proofs.YtikjnmpijflnaaaDoor

/- bytes.IndexAny at the ends of lines: its set of signs. -/
namespace Go.Proofs.YtikjnmpijflnaaaDoor
open Go.V
attribute [local irreducible] Blk Own hcell IntT SliceT PlainT AggT SizeT StrT FieldT ZeroT EqT ArrT
/-- the set's cells after k of the two signs -/
def setC (k : Nat) : List Value := (List.range 256).map (fun i => Value.bool ((decide (i = 13) && decide (0 < k)) || (decide (i = 10) && decide (1 < k))))
theorem zrSet : ZeroT Tryd.prog 109 (.agg (setC 0).toArray) := ZeroT.of (by kernel_rfl)
theorem should_spec {n : Int} {w : World} : Ctr Tryd.prog 71 [.int .i64 n] w (fun v w' => v = .bool (decide (8 < n)) ∧ Ext w w') := by
  refine Ctr_of Tryd.func71 Tryd.ntmps71 rfl rfl rfl ?_
  repeat' (first | (apply G_on; exact rfl; first | ((first | apply G1_assign | apply G1_move); exact rfl; exact rfl) | (apply G1_gtr; exact rfl; exact rfl; exact rfl)) | apply G_nil | apply Post_next | apply W_seq | apply W_region | apply W_ret)
  refine Post_ret Tryd.results71 ⟨_, _, rfl, rfl, rfl⟩ ?_
  exact ⟨rfl, (by repeat first | assumption | exact Ext.rfl' | apply Ext.drew | apply Ext.alloc | refine Ext.trans ?_ (by assumption))⟩
set_option maxRecDepth 100000 in
theorem mkset_spec {w : World} : Ctr Tryd.prog 72 [.string brs] w (fun v w' => v = .tuple #[.agg (setC 2).toArray, .bool true] ∧ Ext w w') := by
  have hss := br_size
  refine Ctr_of Tryd.func72 Tryd.ntmps72 rfl rfl rfl ?_
  repeat' (first | apply W_seq | apply W_region)
  apply G_on; exact rfl; apply G1_alloc; exact zrSet; exact rfl; exact rfl; intro a1 w1 ha1 hA1 hx1 hs1
  replace hA1 : Blk w1.heap a1 109 (setC 0) := hA1
  repeat' (first | (apply G_on; exact rfl; (apply G1_assign; exact rfl; exact rfl)) | apply G_nil | apply Post_next | apply W_seq | apply W_region | apply W_block)
  refine W_loop (ι := Nat) (fun k => [(0, .string brs), (2, .pointer (some (adr (bx a1) 0))), (4, .int .i64 (k : Int))]) (fun k w' => Ext w w' ∧ Blk w'.heap a1 109 (setC k) ∧ k ≤ 2) (fun k => 2 - k) 0 ⟨rfl, rfl, rfl, trivial⟩ ⟨hx1, hA1, Nat.zero_le _⟩ ?_
  clear hA1 hx1
  rintro k w2 ⟨hx2, hA2, hk⟩
  have setB : ∀ (j : Nat) (H : Array Obj) (cs : List Value), cs = setC j → Blk H a1 109 cs → Blk H a1 109 (setC j) := fun j H cs h hb => h ▸ hb
  rcases (show k = 0 ∨ k = 1 ∨ k = 2 by omega) with rfl | rfl | rfl
  · have hb0 : (bget brs 0).toNat = 13 := by decide
    repeat' (first | (apply G_on; exact rfl; first | ((first | apply G1_assign | apply G1_move); exact rfl; exact rfl) | (apply G1_sindexJ (q := 0) (s := brs); exact T.str9; exact rfl; exact rfl; exact rfl; omega; exact rfl) | (apply G1_slen; exact T.str9; exact rfl; exact rfl) | ((first | apply G1_lss | apply G1_geq); exact rfl; exact rfl; exact rfl) | (apply G1_indexArr; exact T.ar109; exact rfl; exact rfl; omega; omega; exact rfl)) | apply G_nil | apply Post_next | apply W_seq | apply W_region | (apply W_cond_true; exact rfl) | (apply W_cond_false; exact rfl) | apply W_skip | apply W_block)
    apply G_on; exact rfl
    apply G1_storeB (m := 13); exact T.z4; exact rfl; exact rfl; exact hA2; exact rfl; exact rfl; (simp [setC]); (simp [Value.cells, Value.oneCell']); exact rfl; exact .inl rfl; exact rfl
    intro w3 hA3 hg3 hs3
    replace hA3 := setB 1 _ _ (by kernel_rfl) hA3
    repeat' (first | (apply G_on; exact rfl; first | ((first | apply G1_assign | apply G1_move); exact rfl; exact rfl) | (apply G1_add; exact rfl; exact rfl; omega; omega; exact rfl)) | apply G_nil | apply Post_next | apply W_region | apply Post_block_normal)
    exact Post_round 1 ⟨rfl, rfl, rfl, trivial⟩ ⟨hx2.own hg3 (fun k hk => by injection hk; omega), hA3, by omega⟩ (by omega)
  · have hb0 : (bget brs 1).toNat = 10 := by decide
    repeat' (first | (apply G_on; exact rfl; first | ((first | apply G1_assign | apply G1_move); exact rfl; exact rfl) | (apply G1_sindexJ (q := 1) (s := brs); exact T.str9; exact rfl; exact rfl; exact rfl; omega; exact rfl) | (apply G1_slen; exact T.str9; exact rfl; exact rfl) | ((first | apply G1_lss | apply G1_geq); exact rfl; exact rfl; exact rfl) | (apply G1_indexArr; exact T.ar109; exact rfl; exact rfl; omega; omega; exact rfl)) | apply G_nil | apply Post_next | apply W_seq | apply W_region | (apply W_cond_true; exact rfl) | (apply W_cond_false; exact rfl) | apply W_skip | apply W_block)
    apply G_on; exact rfl
    apply G1_storeB (m := 10); exact T.z4; exact rfl; exact rfl; exact hA2; exact rfl; exact rfl; (simp [setC]); (simp [Value.cells, Value.oneCell']); exact rfl; exact .inl rfl; exact rfl
    intro w3 hA3 hg3 hs3
    replace hA3 := setB 2 _ _ (by kernel_rfl) hA3
    repeat' (first | (apply G_on; exact rfl; first | ((first | apply G1_assign | apply G1_move); exact rfl; exact rfl) | (apply G1_add; exact rfl; exact rfl; omega; omega; exact rfl)) | apply G_nil | apply Post_next | apply W_region | apply Post_block_normal)
    exact Post_round 2 ⟨rfl, rfl, rfl, trivial⟩ ⟨hx2.own hg3 (fun k hk => by injection hk; omega), hA3, by omega⟩ (by omega)
  · repeat' (first | (apply G_on; exact rfl; first | (apply G1_move; exact rfl; exact rfl) | (apply G1_slen; exact T.str9; exact rfl; exact rfl) | (apply G1_lss; exact rfl; exact rfl; exact rfl) | (apply G1_loadBAgg; exact T.a109; exact rfl; assumption; exact rfl; exact rfl)) | apply G_nil | apply Post_next | apply W_seq | apply W_region | (apply W_cond_false; exact rfl) | apply W_exit | apply Post_then_exit | apply Post_block_exit)
    apply G_on; exact rfl
    apply G1_storeB (m := 0) (vs := setC 2); exact T.z109; exact rfl; exact rfl; exact hA2; exact rfl; (simp [setC]); (simp [setC]); (intro v hv; simp only [setC, List.mem_map] at hv; obtain ⟨i, _, rfl⟩ := hv; rfl); exact rfl; exact .inl rfl; exact rfl
    intro w3 hA3 hg3 hs3
    replace hA3 := setB 2 _ _ (by kernel_rfl) hA3
    have hx3 : Ext w w3 := hx2.own hg3 (fun k hk => by injection hk; omega)
    repeat' (first | (apply G_on; exact rfl; (apply G1_assign; exact rfl; exact rfl)) | apply G_nil | apply Post_next | apply W_ret)
    refine Post_ret Tryd.results72 ⟨_, _, _, rfl, rfl, run_loadVar_box T.a109 (by assumption) rfl, _, _, rfl, rfl, rfl⟩ ?_
    exact ⟨rfl, (by repeat first | assumption | exact Ext.rfl' | apply Ext.drew | apply Ext.alloc | refine Ext.trans ?_ (by assumption))⟩
theorem contains_spec {a k : Nat} {c : UInt8} {w : World} (hA : Blk w.heap a 109 (setC k)) :
    Ctr Tryd.prog 73 [.pointer (some (adr (bx a) 0)), .int .u8 (c.toNat : Int)] w (fun v w' => v = .bool ((decide (c.toNat = 13) && decide (0 < k)) || (decide (c.toNat = 10) && decide (1 < k))) ∧ Ext w w') := by
  have hlt := c.toNat_lt
  have hcell : (setC k)[c.toNat]? = some (.bool ((decide (c.toNat = 13) && decide (0 < k)) || (decide (c.toNat = 10) && decide (1 < k)))) := by
    unfold setC
    rw [List.getElem?_map, List.getElem?_range (by omega)]
    rfl
  refine Ctr_of Tryd.func73 Tryd.ntmps73 rfl rfl rfl ?_
  repeat' (first | (apply G_on; exact rfl; first | ((first | apply G1_assign | apply G1_move | apply G1_nilCheck); exact rfl; exact rfl) | (apply G1_loadB; exact T.p4; exact rfl; exact hA; (simp only [Nat.zero_add, Nat.mul_one, Int.toNat_natCast]; exact hcell); exact rfl) | (apply G1_indexArr; exact T.ar109; exact rfl; exact rfl; omega; omega; exact rfl)) | apply G_nil | apply Post_next | apply W_seq | apply W_region | apply W_ret)
  refine Post_ret Tryd.results73 ⟨_, _, rfl, rfl, rfl⟩ ?_
  exact ⟨rfl, (by repeat first | assumption | exact Ext.rfl' | apply Ext.drew | apply Ext.alloc | refine Ext.trans ?_ (by assumption))⟩
end Go.Proofs.YtikjnmpijflnaaaDoor

/- bytes.IndexAny at the ends of lines: the walk. -/
namespace Go.V
open Go.RowKit
theorem enc_size (c : Nat) (hv : Utf8.valid (c : Int) = true) : (Utf8.encode (c : Int)).size = if c < 0x80 then 1 else if c < 0x800 then 2 else if c < 0x10000 then 3 else 4 := by
  unfold Utf8.encode
  simp only [hv, if_true, Int.toNat_natCast]
  split
  · rfl
  · split
    · rfl
    · split <;> rfl
/-- a rune that is read is written as long as it was -/
theorem enc_width (s : ByteArray) (i : Nat) (h : i < s.size) (hb : 128 ≤ (bget s i).toNat) (hr : (Utf8.decode s i).1 ≠ 65533) : (Utf8.encode ((Utf8.decode s i).1 : Int)).size = (Utf8.decode s i).2 := by
  have h0 : (s.get! i).toNat = (bget s i).toNat := by rw [bget_get' h]
  have hn : ¬ (s.get! i).toNat < 128 := by omega
  have vd : ∀ c : Nat, c < 0xD800 → Utf8.valid (c : Int) = true := fun c hc => by
    unfold Utf8.valid
    simp only [Bool.or_eq_true, Bool.and_eq_true, decide_eq_true_eq]
    omega
  generalize hd : Utf8.decode s i = d at hr ⊢
  simp only [Utf8.decode, Nat.add_zero, hn, if_false] at hd
  split at hd
  · rename_i q1
    split at hd
    · rename_i q2
      subst hd
      simp only [Bool.and_eq_true, beq_iff_eq] at q1
      rw [enc_size _ (vd _ (by omega)), if_neg (by omega), if_pos (by omega)]
    · subst hd; exact absurd rfl hr
  · split at hd
    · rename_i q2
      split at hd
      · rename_i q3
        subst hd
        simp only [Bool.and_eq_true, beq_iff_eq, decide_eq_true_eq] at q2 q3
        rw [enc_size _ q3.2, if_neg (by omega), if_neg (by omega), if_pos (by omega)]
      · subst hd; exact absurd rfl hr
    · split at hd
      · rename_i q3
        split at hd
        · rename_i q4
          subst hd
          simp only [Bool.and_eq_true, beq_iff_eq, decide_eq_true_eq] at q3 q4
          rw [enc_size _ q4.2, if_neg (by omega), if_neg (by omega), if_neg (by omega)]
        · subst hd; exact absurd rfl hr
      · subst hd; exact absurd rfl hr
section
variable {P : Program} {n : Nat} {ops : Array Oper} {dr : Nat × List Nat} {l : List Oper} {E : Env} {w : World} {K : Env → World → Prop}
variable {d : Option Nat} {ty : TypeId} {pos : String} {af : Array Edge} {g : Option (Nat × Bool)} {x y : Operand} {i : Int}
/-- a longer text is not found in a shorter one -/
theorem run_indexS (P : Program) (a b : ByteArray) {m : Int} {gm : Nat} (w : World) (hg : P.globals.findIdx? (·.name == "internal/bytealg.MaxLen") = some gm) (hm : hcell w.heap ⟨gm, 0, none⟩ = some (.int .i64 m)) (h1 : 2 ≤ b.size) (h2 : (b.size : Int) ≤ m) (h3 : a.size < b.size) (h4 : a.size < 1000) :
    (Extern.BytealgIndex.index #[.string a, .string b]).run P w = .ok (.int .i64 (-1)) w := by
  have hml : (Extern.BytealgIndex.maxLen).run P w = .ok m w := by
    unfold Extern.BytealgIndex.maxLen
    simp [globalAddr, hg, load, Sem.run, cell_eq, hm, asInt, asIntOf]
  have hr : a.size + 1 - b.size = 0 := by omega
  change Sem.run P (bind (Extern.Bytes.bytesOf (.string a)) _) w = _
  have ea : (Extern.Bytes.bytesOf (.string a)).run P w = .ok a w := rfl
  have eb : (Extern.Bytes.bytesOf (.string b)).run P w = .ok b w := rfl
  rw [Sem.run_bind, ea, Result.andThen_ok]
  change Sem.run P (bind (Extern.Bytes.bytesOf (.string b)) _) w = _
  rw [Sem.run_bind, eb, Result.andThen_ok]
  rw [Sem.run_bind, hml, Result.andThen_ok]
  have e1 : (decide (b.size < 2) || decide ((b.size : Int) > m)) = false := by
    simp only [Bool.or_eq_false_iff, decide_eq_false_iff_not]; omega
  rw [if_neg (by rw [e1]; decide)]
  simp only [Sem.run_bind, Sem.run_pure, Result.andThen_ok]
  rw [if_neg (by omega), hr]
  rfl
theorem G1_indexS {f : FuncId} {fn : Func} {a b : ByteArray} {m : Int} {gm : Nat} {tys : Array TypeId} (hf : P.funcs[f]? = some fn) (hname : (fn.name == "runtime.NumGoroutine") = false) (hb : fn.body.isNone = true) (hn : Extern.findNext fn = none) (hfi : Extern.find fn = some Extern.BytealgIndex.index)
    (hx : E.look x = some (.string a)) (hy : E.look y = some (.string b)) (hg : P.globals.findIdx? (·.name == "internal/bytealg.MaxLen") = some gm) (hm : hcell w.heap ⟨gm, 0, none⟩ = some (.int .i64 m)) (h1 : 2 ≤ b.size) (h2 : (b.size : Int) ≤ m) (h3 : a.size < b.size) (h4 : a.size < 1000) (he : effects P dr.1 ⟨d, .call ⟨.value (.func f), #[x, y], tys⟩, ty, pos, af, g⟩ = true) (hd : dstOk n d = true)
    (h : G P n ops dr l (E.put d (.int .i64 (-1))) w K) : G1 P n ops dr ⟨d, .call ⟨.value (.func f), #[x, y], tys⟩, ty, pos, af, g⟩ l E w K := by
  have hr : (callFunc f #[.string a, .string b]).run P w = .ok (.value (.int .i64 (-1))) w := by
    rw [run_callFunc_extern hf hname hb hn hfi, run_indexS P a b w hg hm h1 h2 h3 h4]
    rfl
  exact G1_eff _ w he hd (fun a ha => by
    have e0 : a.eval (.func f) = .func (.func f) #[] #[] := rfl
    simp [execOp, resolve, Deferred.ofValue, e0, invoke, ha.eval hx, ha.eval hy, hr]) (.inr ExtS.rfl') h
end
end Go.V
namespace Go.Proofs.YtikjnmpijflnaaaDoor
open Go.V
attribute [local irreducible] Blk Own hcell IntT SliceT PlainT AggT SizeT StrT FieldT ZeroT EqT ArrT
/-- the library's tables of runes, and a number in the variable MaxLen -/
structure Utf (w : World) : Prop where
  tabs : Lib.Utf8Tabs (Tryd.layDR_ren.g 2) (Tryd.layDR_ren.g 3) w
  most : ∃ m : Int, hcell w.heap ⟨0, 0, none⟩ = some (.int .i64 m)
theorem Utf.ext {w w' : World} (h : Utf w) (hx : Ext w w') : Utf w' := ⟨Utf8Tabs_below h.tabs hx, h.most.imp fun _ hm => hx.cell hm⟩
theorem gMax : Tryd.prog.globals.findIdx? (·.name == "internal/bytealg.MaxLen") = some 0 := by kernel_rfl
theorem is0 : Extern.findNext Tryd.f75 = none := by kernel_rfl
theorem is1 : Extern.find Tryd.f75 = some Extern.BytealgIndex.index := by kernel_rfl
theorem wrap_i32_u8 (x : UInt8) : IntKind.i32.wrap (x.toNat : Int) = (x.toNat : Int) := by
  have := x.toNat_lt
  simp only [IntKind.wrap_i32]; omega
theorem decodeRune_spec {p : Option Addr} {c : Nat} {xs : List UInt8} {w : World} (hs : Sl w.heap eByte p c xs) (h0 : xs ≠ []) (hU : Utf w) :
    Ctr Tryd.prog 74 [.slice p xs.length c] w (fun v w' => v = .tuple #[.int .i32 (Utf8.decode (mkStr xs) 0).1, .int .i64 (Utf8.decode (mkStr xs) 0).2] ∧ Ext w w') := by
  have hl : 0 < xs.length := List.length_pos_iff.2 h0
  have hle := hs.ok.le
  obtain ⟨a, rfl⟩ : ∃ a, p = some a := by
    cases p with
    | none => have := hs.ok.nul rfl; omega
    | some a => exact ⟨a, rfl⟩
  have hsp := hs.ok.spot a rfl (by omega)
  obtain ⟨b, off, sp⟩ := a
  simp only at hsp
  subst hsp
  have hsz : (mkStr xs).size = xs.length := mkStr_size xs
  have key := Any7.utf8_DecodeRune Tryd.layDR (mkStr xs) b off c w hU.tabs (fun j hj => by
    rw [hsz] at hj
    obtain ⟨x, hx⟩ := get_some hj
    have h1 := hs.cell j x hx 0 (.int .u8 (x.toNat : Int)) rfl
    have h2 : ((mkStr xs).get! j) = x := by
      rw [bget_get' (by rw [hsz]; exact hj), bget_list]
      have : (mkStr xs).data.toList = xs := by unfold mkStr; simp
      rw [this, List.getD_eq_getElem?_getD, hx]
      rfl
    rw [h2]
    have e : adr (some ⟨b, off, none⟩) (j * eByte.sz + 0) = ⟨b, off + j, none⟩ := by
      simp [adr, Addr.add, eByte]
    rw [e] at h1
    rw [cell_eq]
    exact h1)
  unfold Ctr
  refine ⟨⟨Tryd.f74, Tryd.func74, by decide, rfl⟩, ?_⟩
  rw [hsz] at key
  refine Calls.mono key fun e w' ⟨he, hw⟩ => ⟨_, he, ?_, hw⟩
  unfold Lib.decodeGo
  rw [if_neg (by omega)]
theorem drop_at {α : Type} {xs : List α} {k : Nat} {x : α} (h : xs[k]? = some x) : xs.drop k = x :: xs.drop (k + 1) := by
  rw [List.drop_eq_getElem_cons (get_lt h)]
  rw [List.getElem?_eq_getElem (get_lt h)] at h
  injection h with h
  rw [h]
/-- where the first end-of-line sign is, or -1 -/
def brI (bs : List UInt8) : Int := if brAt bs < bs.length then (brAt bs : Int) else -1
theorem brI_at {bs : List UInt8} {k : Nat} {x : UInt8} (hk : bs[k]? = some x) (hx : isBr x = true) (hn : ∀ b ∈ bs.take k, isBr b = false) : brI bs = (k : Int) := by
  have hlt := get_lt hk
  have e : bs = bs.take k ++ x :: bs.drop (k + 1) := by
    rw [← drop_at hk, List.take_append_drop]
  have hb : brAt bs = k := by
    rw [e, brAt_app _ _ _ hn hx, List.length_take]
    omega
  unfold brI
  rw [hb, if_pos hlt]
theorem brI_no {bs : List UInt8} (hn : ∀ b ∈ bs, isBr b = false) : brI bs = -1 := by
  have hb : ¬ brAt bs < bs.length := fun h => by
    obtain ⟨c, h1, h2⟩ := brAt_is bs h
    rw [hn c (List.mem_of_getElem? h1)] at h2
    cases h2
  unfold brI
  rw [if_neg hb]
theorem no_snoc {bs : List UInt8} {k : Nat} {x : UInt8} (hk : bs[k]? = some x) (hx : isBr x = false) (hn : ∀ b ∈ bs.take k, isBr b = false) : ∀ b ∈ bs.take (k + 1), isBr b = false := by
  intro b hb
  rw [take_snoc hk] at hb
  rcases List.mem_append.1 hb with hb | hb
  · exact hn b hb
  · rw [List.mem_singleton.1 hb]; exact hx
theorem isBr_hi {x : UInt8} (h : 128 ≤ x.toNat) : isBr x = false := by
  cases e : isBr x with
  | false => rfl
  | true => have := br_lo e; omega
theorem isBr_of (x : UInt8) : isBr x = ((decide (x.toNat = 13) && decide (0 < 2)) || (decide (x.toNat = 10) && decide (1 < 2))) := by
  have key : ∀ n : Fin 256, isBr (UInt8.ofNat n.val) = ((decide ((UInt8.ofNat n.val).toNat = 13) && decide (0 < 2)) || (decide ((UInt8.ofNat n.val).toNat = 10) && decide (1 < 2))) := by decide +kernel
  have h := key ⟨x.toNat, UInt8.toNat_lt x⟩
  simpa using h

set_option maxRecDepth 100000 in
theorem bytesIndex_spec {p : Option Addr} {c : Nat} {bs : List UInt8} {w : World} (hC : Sl w.heap eByte p c bs) (hU : Utf w) :
    Ctr Tryd.prog 59 [.slice p bs.length c, .string brs] w (fun v w' => v = .int .i64 (brI bs) ∧ Ext w w') := by
  have hse : ¬ brs = ⟨#[]⟩ := by decide
  have hss := br_size
  have n1 := hC.bound
  have hok := hC.ok
  refine Ctr_of Tryd.func59 Tryd.ntmps59 rfl rfl rfl ?_
  rcases (show bs.length = 0 ∨ bs.length = 1 ∨ (2 ≤ bs.length ∧ bs.length ≤ 8) ∨ 8 < bs.length by omega) with h0 | h1 | h2 | h8
  · obtain rfl := List.eq_nil_of_length_eq_zero h0
    have hsu : ∀ w, Ctr Tryd.prog 71 [.int .i64 (([] : List UInt8).length : Int)] w (fun v w' => v = .bool false ∧ Ext w w') := fun w => should_spec.mono fun v w' ⟨a1, a2⟩ => ⟨a1, a2⟩
    repeat' (first | (apply G_on; exact rfl; first | ((first | apply G1_assign | apply G1_move); exact rfl; exact rfl) | (apply G1_call (f := 71); exact rfl; exact rfl; exact rfl; exact hsu _; rintro _ w1 ⟨rfl, hx1⟩; refine ⟨(by first | exact .inl rfl | exact .inr (by assumption)), ?_⟩) | (apply G1_seql; exact rfl; exact rfl; exact rfl) | (apply G1_len; exact T.s28; exact rfl; exact rfl) | (apply G1_eql; exact rfl; exact rfl; exact rfl) | (apply G1_slen; exact T.str9; exact rfl; exact rfl)) | apply G_nil | apply Post_next | apply W_seq | apply W_region | (apply W_cond_false; exact rfl) | apply W_skip | apply W_block)
    refine W_loop (ι := Unit) (fun _ => [(0, .slice p ([] : List UInt8).length c), (12, .int .i64 0)]) (fun _ w' => Ext w w') (fun _ => 0) () ⟨rfl, rfl, trivial⟩ (by repeat first | assumption | exact Ext.rfl' | apply Ext.drew | apply Ext.alloc | refine Ext.trans ?_ (by assumption)) ?_
    rintro _ w3 hx3
    repeat' (first | (apply G_on; exact rfl; first | ((first | apply G1_assign | apply G1_move); exact rfl; exact rfl) | (apply G1_len; exact T.s28; exact rfl; exact rfl) | (apply G1_lss; exact rfl; exact rfl; exact rfl)) | apply G_nil | apply Post_next | apply W_seq | apply W_region | (apply W_cond_false; exact rfl) | apply W_exit | apply W_ret | apply Post_then_exit | apply Post_block_exit)
    refine Post_ret Tryd.results59 ⟨_, _, rfl, rfl, rfl⟩ ?_
    exact ⟨rfl, (by repeat first | assumption | exact Ext.rfl' | apply Ext.drew | apply Ext.alloc | refine Ext.trans ?_ (by assumption))⟩
  · obtain ⟨x, rfl⟩ : ∃ x, bs = [x] := by
      cases bs with
      | nil => cases h1
      | cons x l => cases l with
        | nil => exact ⟨x, rfl⟩
        | cons y l => simp at h1
    have hq : [x][0]? = some x := rfl
    have hxl := x.toNat_lt
    have hsg := br_idx x
    by_cases hb : x.toNat < 128
    · repeat' (first | (apply G_on; exact rfl; first | ((first | apply G1_assign | apply G1_move); exact rfl; exact rfl) | (apply G1_convE (j := (x.toNat : Int)); exact rfl; exact T.i5; exact T.i21; exact wrap_i32_u8 x; exact rfl) | (apply G1_indexByte; exact Tryd.func69; exact rfl; exact rfl; exact ib0; exact ib1; exact rfl; exact rfl; exact rfl; exact rfl) | (apply G1_seql; exact rfl; exact rfl; exact rfl) | (apply G1_len; exact T.s28; exact rfl; exact rfl) | (apply G1_eql; exact rfl; exact rfl; exact rfl) | (apply G1_indexAddr; exact T.s28; exact rfl; exact rfl; (first | assumption | exact Sl.ok (by assumption) | exact (Own.sl (by assumption)).ok); omega; omega; exact rfl) | (apply G1_loadEl1; exact T.p5; exact rfl; assumption; assumption; exact rfl; exact rfl; exact rfl) | (apply G1_geq; exact rfl; exact rfl; exact rfl)) | apply G_nil | apply Post_next | apply W_seq | apply W_region | (apply W_cond_true; exact rfl) | (apply W_cond_false; exact rfl) | (apply W_cond_dec; exact rfl; all_goals (intro h; try (exfalso; omega))) | apply W_skip | apply W_ret | apply Post_then_ret)
      · refine Post_ret Tryd.results59 ⟨_, _, rfl, rfl, rfl⟩ ?_
        rw [toUInt8_nat] at h
        exact ⟨by rw [brI_at (k := 0) hq (by rw [← hsg]; exact decide_eq_true h) (by simp)]; rfl, (by repeat first | assumption | exact Ext.rfl' | apply Ext.drew | apply Ext.alloc | refine Ext.trans ?_ (by assumption))⟩
      · refine Post_ret Tryd.results59 ⟨_, _, rfl, rfl, rfl⟩ ?_
        rw [toUInt8_nat] at h
        have hno : isBr x = false := by rw [← hsg]; exact decide_eq_false h
        exact ⟨by rw [brI_no (by intro b hb; rw [List.mem_singleton.1 hb]; exact hno)]; rfl, (by repeat first | assumption | exact Ext.rfl' | apply Ext.drew | apply Ext.alloc | refine Ext.trans ?_ (by assumption))⟩
    · have hno := isBr_hi (x := x) (by omega)
      repeat' (first | (apply G_on; exact rfl; first | ((first | apply G1_assign | apply G1_move); exact rfl; exact rfl) | (apply G1_convE (j := (x.toNat : Int)); exact rfl; exact T.i5; exact T.i21; exact wrap_i32_u8 x; exact rfl) | (apply G1_seql; exact rfl; exact rfl; exact rfl) | (apply G1_len; exact T.s28; exact rfl; exact rfl) | (apply G1_eql; exact rfl; exact rfl; exact rfl) | (apply G1_indexAddr; exact T.s28; exact rfl; exact rfl; (first | assumption | exact Sl.ok (by assumption) | exact (Own.sl (by assumption)).ok); omega; omega; exact rfl) | (apply G1_loadEl1; exact T.p5; exact rfl; assumption; assumption; exact rfl; exact rfl; exact rfl) | (apply G1_geq; exact rfl; exact rfl; exact rfl)) | apply G_nil | apply Post_next | apply W_seq | apply W_region | (apply W_cond_true; exact rfl) | (apply W_cond_false; exact rfl) | (apply W_cond_dec; exact rfl; all_goals (intro h; try (exfalso; omega))) | apply W_skip)
      apply G_on; exact rfl
      apply G1_rangeS; exact T.str9; exact rfl; exact rfl; exact rfl
      intro wi hii hxi hzi
      obtain ⟨kb, hkb⟩ : ∃ k, w.heap.size = k := ⟨_, rfl⟩
      rw [hkb] at hii ⊢
      have hkw : w.heap.size ≤ kb := by have := (show Ext w w from (by repeat first | assumption | exact Ext.rfl' | apply Ext.drew | apply Ext.alloc | refine Ext.trans ?_ (by assumption))).size; omega
      replace hxi : Ext w wi := (show Ext w w from (by repeat first | assumption | exact Ext.rfl' | apply Ext.drew | apply Ext.alloc | refine Ext.trans ?_ (by assumption))).trans hxi
      repeat' (first | apply G_nil | apply Post_next | apply W_block)
      refine W_loop (ι := Nat) (fun _ => [(28, .pointer (some ⟨kb, 0, none⟩))]) (fun k w' => Ext w w' ∧ Itr w' kb brs k ∧ k ≤ 2) (fun k => 2 - k) 0 ⟨rfl, trivial⟩ ⟨hxi, hii, Nat.zero_le _⟩ ?_
      clear hii hxi hzi
      rintro kk wj ⟨hxj, hij, hkk⟩
      by_cases hlk : kk < 2
      · have hdk := br_dec (k := kk) (by omega)
        have hbk := br_get hlk
        repeat' (first | apply W_seq | apply W_region)
        apply G_on; exact rfl
        apply G1_nextS (s := brs) (m := kk); exact rfl; exact hij; omega; exact hdk; exact rfl; exact rfl; exact rfl
        intro wk hik hgk hzk
        have hxk : Ext w wk := hxj.own hgk (fun k hk => by injection hk with hk; omega)
        repeat' (first | (apply G_on; exact rfl; first | ((first | apply G1_assign | apply G1_move); exact rfl; exact rfl) | (apply G1_eql; exact rfl; exact rfl; exact rfl) | (apply G1_extract; exact rfl; exact rfl; exact rfl)) | apply G_nil | apply Post_next | apply W_seq | apply W_region | (apply W_cond_true; exact rfl) | (apply W_cond_dec; exact rfl; all_goals (intro h; try (exfalso; omega))) | apply W_skip | apply W_block | apply Post_block_normal)
        all_goals exact Post_round (kk + 1) ⟨rfl, trivial⟩ ⟨hxk, hik, by omega⟩ (by omega)
      · repeat' (first | apply W_seq | apply W_region)
        apply G_on; exact rfl
        apply G1_nextE (s := brs) (m := kk); exact rfl; exact hij; omega; exact rfl; exact rfl; exact rfl
        repeat' (first | (apply G_on; exact rfl; first | (apply G1_assign; exact rfl; exact rfl) | (apply G1_extract; exact rfl; exact rfl; exact rfl)) | apply G_nil | apply Post_next | apply W_seq | apply W_region | (apply W_cond_false; exact rfl) | apply W_exit | apply W_ret | apply Post_then_ret | apply Post_then_exit | apply Post_block_exit)
        refine Post_ret Tryd.results59 ⟨_, _, rfl, rfl, rfl⟩ ?_
        exact ⟨by rw [brI_no (by intro b hb; rw [List.mem_singleton.1 hb]; exact hno)]; rfl, (by repeat first | assumption | exact Ext.rfl' | apply Ext.drew | apply Ext.alloc | refine Ext.trans ?_ (by assumption))⟩
  · have hsu : ∀ w, Ctr Tryd.prog 71 [.int .i64 (bs.length : Int)] w (fun v w' => v = .bool false ∧ Ext w w') := fun w => should_spec.mono fun v w' ⟨a1, a2⟩ => ⟨by rw [a1, decide_eq_false (by omega)], a2⟩
    repeat' (first | (apply G_on; exact rfl; first | ((first | apply G1_assign | apply G1_move); exact rfl; exact rfl) | (apply G1_call (f := 71); exact rfl; exact rfl; exact rfl; exact hsu _; rintro _ w1 ⟨rfl, hx1⟩; refine ⟨(by first | exact .inl rfl | exact .inr (by assumption)), ?_⟩) | (apply G1_seql; exact rfl; exact rfl; exact rfl) | (apply G1_len; exact T.s28; exact rfl; exact rfl) | (apply G1_eql; exact rfl; exact rfl; exact rfl) | (apply G1_slen; exact T.str9; exact rfl; exact rfl)) | apply G_nil | apply Post_next | apply W_seq | apply W_region | (apply W_cond_false; exact rfl) | (apply W_cond_dec; exact rfl; all_goals (intro h; try (exfalso; omega))) | apply W_skip | apply W_block)
    refine W_loop (ι := Nat) (fun k => [(0, .slice p bs.length c), (1, .string brs), (12, .int .i64 (k : Int))]) (fun k w' => Ext w w' ∧ k ≤ bs.length ∧ ∀ b ∈ bs.take k, isBr b = false) (fun k => bs.length - k) 0 ⟨rfl, rfl, rfl, trivial⟩ ⟨(by repeat first | assumption | exact Ext.rfl' | apply Ext.drew | apply Ext.alloc | refine Ext.trans ?_ (by assumption)), Nat.zero_le _, by simp⟩ ?_
    clear hx1 w1
    rintro k w1 ⟨hx1, hk, hn⟩
    have hC1 := hC.ext hx1
    have hU1 := hU.ext hx1
    by_cases hlt : k < bs.length
    · obtain ⟨x, hq⟩ := get_some hlt
      have hxl := x.toNat_lt
      have hsg := br_idx x
      by_cases hb : x.toNat < 128
      · repeat' (first | (apply G_on; exact rfl; first | ((first | apply G1_assign | apply G1_move); exact rfl; exact rfl) | (apply G1_convE (j := (x.toNat : Int)); exact rfl; exact T.i5; exact T.i21; exact wrap_i32_u8 x; exact rfl) | (apply G1_indexByte; exact Tryd.func69; exact rfl; exact rfl; exact ib0; exact ib1; exact rfl; exact rfl; exact rfl; exact rfl) | (apply G1_len; exact T.s28; exact rfl; exact rfl) | (apply G1_indexAddrN; exact T.s28; exact rfl; exact rfl; (first | assumption | exact Sl.ok (by assumption) | exact (Own.sl (by assumption)).ok); omega; exact rfl) | (apply G1_loadEl1; exact T.p5; exact rfl; assumption; assumption; exact rfl; exact rfl; exact rfl) | ((first | apply G1_geq | apply G1_lss); exact rfl; exact rfl; exact rfl) | (apply G1_add; exact rfl; exact rfl; omega; omega; exact rfl)) | apply G_nil | apply Post_next | apply W_seq | apply W_region | (apply W_cond_dec; exact rfl; all_goals (intro h; try (exfalso; omega))) | apply W_skip | apply W_exit | apply W_ret | apply W_block | apply Post_then_ret | apply Post_block_ret | apply Post_then_exit | apply Post_block_exit)
        · refine Post_ret Tryd.results59 ⟨_, _, rfl, rfl, rfl⟩ ?_
          rw [toUInt8_nat] at h
          exact ⟨by rw [brI_at hq (by rw [← hsg]; exact decide_eq_true h) hn]; rfl, (by repeat first | assumption | exact Ext.rfl' | apply Ext.drew | apply Ext.alloc | refine Ext.trans ?_ (by assumption))⟩
        · rw [toUInt8_nat] at h
          have hno : isBr x = false := by rw [← hsg]; exact decide_eq_false h
          exact Post_round (k + 1) ⟨rfl, rfl, rfl, trivial⟩ ⟨(by repeat first | assumption | exact Ext.rfl' | apply Ext.drew | apply Ext.alloc | refine Ext.trans ?_ (by assumption)), by omega, no_snoc hq hno hn⟩ (by omega)
      · obtain ⟨s, hs⟩ : ∃ s, mkStr (bs.drop k) = s := ⟨_, rfl⟩
        have hssz : s.size = bs.length - k := by rw [← hs, mkStr_size, List.length_drop]
        have hsl : s.data.toList = bs.drop k := by rw [← hs]; unfold mkStr; simp
        have hsg2 : ∀ j, bget s j = (bs.drop k).getD j 0 := fun j => by rw [bget_list, hsl]
        have hb0 : 128 ≤ (bget s 0).toNat := by
          rw [hsg2, List.getD_eq_getElem?_getD, List.getElem?_drop, Nat.add_zero, hq]
          show 128 ≤ x.toNat
          omega
        obtain ⟨d1, d2, d3, d4, d5⟩ := decode_skip s 0 (by omega) hb0
        have hew := enc_width s 0 (by omega) hb0
        have hd := hC1.drop (l := k) (by have := hok.le; omega)
        have hdr := fun w2 (hx : Ext w1 w2) => decodeRune_spec (hd.ext hx) (by intro e; have := congrArg List.length e; simp at this; omega) (hU1.ext hx)
        rw [hs] at hdr
        simp only [List.length_drop] at hdr
        obtain ⟨v, hv⟩ : ∃ v, Utf8.decode s 0 = v := ⟨_, rfl⟩
        rw [hv] at d1 d2 d3 d4 d5 hew hdr
        obtain ⟨rf1, rf2, rf3⟩ := rune_facts v.1 d1
        have hno2 : ∀ b ∈ bs.take (k + v.2), isBr b = false := by
          intro b hb
          obtain ⟨j, hj⟩ := List.getElem?_of_mem hb
          have hjl := get_lt hj
          rw [List.length_take] at hjl
          rw [List.getElem?_take] at hj
          rw [if_pos (by omega)] at hj
          by_cases hjk : j < k
          · exact hn b (List.mem_of_getElem? (show (bs.take k)[j]? = some b by rw [List.getElem?_take, if_pos hjk]; exact hj))
          · have := d5 (j - k) (by omega) (by omega)
            rw [hsg2, List.getD_eq_getElem?_getD, List.getElem?_drop, show k + (j - k) = j by omega, hj] at this
            exact isBr_hi this
        have hns : ¬ brs = Utf8.encode (v.1 : Int) := fun e => by
          rw [← e] at rf3
          revert rf3
          decide
        obtain ⟨mx, hmx⟩ := hU1.most
        obtain ⟨rI, hrI⟩ : ∃ r : Int, r = (v.1 : Int) := ⟨_, rfl⟩
        obtain ⟨wI, hwI⟩ : ∃ r : Int, r = (v.2 : Int) := ⟨_, rfl⟩
        rw [← hrI] at hns hew rf1 rf2
        simp only [← hrI, ← hwI] at hdr
        have hew2 : ¬ rI = 65533 → (Utf8.encode rI).size = v.2 := fun e => hew (by omega)
        clear hew
        repeat' (first | (apply G_on; exact rfl; first | ((first | apply G1_assign | apply G1_move); exact rfl; exact rfl) | (apply G1_convE (j := (x.toNat : Int)); exact rfl; exact T.i5; exact T.i21; exact wrap_i32_u8 x; exact rfl) | (apply G1_sliceLoJ (q := k); exact T.s28; exact rfl; exact rfl; exact rfl; exact hok; omega; exact rfl) | (apply G1_call (f := 74); exact rfl; exact rfl; exact rfl; exact hdr _ (by repeat first | assumption | exact Ext.rfl' | apply Ext.drew | apply Ext.alloc | refine Ext.trans ?_ (by assumption)); rintro _ w2 ⟨rfl, hx2⟩; refine ⟨(by first | exact .inl rfl | exact .inr (by assumption)), ?_⟩) | (apply G1_runeStr; exact T.i21; exact T.str9; exact rfl; exact rfl) | (apply G1_load (p := some ⟨0, 0, none⟩) (m := 0); exact T.p3; exact rfl; exact Ext.cell (by repeat first | assumption | exact Ext.rfl' | apply Ext.drew | apply Ext.alloc | refine Ext.trans ?_ (by assumption)) hmx; exact rfl) | (apply G1_indexS (a := brs) (b := Utf8.encode rI) (m := mx); exact Tryd.func75; exact rfl; exact rfl; exact is0; exact is1; exact rfl; exact rfl; exact gMax; exact Ext.cell (by repeat first | assumption | exact Ext.rfl' | apply Ext.drew | apply Ext.alloc | refine Ext.trans ?_ (by assumption)) hmx; exact rf1; (have := hew2 (by assumption); omega); (have := hew2 (by assumption); omega); omega; exact rfl; exact rfl) | (apply G1_seql; exact rfl; exact rfl; exact rfl) | (apply G1_len; exact T.s28; exact rfl; exact rfl) | (apply G1_eql; exact rfl; exact rfl; exact rfl) | (apply G1_indexAddrN; exact T.s28; exact rfl; exact rfl; (first | assumption | exact Sl.ok (by assumption) | exact (Own.sl (by assumption)).ok); omega; exact rfl) | (apply G1_loadEl1; exact T.p5; exact rfl; assumption; assumption; exact rfl; exact rfl; exact rfl) | ((first | apply G1_geq | apply G1_extract | apply G1_lss | apply G1_neq); exact rfl; exact rfl; exact rfl) | (apply G1_slen; exact T.str9; exact rfl; exact rfl) | (apply G1_add; exact rfl; exact rfl; omega; omega; exact rfl)) | apply G_nil | apply Post_next | apply W_seq | apply W_region | (apply W_cond_false; exact rfl) | (apply W_cond_dec; exact rfl; all_goals (intro h; try (exfalso; omega))) | apply W_skip | apply W_exit | apply W_ret | apply W_block | apply Post_then_ret | apply Post_block_ret | apply Post_then_exit | apply Post_block_exit)
        · exact absurd (by assumption) hns
        · exact Post_round (k + v.2) ⟨rfl, rfl, by show some (Value.int .i64 _) = some (Value.int .i64 _); congr 2; omega, trivial⟩ ⟨(by repeat first | assumption | exact Ext.rfl' | apply Ext.drew | apply Ext.alloc | refine Ext.trans ?_ (by assumption)), by omega, hno2⟩ (by omega)
        · exact Post_round (k + v.2) ⟨rfl, rfl, by show some (Value.int .i64 _) = some (Value.int .i64 _); congr 2; omega, trivial⟩ ⟨(by repeat first | assumption | exact Ext.rfl' | apply Ext.drew | apply Ext.alloc | refine Ext.trans ?_ (by assumption)), by omega, hno2⟩ (by omega)
        · apply G_on; exact rfl
          apply G1_rangeS; exact T.str9; exact rfl; exact rfl; exact rfl
          intro wi hii hxi hzi
          obtain ⟨kb, hkb⟩ : ∃ k, w2.heap.size = k := ⟨_, rfl⟩
          rw [hkb] at hii ⊢
          have hkw : w.heap.size ≤ kb := by have := (show Ext w w2 from (by repeat first | assumption | exact Ext.rfl' | apply Ext.drew | apply Ext.alloc | refine Ext.trans ?_ (by assumption))).size; omega
          replace hxi : Ext w wi := (show Ext w w2 from (by repeat first | assumption | exact Ext.rfl' | apply Ext.drew | apply Ext.alloc | refine Ext.trans ?_ (by assumption))).trans hxi
          repeat' (first | apply G_nil | apply Post_next | apply W_block)
          refine W_loop (ι := Nat) (fun _ => [(0, .slice p bs.length c), (1, .string brs), (11, .int .i64 wI), (12, .int .i64 (k : Int)), (13, .int .i32 rI), (121, .pointer (some ⟨kb, 0, none⟩))]) (fun k w' => Ext w w' ∧ Itr w' kb brs k ∧ k ≤ 2) (fun k => 2 - k) 0 ⟨rfl, rfl, rfl, rfl, rfl, rfl, trivial⟩ ⟨hxi, hii, Nat.zero_le _⟩ ?_
          clear hii hxi hzi
          rintro kk wj ⟨hxj, hij, hkk⟩
          by_cases hlk : kk < 2
          · have hdk := br_dec (k := kk) (by omega)
            have hbk := br_get hlk
            repeat' (first | apply W_seq | apply W_region)
            apply G_on; exact rfl
            apply G1_nextS (s := brs) (m := kk); exact rfl; exact hij; omega; exact hdk; exact rfl; exact rfl; exact rfl
            intro wk hik hgk hzk
            have hxk : Ext w wk := hxj.own hgk (fun k hk => by injection hk with hk; omega)
            repeat' (first | (apply G_on; exact rfl; first | ((first | apply G1_assign | apply G1_move); exact rfl; exact rfl) | (apply G1_eql; exact rfl; exact rfl; exact rfl) | (apply G1_extract; exact rfl; exact rfl; exact rfl)) | apply G_nil | apply Post_next | apply W_seq | apply W_region | (apply W_cond_true; exact rfl) | (apply W_cond_dec; exact rfl; all_goals (intro h; try (exfalso; omega))) | apply W_skip | apply W_block | apply Post_block_normal)
            all_goals exact Post_round (kk + 1) ⟨rfl, rfl, rfl, rfl, rfl, rfl, trivial⟩ ⟨hxk, hik, by omega⟩ (by omega)
          · repeat' (first | apply W_seq | apply W_region)
            apply G_on; exact rfl
            apply G1_nextE (s := brs) (m := kk); exact rfl; exact hij; omega; exact rfl; exact rfl; exact rfl
            repeat' (first | (apply G_on; exact rfl; first | ((first | apply G1_assign | apply G1_move); exact rfl; exact rfl) | (apply G1_extract; exact rfl; exact rfl; exact rfl) | (apply G1_add; exact rfl; exact rfl; omega; omega; exact rfl)) | apply G_nil | apply Post_next | apply W_seq | apply W_region | (apply W_cond_false; exact rfl) | apply W_exit | apply Post_then_exit | apply Post_block_exit | apply Post_block_normal)
            exact Post_round (k + v.2) ⟨rfl, rfl, by show some (Value.int .i64 _) = some (Value.int .i64 _); congr 2; omega, trivial⟩ ⟨(by repeat first | assumption | exact Ext.rfl' | apply Ext.drew | apply Ext.alloc | refine Ext.trans ?_ (by assumption)), by omega, hno2⟩ (by omega)
        · apply G_on; exact rfl
          apply G1_rangeS; exact T.str9; exact rfl; exact rfl; exact rfl
          intro wi hii hxi hzi
          obtain ⟨kb, hkb⟩ : ∃ k, w2.heap.size = k := ⟨_, rfl⟩
          rw [hkb] at hii ⊢
          have hkw : w.heap.size ≤ kb := by have := (show Ext w w2 from (by repeat first | assumption | exact Ext.rfl' | apply Ext.drew | apply Ext.alloc | refine Ext.trans ?_ (by assumption))).size; omega
          replace hxi : Ext w wi := (show Ext w w2 from (by repeat first | assumption | exact Ext.rfl' | apply Ext.drew | apply Ext.alloc | refine Ext.trans ?_ (by assumption))).trans hxi
          repeat' (first | apply G_nil | apply Post_next | apply W_block)
          refine W_loop (ι := Nat) (fun _ => [(0, .slice p bs.length c), (1, .string brs), (11, .int .i64 wI), (12, .int .i64 (k : Int)), (13, .int .i32 rI), (121, .pointer (some ⟨kb, 0, none⟩))]) (fun k w' => Ext w w' ∧ Itr w' kb brs k ∧ k ≤ 2) (fun k => 2 - k) 0 ⟨rfl, rfl, rfl, rfl, rfl, rfl, trivial⟩ ⟨hxi, hii, Nat.zero_le _⟩ ?_
          clear hii hxi hzi
          rintro kk wj ⟨hxj, hij, hkk⟩
          by_cases hlk : kk < 2
          · have hdk := br_dec (k := kk) (by omega)
            have hbk := br_get hlk
            repeat' (first | apply W_seq | apply W_region)
            apply G_on; exact rfl
            apply G1_nextS (s := brs) (m := kk); exact rfl; exact hij; omega; exact hdk; exact rfl; exact rfl; exact rfl
            intro wk hik hgk hzk
            have hxk : Ext w wk := hxj.own hgk (fun k hk => by injection hk with hk; omega)
            repeat' (first | (apply G_on; exact rfl; first | ((first | apply G1_assign | apply G1_move); exact rfl; exact rfl) | (apply G1_eql; exact rfl; exact rfl; exact rfl) | (apply G1_extract; exact rfl; exact rfl; exact rfl)) | apply G_nil | apply Post_next | apply W_seq | apply W_region | (apply W_cond_true; exact rfl) | (apply W_cond_dec; exact rfl; all_goals (intro h; try (exfalso; omega))) | apply W_skip | apply W_block | apply Post_block_normal)
            all_goals exact Post_round (kk + 1) ⟨rfl, rfl, rfl, rfl, rfl, rfl, trivial⟩ ⟨hxk, hik, by omega⟩ (by omega)
          · repeat' (first | apply W_seq | apply W_region)
            apply G_on; exact rfl
            apply G1_nextE (s := brs) (m := kk); exact rfl; exact hij; omega; exact rfl; exact rfl; exact rfl
            repeat' (first | (apply G_on; exact rfl; first | ((first | apply G1_assign | apply G1_move); exact rfl; exact rfl) | (apply G1_extract; exact rfl; exact rfl; exact rfl) | (apply G1_add; exact rfl; exact rfl; omega; omega; exact rfl)) | apply G_nil | apply Post_next | apply W_seq | apply W_region | (apply W_cond_false; exact rfl) | apply W_exit | apply Post_then_exit | apply Post_block_exit | apply Post_block_normal)
            exact Post_round (k + v.2) ⟨rfl, rfl, by show some (Value.int .i64 _) = some (Value.int .i64 _); congr 2; omega, trivial⟩ ⟨(by repeat first | assumption | exact Ext.rfl' | apply Ext.drew | apply Ext.alloc | refine Ext.trans ?_ (by assumption)), by omega, hno2⟩ (by omega)
    · have hk' : k = bs.length := by omega
      subst hk'
      rw [List.take_of_length_le (Nat.le_refl _)] at hn
      repeat' (first | (apply G_on; exact rfl; first | ((first | apply G1_assign | apply G1_move); exact rfl; exact rfl) | (apply G1_len; exact T.s28; exact rfl; exact rfl) | (apply G1_lss; exact rfl; exact rfl; exact rfl)) | apply G_nil | apply Post_next | apply W_seq | apply W_region | (apply W_cond_dec; exact rfl; all_goals (intro h; try (exfalso; omega))) | apply W_exit | apply W_ret | apply Post_then_exit | apply Post_block_exit)
      refine Post_ret Tryd.results59 ⟨_, _, rfl, rfl, rfl⟩ ?_
      exact ⟨by rw [brI_no hn]; rfl, (by repeat first | assumption | exact Ext.rfl' | apply Ext.drew | apply Ext.alloc | refine Ext.trans ?_ (by assumption))⟩
  · have hsu : ∀ w, Ctr Tryd.prog 71 [.int .i64 (bs.length : Int)] w (fun v w' => v = .bool true ∧ Ext w w') := fun w => should_spec.mono fun v w' ⟨a1, a2⟩ => ⟨by rw [a1, decide_eq_true (by omega)], a2⟩
    repeat' (first | (apply G_on; exact rfl; first | ((first | apply G1_assign | apply G1_move); exact rfl; exact rfl) | (apply G1_call (f := 71); exact rfl; exact rfl; exact rfl; exact hsu _; rintro _ w1 ⟨rfl, hx1⟩; refine ⟨(by first | exact .inl rfl | exact .inr (by assumption)), ?_⟩) | (apply G1_call (f := 72); exact rfl; exact rfl; exact rfl; exact mkset_spec; rintro _ w2 ⟨rfl, hx2⟩; refine ⟨(by first | exact .inl rfl | exact .inr (by assumption)), ?_⟩) | (apply G1_seql; exact rfl; exact rfl; exact rfl) | (apply G1_len; exact T.s28; exact rfl; exact rfl) | (apply G1_eql; exact rfl; exact rfl; exact rfl) | (apply G1_extract; exact rfl; exact rfl; exact rfl) | (apply G1_slen; exact T.str9; exact rfl; exact rfl)) | apply G_nil | apply Post_next | apply W_seq | apply W_region | (apply W_cond_true; exact rfl) | (apply W_cond_false; exact rfl) | (apply W_cond_dec; exact rfl; all_goals (intro h; try (exfalso; omega))) | apply W_skip)
    apply G_on; exact rfl; apply G1_alloc; exact zrSet; exact rfl; exact rfl; intro a3 w3 ha3 hA3 hx3 hs3
    replace hA3 : Blk w3.heap a3 109 (setC 0) := hA3
    skip
    apply G_on; exact rfl
    apply G1_storeB (m := 0) (vs := setC 2); exact T.z109; exact rfl; exact rfl; exact hA3; exact rfl; (simp [setC]); (simp [setC]); (intro v hv; simp only [setC, List.mem_map] at hv; obtain ⟨i, _, rfl⟩ := hv; rfl); exact rfl; exact .inl rfl; exact rfl
    intro w4 hA4 hg4 hs4
    replace hA4 : Blk w4.heap a3 109 (setC 2) := (by kernel_rfl : ((setC 0).take 0 ++ setC 2 ++ (setC 0).drop (0 + (setC 2).length)) = setC 2) ▸ hA4
    have hx4 : Ext w w4 := ((hx1.trans hx2).trans hx3).own hg4 (fun k hk => by injection hk; have := (hx1.trans hx2).size; omega)
    repeat' (first | (apply G_on; exact rfl; first | ((first | apply G1_assign | apply G1_move); exact rfl; exact rfl) | (apply G1_len; exact T.s28; exact rfl; exact rfl)) | apply G_nil | apply Post_next | apply W_seq | apply W_region | (apply W_cond_true; exact rfl) | apply W_block)
    refine W_loop (ι := Nat) (fun k => [(7, .pointer (some (adr (bx a3) 0))), (60, .slice p bs.length c), (61, .int .i64 (bs.length : Int)), (62, .int .i64 (k : Int))]) (fun k w' => Ext w4 w' ∧ k ≤ bs.length ∧ ∀ b ∈ bs.take k, isBr b = false) (fun k => bs.length - k) 0 ⟨rfl, rfl, rfl, rfl, trivial⟩ ⟨(by repeat first | assumption | exact Ext.rfl' | apply Ext.drew | apply Ext.alloc | refine Ext.trans ?_ (by assumption)), Nat.zero_le _, by simp⟩ ?_
    rintro k w5 ⟨hx5, hk, hn⟩
    have hx05 := hx4.trans hx5
    have hC5 := hC.ext hx05
    have hA5 := hA4.ext hx5
    by_cases hlt : k < bs.length
    · obtain ⟨x, hq⟩ := get_some hlt
      have hib := isBr_of x
      repeat' (first | (apply G_on; exact rfl; first | ((first | apply G1_assign | apply G1_move); exact rfl; exact rfl) | (apply G1_call (f := 73); exact rfl; exact rfl; exact rfl; exact contains_spec (k := 2) (c := x) hA5; rintro _ w6 ⟨rfl, hx6⟩; refine ⟨(by first | exact .inl rfl | exact .inr (by assumption)), ?_⟩) | (apply G1_indexAddrN; exact T.s28; exact rfl; exact rfl; (first | assumption | exact Sl.ok (by assumption) | exact (Own.sl (by assumption)).ok); omega; exact rfl) | (apply G1_loadEl1; exact T.p5; exact rfl; assumption; assumption; exact rfl; exact rfl; exact rfl) | (apply G1_lss; exact rfl; exact rfl; exact rfl) | (apply G1_add; exact rfl; exact rfl; omega; omega; exact rfl)) | apply G_nil | apply Post_next | apply W_seq | apply W_region | (apply W_cond_dec; exact rfl; all_goals (intro h; try (exfalso; omega))) | (apply W_cond; exact rfl; all_goals intro h) | apply W_skip | apply W_ret | apply W_block | apply Post_then_ret | apply Post_block_ret | apply Post_block_normal)
      · refine Post_ret Tryd.results59 ⟨_, _, rfl, rfl, rfl⟩ ?_
        exact ⟨by rw [brI_at hq (by rw [hib]; exact h) hn]; rfl, (by repeat first | assumption | exact Ext.rfl' | apply Ext.drew | apply Ext.alloc | refine Ext.trans ?_ (by assumption))⟩
      · exact Post_round (k + 1) ⟨rfl, rfl, rfl, rfl, trivial⟩ ⟨(by repeat first | assumption | exact Ext.rfl' | apply Ext.drew | apply Ext.alloc | refine Ext.trans ?_ (by assumption)), by omega, no_snoc hq (by rw [hib]; exact h) hn⟩ (by omega)
    · have hk' : k = bs.length := by omega
      subst hk'
      rw [List.take_of_length_le (Nat.le_refl _)] at hn
      repeat' (first | (apply G_on; exact rfl; first | (apply G1_assign; exact rfl; exact rfl) | (apply G1_lss; exact rfl; exact rfl; exact rfl)) | apply G_nil | apply Post_next | apply W_seq | apply W_region | (apply W_cond_dec; exact rfl; all_goals (intro h; try (exfalso; omega))) | apply W_exit | apply W_ret | apply Post_then_ret | apply Post_then_exit | apply Post_block_exit)
      refine Post_ret Tryd.results59 ⟨_, _, rfl, rfl, rfl⟩ ?_
      exact ⟨by rw [brI_no hn]; rfl, (by repeat first | assumption | exact Ext.rfl' | apply Ext.drew | apply Ext.alloc | refine Ext.trans ?_ (by assumption))⟩
end Go.Proofs.YtikjnmpijflnaaaDoor
