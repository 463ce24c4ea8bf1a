/- Texts of this proof laid together: Core, Env, Ops, Mem, Plain, Mem2, Mem3, Mem4, Arr, Types. -/
import Derived.Orders
import Derived.Below
import Derived.WalkKit
import Derived.Deep.AppendSrc
import Derived.Laws.MakeOwn
import Derived.Test.YtipbakiecocioaaGreatDoorProg
import Derived.KernelRfl
/- The region and code rules of this prover's own walk: environments of slots, one canonical order for regions that draw their order, rules for each kind of code. -/
namespace Go.V
open Go.RowKit

/-- w' has all blocks of w as they were; there may be more. -/
abbrev Ext (w w' : World) : Prop := Below w.heap.size w w'

theorem Ext.rfl' {w : World} : Ext w w := Below.refl _ _
theorem Ext.trans {a b c : World} (h : Ext a b) (k : Ext b c) : Ext a c := Below.trans h (k.mono h.size)

/-- the blocks that may be turned: those of S; if S is of two, all from the second on, too -/
def exempt (S : List Nat) (k : Nat) : Bool := S.contains k || match S with
  | [_, l] => Nat.ble l k
  | _ => false

/-- the same, but for the blocks of S -/
structure ExtS (S : List Nat) (w w' : World) : Prop where
  os : w'.os = w.os
  tape : w'.tape = w.tape
  output : w'.output = w.output
  size : w.heap.size ≤ w'.heap.size
  block : ∀ k, k < w.heap.size → exempt S k = false → w'.heap[k]? = w.heap[k]?
theorem ExtS.of_grown {S : List Nat} {row : Option Nat} {w w' : World} (hg : w.grownBy w' row) (h : ∀ k, row = some k → exempt S k = true) : ExtS S w w' :=
  ⟨hg.os, hg.tape, hg.output, hg.size, fun k hk hs => hg.block k hk (fun e => by rw [h k e.symm] at hs; cases hs)⟩
theorem ExtS.rfl' {S : List Nat} {w : World} : ExtS S w w := ⟨rfl, rfl, rfl, Nat.le_refl _, fun _ _ _ => rfl⟩
theorem ExtS.trans {S : List Nat} {a b c : World} (h : ExtS S a b) (k : ExtS S b c) : ExtS S a c :=
  ⟨k.os.trans h.os, k.tape.trans h.tape, k.output.trans h.output, Nat.le_trans h.size k.size, fun i hi hs => (k.block i (Nat.lt_of_lt_of_le hi h.size) hs).trans (h.block i hi hs)⟩
theorem Ext.toS {S : List Nat} {w w' : World} (h : Ext w w') : ExtS S w w' := ⟨h.os, h.tape, h.output, h.size, fun k hk _ => h.block k hk⟩
theorem ExtS.toE {w w' : World} (h : ExtS [] w w') : Ext w w' := ⟨h.os, h.tape, h.output, h.size, fun k hk => h.block k hk rfl⟩

def QF : Exit → Act → World → Prop := fun _ _ _ => False

/-- the run of one operation, wanted, with no way out but the next step -/
def stepX (P : Program) (S : List Nat) (wr : Oper → Bool) (o : Oper) (K : Act → World → Prop) (a : Act) (w : World) : Prop :=
  o.wp P a w (fun a' w' => (wr o = true ∨ ExtS S w w') ∧ K a' w') QF

def opX (P : Program) (S : List Nat) (ops : Array Oper) (wr : Oper → Bool) (i : Nat) (K : Act → World → Prop) (a : Act) (w : World) : Prop :=
  match ops[i]? with
  | none => K a w
  | some o => if Region.wanted o (yielded ops a.tmps) then stepX P S wr o K a w else K (a.put o.dst undef) w

def wpX (P : Program) (S : List Nat) (ops : Array Oper) (wr : Oper → Bool) (K : Act → World → Prop) : Nat → Array Bool → Act → World → Prop
  | 0, listed, a, w => Region.ready .any ops listed = [] ∧ K a w
  | fuel + 1, listed, a, w =>
    (Region.ready .any ops listed = [] → K a w) ∧
    ∀ i ∈ Region.ready .any ops listed, opX P S ops wr i (wpX P S ops wr K fuel (listed.setIfInBounds i true)) a w

theorem wp_QF {P : Program} {o : Oper} {a : Act} {w : World} {K : Act → World → Prop} {Q : Exit → Act → World → Prop} (h : o.wp P a w K QF) : o.wp P a w K Q := by
  unfold Oper.wp at *
  generalize (execOp a.eval o).run P w = r at *
  cases r with
  | ok n w' =>
    cases n <;> simp only [Oper.upon] at h ⊢ <;>
      first
        | exact h
        | exact Calls.mono h (fun e w'' he => by cases e with | returned v => exact he | panicked c => exact he.elim | outgrown => obtain ⟨_, _, hh⟩ := he; exact hh.elim)
  | halt x w' => cases x <;> simp only [Oper.upon] at h ⊢ <;> exact h.elim

theorem stepX_mono {P : Program} {S : List Nat} {wr : Oper → Bool} {o : Oper} {K K' : Act → World → Prop} {a : Act} {w : World} (h : ∀ a w, K a w → K' a w) (hh : stepX P S wr o K a w) : stepX P S wr o K' a w :=
  Oper.wp_mono (fun _ _ ⟨h1, h2⟩ => ⟨h1, h _ _ h2⟩) hh

theorem opX_mono {P : Program} {S : List Nat} {ops : Array Oper} {wr : Oper → Bool} {i : Nat} {K K' : Act → World → Prop} {a : Act} {w : World} (h : ∀ a w, K a w → K' a w) (hh : opX P S ops wr i K a w) : opX P S ops wr i K' a w := by
  unfold opX at *
  split
  · exact h _ _ (by simpa [*] using hh)
  · rename_i o ho
    simp only [ho] at hh
    split
    · rename_i hw; simp only [hw, if_true] at hh; exact stepX_mono h hh
    · rename_i hw; simp only [hw] at hh; exact h _ _ hh

theorem wpAny_of_wpX {P : Program} {S : List Nat} {ops : Array Oper} {wr : Oper → Bool} {K : Act → World → Prop} {Q : Exit → Act → World → Prop} (hQ : ∀ a w, K a w → Q .normal a w) :
    ∀ (fuel : Nat) (listed : Array Bool) (a : Act) (w : World), wpX P S ops wr K fuel listed a w → wpAny P .any ops Q fuel listed a w
  | 0, _, _, _, h => ⟨h.1, hQ _ _ h.2⟩
  | fuel + 1, listed, a, w, h => ⟨fun h0 => hQ _ _ (h.1 h0), fun i hi => by
      have h1 := opX_mono (fun a w => wpAny_of_wpX hQ fuel (listed.setIfInBounds i true) a w) (h.2 i hi)
      unfold opX at h1
      unfold wpOp
      split
      · rename_i ho; simp only [ho] at h1; exact h1
      · rename_i o ho
        simp only [ho] at h1
        split
        · rename_i hw; simp only [hw, if_true] at h1; exact .inl (wp_QF (Oper.wp_mono (fun _ _ h => h.2) h1))
        · rename_i hw; simp only [hw] at h1; exact h1⟩

/-- operation o yields v in w and in every extension of w; if it reads no memory: in every world -/
def YX (P : Program) (S : List Nat) (ops : Array Oper) (rd : Oper → Bool) (o : Oper) (v : Value) (a : Act) (w : World) : Prop :=
  (Region.wanted o (yielded ops a.tmps) = true ∧ ∀ w', (rd o = false ∨ ExtS S w w') → (execOp a.eval o).run P w' = .ok (.value v) w') ∨
  (Region.wanted o (yielded ops a.tmps) = false ∧ v = undef)

theorem YX.ext {P : Program} {S : List Nat} {ops : Array Oper} {rd : Oper → Bool} {o : Oper} {v : Value} {a : Act} {w w' : World} (h : YX P S ops rd o v a w) (hx : rd o = false ∨ ExtS S w w') : YX P S ops rd o v a w' := by
  rcases h with ⟨h1, h2⟩ | h
  · refine .inl ⟨h1, fun w'' h'' => h2 w'' ?_⟩
    rcases hx with hx | hx
    · exact .inl hx
    · rcases h'' with h'' | h''
      · exact .inl h''
      · exact .inr (hx.trans h'')
  · exact .inr h

theorem YX.opX {P : Program} {S : List Nat} {ops : Array Oper} {rd wr : Oper → Bool} {i : Nat} {o : Oper} {v : Value} {a : Act} {w : World} (hi : ops[i]? = some o) (hy : YX P S ops rd o v a w)
    {K : Act → World → Prop} (h : K (a.put o.dst v) w) : V.opX P S ops wr i K a w := by
  unfold V.opX
  simp only [hi]
  rcases hy with ⟨hw, hv⟩ | ⟨hw, rfl⟩
  · simp only [hw, if_true, stepX, Oper.wp, hv w (.inr ExtS.rfl'), Oper.upon]; exact ⟨.inr ExtS.rfl', h⟩
  · simp only [hw, Bool.false_eq_true, if_false]; exact h

theorem YX.of_same {P : Program} {S : List Nat} {ops : Array Oper} {rd : Oper → Bool} {o : Oper} {v : Value} {a a' : Act} {w : World} (hy : YX P S ops rd o v a w) (he : execOp a'.eval o = execOp a.eval o)
    (hw : Region.wanted o (yielded ops a'.tmps) = Region.wanted o (yielded ops a.tmps)) : YX P S ops rd o v a' w := by
  unfold YX at *
  rw [he, hw]
  exact hy

theorem opX_put {P : Program} {S : List Nat} {ops : Array Oper} {rd wr : Oper → Bool} {j : Nat} {oi oj : Oper} {v : Value} (hj : ops[j]? = some oj) (hap : oi.apart ops oj = true) (hnw : wr oj = false ∨ rd oi = false)
    (hsi : ∀ cs b, oi.op ≠ .select cs b) (hsj : ∀ cs b, oj.op ≠ .select cs b) {K : Act → World → Prop} {a : Act} {w : World}
    (hy : YX P S ops rd oi v a w) (h : opX P S ops wr j K (a.put oi.dst v) w) :
    opX P S ops wr j (fun a' w' => YX P S ops rd oi v a' w' ∧ K (a'.put oi.dst v) w') a w := by
  obtain ⟨h1, h2, h3⟩ := Oper.apart_spec hap
  have keep : ∀ (a : Act) (w : World), YX P S ops rd oi v a w → ∀ u, YX P S ops rd oi v (a.put oj.dst u) w := fun a w hy u =>
    hy.of_same (execOp_put oi hsi a oj.dst u h3) (wanted_put oi a oj.dst u h3)
  have tr : ∀ w', (wr oj = true ∨ ExtS S w w') → (rd oi = false ∨ ExtS S w w') := fun w' h => by
    rcases hnw with hn | hn
    · rw [hn] at h; exact .inr (by simpa using h)
    · exact .inl hn
  have keepD : ∀ w d, YX P S ops rd oi v a w → YX P S ops rd oi v { a with defers := d :: a.defers } w := fun w d hy => hy.of_same rfl rfl
  unfold opX at *
  simp only [hj] at *
  rw [wanted_put oj a oi.dst v h1] at h
  split
  · rename_i hw
    simp only [hw, if_true] at h
    unfold stepX Oper.wp at *
    rw [execOp_put oj hsj a oi.dst v h1] at h
    generalize (execOp a.eval oj).run P w = r at *
    cases r with
    | ok n w' =>
      cases n <;> simp only [Oper.upon] at h ⊢
      case value u => exact ⟨h.1, keep a _ (hy.ext (tr _ h.1)) u, by rw [← Act.put_comm a v u h2]; exact h.2⟩
      case skip => exact ⟨h.1, keep a _ (hy.ext (tr _ h.1)) _, by rw [← Act.put_comm a v undef h2]; exact h.2⟩
      case defer d =>
        refine ⟨h.1, keep _ _ (keepD _ d (hy.ext (tr _ h.1))) _, ?_⟩
        rw [← Act.put_comm _ v undef h2, ← Act.put_defers]
        exact h.2
      case enter f args =>
        refine Calls.mono h fun e w'' he => ?_
        cases e with
        | returned u => exact ⟨he.1, keep a _ (hy.ext (tr _ he.1)) u, by rw [← Act.put_comm a v u h2]; exact he.2⟩
        | panicked c => exact he
        | outgrown => exact he
      case row row args => exact Rows.mono h fun u w'' he => ⟨he.1, keep a _ (hy.ext (tr _ he.1)) u, by rw [← Act.put_comm a v u h2]; exact he.2⟩
    | halt x w' => cases x <;> simp only [Oper.upon] at h ⊢ <;> exact h
  · rename_i hw
    simp only [hw] at h
    exact ⟨keep a _ hy _, by rw [← Act.put_comm a v undef h2]; exact h⟩

theorem wpX_first {P : Program} {S : List Nat} {ops : Array Oper} {rd wr : Oper → Bool} {K : Act → World → Prop} {i : Nat} {oi : Oper} {v : Value} (hi : ops[i]? = some oi)
    (hsel : ∀ (j : Nat) (o : Oper) cs b, ops[j]? = some o → o.op ≠ .select cs b) :
    ∀ (fuel : Nat) (listed : Array Bool) (a : Act) (w : World),
      (∀ j oj, ops[j]? = some oj → j ≠ i → listed.getD j true = false → (∀ e ∈ oj.after, Region.binds .any e = true → e.on ≠ i) → oi.apart ops oj = true ∧ (wr oj = false ∨ rd oi = false)) →
      i ∈ Region.ready .any ops listed → YX P S ops rd oi v a w →
      wpX P S ops wr K fuel (listed.setIfInBounds i true) (a.put oi.dst v) w → wpX P S ops wr K (fuel + 1) listed a w := by
  intro fuel
  induction fuel with
  | zero =>
    intro listed a w _ hr hy H
    refine ⟨fun h => (by rw [h] at hr; cases hr), fun j hj => ?_⟩
    by_cases hji : j = i
    · subst hji; exact hy.opX hi H
    · have := ready_mono hj hji
      rw [H.1] at this
      cases this
  | succ fuel ih =>
    intro listed a w hfree hr hy H
    refine ⟨fun h => (by rw [h] at hr; cases hr), fun j hj => ?_⟩
    by_cases hji : j = i
    · subst hji; exact hy.opX hi H
    · have h1 := H.2 j (ready_mono hj hji)
      obtain ⟨hjun, oj, hoj, hall⟩ := mem_ready.1 hj
      have hnot : ∀ e ∈ oj.after, Region.binds .any e = true → e.on ≠ i := fun e he hb heq => by
        have h1 := hall e he hb
        have h0 := (mem_ready.1 hr).1
        rw [heq] at h1
        rcases Nat.lt_or_ge i listed.size with h' | h'
        · simp [h'] at h0 h1; rw [h0] at h1; cases h1
        · simp [Array.getElem?_eq_none h'] at h1
      obtain ⟨hap, hnw⟩ := hfree j oj hoj hji hjun hnot
      have h2 := opX_put hoj hap hnw (fun cs b => hsel i oi cs b hi) (fun cs b => hsel j oj cs b hoj) hy h1
      have hfree' : ∀ k ok, ops[k]? = some ok → k ≠ i → (listed.setIfInBounds j true).getD k true = false →
          (∀ e ∈ ok.after, Region.binds .any e = true → e.on ≠ i) → oi.apart ops ok = true ∧ (wr ok = false ∨ rd oi = false) := fun k ok hk hki hun hno => by
        refine hfree k ok hk hki ?_ hno
        by_cases hjk : j = k
        · subst hjk; exact hjun
        · rw [getD_set_ne true hjk] at hun; exact hun
      refine opX_mono (fun a' w' h3 => ih (listed.setIfInBounds j true) a' w' hfree' (ready_mono hr (Ne.symm hji)) h3.1 ?_) h2
      rw [Array.setIfInBounds_comm _ _ hji]
      exact h3.2

/-- every other operation that is still to come waits for i, or is apart from it and no write -/
def freeX (ops : Array Oper) (rd wr : Oper → Bool) (listed : Array Bool) (i : Nat) : Bool :=
  match ops[i]? with
  | none => false
  | some oi => (List.range ops.size).all fun j => j == i || listed.getD j true || match ops[j]? with
      | some oj => oj.after.any (fun e => Region.binds .any e && e.on == i) || (oi.apart ops oj && (!wr oj || !rd oi))
      | none => true

theorem freeX_spec {ops : Array Oper} {rd wr : Oper → Bool} {i : Nat} {oi : Oper} {listed : Array Bool} (hi : ops[i]? = some oi) (h : freeX ops rd wr listed i = true) (j : Nat) (oj : Oper)
    (hj : ops[j]? = some oj) (hne : j ≠ i) (hun : listed.getD j true = false) (hno : ∀ e ∈ oj.after, Region.binds .any e = true → e.on ≠ i) :
    oi.apart ops oj = true ∧ (wr oj = false ∨ rd oi = false) := by
  simp only [freeX, hi, List.all_eq_true, List.mem_range] at h
  have h1 := h j (Array.getElem?_eq_some_iff.1 hj).1
  simp only [hj, Bool.or_eq_true, beq_iff_eq, hne, false_or, hun, Bool.false_eq_true] at h1
  rcases h1 with h1 | h1
  · obtain ⟨e, he, hb⟩ := Array.any_eq_true'.1 h1
    simp only [Bool.and_eq_true, beq_iff_eq] at hb
    exact absurd hb.2 (hno e he hb.1)
  · simpa using h1

/-- the canonical order c serves every order: an operation with an effect comes up alone; every other one may be taken first -/
def okc (ops : Array Oper) (ef rd wr : Oper → Bool) : List Nat → Array Bool → Bool
  | [], listed => (Region.ready .any ops listed).isEmpty
  | i :: c, listed =>
    (if ef (ops.getD i default) then Region.ready .any ops listed == [i] else (Region.ready .any ops listed).contains i && freeX ops rd wr listed i) && okc ops ef rd wr c (listed.setIfInBounds i true)

/-- the walk of a list of operations, over frames -/
def GA (P : Program) (S : List Nat) (ops : Array Oper) (ef rd wr : Oper → Bool) (K : Act → World → Prop) : List Oper → Act → World → Prop
  | [], a, w => K a w
  | o :: l, a, w =>
    (∃ v, YX P S ops rd o v a w ∧ GA P S ops ef rd wr K l (a.put o.dst v) w) ∨
    (ef o = true ∧ Region.wanted o (yielded ops a.tmps) = true ∧ stepX P S wr o (GA P S ops ef rd wr K l) a w)

theorem GA_sound {P : Program} {S : List Nat} {ops : Array Oper} {ef rd wr : Oper → Bool} {K : Act → World → Prop} (hs : Region.noSelect ops = true) :
    ∀ (c : List Nat) (listed : Array Bool) (a : Act) (w : World), okc ops ef rd wr c listed = true →
      GA P S ops ef rd wr K (c.map fun i => ops.getD i default) a w → wpX P S ops wr K c.length listed a w
  | [], listed, a, w, hc, h => ⟨by simpa [okc] using hc, h⟩
  | i :: c, listed, a, w, hc, h => by
    simp only [okc, Bool.and_eq_true] at hc
    obtain ⟨h0, hc⟩ := hc
    have hmem : i ∈ Region.ready .any ops listed := by
      by_cases he : ef (ops.getD i default) = true
      · simp only [he, if_true, beq_iff_eq] at h0; rw [h0]; simp
      · simp only [he] at h0; simp at h0; exact h0.1
    obtain ⟨_, o, ho, _⟩ := mem_ready.1 hmem
    have hget : ops.getD i default = o := by
      have := Array.getElem?_eq_some_iff.1 ho
      simp [Array.getD, this.1, this.2]
    simp only [List.map_cons] at h
    rw [hget] at h h0
    simp only [GA] at h
    have alone : ef o = true → ∀ K', opX P S ops wr i K' a w → (∀ a w, K' a w → wpX P S ops wr K c.length (listed.setIfInBounds i true) a w) → wpX P S ops wr K (i :: c).length listed a w := by
      intro he K' hop hK
      simp only [he, if_true, beq_iff_eq] at h0
      refine ⟨fun h => (by rw [h] at hmem; cases hmem), fun j hj => ?_⟩
      rw [h0] at hj
      obtain rfl : j = i := by simpa using hj
      exact opX_mono hK hop
    rcases h with ⟨v, hy, h⟩ | ⟨he, hw, h⟩
    · by_cases he : ef o = true
      · exact alone he (fun a w => GA P S ops ef rd wr K (c.map fun i => ops.getD i default) a w) (hy.opX ho h) (fun a w h => GA_sound hs c _ a w hc h)
      · simp only [he] at h0
        simp only [Bool.false_eq_true, if_false, Bool.and_eq_true] at h0
        exact wpX_first ho (Region.noSelect_spec hs) c.length listed a w (freeX_spec ho h0.2) hmem hy (GA_sound hs c _ _ w hc h)
    · refine alone he _ ?_ (fun a w h => GA_sound hs c _ a w hc h)
      unfold opX
      simp only [ho, hw, if_true]
      exact h

theorem GA_seq {P : Program} {S : List Nat} {ops : Array Oper} {ef rd wr : Oper → Bool} {K : Act → World → Prop} {Q : Exit → Act → World → Prop} (hQ : ∀ a w, K a w → Q .normal a w) :
    ∀ (m k : Nat) (l : List Oper) (a : Act) (w : World), l.length = m → (∀ j, l[j]? = ops[k + j]?) →
      GA P S ops ef rd wr K l a w → wpOps P ops Q (List.range' k m) a w
  | 0, k, l, a, w, hm, hl, h => by
    obtain rfl : l = [] := List.eq_nil_of_length_eq_zero hm
    simpa [wpOps] using hQ _ _ h
  | m + 1, k, [], a, w, hm, hl, h => by simp at hm
  | m + 1, k, o :: l, a, w, hm, hl, h => by
    have h0 : ops[k]? = some o := by simpa using (hl 0).symm
    have ih := fun a w => GA_seq hQ (P := P) (S := S) (ops := ops) (ef := ef) (rd := rd) (wr := wr) m (k + 1) l a w (by simpa using hm)
      (fun j => by have := hl (j + 1); simpa [Nat.add_assoc, Nat.add_comm 1 j] using this)
    simp only [List.range'_succ, wpOps, h0]
    simp only [GA] at h
    rcases h with ⟨v, hy, h⟩ | ⟨he, hw, h⟩
    · rcases hy with ⟨hw, hv⟩ | ⟨hw, rfl⟩
      · simp only [hw, if_true, Oper.wp, hv w (.inr ExtS.rfl'), Oper.upon]; exact .inl (ih _ _ h)
      · simp only [hw, Bool.false_eq_true, if_false]; exact ih _ _ h
    · simp only [hw, if_true]
      exact .inl (wp_QF (Oper.wp_mono (fun a w h => ih _ _ h.2) h))

end Go.V

/- Environments: what the live slots hold; the rules for code and for operations over them. -/
namespace Go.V
open Go.RowKit

abbrev Env := List (Nat × Value)

def Env.get : Env → Nat → Option Value
  | [], _ => none
  | (s, v) :: E, t => bif Nat.beq s t then some v else Env.get E t

def Env.look (E : Env) : Operand → Option Value
  | .tmp t => E.get t
  | .const v => some v
  | .global g => some (.pointer (some ⟨g, 0, none⟩))
  | .func f => some (.func (.func f) #[] #[])

def Env.looks (E : Env) : List Operand → Option (List Value)
  | [] => some []
  | x :: xs => match E.look x, E.looks xs with
    | some v, some vs => some (v :: vs)
    | _, _ => none

def Env.put (E : Env) (d : Option Nat) (v : Value) : Env := match d with
  | some d => (d, v) :: E
  | none => E

structure Holds (n : Nat) (E : Env) (a : Act) : Prop where
  defers : a.defers = []
  size : a.tmps.size = n
  get : ∀ t v, E.get t = some v → a.tmps[t]? = some v

theorem Holds.eval {n : Nat} {E : Env} {a : Act} (h : Holds n E a) {x : Operand} {v : Value} (hx : E.look x = some v) : a.eval x = v := by
  cases x with
  | tmp t => simp only [Env.look] at hx; simp [Act.eval, h.get t v hx]
  | const u => simpa [Env.look, Act.eval] using hx
  | global g => simpa [Env.look, Act.eval] using hx
  | func f => simpa [Env.look, Act.eval] using hx

theorem Holds.evals {n : Nat} {E : Env} {a : Act} (h : Holds n E a) : ∀ {xs : List Operand} {vs : List Value}, E.looks xs = some vs → xs.map a.eval = vs
  | [], vs, hx => by simpa [Env.looks] using hx
  | x :: xs, vs, hx => by
    simp only [Env.looks] at hx
    split at hx
    · rename_i v us h1 h2
      obtain rfl : v :: us = vs := by simpa using hx
      simp [h.eval h1, h.evals h2]
    · simp at hx

theorem Env.get_cons (s t : Nat) (v : Value) (E : Env) : Env.get ((s, v) :: E) t = if s = t then some v else E.get t := by
  show (bif Nat.beq s t then some v else Env.get E t) = _
  by_cases h : s = t
  · subst h; simp
  · have : Nat.beq s t = false := by
      cases hb : Nat.beq s t with
      | true => exact absurd (Nat.eq_of_beq_eq_true hb) h
      | false => rfl
    simp [this, h]

theorem Holds.put {n : Nat} {E : Env} {a : Act} (h : Holds n E a) (d : Option Nat) (v : Value) (hd : ∀ t, d = some t → t < n) : Holds n (E.put d v) (a.put d v) := by
  cases d with
  | none => exact h
  | some d =>
    refine ⟨h.defers, by simpa [Act.put] using h.size, fun t u ht => ?_⟩
    simp only [Env.put, Env.get_cons] at ht
    simp only [Act.put]
    by_cases e : d = t
    · subst e
      simp only [if_true, Option.some.injEq] at ht
      subst ht
      have := hd d rfl
      simp [h.size, this]
    · simp only [e, if_false] at ht
      rw [Array.getElem?_setIfInBounds_ne e]
      exact h.get t u ht

/-- all entries of E' are found in E -/
def Env.sub : Env → Env → Prop
  | [], _ => True
  | (t, v) :: E', E => E.get t = some v ∧ Env.sub E' E

theorem Holds.sub {n : Nat} {E : Env} {a : Act} (h : Holds n E a) : ∀ {E' : Env}, Env.sub E' E → Holds n E' a
  | [], _ => ⟨h.defers, h.size, fun t v ht => by simp [Env.get] at ht⟩
  | (s, u) :: E', hs => by
    have ih := h.sub hs.2
    refine ⟨h.defers, h.size, fun t v ht => ?_⟩
    rw [Env.get_cons] at ht
    by_cases e : s = t
    · subst e
      simp only [if_true, Option.some.injEq] at ht
      subst ht
      exact h.get _ _ hs.1
    · simp only [e, if_false] at ht
      exact ih.get t v ht

/-- is the guard met (Some b), by what the environment holds? -/
def gval (ops : Array Oper) (E : Env) : Option (Nat × Bool) → Option Bool
  | none => some true
  | some (j, want) => match (ops[j]?).bind (·.dst) with
    | some t => match E.get t with
      | some (.bool b) => some (b == want)
      | some (.tuple _) => some false
      | _ => none
    | none => none

theorem wanted_of {n : Nat} {ops : Array Oper} {E : Env} {o : Oper} {a : Act} {b : Bool} (h : Holds n E a) (hg : gval ops E o.guard = some b) :
    Region.wanted o (yielded ops a.tmps) = b := by
  unfold Region.wanted
  cases hgd : o.guard with
  | none => rw [hgd] at hg; simpa [gval] using hg
  | some jw =>
    obtain ⟨j, want⟩ := jw
    rw [hgd] at hg
    simp only [gval] at hg
    split at hg
    · rename_i t ht
      split at hg
      · rename_i c hc
        obtain rfl : (c == want) = b := by simpa using hg
        have := h.get t _ hc
        simp only [yielded, ht, Option.bind_some, this]
        cases c <;> cases want <;> rfl
      · rename_i c hc
        obtain rfl : false = b := by simpa using hg
        have := h.get t _ hc
        simp only [yielded, ht, Option.bind_some, this]
        cases want <;> rfl
      · simp at hg
    · simp at hg

/-- operations with an effect, in a region that draws its order -/
def effects (P : Program) (dr : Nat) (o : Oper) : Bool :=
  dr == 0 || match o.op with
  | .move _ | .assign _ | .pick .. | .load .. | .nilCheck _ | .binOp .. | .unOp .. | .fieldAddr .. | .field .. | .indexAddr .. | .index .. | .slice ..
  | .extract .. | .makeFunc .. | .makeInterface .. | .build .. | .lookup .. => false
  | .convert _ dst _ => match P.underlying dst with
    | some (.slice _) => true
    | _ => false
  | .call { callee := .builtin .len, .. } | .call { callee := .builtin .cap, .. } | .call { callee := .builtin .min, .. } | .call { callee := .builtin .max, .. } => false
  | _ => true

/-- operations that may turn what was there: dr = 1: calls of functions only add memory; dr = 2: they may turn it -/
def writes (dr : Nat) (o : Oper) : Bool :=
  dr == 0 || match o.op with
  | .store .. => dr != 3
  | .mapUpdate .. | .insert .. | .entryStore .. | .next .. => true
  | .call { callee := .builtin .append, .. } | .call { callee := .builtin .copy, .. } | .call { callee := .builtin .delete, .. } | .call { callee := .builtin .clear, .. } => true
  | .call { callee := .value _, .. } => dr == 2
  | _ => false

/-- operations that read memory -/
def readsM (P : Program) (o : Oper) : Bool :=
  match o.op with
  | .move _ | .assign _ | .pick .. | .nilCheck _ | .unOp .. | .fieldAddr .. | .field .. | .indexAddr .. | .index .. | .slice ..
  | .extract .. | .makeFunc .. | .makeInterface .. | .build .. => false
  | .binOp _ t .. => match P.underlying t with
    | some (.pointer _) => true
    | _ => false
  | .call { callee := .builtin .min, .. } | .call { callee := .builtin .max, .. } => false
  | .call { callee := .builtin .len, argTypes, .. } | .call { callee := .builtin .cap, argTypes, .. } => match P.underlying (argTypes.getD 0 0) with
    | some (.map _ _) => true
    | _ => false
  | _ => true

def dstOk (n : Nat) : Option Nat → Bool
  | none => true
  | some d => Nat.blt d n

theorem dstOk_spec {n : Nat} {d : Option Nat} (h : dstOk n d = true) : ∀ t, d = some t → t < n := by
  rintro t rfl
  simpa [dstOk] using h

section
variable (P : Program) (n : Nat) (ops : Array Oper) (dr : Nat × List Nat)

/-- the walk of a list of operations -/
def G (l : List Oper) (E : Env) (w : World) (K : Env → World → Prop) : Prop :=
  ∀ a, Holds n E a → GA P dr.2 ops (effects P dr.1) (readsM P) (writes dr.1) (fun a' w' => ∃ E', Holds n E' a' ∧ K E' w') l a w

/-- the same, the first operation's guard being met -/
def G1 (o : Oper) (l : List Oper) (E : Env) (w : World) (K : Env → World → Prop) : Prop :=
  ∀ a, Holds n E a → Region.wanted o (yielded ops a.tmps) = true → GA P dr.2 ops (effects P dr.1) (readsM P) (writes dr.1) (fun a' w' => ∃ E', Holds n E' a' ∧ K E' w') (o :: l) a w

/-- the walk of code -/
def W (c : Code) (Q : Exit → Act → World → Prop) (E : Env) (w : World) : Prop := ∀ a, Holds n E a → c.wp P Q a w

end

/-- what is asked at an exit -/
def Post (n : Nat) (Q : Exit → Act → World → Prop) (e : Exit) (E : Env) (w : World) : Prop := ∀ a, Holds n E a → Q e a w

section
variable {P : Program} {n : Nat} {ops : Array Oper} {dr : Nat × List Nat} {l : List Oper} {E : Env} {w : World} {K : Env → World → Prop} {Q : Exit → Act → World → Prop}

theorem G_nil (h : K E w) : G P n ops dr [] E w K := fun _ ha => ⟨E, ha, h⟩

theorem G_on {o : Oper} (hg : gval ops E o.guard = some true) (h : G1 P n ops dr o l E w K) : G P n ops dr (o :: l) E w K :=
  fun a ha => h a ha (wanted_of ha hg)

theorem G_off {o : Oper} (hg : gval ops E o.guard = some false) (hd : dstOk n o.dst = true) (h : G P n ops dr l (E.put o.dst undef) w K) : G P n ops dr (o :: l) E w K :=
  fun _ ha => .inl ⟨undef, .inr ⟨wanted_of ha hg, rfl⟩, h _ (ha.put _ _ (dstOk_spec hd))⟩

/-- the slot on which the guard hangs -/
def gslot (ops : Array Oper) : Option (Nat × Bool) → Option Nat
  | none => none
  | some (j, _) => (ops[j]?).bind (·.dst)

/-- a guard that is not decided yet: both ways, the slot known in each -/
theorem G_split {o : Oper} {t : Nat} {b : Bool} (_ht : gslot ops o.guard = some t) (hb : E.get t = some (.bool b))
    (h1 : b = true → G P n ops dr (o :: l) ((t, .bool true) :: E) w K) (h2 : b = false → G P n ops dr (o :: l) ((t, .bool false) :: E) w K) : G P n ops dr (o :: l) E w K := by
  intro a ha
  have key : ∀ c, b = c → Holds n ((t, .bool c) :: E) a := by
    rintro c rfl
    refine ⟨ha.defers, ha.size, fun s v hs => ?_⟩
    rw [Env.get_cons] at hs
    by_cases e : t = s
    · subst e
      simp only [if_true, Option.some.injEq] at hs
      subst hs
      exact ha.get _ _ hb
    · simp only [e, if_false] at hs
      exact ha.get _ _ hs
  cases b with
  | true => exact h1 rfl a (key _ rfl)
  | false => exact h2 rfl a (key _ rfl)

/-- an operation that only computes or reads -/
theorem G1_quiet {o : Oper} (v : Value) (hd : dstOk n o.dst = true) (hv : ∀ a, Holds n E a → ∀ w', (readsM P o = false ∨ ExtS dr.2 w w') → (execOp a.eval o).run P w' = .ok (.value v) w')
    (h : G P n ops dr l (E.put o.dst v) w K) : G1 P n ops dr o l E w K :=
  fun a ha hw => .inl ⟨v, .inl ⟨hw, hv a ha⟩, h _ (ha.put _ _ (dstOk_spec hd))⟩

/-- an operation that makes or turns memory, and runs in one step -/
theorem G1_eff {o : Oper} (v : Value) (w' : World) (he : effects P dr.1 o = true) (hd : dstOk n o.dst = true) (hv : ∀ a, Holds n E a → (execOp a.eval o).run P w = .ok (.value v) w')
    (hx : writes dr.1 o = true ∨ ExtS dr.2 w w') (h : G P n ops dr l (E.put o.dst v) w' K) : G1 P n ops dr o l E w K :=
  fun a ha hw => .inr ⟨he, hw, by unfold stepX Oper.wp; rw [hv a ha]; exact ⟨hx, h _ (ha.put _ _ (dstOk_spec hd))⟩⟩

/-- the same for an operation without a value -/
theorem G1_skip {o : Oper} (w' : World) (he : effects P dr.1 o = true) (hd : dstOk n o.dst = true) (hv : ∀ a, Holds n E a → (execOp a.eval o).run P w = .ok .skip w')
    (hx : writes dr.1 o = true ∨ ExtS dr.2 w w') (h : G P n ops dr l (E.put o.dst undef) w' K) : G1 P n ops dr o l E w K :=
  fun a ha hw => .inr ⟨he, hw, by unfold stepX Oper.wp; rw [hv a ha]; exact ⟨hx, h _ (ha.put _ _ (dstOk_spec hd))⟩⟩

/-- what a contract says: it returns, and what -/
def Ret (Φ : Value → World → Prop) : Ending → World → Prop := fun e w' => ∃ v, e = .returned v ∧ Φ v w'

/-- function f has a body (its call enters it) -/
def Enters (P : Program) (f : FuncId) : Prop := ∃ fn, P.funcs[f]? = some fn ∧ fn.name ≠ "runtime.NumGoroutine" ∧ fn.body.isNone = false

/-- THE FORM OF A CONTRACT -/
def Ctr (P : Program) (f : FuncId) (args : List Value) (w : World) (Φ : Value → World → Prop) : Prop := Enters P f ∧ Calls P f args.toArray w (Ret Φ)

theorem Ctr.calls {f : FuncId} {args : List Value} {Φ : Value → World → Prop} (h : Ctr P f args w Φ) : Calls P f args.toArray w (Ret Φ) := h.2

theorem Ctr.mono {f : FuncId} {args : List Value} {Φ Φ' : Value → World → Prop} (h : Ctr P f args w Φ) (hh : ∀ v w', Φ v w' → Φ' v w') : Ctr P f args w Φ' :=
  ⟨h.1, h.2.mono fun _ _ ⟨v, he, hv⟩ => ⟨v, he, hh _ _ hv⟩⟩

theorem run_callFunc {f : FuncId} (h : Enters P f) (args : Array Value) (w : World) : (callFunc f args).run P w = .ok (.enter f args) w := by
  obtain ⟨fn, hf, hn, hb⟩ := h
  simp only [callFunc, Sem.run_bind, run_program, Result.andThen_ok, hf]
  have hn' : (fn.name == "runtime.NumGoroutine") = false := by simpa using hn
  simp only [hn', hb, Bool.false_eq_true, if_false, Sem.run_pure]

/-- a call of a function, by its contract -/
theorem G1_call {f : FuncId} {d : Option Nat} {args : Array Operand} {tys : Array TypeId} {ty : TypeId} {pos : String} {af : Array Edge} {g : Option (Nat × Bool)} {vs : List Value} {Φ : Value → World → Prop}
    (hargs : E.looks args.toList = some vs) (he : effects P dr.1 ⟨d, .call ⟨.value (.func f), args, tys⟩, ty, pos, af, g⟩ = true) (hd : dstOk n d = true)
    (hc : Ctr P f vs w Φ) (h : ∀ v w', Φ v w' → (writes dr.1 ⟨d, .call ⟨.value (.func f), args, tys⟩, ty, pos, af, g⟩ = true ∨ Ext w w') ∧ G P n ops dr l (E.put d v) w' K) :
    G1 P n ops dr ⟨d, .call ⟨.value (.func f), args, tys⟩, ty, pos, af, g⟩ l E w K := by
  intro a ha hw
  refine .inr ⟨he, hw, ?_⟩
  have hm : args.map a.eval = vs.toArray := by
    rw [← ha.evals hargs]; apply Array.ext'; simp
  unfold stepX Oper.wp
  have : (execOp a.eval ⟨d, .call ⟨.value (.func f), args, tys⟩, ty, pos, af, g⟩).run P w = .ok (.enter f vs.toArray) w := by
    simp [execOp, resolve, Deferred.ofValue, Act.eval, invoke, hm, run_callFunc hc.1]
  rw [this]
  refine Calls.mono hc.2 ?_
  rintro e w' ⟨v, rfl, hv⟩
  exact ⟨(h v w' hv).1.imp id Ext.toS, (h v w' hv).2 _ (ha.put _ _ (dstOk_spec hd))⟩

/-- the same where it may turn some blocks -/
theorem G1_callS {f : FuncId} {d : Option Nat} {args : Array Operand} {tys : Array TypeId} {ty : TypeId} {pos : String} {af : Array Edge} {g : Option (Nat × Bool)} {vs : List Value} {Φ : Value → World → Prop}
    (hargs : E.looks args.toList = some vs) (he : effects P dr.1 ⟨d, .call ⟨.value (.func f), args, tys⟩, ty, pos, af, g⟩ = true) (hd : dstOk n d = true)
    (hc : Ctr P f vs w Φ) (h : ∀ v w', Φ v w' → (writes dr.1 ⟨d, .call ⟨.value (.func f), args, tys⟩, ty, pos, af, g⟩ = true ∨ ExtS dr.2 w w') ∧ G P n ops dr l (E.put d v) w' K) :
    G1 P n ops dr ⟨d, .call ⟨.value (.func f), args, tys⟩, ty, pos, af, g⟩ l E w K := by
  intro a ha hw
  refine .inr ⟨he, hw, ?_⟩
  have hm : args.map a.eval = vs.toArray := by
    rw [← ha.evals hargs]; apply Array.ext'; simp
  unfold stepX Oper.wp
  have : (execOp a.eval ⟨d, .call ⟨.value (.func f), args, tys⟩, ty, pos, af, g⟩).run P w = .ok (.enter f vs.toArray) w := by
    simp [execOp, resolve, Deferred.ofValue, Act.eval, invoke, hm, run_callFunc hc.1]
  rw [this]
  refine Calls.mono hc.2 ?_
  rintro e w' ⟨v, rfl, hv⟩
  exact ⟨(h v w' hv).1, (h v w' hv).2 _ (ha.put _ _ (dstOk_spec hd))⟩

/-- a call of a function value -/
theorem G1_callv {f : FuncId} {first cap : Array Value} {x : Operand} {d : Option Nat} {args : Array Operand} {tys : Array TypeId} {ty : TypeId} {pos : String} {af : Array Edge} {g : Option (Nat × Bool)} {vs : List Value} {Φ : Value → World → Prop}
    (hf : E.look x = some (.func (.func f) first cap)) (hargs : E.looks args.toList = some vs) (he : effects P dr.1 ⟨d, .call ⟨.value x, args, tys⟩, ty, pos, af, g⟩ = true) (hd : dstOk n d = true)
    (hc : Ctr P f (first.toList ++ vs ++ cap.toList) w Φ) (h : ∀ v w', Φ v w' → (writes dr.1 ⟨d, .call ⟨.value x, args, tys⟩, ty, pos, af, g⟩ = true ∨ Ext w w') ∧ G P n ops dr l (E.put d v) w' K) :
    G1 P n ops dr ⟨d, .call ⟨.value x, args, tys⟩, ty, pos, af, g⟩ l E w K := by
  intro a ha hw
  refine .inr ⟨he, hw, ?_⟩
  have hm : args.map a.eval = vs.toArray := by
    rw [← ha.evals hargs]; apply Array.ext'; simp
  unfold stepX Oper.wp
  have e1 : first ++ vs.toArray ++ cap = (first.toList ++ vs ++ cap.toList).toArray := by
    apply Array.ext'; simp
  have : (execOp a.eval ⟨d, .call ⟨.value x, args, tys⟩, ty, pos, af, g⟩).run P w = .ok (.enter f (first.toList ++ vs ++ cap.toList).toArray) w := by
    rw [← e1]
    simp [execOp, resolve, Deferred.ofValue, ha.eval hf, invoke, hm, run_callFunc hc.1]
  rw [this]
  refine Calls.mono hc.2 ?_
  rintro e w' ⟨v, rfl, hv⟩
  exact ⟨(h v w' hv).1.imp id Ext.toS, (h v w' hv).2 _ (ha.put _ _ (dstOk_spec hd))⟩

/- code -/

theorem W_seq {x y : Code} (h : W P n x (Exit.then (y.wp P Q) Q) E w) : W P n (.seq x y) Q E w := fun a ha => wp_seq (h a ha)
theorem W_skip (h : Post n Q .normal E w) : W P n .skip Q E w := fun a ha => wp_skip (h a ha)
theorem W_exit {id : Nat} (h : Post n Q (.exit id) E w) : W P n (.exit id) Q E w := fun a ha => wp_exit (h a ha)
theorem W_ret (h : Post n Q .ret E w) : W P n .ret Q E w := fun a ha => wp_ret (h a ha)
theorem W_block {id : Nat} {c : Code} (h : W P n c (Exit.inBlock id Q) E w) : W P n (.block id c) Q E w := fun a ha => wp_block (h a ha)
theorem W_cond {c : Operand} {x y : Code} {b : Bool} (hc : E.look c = some (.bool b)) (h1 : b = true → W P n x Q E w) (h2 : b = false → W P n y Q E w) : W P n (.cond c x y) Q E w :=
  fun a ha => wp_cond_split (ha.eval hc) (fun h => h1 h a ha) (fun h => h2 h a ha)
theorem W_cond_true {c : Operand} {x y : Code} (hc : E.look c = some (.bool true)) (h : W P n x Q E w) : W P n (.cond c x y) Q E w :=
  fun a ha => wp_cond_true (ha.eval hc) (h a ha)
theorem W_cond_false {c : Operand} {x y : Code} (hc : E.look c = some (.bool false)) (h : W P n y Q E w) : W P n (.cond c x y) Q E w :=
  fun a ha => wp_cond_false (ha.eval hc) (h a ha)

theorem W_region {id : Nat} {l : List Oper} (h : G P n l.toArray (0, []) l E w (Post n Q .normal)) : W P n (.region id l.toArray false) Q E w := by
  intro a ha
  refine wp_region ?_
  have := GA_seq (P := P) (S := []) (ops := l.toArray) (ef := effects P 0) (rd := readsM P) (wr := writes 0) (Q := Q) (K := fun a' w' => ∃ E', Holds n E' a' ∧ Post n Q .normal E' w')
    (fun a _ ⟨_, hE, hp⟩ => hp a hE) l.length 0 l a w rfl (by simp) (h a ha)
  simpa [List.range_eq_range'] using this

theorem W_drawn {id : Nat} {l : List Oper} (k : Nat) (S : List Nat) (c : List Nat) (hm : P.follows .mixedOrders = true)
    (hc : (Region.noSelect l.toArray && okc l.toArray (effects P k) (readsM P) (writes k) c (Array.replicate l.length false) && Nat.beq c.length l.length) = true)
    (h : G P n l.toArray (k, S) (c.map fun i => l.toArray.getD i default) E w.drew (Post n Q .normal)) : W P n (.region id l.toArray true) Q E w := by
  intro a ha
  simp only [Bool.and_eq_true] at hc
  refine wp_region_any hm (wpAny_of_wpX (S := S) (wr := writes k) (K := fun a' w' => ∃ E', Holds n E' a' ∧ Post n Q .normal E' w') (fun a _ ⟨_, hE, hp⟩ => hp a hE) _ _ _ _ ?_)
  have hl : c.length = l.length := by simpa using hc.2
  have := GA_sound (P := P) hc.1.1 c (Array.replicate l.length false) a { w with drawn := w.drawn + 1 } hc.1.2 (h a ha)
  rw [hl] at this
  simpa using this

/-- what is asked at the end of a round -/
def LoopK {ι : Type} (n : Nat) (I : ι → Env) (J : ι → World → Prop) (μ : ι → Nat) (y : ι) : Act → World → Prop := fun a' w' => ∃ z, Holds n (I z) a' ∧ J z w' ∧ μ z < μ y

/-- a loop: ghost state x; the environment and the fact at each round's head -/
theorem W_loop {ι : Type} {c : Code} (I : ι → Env) (J : ι → World → Prop) (μ : ι → Nat) (x : ι) (hE : Env.sub (I x) E) (hJ : J x w)
    (step : ∀ y v, J y v → W P n c (Exit.then (LoopK n I J μ y) Q) (I y) v) : W P n (.loop c) Q E w := by
  intro a ha b k cs
  have key : ∀ m y a w, μ y = m → Holds n (I y) a → J y w →
      ∃ e a' w', Q e a' w' ∧ Arrives P (lone (b.at a (.code c :: .inLoop c :: k)) cs w) b k cs e a' w' := by
    intro m
    induction m using Nat.strongRecOn with
    | _ m ih =>
      intro y a w hm hI hJ
      obtain ⟨e, a₁, w₁, hq, harr⟩ := step y w hJ a hI b (.inLoop c :: k) cs
      cases e with
      | normal =>
        obtain ⟨z, hz, hjz, hlt⟩ := hq
        obtain ⟨e₂, a₂, w₂, hq₂, harr₂⟩ := ih (μ z) (hm ▸ hlt) z a₁ w₁ rfl hz hjz
        exact ⟨e₂, a₂, w₂, hq₂, .of_steps (Steps.trans harr (.one step_inLoop)) harr₂⟩
      | exit id => exact ⟨_, a₁, w₁, hq, .pass (x := .inLoop c) rfl (fun _ _ => .inl (by simp)) harr⟩
      | goto l => exact ⟨_, a₁, w₁, hq, .pass (x := .inLoop c) rfl (fun _ _ => .inl (by simp)) harr⟩
      | ret => exact ⟨_, a₁, w₁, hq, .pass (x := .inLoop c) rfl (fun _ _ => .inl (by simp)) harr⟩
      | panic ch => exact ⟨_, a₁, w₁, hq, .pass (x := .inLoop c) rfl (fun _ _ => .inl (by simp)) harr⟩
      | outgrown => exact ⟨_, a₁, w₁, hq, .pass (x := .inLoop c) rfl (fun _ _ => .inl (by simp)) harr⟩
  obtain ⟨e, a', w', hq, harr⟩ := key _ x a w rfl (ha.sub hE) hJ
  exact ⟨e, a', w', hq, .of_steps (.one step_loop) harr⟩



theorem Post_round {ι : Type} {I : ι → Env} {J : ι → World → Prop} {μ : ι → Nat} {y : ι} (z : ι) (hE : Env.sub (I z) E) (hJ : J z w) (hμ : μ z < μ y) : Post n (Exit.then (LoopK n I J μ y) Q) .normal E w :=
  fun _ ha => ⟨z, ha.sub hE, hJ, hμ⟩
theorem Post_next {y : Code} (h : W P n y Q E w) : Post n (Exit.then (y.wp P Q) Q) .normal E w := h
theorem Post_then_ret {k : Act → World → Prop} (h : Post n Q .ret E w) : Post n (Exit.then k Q) .ret E w := h
theorem Post_then_exit {k : Act → World → Prop} {id : Nat} (h : Post n Q (.exit id) E w) : Post n (Exit.then k Q) (.exit id) E w := h
theorem Post_block_normal {id : Nat} (h : Post n Q .normal E w) : Post n (Exit.inBlock id Q) .normal E w := h
theorem Post_block_ret {id : Nat} (h : Post n Q .ret E w) : Post n (Exit.inBlock id Q) .ret E w := h
theorem Post_block_exit {id : Nat} (h : Post n Q .normal E w) : Post n (Exit.inBlock id Q) (.exit id) E w := fun a ha => by
  simp only [Exit.inBlock, if_true]; exact h a ha
theorem Post_block_other {id id' : Nat} (hne : Nat.beq id' id = false) (h : Post n Q (.exit id') E w) : Post n (Exit.inBlock id Q) (.exit id') E w := fun a ha => by
  have : id' ≠ id := by rintro rfl; simp at hne
  simp only [Exit.inBlock, this, if_false]; exact h a ha

/- functions -/

def argEnv : Nat → List Value → Env
  | _, [] => []
  | k, v :: vs => (k, v) :: argEnv (k + 1) vs

theorem argEnv_get : ∀ (vs : List Value) (k t : Nat) (v : Value), (argEnv k vs).get t = some v → k ≤ t ∧ vs[t - k]? = some v
  | [], k, t, v, h => by simp [argEnv, Env.get] at h
  | u :: vs, k, t, v, h => by
    rw [argEnv, Env.get_cons] at h
    by_cases e : k = t
    · subst e
      simp only [if_true, Option.some.injEq] at h
      subst h
      simp
    · simp only [e, if_false] at h
      obtain ⟨h1, h2⟩ := argEnv_get vs (k + 1) t v h
      refine ⟨by omega, ?_⟩
      obtain ⟨m, rfl⟩ : ∃ m, t = k + 1 + m := ⟨t - (k + 1), by omega⟩
      have e1 : k + 1 + m - (k + 1) = m := by omega
      have e2 : k + 1 + m - k = m + 1 := by omega
      rw [e1] at h2
      rw [e2]
      simpa using h2

theorem Ctr_of {f : FuncId} {fn : Func} {c : Code} {args : List Value} {Φ : Value → World → Prop} {m : Nat} (hf : P.funcs[f]? = some fn) (hm : fn.ntmps = m) (hb : fn.body = some c)
    (hname : (fn.name == "runtime.NumGoroutine") = false) (hn : Nat.ble args.length m = true) (h : W P m c (bodyPost P fn (Ret Φ)) (argEnv 0 args) w) : Ctr P f args w Φ := by
  refine ⟨⟨fn, hf, by simpa using hname, by simp [hb]⟩, ?_⟩
  refine calls_of_wp hf hb (h _ ⟨rfl, ?_, fun t v ht => ?_⟩)
  · have := Nat.le_of_ble_eq_true hn
    simp [hm]; omega
  · obtain ⟨_, h2⟩ := argEnv_get args 0 t v ht
    simp only [Nat.sub_zero] at h2
    have hlt : t < args.length := by
      rcases Nat.lt_or_ge t args.length with h | h
      · exact h
      · rw [List.getElem?_eq_none h] at h2; cases h2
    rw [Array.getElem?_append_left (by simpa using hlt)]
    simpa using h2

/-- the results as they stand in slots or in memory -/
def ResOk (P : Program) (E : Env) (w : World) : List ResultVar → List Value → Prop
  | [], vs => vs = []
  | .tmp t :: rs, vs => ∃ v us, vs = v :: us ∧ E.get t = some v ∧ ResOk P E w rs us
  | .cell a t :: rs, vs => ∃ v us p, vs = v :: us ∧ E.get a = some (.pointer (some p)) ∧ (loadVar t p).run P w = .ok v w ∧ ResOk P E w rs us

def resVal : List Value → Value
  | [v] => v
  | vs => .tuple vs.toArray

def resOne (tmps : Array Value) : ResultVar → Sem Value
  | .tmp t => pure (tmps.getD t undef)
  | .cell x t => asAddr (tmps.getD x undef) >>= loadVar t

theorem results_eq (fn : Func) (tmps : Array Value) : results fn tmps = (fn.results.mapM (resOne tmps) >>= fun vs => pure (if h : vs.size = 1 then vs[0] else .tuple vs)) := by
  rfl

theorem ResOk.run {a : Act} (ha : Holds n E a) : ∀ {rs : List ResultVar} {vs : List Value}, ResOk P E w rs vs → (rs.mapM (resOne a.tmps) : Sem (List Value)).run P w = .ok vs w
  | [], vs, h => by simp only [ResOk] at h; subst h; rfl
  | .tmp t :: rs, vs, h => by
    obtain ⟨v, us, rfl, h1, h2⟩ := h
    have e : a.tmps.getD t undef = v := by simp [ha.get t v h1]
    simp only [List.mapM_cons, Sem.run_bind, resOne, e, Sem.run_pure, Result.andThen_ok, ResOk.run ha h2]
  | .cell x t :: rs, vs, h => by
    obtain ⟨v, us, p, rfl, h1, h2, h3⟩ := h
    have e : a.tmps.getD x undef = .pointer (some p) := by simp [ha.get x _ h1]
    have e2 : asAddr (.pointer (some p)) = pure p := rfl
    simp only [List.mapM_cons, Sem.run_bind, resOne, e, e2, Sem.run_pure, Result.andThen_ok, h2, ResOk.run ha h3]

theorem Post_ret {fn : Func} {rs : List ResultVar} {vs : List Value} {Φ : Value → World → Prop} (hr : fn.results = rs.toArray) (h : ResOk P E w rs vs) (hΦ : Φ (resVal vs) w) : Post n (bodyPost P fn (Ret Φ)) .ret E w := by
  intro a ha
  refine ⟨ha.defers, resVal vs, ?_, _, rfl, hΦ⟩
  have := ResOk.run (P := P) (w := w) ha h
  simp only [results_eq, hr, List.mapM_toArray, Sem.run_bind, Sem.run_map, this, Result.andThen_ok, Sem.run_pure]
  cases vs with
  | nil => rfl
  | cons v us => cases us with
    | nil => rfl
    | cons u us => simp [resVal]

theorem Post_end {fn : Func} {rs : List ResultVar} {vs : List Value} {Φ : Value → World → Prop} (hr : fn.results = rs.toArray) (h : ResOk P E w rs vs) (hΦ : Φ (resVal vs) w) : Post n (bodyPost P fn (Ret Φ)) .normal E w :=
  Post_ret hr h hΦ

/-- forget slots -/
theorem W_keep {c : Code} (E' : Env) (hs : Env.sub E' E) (h : W P n c Q E' w) : W P n c Q E w := fun a ha => h a (ha.sub hs)

theorem W_cond_dec {c : Operand} {x y : Code} {p : Prop} {inst : Decidable p} (hc : E.look c = some (.bool (@decide p inst))) (h1 : p → W P n x Q E w) (h2 : ¬ p → W P n y Q E w) : W P n (.cond c x y) Q E w :=
  W_cond hc (fun h => h1 (of_decide_eq_true h)) (fun h => h2 (of_decide_eq_false h))
theorem G_split_dec {o : Oper} {t : Nat} {p : Prop} {inst : Decidable p} (ht : gslot ops o.guard = some t) (hb : E.get t = some (.bool (@decide p inst)))
    (h1 : p → G P n ops dr (o :: l) ((t, .bool true) :: E) w K) (h2 : ¬ p → G P n ops dr (o :: l) ((t, .bool false) :: E) w K) : G P n ops dr (o :: l) E w K :=
  G_split ht hb (fun h => h1 (of_decide_eq_true h)) (fun h => h2 (of_decide_eq_false h))

end
attribute [irreducible] G G1 W Post Ctr LoopK
end Go.V

/- Rules for the operations, one each. -/
namespace Go.V
open Go.RowKit

/- types, as the program's tables have them -/
def IntT (P : Program) (t : TypeId) (k : IntKind) : Prop := P.underlying t = some (.int k)
def SliceT (P : Program) (t e sz by_ : Nat) : Prop :=
  P.underlying t = some (.slice e) ∧ ∃ i z, P.info? e = some i ∧ i.size = sz ∧ i.bytes = by_ ∧ i.zero = some z ∧ z.cells.size = sz
def PlainT (P : Program) (t : TypeId) : Prop := ∀ w, (isAgg t).run P w = .ok false w
def AggT (P : Program) (t sz : Nat) : Prop := (∀ w, (isAgg t).run P w = .ok true w) ∧ ∃ i, P.info? t = some i ∧ i.size = sz
def SizeT (P : Program) (t sz : Nat) : Prop := ∃ i, P.info? t = some i ∧ i.size = sz
def StrT (P : Program) (t : TypeId) : Prop := P.underlying t = some .string
/-- field k of struct type t lies at cell off, and is of one cell (no struct, no array) -/
def FieldT (P : Program) (t k off : Nat) : Prop := ∃ fs f, P.underlying t = some (.struct fs) ∧ fs[k]? = some f ∧ f.offset = off ∧ ∃ i, P.info? f.type = some i ∧ i.size ≠ 0

theorem SliceT.of {P : Program} {t e sz by_ : Nat} (h1 : P.underlying t = some (.slice e)) (h2 : (P.info? e).map (fun i => (i.size, i.bytes, i.zero.map (·.cells.size))) = some (sz, by_, some sz)) : SliceT P t e sz by_ := by
  refine ⟨h1, ?_⟩
  cases hi : P.info? e with
  | none => simp [hi] at h2
  | some i =>
    simp only [hi, Option.map_some, Option.some.injEq, Prod.mk.injEq] at h2
    obtain ⟨a, b, c⟩ := h2
    cases hz : i.zero with
    | none => simp [hz] at c
    | some z => simp only [hz, Option.map_some, Option.some.injEq] at c; exact ⟨i, z, rfl, a, b, hz, c⟩

theorem PlainT.of {P : Program} {t : TypeId} {d : TypeDesc} (h : P.underlying t = some d) (hd : (match d with | .struct _ => false | .array _ _ => false | _ => true) = true) : PlainT P t := by
  intro w
  unfold isAgg
  simp only [Sem.run_bind, run_underlying h, Result.andThen_ok]
  cases d <;> simp_all

theorem AggT.of {P : Program} {t sz : Nat} {d : TypeDesc} (h : P.underlying t = some d) (hd : (match d with | .struct _ => true | .array _ _ => true | _ => false) = true) (hs : (P.info? t).map (·.size) = some sz) : AggT P t sz := by
  refine ⟨fun w => ?_, ?_⟩
  · unfold isAgg
    simp only [Sem.run_bind, run_underlying h, Result.andThen_ok]
    cases d <;> simp_all
  · cases hi : P.info? t with
    | none => simp [hi] at hs
    | some i => exact ⟨i, by first | rfl | exact hi, by simpa [hi] using hs⟩

theorem SizeT.of {P : Program} {t sz : Nat} (hs : (P.info? t).map (·.size) = some sz) : SizeT P t sz := by
  cases hi : P.info? t with
  | none => simp [hi] at hs
  | some i => exact ⟨i, by first | rfl | exact hi, by simpa [hi] using hs⟩

def fieldOf (P : Program) (t k : Nat) : Option (Nat × Bool) :=
  match P.underlying t with
  | some (.struct fs) => match fs[k]? with
    | some f => match P.info? f.type with
      | some i => some (f.offset, i.size != 0)
      | none => none
    | none => none
  | _ => none

theorem FieldT.of {P : Program} {t k off : Nat} (h : fieldOf P t k = some (off, true)) : FieldT P t k off := by
  unfold fieldOf at h
  split at h
  · rename_i fs h1
    split at h
    · rename_i f h2
      split at h
      · rename_i i h3
        simp at h
        exact ⟨fs, f, h1, h2, h.1, i, h3, h.2⟩
      · simp at h
    · simp at h
  · simp at h

/- strings -/
def blt (s t : ByteArray) : Bool := Op.bytesLess s.data.toList t.data.toList
def bget (s : ByteArray) (i : Nat) : UInt8 := s.data.getD i 0

theorem toList_data (s : ByteArray) : s.toList = s.data.toList := by simp [ByteArray.toList_eq]

theorem str_eq (s t : ByteArray) : (s.toList == t.toList) = decide (s = t) := by
  rw [Bool.eq_iff_iff]
  simp only [toList_data, beq_iff_eq, decide_eq_true_eq]
  constructor
  · intro h; cases s; cases t; simp_all
  · rintro rfl; rfl

theorem bytesLess_irrefl : ∀ l : List UInt8, Op.bytesLess l l = false
  | [] => rfl
  | a :: l => by simp [Op.bytesLess, bytesLess_irrefl l]

theorem bytesLess_trans : ∀ {a b c : List UInt8}, Op.bytesLess a b = true → Op.bytesLess b c = true → Op.bytesLess a c = true
  | _, [], _, h, _ => by simp [Op.bytesLess] at h
  | _, _ :: _, [], _, h => by simp [Op.bytesLess] at h
  | [], _ :: _, _ :: _, _, _ => by simp [Op.bytesLess]
  | x :: a, y :: b, z :: c, h, k => by
    simp only [Op.bytesLess, Bool.or_eq_true, decide_eq_true_eq, Bool.and_eq_true, beq_iff_eq] at h k ⊢
    rcases h with h | ⟨rfl, h⟩
    · rcases k with k | ⟨rfl, k⟩
      · exact .inl (UInt8.lt_trans h k)
      · exact .inl h
    · rcases k with k | ⟨rfl, k⟩
      · exact .inl k
      · exact .inr ⟨rfl, bytesLess_trans h k⟩

theorem bytesLess_total : ∀ (a b : List UInt8), Op.bytesLess a b = true ∨ a = b ∨ Op.bytesLess b a = true
  | [], [] => .inr (.inl rfl)
  | [], _ :: _ => .inl rfl
  | _ :: _, [] => .inr (.inr rfl)
  | x :: a, y :: b => by
    simp only [Op.bytesLess, Bool.or_eq_true, decide_eq_true_eq, Bool.and_eq_true, beq_iff_eq, List.cons.injEq]
    by_cases h1 : x < y
    · exact .inl (.inl h1)
    · by_cases h2 : y < x
      · exact .inr (.inr (.inl h2))
      · have : x = y := by
          apply UInt8.toNat_inj.1
          have h1' : ¬ x.toNat < y.toNat := h1
          have h2' : ¬ y.toNat < x.toNat := h2
          omega
        subst this
        rcases bytesLess_total a b with h | h | h
        · exact .inl (.inr ⟨rfl, h⟩)
        · exact .inr (.inl ⟨rfl, h⟩)
        · exact .inr (.inr (.inr ⟨rfl, h⟩))

theorem blt_irrefl (s : ByteArray) : blt s s = false := bytesLess_irrefl _
theorem blt_trans {a b c : ByteArray} (h : blt a b = true) (k : blt b c = true) : blt a c = true := bytesLess_trans h k
theorem blt_total (a b : ByteArray) : blt a b = true ∨ a = b ∨ blt b a = true := by
  rcases bytesLess_total a.data.toList b.data.toList with h | h | h
  · exact .inl h
  · refine .inr (.inl ?_); cases a; cases b; simp_all
  · exact .inr (.inr h)
theorem blt_asymm {a b : ByteArray} (h : blt a b = true) : blt b a = false := by
  cases hb : blt b a with
  | false => rfl
  | true => have := blt_trans h hb; rw [blt_irrefl] at this; cases this
theorem blt_ne {a b : ByteArray} (h : blt a b = true) : a ≠ b := by
  rintro rfl; rw [blt_irrefl] at h; cases h
theorem blt_or_eq (a b : ByteArray) : (blt a b || decide (a = b)) = !(blt b a) := by
  rcases blt_total a b with h | h | h
  · simp [h, blt_asymm h]
  · subst h; simp [blt_irrefl]
  · simp [h, blt_asymm h, (blt_ne h).symm]

/- addresses -/
def adr (p : Option Addr) (k : Nat) : Addr := match p with
  | some a => ⟨a.block, a.off + k, none⟩
  | none => ⟨0, k, none⟩

theorem adr_add (p : Option Addr) (k m : Nat) : (adr p k).add m = adr p (k + m) := by
  cases p <;> simp [adr, Addr.add, Nat.add_assoc] <;> (intro h; simp [h])

theorem addr_add (b o k : Nat) : (⟨b, o, none⟩ : Addr).add k = ⟨b, o + k, none⟩ := by
  unfold Addr.add; split <;> simp_all

theorem wrap_i64 {n : Int} (h1 : -9223372036854775808 ≤ n) (h2 : n ≤ 9223372036854775807) : IntKind.i64.wrap n = n := IntWalk.i64_in n ⟨h1, h2⟩
theorem wrap_u8 {n : Int} (h1 : 0 ≤ n) (h2 : n ≤ 255) : IntKind.u8.wrap n = n := IntWalk.u8_in n ⟨h1, h2⟩
theorem wrap_u64 {n : Int} (h1 : 0 ≤ n) (h2 : n ≤ 18446744073709551615) : IntKind.u64.wrap n = n := IntWalk.u64_in n ⟨h1, h2⟩

theorem stringOp_gtr (s u : ByteArray) : Op.stringOp .gtr s u = pure (.bool (blt u s)) := by
  have := blt_or_eq s u
  have e : (Op.bytesLess s.toList u.toList || s.toList == u.toList) = !(blt u s) := by rw [str_eq, ← this]; simp only [toList_data]; rfl
  simp only [Op.stringOp, e, Bool.not_not]
theorem stringOp_leq (s u : ByteArray) : Op.stringOp .leq s u = pure (.bool (!(blt u s))) := by
  have := blt_or_eq s u
  have e : (Op.bytesLess s.toList u.toList || s.toList == u.toList) = !(blt u s) := by rw [str_eq, ← this]; simp only [toList_data]; rfl
  simp only [Op.stringOp, e]
theorem eqIn_bool {P : Program} {t : TypeId} (hu : P.underlying t = some .bool) (b b' : Bool) (w : World) (d : Nat) : (Op.equalIn (d + 1) t (.bool b) (.bool b')).run P w = .ok (b == b') w := by
  simp only [Op.equalIn, Sem.run_bind, run_underlying hu, Result.andThen_ok]; rfl
theorem run_equal_bool {P : Program} {t : TypeId} (hu : P.underlying t = some .bool) (b b' : Bool) (w : World) : (Op.equal t (.bool b) (.bool b')).run P w = .ok (b == b') w := by
  exact eqIn_bool hu b b' w 9999

section
variable {P : Program} {n : Nat} {ops : Array Oper} {dr : Nat × List Nat} {l : List Oper} {E : Env} {w : World} {K : Env → World → Prop}
variable {d : Option Nat} {ty : TypeId} {pos : String} {af : Array Edge} {g : Option (Nat × Bool)} {x y c : Operand} {k k' k2 : IntKind} {i j m : Int} {t t' t2 : TypeId} {v v2 : Value}

theorem G1_move (hx : E.look x = some v) (hd : dstOk n d = true) (h : G P n ops dr l (E.put d v) w K) : G1 P n ops dr ⟨d, .move x, ty, pos, af, g⟩ l E w K :=
  G1_quiet v hd (fun a ha w' _ => by simp [execOp, ha.eval hx]) h
theorem G1_assign (hx : E.look x = some v) (hd : dstOk n d = true) (h : G P n ops dr l (E.put d v) w K) : G1 P n ops dr ⟨d, .assign x, ty, pos, af, g⟩ l E w K :=
  G1_quiet v hd (fun a ha w' _ => by simp [execOp, ha.eval hx]) h
theorem G1_pick_t (hc : E.look c = some (.bool true)) (hx : E.look x = some v) (hd : dstOk n d = true) (h : G P n ops dr l (E.put d v) w K) : G1 P n ops dr ⟨d, .pick c x y, ty, pos, af, g⟩ l E w K :=
  G1_quiet v hd (fun a ha w' _ => by simp [execOp, ha.eval hx, ha.eval hc, asBool]) h
theorem G1_pick_f (hc : E.look c = some (.bool false)) (hx : E.look y = some v) (hd : dstOk n d = true) (h : G P n ops dr l (E.put d v) w K) : G1 P n ops dr ⟨d, .pick c x y, ty, pos, af, g⟩ l E w K :=
  G1_quiet v hd (fun a ha w' _ => by simp [execOp, ha.eval hx, ha.eval hc, asBool]) h

/- integers -/
theorem G1_eql (hx : E.look x = some (.int k i)) (hy : E.look y = some (.int k j)) (hd : dstOk n d = true) (h : G P n ops dr l (E.put d (.bool (decide (i = j)))) w K) : G1 P n ops dr ⟨d, .binOp .eql t x y t', ty, pos, af, g⟩ l E w K :=
  G1_quiet _ hd (fun a ha w' _ => by simp [execOp, ha.eval hx, ha.eval hy, eqGuard, binOp, Op.intCmp]; rfl) h
theorem G1_neq (hx : E.look x = some (.int k i)) (hy : E.look y = some (.int k j)) (hd : dstOk n d = true) (h : G P n ops dr l (E.put d (.bool (decide (¬ i = j)))) w K) : G1 P n ops dr ⟨d, .binOp .neq t x y t', ty, pos, af, g⟩ l E w K :=
  G1_quiet _ hd (fun a ha w' _ => by simp [execOp, ha.eval hx, ha.eval hy, eqGuard, binOp, Op.intCmp]; rfl) h
theorem G1_lss (hx : E.look x = some (.int k i)) (hy : E.look y = some (.int k j)) (hd : dstOk n d = true) (h : G P n ops dr l (E.put d (.bool (decide (i < j)))) w K) : G1 P n ops dr ⟨d, .binOp .lss t x y t', ty, pos, af, g⟩ l E w K :=
  G1_quiet _ hd (fun a ha w' _ => by simp [execOp, ha.eval hx, ha.eval hy, eqGuard, binOp, Op.intCmp]) h
theorem G1_leq (hx : E.look x = some (.int k i)) (hy : E.look y = some (.int k j)) (hd : dstOk n d = true) (h : G P n ops dr l (E.put d (.bool (decide (i ≤ j)))) w K) : G1 P n ops dr ⟨d, .binOp .leq t x y t', ty, pos, af, g⟩ l E w K :=
  G1_quiet _ hd (fun a ha w' _ => by simp [execOp, ha.eval hx, ha.eval hy, eqGuard, binOp, Op.intCmp]) h
theorem G1_gtr (hx : E.look x = some (.int k i)) (hy : E.look y = some (.int k j)) (hd : dstOk n d = true) (h : G P n ops dr l (E.put d (.bool (decide (j < i)))) w K) : G1 P n ops dr ⟨d, .binOp .gtr t x y t', ty, pos, af, g⟩ l E w K :=
  G1_quiet _ hd (fun a ha w' _ => by simp [execOp, ha.eval hx, ha.eval hy, eqGuard, binOp, Op.intCmp]) h
theorem G1_geq (hx : E.look x = some (.int k i)) (hy : E.look y = some (.int k j)) (hd : dstOk n d = true) (h : G P n ops dr l (E.put d (.bool (decide (j ≤ i)))) w K) : G1 P n ops dr ⟨d, .binOp .geq t x y t', ty, pos, af, g⟩ l E w K :=
  G1_quiet _ hd (fun a ha w' _ => by simp [execOp, ha.eval hx, ha.eval hy, eqGuard, binOp, Op.intCmp]) h
theorem G1_add (hx : E.look x = some (.int .i64 i)) (hy : E.look y = some (.int .i64 j)) (h1 : -9223372036854775808 ≤ i + j) (h2 : i + j ≤ 9223372036854775807) (hd : dstOk n d = true)
    (h : G P n ops dr l (E.put d (.int .i64 (i + j))) w K) : G1 P n ops dr ⟨d, .binOp .add t x y t', ty, pos, af, g⟩ l E w K :=
  G1_quiet _ hd (fun a ha w' _ => by simp [execOp, ha.eval hx, ha.eval hy, eqGuard, binOp, Op.intArith, wrap_i64 h1 h2]) h
theorem G1_sub (hx : E.look x = some (.int .i64 i)) (hy : E.look y = some (.int .i64 j)) (h1 : -9223372036854775808 ≤ i - j) (h2 : i - j ≤ 9223372036854775807) (hd : dstOk n d = true)
    (h : G P n ops dr l (E.put d (.int .i64 (i - j))) w K) : G1 P n ops dr ⟨d, .binOp .sub t x y t', ty, pos, af, g⟩ l E w K :=
  G1_quiet _ hd (fun a ha w' _ => by simp [execOp, ha.eval hx, ha.eval hy, eqGuard, binOp, Op.intArith, wrap_i64 h1 h2]) h
theorem G1_mul (hx : E.look x = some (.int .i64 i)) (hy : E.look y = some (.int .i64 j)) (h1 : -9223372036854775808 ≤ i * j) (h2 : i * j ≤ 9223372036854775807) (hd : dstOk n d = true)
    (h : G P n ops dr l (E.put d (.int .i64 (i * j))) w K) : G1 P n ops dr ⟨d, .binOp .mul t x y t', ty, pos, af, g⟩ l E w K :=
  G1_quiet _ hd (fun a ha w' _ => by simp [execOp, ha.eval hx, ha.eval hy, eqGuard, binOp, Op.intArith, wrap_i64 h1 h2]) h
theorem G1_addw (hx : E.look x = some (.int k i)) (hy : E.look y = some (.int k j)) (hd : dstOk n d = true)
    (h : G P n ops dr l (E.put d (.int k (k.wrap (i + j)))) w K) : G1 P n ops dr ⟨d, .binOp .add t x y t', ty, pos, af, g⟩ l E w K :=
  G1_quiet _ hd (fun a ha w' _ => by simp [execOp, ha.eval hx, ha.eval hy, eqGuard, binOp, Op.intArith]) h
theorem G1_subw (hx : E.look x = some (.int k i)) (hy : E.look y = some (.int k j)) (hd : dstOk n d = true)
    (h : G P n ops dr l (E.put d (.int k (k.wrap (i - j)))) w K) : G1 P n ops dr ⟨d, .binOp .sub t x y t', ty, pos, af, g⟩ l E w K :=
  G1_quiet _ hd (fun a ha w' _ => by simp [execOp, ha.eval hx, ha.eval hy, eqGuard, binOp, Op.intArith]) h
theorem G1_mulw (hx : E.look x = some (.int k i)) (hy : E.look y = some (.int k j)) (hd : dstOk n d = true)
    (h : G P n ops dr l (E.put d (.int k (k.wrap (i * j)))) w K) : G1 P n ops dr ⟨d, .binOp .mul t x y t', ty, pos, af, g⟩ l E w K :=
  G1_quiet _ hd (fun a ha w' _ => by simp [execOp, ha.eval hx, ha.eval hy, eqGuard, binOp, Op.intArith]) h
theorem G1_quo (hx : E.look x = some (.int k i)) (hy : E.look y = some (.int k j)) (h0 : j ≠ 0) (hd : dstOk n d = true)
    (h : G P n ops dr l (E.put d (.int k (k.wrap (i.tdiv j)))) w K) : G1 P n ops dr ⟨d, .binOp .quo t x y t', ty, pos, af, g⟩ l E w K :=
  G1_quiet _ hd (fun a ha w' _ => by simp [execOp, ha.eval hx, ha.eval hy, eqGuard, binOp, Op.intDiv, h0]) h
theorem G1_rem (hx : E.look x = some (.int k i)) (hy : E.look y = some (.int k j)) (h0 : j ≠ 0) (hd : dstOk n d = true)
    (h : G P n ops dr l (E.put d (.int k (i.tmod j))) w K) : G1 P n ops dr ⟨d, .binOp .rem t x y t', ty, pos, af, g⟩ l E w K :=
  G1_quiet _ hd (fun a ha w' _ => by simp [execOp, ha.eval hx, ha.eval hy, eqGuard, binOp, Op.intDiv, h0]) h
theorem G1_shr (hx : E.look x = some (.int k i)) (hy : E.look y = some (.int k' j)) (h0 : 0 ≤ j) (hd : dstOk n d = true)
    (h : G P n ops dr l (E.put d (.int k (i.fdiv (2 ^ min j.toNat k.bits)))) w K) : G1 P n ops dr ⟨d, .binOp .shr t x y t', ty, pos, af, g⟩ l E w K :=
  G1_quiet _ hd (fun a ha w' _ => by simp [execOp, ha.eval hx, ha.eval hy, eqGuard, binOp, Op.shift, Int.not_lt.2 h0]) h
theorem G1_shl (hx : E.look x = some (.int k i)) (hy : E.look y = some (.int k' j)) (h0 : 0 ≤ j) (hd : dstOk n d = true)
    (h : G P n ops dr l (E.put d (.int k (k.wrap (i * 2 ^ min j.toNat k.bits)))) w K) : G1 P n ops dr ⟨d, .binOp .shl t x y t', ty, pos, af, g⟩ l E w K :=
  G1_quiet _ hd (fun a ha w' _ => by simp [execOp, ha.eval hx, ha.eval hy, eqGuard, binOp, Op.shift, Int.not_lt.2 h0]) h
theorem G1_neg (hx : E.look x = some (.int k i)) (hd : dstOk n d = true) (h : G P n ops dr l (E.put d (.int k (k.wrap (0 - i)))) w K) : G1 P n ops dr ⟨d, .unOp .neg t x, ty, pos, af, g⟩ l E w K :=
  G1_quiet _ hd (fun a ha w' _ => by simp [execOp, ha.eval hx, Op.unary, Op.intArith]) h
theorem G1_min (hx : E.look x = some (.int k i)) (hy : E.look y = some (.int k j)) (hd : dstOk n d = true) (h : G P n ops dr l (E.put d (.int k (min i j))) w K) : G1 P n ops dr ⟨d, .call ⟨.builtin .min, #[x, y], #[t, t']⟩, ty, pos, af, g⟩ l E w K :=
  G1_quiet _ hd (fun a ha w' _ => by
    have : min i j = if j < i then j else i := by split <;> omega
    simp [execOp, resolve, invoke, builtin, Builtin.min_, ha.eval hx, ha.eval hy, Builtin.min2, this]) h
theorem G1_max (hx : E.look x = some (.int k i)) (hy : E.look y = some (.int k j)) (hd : dstOk n d = true) (h : G P n ops dr l (E.put d (.int k (max i j))) w K) : G1 P n ops dr ⟨d, .call ⟨.builtin .max, #[x, y], #[t, t']⟩, ty, pos, af, g⟩ l E w K :=
  G1_quiet _ hd (fun a ha w' _ => by
    have : max i j = if i < j then j else i := by split <;> omega
    simp [execOp, resolve, invoke, builtin, Builtin.max_, ha.eval hx, ha.eval hy, Builtin.max2, this]) h
theorem G1_conv (hx : E.look x = some (.int k i)) (hs : IntT P t k2) (ht : IntT P t' k') (hd : dstOk n d = true) (h : G P n ops dr l (E.put d (.int k' (k'.wrap i))) w K) : G1 P n ops dr ⟨d, .convert t t' x, ty, pos, af, g⟩ l E w K :=
  G1_quiet _ hd (fun a ha w' _ => by simp [execOp, convert, ha.eval hx, run_underlying (P := P) hs, run_underlying (P := P) ht, Conv.intToInt]) h

/- truth values -/
theorem G1_not_dec {p : Prop} {inst : Decidable p} (hx : E.look x = some (.bool (@decide p inst))) (hd : dstOk n d = true) (h : G P n ops dr l (E.put d (.bool (decide (¬ p)))) w K) : G1 P n ops dr ⟨d, .unOp .not t x, ty, pos, af, g⟩ l E w K :=
  G1_quiet _ hd (fun a ha w' _ => by simp [execOp, ha.eval hx, Op.unary]) h
theorem G1_not_t (hx : E.look x = some (.bool true)) (hd : dstOk n d = true) (h : G P n ops dr l (E.put d (.bool false)) w K) : G1 P n ops dr ⟨d, .unOp .not t x, ty, pos, af, g⟩ l E w K :=
  G1_quiet _ hd (fun a ha w' _ => by simp [execOp, ha.eval hx, Op.unary]) h
theorem G1_not_f (hx : E.look x = some (.bool false)) (hd : dstOk n d = true) (h : G P n ops dr l (E.put d (.bool true)) w K) : G1 P n ops dr ⟨d, .unOp .not t x, ty, pos, af, g⟩ l E w K :=
  G1_quiet _ hd (fun a ha w' _ => by simp [execOp, ha.eval hx, Op.unary]) h
theorem G1_not {b : Bool} (hx : E.look x = some (.bool b)) (hd : dstOk n d = true) (h : G P n ops dr l (E.put d (.bool (!b))) w K) : G1 P n ops dr ⟨d, .unOp .not t x, ty, pos, af, g⟩ l E w K :=
  G1_quiet _ hd (fun a ha w' _ => by simp [execOp, ha.eval hx, Op.unary]) h
theorem G1_beql {b b' : Bool} (hu : P.underlying t = some .bool) (hx : E.look x = some (.bool b)) (hy : E.look y = some (.bool b')) (hd : dstOk n d = true) (h : G P n ops dr l (E.put d (.bool (b == b'))) w K) : G1 P n ops dr ⟨d, .binOp .eql t x y t', ty, pos, af, g⟩ l E w K :=
  G1_quiet _ hd (fun a ha w' _ => by simp [execOp, ha.eval hx, ha.eval hy, eqGuard, binOp, run_equal_bool hu]) h
theorem G1_bneq {b b' : Bool} (hu : P.underlying t = some .bool) (hx : E.look x = some (.bool b)) (hy : E.look y = some (.bool b')) (hd : dstOk n d = true) (h : G P n ops dr l (E.put d (.bool (!(b == b')))) w K) : G1 P n ops dr ⟨d, .binOp .neq t x y t', ty, pos, af, g⟩ l E w K :=
  G1_quiet _ hd (fun a ha w' _ => by simp [execOp, ha.eval hx, ha.eval hy, eqGuard, binOp, run_equal_bool hu]) h

/- strings -/
theorem G1_seql {s u : ByteArray} (hx : E.look x = some (.string s)) (hy : E.look y = some (.string u)) (hd : dstOk n d = true) (h : G P n ops dr l (E.put d (.bool (decide (s = u)))) w K) : G1 P n ops dr ⟨d, .binOp .eql t x y t', ty, pos, af, g⟩ l E w K :=
  G1_quiet _ hd (fun a ha w' _ => by simp only [execOp, ha.eval hx, ha.eval hy, eqGuard, binOp, Op.stringOp, str_eq]; rfl) h
theorem G1_sneq {s u : ByteArray} (hx : E.look x = some (.string s)) (hy : E.look y = some (.string u)) (hd : dstOk n d = true) (h : G P n ops dr l (E.put d (.bool (decide (¬ s = u)))) w K) : G1 P n ops dr ⟨d, .binOp .neq t x y t', ty, pos, af, g⟩ l E w K :=
  G1_quiet _ hd (fun a ha w' _ => by simp only [execOp, ha.eval hx, ha.eval hy, eqGuard, binOp, Op.stringOp, str_eq, decide_not]; rfl) h
theorem G1_slss {s u : ByteArray} (hx : E.look x = some (.string s)) (hy : E.look y = some (.string u)) (hd : dstOk n d = true) (h : G P n ops dr l (E.put d (.bool (blt s u))) w K) : G1 P n ops dr ⟨d, .binOp .lss t x y t', ty, pos, af, g⟩ l E w K :=
  G1_quiet _ hd (fun a ha w' _ => by simp only [execOp, ha.eval hx, ha.eval hy, eqGuard, binOp, Op.stringOp, toList_data]; rfl) h
theorem G1_sgeq {s u : ByteArray} (hx : E.look x = some (.string s)) (hy : E.look y = some (.string u)) (hd : dstOk n d = true) (h : G P n ops dr l (E.put d (.bool (!(blt s u)))) w K) : G1 P n ops dr ⟨d, .binOp .geq t x y t', ty, pos, af, g⟩ l E w K :=
  G1_quiet _ hd (fun a ha w' _ => by simp only [execOp, ha.eval hx, ha.eval hy, eqGuard, binOp, Op.stringOp, toList_data]; rfl) h
theorem G1_sgtr {s u : ByteArray} (hx : E.look x = some (.string s)) (hy : E.look y = some (.string u)) (hd : dstOk n d = true) (h : G P n ops dr l (E.put d (.bool (blt u s))) w K) : G1 P n ops dr ⟨d, .binOp .gtr t x y t', ty, pos, af, g⟩ l E w K :=
  G1_quiet _ hd (fun a ha w' _ => by simp only [execOp, ha.eval hx, ha.eval hy, eqGuard, binOp, stringOp_gtr]; rfl) h
theorem G1_sleq {s u : ByteArray} (hx : E.look x = some (.string s)) (hy : E.look y = some (.string u)) (hd : dstOk n d = true) (h : G P n ops dr l (E.put d (.bool (!(blt u s)))) w K) : G1 P n ops dr ⟨d, .binOp .leq t x y t', ty, pos, af, g⟩ l E w K :=
  G1_quiet _ hd (fun a ha w' _ => by simp only [execOp, ha.eval hx, ha.eval hy, eqGuard, binOp, stringOp_leq]; rfl) h
theorem G1_sadd {s u : ByteArray} (hx : E.look x = some (.string s)) (hy : E.look y = some (.string u)) (hl : s.size + u.size ≤ 9223372036854775807) (hd : dstOk n d = true) (h : G P n ops dr l (E.put d (.string (s ++ u))) w K) : G1 P n ops dr ⟨d, .binOp .add t x y t', ty, pos, af, g⟩ l E w K :=
  G1_quiet _ hd (fun a ha w' _ => by
    have : ¬ ((s.size + u.size : Nat) : Int) > IntKind.i64.max := by have e : IntKind.i64.max = 9223372036854775807 := by decide
                                                                     rw [e]; omega
    simp only [execOp, ha.eval hx, ha.eval hy, eqGuard, binOp, Op.stringOp, this, if_false]; rfl) h
theorem G1_slen {s : ByteArray} (hu : StrT P t) (hx : E.look x = some (.string s)) (hd : dstOk n d = true) (h : G P n ops dr l (E.put d (.int .i64 s.size)) w K) : G1 P n ops dr ⟨d, .call ⟨.builtin .len, #[x], #[t]⟩, ty, pos, af, g⟩ l E w K :=
  G1_quiet _ hd (fun a ha w' _ => by simp [execOp, resolve, invoke, builtin, Builtin.len_, ha.eval hx, run_underlying (P := P) hu, goInt]) h
theorem G1_sindex {s : ByteArray} (hu : StrT P t) (hx : E.look x = some (.string s)) (hy : E.look y = some (.int k i)) (h0 : 0 ≤ i) (h1 : i < s.size) (hd : dstOk n d = true)
    (h : G P n ops dr l (E.put d (.int .u8 (bget s i.toNat).toNat)) w K) : G1 P n ops dr ⟨d, .index t x y, ty, pos, af, g⟩ l E w K :=
  G1_quiet _ hd (fun a ha w' _ => by
    have hlt : i.toNat < s.size := by omega
    have e : s[i.toNat]? = some (bget s i.toNat) := by
      rw [getElem?_pos s i.toNat hlt]
      have hlt' : i.toNat < s.data.size := hlt
      simp only [bget, Array.getD, hlt', dite_true]; rfl
    simp [execOp, Instr.index, ha.eval hx, ha.eval hy, asIntOf, run_underlying (P := P) hu, h0, e]) h

/- functions, tuples -/
theorem G1_extract {vs : Array Value} {q : Nat} (hx : E.look x = some (.tuple vs)) (hv : vs[q]? = some v) (hd : dstOk n d = true) (h : G P n ops dr l (E.put d v) w K) : G1 P n ops dr ⟨d, .extract x q, ty, pos, af, g⟩ l E w K :=
  G1_quiet _ hd (fun a ha w' _ => by simp [execOp, Instr.extract, ha.eval hx, hv]) h
theorem G1_makeFunc {fn : Fn} {cs : Array Operand} {vs : List Value} (hx : E.looks cs.toList = some vs) (hd : dstOk n d = true) (h : G P n ops dr l (E.put d (.func fn #[] vs.toArray)) w K) : G1 P n ops dr ⟨d, .makeFunc fn #[] cs, ty, pos, af, g⟩ l E w K :=
  G1_quiet _ hd (fun a ha w' _ => by
    have hm : cs.map a.eval = vs.toArray := by rw [← ha.evals hx]; apply Array.ext'; simp
    simp [execOp, Instr.makeFunc, hm]) h
theorem G1_nilCheck {a : Addr} (hx : E.look x = some (.pointer (some a))) (hd : dstOk n d = true) (h : G P n ops dr l (E.put d (.pointer (some a))) w K) : G1 P n ops dr ⟨d, .nilCheck x, ty, pos, af, g⟩ l E w K :=
  G1_quiet _ hd (fun a ha w' _ => by simp [execOp, ha.eval hx]) h
theorem G1_nilCheckF {fn : FuncId} {q r : Array Value} (hx : E.look x = some (.func (.func fn) q r)) (hd : dstOk n d = true) (h : G P n ops dr l (E.put d (.func (.func fn) q r)) w K) : G1 P n ops dr ⟨d, .nilCheck x, ty, pos, af, g⟩ l E w K :=
  G1_quiet _ hd (fun a ha w' _ => by simp [execOp, ha.eval hx]) h

end
end Go.V

/- Memory: slices that read as lists, rows of the call's own, boxes; the rules for the operations on them. -/
namespace Go.V
open Go.RowKit

def hcell (H : Array Obj) (a : Addr) : Option Value :=
  match H[a.block]? with
  | some (.cells c _ _) => if a.spot.isSome then none else c[a.off]?
  | _ => none

theorem cell_eq (w : World) (a : Addr) : w.cell? a = hcell w.heap a := rfl

theorem hcell_block {H H' : Array Obj} {a : Addr} (h : H'[a.block]? = H[a.block]?) : hcell H' a = hcell H a := by simp [hcell, h]

theorem hcell_lt {H : Array Obj} {a : Addr} {v : Value} (h : hcell H a = some v) : a.block < H.size := by
  rcases Nat.lt_or_ge a.block H.size with h' | h'
  · exact h'
  · simp [hcell, Array.getElem?_eq_none h'] at h

theorem Ext.cell {w w' : World} (h : Ext w w') {a : Addr} {v : Value} (hc : hcell w.heap a = some v) : hcell w'.heap a = some v := by
  rw [hcell_block (h.block _ (hcell_lt hc))]; exact hc
theorem Ext.blk {w w' : World} (h : Ext w w') {b : Nat} {o : Obj} (hc : w.heap[b]? = some o) : w'.heap[b]? = some o := by
  rw [h.block _ (Array.getElem?_eq_some_iff.1 hc).1]; exact hc
theorem Ext.grown {w w' : World} (h : Ext w w') (row : Option Nat) : w.grownBy w' row := ⟨h.os, h.tape, h.output, h.size, fun k hk _ => h.block k hk⟩
theorem Ext.of_grown {w w' : World} (h : w.grownBy w' none) : Ext w w' := ⟨h.os, h.tape, h.output, h.size, fun k hk => h.block k hk (by simp)⟩
theorem Ext.drew {w w' : World} (h : Ext w w') : Ext w w'.drew := Below.drew h
theorem Ext.alloc {w w' : World} (h : Ext w w') (o : Obj) : Ext w (w'.alloc o) := Below.alloc h h.size o

/-- a kind of element: how it lies in cells -/
structure Enc (α : Type) where
  sz : Nat
  enc : α → List Value
  len : ∀ x, (enc x).length = sz
  one : ∀ x, ∀ v ∈ enc x, v.oneCell' = true
  pos : 0 < sz

/-- a slice value's address, length, capacity are in order -/
structure Okp (p : Option Addr) (n c : Nat) : Prop where
  le : n ≤ c
  cap : c ≤ maxLen
  nul : p = none → c = 0
  spot : ∀ a, p = some a → 0 < c → a.spot = none

/-- the slice at p with capacity c holds the elements xs -/
structure Sl {α : Type} (H : Array Obj) (e : Enc α) (p : Option Addr) (c : Nat) (xs : List α) : Prop where
  ok : Okp p xs.length c
  cell : ∀ i x, xs[i]? = some x → ∀ k v, (e.enc x)[k]? = some v → hcell H (adr p (i * e.sz + k)) = some v

section
variable {α : Type} {e : Enc α} {p : Option Addr} {c : Nat} {xs : List α} {H H' : Array Obj} {w w' : World}

theorem Sl.bound (h : Sl H e p c xs) : xs.length ≤ 9223372036854775807 := by
  have h1 := h.ok.le; have h2 := h.ok.cap; simp only [maxLen] at h2; omega

theorem Sl.ext (h : Sl w.heap e p c xs) (hx : Ext w w') : Sl w'.heap e p c xs := ⟨h.ok, fun i x hi k v hv => hx.cell (h.cell i x hi k v hv)⟩

theorem adr_block (p : Option Addr) (a : Addr) (k : Nat) (h : p = some a) : (adr p k).block = a.block := by subst h; rfl

theorem Sl.grown (h : Sl w.heap e p c xs) {row : Option Nat} (hg : w.grownBy w' row) (hne : ∀ a, p = some a → xs ≠ [] → row ≠ some a.block) : Sl w'.heap e p c xs := by
  refine ⟨h.ok, fun i x hi k v hv => ?_⟩
  have hc := h.cell i x hi k v hv
  have hx : xs ≠ [] := by rintro rfl; simp at hi
  cases p with
  | none =>
    have := h.ok.nul rfl
    have h1 := h.ok.le
    have : xs.length ≠ 0 := by cases xs <;> simp_all
    omega
  | some a =>
    rw [hcell_block (hg.block _ (hcell_lt hc) (fun e => hne a rfl hx e.symm))]
    exact hc

theorem Sl.nil : Sl H e none 0 [] := ⟨⟨Nat.le_refl _, Nat.zero_le _, fun _ => rfl, fun _ h _ => by cases h⟩, fun i x hi => by simp at hi⟩

theorem Sl.empty {p : Option Addr} {c : Nat} (h : Okp p 0 c) : Sl H e p c [] := ⟨h, fun i x hi => by simp at hi⟩

theorem Sl.take (h : Sl H e p c xs) (m : Nat) : Sl H e p c (xs.take m) :=
  ⟨⟨Nat.le_trans (by simp; omega) h.ok.le, h.ok.cap, h.ok.nul, h.ok.spot⟩, fun i x hi => h.cell i x (by
    rw [List.getElem?_take] at hi
    split at hi
    · exact hi
    · cases hi)⟩

/-- where a slice lies that is cut at l -/
def subp (p : Option Addr) (c l sz : Nat) : Option Addr := if c = l then p else p.map (·.add (l * sz))

theorem Sl.drop (h : Sl H e p c xs) {l : Nat} (hl : l ≤ c) : Sl H e (subp p c l e.sz) (c - l) (xs.drop l) := by
  have h1 := h.ok.le
  refine ⟨⟨by simp; omega, Nat.le_trans (Nat.sub_le _ _) h.ok.cap, fun hn => ?_, fun a ha hpos => ?_⟩, fun i x hi k v hv => ?_⟩
  · unfold subp at hn
    split at hn
    · omega
    · cases p with
      | none => have := h.ok.nul rfl; omega
      | some a => simp at hn
  · unfold subp at ha
    split at ha
    · omega
    · cases p with
      | none => simp at ha
      | some q =>
        simp only [Option.map_some, Option.some.injEq] at ha
        subst ha
        have := h.ok.spot q rfl (by omega)
        unfold Addr.add; split
        · exact this
        · rfl
  · rw [List.getElem?_drop] at hi
    have hc := h.cell (l + i) x hi k v hv
    have hlt : l + i < xs.length := (List.getElem?_eq_some_iff.1 hi).1
    unfold subp
    rw [if_neg (by omega)]
    cases p with
    | none => have := h.ok.nul rfl; omega
    | some a =>
      have hs := h.ok.spot a rfl (by omega)
      have e1 : adr (Option.map (fun x => Addr.add x (l * e.sz)) (some a)) (i * e.sz + k) = adr (some a) ((l + i) * e.sz + k) := by
        simp only [Option.map_some, adr, Addr.add]
        split
        · rename_i h0; simp [Nat.add_mul, h0]
        · simp [Nat.add_mul]; omega
      rw [e1]; exact hc

theorem Okp.at {n : Nat} (h : Okp p n c) (hn : 0 < n) : ∃ b o, p = some ⟨b, o, none⟩ := by
  have h1 := h.le
  cases p with
  | none => have := h.nul rfl; omega
  | some a =>
    have := h.spot a rfl (by omega)
    obtain ⟨b, o, s⟩ := a
    simp at this
    exact ⟨b, o, by rw [this]⟩

/-- a row of the call's own, from block B on: the slice at p with capacity c, of element type T, holds xs -/
def Own (w : World) (B T : Nat) (e : Enc α) (p : Option Addr) (c : Nat) (xs : List α) : Prop := w.ownsRow B T e.sz (.slice p xs.length c) xs.length (xs.flatMap e.enc)

theorem flat_get (e : Enc α) : ∀ (xs : List α) (i k : Nat) (x : α) (v : Value), xs[i]? = some x → (e.enc x)[k]? = some v → (xs.flatMap e.enc)[i * e.sz + k]? = some v
  | [], i, k, x, v, h, _ => by simp at h
  | y :: ys, 0, k, x, v, h, hv => by
    simp at h; subst h
    rw [List.flatMap_cons, List.getElem?_append_left (by have := (List.getElem?_eq_some_iff.1 hv).1; simpa using this)]
    simpa using hv
  | y :: ys, i + 1, k, x, v, h, hv => by
    simp at h
    rw [List.flatMap_cons, List.getElem?_append_right (by rw [e.len, Nat.add_mul]; omega), e.len]
    have := flat_get e ys i k x v h hv
    rw [← this]; congr 1; rw [Nat.add_mul]; omega

theorem flat_len (e : Enc α) : ∀ xs : List α, (xs.flatMap e.enc).length = xs.length * e.sz
  | [] => by simp
  | x :: xs => by rw [List.flatMap_cons, List.length_append, e.len, flat_len e xs, List.length_cons, Nat.add_mul]; omega

theorem flat_one (e : Enc α) (xs : List α) : ∀ v ∈ xs.flatMap e.enc, v.oneCell' = true := by
  intro v hv
  obtain ⟨x, _, hx⟩ := List.mem_flatMap.1 hv
  exact e.one x v hx

theorem Own.nil (w : World) (B T : Nat) (e : Enc α) : Own w B T e none 0 [] := World.ownsRow_nil w B T e.sz

theorem Own.sl {B T : Nat} (h : Own w B T e p c xs) : Sl w.heap e p c xs := by
  obtain ⟨hl, h⟩ := h
  rcases h with ⟨hv, hn⟩ | ⟨g, cap, cur, hv, hb, hg, hnc, hcm, hcs, htake⟩
  · injection hv with h1 h2 h3
    subst h1 h3
    obtain rfl : xs = [] := List.eq_nil_of_length_eq_zero hn
    exact Sl.nil
  · injection hv with h1 h2 h3
    subst h1 h3
    refine ⟨⟨hnc, hcm, (fun h => by cases h), (fun a ha _ => by simp at ha; rw [← ha])⟩, fun i x hi k v hv => ?_⟩
    have hf := flat_get e xs i k x v hi hv
    rw [← htake, List.getElem?_take] at hf
    split at hf
    · simp only [hcell, adr, hg, Option.isSome_none, Bool.false_eq_true, if_false, Nat.zero_add]
      simpa using hf
    · cases hf

theorem Own.kept {B T : Nat} {row : Option Nat} (h : Own w B T e p c xs) (hg : w.grownBy w' row) (hne : ∀ a, p = some a → row ≠ some a.block) : Own w' B T e p c xs := by
  refine World.ownsRow.kept h hg ?_
  cases p with
  | none => exact .inl rfl
  | some a => exact .inr (fun h => hne a rfl (by rw [← h]; rfl))

theorem Own.ext {B T : Nat} (h : Own w B T e p c xs) (hx : Ext w w') : Own w' B T e p c xs := h.kept (hx.grown none) (fun _ _ h => by cases h)

/-- the block of a slice's address -/
def blk : Option Addr → Option Nat
  | some a => some a.block
  | none => none

theorem Own.ge {B T : Nat} (h : Own w B T e p c xs) : ∀ k, blk p = some k → B ≤ k ∧ k < w.heap.size := by
  intro k hk
  refine World.ownsRow.lt h k ?_
  cases p with
  | none => cases hk
  | some a => exact hk

end

/-- block b is just the cells cs of element type t, and may be written -/
def Blk (H : Array Obj) (b : Nat) (t : TypeId) (cs : List Value) : Prop := H[b]? = some (.cells cs.toArray t (0, 0))

theorem Blk.lt {H : Array Obj} {b : Nat} {t : TypeId} {cs : List Value} (h : Blk H b t cs) : b < H.size := (Array.getElem?_eq_some_iff.1 h).1
theorem Blk.ext {w w' : World} {b : Nat} {t : TypeId} {cs : List Value} (h : Blk w.heap b t cs) (hx : Ext w w') : Blk w'.heap b t cs := hx.blk h
theorem Blk.grown {w w' : World} {b : Nat} {t : TypeId} {cs : List Value} {row : Option Nat} (h : Blk w.heap b t cs) (hg : w.grownBy w' row) (hne : row ≠ some b) : Blk w'.heap b t cs := by
  have := hg.block b h.lt (fun e => hne e.symm)
  unfold Blk at *
  rw [this]; exact h

/-- the address of a box -/
abbrev bx (b : Nat) : Option Addr := some ⟨b, 0, none⟩

theorem Blk.cell {H : Array Obj} {b : Nat} {t : TypeId} {cs : List Value} (h : Blk H b t cs) {m : Nat} {v : Value} (hv : cs[m]? = some v) : hcell H (adr (bx b) m) = some v := by
  unfold Blk at h
  simp [hcell, adr, h, hv]

section
variable {P : Program} {n : Nat} {ops : Array Oper} {dr : Nat × List Nat} {dq : Nat} {l : List Oper} {E : Env} {w : World} {K : Env → World → Prop}
variable {d : Option Nat} {ty : TypeId} {pos : String} {af : Array Edge} {g : Option (Nat × Bool)} {x y z : Operand} {k : IntKind} {i j : Int} {t t' u sz by_ : Nat} {v : Value} {p : Option Addr} {c len m : Nat}

theorem G1_len (hu : SliceT P t u sz by_) (hx : E.look x = some (.slice p len c)) (hd : dstOk n d = true) (h : G P n ops dr l (E.put d (.int .i64 len)) w K) : G1 P n ops dr ⟨d, .call ⟨.builtin .len, #[x], #[t]⟩, ty, pos, af, g⟩ l E w K :=
  G1_quiet _ hd (fun a ha w' _ => by simp [execOp, resolve, invoke, builtin, Builtin.len_, ha.eval hx, run_underlying (P := P) hu.1, goInt]) h

theorem run_sizeOf_T (hu : SliceT P t u sz by_) (w : World) : (sizeOf u).run P w = .ok sz w := by
  obtain ⟨_, i, z, hi, rfl, _⟩ := hu
  simp [sizeOf, typeInfo, hi]

theorem G1_indexAddr (hu : SliceT P t u sz by_) (hx : E.look x = some (.slice p len c)) (hy : E.look y = some (.int k i)) (ho : Okp p len c) (h0 : 0 ≤ i) (h1 : i < len) (hd : dstOk n d = true)
    (h : G P n ops dr l (E.put d (.pointer (some (adr p (i.toNat * sz))))) w K) : G1 P n ops dr ⟨d, .indexAddr t x y, ty, pos, af, g⟩ l E w K :=
  G1_quiet _ hd (fun a ha w' _ => by
    obtain ⟨b, o, rfl⟩ := ho.at (by omega)
    simp [execOp, Instr.indexAt, ha.eval hx, ha.eval hy, asIntOf, run_underlying (P := P) hu.1, h0, h1, run_sizeOf_T hu, addr_add, adr]) h

theorem G1_indexAddrN {q : Nat} (hu : SliceT P t u sz by_) (hx : E.look x = some (.slice p len c)) (hy : E.look y = some (.int k (q : Int))) (ho : Okp p len c) (h1 : q < len) (hd : dstOk n d = true)
    (h : G P n ops dr l (E.put d (.pointer (some (adr p (q * sz))))) w K) : G1 P n ops dr ⟨d, .indexAddr t x y, ty, pos, af, g⟩ l E w K :=
  G1_indexAddr hu hx hy ho (by omega) (by omega) hd (by simpa using h)

theorem G1_fieldAddr {q off : Nat} (hu : FieldT P t q off) (hx : E.look x = some (.pointer (some (adr p m)))) (hd : dstOk n d = true)
    (h : G P n ops dr l (E.put d (.pointer (some (adr p (m + off))))) w K) : G1 P n ops dr ⟨d, .fieldAddr t x q, ty, pos, af, g⟩ l E w K :=
  G1_quiet _ hd (fun a ha w' _ => by
    obtain ⟨fs, f, h1, h2, h3, i, h4, h5⟩ := hu
    simp [execOp, Instr.fieldAt, ha.eval hx, run_underlying h1, h2, Instr.sureAddr, fieldPlace, sizeOf, typeInfo, h4, h5, adr_add, h3]) h

theorem rd_ext {o : Oper} {w' : World} (h : readsM P o = false ∨ ExtS [] w w') (hr : readsM P o = true) : Ext w w' := by
  rcases h with h | h
  · rw [h] at hr; cases hr
  · exact h.toE

theorem G1_load (hu : PlainT P t) (hx : E.look x = some (.pointer (some (adr p m)))) (hc : hcell w.heap (adr p m) = some v) (hd : dstOk n d = true)
    (h : G P n ops (dq, []) l (E.put d v) w K) : G1 P n ops (dq, []) ⟨d, .load t x, ty, pos, af, g⟩ l E w K :=
  G1_quiet _ hd (fun a ha w' hw => by
    have := (rd_ext hw rfl).cell hc
    simp [execOp, Instr.loadAt, ha.eval hx, Instr.sureAddr, loadVar, hu w', load, Sem.run, cell_eq, this]) h

theorem run_loadCells_adr {vs : List Value} (hc : ∀ k v, vs[k]? = some v → hcell w.heap (adr p (m + k)) = some v) : (loadCells (adr p m) vs.length).run P w = .ok vs.toArray w :=
  run_loadCells_list w (adr p m) vs (fun j v hv => by rw [adr_add]; exact hc j v hv)

theorem run_loadVar_agg {vs : List Value} (hu : AggT P t sz) (hl : vs.length = sz) (hc : ∀ k v, vs[k]? = some v → hcell w.heap (adr p (m + k)) = some v) : (loadVar t (adr p m)).run P w = .ok (.agg vs.toArray) w := by
  obtain ⟨h1, i, h2, rfl⟩ := hu
  have := run_loadCells_adr (P := P) hc
  rw [hl] at this
  simp [loadVar, h1 w, sizeOf, typeInfo, h2, this]

theorem G1_loadAgg {vs : List Value} (hu : AggT P t sz) (hx : E.look x = some (.pointer (some (adr p m)))) (hl : vs.length = sz) (hc : ∀ k v, vs[k]? = some v → hcell w.heap (adr p (m + k)) = some v) (hd : dstOk n d = true)
    (h : G P n ops (dq, []) l (E.put d (.agg vs.toArray)) w K) : G1 P n ops (dq, []) ⟨d, .load t x, ty, pos, af, g⟩ l E w K :=
  G1_quiet _ hd (fun a ha w' hw => by
    have := run_loadVar_agg (P := P) (w := w') (p := p) (m := m) hu hl (fun k v hv => (rd_ext hw rfl).cell (hc k v hv))
    simp [execOp, Instr.loadAt, ha.eval hx, Instr.sureAddr, this]) h

/-- an element of a slice, whole -/
theorem G1_loadEl {α : Type} {e : Enc α} {xs : List α} {q : Nat} {el : α} (hu : AggT P t sz) (hx : E.look x = some (.pointer (some (adr p (q * sz))))) (hs : Sl w.heap e p c xs) (hq : xs[q]? = some el) (he : e.sz = sz) (hd : dstOk n d = true)
    (h : G P n ops (dq, []) l (E.put d (.agg (e.enc el).toArray)) w K) : G1 P n ops (dq, []) ⟨d, .load t x, ty, pos, af, g⟩ l E w K :=
  G1_loadAgg hu hx (by rw [e.len, he]) (fun k v hv => by subst he; exact hs.cell q el hq k v hv) hd h

/-- an element of one cell -/
theorem G1_loadEl1 {α : Type} {e : Enc α} {xs : List α} {q : Nat} {el : α} (hu : PlainT P t) (hx : E.look x = some (.pointer (some (adr p (q * 1))))) (hs : Sl w.heap e p c xs) (hq : xs[q]? = some el) (he : e.sz = 1) (hv : e.enc el = [v]) (hd : dstOk n d = true)
    (h : G P n ops (dq, []) l (E.put d v) w K) : G1 P n ops (dq, []) ⟨d, .load t x, ty, pos, af, g⟩ l E w K :=
  G1_load hu hx (by have := hs.cell q el hq 0 v (by rw [hv]; rfl); rw [he] at this; exact this) hd h

/-- a field of an element -/
theorem G1_loadFld {α : Type} {e : Enc α} {xs : List α} {q off : Nat} {el : α} (hu : PlainT P t) (hx : E.look x = some (.pointer (some (adr p (q * sz + off))))) (hs : Sl w.heap e p c xs) (hq : xs[q]? = some el) (he : e.sz = sz) (hv : (e.enc el)[off]? = some v) (hd : dstOk n d = true)
    (h : G P n ops (dq, []) l (E.put d v) w K) : G1 P n ops (dq, []) ⟨d, .load t x, ty, pos, af, g⟩ l E w K :=
  G1_load hu hx (by have := hs.cell q el hq off v hv; rw [he] at this; exact this) hd h

/-- out of a box -/
theorem G1_loadB {b : Nat} {cs : List Value} (hu : PlainT P t) (hx : E.look x = some (.pointer (some (adr (bx b) m)))) (hb : Blk w.heap b t' cs) (hv : cs[m]? = some v) (hd : dstOk n d = true)
    (h : G P n ops (dq, []) l (E.put d v) w K) : G1 P n ops (dq, []) ⟨d, .load t x, ty, pos, af, g⟩ l E w K :=
  G1_load hu hx (hb.cell hv) hd h

/-- the same where other boxes may be written meanwhile -/
theorem G1_loadBS {b : Nat} {cs : List Value} (hu : PlainT P t) (hx : E.look x = some (.pointer (some (adr (bx b) m)))) (hb : Blk w.heap b t' cs) (hv : cs[m]? = some v) (hS : exempt dr.2 b = false) (hd : dstOk n d = true)
    (h : G P n ops dr l (E.put d v) w K) : G1 P n ops dr ⟨d, .load t x, ty, pos, af, g⟩ l E w K :=
  G1_quiet _ hd (fun a ha w' hw => by
    have hw' : ExtS dr.2 w w' := by
      rcases hw with hw | hw
      · simp [readsM] at hw
      · exact hw
    have hb' : Blk w'.heap b t' cs := by
      have := hw'.block b hb.lt hS
      unfold Blk at *
      rw [this]; exact hb
    have := hb'.cell hv
    simp [execOp, Instr.loadAt, ha.eval hx, Instr.sureAddr, loadVar, hu w', load, Sem.run, cell_eq, this]) h

theorem run_loadVar_box {b : Nat} {cs : List Value} (hu : AggT P t sz) (hb : Blk w.heap b t' cs) (hl : cs.length = sz) : (loadVar t (adr (bx b) 0)).run P w = .ok (.agg cs.toArray) w :=
  run_loadVar_agg hu hl (fun k v hv => by rw [Nat.zero_add]; exact hb.cell hv)

theorem G1_loadBAgg {b : Nat} {cs : List Value} (hu : AggT P t sz) (hx : E.look x = some (.pointer (some (adr (bx b) 0)))) (hb : Blk w.heap b t' cs) (hl : cs.length = sz) (hd : dstOk n d = true)
    (h : G P n ops (dq, []) l (E.put d (.agg cs.toArray)) w K) : G1 P n ops (dq, []) ⟨d, .load t x, ty, pos, af, g⟩ l E w K :=
  G1_loadAgg hu hx hl (fun k v hv => by rw [Nat.zero_add]; exact hb.cell hv) hd h

/-- a new box -/
theorem G1_box (hx : E.look x = some v) (he : effects P dr.1 ⟨d, .box t x, ty, pos, af, g⟩ = true) (hd : dstOk n d = true)
    (h : ∀ b w', b = w.heap.size → Blk w'.heap b t v.cells.toList → Ext w w' → w'.heap.size = w.heap.size + 1 → G P n ops dr l (E.put d (.pointer (some (adr (bx b) 0)))) w' K) : G1 P n ops dr ⟨d, .box t x, ty, pos, af, g⟩ l E w K :=
  G1_eff _ (w.alloc (.cells v.cells t)) he hd (fun a ha => by simp [execOp, Instr.box, ha.eval hx, newVar, newRow, newObj, Sem.run, adr])
    (.inr (Ext.alloc Ext.rfl' _).toS) (h w.heap.size _ rfl (by unfold Blk; rw [Array.toArray_toList]; exact heap_alloc_new w _) (Ext.alloc Ext.rfl' _) (by simp))

/-- the zero value of a type -/
def ZeroT (P : Program) (t : TypeId) (z : Value) : Prop := (P.info? t).bind (·.zero) = some z

theorem ZeroT.of {z : Value} (h : (P.info? t).bind (·.zero) = some z) : ZeroT P t z := h

theorem run_zero {z : Value} (h : ZeroT P t z) (w : World) : (zeroValue t).run P w = .ok z w := by
  unfold ZeroT at h
  cases hi : P.info? t with
  | none => simp [hi] at h
  | some i => simp [hi] at h; simp [zeroValue, typeInfo, hi, h]

theorem G1_alloc {z : Value} (hz : ZeroT P t z) (he : effects P dr.1 ⟨d, .alloc t, ty, pos, af, g⟩ = true) (hd : dstOk n d = true)
    (h : ∀ b w', b = w.heap.size → Blk w'.heap b t z.cells.toList → Ext w w' → w'.heap.size = w.heap.size + 1 → G P n ops dr l (E.put d (.pointer (some (adr (bx b) 0)))) w' K) : G1 P n ops dr ⟨d, .alloc t, ty, pos, af, g⟩ l E w K :=
  G1_eff _ (w.alloc (.cells z.cells t)) he hd (fun a ha => by simp [execOp, Instr.alloc, run_zero hz, newVar, newRow, newObj, Sem.run, adr])
    (.inr (Ext.alloc Ext.rfl' _).toS) (h w.heap.size _ rfl (by unfold Blk; rw [Array.toArray_toList]; exact heap_alloc_new w _) (Ext.alloc Ext.rfl' _) (by simp))

/-- the world with block b's cells turned -/
theorem setRow_grown (w : World) (b : Nat) (cs : Array Value) : w.grownBy (w.setRow b cs) (some b) :=
  ⟨rfl, rfl, rfl, by simp, fun k _ hne => setRow_other w b k cs (fun e => hne (by rw [e]))⟩

theorem run_storeVar_box {b : Nat} {cs vs : List Value} (hsz : SizeT P t sz) (hb : Blk w.heap b t' cs) (hvs : v.cells.toList = vs) (hl : vs.length = sz) (hm : m + sz ≤ cs.length) (h1 : ∀ v ∈ vs, v.oneCell' = true) :
    (storeVar t (adr (bx b) m) v).run P w = .ok () (w.setRow b (cs.take m ++ vs ++ cs.drop (m + sz)).toArray) := by
  obtain ⟨i, hi, rfl⟩ := hsz
  have hs : v.cells.size = i.size := by rw [← hl, ← hvs]; simp
  have := run_storeCells_at P b m t' vs 0 cs.toArray w hb (by simp; omega) h1
  simp only [Nat.add_zero] at this
  simp only [storeVar, sizeOf, typeInfo, Sem.run_bind, run_program, Result.andThen_ok, hi, Sem.run_pure, hs, ne_eq, not_true_eq_false, if_false]
  rw [hvs, ← hl]
  show (storeCells ⟨b, 0 + m, none⟩ vs).run P w = _
  rw [Nat.zero_add]
  exact this

/-- a store into a box -/
theorem G1_storeB {b : Nat} {cs vs : List Value} (hsz : SizeT P t sz) (hx : E.look x = some (.pointer (some (adr (bx b) m)))) (hy : E.look y = some v) (hb : Blk w.heap b t' cs) (hvs : v.cells.toList = vs) (hl : vs.length = sz) (hm : m + sz ≤ cs.length)
    (h1 : ∀ v ∈ vs, v.oneCell' = true) (he : effects P dr.1 ⟨d, .store t x y, ty, pos, af, g⟩ = true) (hw : writes dr.1 ⟨d, .store t x y, ty, pos, af, g⟩ = true ∨ exempt dr.2 b = true) (hd : dstOk n d = true)
    (h : ∀ w', Blk w'.heap b t' (cs.take m ++ vs ++ cs.drop (m + sz)) → w.grownBy w' (some b) → w'.heap.size = w.heap.size → G P n ops dr l (E.put d undef) w' K) : G1 P n ops dr ⟨d, .store t x y, ty, pos, af, g⟩ l E w K :=
  G1_skip (w.setRow b (cs.take m ++ vs ++ cs.drop (m + sz)).toArray) he hd (fun a ha => by
      simp [execOp, Instr.storeAt, ha.eval hx, ha.eval hy, Instr.sureAddr, run_storeVar_box hsz hb hvs hl hm h1]) (hw.imp id (fun hS => ⟨rfl, rfl, rfl, by simp, fun k _ hk => setRow_other w b k _ (fun e => by rw [e, hS] at hk; cases hk)⟩))
    (h _ (by unfold Blk; exact setRow_heap w b _ _ t' (0, 0) hb) (setRow_grown w b _) (by simp))

end
end Go.V

/- Plain facts on byte strings and lists. -/
namespace Go.V

theorem bget_list (s : ByteArray) (k : Nat) : bget s k = s.data.toList.getD k 0 := by
  simp [bget, Array.getD_eq_getD_getElem?]

theorem size_list (s : ByteArray) : s.size = s.data.toList.length := by
  rw [Array.length_toList]; rfl

theorem bl_at : ∀ (a b : List UInt8) (k : Nat), (∀ j, j < k → a.getD j 0 = b.getD j 0) → k < a.length → k < b.length → a.getD k 0 ≠ b.getD k 0 → Op.bytesLess a b = decide ((a.getD k 0).toNat < (b.getD k 0).toNat)
  | [], _, k, _, h, _, _ => by simp at h
  | _ :: _, [], k, _, _, h, _ => by simp at h
  | x :: a, y :: b, 0, _, _, _, hne => by
    have hne' : x ≠ y := by simpa using hne
    have e1 : ∀ z : List UInt8, (x :: z).getD 0 0 = x := fun _ => rfl
    simp only [Op.bytesLess, List.getD_cons_zero]
    have hb : (x == y) = false := by simpa using hne'
    rw [hb, Bool.false_and, Bool.or_false]
    rfl
  | x :: a, y :: b, k + 1, he, h1, h2, hne => by
    have h0 : x = y := by simpa using he 0 (by omega)
    subst h0
    have ih := bl_at a b k (fun j hj => by simpa using he (j + 1) (by omega)) (by simpa using h1) (by simpa using h2) (by simpa using hne)
    simp only [Op.bytesLess, List.getD_cons_succ]
    rw [ih]
    have : decide (x < x) = false := by simp
    rw [this]; simp

theorem bl_end : ∀ (a b : List UInt8) (k : Nat), (∀ j, j < k → a.getD j 0 = b.getD j 0) → k ≤ a.length → k ≤ b.length → (k = a.length ∨ k = b.length) → Op.bytesLess a b = decide (a.length < b.length)
  | [], [], _, _, _, _, _ => by simp [Op.bytesLess]
  | [], _ :: _, _, _, _, _, _ => by simp [Op.bytesLess]
  | _ :: _, [], _, _, _, _, _ => by simp [Op.bytesLess]
  | x :: a, y :: b, 0, _, _, _, h => by simp at h
  | x :: a, y :: b, k + 1, he, h1, h2, h => by
    have h0 : x = y := by simpa using he 0 (by omega)
    subst h0
    have ih := bl_end a b k (fun j hj => by simpa using he (j + 1) (by omega)) (by simpa using h1) (by simpa using h2) (by simpa using h)
    simp only [Op.bytesLess]
    rw [ih]
    have : decide (x < x) = false := by simp
    rw [this]; simp

theorem blt_at {s t : ByteArray} {k : Nat} (he : ∀ j, j < k → bget s j = bget t j) (h1 : k < s.size) (h2 : k < t.size) (hne : ¬ ((bget s k).toNat : Int) = (bget t k).toNat) :
    blt s t = decide (((bget s k).toNat : Int) < (bget t k).toNat) := by
  simp only [bget_list] at *
  rw [size_list] at h1 h2
  unfold blt
  rw [bl_at _ _ k he h1 h2 (fun e => hne (by rw [e]))]
  simp

theorem blt_end {s t : ByteArray} {k : Nat} (he : ∀ j, j < k → bget s j = bget t j) (h1 : k ≤ s.size) (h2 : k ≤ t.size) (h : k = s.size ∨ k = t.size) : blt s t = decide ((s.size : Int) < t.size) := by
  simp only [bget_list] at *
  rw [size_list] at *
  rw [size_list t] at *
  unfold blt
  rw [bl_end _ _ k he h1 h2 h]
  simp

theorem get_some {α : Type} {xs : List α} {k : Nat} (h : k < xs.length) : ∃ x, xs[k]? = some x := ⟨xs[k], List.getElem?_eq_getElem h⟩
theorem get_lt {α : Type} {xs : List α} {k : Nat} {x : α} (h : xs[k]? = some x) : k < xs.length := (List.getElem?_eq_some_iff.1 h).1
theorem take_snoc {α : Type} {xs : List α} {k : Nat} {x : α} (h : xs[k]? = some x) : xs.take (k + 1) = xs.take k ++ [x] := by
  rw [List.take_add_one, h]; rfl

theorem ne_of_get {α : Type} {xs ys : List α} {k : Nat} {a b : α} (ha : xs[k]? = some a) (hb : ys[k]? = some b) (h : ¬ a = b) : ¬ xs = ys := by
  rintro rfl; rw [ha] at hb; exact h (by simpa using hb)
theorem eq_of_take {α : Type} {xs ys : List α} {k : Nat} (_ : k ≤ xs.length) (h : xs.take k = ys.take k) (h1 : xs.length ≤ k) (h2 : ys.length ≤ k) : xs = ys := by
  rw [List.take_of_length_le h1, List.take_of_length_le h2] at h; exact h
end Go.V

/- More rules: structs compared, slices cut, made, appended to, written. -/
namespace Go.V
open Go.RowKit

theorem bytes_beq (a b : ByteArray) : (a == b) = decide (a = b) := by
  rw [Bool.eq_iff_iff]
  simp only [decide_eq_true_eq]
  constructor
  · intro h
    have : (a.data == b.data) = true := h
    cases a; cases b; simp_all
  · rintro rfl
    show (a.data == a.data) = true
    simp

theorem eqIn_str {P : Program} {t : TypeId} (hu : StrT P t) (a b : ByteArray) (w : World) (d : Nat) : (Op.equalIn (d + 1) t (.string a) (.string b)).run P w = .ok (decide (a = b)) w := by
  simp only [Op.equalIn, Sem.run_bind, run_underlying (P := P) hu, Result.andThen_ok, bytes_beq]
  rfl
theorem eqIn_int {P : Program} {t : TypeId} {k : IntKind} (hu : IntT P t k) (a b : Int) (w : World) (d : Nat) : (Op.equalIn (d + 1) t (.int k a) (.int k b)).run P w = .ok (decide (a = b)) w := by
  simp only [Op.equalIn, Sem.run_bind, run_underlying (P := P) hu, Result.andThen_ok, if_true]
  rfl

/-- what '==' gives on two values of type t -/
def EqT (P : Program) (t : TypeId) (x y : Value) (b : Bool) : Prop := ∀ w, (Op.equal t x y).run P w = .ok b w

theorem EqT.two {P : Program} {t : TypeId} {f1 f2 : Field} {a1 a2 b1 b2 : Value} {p q : Bool} (hu : P.underlying t = some (.struct #[f1, f2])) (hs : P.stoodInHeld t = false)
    (n1 : f1.name ≠ "_") (n2 : f2.name ≠ "_") (o1 : f1.offset = 0) (o2 : f2.offset = 1) (p1 : PlainT P f1.type) (p2 : PlainT P f2.type)
    (e1 : ∀ w d, (Op.equalIn (d + 1) f1.type a1 b1).run P w = .ok p w) (e2 : ∀ w d, (Op.equalIn (d + 1) f2.type a2 b2).run P w = .ok q w) : EqT P t (.agg #[a1, a2]) (.agg #[b1, b2]) (p && q) := by
  intro w
  have key : ∀ d, (Op.equalIn (d + 1 + 1) t (.agg #[a1, a2]) (.agg #[b1, b2])).run P w = .ok (p && q) w := by
    intro d
    have q1 : (part f1.type #[a1, a2] f1.offset).run P w = .ok a1 w := by simp [part, p1 w, o1]
    have q2 : (part f1.type #[b1, b2] f1.offset).run P w = .ok b1 w := by simp [part, p1 w, o1]
    have q3 : (part f2.type #[a1, a2] f2.offset).run P w = .ok a2 w := by simp [part, p2 w, o2]
    have q4 : (part f2.type #[b1, b2] f2.offset).run P w = .ok b2 w := by simp [part, p2 w, o2]
    rw [Op.equalIn]
    simp only [Sem.run_bind, run_underlying hu, Result.andThen_ok, run_program, hs]
    simp [n1, n2, q1, q2, q3, q4, e1, e2]
    cases p <;> cases q <;> simp
  exact key 9998

section
variable {P : Program} {n : Nat} {ops : Array Oper} {dr : Nat × List Nat} {dq : Nat} {l : List Oper} {E : Env} {w : World} {K : Env → World → Prop}
variable {d : Option Nat} {ty : TypeId} {pos : String} {af : Array Edge} {g : Option (Nat × Bool)} {x y z : Operand} {k k' : IntKind} {i j : Int} {t t' u sz by_ : Nat} {v v' : Value} {p : Option Addr} {c len m : Nat} {b : Bool}

theorem G1_aeql {cs ds : Array Value} (hx : E.look x = some (.agg cs)) (hy : E.look y = some (.agg ds)) (hg : P.eqGuardType P.depth t = false) (hq : EqT P t (.agg cs) (.agg ds) b) (hd : dstOk n d = true) (h : G P n ops dr l (E.put d (.bool b)) w K) :
    G1 P n ops dr ⟨d, .binOp .eql t x y t', ty, pos, af, g⟩ l E w K :=
  G1_quiet _ hd (fun a ha w' _ => by simp [execOp, ha.eval hx, ha.eval hy, eqGuard, binOp, hg, hq w']) h
theorem G1_aneq {cs ds : Array Value} (hx : E.look x = some (.agg cs)) (hy : E.look y = some (.agg ds)) (hg : P.eqGuardType P.depth t = false) (hq : EqT P t (.agg cs) (.agg ds) b) (hd : dstOk n d = true) (h : G P n ops dr l (E.put d (.bool (!b))) w K) :
    G1 P n ops dr ⟨d, .binOp .neq t x y t', ty, pos, af, g⟩ l E w K :=
  G1_quiet _ hd (fun a ha w' _ => by simp [execOp, ha.eval hx, ha.eval hy, eqGuard, binOp, hg, hq w']) h

theorem run_equal_nil (hu : SliceT P t u sz by_) (w : World) : (Op.equal t (.slice p len c) (.slice none 0 0)).run P w = .ok p.isNone w := by
  have key : ∀ d, (Op.equalIn (d + 1) t (.slice p len c) (.slice none 0 0)).run P w = .ok p.isNone w := by
    intro d
    rw [Op.equalIn.eq_def]
    cases p <;> simp [run_underlying hu.1]
  exact key 9999
theorem G1_nileql (hu : SliceT P t u sz by_) (hx : E.look x = some (.slice p len c)) (hy : E.look y = some (.slice none 0 0)) (hd : dstOk n d = true) (h : G P n ops dr l (E.put d (.bool p.isNone)) w K) : G1 P n ops dr ⟨d, .binOp .eql t x y t', ty, pos, af, g⟩ l E w K :=
  G1_quiet _ hd (fun a ha w' _ => by simp [execOp, ha.eval hx, ha.eval hy, eqGuard, binOp, run_equal_nil hu]) h
theorem G1_nilneq (hu : SliceT P t u sz by_) (hx : E.look x = some (.slice p len c)) (hy : E.look y = some (.slice none 0 0)) (hd : dstOk n d = true) (h : G P n ops dr l (E.put d (.bool (!p.isNone))) w K) : G1 P n ops dr ⟨d, .binOp .neq t x y t', ty, pos, af, g⟩ l E w K :=
  G1_quiet _ hd (fun a ha w' _ => by simp [execOp, ha.eval hx, ha.eval hy, eqGuard, binOp, run_equal_nil hu]) h

theorem G1_convi64 (hx : E.look x = some (.int k i)) (hs : IntT P t k') (ht : IntT P t' .i64) (h1 : -9223372036854775808 ≤ i) (h2 : i ≤ 9223372036854775807) (hd : dstOk n d = true) (h : G P n ops dr l (E.put d (.int .i64 i)) w K) : G1 P n ops dr ⟨d, .convert t t' x, ty, pos, af, g⟩ l E w K :=
  G1_conv hx hs ht hd (by rw [wrap_i64 h1 h2]; exact h)
theorem G1_convu8 (hx : E.look x = some (.int k i)) (hs : IntT P t k') (ht : IntT P t' .u8) (h1 : 0 ≤ i) (h2 : i ≤ 255) (hd : dstOk n d = true) (h : G P n ops dr l (E.put d (.int .u8 i)) w K) : G1 P n ops dr ⟨d, .convert t t' x, ty, pos, af, g⟩ l E w K :=
  G1_conv hx hs ht hd (by rw [wrap_u8 h1 h2]; exact h)
theorem G1_convu64 (hx : E.look x = some (.int k i)) (hs : IntT P t k') (ht : IntT P t' .u64) (h1 : 0 ≤ i) (h2 : i ≤ 18446744073709551615) (hd : dstOk n d = true) (h : G P n ops dr l (E.put d (.int .u64 i)) w K) : G1 P n ops dr ⟨d, .convert t t' x, ty, pos, af, g⟩ l E w K :=
  G1_conv hx hs ht hd (by rw [wrap_u64 h1 h2]; exact h)

theorem G1_shrC {c : Nat} {j : Int} (hx : E.look x = some (.int k i)) (hy : E.look y = some (.int k' j)) (h0 : 0 ≤ i ∧ 0 ≤ j) (hc : 2 ^ min j.toNat k.bits = c) (hd : dstOk n d = true)
    (h : G P n ops dr l (E.put d (.int k (i / (c : Int)))) w K) : G1 P n ops dr ⟨d, .binOp .shr t x y t', ty, pos, af, g⟩ l E w K := by
  refine G1_shr hx hy h0.2 hd ?_
  have e : i.fdiv (2 ^ min j.toNat k.bits) = i / (c : Int) := by
    rw [← hc, Int.fdiv_eq_ediv_of_nonneg _ (by exact_mod_cast Nat.zero_le _)]
    push_cast
    rfl
  rw [e]; exact h

/- slices cut: s[i:], s[:j], s[i:j] -/
theorem run_slice (hu : SliceT P t u sz by_) {lo hi : Nat} {a b : Option Value} (h1 : lo ≤ hi) (h2 : hi ≤ c) (w : World)
    (ha : a = none ∧ lo = 0 ∨ ∃ k, a = some (.int k lo)) (hb : b = none ∧ hi = len ∨ ∃ k, b = some (.int k hi)) :
    (Instr.sliceAt t (.slice p len c) a b none).run P w = .ok (.slice (subp p c lo sz) (hi - lo) (c - lo)) w := by
  have e2 : (0 : Int) ≤ hi ∧ (hi : Int) ≤ c := by omega
  have e3 : (0 : Int) ≤ lo ∧ (lo : Int) ≤ hi := by omega
  have hsz := run_sizeOf_T hu w
  simp only [Instr.sliceAt, Sem.run_bind, run_underlying hu.1, Result.andThen_ok, Instr.slice, Instr.sliceBounds, Sem.run_pure]
  rcases ha with ⟨rfl, rfl⟩ | ⟨k, rfl⟩ <;> rcases hb with ⟨rfl, rfl⟩ | ⟨k2, rfl⟩ <;>
    simp [Instr.sliceBound, asIntOf, e2, e3, hsz, subp, h1]

theorem G1_sliceLo {q : Nat} (hu : SliceT P t u sz by_) (hx : E.look x = some (.slice p len c)) (hy : E.look y = some (.int k (q : Int))) (ho : Okp p len c) (hq : q ≤ len) (hd : dstOk n d = true)
    (h : G P n ops dr l (E.put d (.slice (subp p c q sz) (len - q) (c - q))) w K) : G1 P n ops dr ⟨d, .slice t x (some y) none none, ty, pos, af, g⟩ l E w K :=
  G1_quiet _ hd (fun a ha w' _ => by simp [execOp, ha.eval hx, ha.eval hy, run_slice hu hq ho.le w' (.inr ⟨k, rfl⟩) (.inl ⟨rfl, rfl⟩)]) h
theorem G1_sliceHi {q : Nat} (hu : SliceT P t u sz by_) (hx : E.look x = some (.slice p len c)) (hy : E.look y = some (.int k (q : Int))) (hq : q ≤ c) (hd : dstOk n d = true)
    (h : G P n ops dr l (E.put d (.slice (subp p c 0 sz) q c)) w K) : G1 P n ops dr ⟨d, .slice t x none (some y) none, ty, pos, af, g⟩ l E w K :=
  G1_quiet _ hd (fun a ha w' _ => by simp [execOp, ha.eval hx, ha.eval hy, run_slice hu (Nat.zero_le _) hq w' (.inl ⟨rfl, rfl⟩) (.inr ⟨k, rfl⟩)]) h
theorem G1_sliceBoth {q r : Nat} (hu : SliceT P t u sz by_) (hx : E.look x = some (.slice p len c)) (hy : E.look y = some (.int k (q : Int))) (hz : E.look z = some (.int k' (r : Int))) (hq : q ≤ r) (hr : r ≤ c) (hd : dstOk n d = true)
    (h : G P n ops dr l (E.put d (.slice (subp p c q sz) (r - q) (c - q))) w K) : G1 P n ops dr ⟨d, .slice t x (some y) (some z) none, ty, pos, af, g⟩ l E w K :=
  G1_quiet _ hd (fun a ha w' _ => by simp [execOp, ha.eval hx, ha.eval hy, ha.eval hz, run_slice hu hq hr w' (.inr ⟨k, rfl⟩) (.inr ⟨k', rfl⟩)]) h

theorem subp_zero (p : Option Addr) (c sz : Nat) : subp p c 0 sz = p := by
  unfold subp
  split
  · rfl
  · cases p <;> simp [Addr.add]

/- a row of the call's own, appended to -/
theorem run_append_nothing (hu : SliceT P t u sz by_) (ho : len ≤ c) (ty : TypeId) (w : World) : (Builtin.append_ #[t, t] ty #[.slice p len c, .slice none 0 0]).run P w = .ok (.slice p len c) w := by
  obtain ⟨h1, i, z, hi, rfl, rfl, hz, _⟩ := hu
  cases p <;> simp [Builtin.append_, run_underlying h1, sizeOf, typeInfo, hi, Builtin.lenOf, ho, Builtin.firstCells, storeCells]

theorem flat_inv {α : Type} (e : Enc α) : ∀ (xs : List α) (j : Nat) (v : Value), (xs.flatMap e.enc)[j]? = some v → ∃ i k x, j = i * e.sz + k ∧ xs[i]? = some x ∧ (e.enc x)[k]? = some v
  | [], j, v, h => by simp at h
  | x :: xs, j, v, h => by
    rw [List.flatMap_cons] at h
    by_cases hj : j < (e.enc x).length
    · rw [List.getElem?_append_left hj] at h
      exact ⟨0, j, x, by simp, rfl, h⟩
    · rw [List.getElem?_append_right (by omega), e.len] at h
      obtain ⟨i, k, y, h1, h2, h3⟩ := flat_inv e xs _ v h
      rw [e.len] at hj
      exact ⟨i + 1, k, y, by rw [Nat.add_mul]; omega, by simpa using h2, h3⟩

theorem Sl.flat {α : Type} {e : Enc α} {H : Array Obj} {p : Option Addr} {c : Nat} {xs : List α} (h : Sl H e p c xs) (j : Nat) (v : Value) (hv : (xs.flatMap e.enc)[j]? = some v) : hcell H (adr p j) = some v := by
  obtain ⟨i, k, x, rfl, h2, h3⟩ := flat_inv e xs j v hv
  exact h.cell i x h2 k v h3

/-- the row at p' lies where that at p lay, or is new -/
def NewP (w : World) (p p' : Option Addr) : Prop := blk p' = blk p ∨ ∀ k, blk p' = some k → w.heap.size ≤ k

theorem grown_trans {w w1 w2 : World} {p p' : Option Addr} (h1 : w.grownBy w1 (blk p)) (hp : NewP w p p') (h2 : w1.grownBy w2 (blk p')) : w.grownBy w2 (blk p) := by
  refine ⟨h2.os.trans h1.os, h2.tape.trans h1.tape, h2.output.trans h1.output, Nat.le_trans h1.size h2.size, fun k hk hne => ?_⟩
  rw [h2.block k (Nat.lt_of_lt_of_le hk h1.size) (fun e => ?_), h1.block k hk hne]
  rcases hp with hp | hp
  · exact hne (by rw [e, hp])
  · have := hp k e.symm; omega

theorem NewP.trans {w w1 : World} {p p' p2 : Option Addr} (h : NewP w p p') (hs : w.heap.size ≤ w1.heap.size) (h2 : NewP w1 p' p2) : NewP w p p2 := by
  rcases h2 with h2 | h2
  · rcases h with h | h
    · exact .inl (h2.trans h)
    · exact .inr (fun k hk => h k (by rw [← h2]; exact hk))
  · exact .inr (fun k hk => Nat.le_trans hs (h2 k hk))

theorem grown_ext {w w1 w2 : World} {row : Option Nat} (h1 : w.grownBy w1 row) (h2 : Ext w1 w2) : w.grownBy w2 row :=
  ⟨h2.os.trans h1.os, h2.tape.trans h1.tape, h2.output.trans h1.output, Nat.le_trans h1.size h2.size, fun k hk hne => (h2.block k (Nat.lt_of_lt_of_le hk h1.size)).trans (h1.block k hk hne)⟩
theorem ext_grown {w w1 w2 : World} {row : Option Nat} (h1 : Ext w w1) (h2 : w1.grownBy w2 row) : w.grownBy w2 row :=
  ⟨h2.os.trans h1.os, h2.tape.trans h1.tape, h2.output.trans h1.output, Nat.le_trans h1.size h2.size, fun k hk hne => (h2.block k (Nat.lt_of_lt_of_le hk h1.size) hne).trans (h1.block k hk)⟩
/-- a block that the call made itself may be turned: what was there stays -/
theorem Ext.own {w w1 w2 : World} {row : Option Nat} (h1 : Ext w w1) (h2 : w1.grownBy w2 row) (hr : ∀ k, row = some k → w.heap.size ≤ k) : Ext w w2 :=
  ⟨h2.os.trans h1.os, h2.tape.trans h1.tape, h2.output.trans h1.output, Nat.le_trans h1.size h2.size, fun k hk => (h2.block k (Nat.lt_of_lt_of_le hk h1.size) (fun e => by have := hr k e.symm; omega)).trans (h1.block k hk)⟩

theorem run_append {α : Type} {e : Enc α} {B : Nat} {xs ys : List α} {q : Option Addr} {c2 : Nat} (hu : SliceT P t u sz by_) (hsz : e.sz = sz) (hB : B ≤ w.heap.size) (hown : Own w B u e p c xs) (hsl : Sl w.heap e q c2 ys)
    (hlen : (xs.length + ys.length) * by_ ≤ 140737488355328) (hmax : xs.length + ys.length ≤ 9223372036854775807) (ty : TypeId) :
    ∃ p' c' w', (Builtin.append_ #[t, t] ty #[.slice p xs.length c, .slice q ys.length c2]).run P w = .ok (.slice p' (xs ++ ys).length c') w' ∧ Own w' B u e p' c' (xs ++ ys) ∧ w.grownBy w' (blk p) ∧ NewP w p p' := by
  cases q with
  | none =>
    have h1 := hsl.ok.nul rfl
    have h2 := hsl.ok.le
    obtain rfl : ys = [] := List.eq_nil_of_length_eq_zero (by omega)
    subst h1
    refine ⟨p, c, w, ?_, by simpa using hown, ⟨rfl, rfl, rfl, Nat.le_refl _, fun _ _ _ => rfl⟩, .inl rfl⟩
    have := run_append_nothing (p := p) (len := xs.length) (c := c) hu hown.sl.ok.le ty w
    simpa using this
  | some a =>
    have hn : ∀ j v, (ys.flatMap e.enc)[j]? = some v → w.cell? (a.add j) = some v := by
      intro j v hv
      have hne : 0 < ys.length := by cases ys <;> simp_all
      have hspot := hsl.ok.spot a rfl (by have := hsl.ok.le; omega)
      have hc := hsl.flat j v hv
      obtain ⟨b, o, s⟩ := a
      simp only at hspot
      subst hspot
      rw [addr_add]; exact hc
    obtain ⟨h1, i, z, hi, hs1, hb1, hz, hz2⟩ := hu
    subst hsz
    obtain ⟨v', w', hr, h2, h3, _⟩ := run_append_own (P := P) w B t ty u i z e.sz by_ h1 hi hz hs1 hb1 hz2 e.pos (.slice p xs.length c) xs.length (xs.flatMap e.enc) hown a ys.length c2 (ys.flatMap e.enc)
      (flat_len e ys) hn (flat_one e ys) (by simp only [maxLen]; omega) hlen hB
    have hform : ∃ p' c', v' = .slice p' (xs ++ ys).length c' := by
      rcases h2.2 with ⟨rfl, hn⟩ | ⟨g, cap, cur, rfl, _⟩
      · exact ⟨none, 0, by rw [List.length_append, hn]⟩
      · exact ⟨some ⟨g, 0, none⟩, cap, by rw [List.length_append]⟩
    obtain ⟨p', c', rfl⟩ := hform
    refine ⟨p', c', w', hr, ?_, ?_, ?_⟩
    · unfold Own
      rw [List.flatMap_append]
      simpa using h2
    rotate_left
    · rcases hown.2 with ⟨hv, hn0⟩ | ⟨g, cap, cur, hv, hbg, hg, hnc, hcm, hcs, htake⟩
      · injection hv with e1 e2 e3
        subst e1 e3
        by_cases hm : ys.length = 0
        · obtain rfl : ys = [] := List.eq_nil_of_length_eq_zero hm
          have e4 : (Builtin.append_ #[t, t] ty #[.slice none xs.length 0, .slice (some a) ([] : List α).length c2]).run P w = .ok (.slice none xs.length 0) w := by
            simp [Builtin.append_, run_underlying h1, sizeOf, typeInfo, hi, Builtin.lenOf, hn0, Builtin.firstCells, loadCells, loadCellsFrom]
          rw [e4] at hr
          injection hr with e5 _
          injection e5 with e6 _ _
          exact .inl (by rw [← e6])
        · have hr2 := run_append_nil (P := P) w t ty u i z h1 hi hz a ys.length c2 (ys.flatMap e.enc) (by rw [hs1]; exact flat_len e ys) hn (by omega) (by omega) (by rw [hb1]; have := hlen; rw [hn0, Nat.zero_add] at this; omega)
          rw [hn0] at hr
          rw [hr2] at hr
          injection hr with e5 _
          injection e5 with e6 _ _
          exact .inr (fun k hk => by rw [← e6] at hk; simp [blk] at hk; omega)
      · injection hv with e1 e2 e3
        subst e1 e3
        by_cases hroom : xs.length + ys.length ≤ c
        · have hr2 := run_append_room (P := P) w t ty u i h1 hi g xs.length c cur hg a ys.length c2 (ys.flatMap e.enc) (by rw [hs1]; exact flat_len e ys) hn (flat_one e ys) hroom
            (by rw [hs1, hcs, flat_len, ← Nat.add_mul]; exact Nat.mul_le_mul_right _ hroom)
          rw [hr2] at hr
          injection hr with e5 _
          injection e5 with e6 _ _
          exact .inl (by rw [← e6])
        · have hr2 := run_append_grow (P := P) w t ty u i z h1 hi hz ⟨g, 0, none⟩ xs.length c (xs.flatMap e.enc) (by rw [hs1]; exact flat_len e xs) (fun j v hv => by rw [addr_add]; exact hown.sl.flat j v hv) a ys.length c2 (ys.flatMap e.enc) (by rw [hs1]; exact flat_len e ys) hn (by omega) (by omega) (growslice_fits (by omega) (by rw [hb1]; exact hlen))
          rw [hr2] at hr
          injection hr with e5 _
          injection e5 with e6 _ _
          exact .inr (fun k hk => by rw [← e6] at hk; simp [blk] at hk; omega)
    · have e1 : Value.ownBlock (.slice p xs.length c) = blk p := by cases p <;> rfl
      rw [e1] at h3
      exact h3

theorem G1_append {α : Type} {e : Enc α} {B : Nat} {xs ys : List α} {q : Option Addr} {c2 : Nat} (hu : SliceT P t u sz by_) (hx : E.look x = some (.slice p xs.length c)) (hy : E.look y = some (.slice q ys.length c2)) (hown : Own w B u e p c xs) (hsl : Sl w.heap e q c2 ys)
    (hsz : e.sz = sz) (hB : B ≤ w.heap.size) (hlen : (xs.length + ys.length) * by_ ≤ 140737488355328) (hmax : xs.length + ys.length ≤ 9223372036854775807)
    (he : effects P dr.1 ⟨d, .call ⟨.builtin .append, #[x, y], #[t, t]⟩, ty, pos, af, g⟩ = true) (hw : writes dr.1 ⟨d, .call ⟨.builtin .append, #[x, y], #[t, t]⟩, ty, pos, af, g⟩ = true) (hd : dstOk n d = true)
    (h : ∀ p' c' w', Own w' B u e p' c' (xs ++ ys) → w.grownBy w' (blk p) → NewP w p p' → G P n ops dr l (E.put d (.slice p' (xs ++ ys).length c')) w' K) : G1 P n ops dr ⟨d, .call ⟨.builtin .append, #[x, y], #[t, t]⟩, ty, pos, af, g⟩ l E w K := by
  obtain ⟨p', c', w', hr, h1, h2, h3⟩ := run_append hu hsz hB hown hsl hlen hmax ty
  exact G1_eff _ w' he hd (fun a ha => by simp [execOp, resolve, invoke, builtin, ha.eval hx, ha.eval hy, hr]) (.inl hw) (h p' c' w' h1 h2 h3)

/-- a slice of one element, made anew -/
theorem G1_build1 {α : Type} (e : Enc α) (el : α) (hu : SliceT P t u sz by_) (hx : E.look x = some v) (hc : v.cells.toList = e.enc el) (hsz : e.sz = sz) (hs24 : sz ≤ 1000)
    (he : effects P dr.1 ⟨d, .buildSlice t 1 #[(0, x)], ty, pos, af, g⟩ = true) (hd : dstOk n d = true)
    (h : ∀ p' w', p' = some ⟨w.heap.size, 0, none⟩ → Sl w'.heap e p' 1 [el] → Blk w'.heap w.heap.size u (e.enc el) → Ext w w' → w'.heap.size = w.heap.size + 1 → G P n ops dr l (E.put d (.slice p' [el].length 1)) w' K) :
    G1 P n ops dr ⟨d, .buildSlice t 1 #[(0, x)], ty, pos, af, g⟩ l E w K := by
  subst hsz
  have hpos := e.pos
  obtain ⟨h1, i, z, hi, hs1, hb1, hz, hz2⟩ := hu
  have hvs : v.cells.size = e.sz := by rw [← e.len el, ← hc]; simp
  have hve : v.cells = (e.enc el).toArray := by rw [← hc]
  have hB : Blk (w.alloc (.cells (e.enc el).toArray u)).heap w.heap.size u (e.enc el) := by unfold Blk; exact heap_alloc_new w _
  refine G1_eff _ (w.alloc (.cells (e.enc el).toArray u)) he hd (fun a ha => ?_) (.inr (Ext.alloc Ext.rfl' _).toS) (h _ _ rfl ?_ hB (Ext.alloc Ext.rfl' _) (by simp))
  · have hfill : ∀ cells : Array Value, cells.size = e.sz → Instr.fill (fun i => some (i * e.sz, e.sz)) cells [(0, v)] = some (e.enc el).toArray := by
      intro cells hcs
      simp only [Instr.fill, hvs, Nat.zero_mul, Nat.zero_add, hcs]
      simp only [ne_eq, not_true_eq_false, decide_false, Bool.false_or, gt_iff_lt, Nat.lt_irrefl, Bool.false_eq_true, if_false, Option.some.injEq]
      rw [hve]
      apply Array.ext'
      rw [← Array.foldl_toList]
      have key : ∀ (l : List Value) (k : Nat) (cs : Array Value), k + l.length ≤ cs.size →
          ((l.zipIdx k).foldl (fun cs (x : Value × Nat) => cs.setIfInBounds x.2 x.1) cs).toList = cs.toList.take k ++ l ++ cs.toList.drop (k + l.length) := by
        intro l
        induction l with
        | nil => intro k cs _; simp
        | cons y l ih =>
          intro k cs hk
          simp only [List.length_cons] at hk
          rw [List.zipIdx_cons, List.foldl_cons, ih (k + 1) _ (by simp; omega)]
          apply List.ext_getElem?
          intro j
          simp only [Array.toList_setIfInBounds]
          simp only [List.getElem?_append, List.getElem?_take, List.getElem?_drop, List.length_take, List.length_append, List.length_cons, List.getElem?_set, List.length_set, Array.length_toList, List.getElem?_cons]
          by_cases hj : j < k
          · simp [hj, show j < min k cs.size by omega, show j < min (k + 1) cs.size + l.length by omega, show j < min (k + 1) cs.size by omega, show j < k + 1 by omega, show k ≠ j by omega, show j < min k cs.size + (l.length + 1) by omega]
          · by_cases hj2 : j = k
            · subst hj2
              simp [show j < min (j + 1) cs.size by omega, show j < min (j + 1) cs.size + l.length by omega, show j < cs.size by omega, show ¬ j < min j cs.size by omega, show j < min j cs.size + (l.length + 1) by omega, show j - min j cs.size = 0 by omega]
            · have e1 : min (k + 1) cs.size = k + 1 := by omega
              have e2 : min k cs.size = k := by omega
              rw [e1, e2]
              have e3 : k + (l.length + 1) = k + 1 + l.length := by omega
              simp only [show ¬ j < k + 1 by omega, show ¬ j < k by omega, if_false, e3]
              by_cases hj3 : j < k + 1 + l.length
              · simp [hj3, show j - k ≠ 0 by omega, show j - k - 1 = j - (k + 1) by omega]
              · have e4 : k + 1 + l.length + (j - (k + 1 + l.length)) = j := by omega
                simp [hj3, e4, show k ≠ j by omega]
      have := key (e.enc el) 0 cells (by rw [e.len]; omega)
      simp only [List.take_zero, List.nil_append, Nat.zero_add, e.len] at this
      have hdrop : cells.toList.drop e.sz = [] := by rw [List.drop_eq_nil_iff]; simp [hcs]
      rw [hdrop, List.append_nil] at this
      simpa using this
    have hcells : ((Array.range (1 * e.sz)).map (z.cells[· % z.cells.size]!)).size = e.sz := by simp
    simp only [execOp, Instr.buildSlice, Sem.run_bind, run_underlying h1, Result.andThen_ok, sizeOf, typeInfo, run_program, hi, Sem.run_pure, hs1, zeroValue]
    have h24 : ¬ (1 * e.sz > 2 ^ 24) := by omega
    have h0 : ¬ (1 * e.sz = 0) := by omega
    simp only [h24, h0, if_false, Sem.run_pure, Result.andThen_ok, Sem.run_bind, run_program, hi, hz]
    simp only [List.map_toArray, List.map_cons, List.map_nil, ha.eval hx]
    rw [hfill _ hcells]
    simp [newRow, newObj, Sem.run]
  · refine ⟨⟨by simp, by simp [maxLen], (fun h => by cases h), (fun a ha _ => by simp at ha; rw [← ha])⟩, fun i' x' hi' k' v' hv' => ?_⟩
    have : i' = 0 := by have := get_lt hi'; simp at this; omega
    subst this
    simp at hi'
    subst hi'
    simpa using hB.cell hv'

/-- an empty slice, made anew -/
theorem G1_build0 {α : Type} (e : Enc α) (hu : SliceT P t u sz by_) (he : effects P dr.1 ⟨d, .buildSlice t 0 #[], ty, pos, af, g⟩ = true) (hd : dstOk n d = true)
    (h : ∀ p' w', Own w' w.heap.size u e p' 0 [] → Ext w w' → w'.heap.size = w.heap.size + 1 → G P n ops dr l (E.put d (.slice p' ([] : List α).length 0)) w' K) : G1 P n ops dr ⟨d, .buildSlice t 0 #[], ty, pos, af, g⟩ l E w K := by
  obtain ⟨h1, i, z, hi, hs1, hb1, hz, hz2⟩ := hu
  refine G1_eff _ (w.alloc (.cells #[] u)) he hd (fun a ha => ?_) (.inr (Ext.alloc Ext.rfl' _).toS) (h (some ⟨w.heap.size, 0, none⟩) _ ?_ (Ext.alloc Ext.rfl' _) (by simp))
  · simp [execOp, Instr.buildSlice, run_underlying h1, sizeOf, typeInfo, hi, Instr.fill, newRow, newObj, Sem.run]
    have e0 : Array.map (fun _ => (default : Value)) (Array.range 0) = #[] := by simp
    rw [e0]
  · exact World.ownsRow_made w #[] 0 (Nat.le_refl _) (by simp [maxLen]) (by simp)

end
theorem Own.base {α : Type} {e : Enc α} {w : World} {B B' T : Nat} {p : Option Addr} {c : Nat} {xs : List α} (h : Own w B T e p c xs) (hb : B' ≤ B) : Own w B' T e p c xs := by
  obtain ⟨h1, h2⟩ := h
  refine ⟨h1, ?_⟩
  rcases h2 with h2 | ⟨g, cap, cur, h3, h4, h5⟩
  · exact .inl h2
  · exact .inr ⟨g, cap, cur, h3, Nat.le_trans hb h4, h5⟩
/-- a box that is older than a row's first possible block is none of its blocks -/
theorem Own.ne {α : Type} {e : Enc α} {w : World} {B T : Nat} {p : Option Addr} {c : Nat} {xs : List α} (h : Own w B T e p c xs) {b : Nat} (hb : b < B) : ∀ a, p = some a → some b ≠ some a.block := by
  rintro a rfl e
  have := (h.ge a.block rfl).1
  simp only [Option.some.injEq] at e
  omega
/-- a box that is newer than all that a slice lies in -/
theorem Sl.ne {α : Type} {e : Enc α} {H : Array Obj} {p : Option Addr} {c : Nat} {xs : List α} (h : Sl H e p c xs) {b : Nat} (hb : H.size ≤ b) : ∀ a, p = some a → xs ≠ [] → some b ≠ some a.block := by
  rintro a rfl hne e'
  obtain ⟨x, hx⟩ := get_some (xs := xs) (k := 0) (by cases xs <;> simp_all)
  have hlen : 0 < (e.enc x).length := by rw [e.len]; exact e.pos
  have := hcell_lt (h.cell 0 x hx 0 _ (List.getElem?_eq_getElem hlen))
  simp only [adr] at this
  simp only [Option.some.injEq] at e'
  omega

theorem Enc.oneAgg {α : Type} (e : Enc α) (x : α) : ∀ v ∈ (Value.agg (e.enc x).toArray).cells.toList, v.oneCell' = true := e.one x

/- the kinds of elements -/
def ePair : Enc (ByteArray × ByteArray) := ⟨2, fun p => [.string p.1, .string p.2], fun _ => rfl, fun _ v hv => by simp at hv; rcases hv with rfl | rfl <;> rfl, by decide⟩
def eStr : Enc ByteArray := ⟨1, fun p => [.string p], fun _ => rfl, fun _ v hv => by simp at hv; rw [hv]; rfl, by decide⟩
def eMem : Enc (Int × ByteArray) := ⟨2, fun p => [.int .i64 p.1, .string p.2], fun _ => rfl, fun _ v hv => by simp at hv; rcases hv with rfl | rfl <;> rfl, by decide⟩
def eInt : Enc Int := ⟨1, fun p => [.int .i64 p], fun _ => rfl, fun _ v hv => by simp at hv; rw [hv]; rfl, by decide⟩
def eBool : Enc Bool := ⟨1, fun p => [.bool p], fun _ => rfl, fun _ v hv => by simp at hv; rw [hv]; rfl, by decide⟩
def eByte : Enc UInt8 := ⟨1, fun p => [.int .u8 p.toNat], fun _ => rfl, fun _ v hv => by simp at hv; rw [hv]; rfl, by decide⟩

attribute [irreducible] NewP
end Go.V

/- Rows that are appended to, over several steps; bytes and strings. -/
namespace Go.V
open Go.RowKit

/-- from w to w' the row at p has become the row at p' with elements xs; nothing else that was there has turned -/
structure App {α : Type} (w w' : World) (B T : Nat) (e : Enc α) (p p' : Option Addr) (c' : Nat) (xs : List α) : Prop where
  own : Own w' B T e p' c' xs
  grown : w.grownBy w' (blk p)
  new : NewP w p p'
  base : B ≤ w'.heap.size

section
variable {α : Type} {e : Enc α} {w w1 w2 : World} {B T : Nat} {p p1 p2 : Option Addr} {c c1 c2 : Nat} {xs ys : List α}

theorem App.refl (h : Own w B T e p c xs) (hB : B ≤ w.heap.size) : App w w B T e p p c xs := ⟨h, ⟨rfl, rfl, rfl, Nat.le_refl _, fun _ _ _ => rfl⟩, by unfold NewP; exact .inl rfl, hB⟩
theorem App.ext (h : App w w1 B T e p p1 c1 xs) (hx : Ext w1 w2) : App w w2 B T e p p1 c1 xs := ⟨h.own.ext hx, grown_ext h.grown hx, h.new, Nat.le_trans h.base hx.size⟩
theorem App.trans (h : App w w1 B T e p p1 c1 xs) (k : App w1 w2 B T e p1 p2 c2 ys) : App w w2 B T e p p2 c2 ys := ⟨k.own, grown_trans h.grown h.new k.grown, h.new.trans h.grown.size k.new, k.base⟩
/-- what is older than B stays -/
theorem App.below (h : App w w1 B T e p p1 c1 xs) (hp : ∀ k, blk p = some k → B ≤ k) (hB : B ≤ w.heap.size) : Below B w w1 :=
  ⟨h.grown.os, h.grown.tape, h.grown.output, h.grown.size, fun k hk => h.grown.block k (by omega) (fun e => by have := hp k e.symm; omega)⟩
/-- the row is one that the call made: what was there when it began stays -/
theorem Ext.app {w0 : World} (hx : Ext w0 w) (h : App w w1 B T e p p1 c1 xs) (hp : ∀ k, V.blk p = some k → w0.heap.size ≤ k) : Ext w0 w1 := hx.own h.grown hp
theorem App.sl (h : App w w1 B T e p p1 c1 xs) : Sl w1.heap e p1 c1 xs := h.own.sl
end

theorem Own.at {α : Type} {e : Enc α} {w : World} {B T : Nat} {p : Option Addr} {c : Nat} {xs : List α} (h : Own w B T e p c xs) {k : Nat} (hk : blk p = some k) : ∃ cur, w.heap[k]? = some (.cells cur T (0, 0)) := by
  rcases h.2 with ⟨hv, _⟩ | ⟨g, cap, cur, hv, _, hg, _⟩
  · injection hv with e1 _ _; subst e1; cases hk
  · injection hv with e1 _ _; subst e1
    simp only [blk, Option.some.injEq] at hk
    subst hk
    exact ⟨cur, hg⟩
/-- rows of different element types lie in different blocks -/
theorem Own.neT {α β : Type} {e : Enc α} {e' : Enc β} {w : World} {B B' T T' : Nat} {p p' : Option Addr} {c c' : Nat} {xs : List α} {ys : List β} (h : Own w B T e p c xs) (k : Own w B' T' e' p' c' ys) (hT : T ≠ T') : ∀ a, p' = some a → blk p ≠ some a.block := by
  rintro a rfl hb
  obtain ⟨cur, h1⟩ := h.at hb
  obtain ⟨cur', h2⟩ := k.at (k := a.block) rfl
  rw [h1] at h2
  simp at h2
  exact hT h2.2
theorem Own.neB {α : Type} {e : Enc α} {w : World} {B T T' b : Nat} {p : Option Addr} {c : Nat} {xs : List α} {cs : List Value} (h : Own w B T e p c xs) (k : Blk w.heap b T' cs) (hT : T ≠ T') : blk p ≠ some b := by
  intro hb
  obtain ⟨cur, h1⟩ := h.at hb
  unfold Blk at k
  rw [h1] at k
  simp at k
  exact hT k.2
/-- an older row -/
theorem Own.neO {α : Type} {e : Enc α} {w : World} {B T : Nat} {p q : Option Addr} {c : Nat} {xs : List α} (h : Own w B T e p c xs) (hq : ∀ k, blk q = some k → k < B) : ∀ a, p = some a → blk q ≠ some a.block := by
  rintro a rfl hb
  have h1 := hq _ hb
  have h2 := (h.ge a.block rfl).1
  omega

section
variable {P : Program} {n : Nat} {ops : Array Oper} {dr : Nat × List Nat} {dq : Nat} {l : List Oper} {E : Env} {w : World} {K : Env → World → Prop}
variable {d : Option Nat} {ty : TypeId} {pos : String} {af : Array Edge} {g : Option (Nat × Bool)} {x y z : Operand} {k k' : IntKind} {i j : Int} {t t' u sz by_ : Nat} {v v' : Value} {p : Option Addr} {c len m : Nat} {b : Bool}

theorem G1_appendA {α : Type} {e : Enc α} {B : Nat} {xs ys : List α} {q : Option Addr} {c2 : Nat} (hu : SliceT P t u sz by_) (hx : E.look x = some (.slice p xs.length c)) (hy : E.look y = some (.slice q ys.length c2)) (hown : Own w B u e p c xs) (hsl : Sl w.heap e q c2 ys)
    (hsz : e.sz = sz) (hB : B ≤ w.heap.size) (hlen : (xs.length + ys.length) * by_ ≤ 140737488355328) (hmax : xs.length + ys.length ≤ 9223372036854775807)
    (he : effects P dr.1 ⟨d, .call ⟨.builtin .append, #[x, y], #[t, t]⟩, ty, pos, af, g⟩ = true) (hw : writes dr.1 ⟨d, .call ⟨.builtin .append, #[x, y], #[t, t]⟩, ty, pos, af, g⟩ = true) (hd : dstOk n d = true)
    (h : ∀ p' c' w', App w w' B u e p p' c' (xs ++ ys) → G P n ops dr l (E.put d (.slice p' (xs ++ ys).length c')) w' K) : G1 P n ops dr ⟨d, .call ⟨.builtin .append, #[x, y], #[t, t]⟩, ty, pos, af, g⟩ l E w K :=
  G1_append hu hx hy hown hsl hsz hB hlen hmax he hw hd (fun p' c' w' h1 h2 h3 => h p' c' w' ⟨h1, h2, h3, Nat.le_trans hB h2.size⟩)

theorem byteCells_flat (s : ByteArray) : byteCells s = s.data.toList.flatMap eByte.enc := by
  unfold byteCells
  rw [List.flatMap_def]
  simp only [eByte]
  induction s.data.toList with
  | nil => rfl
  | cons a l ih => simp [ih]

theorem run_append_room_str (hu : SliceT P t u 1 by_) (hk : StrT P t') (ty : TypeId) (gb sLen sCap : Nat) (cur : Array Value) (hg : w.heap[gb]? = some (.cells cur u (0, 0))) (s : ByteArray) (hroom : sLen + s.size ≤ sCap) (hfit : sLen + s.size ≤ cur.size) :
    (Builtin.append_ #[t, t'] ty #[.slice (some ⟨gb, 0, none⟩) sLen sCap, .string s]).run P w =
      .ok (.slice (some ⟨gb, 0, none⟩) (sLen + s.size) sCap) (w.setRow gb (cur.toList.take sLen ++ byteCells s ++ cur.toList.drop (sLen + s.size)).toArray) := by
  obtain ⟨h1, i, z, hi, hs1, hb1, hz, hz2⟩ := hu
  have hst := run_storeCells_at P gb sLen u (byteCells s) 0 cur w hg (by rw [byteCells_length]; simpa using hfit) (fun u hu => by rw [byteCells_flat] at hu; exact flat_one eByte _ u hu)
  simp only [Nat.add_zero, byteCells_length] at hst
  simp [Builtin.append_, run_underlying h1, run_underlying (P := P) hk, sizeOf, typeInfo, hi, hs1, Builtin.lenOf, hroom, firstCells_string, addr_add, hst]

theorem run_append_str {B : Nat} {xs : List UInt8} (hu : SliceT P t u 1 by_) (hk : StrT P t') (hB : B ≤ w.heap.size) (hown : Own w B u eByte p c xs) (s : ByteArray)
    (hlen : (xs.length + s.size) * by_ ≤ 140737488355328) (hmax : xs.length + s.size ≤ 9223372036854775807) (ty : TypeId) :
    ∃ p' c' w', (Builtin.append_ #[t, t'] ty #[.slice p xs.length c, .string s]).run P w = .ok (.slice p' (xs ++ s.data.toList).length c') w' ∧ App w w' B u eByte p p' c' (xs ++ s.data.toList) := by
  have hu' := hu
  obtain ⟨h1, i, z, hi, hs1, hb1, hz, hz2⟩ := hu
  have hbc := byteCells_length s
  have hsl : s.data.toList.length = s.size := by rw [Array.length_toList]; rfl
  have hlenE : (xs ++ s.data.toList).length = xs.length + s.size := by rw [List.length_append, hsl]
  have hflatE : (xs ++ s.data.toList).flatMap eByte.enc = xs.flatMap eByte.enc ++ byteCells s := by rw [List.flatMap_append, byteCells_flat]
  have grow : ∀ (olds : List Value) (base : Option Addr) (cap : Nat), olds = xs.flatMap eByte.enc → (Builtin.firstCells i.size xs.length (.slice base xs.length cap)).run P w.drew = .ok olds.toArray w.drew → cap < xs.length + s.size → base = p → cap = c →
      ∃ p' c' w', (Builtin.append_ #[t, t'] ty #[.slice p xs.length c, .string s]).run P w = .ok (.slice p' (xs ++ s.data.toList).length c') w' ∧ App w w' B u eByte p p' c' (xs ++ s.data.toList) := by
    intro olds base cap ho hold hcap hb hc
    subst hb hc ho
    have hr := run_append_grow_src (P := P) (w := w) t t' ty u i z h1 hi hz base xs.length cap (xs.flatMap eByte.enc) hold (.string s) s.size (byteCells s) (by rw [hs1]; exact Src.ofString w hk s) hcap (by omega) (by rw [hb1]; exact growslice_fits hcap hlen)
    have hge := grownCap_ge w (xs.length + s.size) cap u
    have hcm : grownCap w (xs.length + s.size) cap u ≤ maxLen := grownCap_le_maxLen w _ cap u (by simp only [maxLen]; omega)
    refine ⟨_, _, _, by rw [hlenE]; exact hr, ?_, ?_, ?_, ?_⟩
    · unfold Own
      rw [hlenE, hflatE]
      refine ⟨by rw [List.length_append, flat_len, byteCells_length]; simp [eByte], .inr ⟨w.heap.size, _, _, rfl, hB, heap_alloc_new w.drew _, hge, hcm, ?_, ?_⟩⟩
      · simp only [Array.size_append, List.size_toArray, size_zeroCells, hz2, List.length_append, flat_len, byteCells_length]
        simp [eByte]; omega
      · simp only [Array.toList_append]
        rw [List.take_left' (by rw [List.length_append, flat_len, byteCells_length]; simp [eByte])]
    · exact ⟨rfl, rfl, rfl, by simp, fun k hk _ => Below.heap_alloc w.drew _ k hk⟩
    · unfold NewP; exact .inr (fun k hk => by simp [blk] at hk; omega)
    · simp; omega
  rcases hown.2 with ⟨hv, hn⟩ | ⟨gb, cap, cur, hv, hbg, hg, hnc, hcm, hcs, htake⟩
  · injection hv with e1 e2 e3
    subst e1 e3
    obtain rfl : xs = [] := List.eq_nil_of_length_eq_zero hn
    by_cases hs0 : s.size = 0
    · have hse : s.data.toList = [] := List.eq_nil_of_length_eq_zero (by rw [hsl, hs0])
      refine ⟨none, 0, w, ?_, ?_⟩
      · rw [hse]
        simp [Builtin.append_, run_underlying h1, run_underlying (P := P) hk, sizeOf, typeInfo, hi, Builtin.lenOf, hs0, Builtin.firstCells]
      · rw [hse]; exact App.refl (Own.nil _ _ _ _) hB
    · exact grow [] none 0 rfl (by simp [Builtin.firstCells]) (by simp; omega) rfl rfl
  · injection hv with e1 e2 e3
    subst e1 e3
    by_cases hroom : xs.length + s.size ≤ c
    · have hfit : xs.length + s.size ≤ cur.size := by rw [hcs]; simp [eByte]; omega
      have hr := run_append_room_str hu' hk ty gb xs.length c cur hg s hroom hfit
      refine ⟨_, _, _, by rw [hlenE]; exact hr, ?_, ?_, ?_, ?_⟩
      · unfold Own
        rw [hlenE, hflatE]
        refine ⟨by rw [List.length_append, flat_len, byteCells_length]; simp [eByte], .inr ⟨gb, c, _, rfl, hbg, setRow_heap w gb cur _ u _ hg, hroom, hcm, ?_, ?_⟩⟩
        · simp only [List.size_toArray, List.length_append, List.length_take, List.length_drop, Array.length_toList, byteCells_length]
          rw [← hcs]; omega
        · have htake' : cur.toList.take xs.length = xs.flatMap eByte.enc := by
            rw [← htake]; simp [eByte]
          rw [htake']
          simp only [List.append_assoc]
          rw [← List.append_assoc, List.take_left' (by rw [List.length_append, flat_len, byteCells_length]; simp [eByte])]
      · exact setRow_grown w gb _
      · unfold NewP; exact .inl rfl
      · simpa using hB
    · exact grow (xs.flatMap eByte.enc) _ c rfl (by
        have := run_firstCells_some (P := P) w.drew i.size xs.length ⟨gb, 0, none⟩ xs.length c (xs.flatMap eByte.enc) (by rw [hs1, flat_len]; simp [eByte]) (fun j v hv => by rw [addr_add]; exact hown.sl.flat j v hv)
        exact this) (by omega) rfl rfl

theorem G1_appendStr {B : Nat} {xs : List UInt8} {s : ByteArray} (hu : SliceT P t u 1 by_) (hk : StrT P t') (hx : E.look x = some (.slice p xs.length c)) (hy : E.look y = some (.string s)) (hown : Own w B u eByte p c xs)
    (hB : B ≤ w.heap.size) (hlen : (xs.length + s.size) * by_ ≤ 140737488355328) (hmax : xs.length + s.size ≤ 9223372036854775807)
    (he : effects P dr.1 ⟨d, .call ⟨.builtin .append, #[x, y], #[t, t']⟩, ty, pos, af, g⟩ = true) (hw : writes dr.1 ⟨d, .call ⟨.builtin .append, #[x, y], #[t, t']⟩, ty, pos, af, g⟩ = true) (hd : dstOk n d = true)
    (h : ∀ p' c' w', App w w' B u eByte p p' c' (xs ++ s.data.toList) → G P n ops dr l (E.put d (.slice p' (xs ++ s.data.toList).length c')) w' K) : G1 P n ops dr ⟨d, .call ⟨.builtin .append, #[x, y], #[t, t']⟩, ty, pos, af, g⟩ l E w K := by
  obtain ⟨p', c', w', hr, h1⟩ := run_append_str hu hk hB hown s hlen hmax ty
  exact G1_eff _ w' he hd (fun a ha => by simp [execOp, resolve, invoke, builtin, ha.eval hx, ha.eval hy, hr]) (.inl hw) (h p' c' w' h1)

/- bytes to a string -/
theorem foldl_push (l : List UInt8) : ∀ s : ByteArray, (l.map (fun b : UInt8 => ((b.toNat : Nat) : Int))).foldl (fun r (n : Int) => r.push (UInt8.ofNat n.toNat)) s = ⟨s.data ++ l.toArray⟩ := by
  induction l with
  | nil => intro s; cases s; simp
  | cons a l ih =>
    intro s
    rw [List.map_cons, List.foldl_cons, ih]
    cases s
    simp [ByteArray.push]

def mkStr (l : List UInt8) : ByteArray := ⟨l.toArray⟩

theorem run_toString {bs : List UInt8} (hu : SliceT P t u 1 by_) (hi : IntT P u .u8) (hd : StrT P t') (hs : Sl w.heap eByte p c bs) : (convert t t' (.slice p bs.length c)).run P w = .ok (.string (mkStr bs)) w := by
  rw [run_convert_bytes_string w t t' u p bs.length c hu.1 hi hd]
  cases p with
  | none =>
    have h1 := hs.ok.nul rfl
    have h2 := hs.ok.le
    obtain rfl : bs = [] := List.eq_nil_of_length_eq_zero (by omega)
    simp [Conv.bytesToString, mkStr]; rfl
  | some a =>
    have hn : ∀ j v, (bs.flatMap eByte.enc)[j]? = some v → w.cell? (a.add j) = some v := by
      intro j v hv
      have hne : 0 < bs.length := by cases bs <;> simp_all
      have hspot := hs.ok.spot a rfl (by have := hs.ok.le; omega)
      have hc := hs.flat j v hv
      obtain ⟨b, o, s⟩ := a
      simp only at hspot
      subst hspot
      rw [addr_add]; exact hc
    have hl : (loadCells a bs.length).run P w = .ok ((bs.map (fun b : UInt8 => ((b.toNat : Nat) : Int))).map (Value.int .u8)).toArray w := by
      have e1 : (bs.map (fun b : UInt8 => ((b.toNat : Nat) : Int))).map (Value.int .u8) = bs.flatMap eByte.enc := by
        rw [List.map_map, List.flatMap_def]
        simp only [eByte]
        clear hs hn
        induction bs with
        | nil => rfl
        | cons a l ih => simp [ih]
      rw [e1]
      have := run_loadCells_list (P := P) w a (bs.flatMap eByte.enc) hn
      rw [flat_len] at this
      simpa [eByte] using this
    rw [run_bytesToString w _ _ _ _ hl, foldl_push]
    simp [mkStr]

theorem G1_toString {bs : List UInt8} (hu : SliceT P t u 1 by_) (hi : IntT P u .u8) (hk : StrT P t') (hx : E.look x = some (.slice p bs.length c)) (hs : Sl w.heap eByte p c bs) (hd : dstOk n d = true)
    (h : G P n ops (dq, []) l (E.put d (.string (mkStr bs))) w K) : G1 P n ops (dq, []) ⟨d, .convert t t' x, ty, pos, af, g⟩ l E w K :=
  G1_quiet _ hd (fun a ha w' hw => by simp [execOp, ha.eval hx, run_toString hu hi hk (hs.ext (rd_ext hw rfl))]) h

theorem G1_convE {k2 : IntKind} (hx : E.look x = some (.int k i)) (hs : IntT P t k') (ht : IntT P t' k2) (hv : k2.wrap i = j) (hd : dstOk n d = true) (h : G P n ops dr l (E.put d (.int k2 j)) w K) : G1 P n ops dr ⟨d, .convert t t' x, ty, pos, af, g⟩ l E w K :=
  G1_conv hx hs ht hd (by rw [hv]; exact h)

def Env.parts (E : Env) : List (Nat × Operand) → Option (List (Nat × Value))
  | [] => some []
  | (i, x) :: xs => match E.look x, Env.parts E xs with
    | some v, some vs => some ((i, v) :: vs)
    | _, _ => none

theorem Holds.parts {a : Act} (h : Holds n E a) : ∀ {xs : List (Nat × Operand)} {vs : List (Nat × Value)}, E.parts xs = some vs → xs.map (fun (i, x) => (i, a.eval x)) = vs
  | [], vs, hx => by simpa [Env.parts] using hx
  | (i, x) :: xs, vs, hx => by
    simp only [Env.parts] at hx
    split at hx
    · rename_i v us h1 h2
      obtain rfl : (i, v) :: us = vs := by simpa using hx
      simp [h.eval h1, h.parts h2]
    · simp at hx

/-- a struct or array, built of parts -/
theorem G1_build {parts : Array (Nat × Operand)} {ps : List (Nat × Value)} (v : Value) (hp : E.parts parts.toList = some ps) (hr : ∀ w, (Instr.build t ps.toArray).run P w = .ok v w) (hd : dstOk n d = true)
    (h : G P n ops dr l (E.put d v) w K) : G1 P n ops dr ⟨d, .build t parts, ty, pos, af, g⟩ l E w K :=
  G1_quiet v hd (fun a ha w' _ => by
    have hm : (parts.map fun (i, x) => (i, a.eval x)) = ps.toArray := by
      rw [← ha.parts hp]; apply Array.ext'; simp
    simp only [execOp, hm]
    simp [hr w']) h

theorem flat_set {α : Type} (e : Enc α) (el' : α) (off : Nat) (v : Value) : ∀ (xs : List α) (q : Nat) (el : α), xs[q]? = some el → e.enc el' = (e.enc el).set off v → off < e.sz →
    (xs.flatMap e.enc).set (q * e.sz + off) v = (xs.set q el').flatMap e.enc
  | [], q, el, h, _, _ => by simp at h
  | x :: xs, 0, el, h, he, ho => by
    simp at h; subst h
    rw [List.set_cons_zero, List.flatMap_cons, List.flatMap_cons, Nat.zero_mul, Nat.zero_add, List.set_append_left _ _ (by rw [e.len]; exact ho), he]
  | x :: xs, q + 1, el, h, he, ho => by
    simp at h
    rw [List.set_cons_succ, List.flatMap_cons, List.flatMap_cons, List.set_append_right _ _ (by rw [e.len, Nat.add_mul]; omega), e.len]
    have e1 : (q + 1) * e.sz + off - e.sz = q * e.sz + off := by rw [Nat.add_mul]; omega
    rw [e1, flat_set e el' off v xs q el h he ho]

theorem take_set {l : List Value} {n i : Nat} {v : Value} (hi : i < n) (hn : n ≤ l.length) : (l.take i ++ [v] ++ l.drop (i + 1)).take n = (l.take n).set i v := by
  apply List.ext_getElem?
  intro j
  simp only [List.getElem?_take, List.getElem?_append, List.getElem?_drop, List.length_append, List.length_take, List.length_cons, List.length_nil, List.getElem?_set, List.getElem?_cons]
  by_cases hj : j < n
  · by_cases h1 : j < i
    · simp [hj, h1, show j < min i l.length by omega, show j < min i l.length + 1 by omega, show i ≠ j by omega]
    · by_cases h2 : j = i
      · subst h2; simp [hj, show j < min n l.length by omega, show min j l.length = j by omega]
      · simp [hj, show min i l.length = i by omega, show ¬ j < i + 1 by omega, show i ≠ j by omega, show i + 1 + (j - (i + 1)) = j by omega]
  · simp [hj]; intro h; omega

/-- a cell of an element of an own row is written -/
theorem G1_storeEl {α : Type} {e : Enc α} {B T : Nat} {xs : List α} {q off : Nat} {el : α} (el' : α) (hsz : SizeT P t 1) (hx : E.look x = some (.pointer (some (adr p m)))) (hy : E.look y = some v) (hown : Own w B T e p c xs) (hq : xs[q]? = some el)
    (hm : m = q * e.sz + off) (hel : e.enc el' = (e.enc el).set off v) (hoff : off < e.sz) (hc : v.cells = #[v]) (h1 : v.oneCell' = true) (hB : B ≤ w.heap.size)
    (he : effects P dr.1 ⟨d, .store t x y, ty, pos, af, g⟩ = true) (hw : writes dr.1 ⟨d, .store t x y, ty, pos, af, g⟩ = true) (hd : dstOk n d = true)
    (h : ∀ w', App w w' B T e p p c (xs.set q el') → w'.heap.size = w.heap.size → G P n ops dr l (E.put d undef) w' K) : G1 P n ops dr ⟨d, .store t x y, ty, pos, af, g⟩ l E w K := by
  have hlt := get_lt hq
  obtain ⟨i0, hi0, hs0⟩ := hsz
  rcases hown.2 with ⟨_, hn⟩ | ⟨gb, cap, cur, hv, hbg, hg, hnc, hcm, hcs, htake⟩
  · omega
  · injection hv with e1 e2 e3
    subst e1 e3
    have hmlt : m < xs.length * e.sz := by
      subst hm
      have : q * e.sz + e.sz ≤ xs.length * e.sz := by
        have := Nat.mul_le_mul_right e.sz (show q + 1 ≤ xs.length from hlt)
        rw [Nat.add_mul] at this; omega
      omega
    have hmc : xs.length * e.sz ≤ cur.size := by rw [hcs]; exact Nat.mul_le_mul_right _ hnc
    have hst := run_storeCells_at P gb m T [v] 0 cur w hg (by simp; omega) (by simp [h1])
    simp only [Nat.add_zero] at hst
    refine G1_skip (w.setRow gb (cur.toList.take m ++ [v] ++ cur.toList.drop (m + 1)).toArray) he hd (fun a ha => ?_) (.inl hw) (h _ ?_ (by simp))
    · simp only [execOp, Instr.storeAt, ha.eval hx, ha.eval hy, Instr.sureAddr, storeVar, sizeOf, typeInfo, Sem.run_bind, Sem.run_pure, run_program, Result.andThen_ok, hi0, hs0, hc]
      simp only [List.size_toArray, List.length_cons, List.length_nil, Nat.zero_add, ne_eq, not_true_eq_false, if_false]
      have : (storeCells (adr (some ⟨gb, 0, none⟩) m) [v]).run P w = .ok () (w.setRow gb (cur.toList.take m ++ [v] ++ cur.toList.drop (m + 1)).toArray) := by
        show (storeCells ⟨gb, 0 + m, none⟩ [v]).run P w = _
        rw [Nat.zero_add]; simpa using hst
      simp [this]
    · refine ⟨?_, setRow_grown w gb _, by unfold NewP; exact .inl rfl, by simpa using hB⟩
      unfold Own
      rw [List.length_set]
      refine ⟨by rw [flat_len, List.length_set], .inr ⟨gb, c, _, rfl, hbg, setRow_heap w gb cur _ T _ hg, hnc, hcm, ?_, ?_⟩⟩
      · simp only [List.size_toArray, List.length_append, List.length_take, List.length_drop, Array.length_toList, List.length_cons, List.length_nil]
        rw [← hcs]; omega
      · rw [← flat_set e el' off v xs q el hq hel hoff, ← hm, ← htake]
        exact take_set hmlt (by simpa using hmc)

end
end Go.V

/- More rules: parts of elements, slices made anew. -/
namespace Go.V
theorem fold_set : ∀ (l : List Value) (off k : Nat) (cs : Array Value), off + k + l.length ≤ cs.size →
    ((l.zipIdx k).foldl (fun cs (x : Value × Nat) => cs.setIfInBounds (off + x.2) x.1) cs).toList = cs.toList.take (off + k) ++ l ++ cs.toList.drop (off + k + l.length)
  | [], off, k, cs, _ => by simp
  | y :: l, off, k, cs, hk => by
    simp only [List.length_cons] at hk
    rw [List.zipIdx_cons, List.foldl_cons, fold_set l off (k + 1) _ (by simp; omega)]
    apply List.ext_getElem?
    intro j
    simp only [Array.toList_setIfInBounds]
    simp only [List.getElem?_append, List.getElem?_take, List.getElem?_drop, List.length_take, List.length_append, List.length_cons, List.getElem?_set, List.length_set, Array.length_toList, List.getElem?_cons]
    by_cases hj : j < off + k
    · simp [hj, show j < min (off + k) cs.size by omega, show j < min (off + (k + 1)) cs.size + l.length by omega, show j < min (off + (k + 1)) cs.size by omega, show j < off + (k + 1) by omega, show off + k ≠ j by omega, show j < min (off + k) cs.size + (l.length + 1) by omega]
    · by_cases hj2 : j = off + k
      · subst hj2
        simp [show off + k < min (off + (k + 1)) cs.size by omega, show off + k < min (off + (k + 1)) cs.size + l.length by omega, show off + k < cs.size by omega, show ¬ off + k < min (off + k) cs.size by omega, show off + k < min (off + k) cs.size + (l.length + 1) by omega, show off + k - min (off + k) cs.size = 0 by omega]
      · have e1 : min (off + (k + 1)) cs.size = off + k + 1 := by omega
        have e2 : min (off + k) cs.size = off + k := by omega
        rw [e1, e2]
        have e3 : off + k + (l.length + 1) = off + k + 1 + l.length := by omega
        have e5 : off + (k + 1) = off + k + 1 := by omega
        simp only [show ¬ j < off + k + 1 by omega, show ¬ j < off + k by omega, if_false, e3, e5]
        by_cases hj3 : j < off + k + 1 + l.length
        · simp [hj3, show j - (off + k) ≠ 0 by omega, show j - (off + k) - 1 = j - (off + k + 1) by omega]
        · have e4 : off + k + 1 + l.length + (j - (off + k + 1 + l.length)) = j := by omega
          simp [hj3, e4, show off + k ≠ j by omega]

theorem fill_all {α : Type} (e : Enc α) : ∀ (ps : List (Nat × Value)) (els : List α) (k : Nat) (cells : Array Value), ps.map (·.1) = List.range' k ps.length → ps.map (fun x => x.2.cells.toList) = els.map e.enc → (k + els.length) * e.sz ≤ cells.size →
    ∃ r, Instr.fill (fun i => some (i * e.sz, e.sz)) cells ps = some r ∧ r.toList = cells.toList.take (k * e.sz) ++ els.flatMap e.enc ++ cells.toList.drop ((k + els.length) * e.sz)
  | [], els, k, cells, _, h, _ => by
    obtain rfl : els = [] := by cases els <;> simp_all
    exact ⟨cells, rfl, by simp⟩
  | (i, v) :: ps, [], k, cells, _, h, _ => by simp at h
  | (i, v) :: ps, el :: els, k, cells, h1, h, h2 => by
    simp only [List.map_cons, List.length_cons, List.range'_succ, List.cons.injEq] at h1 h
    obtain ⟨rfl, h1⟩ := h1
    obtain ⟨hv, h⟩ := h
    have hvs : v.cells.size = e.sz := by rw [← e.len el, ← hv]; simp
    simp only [List.length_cons] at h2
    have hm : (i + (els.length + 1)) * e.sz = i * e.sz + e.sz + els.length * e.sz := by rw [Nat.add_mul, Nat.add_mul, Nat.one_mul]; omega
    have hle : i * e.sz + e.sz ≤ cells.size := by rw [hm] at h2; omega
    have hfold := fold_set v.cells.toList (i * e.sz) 0 cells (by simp only [Array.length_toList, hvs]; omega)
    rw [hv, e.len, Nat.add_zero] at hfold
    have hz : v.cells.zipIdx.foldl (fun cs (x : Value × Nat) => cs.setIfInBounds (i * e.sz + x.2) x.1) cells = (v.cells.toList.zipIdx 0).foldl (fun cs (x : Value × Nat) => cs.setIfInBounds (i * e.sz + x.2) x.1) cells := by
      rw [← Array.foldl_toList]; simp
    rw [hv] at hz
    obtain ⟨r, hr, hrl⟩ := fill_all e ps els (i + 1) (v.cells.zipIdx.foldl (fun cs (x : Value × Nat) => cs.setIfInBounds (i * e.sz + x.2) x.1) cells) h1 h (by
      rw [← Array.length_toList, hz, hfold]
      simp only [List.length_append, List.length_take, List.length_drop, e.len, Array.length_toList]
      have : (i + 1 + els.length) * e.sz = (i + (els.length + 1)) * e.sz := by congr 1; omega
      rw [this]; omega)
    refine ⟨r, ?_, ?_⟩
    · simp only [Instr.fill]
      rw [if_neg (by simp only [hvs]; simp; omega)]
      exact hr
    · rw [hrl, hz, hfold]
      have a1 : (i + 1) * e.sz = i * e.sz + e.sz := by rw [Nat.add_mul, Nat.one_mul]
      have a2 : (i + 1 + els.length) * e.sz = i * e.sz + e.sz + els.length * e.sz := by rw [Nat.add_mul, Nat.add_mul, Nat.one_mul]
      rw [a1, a2]
      simp only [List.length_cons]
      rw [hm]
      have el1 := e.len el
      have l1 : (cells.toList.take (i * e.sz) ++ e.enc el).length = i * e.sz + e.sz := by simp [el1]; omega
      rw [List.take_append_of_le_length (by rw [l1]; omega), List.take_of_length_le (by rw [l1]; omega), List.drop_append, List.drop_of_length_le (by rw [l1]; omega), l1, List.nil_append, List.drop_drop]
      simp only [List.flatMap_cons, List.append_assoc]
      congr 4
      omega

section
variable {P : Program} {n : Nat} {ops : Array Oper} {dr : Nat × List Nat} {dq : Nat} {l : List Oper} {E : Env} {w : World} {K : Env → World → Prop}
variable {d : Option Nat} {ty : TypeId} {pos : String} {af : Array Edge} {g : Option (Nat × Bool)} {x y z : Operand} {k k' : IntKind} {i j : Int} {t t' u sz by_ : Nat} {v v' : Value} {p : Option Addr} {c len m : Nat} {b : Bool}

/-- a slice of given elements, made anew -/
theorem G1_buildN {α : Type} (e : Enc α) (els : List α) {parts : Array (Nat × Operand)} {ps : List (Nat × Value)} (hu : SliceT P t u sz by_) (hx : E.parts parts.toList = some ps) (h0 : ps.map (·.1) = List.range' 0 ps.length) (hc : ps.map (fun x => x.2.cells.toList) = els.map e.enc) (hm : m = els.length) (hsz : e.sz = sz) (hpos : 0 < els.length) (hs24 : els.length * sz ≤ 10000)
    (he : effects P dr.1 ⟨d, .buildSlice t m parts, ty, pos, af, g⟩ = true) (hd : dstOk n d = true)
    (h : ∀ p' w', Own w' w.heap.size u e p' els.length els → Ext w w' → w'.heap.size = w.heap.size + 1 → G P n ops dr l (E.put d (.slice p' els.length els.length)) w' K) :
    G1 P n ops dr ⟨d, .buildSlice t m parts, ty, pos, af, g⟩ l E w K := by
  subst hsz hm
  have hp := e.pos
  obtain ⟨h1, i, z, hi, hs1, hb1, hz, hz2⟩ := hu
  have hnz : 0 < els.length * e.sz := Nat.mul_pos hpos hp
  have hcells : ((Array.range (els.length * e.sz)).map (z.cells[· % z.cells.size]!)).size = els.length * e.sz := by simp
  obtain ⟨r, hr, hrl⟩ := fill_all e ps els 0 ((Array.range (els.length * e.sz)).map (z.cells[· % z.cells.size]!)) h0 hc (by rw [hcells]; simp)
  have hr' : r = (els.flatMap e.enc).toArray := by
    apply Array.ext'
    rw [hrl]
    rw [List.drop_of_length_le (by simp)]
    simp
  subst hr'
  refine G1_eff _ (w.alloc (.cells (els.flatMap e.enc).toArray u)) he hd (fun a ha => ?_) (.inr (Ext.alloc Ext.rfl' _).toS) (h (some ⟨w.heap.size, 0, none⟩) _ ?_ (Ext.alloc Ext.rfl' _) (by simp))
  · have hm : (parts.map fun (i, x) => (i, a.eval x)) = ps.toArray := by
      rw [← ha.parts hx]; apply Array.ext'; simp
    simp only [execOp, hm, Instr.buildSlice, Sem.run_bind, run_underlying h1, Result.andThen_ok, sizeOf, typeInfo, run_program, hi, Sem.run_pure, hs1, zeroValue]
    have h24 : ¬ (els.length * e.sz > 2 ^ 24) := by omega
    have h0' : ¬ (els.length * e.sz = 0) := by omega
    simp only [h24, h0', if_false, Sem.run_pure, Result.andThen_ok, Sem.run_bind, run_program, hi, hz]
    rw [hr]
    simp [newRow, newObj, Sem.run]
  · unfold Own
    refine ⟨by rw [flat_len], .inr ⟨w.heap.size, els.length, _, rfl, Nat.le_refl _, heap_alloc_new w _, Nat.le_refl _, ?_, by rw [List.size_toArray, flat_len], ?_⟩⟩
    · have : els.length ≤ els.length * e.sz := Nat.le_mul_of_pos_right _ hp
      simp only [maxLen]; omega
    · rw [← flat_len]; exact List.take_length

/-- make with no element, but room -/
theorem G1_make0 {α : Type} (e : Enc α) (hu : SliceT P t u sz by_) (hx : E.look x = some (.int k 0)) (hy : E.look y = some (.int k' i)) (hsz : e.sz = sz) (h0 : 0 ≤ i) (h1 : (by_ : Int) * i ≤ 281474976710656) (h2 : i ≤ 9223372036854775807)
    (he : effects P dr.1 ⟨d, .makeSlice t x y, ty, pos, af, g⟩ = true) (hd : dstOk n d = true)
    (h : ∀ p' w', Own w' w.heap.size u e p' i.toNat [] → Ext w w' → w'.heap.size = w.heap.size + 1 → G P n ops dr l (E.put d (.slice p' ([] : List α).length i.toNat)) w' K) :
    G1 P n ops dr ⟨d, .makeSlice t x y, ty, pos, af, g⟩ l E w K := by
  subst hsz
  obtain ⟨hu1, inf, z, hi, hs1, hb1, hz, hz2⟩ := hu
  have hr := run_make (P := P) w t u inf z hu1 hi hz k k' 0 i (Int.le_refl _) h0 (by rw [hb1]; exact h1) h2
  refine G1_eff _ _ he hd (fun a ha => by simp only [execOp, ha.eval hx, ha.eval hy, Sem.run_bind, hr]; rfl) (.inr (Ext.alloc Ext.rfl' _).toS) (h (some ⟨w.heap.size, 0, none⟩) _ ?_ (Ext.alloc Ext.rfl' _) (by simp))
  exact World.ownsRow_made w _ _ (Nat.le_refl _) (by simp only [maxLen]; omega) (by rw [size_madeCells, hs1])

/-- make with elements -/
theorem G1_makeN {α : Type} (e : Enc α) (el : α) {zv : Value} (hu : SliceT P t u sz by_) (hx : E.look x = some (.int k i)) (hy : E.look y = some (.int k' i)) (hsz : e.sz = sz) (hzv : ZeroT P u zv) (hel : zv.cells.toList = e.enc el) (h0 : 0 ≤ i) (h1 : (by_ : Int) * i ≤ 281474976710656) (h2 : i ≤ 9223372036854775807)
    (he : effects P dr.1 ⟨d, .makeSlice t x y, ty, pos, af, g⟩ = true) (hd : dstOk n d = true)
    (h : ∀ p' w', Own w' w.heap.size u e p' i.toNat (List.replicate i.toNat el) → Ext w w' → w'.heap.size = w.heap.size + 1 → G P n ops dr l (E.put d (.slice p' (List.replicate i.toNat el).length i.toNat)) w' K) :
    G1 P n ops dr ⟨d, .makeSlice t x y, ty, pos, af, g⟩ l E w K := by
  subst hsz
  obtain ⟨hu1, inf, z, hi, hs1, hb1, hz, hz2⟩ := hu
  have hzz : z = zv := by unfold ZeroT at hzv; rw [hi] at hzv; simp only [Option.bind_some] at hzv; rw [hz] at hzv; exact Option.some.inj hzv
  subst hzz
  have hr := run_make (P := P) w t u inf z hu1 hi hz k k' i i h0 (Int.le_refl _) (by rw [hb1]; exact h1) h2
  suffices hown : Own (w.alloc (.cells (madeCells z.cells (i.toNat * inf.size)) u)) w.heap.size u e (some ⟨w.heap.size, 0, none⟩) i.toNat (List.replicate i.toNat el) by
    have h' := h (some ⟨w.heap.size, 0, none⟩) _ hown (Ext.alloc Ext.rfl' _) (by simp)
    rw [List.length_replicate] at h'
    exact G1_eff _ _ he hd (fun a ha => by simp only [execOp, ha.eval hx, ha.eval hy, Sem.run_bind, hr]; rfl) (.inr (Ext.alloc Ext.rfl' _).toS) h'
  unfold Own
  refine ⟨by rw [flat_len], .inr ⟨w.heap.size, i.toNat, _, by simp, Nat.le_refl _, heap_alloc_new w _, by simp, by simp only [maxLen]; omega, by rw [size_madeCells, hs1], ?_⟩⟩
  simp only [List.length_replicate]
  rw [List.take_of_length_le (by simp [size_madeCells, hs1]), hs1]
  have hpos := e.pos
  apply List.ext_getElem?
  intro j
  have flen : ((List.replicate i.toNat el).flatMap e.enc).length = i.toNat * e.sz := by rw [flat_len]; simp
  by_cases hj : j < i.toNat * e.sz
  · have hjm : j % e.sz < e.sz := Nat.mod_lt _ hpos
    have hjd : j / e.sz < i.toNat := Nat.div_lt_of_lt_mul (by rw [Nat.mul_comm]; exact hj)
    have hge : j % e.sz < (e.enc el).length := by rw [e.len]; exact hjm
    have hfl := flat_get e (List.replicate i.toNat el) (j / e.sz) (j % e.sz) el ((e.enc el)[j % e.sz]) (by rw [List.getElem?_replicate]; simp [hjd]) (List.getElem?_eq_getElem hge)
    have hjj : j / e.sz * e.sz + j % e.sz = j := by rw [Nat.mul_comm]; exact Nat.div_add_mod j e.sz
    rw [hjj] at hfl
    rw [hfl]
    have hzs : z.cells.size = e.sz := hz2
    have hzl : z.cells = (e.enc el).toArray := by rw [← hel]
    simp only [madeCells, Array.toList_map, Array.toList_range, List.getElem?_map, List.getElem?_range hj, Option.map_some, hzs]
    rw [hzl]
    simp [e.len, hjm]
  · rw [List.getElem?_eq_none (by simp [size_madeCells]; omega), List.getElem?_eq_none (by rw [flen]; omega)]

/-- a part of an element -/
theorem G1_loadElSub {α : Type} {e : Enc α} {xs : List α} {q off esz : Nat} {el : α} {vs : List Value} (hu : AggT P t sz) (hx : E.look x = some (.pointer (some (adr p (q * esz + off))))) (hs : Sl w.heap e p c xs) (hq : xs[q]? = some el) (he : e.sz = esz)
    (hv : ((e.enc el).drop off).take sz = vs) (hl : vs.length = sz) (hd : dstOk n d = true)
    (h : G P n ops (dq, []) l (E.put d (.agg vs.toArray)) w K) : G1 P n ops (dq, []) ⟨d, .load t x, ty, pos, af, g⟩ l E w K :=
  G1_loadAgg hu hx hl (fun k v hk => by
    subst he hv
    have hk' : (e.enc el)[off + k]? = some v := by
      have := get_lt hk
      rw [hl] at this
      rw [List.getElem?_take, if_pos this, List.getElem?_drop] at hk
      exact hk
    have := hs.cell q el hq (off + k) v hk'
    rw [Nat.add_assoc]; exact this) hd h

/-- a part of a box -/
theorem G1_loadBSub {b : Nat} {cs vs : List Value} (hu : AggT P t sz) (hx : E.look x = some (.pointer (some (adr (bx b) m)))) (hb : Blk w.heap b t' cs) (hv : (cs.drop m).take sz = vs) (hl : vs.length = sz) (hd : dstOk n d = true)
    (h : G P n ops (dq, []) l (E.put d (.agg vs.toArray)) w K) : G1 P n ops (dq, []) ⟨d, .load t x, ty, pos, af, g⟩ l E w K :=
  G1_loadAgg hu hx hl (fun k v hk => by
    subst hv
    have := get_lt hk
    rw [hl] at this
    rw [List.getElem?_take, if_pos this, List.getElem?_drop] at hk
    exact hb.cell hk) hd h

end
end Go.V

/- Arrays in boxes. -/
namespace Go.V
open Go.RowKit
def ArrT (P : Program) (t n u sz : Nat) : Prop := P.underlying t = some (.array n u) ∧ ∃ i, P.info? u = some i ∧ i.size = sz
theorem ArrT.of {P : Program} {t n u sz : Nat} (h1 : P.underlying t = some (.array n u)) (h2 : (P.info? u).map (·.size) = some sz) : ArrT P t n u sz := by
  refine ⟨h1, ?_⟩
  cases hi : P.info? u with
  | none => simp [hi] at h2
  | some i => exact ⟨i, rfl, by simpa [hi] using h2⟩
section
variable {P : Program} {n : Nat} {ops : Array Oper} {dr : Nat × List Nat} {dq : Nat} {l : List Oper} {E : Env} {w : World} {K : Env → World → Prop}
variable {d : Option Nat} {ty : TypeId} {pos : String} {af : Array Edge} {g : Option (Nat × Bool)} {x y z : Operand} {k k' : IntKind} {i j : Int} {t nn u sz m : Nat} {p : Option Addr}
theorem G1_indexArr (hu : ArrT P t nn u sz) (hx : E.look x = some (.pointer (some (adr p m)))) (hy : E.look y = some (.int k i)) (h0 : 0 ≤ i) (h1 : i < nn) (hd : dstOk n d = true)
    (h : G P n ops dr l (E.put d (.pointer (some (adr p (m + i.toNat * sz))))) w K) : G1 P n ops dr ⟨d, .indexAddr t x y, ty, pos, af, g⟩ l E w K :=
  G1_quiet _ hd (fun a ha w' _ => by
    obtain ⟨hu, inf, hi, hs⟩ := hu
    simp [execOp, Instr.indexAt, ha.eval hx, ha.eval hy, asIntOf, run_underlying (P := P) hu, h0, h1, Instr.sureAddr, sizeOf, typeInfo, hi, hs, adr_add]) h
end
end Go.V

/- The program's types, as facts for the walk. -/
namespace Go.Proofs.YtipbakiecocioaaGreatDoor
open Go.V
theorem mixed : Tryz.prog.follows .mixedOrders = true := by kernel_rfl
theorem T.i2 : IntT Tryz.prog 2 .i64 := Tryz.underlying2
theorem T.p2 : PlainT Tryz.prog 2 := PlainT.of Tryz.underlying2 rfl
theorem T.z2 : SizeT Tryz.prog 2 1 := SizeT.of (by kernel_rfl)
theorem T.zero2 : ZeroT Tryz.prog 2 (.int .i64 0) := ZeroT.of (by kernel_rfl)
theorem T.i3 : IntT Tryz.prog 3 .i64 := Tryz.underlying3
theorem T.p3 : PlainT Tryz.prog 3 := PlainT.of Tryz.underlying3 rfl
theorem T.z3 : SizeT Tryz.prog 3 1 := SizeT.of (by kernel_rfl)
theorem T.zero3 : ZeroT Tryz.prog 3 (.int .i64 0) := ZeroT.of (by kernel_rfl)
theorem T.p4 : PlainT Tryz.prog 4 := PlainT.of Tryz.underlying4 rfl
theorem T.z4 : SizeT Tryz.prog 4 1 := SizeT.of (by kernel_rfl)
theorem T.zero4 : ZeroT Tryz.prog 4 (.bool false) := ZeroT.of (by kernel_rfl)
theorem T.i5 : IntT Tryz.prog 5 .u8 := Tryz.underlying5
theorem T.p5 : PlainT Tryz.prog 5 := PlainT.of Tryz.underlying5 rfl
theorem T.z5 : SizeT Tryz.prog 5 1 := SizeT.of (by kernel_rfl)
theorem T.zero5 : ZeroT Tryz.prog 5 (.int .u8 0) := ZeroT.of (by kernel_rfl)
theorem T.i6 : IntT Tryz.prog 6 .u8 := Tryz.underlying6
theorem T.p6 : PlainT Tryz.prog 6 := PlainT.of Tryz.underlying6 rfl
theorem T.z6 : SizeT Tryz.prog 6 1 := SizeT.of (by kernel_rfl)
theorem T.zero6 : ZeroT Tryz.prog 6 (.int .u8 0) := ZeroT.of (by kernel_rfl)
theorem T.a7 : AggT Tryz.prog 7 4 := AggT.of Tryz.underlying7 rfl (by kernel_rfl)
theorem T.z7 : SizeT Tryz.prog 7 4 := SizeT.of (by kernel_rfl)
theorem T.f7_0 : FieldT Tryz.prog 7 0 0 := FieldT.of (by kernel_rfl)
theorem T.f7_1 : FieldT Tryz.prog 7 1 1 := FieldT.of (by kernel_rfl)
theorem T.f7_2 : FieldT Tryz.prog 7 2 2 := FieldT.of (by kernel_rfl)
theorem T.f7_3 : FieldT Tryz.prog 7 3 3 := FieldT.of (by kernel_rfl)
theorem T.zero7 : ZeroT Tryz.prog 7 (.agg #[.int .i64 0, .int .i64 0, .bool false, .int .u8 0]) := ZeroT.of (by kernel_rfl)
theorem T.a8 : AggT Tryz.prog 8 4 := AggT.of Tryz.underlying8 rfl (by kernel_rfl)
theorem T.z8 : SizeT Tryz.prog 8 4 := SizeT.of (by kernel_rfl)
theorem T.f8_0 : FieldT Tryz.prog 8 0 0 := FieldT.of (by kernel_rfl)
theorem T.f8_1 : FieldT Tryz.prog 8 1 1 := FieldT.of (by kernel_rfl)
theorem T.f8_2 : FieldT Tryz.prog 8 2 2 := FieldT.of (by kernel_rfl)
theorem T.f8_3 : FieldT Tryz.prog 8 3 3 := FieldT.of (by kernel_rfl)
theorem T.zero8 : ZeroT Tryz.prog 8 (.agg #[.int .i64 0, .int .i64 0, .bool false, .int .u8 0]) := ZeroT.of (by kernel_rfl)
theorem T.str9 : StrT Tryz.prog 9 := Tryz.underlying9
theorem T.p9 : PlainT Tryz.prog 9 := PlainT.of Tryz.underlying9 rfl
theorem T.z9 : SizeT Tryz.prog 9 1 := SizeT.of (by kernel_rfl)
theorem T.zero9 : ZeroT Tryz.prog 9 (.string ⟨#[]⟩) := ZeroT.of (by kernel_rfl)
theorem T.str10 : StrT Tryz.prog 10 := Tryz.underlying10
theorem T.p10 : PlainT Tryz.prog 10 := PlainT.of Tryz.underlying10 rfl
theorem T.z10 : SizeT Tryz.prog 10 1 := SizeT.of (by kernel_rfl)
theorem T.zero10 : ZeroT Tryz.prog 10 (.string ⟨#[]⟩) := ZeroT.of (by kernel_rfl)
theorem T.str11 : StrT Tryz.prog 11 := Tryz.underlying11
theorem T.p11 : PlainT Tryz.prog 11 := PlainT.of Tryz.underlying11 rfl
theorem T.z11 : SizeT Tryz.prog 11 1 := SizeT.of (by kernel_rfl)
theorem T.zero11 : ZeroT Tryz.prog 11 (.string ⟨#[]⟩) := ZeroT.of (by kernel_rfl)
theorem T.i12 : IntT Tryz.prog 12 .u64 := Tryz.underlying12
theorem T.p12 : PlainT Tryz.prog 12 := PlainT.of Tryz.underlying12 rfl
theorem T.z12 : SizeT Tryz.prog 12 1 := SizeT.of (by kernel_rfl)
theorem T.zero12 : ZeroT Tryz.prog 12 (.int .u64 0) := ZeroT.of (by kernel_rfl)
theorem T.a13 : AggT Tryz.prog 13 2 := AggT.of Tryz.underlying13 rfl (by kernel_rfl)
theorem T.z13 : SizeT Tryz.prog 13 2 := SizeT.of (by kernel_rfl)
theorem T.f13_0 : FieldT Tryz.prog 13 0 0 := FieldT.of (by kernel_rfl)
theorem T.f13_1 : FieldT Tryz.prog 13 1 1 := FieldT.of (by kernel_rfl)
theorem T.zero13 : ZeroT Tryz.prog 13 (.agg #[.string ⟨#[]⟩, .int .u64 0]) := ZeroT.of (by kernel_rfl)
theorem T.a14 : AggT Tryz.prog 14 2 := AggT.of Tryz.underlying14 rfl (by kernel_rfl)
theorem T.z14 : SizeT Tryz.prog 14 2 := SizeT.of (by kernel_rfl)
theorem T.f14_0 : FieldT Tryz.prog 14 0 0 := FieldT.of (by kernel_rfl)
theorem T.f14_1 : FieldT Tryz.prog 14 1 1 := FieldT.of (by kernel_rfl)
theorem T.zero14 : ZeroT Tryz.prog 14 (.agg #[.string ⟨#[]⟩, .int .u64 0]) := ZeroT.of (by kernel_rfl)
theorem T.p15 : PlainT Tryz.prog 15 := PlainT.of Tryz.underlying15 rfl
theorem T.z15 : SizeT Tryz.prog 15 1 := SizeT.of (by kernel_rfl)
theorem T.zero15 : ZeroT Tryz.prog 15 (.pointer none) := ZeroT.of (by kernel_rfl)
theorem T.p16 : PlainT Tryz.prog 16 := PlainT.of Tryz.underlying16 rfl
theorem T.z16 : SizeT Tryz.prog 16 1 := SizeT.of (by kernel_rfl)
theorem T.zero16 : ZeroT Tryz.prog 16 (.pointer none) := ZeroT.of (by kernel_rfl)
theorem T.p17 : PlainT Tryz.prog 17 := PlainT.of Tryz.underlying17 rfl
theorem T.z17 : SizeT Tryz.prog 17 1 := SizeT.of (by kernel_rfl)
theorem T.zero17 : ZeroT Tryz.prog 17 (.pointer none) := ZeroT.of (by kernel_rfl)
theorem T.a18 : AggT Tryz.prog 18 1 := AggT.of Tryz.underlying18 rfl (by kernel_rfl)
theorem T.z18 : SizeT Tryz.prog 18 1 := SizeT.of (by kernel_rfl)
theorem T.f18_0 : FieldT Tryz.prog 18 0 0 := FieldT.of (by kernel_rfl)
theorem T.zero18 : ZeroT Tryz.prog 18 (.agg #[.pointer none]) := ZeroT.of (by kernel_rfl)
theorem T.a19 : AggT Tryz.prog 19 1 := AggT.of Tryz.underlying19 rfl (by kernel_rfl)
theorem T.z19 : SizeT Tryz.prog 19 1 := SizeT.of (by kernel_rfl)
theorem T.f19_0 : FieldT Tryz.prog 19 0 0 := FieldT.of (by kernel_rfl)
theorem T.zero19 : ZeroT Tryz.prog 19 (.agg #[.pointer none]) := ZeroT.of (by kernel_rfl)
theorem T.i21 : IntT Tryz.prog 21 .i32 := Tryz.underlying21
theorem T.p21 : PlainT Tryz.prog 21 := PlainT.of Tryz.underlying21 rfl
theorem T.z21 : SizeT Tryz.prog 21 1 := SizeT.of (by kernel_rfl)
theorem T.zero21 : ZeroT Tryz.prog 21 (.int .i32 0) := ZeroT.of (by kernel_rfl)
theorem T.s22 : SliceT Tryz.prog 22 5 1 1 := SliceT.of Tryz.underlying22 (by kernel_rfl)
theorem T.p22 : PlainT Tryz.prog 22 := PlainT.of Tryz.underlying22 rfl
theorem T.z22 : SizeT Tryz.prog 22 1 := SizeT.of (by kernel_rfl)
theorem T.zero22 : ZeroT Tryz.prog 22 (.slice none 0 0) := ZeroT.of (by kernel_rfl)
theorem T.a23 : AggT Tryz.prog 23 4 := AggT.of Tryz.underlying23 rfl (by kernel_rfl)
theorem T.z23 : SizeT Tryz.prog 23 4 := SizeT.of (by kernel_rfl)
theorem T.f23_0 : FieldT Tryz.prog 23 0 0 := FieldT.of (by kernel_rfl)
theorem T.f23_1 : FieldT Tryz.prog 23 1 1 := FieldT.of (by kernel_rfl)
theorem T.f23_2 : FieldT Tryz.prog 23 2 2 := FieldT.of (by kernel_rfl)
theorem T.f23_3 : FieldT Tryz.prog 23 3 3 := FieldT.of (by kernel_rfl)
theorem T.zero23 : ZeroT Tryz.prog 23 (.agg #[.int .i64 0, .slice none 0 0, .slice none 0 0, .bool false]) := ZeroT.of (by kernel_rfl)
theorem T.a24 : AggT Tryz.prog 24 4 := AggT.of Tryz.underlying24 rfl (by kernel_rfl)
theorem T.z24 : SizeT Tryz.prog 24 4 := SizeT.of (by kernel_rfl)
theorem T.f24_0 : FieldT Tryz.prog 24 0 0 := FieldT.of (by kernel_rfl)
theorem T.f24_1 : FieldT Tryz.prog 24 1 1 := FieldT.of (by kernel_rfl)
theorem T.f24_2 : FieldT Tryz.prog 24 2 2 := FieldT.of (by kernel_rfl)
theorem T.f24_3 : FieldT Tryz.prog 24 3 3 := FieldT.of (by kernel_rfl)
theorem T.zero24 : ZeroT Tryz.prog 24 (.agg #[.int .i64 0, .slice none 0 0, .slice none 0 0, .bool false]) := ZeroT.of (by kernel_rfl)
theorem T.s26 : SliceT Tryz.prog 26 31 4 56 := SliceT.of Tryz.underlying26 (by kernel_rfl)
theorem T.p26 : PlainT Tryz.prog 26 := PlainT.of Tryz.underlying26 rfl
theorem T.z26 : SizeT Tryz.prog 26 1 := SizeT.of (by kernel_rfl)
theorem T.zero26 : ZeroT Tryz.prog 26 (.slice none 0 0) := ZeroT.of (by kernel_rfl)
theorem T.a30 : AggT Tryz.prog 30 4 := AggT.of Tryz.underlying30 rfl (by kernel_rfl)
theorem T.z30 : SizeT Tryz.prog 30 4 := SizeT.of (by kernel_rfl)
theorem T.f30_0 : FieldT Tryz.prog 30 0 0 := FieldT.of (by kernel_rfl)
theorem T.f30_1 : FieldT Tryz.prog 30 1 1 := FieldT.of (by kernel_rfl)
theorem T.f30_2 : FieldT Tryz.prog 30 2 2 := FieldT.of (by kernel_rfl)
theorem T.f30_3 : FieldT Tryz.prog 30 3 3 := FieldT.of (by kernel_rfl)
theorem T.zero30 : ZeroT Tryz.prog 30 (.agg #[.int .i64 0, .string ⟨#[]⟩, .int .i64 0, .slice none 0 0]) := ZeroT.of (by kernel_rfl)
theorem T.a31 : AggT Tryz.prog 31 4 := AggT.of Tryz.underlying31 rfl (by kernel_rfl)
theorem T.z31 : SizeT Tryz.prog 31 4 := SizeT.of (by kernel_rfl)
theorem T.f31_0 : FieldT Tryz.prog 31 0 0 := FieldT.of (by kernel_rfl)
theorem T.f31_1 : FieldT Tryz.prog 31 1 1 := FieldT.of (by kernel_rfl)
theorem T.f31_2 : FieldT Tryz.prog 31 2 2 := FieldT.of (by kernel_rfl)
theorem T.f31_3 : FieldT Tryz.prog 31 3 3 := FieldT.of (by kernel_rfl)
theorem T.zero31 : ZeroT Tryz.prog 31 (.agg #[.int .i64 0, .string ⟨#[]⟩, .int .i64 0, .slice none 0 0]) := ZeroT.of (by kernel_rfl)
theorem T.s32 : SliceT Tryz.prog 32 53 6 88 := SliceT.of Tryz.underlying32 (by kernel_rfl)
theorem T.p32 : PlainT Tryz.prog 32 := PlainT.of Tryz.underlying32 rfl
theorem T.z32 : SizeT Tryz.prog 32 1 := SizeT.of (by kernel_rfl)
theorem T.zero32 : ZeroT Tryz.prog 32 (.slice none 0 0) := ZeroT.of (by kernel_rfl)
theorem T.s37 : SliceT Tryz.prog 37 9 1 16 := SliceT.of Tryz.underlying37 (by kernel_rfl)
theorem T.p37 : PlainT Tryz.prog 37 := PlainT.of Tryz.underlying37 rfl
theorem T.z37 : SizeT Tryz.prog 37 1 := SizeT.of (by kernel_rfl)
theorem T.zero37 : ZeroT Tryz.prog 37 (.slice none 0 0) := ZeroT.of (by kernel_rfl)
theorem T.s38 : SliceT Tryz.prog 38 43 4 48 := SliceT.of Tryz.underlying38 (by kernel_rfl)
theorem T.p38 : PlainT Tryz.prog 38 := PlainT.of Tryz.underlying38 rfl
theorem T.z38 : SizeT Tryz.prog 38 1 := SizeT.of (by kernel_rfl)
theorem T.zero38 : ZeroT Tryz.prog 38 (.slice none 0 0) := ZeroT.of (by kernel_rfl)
theorem T.a39 : AggT Tryz.prog 39 4 := AggT.of Tryz.underlying39 rfl (by kernel_rfl)
theorem T.z39 : SizeT Tryz.prog 39 4 := SizeT.of (by kernel_rfl)
theorem T.f39_0 : FieldT Tryz.prog 39 0 0 := FieldT.of (by kernel_rfl)
theorem T.f39_1 : FieldT Tryz.prog 39 1 1 := FieldT.of (by kernel_rfl)
theorem T.f39_2 : FieldT Tryz.prog 39 2 2 := FieldT.of (by kernel_rfl)
theorem T.f39_3 : FieldT Tryz.prog 39 3 3 := FieldT.of (by kernel_rfl)
theorem T.zero39 : ZeroT Tryz.prog 39 (.agg #[.bool false, .string ⟨#[]⟩, .string ⟨#[]⟩, .bool false]) := ZeroT.of (by kernel_rfl)
theorem T.a40 : AggT Tryz.prog 40 4 := AggT.of Tryz.underlying40 rfl (by kernel_rfl)
theorem T.z40 : SizeT Tryz.prog 40 4 := SizeT.of (by kernel_rfl)
theorem T.f40_0 : FieldT Tryz.prog 40 0 0 := FieldT.of (by kernel_rfl)
theorem T.f40_1 : FieldT Tryz.prog 40 1 1 := FieldT.of (by kernel_rfl)
theorem T.f40_2 : FieldT Tryz.prog 40 2 2 := FieldT.of (by kernel_rfl)
theorem T.f40_3 : FieldT Tryz.prog 40 3 3 := FieldT.of (by kernel_rfl)
theorem T.zero40 : ZeroT Tryz.prog 40 (.agg #[.bool false, .string ⟨#[]⟩, .string ⟨#[]⟩, .bool false]) := ZeroT.of (by kernel_rfl)
theorem T.s41 : SliceT Tryz.prog 41 40 4 48 := SliceT.of Tryz.underlying41 (by kernel_rfl)
theorem T.p41 : PlainT Tryz.prog 41 := PlainT.of Tryz.underlying41 rfl
theorem T.z41 : SizeT Tryz.prog 41 1 := SizeT.of (by kernel_rfl)
theorem T.zero41 : ZeroT Tryz.prog 41 (.slice none 0 0) := ZeroT.of (by kernel_rfl)
theorem T.a42 : AggT Tryz.prog 42 4 := AggT.of Tryz.underlying42 rfl (by kernel_rfl)
theorem T.z42 : SizeT Tryz.prog 42 4 := SizeT.of (by kernel_rfl)
theorem T.f42_0 : FieldT Tryz.prog 42 0 0 := FieldT.of (by kernel_rfl)
theorem T.f42_1 : FieldT Tryz.prog 42 1 1 := FieldT.of (by kernel_rfl)
theorem T.f42_2 : FieldT Tryz.prog 42 2 2 := FieldT.of (by kernel_rfl)
theorem T.f42_3 : FieldT Tryz.prog 42 3 3 := FieldT.of (by kernel_rfl)
theorem T.zero42 : ZeroT Tryz.prog 42 (.agg #[.int .i64 0, .int .i64 0, .int .i64 0, .slice none 0 0]) := ZeroT.of (by kernel_rfl)
theorem T.a43 : AggT Tryz.prog 43 4 := AggT.of Tryz.underlying43 rfl (by kernel_rfl)
theorem T.z43 : SizeT Tryz.prog 43 4 := SizeT.of (by kernel_rfl)
theorem T.f43_0 : FieldT Tryz.prog 43 0 0 := FieldT.of (by kernel_rfl)
theorem T.f43_1 : FieldT Tryz.prog 43 1 1 := FieldT.of (by kernel_rfl)
theorem T.f43_2 : FieldT Tryz.prog 43 2 2 := FieldT.of (by kernel_rfl)
theorem T.f43_3 : FieldT Tryz.prog 43 3 3 := FieldT.of (by kernel_rfl)
theorem T.zero43 : ZeroT Tryz.prog 43 (.agg #[.int .i64 0, .int .i64 0, .int .i64 0, .slice none 0 0]) := ZeroT.of (by kernel_rfl)
theorem T.i44 : IntT Tryz.prog 44 .i64 := Tryz.underlying44
theorem T.p44 : PlainT Tryz.prog 44 := PlainT.of Tryz.underlying44 rfl
theorem T.z44 : SizeT Tryz.prog 44 1 := SizeT.of (by kernel_rfl)
theorem T.zero44 : ZeroT Tryz.prog 44 (.int .i64 0) := ZeroT.of (by kernel_rfl)
theorem T.s47 : SliceT Tryz.prog 47 50 2 32 := SliceT.of Tryz.underlying47 (by kernel_rfl)
theorem T.p47 : PlainT Tryz.prog 47 := PlainT.of Tryz.underlying47 rfl
theorem T.z47 : SizeT Tryz.prog 47 1 := SizeT.of (by kernel_rfl)
theorem T.zero47 : ZeroT Tryz.prog 47 (.slice none 0 0) := ZeroT.of (by kernel_rfl)
theorem T.a49 : AggT Tryz.prog 49 2 := AggT.of Tryz.underlying49 rfl (by kernel_rfl)
theorem T.z49 : SizeT Tryz.prog 49 2 := SizeT.of (by kernel_rfl)
theorem T.f49_0 : FieldT Tryz.prog 49 0 0 := FieldT.of (by kernel_rfl)
theorem T.f49_1 : FieldT Tryz.prog 49 1 1 := FieldT.of (by kernel_rfl)
theorem T.zero49 : ZeroT Tryz.prog 49 (.agg #[.string ⟨#[]⟩, .string ⟨#[]⟩]) := ZeroT.of (by kernel_rfl)
theorem T.a50 : AggT Tryz.prog 50 2 := AggT.of Tryz.underlying50 rfl (by kernel_rfl)
theorem T.z50 : SizeT Tryz.prog 50 2 := SizeT.of (by kernel_rfl)
theorem T.f50_0 : FieldT Tryz.prog 50 0 0 := FieldT.of (by kernel_rfl)
theorem T.f50_1 : FieldT Tryz.prog 50 1 1 := FieldT.of (by kernel_rfl)
theorem T.zero50 : ZeroT Tryz.prog 50 (.agg #[.string ⟨#[]⟩, .string ⟨#[]⟩]) := ZeroT.of (by kernel_rfl)
theorem T.a52 : AggT Tryz.prog 52 6 := AggT.of Tryz.underlying52 rfl (by kernel_rfl)
theorem T.z52 : SizeT Tryz.prog 52 6 := SizeT.of (by kernel_rfl)
theorem T.f52_0 : FieldT Tryz.prog 52 0 0 := FieldT.of (by kernel_rfl)
theorem T.f52_1 : FieldT Tryz.prog 52 1 1 := FieldT.of (by kernel_rfl)
theorem T.f52_2 : FieldT Tryz.prog 52 2 5 := FieldT.of (by kernel_rfl)
theorem T.zero52 : ZeroT Tryz.prog 52 (.agg #[.slice none 0 0, .int .i64 0, .string ⟨#[]⟩, .int .i64 0, .slice none 0 0, .bool false]) := ZeroT.of (by kernel_rfl)
theorem T.a53 : AggT Tryz.prog 53 6 := AggT.of Tryz.underlying53 rfl (by kernel_rfl)
theorem T.z53 : SizeT Tryz.prog 53 6 := SizeT.of (by kernel_rfl)
theorem T.f53_0 : FieldT Tryz.prog 53 0 0 := FieldT.of (by kernel_rfl)
theorem T.f53_1 : FieldT Tryz.prog 53 1 1 := FieldT.of (by kernel_rfl)
theorem T.f53_2 : FieldT Tryz.prog 53 2 5 := FieldT.of (by kernel_rfl)
theorem T.zero53 : ZeroT Tryz.prog 53 (.agg #[.slice none 0 0, .int .i64 0, .string ⟨#[]⟩, .int .i64 0, .slice none 0 0, .bool false]) := ZeroT.of (by kernel_rfl)
theorem T.s58 : SliceT Tryz.prog 58 37 1 24 := SliceT.of Tryz.underlying58 (by kernel_rfl)
theorem T.p58 : PlainT Tryz.prog 58 := PlainT.of Tryz.underlying58 rfl
theorem T.z58 : SizeT Tryz.prog 58 1 := SizeT.of (by kernel_rfl)
theorem T.zero58 : ZeroT Tryz.prog 58 (.slice none 0 0) := ZeroT.of (by kernel_rfl)
theorem T.p60 : PlainT Tryz.prog 60 := PlainT.of Tryz.underlying60 rfl
theorem T.z60 : SizeT Tryz.prog 60 1 := SizeT.of (by kernel_rfl)
theorem T.zero60 : ZeroT Tryz.prog 60 (.pointer none) := ZeroT.of (by kernel_rfl)
theorem T.s73 : SliceT Tryz.prog 73 3 1 8 := SliceT.of Tryz.underlying73 (by kernel_rfl)
theorem T.p73 : PlainT Tryz.prog 73 := PlainT.of Tryz.underlying73 rfl
theorem T.z73 : SizeT Tryz.prog 73 1 := SizeT.of (by kernel_rfl)
theorem T.zero73 : ZeroT Tryz.prog 73 (.slice none 0 0) := ZeroT.of (by kernel_rfl)
theorem T.p76 : PlainT Tryz.prog 76 := PlainT.of Tryz.underlying76 rfl
theorem T.z76 : SizeT Tryz.prog 76 1 := SizeT.of (by kernel_rfl)
theorem T.zero76 : ZeroT Tryz.prog 76 (.map none) := ZeroT.of (by kernel_rfl)
theorem T.p77 : PlainT Tryz.prog 77 := PlainT.of Tryz.underlying77 rfl
theorem T.z77 : SizeT Tryz.prog 77 1 := SizeT.of (by kernel_rfl)
theorem T.zero77 : ZeroT Tryz.prog 77 (.map none) := ZeroT.of (by kernel_rfl)
theorem T.p78 : PlainT Tryz.prog 78 := PlainT.of Tryz.underlying78 rfl
theorem T.z78 : SizeT Tryz.prog 78 1 := SizeT.of (by kernel_rfl)
theorem T.zero78 : ZeroT Tryz.prog 78 (.map none) := ZeroT.of (by kernel_rfl)
theorem T.a79 : AggT Tryz.prog 79 3 := AggT.of Tryz.underlying79 rfl (by kernel_rfl)
theorem T.z79 : SizeT Tryz.prog 79 3 := SizeT.of (by kernel_rfl)
theorem T.f79_0 : FieldT Tryz.prog 79 0 0 := FieldT.of (by kernel_rfl)
theorem T.f79_1 : FieldT Tryz.prog 79 1 1 := FieldT.of (by kernel_rfl)
theorem T.f79_2 : FieldT Tryz.prog 79 2 2 := FieldT.of (by kernel_rfl)
theorem T.zero79 : ZeroT Tryz.prog 79 (.agg #[.map none, .map none, .map none]) := ZeroT.of (by kernel_rfl)
theorem T.a80 : AggT Tryz.prog 80 3 := AggT.of Tryz.underlying80 rfl (by kernel_rfl)
theorem T.z80 : SizeT Tryz.prog 80 3 := SizeT.of (by kernel_rfl)
theorem T.f80_0 : FieldT Tryz.prog 80 0 0 := FieldT.of (by kernel_rfl)
theorem T.f80_1 : FieldT Tryz.prog 80 1 1 := FieldT.of (by kernel_rfl)
theorem T.f80_2 : FieldT Tryz.prog 80 2 2 := FieldT.of (by kernel_rfl)
theorem T.zero80 : ZeroT Tryz.prog 80 (.agg #[.map none, .map none, .map none]) := ZeroT.of (by kernel_rfl)
theorem T.p82 : PlainT Tryz.prog 82 := PlainT.of Tryz.underlying82 rfl
theorem T.z82 : SizeT Tryz.prog 82 1 := SizeT.of (by kernel_rfl)
theorem T.zero82 : ZeroT Tryz.prog 82 (.map none) := ZeroT.of (by kernel_rfl)
theorem T.a84 : AggT Tryz.prog 84 2 := AggT.of Tryz.underlying84 rfl (by kernel_rfl)
theorem T.z84 : SizeT Tryz.prog 84 2 := SizeT.of (by kernel_rfl)
theorem T.f84_0 : FieldT Tryz.prog 84 0 0 := FieldT.of (by kernel_rfl)
theorem T.f84_1 : FieldT Tryz.prog 84 1 1 := FieldT.of (by kernel_rfl)
theorem T.zero84 : ZeroT Tryz.prog 84 (.agg #[.bool false, .string ⟨#[]⟩]) := ZeroT.of (by kernel_rfl)
theorem T.a85 : AggT Tryz.prog 85 2 := AggT.of Tryz.underlying85 rfl (by kernel_rfl)
theorem T.z85 : SizeT Tryz.prog 85 2 := SizeT.of (by kernel_rfl)
theorem T.f85_0 : FieldT Tryz.prog 85 0 0 := FieldT.of (by kernel_rfl)
theorem T.f85_1 : FieldT Tryz.prog 85 1 1 := FieldT.of (by kernel_rfl)
theorem T.zero85 : ZeroT Tryz.prog 85 (.agg #[.bool false, .string ⟨#[]⟩]) := ZeroT.of (by kernel_rfl)
theorem T.s86 : SliceT Tryz.prog 86 88 3 32 := SliceT.of Tryz.underlying86 (by kernel_rfl)
theorem T.p86 : PlainT Tryz.prog 86 := PlainT.of Tryz.underlying86 rfl
theorem T.z86 : SizeT Tryz.prog 86 1 := SizeT.of (by kernel_rfl)
theorem T.zero86 : ZeroT Tryz.prog 86 (.slice none 0 0) := ZeroT.of (by kernel_rfl)
theorem T.a87 : AggT Tryz.prog 87 3 := AggT.of Tryz.underlying87 rfl (by kernel_rfl)
theorem T.z87 : SizeT Tryz.prog 87 3 := SizeT.of (by kernel_rfl)
theorem T.f87_0 : FieldT Tryz.prog 87 0 0 := FieldT.of (by kernel_rfl)
theorem T.f87_1 : FieldT Tryz.prog 87 1 1 := FieldT.of (by kernel_rfl)
theorem T.zero87 : ZeroT Tryz.prog 87 (.agg #[.int .i64 0, .bool false, .string ⟨#[]⟩]) := ZeroT.of (by kernel_rfl)
theorem T.a88 : AggT Tryz.prog 88 3 := AggT.of Tryz.underlying88 rfl (by kernel_rfl)
theorem T.z88 : SizeT Tryz.prog 88 3 := SizeT.of (by kernel_rfl)
theorem T.f88_0 : FieldT Tryz.prog 88 0 0 := FieldT.of (by kernel_rfl)
theorem T.f88_1 : FieldT Tryz.prog 88 1 1 := FieldT.of (by kernel_rfl)
theorem T.zero88 : ZeroT Tryz.prog 88 (.agg #[.int .i64 0, .bool false, .string ⟨#[]⟩]) := ZeroT.of (by kernel_rfl)
theorem T.a90 : AggT Tryz.prog 90 2 := AggT.of Tryz.underlying90 rfl (by kernel_rfl)
theorem T.z90 : SizeT Tryz.prog 90 2 := SizeT.of (by kernel_rfl)
theorem T.f90_0 : FieldT Tryz.prog 90 0 0 := FieldT.of (by kernel_rfl)
theorem T.f90_1 : FieldT Tryz.prog 90 1 1 := FieldT.of (by kernel_rfl)
theorem T.zero90 : ZeroT Tryz.prog 90 (.agg #[.int .i64 0, .nilFunc]) := ZeroT.of (by kernel_rfl)
theorem T.s91 : SliceT Tryz.prog 91 90 2 16 := SliceT.of Tryz.underlying91 (by kernel_rfl)
theorem T.p91 : PlainT Tryz.prog 91 := PlainT.of Tryz.underlying91 rfl
theorem T.z91 : SizeT Tryz.prog 91 1 := SizeT.of (by kernel_rfl)
theorem T.zero91 : ZeroT Tryz.prog 91 (.slice none 0 0) := ZeroT.of (by kernel_rfl)
theorem T.a92 : AggT Tryz.prog 92 0 := AggT.of Tryz.underlying92 rfl (by kernel_rfl)
theorem T.z92 : SizeT Tryz.prog 92 0 := SizeT.of (by kernel_rfl)
theorem T.zero92 : ZeroT Tryz.prog 92 (.agg #[]) := ZeroT.of (by kernel_rfl)
theorem T.a108 : AggT Tryz.prog 108 7 := AggT.of Tryz.underlying108 rfl (by kernel_rfl)
theorem T.z108 : SizeT Tryz.prog 108 7 := SizeT.of (by kernel_rfl)
theorem T.f108_0 : FieldT Tryz.prog 108 0 0 := FieldT.of (by kernel_rfl)
theorem T.f108_1 : FieldT Tryz.prog 108 1 1 := FieldT.of (by kernel_rfl)
theorem T.f108_2 : FieldT Tryz.prog 108 2 2 := FieldT.of (by kernel_rfl)
theorem T.f108_3 : FieldT Tryz.prog 108 3 3 := FieldT.of (by kernel_rfl)
theorem T.f108_4 : FieldT Tryz.prog 108 4 4 := FieldT.of (by kernel_rfl)
theorem T.f108_5 : FieldT Tryz.prog 108 5 5 := FieldT.of (by kernel_rfl)
theorem T.f108_6 : FieldT Tryz.prog 108 6 6 := FieldT.of (by kernel_rfl)
theorem T.zero108 : ZeroT Tryz.prog 108 (.agg #[.slice none 0 0, .int .i64 0, .int .i64 0, .int .i64 0, .slice none 0 0, .int .i64 0, .int .i64 0]) := ZeroT.of (by kernel_rfl)
theorem T.a109 : AggT Tryz.prog 109 7 := AggT.of Tryz.underlying109 rfl (by kernel_rfl)
theorem T.z109 : SizeT Tryz.prog 109 7 := SizeT.of (by kernel_rfl)
theorem T.f109_0 : FieldT Tryz.prog 109 0 0 := FieldT.of (by kernel_rfl)
theorem T.f109_1 : FieldT Tryz.prog 109 1 1 := FieldT.of (by kernel_rfl)
theorem T.f109_2 : FieldT Tryz.prog 109 2 2 := FieldT.of (by kernel_rfl)
theorem T.f109_3 : FieldT Tryz.prog 109 3 3 := FieldT.of (by kernel_rfl)
theorem T.f109_4 : FieldT Tryz.prog 109 4 4 := FieldT.of (by kernel_rfl)
theorem T.f109_5 : FieldT Tryz.prog 109 5 5 := FieldT.of (by kernel_rfl)
theorem T.f109_6 : FieldT Tryz.prog 109 6 6 := FieldT.of (by kernel_rfl)
theorem T.zero109 : ZeroT Tryz.prog 109 (.agg #[.slice none 0 0, .int .i64 0, .int .i64 0, .int .i64 0, .slice none 0 0, .int .i64 0, .int .i64 0]) := ZeroT.of (by kernel_rfl)
theorem T.s110 : SliceT Tryz.prog 110 22 1 24 := SliceT.of Tryz.underlying110 (by kernel_rfl)
theorem T.p110 : PlainT Tryz.prog 110 := PlainT.of Tryz.underlying110 rfl
theorem T.z110 : SizeT Tryz.prog 110 1 := SizeT.of (by kernel_rfl)
theorem T.zero110 : ZeroT Tryz.prog 110 (.slice none 0 0) := ZeroT.of (by kernel_rfl)
theorem T.p130 : PlainT Tryz.prog 130 := PlainT.of Tryz.underlying130 rfl
theorem T.z130 : SizeT Tryz.prog 130 1 := SizeT.of (by kernel_rfl)
theorem T.zero130 : ZeroT Tryz.prog 130 (.map none) := ZeroT.of (by kernel_rfl)
theorem T.i134 : IntT Tryz.prog 134 .u64 := Tryz.underlying134
theorem T.p134 : PlainT Tryz.prog 134 := PlainT.of Tryz.underlying134 rfl
theorem T.z134 : SizeT Tryz.prog 134 1 := SizeT.of (by kernel_rfl)
theorem T.zero134 : ZeroT Tryz.prog 134 (.int .u64 0) := ZeroT.of (by kernel_rfl)
theorem T.ar139 : ArrT Tryz.prog 139 256 4 1 := ArrT.of Tryz.underlying139 (by kernel_rfl)
theorem T.a139 : AggT Tryz.prog 139 256 := AggT.of Tryz.underlying139 rfl (by kernel_rfl)
theorem T.z139 : SizeT Tryz.prog 139 256 := SizeT.of (by kernel_rfl)
theorem T.ar140 : ArrT Tryz.prog 140 256 4 1 := ArrT.of Tryz.underlying140 (by kernel_rfl)
theorem T.a140 : AggT Tryz.prog 140 256 := AggT.of Tryz.underlying140 rfl (by kernel_rfl)
theorem T.z140 : SizeT Tryz.prog 140 256 := SizeT.of (by kernel_rfl)
theorem T.i151 : IntT Tryz.prog 151 .u64 := Tryz.underlying151
theorem T.p151 : PlainT Tryz.prog 151 := PlainT.of Tryz.underlying151 rfl
theorem T.z151 : SizeT Tryz.prog 151 1 := SizeT.of (by kernel_rfl)
theorem T.zero151 : ZeroT Tryz.prog 151 (.int .u64 0) := ZeroT.of (by kernel_rfl)
theorem T.i162 : IntT Tryz.prog 162 .i64 := Tryz.underlying162
theorem T.p162 : PlainT Tryz.prog 162 := PlainT.of Tryz.underlying162 rfl
theorem T.z162 : SizeT Tryz.prog 162 1 := SizeT.of (by kernel_rfl)
theorem T.zero162 : ZeroT Tryz.prog 162 (.int .i64 0) := ZeroT.of (by kernel_rfl)
theorem T.i169 : IntT Tryz.prog 169 .u32 := Tryz.underlying169
theorem T.p169 : PlainT Tryz.prog 169 := PlainT.of Tryz.underlying169 rfl
theorem T.z169 : SizeT Tryz.prog 169 1 := SizeT.of (by kernel_rfl)
theorem T.zero169 : ZeroT Tryz.prog 169 (.int .u32 0) := ZeroT.of (by kernel_rfl)
theorem T.ar172 : ArrT Tryz.prog 172 4 5 1 := ArrT.of Tryz.underlying172 (by kernel_rfl)
theorem T.a172 : AggT Tryz.prog 172 4 := AggT.of Tryz.underlying172 rfl (by kernel_rfl)
theorem T.z172 : SizeT Tryz.prog 172 4 := SizeT.of (by kernel_rfl)
theorem T.zero172 : ZeroT Tryz.prog 172 (.agg #[.int .u8 0, .int .u8 0, .int .u8 0, .int .u8 0]) := ZeroT.of (by kernel_rfl)
theorem T.p175 : PlainT Tryz.prog 175 := PlainT.of Tryz.underlying175 rfl
theorem T.z175 : SizeT Tryz.prog 175 1 := SizeT.of (by kernel_rfl)
theorem T.zero175 : ZeroT Tryz.prog 175 (.pointer none) := ZeroT.of (by kernel_rfl)
theorem T.i181 : IntT Tryz.prog 181 .u64 := Tryz.underlying181
theorem T.p181 : PlainT Tryz.prog 181 := PlainT.of Tryz.underlying181 rfl
theorem T.z181 : SizeT Tryz.prog 181 1 := SizeT.of (by kernel_rfl)
theorem T.zero181 : ZeroT Tryz.prog 181 (.int .u64 0) := ZeroT.of (by kernel_rfl)
theorem T.p185 : PlainT Tryz.prog 185 := PlainT.of Tryz.underlying185 rfl
theorem T.z185 : SizeT Tryz.prog 185 1 := SizeT.of (by kernel_rfl)
theorem T.zero185 : ZeroT Tryz.prog 185 (.pointer none) := ZeroT.of (by kernel_rfl)
theorem T.ar187 : ArrT Tryz.prog 187 256 5 1 := ArrT.of Tryz.underlying187 (by kernel_rfl)
theorem T.a187 : AggT Tryz.prog 187 256 := AggT.of Tryz.underlying187 rfl (by kernel_rfl)
theorem T.z187 : SizeT Tryz.prog 187 256 := SizeT.of (by kernel_rfl)
theorem T.a188 : AggT Tryz.prog 188 2 := AggT.of Tryz.underlying188 rfl (by kernel_rfl)
theorem T.z188 : SizeT Tryz.prog 188 2 := SizeT.of (by kernel_rfl)
theorem T.f188_0 : FieldT Tryz.prog 188 0 0 := FieldT.of (by kernel_rfl)
theorem T.f188_1 : FieldT Tryz.prog 188 1 1 := FieldT.of (by kernel_rfl)
theorem T.zero188 : ZeroT Tryz.prog 188 (.agg #[.int .u8 0, .int .u8 0]) := ZeroT.of (by kernel_rfl)
theorem T.a189 : AggT Tryz.prog 189 2 := AggT.of Tryz.underlying189 rfl (by kernel_rfl)
theorem T.z189 : SizeT Tryz.prog 189 2 := SizeT.of (by kernel_rfl)
theorem T.f189_0 : FieldT Tryz.prog 189 0 0 := FieldT.of (by kernel_rfl)
theorem T.f189_1 : FieldT Tryz.prog 189 1 1 := FieldT.of (by kernel_rfl)
theorem T.zero189 : ZeroT Tryz.prog 189 (.agg #[.int .u8 0, .int .u8 0]) := ZeroT.of (by kernel_rfl)
theorem T.ar190 : ArrT Tryz.prog 190 16 189 2 := ArrT.of Tryz.underlying190 (by kernel_rfl)
theorem T.a190 : AggT Tryz.prog 190 32 := AggT.of Tryz.underlying190 rfl (by kernel_rfl)
theorem T.z190 : SizeT Tryz.prog 190 32 := SizeT.of (by kernel_rfl)
theorem T.zero190 : ZeroT Tryz.prog 190 (.agg #[.int .u8 0, .int .u8 0, .int .u8 0, .int .u8 0, .int .u8 0, .int .u8 0, .int .u8 0, .int .u8 0, .int .u8 0, .int .u8 0, .int .u8 0, .int .u8 0, .int .u8 0, .int .u8 0, .int .u8 0, .int .u8 0, .int .u8 0, .int .u8 0, .int .u8 0, .int .u8 0, .int .u8 0, .int .u8 0, .int .u8 0, .int .u8 0, .int .u8 0, .int .u8 0, .int .u8 0, .int .u8 0, .int .u8 0, .int .u8 0, .int .u8 0, .int .u8 0]) := ZeroT.of (by kernel_rfl)
theorem T.i191 : IntT Tryz.prog 191 .i64 := Tryz.underlying191
theorem T.p191 : PlainT Tryz.prog 191 := PlainT.of Tryz.underlying191 rfl
theorem T.z191 : SizeT Tryz.prog 191 1 := SizeT.of (by kernel_rfl)
theorem T.zero191 : ZeroT Tryz.prog 191 (.int .i64 0) := ZeroT.of (by kernel_rfl)
theorem T.p194 : PlainT Tryz.prog 194 := PlainT.of Tryz.underlying194 rfl
theorem T.z194 : SizeT Tryz.prog 194 1 := SizeT.of (by kernel_rfl)
theorem T.zero194 : ZeroT Tryz.prog 194 (.pointer none) := ZeroT.of (by kernel_rfl)
theorem T.p197 : PlainT Tryz.prog 197 := PlainT.of Tryz.underlying197 rfl
theorem T.z197 : SizeT Tryz.prog 197 1 := SizeT.of (by kernel_rfl)
theorem T.zero197 : ZeroT Tryz.prog 197 (.pointer none) := ZeroT.of (by kernel_rfl)
theorem T.a199 : AggT Tryz.prog 199 3 := AggT.of Tryz.underlying199 rfl (by kernel_rfl)
theorem T.z199 : SizeT Tryz.prog 199 3 := SizeT.of (by kernel_rfl)
theorem T.f199_0 : FieldT Tryz.prog 199 0 0 := FieldT.of (by kernel_rfl)
theorem T.f199_1 : FieldT Tryz.prog 199 1 1 := FieldT.of (by kernel_rfl)
theorem T.f199_2 : FieldT Tryz.prog 199 2 2 := FieldT.of (by kernel_rfl)
theorem T.zero199 : ZeroT Tryz.prog 199 (.agg #[.string ⟨#[]⟩, .string ⟨#[]⟩, .nilIface]) := ZeroT.of (by kernel_rfl)
theorem T.a200 : AggT Tryz.prog 200 3 := AggT.of Tryz.underlying200 rfl (by kernel_rfl)
theorem T.z200 : SizeT Tryz.prog 200 3 := SizeT.of (by kernel_rfl)
theorem T.f200_0 : FieldT Tryz.prog 200 0 0 := FieldT.of (by kernel_rfl)
theorem T.f200_1 : FieldT Tryz.prog 200 1 1 := FieldT.of (by kernel_rfl)
theorem T.f200_2 : FieldT Tryz.prog 200 2 2 := FieldT.of (by kernel_rfl)
theorem T.zero200 : ZeroT Tryz.prog 200 (.agg #[.string ⟨#[]⟩, .string ⟨#[]⟩, .nilIface]) := ZeroT.of (by kernel_rfl)
theorem T.ar202 : ArrT Tryz.prog 202 24 5 1 := ArrT.of Tryz.underlying202 (by kernel_rfl)
theorem T.a202 : AggT Tryz.prog 202 24 := AggT.of Tryz.underlying202 rfl (by kernel_rfl)
theorem T.z202 : SizeT Tryz.prog 202 24 := SizeT.of (by kernel_rfl)
theorem T.zero202 : ZeroT Tryz.prog 202 (.agg #[.int .u8 0, .int .u8 0, .int .u8 0, .int .u8 0, .int .u8 0, .int .u8 0, .int .u8 0, .int .u8 0, .int .u8 0, .int .u8 0, .int .u8 0, .int .u8 0, .int .u8 0, .int .u8 0, .int .u8 0, .int .u8 0, .int .u8 0, .int .u8 0, .int .u8 0, .int .u8 0, .int .u8 0, .int .u8 0, .int .u8 0, .int .u8 0]) := ZeroT.of (by kernel_rfl)
theorem T.p206 : PlainT Tryz.prog 206 := PlainT.of Tryz.underlying206 rfl
theorem T.z206 : SizeT Tryz.prog 206 1 := SizeT.of (by kernel_rfl)
theorem T.zero206 : ZeroT Tryz.prog 206 (.pointer none) := ZeroT.of (by kernel_rfl)
theorem T.p207 : PlainT Tryz.prog 207 := PlainT.of Tryz.underlying207 rfl
theorem T.z207 : SizeT Tryz.prog 207 1 := SizeT.of (by kernel_rfl)
theorem T.zero207 : ZeroT Tryz.prog 207 (.pointer none) := ZeroT.of (by kernel_rfl)
theorem T.a208 : AggT Tryz.prog 208 1 := AggT.of Tryz.underlying208 rfl (by kernel_rfl)
theorem T.z208 : SizeT Tryz.prog 208 1 := SizeT.of (by kernel_rfl)
theorem T.f208_0 : FieldT Tryz.prog 208 0 0 := FieldT.of (by kernel_rfl)
theorem T.zero208 : ZeroT Tryz.prog 208 (.agg #[.string ⟨#[]⟩]) := ZeroT.of (by kernel_rfl)
theorem T.a209 : AggT Tryz.prog 209 1 := AggT.of Tryz.underlying209 rfl (by kernel_rfl)
theorem T.z209 : SizeT Tryz.prog 209 1 := SizeT.of (by kernel_rfl)
theorem T.f209_0 : FieldT Tryz.prog 209 0 0 := FieldT.of (by kernel_rfl)
theorem T.zero209 : ZeroT Tryz.prog 209 (.agg #[.string ⟨#[]⟩]) := ZeroT.of (by kernel_rfl)
theorem T.ar211 : ArrT Tryz.prog 211 20 151 1 := ArrT.of Tryz.underlying211 (by kernel_rfl)
theorem T.a211 : AggT Tryz.prog 211 20 := AggT.of Tryz.underlying211 rfl (by kernel_rfl)
theorem T.z211 : SizeT Tryz.prog 211 20 := SizeT.of (by kernel_rfl)
theorem T.zero211 : ZeroT Tryz.prog 211 (.agg #[.int .u64 0, .int .u64 0, .int .u64 0, .int .u64 0, .int .u64 0, .int .u64 0, .int .u64 0, .int .u64 0, .int .u64 0, .int .u64 0, .int .u64 0, .int .u64 0, .int .u64 0, .int .u64 0, .int .u64 0, .int .u64 0, .int .u64 0, .int .u64 0, .int .u64 0, .int .u64 0]) := ZeroT.of (by kernel_rfl)
theorem T.ar212 : ArrT Tryz.prog 212 65 5 1 := ArrT.of Tryz.underlying212 (by kernel_rfl)
theorem T.a212 : AggT Tryz.prog 212 65 := AggT.of Tryz.underlying212 rfl (by kernel_rfl)
theorem T.z212 : SizeT Tryz.prog 212 65 := SizeT.of (by kernel_rfl)
theorem T.ar215 : ArrT Tryz.prog 215 32 5 1 := ArrT.of Tryz.underlying215 (by kernel_rfl)
theorem T.a215 : AggT Tryz.prog 215 32 := AggT.of Tryz.underlying215 rfl (by kernel_rfl)
theorem T.z215 : SizeT Tryz.prog 215 32 := SizeT.of (by kernel_rfl)
theorem T.zero215 : ZeroT Tryz.prog 215 (.agg #[.int .u8 0, .int .u8 0, .int .u8 0, .int .u8 0, .int .u8 0, .int .u8 0, .int .u8 0, .int .u8 0, .int .u8 0, .int .u8 0, .int .u8 0, .int .u8 0, .int .u8 0, .int .u8 0, .int .u8 0, .int .u8 0, .int .u8 0, .int .u8 0, .int .u8 0, .int .u8 0, .int .u8 0, .int .u8 0, .int .u8 0, .int .u8 0, .int .u8 0, .int .u8 0, .int .u8 0, .int .u8 0, .int .u8 0, .int .u8 0, .int .u8 0, .int .u8 0]) := ZeroT.of (by kernel_rfl)
theorem T.ar216 : ArrT Tryz.prog 216 64 5 1 := ArrT.of Tryz.underlying216 (by kernel_rfl)
theorem T.a216 : AggT Tryz.prog 216 64 := AggT.of Tryz.underlying216 rfl (by kernel_rfl)
theorem T.z216 : SizeT Tryz.prog 216 64 := SizeT.of (by kernel_rfl)
theorem T.a218 : AggT Tryz.prog 218 4 := AggT.of Tryz.underlying218 rfl (by kernel_rfl)
theorem T.z218 : SizeT Tryz.prog 218 4 := SizeT.of (by kernel_rfl)
theorem T.f218_0 : FieldT Tryz.prog 218 0 0 := FieldT.of (by kernel_rfl)
theorem T.f218_1 : FieldT Tryz.prog 218 1 1 := FieldT.of (by kernel_rfl)
theorem T.f218_2 : FieldT Tryz.prog 218 2 2 := FieldT.of (by kernel_rfl)
theorem T.f218_3 : FieldT Tryz.prog 218 3 3 := FieldT.of (by kernel_rfl)
theorem T.zero218 : ZeroT Tryz.prog 218 (.agg #[.pointer none, .pointer none, .pointer none, .string ⟨#[]⟩]) := ZeroT.of (by kernel_rfl)
theorem T.a219 : AggT Tryz.prog 219 4 := AggT.of Tryz.underlying219 rfl (by kernel_rfl)
theorem T.z219 : SizeT Tryz.prog 219 4 := SizeT.of (by kernel_rfl)
theorem T.f219_0 : FieldT Tryz.prog 219 0 0 := FieldT.of (by kernel_rfl)
theorem T.f219_1 : FieldT Tryz.prog 219 1 1 := FieldT.of (by kernel_rfl)
theorem T.f219_2 : FieldT Tryz.prog 219 2 2 := FieldT.of (by kernel_rfl)
theorem T.f219_3 : FieldT Tryz.prog 219 3 3 := FieldT.of (by kernel_rfl)
theorem T.zero219 : ZeroT Tryz.prog 219 (.agg #[.pointer none, .pointer none, .pointer none, .string ⟨#[]⟩]) := ZeroT.of (by kernel_rfl)
theorem T.ar220 : ArrT Tryz.prog 220 0 16 1 := ArrT.of Tryz.underlying220 (by kernel_rfl)
theorem T.a220 : AggT Tryz.prog 220 0 := AggT.of Tryz.underlying220 rfl (by kernel_rfl)
theorem T.z220 : SizeT Tryz.prog 220 0 := SizeT.of (by kernel_rfl)
theorem T.zero220 : ZeroT Tryz.prog 220 (.agg #[]) := ZeroT.of (by kernel_rfl)
theorem T.a221 : AggT Tryz.prog 221 0 := AggT.of Tryz.underlying221 rfl (by kernel_rfl)
theorem T.z221 : SizeT Tryz.prog 221 0 := SizeT.of (by kernel_rfl)
theorem T.zero221 : ZeroT Tryz.prog 221 (.agg #[]) := ZeroT.of (by kernel_rfl)
theorem T.a222 : AggT Tryz.prog 222 0 := AggT.of Tryz.underlying222 rfl (by kernel_rfl)
theorem T.z222 : SizeT Tryz.prog 222 0 := SizeT.of (by kernel_rfl)
theorem T.zero222 : ZeroT Tryz.prog 222 (.agg #[]) := ZeroT.of (by kernel_rfl)
theorem T.i224 : IntT Tryz.prog 224 .u8 := Tryz.underlying224
theorem T.p224 : PlainT Tryz.prog 224 := PlainT.of Tryz.underlying224 rfl
theorem T.z224 : SizeT Tryz.prog 224 1 := SizeT.of (by kernel_rfl)
theorem T.zero224 : ZeroT Tryz.prog 224 (.int .u8 0) := ZeroT.of (by kernel_rfl)
theorem T.i225 : IntT Tryz.prog 225 .u8 := Tryz.underlying225
theorem T.p225 : PlainT Tryz.prog 225 := PlainT.of Tryz.underlying225 rfl
theorem T.z225 : SizeT Tryz.prog 225 1 := SizeT.of (by kernel_rfl)
theorem T.zero225 : ZeroT Tryz.prog 225 (.int .u8 0) := ZeroT.of (by kernel_rfl)
theorem T.i227 : IntT Tryz.prog 227 .i32 := Tryz.underlying227
theorem T.p227 : PlainT Tryz.prog 227 := PlainT.of Tryz.underlying227 rfl
theorem T.z227 : SizeT Tryz.prog 227 1 := SizeT.of (by kernel_rfl)
theorem T.zero227 : ZeroT Tryz.prog 227 (.int .i32 0) := ZeroT.of (by kernel_rfl)
theorem T.i228 : IntT Tryz.prog 228 .i32 := Tryz.underlying228
theorem T.p228 : PlainT Tryz.prog 228 := PlainT.of Tryz.underlying228 rfl
theorem T.z228 : SizeT Tryz.prog 228 1 := SizeT.of (by kernel_rfl)
theorem T.zero228 : ZeroT Tryz.prog 228 (.int .i32 0) := ZeroT.of (by kernel_rfl)
theorem T.a229 : AggT Tryz.prog 229 11 := AggT.of Tryz.underlying229 rfl (by kernel_rfl)
theorem T.z229 : SizeT Tryz.prog 229 11 := SizeT.of (by kernel_rfl)
theorem T.f229_0 : FieldT Tryz.prog 229 0 0 := FieldT.of (by kernel_rfl)
theorem T.f229_1 : FieldT Tryz.prog 229 1 1 := FieldT.of (by kernel_rfl)
theorem T.f229_2 : FieldT Tryz.prog 229 2 2 := FieldT.of (by kernel_rfl)
theorem T.f229_3 : FieldT Tryz.prog 229 3 3 := FieldT.of (by kernel_rfl)
theorem T.f229_4 : FieldT Tryz.prog 229 4 4 := FieldT.of (by kernel_rfl)
theorem T.f229_5 : FieldT Tryz.prog 229 5 5 := FieldT.of (by kernel_rfl)
theorem T.f229_6 : FieldT Tryz.prog 229 6 6 := FieldT.of (by kernel_rfl)
theorem T.f229_7 : FieldT Tryz.prog 229 7 7 := FieldT.of (by kernel_rfl)
theorem T.f229_8 : FieldT Tryz.prog 229 8 8 := FieldT.of (by kernel_rfl)
theorem T.f229_9 : FieldT Tryz.prog 229 9 9 := FieldT.of (by kernel_rfl)
theorem T.f229_10 : FieldT Tryz.prog 229 10 10 := FieldT.of (by kernel_rfl)
theorem T.zero229 : ZeroT Tryz.prog 229 (.agg #[.int .u64 0, .int .u64 0, .int .u32 0, .int .u8 0, .int .u8 0, .int .u8 0, .int .u8 0, .nilFunc, .pointer none, .int .i32 0, .int .i32 0]) := ZeroT.of (by kernel_rfl)
theorem T.a230 : AggT Tryz.prog 230 11 := AggT.of Tryz.underlying230 rfl (by kernel_rfl)
theorem T.z230 : SizeT Tryz.prog 230 11 := SizeT.of (by kernel_rfl)
theorem T.f230_0 : FieldT Tryz.prog 230 0 0 := FieldT.of (by kernel_rfl)
theorem T.f230_1 : FieldT Tryz.prog 230 1 1 := FieldT.of (by kernel_rfl)
theorem T.f230_2 : FieldT Tryz.prog 230 2 2 := FieldT.of (by kernel_rfl)
theorem T.f230_3 : FieldT Tryz.prog 230 3 3 := FieldT.of (by kernel_rfl)
theorem T.f230_4 : FieldT Tryz.prog 230 4 4 := FieldT.of (by kernel_rfl)
theorem T.f230_5 : FieldT Tryz.prog 230 5 5 := FieldT.of (by kernel_rfl)
theorem T.f230_6 : FieldT Tryz.prog 230 6 6 := FieldT.of (by kernel_rfl)
theorem T.f230_7 : FieldT Tryz.prog 230 7 7 := FieldT.of (by kernel_rfl)
theorem T.f230_8 : FieldT Tryz.prog 230 8 8 := FieldT.of (by kernel_rfl)
theorem T.f230_9 : FieldT Tryz.prog 230 9 9 := FieldT.of (by kernel_rfl)
theorem T.f230_10 : FieldT Tryz.prog 230 10 10 := FieldT.of (by kernel_rfl)
theorem T.zero230 : ZeroT Tryz.prog 230 (.agg #[.int .u64 0, .int .u64 0, .int .u32 0, .int .u8 0, .int .u8 0, .int .u8 0, .int .u8 0, .nilFunc, .pointer none, .int .i32 0, .int .i32 0]) := ZeroT.of (by kernel_rfl)
end Go.Proofs.YtipbakiecocioaaGreatDoor
