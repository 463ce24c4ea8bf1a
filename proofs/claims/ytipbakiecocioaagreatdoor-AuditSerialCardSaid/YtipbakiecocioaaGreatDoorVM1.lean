/- Texts of this proof laid together: Core, Env, Ops, Mem, Plain, Mem2, Mem3, Mem4, Arr, Types, Shelf, Num1, Read, RepBase, Str, Rows, Rows2, BytesCut, Bits, IterStr. -/
import Derived.Orders
import Derived.Below
import Derived.WalkKit
import Derived.Deep.AppendSrc
import Derived.Laws.MakeOwn
import Derived.Test.YtipbakiecocioaaGreatDoorProg
import Derived.KernelRfl
import Derived.Shelf.SlGeneric
import Derived.Shelf.Strconv.ParseIntPublic10
import Derived.Ground.NamesProg
import Derived.Shelf.Spec.DecodeRune
import Derived.Ground.Names7Prog
import Derived.Shelf.Strconv.Itoa4
import Derived.Lib.AtoiErrMem
import Derived.ProofKit
import Derived.OpenShut
import Derived.ChangeOld
import Derived.Deep.Slices
import Derived.Laws.Strings2
import Derived.Laws.Externs
import Derived.Laws.CopyRow
import Derived.Lib.AppendZerosOnto
import Derived.Lib.Overlaps
import Derived.Lib.SlBytesConst
import Derived.Lib.OthersKept
import Derived.Scope
/- The region and code rules of this prover's own walk: environments of slots, one canonical order for regions that draw their order, rules for each kind of code. -/

namespace Go.V
open Go.RowKit

/-- w' has all blocks of w as they were; there may be more. -/
abbrev Ext (w w' : World) : Prop := Below w.heap.size w w'

theorem Ext.rfl' {w : World} : Ext w w := Below.refl _ _
theorem Ext.trans {a b c : World} (h : Ext a b) (k : Ext b c) : Ext a c := Below.trans h (k.mono h.size)

/-- the blocks that may be turned: those of S; if S is of two, all from the second on, too -/
def exempt (S : List Nat) (k : Nat) : Bool := S.contains k || match S with
  | [_, l] => Nat.ble l k
  | _ => false

/-- the same, but for the blocks of S -/
structure ExtS (S : List Nat) (w w' : World) : Prop where
  os : w'.os = w.os
  tape : w'.tape = w.tape
  output : w'.output = w.output
  size : w.heap.size ≤ w'.heap.size
  block : ∀ k, k < w.heap.size → exempt S k = false → w'.heap[k]? = w.heap[k]?
theorem ExtS.of_grown {S : List Nat} {row : Option Nat} {w w' : World} (hg : w.grownBy w' row) (h : ∀ k, row = some k → exempt S k = true) : ExtS S w w' :=
  ⟨hg.os, hg.tape, hg.output, hg.size, fun k hk hs => hg.block k hk (fun e => by rw [h k e.symm] at hs; cases hs)⟩
theorem ExtS.rfl' {S : List Nat} {w : World} : ExtS S w w := ⟨rfl, rfl, rfl, Nat.le_refl _, fun _ _ _ => rfl⟩
theorem ExtS.trans {S : List Nat} {a b c : World} (h : ExtS S a b) (k : ExtS S b c) : ExtS S a c :=
  ⟨k.os.trans h.os, k.tape.trans h.tape, k.output.trans h.output, Nat.le_trans h.size k.size, fun i hi hs => (k.block i (Nat.lt_of_lt_of_le hi h.size) hs).trans (h.block i hi hs)⟩
theorem Ext.toS {S : List Nat} {w w' : World} (h : Ext w w') : ExtS S w w' := ⟨h.os, h.tape, h.output, h.size, fun k hk _ => h.block k hk⟩
theorem ExtS.toE {w w' : World} (h : ExtS [] w w') : Ext w w' := ⟨h.os, h.tape, h.output, h.size, fun k hk => h.block k hk rfl⟩

def QF : Exit → Act → World → Prop := fun _ _ _ => False

/-- the run of one operation, wanted, with no way out but the next step -/
def stepX (P : Program) (S : List Nat) (wr : Oper → Bool) (o : Oper) (K : Act → World → Prop) (a : Act) (w : World) : Prop :=
  o.wp P a w (fun a' w' => (wr o = true ∨ ExtS S w w') ∧ K a' w') QF

def opX (P : Program) (S : List Nat) (ops : Array Oper) (wr : Oper → Bool) (i : Nat) (K : Act → World → Prop) (a : Act) (w : World) : Prop :=
  match ops[i]? with
  | none => K a w
  | some o => if Region.wanted o (yielded ops a.tmps) then stepX P S wr o K a w else K (a.put o.dst undef) w

def wpX (P : Program) (S : List Nat) (ops : Array Oper) (wr : Oper → Bool) (K : Act → World → Prop) : Nat → Array Bool → Act → World → Prop
  | 0, listed, a, w => Region.ready .any ops listed = [] ∧ K a w
  | fuel + 1, listed, a, w =>
    (Region.ready .any ops listed = [] → K a w) ∧
    ∀ i ∈ Region.ready .any ops listed, opX P S ops wr i (wpX P S ops wr K fuel (listed.setIfInBounds i true)) a w

theorem wp_QF {P : Program} {o : Oper} {a : Act} {w : World} {K : Act → World → Prop} {Q : Exit → Act → World → Prop} (h : o.wp P a w K QF) : o.wp P a w K Q := by
  unfold Oper.wp at *
  generalize (execOp a.eval o).run P w = r at *
  cases r with
  | ok n w' =>
    cases n <;> simp only [Oper.upon] at h ⊢ <;>
      first
        | exact h
        | exact Calls.mono h (fun e w'' he => by cases e with | returned v => exact he | panicked c => exact he.elim | outgrown => obtain ⟨_, _, hh⟩ := he; exact hh.elim)
  | halt x w' => cases x <;> simp only [Oper.upon] at h ⊢ <;> exact h.elim

theorem stepX_mono {P : Program} {S : List Nat} {wr : Oper → Bool} {o : Oper} {K K' : Act → World → Prop} {a : Act} {w : World} (h : ∀ a w, K a w → K' a w) (hh : stepX P S wr o K a w) : stepX P S wr o K' a w :=
  Oper.wp_mono (fun _ _ ⟨h1, h2⟩ => ⟨h1, h _ _ h2⟩) hh

theorem opX_mono {P : Program} {S : List Nat} {ops : Array Oper} {wr : Oper → Bool} {i : Nat} {K K' : Act → World → Prop} {a : Act} {w : World} (h : ∀ a w, K a w → K' a w) (hh : opX P S ops wr i K a w) : opX P S ops wr i K' a w := by
  unfold opX at *
  split
  · exact h _ _ (by simpa [*] using hh)
  · rename_i o ho
    simp only [ho] at hh
    split
    · rename_i hw; simp only [hw, if_true] at hh; exact stepX_mono h hh
    · rename_i hw; simp only [hw] at hh; exact h _ _ hh

theorem wpAny_of_wpX {P : Program} {S : List Nat} {ops : Array Oper} {wr : Oper → Bool} {K : Act → World → Prop} {Q : Exit → Act → World → Prop} (hQ : ∀ a w, K a w → Q .normal a w) :
    ∀ (fuel : Nat) (listed : Array Bool) (a : Act) (w : World), wpX P S ops wr K fuel listed a w → wpAny P .any ops Q fuel listed a w
  | 0, _, _, _, h => ⟨h.1, hQ _ _ h.2⟩
  | fuel + 1, listed, a, w, h => ⟨fun h0 => hQ _ _ (h.1 h0), fun i hi => by
      have h1 := opX_mono (fun a w => wpAny_of_wpX hQ fuel (listed.setIfInBounds i true) a w) (h.2 i hi)
      unfold opX at h1
      unfold wpOp
      split
      · rename_i ho; simp only [ho] at h1; exact h1
      · rename_i o ho
        simp only [ho] at h1
        split
        · rename_i hw; simp only [hw, if_true] at h1; exact .inl (wp_QF (Oper.wp_mono (fun _ _ h => h.2) h1))
        · rename_i hw; simp only [hw] at h1; exact h1⟩

/-- operation o yields v in w and in every extension of w; if it reads no memory: in every world -/
def YX (P : Program) (S : List Nat) (ops : Array Oper) (rd : Oper → Bool) (o : Oper) (v : Value) (a : Act) (w : World) : Prop :=
  (Region.wanted o (yielded ops a.tmps) = true ∧ ∀ w', (rd o = false ∨ ExtS S w w') → (execOp a.eval o).run P w' = .ok (.value v) w') ∨
  (Region.wanted o (yielded ops a.tmps) = false ∧ v = undef)

theorem YX.ext {P : Program} {S : List Nat} {ops : Array Oper} {rd : Oper → Bool} {o : Oper} {v : Value} {a : Act} {w w' : World} (h : YX P S ops rd o v a w) (hx : rd o = false ∨ ExtS S w w') : YX P S ops rd o v a w' := by
  rcases h with ⟨h1, h2⟩ | h
  · refine .inl ⟨h1, fun w'' h'' => h2 w'' ?_⟩
    rcases hx with hx | hx
    · exact .inl hx
    · rcases h'' with h'' | h''
      · exact .inl h''
      · exact .inr (hx.trans h'')
  · exact .inr h

theorem YX.opX {P : Program} {S : List Nat} {ops : Array Oper} {rd wr : Oper → Bool} {i : Nat} {o : Oper} {v : Value} {a : Act} {w : World} (hi : ops[i]? = some o) (hy : YX P S ops rd o v a w)
    {K : Act → World → Prop} (h : K (a.put o.dst v) w) : V.opX P S ops wr i K a w := by
  unfold V.opX
  simp only [hi]
  rcases hy with ⟨hw, hv⟩ | ⟨hw, rfl⟩
  · simp only [hw, if_true, stepX, Oper.wp, hv w (.inr ExtS.rfl'), Oper.upon]; exact ⟨.inr ExtS.rfl', h⟩
  · simp only [hw, Bool.false_eq_true, if_false]; exact h

theorem YX.of_same {P : Program} {S : List Nat} {ops : Array Oper} {rd : Oper → Bool} {o : Oper} {v : Value} {a a' : Act} {w : World} (hy : YX P S ops rd o v a w) (he : execOp a'.eval o = execOp a.eval o)
    (hw : Region.wanted o (yielded ops a'.tmps) = Region.wanted o (yielded ops a.tmps)) : YX P S ops rd o v a' w := by
  unfold YX at *
  rw [he, hw]
  exact hy

theorem opX_put {P : Program} {S : List Nat} {ops : Array Oper} {rd wr : Oper → Bool} {j : Nat} {oi oj : Oper} {v : Value} (hj : ops[j]? = some oj) (hap : oi.apart ops oj = true) (hnw : wr oj = false ∨ rd oi = false)
    (hsi : ∀ cs b, oi.op ≠ .select cs b) (hsj : ∀ cs b, oj.op ≠ .select cs b) {K : Act → World → Prop} {a : Act} {w : World}
    (hy : YX P S ops rd oi v a w) (h : opX P S ops wr j K (a.put oi.dst v) w) :
    opX P S ops wr j (fun a' w' => YX P S ops rd oi v a' w' ∧ K (a'.put oi.dst v) w') a w := by
  obtain ⟨h1, h2, h3⟩ := Oper.apart_spec hap
  have keep : ∀ (a : Act) (w : World), YX P S ops rd oi v a w → ∀ u, YX P S ops rd oi v (a.put oj.dst u) w := fun a w hy u =>
    hy.of_same (execOp_put oi hsi a oj.dst u h3) (wanted_put oi a oj.dst u h3)
  have tr : ∀ w', (wr oj = true ∨ ExtS S w w') → (rd oi = false ∨ ExtS S w w') := fun w' h => by
    rcases hnw with hn | hn
    · rw [hn] at h; exact .inr (by simpa using h)
    · exact .inl hn
  have keepD : ∀ w d, YX P S ops rd oi v a w → YX P S ops rd oi v { a with defers := d :: a.defers } w := fun w d hy => hy.of_same rfl rfl
  unfold opX at *
  simp only [hj] at *
  rw [wanted_put oj a oi.dst v h1] at h
  split
  · rename_i hw
    simp only [hw, if_true] at h
    unfold stepX Oper.wp at *
    rw [execOp_put oj hsj a oi.dst v h1] at h
    generalize (execOp a.eval oj).run P w = r at *
    cases r with
    | ok n w' =>
      cases n <;> simp only [Oper.upon] at h ⊢
      case value u => exact ⟨h.1, keep a _ (hy.ext (tr _ h.1)) u, by rw [← Act.put_comm a v u h2]; exact h.2⟩
      case skip => exact ⟨h.1, keep a _ (hy.ext (tr _ h.1)) _, by rw [← Act.put_comm a v undef h2]; exact h.2⟩
      case defer d =>
        refine ⟨h.1, keep _ _ (keepD _ d (hy.ext (tr _ h.1))) _, ?_⟩
        rw [← Act.put_comm _ v undef h2, ← Act.put_defers]
        exact h.2
      case enter f args =>
        refine Calls.mono h fun e w'' he => ?_
        cases e with
        | returned u => exact ⟨he.1, keep a _ (hy.ext (tr _ he.1)) u, by rw [← Act.put_comm a v u h2]; exact he.2⟩
        | panicked c => exact he
        | outgrown => exact he
      case row row args => exact Rows.mono h fun u w'' he => ⟨he.1, keep a _ (hy.ext (tr _ he.1)) u, by rw [← Act.put_comm a v u h2]; exact he.2⟩
    | halt x w' => cases x <;> simp only [Oper.upon] at h ⊢ <;> exact h
  · rename_i hw
    simp only [hw] at h
    exact ⟨keep a _ hy _, by rw [← Act.put_comm a v undef h2]; exact h⟩

theorem wpX_first {P : Program} {S : List Nat} {ops : Array Oper} {rd wr : Oper → Bool} {K : Act → World → Prop} {i : Nat} {oi : Oper} {v : Value} (hi : ops[i]? = some oi)
    (hsel : ∀ (j : Nat) (o : Oper) cs b, ops[j]? = some o → o.op ≠ .select cs b) :
    ∀ (fuel : Nat) (listed : Array Bool) (a : Act) (w : World),
      (∀ j oj, ops[j]? = some oj → j ≠ i → listed.getD j true = false → (∀ e ∈ oj.after, Region.binds .any e = true → e.on ≠ i) → oi.apart ops oj = true ∧ (wr oj = false ∨ rd oi = false)) →
      i ∈ Region.ready .any ops listed → YX P S ops rd oi v a w →
      wpX P S ops wr K fuel (listed.setIfInBounds i true) (a.put oi.dst v) w → wpX P S ops wr K (fuel + 1) listed a w := by
  intro fuel
  induction fuel with
  | zero =>
    intro listed a w _ hr hy H
    refine ⟨fun h => (by rw [h] at hr; cases hr), fun j hj => ?_⟩
    by_cases hji : j = i
    · subst hji; exact hy.opX hi H
    · have := ready_mono hj hji
      rw [H.1] at this
      cases this
  | succ fuel ih =>
    intro listed a w hfree hr hy H
    refine ⟨fun h => (by rw [h] at hr; cases hr), fun j hj => ?_⟩
    by_cases hji : j = i
    · subst hji; exact hy.opX hi H
    · have h1 := H.2 j (ready_mono hj hji)
      obtain ⟨hjun, oj, hoj, hall⟩ := mem_ready.1 hj
      have hnot : ∀ e ∈ oj.after, Region.binds .any e = true → e.on ≠ i := fun e he hb heq => by
        have h1 := hall e he hb
        have h0 := (mem_ready.1 hr).1
        rw [heq] at h1
        rcases Nat.lt_or_ge i listed.size with h' | h'
        · simp [h'] at h0 h1; rw [h0] at h1; cases h1
        · simp [Array.getElem?_eq_none h'] at h1
      obtain ⟨hap, hnw⟩ := hfree j oj hoj hji hjun hnot
      have h2 := opX_put hoj hap hnw (fun cs b => hsel i oi cs b hi) (fun cs b => hsel j oj cs b hoj) hy h1
      have hfree' : ∀ k ok, ops[k]? = some ok → k ≠ i → (listed.setIfInBounds j true).getD k true = false →
          (∀ e ∈ ok.after, Region.binds .any e = true → e.on ≠ i) → oi.apart ops ok = true ∧ (wr ok = false ∨ rd oi = false) := fun k ok hk hki hun hno => by
        refine hfree k ok hk hki ?_ hno
        by_cases hjk : j = k
        · subst hjk; exact hjun
        · rw [getD_set_ne true hjk] at hun; exact hun
      refine opX_mono (fun a' w' h3 => ih (listed.setIfInBounds j true) a' w' hfree' (ready_mono hr (Ne.symm hji)) h3.1 ?_) h2
      rw [Array.setIfInBounds_comm _ _ hji]
      exact h3.2

/-- every other operation that is still to come waits for i, or is apart from it and no write -/
def freeX (ops : Array Oper) (rd wr : Oper → Bool) (listed : Array Bool) (i : Nat) : Bool :=
  match ops[i]? with
  | none => false
  | some oi => (List.range ops.size).all fun j => j == i || listed.getD j true || match ops[j]? with
      | some oj => oj.after.any (fun e => Region.binds .any e && e.on == i) || (oi.apart ops oj && (!wr oj || !rd oi))
      | none => true

theorem freeX_spec {ops : Array Oper} {rd wr : Oper → Bool} {i : Nat} {oi : Oper} {listed : Array Bool} (hi : ops[i]? = some oi) (h : freeX ops rd wr listed i = true) (j : Nat) (oj : Oper)
    (hj : ops[j]? = some oj) (hne : j ≠ i) (hun : listed.getD j true = false) (hno : ∀ e ∈ oj.after, Region.binds .any e = true → e.on ≠ i) :
    oi.apart ops oj = true ∧ (wr oj = false ∨ rd oi = false) := by
  simp only [freeX, hi, List.all_eq_true, List.mem_range] at h
  have h1 := h j (Array.getElem?_eq_some_iff.1 hj).1
  simp only [hj, Bool.or_eq_true, beq_iff_eq, hne, false_or, hun, Bool.false_eq_true] at h1
  rcases h1 with h1 | h1
  · obtain ⟨e, he, hb⟩ := Array.any_eq_true'.1 h1
    simp only [Bool.and_eq_true, beq_iff_eq] at hb
    exact absurd hb.2 (hno e he hb.1)
  · simpa using h1

/-- the canonical order c serves every order: an operation with an effect comes up alone; every other one may be taken first -/
def okc (ops : Array Oper) (ef rd wr : Oper → Bool) : List Nat → Array Bool → Bool
  | [], listed => (Region.ready .any ops listed).isEmpty
  | i :: c, listed =>
    (if ef (ops.getD i default) then Region.ready .any ops listed == [i] else (Region.ready .any ops listed).contains i && freeX ops rd wr listed i) && okc ops ef rd wr c (listed.setIfInBounds i true)

/-- the walk of a list of operations, over frames -/
def GA (P : Program) (S : List Nat) (ops : Array Oper) (ef rd wr : Oper → Bool) (K : Act → World → Prop) : List Oper → Act → World → Prop
  | [], a, w => K a w
  | o :: l, a, w =>
    (∃ v, YX P S ops rd o v a w ∧ GA P S ops ef rd wr K l (a.put o.dst v) w) ∨
    (ef o = true ∧ Region.wanted o (yielded ops a.tmps) = true ∧ stepX P S wr o (GA P S ops ef rd wr K l) a w)

theorem GA_sound {P : Program} {S : List Nat} {ops : Array Oper} {ef rd wr : Oper → Bool} {K : Act → World → Prop} (hs : Region.noSelect ops = true) :
    ∀ (c : List Nat) (listed : Array Bool) (a : Act) (w : World), okc ops ef rd wr c listed = true →
      GA P S ops ef rd wr K (c.map fun i => ops.getD i default) a w → wpX P S ops wr K c.length listed a w
  | [], listed, a, w, hc, h => ⟨by simpa [okc] using hc, h⟩
  | i :: c, listed, a, w, hc, h => by
    simp only [okc, Bool.and_eq_true] at hc
    obtain ⟨h0, hc⟩ := hc
    have hmem : i ∈ Region.ready .any ops listed := by
      by_cases he : ef (ops.getD i default) = true
      · simp only [he, if_true, beq_iff_eq] at h0; rw [h0]; simp
      · simp only [he] at h0; simp at h0; exact h0.1
    obtain ⟨_, o, ho, _⟩ := mem_ready.1 hmem
    have hget : ops.getD i default = o := by
      have := Array.getElem?_eq_some_iff.1 ho
      simp [Array.getD, this.1, this.2]
    simp only [List.map_cons] at h
    rw [hget] at h h0
    simp only [GA] at h
    have alone : ef o = true → ∀ K', opX P S ops wr i K' a w → (∀ a w, K' a w → wpX P S ops wr K c.length (listed.setIfInBounds i true) a w) → wpX P S ops wr K (i :: c).length listed a w := by
      intro he K' hop hK
      simp only [he, if_true, beq_iff_eq] at h0
      refine ⟨fun h => (by rw [h] at hmem; cases hmem), fun j hj => ?_⟩
      rw [h0] at hj
      obtain rfl : j = i := by simpa using hj
      exact opX_mono hK hop
    rcases h with ⟨v, hy, h⟩ | ⟨he, hw, h⟩
    · by_cases he : ef o = true
      · exact alone he (fun a w => GA P S ops ef rd wr K (c.map fun i => ops.getD i default) a w) (hy.opX ho h) (fun a w h => GA_sound hs c _ a w hc h)
      · simp only [he] at h0
        simp only [Bool.false_eq_true, if_false, Bool.and_eq_true] at h0
        exact wpX_first ho (Region.noSelect_spec hs) c.length listed a w (freeX_spec ho h0.2) hmem hy (GA_sound hs c _ _ w hc h)
    · refine alone he _ ?_ (fun a w h => GA_sound hs c _ a w hc h)
      unfold opX
      simp only [ho, hw, if_true]
      exact h

theorem GA_seq {P : Program} {S : List Nat} {ops : Array Oper} {ef rd wr : Oper → Bool} {K : Act → World → Prop} {Q : Exit → Act → World → Prop} (hQ : ∀ a w, K a w → Q .normal a w) :
    ∀ (m k : Nat) (l : List Oper) (a : Act) (w : World), l.length = m → (∀ j, l[j]? = ops[k + j]?) →
      GA P S ops ef rd wr K l a w → wpOps P ops Q (List.range' k m) a w
  | 0, k, l, a, w, hm, hl, h => by
    obtain rfl : l = [] := List.eq_nil_of_length_eq_zero hm
    simpa [wpOps] using hQ _ _ h
  | m + 1, k, [], a, w, hm, hl, h => by simp at hm
  | m + 1, k, o :: l, a, w, hm, hl, h => by
    have h0 : ops[k]? = some o := by simpa using (hl 0).symm
    have ih := fun a w => GA_seq hQ (P := P) (S := S) (ops := ops) (ef := ef) (rd := rd) (wr := wr) m (k + 1) l a w (by simpa using hm)
      (fun j => by have := hl (j + 1); simpa [Nat.add_assoc, Nat.add_comm 1 j] using this)
    simp only [List.range'_succ, wpOps, h0]
    simp only [GA] at h
    rcases h with ⟨v, hy, h⟩ | ⟨he, hw, h⟩
    · rcases hy with ⟨hw, hv⟩ | ⟨hw, rfl⟩
      · simp only [hw, if_true, Oper.wp, hv w (.inr ExtS.rfl'), Oper.upon]; exact .inl (ih _ _ h)
      · simp only [hw, Bool.false_eq_true, if_false]; exact ih _ _ h
    · simp only [hw, if_true]
      exact .inl (wp_QF (Oper.wp_mono (fun a w h => ih _ _ h.2) h))

end Go.V

/- Environments: what the live slots hold; the rules for code and for operations over them. -/

namespace Go.V
open Go.RowKit

abbrev Env := List (Nat × Value)

def Env.get : Env → Nat → Option Value
  | [], _ => none
  | (s, v) :: E, t => bif Nat.beq s t then some v else Env.get E t

def Env.look (E : Env) : Operand → Option Value
  | .tmp t => E.get t
  | .const v => some v
  | .global g => some (.pointer (some ⟨g, 0, none⟩))
  | .func f => some (.func (.func f) #[] #[])

def Env.looks (E : Env) : List Operand → Option (List Value)
  | [] => some []
  | x :: xs => match E.look x, E.looks xs with
    | some v, some vs => some (v :: vs)
    | _, _ => none

def Env.put (E : Env) (d : Option Nat) (v : Value) : Env := match d with
  | some d => (d, v) :: E
  | none => E

structure Holds (n : Nat) (E : Env) (a : Act) : Prop where
  defers : a.defers = []
  size : a.tmps.size = n
  get : ∀ t v, E.get t = some v → a.tmps[t]? = some v

theorem Holds.eval {n : Nat} {E : Env} {a : Act} (h : Holds n E a) {x : Operand} {v : Value} (hx : E.look x = some v) : a.eval x = v := by
  cases x with
  | tmp t => simp only [Env.look] at hx; simp [Act.eval, h.get t v hx]
  | const u => simpa [Env.look, Act.eval] using hx
  | global g => simpa [Env.look, Act.eval] using hx
  | func f => simpa [Env.look, Act.eval] using hx

theorem Holds.evals {n : Nat} {E : Env} {a : Act} (h : Holds n E a) : ∀ {xs : List Operand} {vs : List Value}, E.looks xs = some vs → xs.map a.eval = vs
  | [], vs, hx => by simpa [Env.looks] using hx
  | x :: xs, vs, hx => by
    simp only [Env.looks] at hx
    split at hx
    · rename_i v us h1 h2
      obtain rfl : v :: us = vs := by simpa using hx
      simp [h.eval h1, h.evals h2]
    · simp at hx

theorem Env.get_cons (s t : Nat) (v : Value) (E : Env) : Env.get ((s, v) :: E) t = if s = t then some v else E.get t := by
  show (bif Nat.beq s t then some v else Env.get E t) = _
  by_cases h : s = t
  · subst h; simp
  · have : Nat.beq s t = false := by
      cases hb : Nat.beq s t with
      | true => exact absurd (Nat.eq_of_beq_eq_true hb) h
      | false => rfl
    simp [this, h]

theorem Holds.put {n : Nat} {E : Env} {a : Act} (h : Holds n E a) (d : Option Nat) (v : Value) (hd : ∀ t, d = some t → t < n) : Holds n (E.put d v) (a.put d v) := by
  cases d with
  | none => exact h
  | some d =>
    refine ⟨h.defers, by simpa [Act.put] using h.size, fun t u ht => ?_⟩
    simp only [Env.put, Env.get_cons] at ht
    simp only [Act.put]
    by_cases e : d = t
    · subst e
      simp only [if_true, Option.some.injEq] at ht
      subst ht
      have := hd d rfl
      simp [h.size, this]
    · simp only [e, if_false] at ht
      rw [Array.getElem?_setIfInBounds_ne e]
      exact h.get t u ht

/-- all entries of E' are found in E -/
def Env.sub : Env → Env → Prop
  | [], _ => True
  | (t, v) :: E', E => E.get t = some v ∧ Env.sub E' E

theorem Holds.sub {n : Nat} {E : Env} {a : Act} (h : Holds n E a) : ∀ {E' : Env}, Env.sub E' E → Holds n E' a
  | [], _ => ⟨h.defers, h.size, fun t v ht => by simp [Env.get] at ht⟩
  | (s, u) :: E', hs => by
    have ih := h.sub hs.2
    refine ⟨h.defers, h.size, fun t v ht => ?_⟩
    rw [Env.get_cons] at ht
    by_cases e : s = t
    · subst e
      simp only [if_true, Option.some.injEq] at ht
      subst ht
      exact h.get _ _ hs.1
    · simp only [e, if_false] at ht
      exact ih.get t v ht

/-- is the guard met (Some b), by what the environment holds? -/
def gval (ops : Array Oper) (E : Env) : Option (Nat × Bool) → Option Bool
  | none => some true
  | some (j, want) => match (ops[j]?).bind (·.dst) with
    | some t => match E.get t with
      | some (.bool b) => some (b == want)
      | some (.tuple _) => some false
      | _ => none
    | none => none

theorem wanted_of {n : Nat} {ops : Array Oper} {E : Env} {o : Oper} {a : Act} {b : Bool} (h : Holds n E a) (hg : gval ops E o.guard = some b) :
    Region.wanted o (yielded ops a.tmps) = b := by
  unfold Region.wanted
  cases hgd : o.guard with
  | none => rw [hgd] at hg; simpa [gval] using hg
  | some jw =>
    obtain ⟨j, want⟩ := jw
    rw [hgd] at hg
    simp only [gval] at hg
    split at hg
    · rename_i t ht
      split at hg
      · rename_i c hc
        obtain rfl : (c == want) = b := by simpa using hg
        have := h.get t _ hc
        simp only [yielded, ht, Option.bind_some, this]
        cases c <;> cases want <;> rfl
      · rename_i c hc
        obtain rfl : false = b := by simpa using hg
        have := h.get t _ hc
        simp only [yielded, ht, Option.bind_some, this]
        cases want <;> rfl
      · simp at hg
    · simp at hg

/-- operations with an effect, in a region that draws its order -/
def effects (P : Program) (dr : Nat) (o : Oper) : Bool :=
  dr == 0 || match o.op with
  | .move _ | .assign _ | .pick .. | .load .. | .nilCheck _ | .binOp .. | .unOp .. | .fieldAddr .. | .field .. | .indexAddr .. | .index .. | .slice ..
  | .extract .. | .makeFunc .. | .makeInterface .. | .build .. | .lookup .. => false
  | .convert _ dst _ => match P.underlying dst with
    | some (.slice _) => true
    | _ => false
  | .call { callee := .builtin .len, .. } | .call { callee := .builtin .cap, .. } | .call { callee := .builtin .min, .. } | .call { callee := .builtin .max, .. } => false
  | _ => true

/-- operations that may turn what was there: dr = 1: calls of functions only add memory; dr = 2: they may turn it -/
def writes (dr : Nat) (o : Oper) : Bool :=
  dr == 0 || match o.op with
  | .store .. => dr != 3
  | .mapUpdate .. | .insert .. | .entryStore .. | .next .. => true
  | .call { callee := .builtin .append, .. } | .call { callee := .builtin .copy, .. } | .call { callee := .builtin .delete, .. } | .call { callee := .builtin .clear, .. } => true
  | .call { callee := .value _, .. } => dr == 2
  | _ => false

/-- operations that read memory -/
def readsM (P : Program) (o : Oper) : Bool :=
  match o.op with
  | .move _ | .assign _ | .pick .. | .nilCheck _ | .unOp .. | .fieldAddr .. | .field .. | .indexAddr .. | .index .. | .slice ..
  | .extract .. | .makeFunc .. | .makeInterface .. | .build .. => false
  | .binOp _ t .. => match P.underlying t with
    | some (.pointer _) => true
    | _ => false
  | .call { callee := .builtin .min, .. } | .call { callee := .builtin .max, .. } => false
  | .call { callee := .builtin .len, argTypes, .. } | .call { callee := .builtin .cap, argTypes, .. } => match P.underlying (argTypes.getD 0 0) with
    | some (.map _ _) => true
    | _ => false
  | _ => true

def dstOk (n : Nat) : Option Nat → Bool
  | none => true
  | some d => Nat.blt d n

theorem dstOk_spec {n : Nat} {d : Option Nat} (h : dstOk n d = true) : ∀ t, d = some t → t < n := by
  rintro t rfl
  simpa [dstOk] using h

section
variable (P : Program) (n : Nat) (ops : Array Oper) (dr : Nat × List Nat)

/-- the walk of a list of operations -/
def G (l : List Oper) (E : Env) (w : World) (K : Env → World → Prop) : Prop :=
  ∀ a, Holds n E a → GA P dr.2 ops (effects P dr.1) (readsM P) (writes dr.1) (fun a' w' => ∃ E', Holds n E' a' ∧ K E' w') l a w

/-- the same, the first operation's guard being met -/
def G1 (o : Oper) (l : List Oper) (E : Env) (w : World) (K : Env → World → Prop) : Prop :=
  ∀ a, Holds n E a → Region.wanted o (yielded ops a.tmps) = true → GA P dr.2 ops (effects P dr.1) (readsM P) (writes dr.1) (fun a' w' => ∃ E', Holds n E' a' ∧ K E' w') (o :: l) a w

/-- the walk of code -/
def W (c : Code) (Q : Exit → Act → World → Prop) (E : Env) (w : World) : Prop := ∀ a, Holds n E a → c.wp P Q a w

end

/-- what is asked at an exit -/
def Post (n : Nat) (Q : Exit → Act → World → Prop) (e : Exit) (E : Env) (w : World) : Prop := ∀ a, Holds n E a → Q e a w

section
variable {P : Program} {n : Nat} {ops : Array Oper} {dr : Nat × List Nat} {l : List Oper} {E : Env} {w : World} {K : Env → World → Prop} {Q : Exit → Act → World → Prop}

theorem G_nil (h : K E w) : G P n ops dr [] E w K := fun _ ha => ⟨E, ha, h⟩

theorem G_on {o : Oper} (hg : gval ops E o.guard = some true) (h : G1 P n ops dr o l E w K) : G P n ops dr (o :: l) E w K :=
  fun a ha => h a ha (wanted_of ha hg)

theorem G_off {o : Oper} (hg : gval ops E o.guard = some false) (hd : dstOk n o.dst = true) (h : G P n ops dr l (E.put o.dst undef) w K) : G P n ops dr (o :: l) E w K :=
  fun _ ha => .inl ⟨undef, .inr ⟨wanted_of ha hg, rfl⟩, h _ (ha.put _ _ (dstOk_spec hd))⟩

/-- the slot on which the guard hangs -/
def gslot (ops : Array Oper) : Option (Nat × Bool) → Option Nat
  | none => none
  | some (j, _) => (ops[j]?).bind (·.dst)

/-- a guard that is not decided yet: both ways, the slot known in each -/
theorem G_split {o : Oper} {t : Nat} {b : Bool} (_ht : gslot ops o.guard = some t) (hb : E.get t = some (.bool b))
    (h1 : b = true → G P n ops dr (o :: l) ((t, .bool true) :: E) w K) (h2 : b = false → G P n ops dr (o :: l) ((t, .bool false) :: E) w K) : G P n ops dr (o :: l) E w K := by
  intro a ha
  have key : ∀ c, b = c → Holds n ((t, .bool c) :: E) a := by
    rintro c rfl
    refine ⟨ha.defers, ha.size, fun s v hs => ?_⟩
    rw [Env.get_cons] at hs
    by_cases e : t = s
    · subst e
      simp only [if_true, Option.some.injEq] at hs
      subst hs
      exact ha.get _ _ hb
    · simp only [e, if_false] at hs
      exact ha.get _ _ hs
  cases b with
  | true => exact h1 rfl a (key _ rfl)
  | false => exact h2 rfl a (key _ rfl)

/-- an operation that only computes or reads -/
theorem G1_quiet {o : Oper} (v : Value) (hd : dstOk n o.dst = true) (hv : ∀ a, Holds n E a → ∀ w', (readsM P o = false ∨ ExtS dr.2 w w') → (execOp a.eval o).run P w' = .ok (.value v) w')
    (h : G P n ops dr l (E.put o.dst v) w K) : G1 P n ops dr o l E w K :=
  fun a ha hw => .inl ⟨v, .inl ⟨hw, hv a ha⟩, h _ (ha.put _ _ (dstOk_spec hd))⟩

/-- an operation that makes or turns memory, and runs in one step -/
theorem G1_eff {o : Oper} (v : Value) (w' : World) (he : effects P dr.1 o = true) (hd : dstOk n o.dst = true) (hv : ∀ a, Holds n E a → (execOp a.eval o).run P w = .ok (.value v) w')
    (hx : writes dr.1 o = true ∨ ExtS dr.2 w w') (h : G P n ops dr l (E.put o.dst v) w' K) : G1 P n ops dr o l E w K :=
  fun a ha hw => .inr ⟨he, hw, by unfold stepX Oper.wp; rw [hv a ha]; exact ⟨hx, h _ (ha.put _ _ (dstOk_spec hd))⟩⟩

/-- the same for an operation without a value -/
theorem G1_skip {o : Oper} (w' : World) (he : effects P dr.1 o = true) (hd : dstOk n o.dst = true) (hv : ∀ a, Holds n E a → (execOp a.eval o).run P w = .ok .skip w')
    (hx : writes dr.1 o = true ∨ ExtS dr.2 w w') (h : G P n ops dr l (E.put o.dst undef) w' K) : G1 P n ops dr o l E w K :=
  fun a ha hw => .inr ⟨he, hw, by unfold stepX Oper.wp; rw [hv a ha]; exact ⟨hx, h _ (ha.put _ _ (dstOk_spec hd))⟩⟩

/-- what a contract says: it returns, and what -/
def Ret (Φ : Value → World → Prop) : Ending → World → Prop := fun e w' => ∃ v, e = .returned v ∧ Φ v w'

/-- function f has a body (its call enters it) -/
def Enters (P : Program) (f : FuncId) : Prop := ∃ fn, P.funcs[f]? = some fn ∧ fn.name ≠ "runtime.NumGoroutine" ∧ fn.body.isNone = false

/-- THE FORM OF A CONTRACT -/
def Ctr (P : Program) (f : FuncId) (args : List Value) (w : World) (Φ : Value → World → Prop) : Prop := Enters P f ∧ Calls P f args.toArray w (Ret Φ)

theorem Ctr.calls {f : FuncId} {args : List Value} {Φ : Value → World → Prop} (h : Ctr P f args w Φ) : Calls P f args.toArray w (Ret Φ) := h.2

theorem Ctr.mono {f : FuncId} {args : List Value} {Φ Φ' : Value → World → Prop} (h : Ctr P f args w Φ) (hh : ∀ v w', Φ v w' → Φ' v w') : Ctr P f args w Φ' :=
  ⟨h.1, h.2.mono fun _ _ ⟨v, he, hv⟩ => ⟨v, he, hh _ _ hv⟩⟩

theorem run_callFunc {f : FuncId} (h : Enters P f) (args : Array Value) (w : World) : (callFunc f args).run P w = .ok (.enter f args) w := by
  obtain ⟨fn, hf, hn, hb⟩ := h
  simp only [callFunc, Sem.run_bind, run_program, Result.andThen_ok, hf]
  have hn' : (fn.name == "runtime.NumGoroutine") = false := by simpa using hn
  simp only [hn', hb, Bool.false_eq_true, if_false, Sem.run_pure]

/-- a call of a function, by its contract -/
theorem G1_call {f : FuncId} {d : Option Nat} {args : Array Operand} {tys : Array TypeId} {ty : TypeId} {pos : String} {af : Array Edge} {g : Option (Nat × Bool)} {vs : List Value} {Φ : Value → World → Prop}
    (hargs : E.looks args.toList = some vs) (he : effects P dr.1 ⟨d, .call ⟨.value (.func f), args, tys⟩, ty, pos, af, g⟩ = true) (hd : dstOk n d = true)
    (hc : Ctr P f vs w Φ) (h : ∀ v w', Φ v w' → (writes dr.1 ⟨d, .call ⟨.value (.func f), args, tys⟩, ty, pos, af, g⟩ = true ∨ Ext w w') ∧ G P n ops dr l (E.put d v) w' K) :
    G1 P n ops dr ⟨d, .call ⟨.value (.func f), args, tys⟩, ty, pos, af, g⟩ l E w K := by
  intro a ha hw
  refine .inr ⟨he, hw, ?_⟩
  have hm : args.map a.eval = vs.toArray := by
    rw [← ha.evals hargs]; apply Array.ext'; simp
  unfold stepX Oper.wp
  have : (execOp a.eval ⟨d, .call ⟨.value (.func f), args, tys⟩, ty, pos, af, g⟩).run P w = .ok (.enter f vs.toArray) w := by
    simp [execOp, resolve, Deferred.ofValue, Act.eval, invoke, hm, run_callFunc hc.1]
  rw [this]
  refine Calls.mono hc.2 ?_
  rintro e w' ⟨v, rfl, hv⟩
  exact ⟨(h v w' hv).1.imp id Ext.toS, (h v w' hv).2 _ (ha.put _ _ (dstOk_spec hd))⟩

/-- the same where it may turn some blocks -/
theorem G1_callS {f : FuncId} {d : Option Nat} {args : Array Operand} {tys : Array TypeId} {ty : TypeId} {pos : String} {af : Array Edge} {g : Option (Nat × Bool)} {vs : List Value} {Φ : Value → World → Prop}
    (hargs : E.looks args.toList = some vs) (he : effects P dr.1 ⟨d, .call ⟨.value (.func f), args, tys⟩, ty, pos, af, g⟩ = true) (hd : dstOk n d = true)
    (hc : Ctr P f vs w Φ) (h : ∀ v w', Φ v w' → (writes dr.1 ⟨d, .call ⟨.value (.func f), args, tys⟩, ty, pos, af, g⟩ = true ∨ ExtS dr.2 w w') ∧ G P n ops dr l (E.put d v) w' K) :
    G1 P n ops dr ⟨d, .call ⟨.value (.func f), args, tys⟩, ty, pos, af, g⟩ l E w K := by
  intro a ha hw
  refine .inr ⟨he, hw, ?_⟩
  have hm : args.map a.eval = vs.toArray := by
    rw [← ha.evals hargs]; apply Array.ext'; simp
  unfold stepX Oper.wp
  have : (execOp a.eval ⟨d, .call ⟨.value (.func f), args, tys⟩, ty, pos, af, g⟩).run P w = .ok (.enter f vs.toArray) w := by
    simp [execOp, resolve, Deferred.ofValue, Act.eval, invoke, hm, run_callFunc hc.1]
  rw [this]
  refine Calls.mono hc.2 ?_
  rintro e w' ⟨v, rfl, hv⟩
  exact ⟨(h v w' hv).1, (h v w' hv).2 _ (ha.put _ _ (dstOk_spec hd))⟩

/-- a call of a function value -/
theorem G1_callv {f : FuncId} {first cap : Array Value} {x : Operand} {d : Option Nat} {args : Array Operand} {tys : Array TypeId} {ty : TypeId} {pos : String} {af : Array Edge} {g : Option (Nat × Bool)} {vs : List Value} {Φ : Value → World → Prop}
    (hf : E.look x = some (.func (.func f) first cap)) (hargs : E.looks args.toList = some vs) (he : effects P dr.1 ⟨d, .call ⟨.value x, args, tys⟩, ty, pos, af, g⟩ = true) (hd : dstOk n d = true)
    (hc : Ctr P f (first.toList ++ vs ++ cap.toList) w Φ) (h : ∀ v w', Φ v w' → (writes dr.1 ⟨d, .call ⟨.value x, args, tys⟩, ty, pos, af, g⟩ = true ∨ Ext w w') ∧ G P n ops dr l (E.put d v) w' K) :
    G1 P n ops dr ⟨d, .call ⟨.value x, args, tys⟩, ty, pos, af, g⟩ l E w K := by
  intro a ha hw
  refine .inr ⟨he, hw, ?_⟩
  have hm : args.map a.eval = vs.toArray := by
    rw [← ha.evals hargs]; apply Array.ext'; simp
  unfold stepX Oper.wp
  have e1 : first ++ vs.toArray ++ cap = (first.toList ++ vs ++ cap.toList).toArray := by
    apply Array.ext'; simp
  have : (execOp a.eval ⟨d, .call ⟨.value x, args, tys⟩, ty, pos, af, g⟩).run P w = .ok (.enter f (first.toList ++ vs ++ cap.toList).toArray) w := by
    rw [← e1]
    simp [execOp, resolve, Deferred.ofValue, ha.eval hf, invoke, hm, run_callFunc hc.1]
  rw [this]
  refine Calls.mono hc.2 ?_
  rintro e w' ⟨v, rfl, hv⟩
  exact ⟨(h v w' hv).1.imp id Ext.toS, (h v w' hv).2 _ (ha.put _ _ (dstOk_spec hd))⟩

/- code -/

theorem W_seq {x y : Code} (h : W P n x (Exit.then (y.wp P Q) Q) E w) : W P n (.seq x y) Q E w := fun a ha => wp_seq (h a ha)
theorem W_skip (h : Post n Q .normal E w) : W P n .skip Q E w := fun a ha => wp_skip (h a ha)
theorem W_exit {id : Nat} (h : Post n Q (.exit id) E w) : W P n (.exit id) Q E w := fun a ha => wp_exit (h a ha)
theorem W_ret (h : Post n Q .ret E w) : W P n .ret Q E w := fun a ha => wp_ret (h a ha)
theorem W_block {id : Nat} {c : Code} (h : W P n c (Exit.inBlock id Q) E w) : W P n (.block id c) Q E w := fun a ha => wp_block (h a ha)
theorem W_cond {c : Operand} {x y : Code} {b : Bool} (hc : E.look c = some (.bool b)) (h1 : b = true → W P n x Q E w) (h2 : b = false → W P n y Q E w) : W P n (.cond c x y) Q E w :=
  fun a ha => wp_cond_split (ha.eval hc) (fun h => h1 h a ha) (fun h => h2 h a ha)
theorem W_cond_true {c : Operand} {x y : Code} (hc : E.look c = some (.bool true)) (h : W P n x Q E w) : W P n (.cond c x y) Q E w :=
  fun a ha => wp_cond_true (ha.eval hc) (h a ha)
theorem W_cond_false {c : Operand} {x y : Code} (hc : E.look c = some (.bool false)) (h : W P n y Q E w) : W P n (.cond c x y) Q E w :=
  fun a ha => wp_cond_false (ha.eval hc) (h a ha)

theorem W_region {id : Nat} {l : List Oper} (h : G P n l.toArray (0, []) l E w (Post n Q .normal)) : W P n (.region id l.toArray false) Q E w := by
  intro a ha
  refine wp_region ?_
  have := GA_seq (P := P) (S := []) (ops := l.toArray) (ef := effects P 0) (rd := readsM P) (wr := writes 0) (Q := Q) (K := fun a' w' => ∃ E', Holds n E' a' ∧ Post n Q .normal E' w')
    (fun a _ ⟨_, hE, hp⟩ => hp a hE) l.length 0 l a w rfl (by simp) (h a ha)
  simpa [List.range_eq_range'] using this

theorem W_drawn {id : Nat} {l : List Oper} (k : Nat) (S : List Nat) (c : List Nat) (hm : P.follows .mixedOrders = true)
    (hc : (Region.noSelect l.toArray && okc l.toArray (effects P k) (readsM P) (writes k) c (Array.replicate l.length false) && Nat.beq c.length l.length) = true)
    (h : G P n l.toArray (k, S) (c.map fun i => l.toArray.getD i default) E w.drew (Post n Q .normal)) : W P n (.region id l.toArray true) Q E w := by
  intro a ha
  simp only [Bool.and_eq_true] at hc
  refine wp_region_any hm (wpAny_of_wpX (S := S) (wr := writes k) (K := fun a' w' => ∃ E', Holds n E' a' ∧ Post n Q .normal E' w') (fun a _ ⟨_, hE, hp⟩ => hp a hE) _ _ _ _ ?_)
  have hl : c.length = l.length := by simpa using hc.2
  have := GA_sound (P := P) hc.1.1 c (Array.replicate l.length false) a { w with drawn := w.drawn + 1 } hc.1.2 (h a ha)
  rw [hl] at this
  simpa using this

/-- what is asked at the end of a round -/
def LoopK {ι : Type} (n : Nat) (I : ι → Env) (J : ι → World → Prop) (μ : ι → Nat) (y : ι) : Act → World → Prop := fun a' w' => ∃ z, Holds n (I z) a' ∧ J z w' ∧ μ z < μ y

/-- a loop: ghost state x; the environment and the fact at each round's head -/
theorem W_loop {ι : Type} {c : Code} (I : ι → Env) (J : ι → World → Prop) (μ : ι → Nat) (x : ι) (hE : Env.sub (I x) E) (hJ : J x w)
    (step : ∀ y v, J y v → W P n c (Exit.then (LoopK n I J μ y) Q) (I y) v) : W P n (.loop c) Q E w := by
  intro a ha b k cs
  have key : ∀ m y a w, μ y = m → Holds n (I y) a → J y w →
      ∃ e a' w', Q e a' w' ∧ Arrives P (lone (b.at a (.code c :: .inLoop c :: k)) cs w) b k cs e a' w' := by
    intro m
    induction m using Nat.strongRecOn with
    | _ m ih =>
      intro y a w hm hI hJ
      obtain ⟨e, a₁, w₁, hq, harr⟩ := step y w hJ a hI b (.inLoop c :: k) cs
      cases e with
      | normal =>
        obtain ⟨z, hz, hjz, hlt⟩ := hq
        obtain ⟨e₂, a₂, w₂, hq₂, harr₂⟩ := ih (μ z) (hm ▸ hlt) z a₁ w₁ rfl hz hjz
        exact ⟨e₂, a₂, w₂, hq₂, .of_steps (Steps.trans harr (.one step_inLoop)) harr₂⟩
      | exit id => exact ⟨_, a₁, w₁, hq, .pass (x := .inLoop c) rfl (fun _ _ => .inl (by simp)) harr⟩
      | goto l => exact ⟨_, a₁, w₁, hq, .pass (x := .inLoop c) rfl (fun _ _ => .inl (by simp)) harr⟩
      | ret => exact ⟨_, a₁, w₁, hq, .pass (x := .inLoop c) rfl (fun _ _ => .inl (by simp)) harr⟩
      | panic ch => exact ⟨_, a₁, w₁, hq, .pass (x := .inLoop c) rfl (fun _ _ => .inl (by simp)) harr⟩
      | outgrown => exact ⟨_, a₁, w₁, hq, .pass (x := .inLoop c) rfl (fun _ _ => .inl (by simp)) harr⟩
  obtain ⟨e, a', w', hq, harr⟩ := key _ x a w rfl (ha.sub hE) hJ
  exact ⟨e, a', w', hq, .of_steps (.one step_loop) harr⟩



theorem Post_round {ι : Type} {I : ι → Env} {J : ι → World → Prop} {μ : ι → Nat} {y : ι} (z : ι) (hE : Env.sub (I z) E) (hJ : J z w) (hμ : μ z < μ y) : Post n (Exit.then (LoopK n I J μ y) Q) .normal E w :=
  fun _ ha => ⟨z, ha.sub hE, hJ, hμ⟩
theorem Post_next {y : Code} (h : W P n y Q E w) : Post n (Exit.then (y.wp P Q) Q) .normal E w := h
theorem Post_then_ret {k : Act → World → Prop} (h : Post n Q .ret E w) : Post n (Exit.then k Q) .ret E w := h
theorem Post_then_exit {k : Act → World → Prop} {id : Nat} (h : Post n Q (.exit id) E w) : Post n (Exit.then k Q) (.exit id) E w := h
theorem Post_block_normal {id : Nat} (h : Post n Q .normal E w) : Post n (Exit.inBlock id Q) .normal E w := h
theorem Post_block_ret {id : Nat} (h : Post n Q .ret E w) : Post n (Exit.inBlock id Q) .ret E w := h
theorem Post_block_exit {id : Nat} (h : Post n Q .normal E w) : Post n (Exit.inBlock id Q) (.exit id) E w := fun a ha => by
  simp only [Exit.inBlock, if_true]; exact h a ha
theorem Post_block_other {id id' : Nat} (hne : Nat.beq id' id = false) (h : Post n Q (.exit id') E w) : Post n (Exit.inBlock id Q) (.exit id') E w := fun a ha => by
  have : id' ≠ id := by rintro rfl; simp at hne
  simp only [Exit.inBlock, this, if_false]; exact h a ha

/- functions -/

def argEnv : Nat → List Value → Env
  | _, [] => []
  | k, v :: vs => (k, v) :: argEnv (k + 1) vs

theorem argEnv_get : ∀ (vs : List Value) (k t : Nat) (v : Value), (argEnv k vs).get t = some v → k ≤ t ∧ vs[t - k]? = some v
  | [], k, t, v, h => by simp [argEnv, Env.get] at h
  | u :: vs, k, t, v, h => by
    rw [argEnv, Env.get_cons] at h
    by_cases e : k = t
    · subst e
      simp only [if_true, Option.some.injEq] at h
      subst h
      simp
    · simp only [e, if_false] at h
      obtain ⟨h1, h2⟩ := argEnv_get vs (k + 1) t v h
      refine ⟨by omega, ?_⟩
      obtain ⟨m, rfl⟩ : ∃ m, t = k + 1 + m := ⟨t - (k + 1), by omega⟩
      have e1 : k + 1 + m - (k + 1) = m := by omega
      have e2 : k + 1 + m - k = m + 1 := by omega
      rw [e1] at h2
      rw [e2]
      simpa using h2

theorem Ctr_of {f : FuncId} {fn : Func} {c : Code} {args : List Value} {Φ : Value → World → Prop} {m : Nat} (hf : P.funcs[f]? = some fn) (hm : fn.ntmps = m) (hb : fn.body = some c)
    (hname : (fn.name == "runtime.NumGoroutine") = false) (hn : Nat.ble args.length m = true) (h : W P m c (bodyPost P fn (Ret Φ)) (argEnv 0 args) w) : Ctr P f args w Φ := by
  refine ⟨⟨fn, hf, by simpa using hname, by simp [hb]⟩, ?_⟩
  refine calls_of_wp hf hb (h _ ⟨rfl, ?_, fun t v ht => ?_⟩)
  · have := Nat.le_of_ble_eq_true hn
    simp [hm]; omega
  · obtain ⟨_, h2⟩ := argEnv_get args 0 t v ht
    simp only [Nat.sub_zero] at h2
    have hlt : t < args.length := by
      rcases Nat.lt_or_ge t args.length with h | h
      · exact h
      · rw [List.getElem?_eq_none h] at h2; cases h2
    rw [Array.getElem?_append_left (by simpa using hlt)]
    simpa using h2

/-- the results as they stand in slots or in memory -/
def ResOk (P : Program) (E : Env) (w : World) : List ResultVar → List Value → Prop
  | [], vs => vs = []
  | .tmp t :: rs, vs => ∃ v us, vs = v :: us ∧ E.get t = some v ∧ ResOk P E w rs us
  | .cell a t :: rs, vs => ∃ v us p, vs = v :: us ∧ E.get a = some (.pointer (some p)) ∧ (loadVar t p).run P w = .ok v w ∧ ResOk P E w rs us

def resVal : List Value → Value
  | [v] => v
  | vs => .tuple vs.toArray

def resOne (tmps : Array Value) : ResultVar → Sem Value
  | .tmp t => pure (tmps.getD t undef)
  | .cell x t => asAddr (tmps.getD x undef) >>= loadVar t

theorem results_eq (fn : Func) (tmps : Array Value) : results fn tmps = (fn.results.mapM (resOne tmps) >>= fun vs => pure (if h : vs.size = 1 then vs[0] else .tuple vs)) := by
  rfl

theorem ResOk.run {a : Act} (ha : Holds n E a) : ∀ {rs : List ResultVar} {vs : List Value}, ResOk P E w rs vs → (rs.mapM (resOne a.tmps) : Sem (List Value)).run P w = .ok vs w
  | [], vs, h => by simp only [ResOk] at h; subst h; rfl
  | .tmp t :: rs, vs, h => by
    obtain ⟨v, us, rfl, h1, h2⟩ := h
    have e : a.tmps.getD t undef = v := by simp [ha.get t v h1]
    simp only [List.mapM_cons, Sem.run_bind, resOne, e, Sem.run_pure, Result.andThen_ok, ResOk.run ha h2]
  | .cell x t :: rs, vs, h => by
    obtain ⟨v, us, p, rfl, h1, h2, h3⟩ := h
    have e : a.tmps.getD x undef = .pointer (some p) := by simp [ha.get x _ h1]
    have e2 : asAddr (.pointer (some p)) = pure p := rfl
    simp only [List.mapM_cons, Sem.run_bind, resOne, e, e2, Sem.run_pure, Result.andThen_ok, h2, ResOk.run ha h3]

theorem Post_ret {fn : Func} {rs : List ResultVar} {vs : List Value} {Φ : Value → World → Prop} (hr : fn.results = rs.toArray) (h : ResOk P E w rs vs) (hΦ : Φ (resVal vs) w) : Post n (bodyPost P fn (Ret Φ)) .ret E w := by
  intro a ha
  refine ⟨ha.defers, resVal vs, ?_, _, rfl, hΦ⟩
  have := ResOk.run (P := P) (w := w) ha h
  simp only [results_eq, hr, List.mapM_toArray, Sem.run_bind, Sem.run_map, this, Result.andThen_ok, Sem.run_pure]
  cases vs with
  | nil => rfl
  | cons v us => cases us with
    | nil => rfl
    | cons u us => simp [resVal]

theorem Post_end {fn : Func} {rs : List ResultVar} {vs : List Value} {Φ : Value → World → Prop} (hr : fn.results = rs.toArray) (h : ResOk P E w rs vs) (hΦ : Φ (resVal vs) w) : Post n (bodyPost P fn (Ret Φ)) .normal E w :=
  Post_ret hr h hΦ

/-- forget slots -/
theorem W_keep {c : Code} (E' : Env) (hs : Env.sub E' E) (h : W P n c Q E' w) : W P n c Q E w := fun a ha => h a (ha.sub hs)

theorem W_cond_dec {c : Operand} {x y : Code} {p : Prop} {inst : Decidable p} (hc : E.look c = some (.bool (@decide p inst))) (h1 : p → W P n x Q E w) (h2 : ¬ p → W P n y Q E w) : W P n (.cond c x y) Q E w :=
  W_cond hc (fun h => h1 (of_decide_eq_true h)) (fun h => h2 (of_decide_eq_false h))
theorem G_split_dec {o : Oper} {t : Nat} {p : Prop} {inst : Decidable p} (ht : gslot ops o.guard = some t) (hb : E.get t = some (.bool (@decide p inst)))
    (h1 : p → G P n ops dr (o :: l) ((t, .bool true) :: E) w K) (h2 : ¬ p → G P n ops dr (o :: l) ((t, .bool false) :: E) w K) : G P n ops dr (o :: l) E w K :=
  G_split ht hb (fun h => h1 (of_decide_eq_true h)) (fun h => h2 (of_decide_eq_false h))

end
attribute [irreducible] G G1 W Post Ctr LoopK
end Go.V

/- Rules for the operations, one each. -/

namespace Go.V
open Go.RowKit

/- types, as the program's tables have them -/
def IntT (P : Program) (t : TypeId) (k : IntKind) : Prop := P.underlying t = some (.int k)
def SliceT (P : Program) (t e sz by_ : Nat) : Prop :=
  P.underlying t = some (.slice e) ∧ ∃ i z, P.info? e = some i ∧ i.size = sz ∧ i.bytes = by_ ∧ i.zero = some z ∧ z.cells.size = sz
def PlainT (P : Program) (t : TypeId) : Prop := ∀ w, (isAgg t).run P w = .ok false w
def AggT (P : Program) (t sz : Nat) : Prop := (∀ w, (isAgg t).run P w = .ok true w) ∧ ∃ i, P.info? t = some i ∧ i.size = sz
def SizeT (P : Program) (t sz : Nat) : Prop := ∃ i, P.info? t = some i ∧ i.size = sz
def StrT (P : Program) (t : TypeId) : Prop := P.underlying t = some .string
/-- field k of struct type t lies at cell off, and is of one cell (no struct, no array) -/
def FieldT (P : Program) (t k off : Nat) : Prop := ∃ fs f, P.underlying t = some (.struct fs) ∧ fs[k]? = some f ∧ f.offset = off ∧ ∃ i, P.info? f.type = some i ∧ i.size ≠ 0

theorem SliceT.of {P : Program} {t e sz by_ : Nat} (h1 : P.underlying t = some (.slice e)) (h2 : (P.info? e).map (fun i => (i.size, i.bytes, i.zero.map (·.cells.size))) = some (sz, by_, some sz)) : SliceT P t e sz by_ := by
  refine ⟨h1, ?_⟩
  cases hi : P.info? e with
  | none => simp [hi] at h2
  | some i =>
    simp only [hi, Option.map_some, Option.some.injEq, Prod.mk.injEq] at h2
    obtain ⟨a, b, c⟩ := h2
    cases hz : i.zero with
    | none => simp [hz] at c
    | some z => simp only [hz, Option.map_some, Option.some.injEq] at c; exact ⟨i, z, rfl, a, b, hz, c⟩

theorem PlainT.of {P : Program} {t : TypeId} {d : TypeDesc} (h : P.underlying t = some d) (hd : (match d with | .struct _ => false | .array _ _ => false | _ => true) = true) : PlainT P t := by
  intro w
  unfold isAgg
  simp only [Sem.run_bind, run_underlying h, Result.andThen_ok]
  cases d <;> simp_all

theorem AggT.of {P : Program} {t sz : Nat} {d : TypeDesc} (h : P.underlying t = some d) (hd : (match d with | .struct _ => true | .array _ _ => true | _ => false) = true) (hs : (P.info? t).map (·.size) = some sz) : AggT P t sz := by
  refine ⟨fun w => ?_, ?_⟩
  · unfold isAgg
    simp only [Sem.run_bind, run_underlying h, Result.andThen_ok]
    cases d <;> simp_all
  · cases hi : P.info? t with
    | none => simp [hi] at hs
    | some i => exact ⟨i, by first | rfl | exact hi, by simpa [hi] using hs⟩

theorem SizeT.of {P : Program} {t sz : Nat} (hs : (P.info? t).map (·.size) = some sz) : SizeT P t sz := by
  cases hi : P.info? t with
  | none => simp [hi] at hs
  | some i => exact ⟨i, by first | rfl | exact hi, by simpa [hi] using hs⟩

def fieldOf (P : Program) (t k : Nat) : Option (Nat × Bool) :=
  match P.underlying t with
  | some (.struct fs) => match fs[k]? with
    | some f => match P.info? f.type with
      | some i => some (f.offset, i.size != 0)
      | none => none
    | none => none
  | _ => none

theorem FieldT.of {P : Program} {t k off : Nat} (h : fieldOf P t k = some (off, true)) : FieldT P t k off := by
  unfold fieldOf at h
  split at h
  · rename_i fs h1
    split at h
    · rename_i f h2
      split at h
      · rename_i i h3
        simp at h
        exact ⟨fs, f, h1, h2, h.1, i, h3, h.2⟩
      · simp at h
    · simp at h
  · simp at h

/- strings -/
def blt (s t : ByteArray) : Bool := Op.bytesLess s.data.toList t.data.toList
def bget (s : ByteArray) (i : Nat) : UInt8 := s.data.getD i 0

theorem toList_data (s : ByteArray) : s.toList = s.data.toList := by simp [ByteArray.toList_eq]

theorem str_eq (s t : ByteArray) : (s.toList == t.toList) = decide (s = t) := by
  rw [Bool.eq_iff_iff]
  simp only [toList_data, beq_iff_eq, decide_eq_true_eq]
  constructor
  · intro h; cases s; cases t; simp_all
  · rintro rfl; rfl

def adr (p : Option Addr) (k : Nat) : Addr := match p with
  | some a => ⟨a.block, a.off + k, none⟩
  | none => ⟨0, k, none⟩

theorem adr_add (p : Option Addr) (k m : Nat) : (adr p k).add m = adr p (k + m) := by
  cases p <;> simp [adr, Addr.add, Nat.add_assoc] <;> (intro h; simp [h])

theorem addr_add (b o k : Nat) : (⟨b, o, none⟩ : Addr).add k = ⟨b, o + k, none⟩ := by
  unfold Addr.add; split <;> simp_all

theorem wrap_i64 {n : Int} (h1 : -9223372036854775808 ≤ n) (h2 : n ≤ 9223372036854775807) : IntKind.i64.wrap n = n := IntWalk.i64_in n ⟨h1, h2⟩
theorem wrap_u8 {n : Int} (h1 : 0 ≤ n) (h2 : n ≤ 255) : IntKind.u8.wrap n = n := IntWalk.u8_in n ⟨h1, h2⟩
theorem wrap_u64 {n : Int} (h1 : 0 ≤ n) (h2 : n ≤ 18446744073709551615) : IntKind.u64.wrap n = n := IntWalk.u64_in n ⟨h1, h2⟩

theorem eqIn_bool {P : Program} {t : TypeId} (hu : P.underlying t = some .bool) (b b' : Bool) (w : World) (d : Nat) : (Op.equalIn (d + 1) t (.bool b) (.bool b')).run P w = .ok (b == b') w := by
  simp only [Op.equalIn, Sem.run_bind, run_underlying hu, Result.andThen_ok]; rfl
section
variable {P : Program} {n : Nat} {ops : Array Oper} {dr : Nat × List Nat} {l : List Oper} {E : Env} {w : World} {K : Env → World → Prop}
variable {d : Option Nat} {ty : TypeId} {pos : String} {af : Array Edge} {g : Option (Nat × Bool)} {x y c : Operand} {k k' k2 : IntKind} {i j m : Int} {t t' t2 : TypeId} {v v2 : Value}

theorem G1_move (hx : E.look x = some v) (hd : dstOk n d = true) (h : G P n ops dr l (E.put d v) w K) : G1 P n ops dr ⟨d, .move x, ty, pos, af, g⟩ l E w K :=
  G1_quiet v hd (fun a ha w' _ => by simp [execOp, ha.eval hx]) h
theorem G1_assign (hx : E.look x = some v) (hd : dstOk n d = true) (h : G P n ops dr l (E.put d v) w K) : G1 P n ops dr ⟨d, .assign x, ty, pos, af, g⟩ l E w K :=
  G1_quiet v hd (fun a ha w' _ => by simp [execOp, ha.eval hx]) h
theorem G1_pick_t (hc : E.look c = some (.bool true)) (hx : E.look x = some v) (hd : dstOk n d = true) (h : G P n ops dr l (E.put d v) w K) : G1 P n ops dr ⟨d, .pick c x y, ty, pos, af, g⟩ l E w K :=
  G1_quiet v hd (fun a ha w' _ => by simp [execOp, ha.eval hx, ha.eval hc, asBool]) h
theorem G1_pick_f (hc : E.look c = some (.bool false)) (hx : E.look y = some v) (hd : dstOk n d = true) (h : G P n ops dr l (E.put d v) w K) : G1 P n ops dr ⟨d, .pick c x y, ty, pos, af, g⟩ l E w K :=
  G1_quiet v hd (fun a ha w' _ => by simp [execOp, ha.eval hx, ha.eval hc, asBool]) h

/- integers -/
theorem G1_eql (hx : E.look x = some (.int k i)) (hy : E.look y = some (.int k j)) (hd : dstOk n d = true) (h : G P n ops dr l (E.put d (.bool (decide (i = j)))) w K) : G1 P n ops dr ⟨d, .binOp .eql t x y t', ty, pos, af, g⟩ l E w K :=
  G1_quiet _ hd (fun a ha w' _ => by simp [execOp, ha.eval hx, ha.eval hy, eqGuard, binOp, Op.intCmp]; rfl) h
theorem G1_neq (hx : E.look x = some (.int k i)) (hy : E.look y = some (.int k j)) (hd : dstOk n d = true) (h : G P n ops dr l (E.put d (.bool (decide (¬ i = j)))) w K) : G1 P n ops dr ⟨d, .binOp .neq t x y t', ty, pos, af, g⟩ l E w K :=
  G1_quiet _ hd (fun a ha w' _ => by simp [execOp, ha.eval hx, ha.eval hy, eqGuard, binOp, Op.intCmp]; rfl) h
theorem G1_lss (hx : E.look x = some (.int k i)) (hy : E.look y = some (.int k j)) (hd : dstOk n d = true) (h : G P n ops dr l (E.put d (.bool (decide (i < j)))) w K) : G1 P n ops dr ⟨d, .binOp .lss t x y t', ty, pos, af, g⟩ l E w K :=
  G1_quiet _ hd (fun a ha w' _ => by simp [execOp, ha.eval hx, ha.eval hy, eqGuard, binOp, Op.intCmp]) h
theorem G1_leq (hx : E.look x = some (.int k i)) (hy : E.look y = some (.int k j)) (hd : dstOk n d = true) (h : G P n ops dr l (E.put d (.bool (decide (i ≤ j)))) w K) : G1 P n ops dr ⟨d, .binOp .leq t x y t', ty, pos, af, g⟩ l E w K :=
  G1_quiet _ hd (fun a ha w' _ => by simp [execOp, ha.eval hx, ha.eval hy, eqGuard, binOp, Op.intCmp]) h
theorem G1_gtr (hx : E.look x = some (.int k i)) (hy : E.look y = some (.int k j)) (hd : dstOk n d = true) (h : G P n ops dr l (E.put d (.bool (decide (j < i)))) w K) : G1 P n ops dr ⟨d, .binOp .gtr t x y t', ty, pos, af, g⟩ l E w K :=
  G1_quiet _ hd (fun a ha w' _ => by simp [execOp, ha.eval hx, ha.eval hy, eqGuard, binOp, Op.intCmp]) h
theorem G1_geq (hx : E.look x = some (.int k i)) (hy : E.look y = some (.int k j)) (hd : dstOk n d = true) (h : G P n ops dr l (E.put d (.bool (decide (j ≤ i)))) w K) : G1 P n ops dr ⟨d, .binOp .geq t x y t', ty, pos, af, g⟩ l E w K :=
  G1_quiet _ hd (fun a ha w' _ => by simp [execOp, ha.eval hx, ha.eval hy, eqGuard, binOp, Op.intCmp]) h
theorem G1_add (hx : E.look x = some (.int .i64 i)) (hy : E.look y = some (.int .i64 j)) (h1 : -9223372036854775808 ≤ i + j) (h2 : i + j ≤ 9223372036854775807) (hd : dstOk n d = true)
    (h : G P n ops dr l (E.put d (.int .i64 (i + j))) w K) : G1 P n ops dr ⟨d, .binOp .add t x y t', ty, pos, af, g⟩ l E w K :=
  G1_quiet _ hd (fun a ha w' _ => by simp [execOp, ha.eval hx, ha.eval hy, eqGuard, binOp, Op.intArith, wrap_i64 h1 h2]) h
theorem G1_sub (hx : E.look x = some (.int .i64 i)) (hy : E.look y = some (.int .i64 j)) (h1 : -9223372036854775808 ≤ i - j) (h2 : i - j ≤ 9223372036854775807) (hd : dstOk n d = true)
    (h : G P n ops dr l (E.put d (.int .i64 (i - j))) w K) : G1 P n ops dr ⟨d, .binOp .sub t x y t', ty, pos, af, g⟩ l E w K :=
  G1_quiet _ hd (fun a ha w' _ => by simp [execOp, ha.eval hx, ha.eval hy, eqGuard, binOp, Op.intArith, wrap_i64 h1 h2]) h
theorem G1_rem (hx : E.look x = some (.int k i)) (hy : E.look y = some (.int k j)) (h0 : j ≠ 0) (hd : dstOk n d = true)
    (h : G P n ops dr l (E.put d (.int k (i.tmod j))) w K) : G1 P n ops dr ⟨d, .binOp .rem t x y t', ty, pos, af, g⟩ l E w K :=
  G1_quiet _ hd (fun a ha w' _ => by simp [execOp, ha.eval hx, ha.eval hy, eqGuard, binOp, Op.intDiv, h0]) h
theorem G1_shr (hx : E.look x = some (.int k i)) (hy : E.look y = some (.int k' j)) (h0 : 0 ≤ j) (hd : dstOk n d = true)
    (h : G P n ops dr l (E.put d (.int k (i.fdiv (2 ^ min j.toNat k.bits)))) w K) : G1 P n ops dr ⟨d, .binOp .shr t x y t', ty, pos, af, g⟩ l E w K :=
  G1_quiet _ hd (fun a ha w' _ => by simp [execOp, ha.eval hx, ha.eval hy, eqGuard, binOp, Op.shift, Int.not_lt.2 h0]) h
theorem G1_min (hx : E.look x = some (.int k i)) (hy : E.look y = some (.int k j)) (hd : dstOk n d = true) (h : G P n ops dr l (E.put d (.int k (min i j))) w K) : G1 P n ops dr ⟨d, .call ⟨.builtin .min, #[x, y], #[t, t']⟩, ty, pos, af, g⟩ l E w K :=
  G1_quiet _ hd (fun a ha w' _ => by
    have : min i j = if j < i then j else i := by split <;> omega
    simp [execOp, resolve, invoke, builtin, Builtin.min_, ha.eval hx, ha.eval hy, Builtin.min2, this]) h
theorem G1_max (hx : E.look x = some (.int k i)) (hy : E.look y = some (.int k j)) (hd : dstOk n d = true) (h : G P n ops dr l (E.put d (.int k (max i j))) w K) : G1 P n ops dr ⟨d, .call ⟨.builtin .max, #[x, y], #[t, t']⟩, ty, pos, af, g⟩ l E w K :=
  G1_quiet _ hd (fun a ha w' _ => by
    have : max i j = if i < j then j else i := by split <;> omega
    simp [execOp, resolve, invoke, builtin, Builtin.max_, ha.eval hx, ha.eval hy, Builtin.max2, this]) h
theorem G1_conv (hx : E.look x = some (.int k i)) (hs : IntT P t k2) (ht : IntT P t' k') (hd : dstOk n d = true) (h : G P n ops dr l (E.put d (.int k' (k'.wrap i))) w K) : G1 P n ops dr ⟨d, .convert t t' x, ty, pos, af, g⟩ l E w K :=
  G1_quiet _ hd (fun a ha w' _ => by simp [execOp, convert, ha.eval hx, run_underlying (P := P) hs, run_underlying (P := P) ht, Conv.intToInt]) h

/- truth values -/
theorem G1_not_t (hx : E.look x = some (.bool true)) (hd : dstOk n d = true) (h : G P n ops dr l (E.put d (.bool false)) w K) : G1 P n ops dr ⟨d, .unOp .not t x, ty, pos, af, g⟩ l E w K :=
  G1_quiet _ hd (fun a ha w' _ => by simp [execOp, ha.eval hx, Op.unary]) h
theorem G1_not_f (hx : E.look x = some (.bool false)) (hd : dstOk n d = true) (h : G P n ops dr l (E.put d (.bool true)) w K) : G1 P n ops dr ⟨d, .unOp .not t x, ty, pos, af, g⟩ l E w K :=
  G1_quiet _ hd (fun a ha w' _ => by simp [execOp, ha.eval hx, Op.unary]) h
theorem G1_not {b : Bool} (hx : E.look x = some (.bool b)) (hd : dstOk n d = true) (h : G P n ops dr l (E.put d (.bool (!b))) w K) : G1 P n ops dr ⟨d, .unOp .not t x, ty, pos, af, g⟩ l E w K :=
  G1_quiet _ hd (fun a ha w' _ => by simp [execOp, ha.eval hx, Op.unary]) h
theorem G1_seql {s u : ByteArray} (hx : E.look x = some (.string s)) (hy : E.look y = some (.string u)) (hd : dstOk n d = true) (h : G P n ops dr l (E.put d (.bool (decide (s = u)))) w K) : G1 P n ops dr ⟨d, .binOp .eql t x y t', ty, pos, af, g⟩ l E w K :=
  G1_quiet _ hd (fun a ha w' _ => by simp only [execOp, ha.eval hx, ha.eval hy, eqGuard, binOp, Op.stringOp, str_eq]; rfl) h
theorem G1_sneq {s u : ByteArray} (hx : E.look x = some (.string s)) (hy : E.look y = some (.string u)) (hd : dstOk n d = true) (h : G P n ops dr l (E.put d (.bool (decide (¬ s = u)))) w K) : G1 P n ops dr ⟨d, .binOp .neq t x y t', ty, pos, af, g⟩ l E w K :=
  G1_quiet _ hd (fun a ha w' _ => by simp only [execOp, ha.eval hx, ha.eval hy, eqGuard, binOp, Op.stringOp, str_eq, decide_not]; rfl) h
theorem G1_sadd {s u : ByteArray} (hx : E.look x = some (.string s)) (hy : E.look y = some (.string u)) (hl : s.size + u.size ≤ 9223372036854775807) (hd : dstOk n d = true) (h : G P n ops dr l (E.put d (.string (s ++ u))) w K) : G1 P n ops dr ⟨d, .binOp .add t x y t', ty, pos, af, g⟩ l E w K :=
  G1_quiet _ hd (fun a ha w' _ => by
    have : ¬ ((s.size + u.size : Nat) : Int) > IntKind.i64.max := by have e : IntKind.i64.max = 9223372036854775807 := by decide
                                                                     rw [e]; omega
    simp only [execOp, ha.eval hx, ha.eval hy, eqGuard, binOp, Op.stringOp, this, if_false]; rfl) h
theorem G1_slen {s : ByteArray} (hu : StrT P t) (hx : E.look x = some (.string s)) (hd : dstOk n d = true) (h : G P n ops dr l (E.put d (.int .i64 s.size)) w K) : G1 P n ops dr ⟨d, .call ⟨.builtin .len, #[x], #[t]⟩, ty, pos, af, g⟩ l E w K :=
  G1_quiet _ hd (fun a ha w' _ => by simp [execOp, resolve, invoke, builtin, Builtin.len_, ha.eval hx, run_underlying (P := P) hu, goInt]) h
theorem G1_sindex {s : ByteArray} (hu : StrT P t) (hx : E.look x = some (.string s)) (hy : E.look y = some (.int k i)) (h0 : 0 ≤ i) (h1 : i < s.size) (hd : dstOk n d = true)
    (h : G P n ops dr l (E.put d (.int .u8 (bget s i.toNat).toNat)) w K) : G1 P n ops dr ⟨d, .index t x y, ty, pos, af, g⟩ l E w K :=
  G1_quiet _ hd (fun a ha w' _ => by
    have hlt : i.toNat < s.size := by omega
    have e : s[i.toNat]? = some (bget s i.toNat) := by
      rw [getElem?_pos s i.toNat hlt]
      have hlt' : i.toNat < s.data.size := hlt
      simp only [bget, Array.getD, hlt', dite_true]; rfl
    simp [execOp, Instr.index, ha.eval hx, ha.eval hy, asIntOf, run_underlying (P := P) hu, h0, e]) h

/- functions, tuples -/
theorem G1_extract {vs : Array Value} {q : Nat} (hx : E.look x = some (.tuple vs)) (hv : vs[q]? = some v) (hd : dstOk n d = true) (h : G P n ops dr l (E.put d v) w K) : G1 P n ops dr ⟨d, .extract x q, ty, pos, af, g⟩ l E w K :=
  G1_quiet _ hd (fun a ha w' _ => by simp [execOp, Instr.extract, ha.eval hx, hv]) h
theorem G1_makeFunc {fn : Fn} {cs : Array Operand} {vs : List Value} (hx : E.looks cs.toList = some vs) (hd : dstOk n d = true) (h : G P n ops dr l (E.put d (.func fn #[] vs.toArray)) w K) : G1 P n ops dr ⟨d, .makeFunc fn #[] cs, ty, pos, af, g⟩ l E w K :=
  G1_quiet _ hd (fun a ha w' _ => by
    have hm : cs.map a.eval = vs.toArray := by rw [← ha.evals hx]; apply Array.ext'; simp
    simp [execOp, Instr.makeFunc, hm]) h
theorem G1_nilCheck {a : Addr} (hx : E.look x = some (.pointer (some a))) (hd : dstOk n d = true) (h : G P n ops dr l (E.put d (.pointer (some a))) w K) : G1 P n ops dr ⟨d, .nilCheck x, ty, pos, af, g⟩ l E w K :=
  G1_quiet _ hd (fun a ha w' _ => by simp [execOp, ha.eval hx]) h
theorem G1_nilCheckF {fn : FuncId} {q r : Array Value} (hx : E.look x = some (.func (.func fn) q r)) (hd : dstOk n d = true) (h : G P n ops dr l (E.put d (.func (.func fn) q r)) w K) : G1 P n ops dr ⟨d, .nilCheck x, ty, pos, af, g⟩ l E w K :=
  G1_quiet _ hd (fun a ha w' _ => by simp [execOp, ha.eval hx]) h

end
end Go.V

/- Memory: slices that read as lists, rows of the call's own, boxes; the rules for the operations on them. -/

namespace Go.V
open Go.RowKit

def hcell (H : Array Obj) (a : Addr) : Option Value :=
  match H[a.block]? with
  | some (.cells c _ _) => if a.spot.isSome then none else c[a.off]?
  | _ => none

theorem cell_eq (w : World) (a : Addr) : w.cell? a = hcell w.heap a := rfl

theorem hcell_block {H H' : Array Obj} {a : Addr} (h : H'[a.block]? = H[a.block]?) : hcell H' a = hcell H a := by simp [hcell, h]

theorem hcell_lt {H : Array Obj} {a : Addr} {v : Value} (h : hcell H a = some v) : a.block < H.size := by
  rcases Nat.lt_or_ge a.block H.size with h' | h'
  · exact h'
  · simp [hcell, Array.getElem?_eq_none h'] at h

theorem Ext.cell {w w' : World} (h : Ext w w') {a : Addr} {v : Value} (hc : hcell w.heap a = some v) : hcell w'.heap a = some v := by
  rw [hcell_block (h.block _ (hcell_lt hc))]; exact hc
theorem Ext.blk {w w' : World} (h : Ext w w') {b : Nat} {o : Obj} (hc : w.heap[b]? = some o) : w'.heap[b]? = some o := by
  rw [h.block _ (Array.getElem?_eq_some_iff.1 hc).1]; exact hc
theorem Ext.grown {w w' : World} (h : Ext w w') (row : Option Nat) : w.grownBy w' row := ⟨h.os, h.tape, h.output, h.size, fun k hk _ => h.block k hk⟩
theorem Ext.of_grown {w w' : World} (h : w.grownBy w' none) : Ext w w' := ⟨h.os, h.tape, h.output, h.size, fun k hk => h.block k hk (by simp)⟩
theorem Ext.drew {w w' : World} (h : Ext w w') : Ext w w'.drew := Below.drew h
theorem Ext.alloc {w w' : World} (h : Ext w w') (o : Obj) : Ext w (w'.alloc o) := Below.alloc h h.size o

/-- a kind of element: how it lies in cells -/
structure Enc (α : Type) where
  sz : Nat
  enc : α → List Value
  len : ∀ x, (enc x).length = sz
  one : ∀ x, ∀ v ∈ enc x, v.oneCell' = true
  pos : 0 < sz

/-- a slice value's address, length, capacity are in order -/
structure Okp (p : Option Addr) (n c : Nat) : Prop where
  le : n ≤ c
  cap : c ≤ maxLen
  nul : p = none → c = 0
  spot : ∀ a, p = some a → 0 < c → a.spot = none

/-- the slice at p with capacity c holds the elements xs -/
structure Sl {α : Type} (H : Array Obj) (e : Enc α) (p : Option Addr) (c : Nat) (xs : List α) : Prop where
  ok : Okp p xs.length c
  cell : ∀ i x, xs[i]? = some x → ∀ k v, (e.enc x)[k]? = some v → hcell H (adr p (i * e.sz + k)) = some v

section
variable {α : Type} {e : Enc α} {p : Option Addr} {c : Nat} {xs : List α} {H H' : Array Obj} {w w' : World}

theorem Sl.bound (h : Sl H e p c xs) : xs.length ≤ 9223372036854775807 := by
  have h1 := h.ok.le; have h2 := h.ok.cap; simp only [maxLen] at h2; omega

theorem Sl.ext (h : Sl w.heap e p c xs) (hx : Ext w w') : Sl w'.heap e p c xs := ⟨h.ok, fun i x hi k v hv => hx.cell (h.cell i x hi k v hv)⟩

theorem adr_block (p : Option Addr) (a : Addr) (k : Nat) (h : p = some a) : (adr p k).block = a.block := by subst h; rfl

theorem Sl.grown (h : Sl w.heap e p c xs) {row : Option Nat} (hg : w.grownBy w' row) (hne : ∀ a, p = some a → xs ≠ [] → row ≠ some a.block) : Sl w'.heap e p c xs := by
  refine ⟨h.ok, fun i x hi k v hv => ?_⟩
  have hc := h.cell i x hi k v hv
  have hx : xs ≠ [] := by rintro rfl; simp at hi
  cases p with
  | none =>
    have := h.ok.nul rfl
    have h1 := h.ok.le
    have : xs.length ≠ 0 := by cases xs <;> simp_all
    omega
  | some a =>
    rw [hcell_block (hg.block _ (hcell_lt hc) (fun e => hne a rfl hx e.symm))]
    exact hc

theorem Sl.nil : Sl H e none 0 [] := ⟨⟨Nat.le_refl _, Nat.zero_le _, fun _ => rfl, fun _ h _ => by cases h⟩, fun i x hi => by simp at hi⟩

theorem Sl.take (h : Sl H e p c xs) (m : Nat) : Sl H e p c (xs.take m) :=
  ⟨⟨Nat.le_trans (by simp; omega) h.ok.le, h.ok.cap, h.ok.nul, h.ok.spot⟩, fun i x hi => h.cell i x (by
    rw [List.getElem?_take] at hi
    split at hi
    · exact hi
    · cases hi)⟩

/-- where a slice lies that is cut at l -/
def subp (p : Option Addr) (c l sz : Nat) : Option Addr := if c = l then p else p.map (·.add (l * sz))

theorem Sl.drop (h : Sl H e p c xs) {l : Nat} (hl : l ≤ c) : Sl H e (subp p c l e.sz) (c - l) (xs.drop l) := by
  have h1 := h.ok.le
  refine ⟨⟨by simp; omega, Nat.le_trans (Nat.sub_le _ _) h.ok.cap, fun hn => ?_, fun a ha hpos => ?_⟩, fun i x hi k v hv => ?_⟩
  · unfold subp at hn
    split at hn
    · omega
    · cases p with
      | none => have := h.ok.nul rfl; omega
      | some a => simp at hn
  · unfold subp at ha
    split at ha
    · omega
    · cases p with
      | none => simp at ha
      | some q =>
        simp only [Option.map_some, Option.some.injEq] at ha
        subst ha
        have := h.ok.spot q rfl (by omega)
        unfold Addr.add; split
        · exact this
        · rfl
  · rw [List.getElem?_drop] at hi
    have hc := h.cell (l + i) x hi k v hv
    have hlt : l + i < xs.length := (List.getElem?_eq_some_iff.1 hi).1
    unfold subp
    rw [if_neg (by omega)]
    cases p with
    | none => have := h.ok.nul rfl; omega
    | some a =>
      have hs := h.ok.spot a rfl (by omega)
      have e1 : adr (Option.map (fun x => Addr.add x (l * e.sz)) (some a)) (i * e.sz + k) = adr (some a) ((l + i) * e.sz + k) := by
        simp only [Option.map_some, adr, Addr.add]
        split
        · rename_i h0; simp [Nat.add_mul, h0]
        · simp [Nat.add_mul]; omega
      rw [e1]; exact hc

theorem Okp.at {n : Nat} (h : Okp p n c) (hn : 0 < n) : ∃ b o, p = some ⟨b, o, none⟩ := by
  have h1 := h.le
  cases p with
  | none => have := h.nul rfl; omega
  | some a =>
    have := h.spot a rfl (by omega)
    obtain ⟨b, o, s⟩ := a
    simp at this
    exact ⟨b, o, by rw [this]⟩

/-- a row of the call's own, from block B on: the slice at p with capacity c, of element type T, holds xs -/
def Own (w : World) (B T : Nat) (e : Enc α) (p : Option Addr) (c : Nat) (xs : List α) : Prop := w.ownsRow B T e.sz (.slice p xs.length c) xs.length (xs.flatMap e.enc)

theorem flat_get (e : Enc α) : ∀ (xs : List α) (i k : Nat) (x : α) (v : Value), xs[i]? = some x → (e.enc x)[k]? = some v → (xs.flatMap e.enc)[i * e.sz + k]? = some v
  | [], i, k, x, v, h, _ => by simp at h
  | y :: ys, 0, k, x, v, h, hv => by
    simp at h; subst h
    rw [List.flatMap_cons, List.getElem?_append_left (by have := (List.getElem?_eq_some_iff.1 hv).1; simpa using this)]
    simpa using hv
  | y :: ys, i + 1, k, x, v, h, hv => by
    simp at h
    rw [List.flatMap_cons, List.getElem?_append_right (by rw [e.len, Nat.add_mul]; omega), e.len]
    have := flat_get e ys i k x v h hv
    rw [← this]; congr 1; rw [Nat.add_mul]; omega

theorem flat_len (e : Enc α) : ∀ xs : List α, (xs.flatMap e.enc).length = xs.length * e.sz
  | [] => by simp
  | x :: xs => by rw [List.flatMap_cons, List.length_append, e.len, flat_len e xs, List.length_cons, Nat.add_mul]; omega

theorem flat_one (e : Enc α) (xs : List α) : ∀ v ∈ xs.flatMap e.enc, v.oneCell' = true := by
  intro v hv
  obtain ⟨x, _, hx⟩ := List.mem_flatMap.1 hv
  exact e.one x v hx

theorem Own.nil (w : World) (B T : Nat) (e : Enc α) : Own w B T e none 0 [] := World.ownsRow_nil w B T e.sz

theorem Own.sl {B T : Nat} (h : Own w B T e p c xs) : Sl w.heap e p c xs := by
  obtain ⟨hl, h⟩ := h
  rcases h with ⟨hv, hn⟩ | ⟨g, cap, cur, hv, hb, hg, hnc, hcm, hcs, htake⟩
  · injection hv with h1 h2 h3
    subst h1 h3
    obtain rfl : xs = [] := List.eq_nil_of_length_eq_zero hn
    exact Sl.nil
  · injection hv with h1 h2 h3
    subst h1 h3
    refine ⟨⟨hnc, hcm, (fun h => by cases h), (fun a ha _ => by simp at ha; rw [← ha])⟩, fun i x hi k v hv => ?_⟩
    have hf := flat_get e xs i k x v hi hv
    rw [← htake, List.getElem?_take] at hf
    split at hf
    · simp only [hcell, adr, hg, Option.isSome_none, Bool.false_eq_true, if_false, Nat.zero_add]
      simpa using hf
    · cases hf

theorem Own.kept {B T : Nat} {row : Option Nat} (h : Own w B T e p c xs) (hg : w.grownBy w' row) (hne : ∀ a, p = some a → row ≠ some a.block) : Own w' B T e p c xs := by
  refine World.ownsRow.kept h hg ?_
  cases p with
  | none => exact .inl rfl
  | some a => exact .inr (fun h => hne a rfl (by rw [← h]; rfl))

theorem Own.ext {B T : Nat} (h : Own w B T e p c xs) (hx : Ext w w') : Own w' B T e p c xs := h.kept (hx.grown none) (fun _ _ h => by cases h)

/-- the block of a slice's address -/
def blk : Option Addr → Option Nat
  | some a => some a.block
  | none => none

theorem Own.ge {B T : Nat} (h : Own w B T e p c xs) : ∀ k, blk p = some k → B ≤ k ∧ k < w.heap.size := by
  intro k hk
  refine World.ownsRow.lt h k ?_
  cases p with
  | none => cases hk
  | some a => exact hk

end

/-- block b is just the cells cs of element type t, and may be written -/
def Blk (H : Array Obj) (b : Nat) (t : TypeId) (cs : List Value) : Prop := H[b]? = some (.cells cs.toArray t (0, 0))

theorem Blk.lt {H : Array Obj} {b : Nat} {t : TypeId} {cs : List Value} (h : Blk H b t cs) : b < H.size := (Array.getElem?_eq_some_iff.1 h).1
theorem Blk.ext {w w' : World} {b : Nat} {t : TypeId} {cs : List Value} (h : Blk w.heap b t cs) (hx : Ext w w') : Blk w'.heap b t cs := hx.blk h
theorem Blk.grown {w w' : World} {b : Nat} {t : TypeId} {cs : List Value} {row : Option Nat} (h : Blk w.heap b t cs) (hg : w.grownBy w' row) (hne : row ≠ some b) : Blk w'.heap b t cs := by
  have := hg.block b h.lt (fun e => hne e.symm)
  unfold Blk at *
  rw [this]; exact h

/-- the address of a box -/
abbrev bx (b : Nat) : Option Addr := some ⟨b, 0, none⟩

theorem Blk.cell {H : Array Obj} {b : Nat} {t : TypeId} {cs : List Value} (h : Blk H b t cs) {m : Nat} {v : Value} (hv : cs[m]? = some v) : hcell H (adr (bx b) m) = some v := by
  unfold Blk at h
  simp [hcell, adr, h, hv]

section
variable {P : Program} {n : Nat} {ops : Array Oper} {dr : Nat × List Nat} {dq : Nat} {l : List Oper} {E : Env} {w : World} {K : Env → World → Prop}
variable {d : Option Nat} {ty : TypeId} {pos : String} {af : Array Edge} {g : Option (Nat × Bool)} {x y z : Operand} {k : IntKind} {i j : Int} {t t' u sz by_ : Nat} {v : Value} {p : Option Addr} {c len m : Nat}

theorem G1_len (hu : SliceT P t u sz by_) (hx : E.look x = some (.slice p len c)) (hd : dstOk n d = true) (h : G P n ops dr l (E.put d (.int .i64 len)) w K) : G1 P n ops dr ⟨d, .call ⟨.builtin .len, #[x], #[t]⟩, ty, pos, af, g⟩ l E w K :=
  G1_quiet _ hd (fun a ha w' _ => by simp [execOp, resolve, invoke, builtin, Builtin.len_, ha.eval hx, run_underlying (P := P) hu.1, goInt]) h

theorem run_sizeOf_T (hu : SliceT P t u sz by_) (w : World) : (sizeOf u).run P w = .ok sz w := by
  obtain ⟨_, i, z, hi, rfl, _⟩ := hu
  simp [sizeOf, typeInfo, hi]

theorem G1_indexAddr (hu : SliceT P t u sz by_) (hx : E.look x = some (.slice p len c)) (hy : E.look y = some (.int k i)) (ho : Okp p len c) (h0 : 0 ≤ i) (h1 : i < len) (hd : dstOk n d = true)
    (h : G P n ops dr l (E.put d (.pointer (some (adr p (i.toNat * sz))))) w K) : G1 P n ops dr ⟨d, .indexAddr t x y, ty, pos, af, g⟩ l E w K :=
  G1_quiet _ hd (fun a ha w' _ => by
    obtain ⟨b, o, rfl⟩ := ho.at (by omega)
    simp [execOp, Instr.indexAt, ha.eval hx, ha.eval hy, asIntOf, run_underlying (P := P) hu.1, h0, h1, run_sizeOf_T hu, addr_add, adr]) h

theorem G1_indexAddrN {q : Nat} (hu : SliceT P t u sz by_) (hx : E.look x = some (.slice p len c)) (hy : E.look y = some (.int k (q : Int))) (ho : Okp p len c) (h1 : q < len) (hd : dstOk n d = true)
    (h : G P n ops dr l (E.put d (.pointer (some (adr p (q * sz))))) w K) : G1 P n ops dr ⟨d, .indexAddr t x y, ty, pos, af, g⟩ l E w K :=
  G1_indexAddr hu hx hy ho (by omega) (by omega) hd (by simpa using h)

theorem G1_fieldAddr {q off : Nat} (hu : FieldT P t q off) (hx : E.look x = some (.pointer (some (adr p m)))) (hd : dstOk n d = true)
    (h : G P n ops dr l (E.put d (.pointer (some (adr p (m + off))))) w K) : G1 P n ops dr ⟨d, .fieldAddr t x q, ty, pos, af, g⟩ l E w K :=
  G1_quiet _ hd (fun a ha w' _ => by
    obtain ⟨fs, f, h1, h2, h3, i, h4, h5⟩ := hu
    simp [execOp, Instr.fieldAt, ha.eval hx, run_underlying h1, h2, Instr.sureAddr, fieldPlace, sizeOf, typeInfo, h4, h5, adr_add, h3]) h

theorem rd_ext {o : Oper} {w' : World} (h : readsM P o = false ∨ ExtS [] w w') (hr : readsM P o = true) : Ext w w' := by
  rcases h with h | h
  · rw [h] at hr; cases hr
  · exact h.toE

theorem G1_load (hu : PlainT P t) (hx : E.look x = some (.pointer (some (adr p m)))) (hc : hcell w.heap (adr p m) = some v) (hd : dstOk n d = true)
    (h : G P n ops (dq, []) l (E.put d v) w K) : G1 P n ops (dq, []) ⟨d, .load t x, ty, pos, af, g⟩ l E w K :=
  G1_quiet _ hd (fun a ha w' hw => by
    have := (rd_ext hw rfl).cell hc
    simp [execOp, Instr.loadAt, ha.eval hx, Instr.sureAddr, loadVar, hu w', load, Sem.run, cell_eq, this]) h

theorem run_loadCells_adr {vs : List Value} (hc : ∀ k v, vs[k]? = some v → hcell w.heap (adr p (m + k)) = some v) : (loadCells (adr p m) vs.length).run P w = .ok vs.toArray w :=
  run_loadCells_list w (adr p m) vs (fun j v hv => by rw [adr_add]; exact hc j v hv)

theorem run_loadVar_agg {vs : List Value} (hu : AggT P t sz) (hl : vs.length = sz) (hc : ∀ k v, vs[k]? = some v → hcell w.heap (adr p (m + k)) = some v) : (loadVar t (adr p m)).run P w = .ok (.agg vs.toArray) w := by
  obtain ⟨h1, i, h2, rfl⟩ := hu
  have := run_loadCells_adr (P := P) hc
  rw [hl] at this
  simp [loadVar, h1 w, sizeOf, typeInfo, h2, this]

theorem G1_loadAgg {vs : List Value} (hu : AggT P t sz) (hx : E.look x = some (.pointer (some (adr p m)))) (hl : vs.length = sz) (hc : ∀ k v, vs[k]? = some v → hcell w.heap (adr p (m + k)) = some v) (hd : dstOk n d = true)
    (h : G P n ops (dq, []) l (E.put d (.agg vs.toArray)) w K) : G1 P n ops (dq, []) ⟨d, .load t x, ty, pos, af, g⟩ l E w K :=
  G1_quiet _ hd (fun a ha w' hw => by
    have := run_loadVar_agg (P := P) (w := w') (p := p) (m := m) hu hl (fun k v hv => (rd_ext hw rfl).cell (hc k v hv))
    simp [execOp, Instr.loadAt, ha.eval hx, Instr.sureAddr, this]) h

/-- an element of a slice, whole -/
theorem G1_loadEl {α : Type} {e : Enc α} {xs : List α} {q : Nat} {el : α} (hu : AggT P t sz) (hx : E.look x = some (.pointer (some (adr p (q * sz))))) (hs : Sl w.heap e p c xs) (hq : xs[q]? = some el) (he : e.sz = sz) (hd : dstOk n d = true)
    (h : G P n ops (dq, []) l (E.put d (.agg (e.enc el).toArray)) w K) : G1 P n ops (dq, []) ⟨d, .load t x, ty, pos, af, g⟩ l E w K :=
  G1_loadAgg hu hx (by rw [e.len, he]) (fun k v hv => by subst he; exact hs.cell q el hq k v hv) hd h

/-- an element of one cell -/
theorem G1_loadEl1 {α : Type} {e : Enc α} {xs : List α} {q : Nat} {el : α} (hu : PlainT P t) (hx : E.look x = some (.pointer (some (adr p (q * 1))))) (hs : Sl w.heap e p c xs) (hq : xs[q]? = some el) (he : e.sz = 1) (hv : e.enc el = [v]) (hd : dstOk n d = true)
    (h : G P n ops (dq, []) l (E.put d v) w K) : G1 P n ops (dq, []) ⟨d, .load t x, ty, pos, af, g⟩ l E w K :=
  G1_load hu hx (by have := hs.cell q el hq 0 v (by rw [hv]; rfl); rw [he] at this; exact this) hd h

/-- a field of an element -/
theorem G1_loadFld {α : Type} {e : Enc α} {xs : List α} {q off : Nat} {el : α} (hu : PlainT P t) (hx : E.look x = some (.pointer (some (adr p (q * sz + off))))) (hs : Sl w.heap e p c xs) (hq : xs[q]? = some el) (he : e.sz = sz) (hv : (e.enc el)[off]? = some v) (hd : dstOk n d = true)
    (h : G P n ops (dq, []) l (E.put d v) w K) : G1 P n ops (dq, []) ⟨d, .load t x, ty, pos, af, g⟩ l E w K :=
  G1_load hu hx (by have := hs.cell q el hq off v hv; rw [he] at this; exact this) hd h

/-- out of a box -/
theorem G1_loadB {b : Nat} {cs : List Value} (hu : PlainT P t) (hx : E.look x = some (.pointer (some (adr (bx b) m)))) (hb : Blk w.heap b t' cs) (hv : cs[m]? = some v) (hd : dstOk n d = true)
    (h : G P n ops (dq, []) l (E.put d v) w K) : G1 P n ops (dq, []) ⟨d, .load t x, ty, pos, af, g⟩ l E w K :=
  G1_load hu hx (hb.cell hv) hd h

/-- the same where other boxes may be written meanwhile -/
theorem G1_loadBS {b : Nat} {cs : List Value} (hu : PlainT P t) (hx : E.look x = some (.pointer (some (adr (bx b) m)))) (hb : Blk w.heap b t' cs) (hv : cs[m]? = some v) (hS : exempt dr.2 b = false) (hd : dstOk n d = true)
    (h : G P n ops dr l (E.put d v) w K) : G1 P n ops dr ⟨d, .load t x, ty, pos, af, g⟩ l E w K :=
  G1_quiet _ hd (fun a ha w' hw => by
    have hw' : ExtS dr.2 w w' := by
      rcases hw with hw | hw
      · simp [readsM] at hw
      · exact hw
    have hb' : Blk w'.heap b t' cs := by
      have := hw'.block b hb.lt hS
      unfold Blk at *
      rw [this]; exact hb
    have := hb'.cell hv
    simp [execOp, Instr.loadAt, ha.eval hx, Instr.sureAddr, loadVar, hu w', load, Sem.run, cell_eq, this]) h

theorem run_loadVar_box {b : Nat} {cs : List Value} (hu : AggT P t sz) (hb : Blk w.heap b t' cs) (hl : cs.length = sz) : (loadVar t (adr (bx b) 0)).run P w = .ok (.agg cs.toArray) w :=
  run_loadVar_agg hu hl (fun k v hv => by rw [Nat.zero_add]; exact hb.cell hv)

theorem G1_loadBAgg {b : Nat} {cs : List Value} (hu : AggT P t sz) (hx : E.look x = some (.pointer (some (adr (bx b) 0)))) (hb : Blk w.heap b t' cs) (hl : cs.length = sz) (hd : dstOk n d = true)
    (h : G P n ops (dq, []) l (E.put d (.agg cs.toArray)) w K) : G1 P n ops (dq, []) ⟨d, .load t x, ty, pos, af, g⟩ l E w K :=
  G1_loadAgg hu hx hl (fun k v hv => by rw [Nat.zero_add]; exact hb.cell hv) hd h

/-- a new box -/
theorem G1_box (hx : E.look x = some v) (he : effects P dr.1 ⟨d, .box t x, ty, pos, af, g⟩ = true) (hd : dstOk n d = true)
    (h : ∀ b w', b = w.heap.size → Blk w'.heap b t v.cells.toList → Ext w w' → w'.heap.size = w.heap.size + 1 → G P n ops dr l (E.put d (.pointer (some (adr (bx b) 0)))) w' K) : G1 P n ops dr ⟨d, .box t x, ty, pos, af, g⟩ l E w K :=
  G1_eff _ (w.alloc (.cells v.cells t)) he hd (fun a ha => by simp [execOp, Instr.box, ha.eval hx, newVar, newRow, newObj, Sem.run, adr])
    (.inr (Ext.alloc Ext.rfl' _).toS) (h w.heap.size _ rfl (by unfold Blk; rw [Array.toArray_toList]; exact heap_alloc_new w _) (Ext.alloc Ext.rfl' _) (by simp))

/-- the zero value of a type -/
def ZeroT (P : Program) (t : TypeId) (z : Value) : Prop := (P.info? t).bind (·.zero) = some z

theorem ZeroT.of {z : Value} (h : (P.info? t).bind (·.zero) = some z) : ZeroT P t z := h

theorem run_zero {z : Value} (h : ZeroT P t z) (w : World) : (zeroValue t).run P w = .ok z w := by
  unfold ZeroT at h
  cases hi : P.info? t with
  | none => simp [hi] at h
  | some i => simp [hi] at h; simp [zeroValue, typeInfo, hi, h]

theorem G1_alloc {z : Value} (hz : ZeroT P t z) (he : effects P dr.1 ⟨d, .alloc t, ty, pos, af, g⟩ = true) (hd : dstOk n d = true)
    (h : ∀ b w', b = w.heap.size → Blk w'.heap b t z.cells.toList → Ext w w' → w'.heap.size = w.heap.size + 1 → G P n ops dr l (E.put d (.pointer (some (adr (bx b) 0)))) w' K) : G1 P n ops dr ⟨d, .alloc t, ty, pos, af, g⟩ l E w K :=
  G1_eff _ (w.alloc (.cells z.cells t)) he hd (fun a ha => by simp [execOp, Instr.alloc, run_zero hz, newVar, newRow, newObj, Sem.run, adr])
    (.inr (Ext.alloc Ext.rfl' _).toS) (h w.heap.size _ rfl (by unfold Blk; rw [Array.toArray_toList]; exact heap_alloc_new w _) (Ext.alloc Ext.rfl' _) (by simp))

/-- the world with block b's cells turned -/
theorem setRow_grown (w : World) (b : Nat) (cs : Array Value) : w.grownBy (w.setRow b cs) (some b) :=
  ⟨rfl, rfl, rfl, by simp, fun k _ hne => setRow_other w b k cs (fun e => hne (by rw [e]))⟩

theorem run_storeVar_box {b : Nat} {cs vs : List Value} (hsz : SizeT P t sz) (hb : Blk w.heap b t' cs) (hvs : v.cells.toList = vs) (hl : vs.length = sz) (hm : m + sz ≤ cs.length) (h1 : ∀ v ∈ vs, v.oneCell' = true) :
    (storeVar t (adr (bx b) m) v).run P w = .ok () (w.setRow b (cs.take m ++ vs ++ cs.drop (m + sz)).toArray) := by
  obtain ⟨i, hi, rfl⟩ := hsz
  have hs : v.cells.size = i.size := by rw [← hl, ← hvs]; simp
  have := run_storeCells_at P b m t' vs 0 cs.toArray w hb (by simp; omega) h1
  simp only [Nat.add_zero] at this
  simp only [storeVar, sizeOf, typeInfo, Sem.run_bind, run_program, Result.andThen_ok, hi, Sem.run_pure, hs, ne_eq, not_true_eq_false, if_false]
  rw [hvs, ← hl]
  show (storeCells ⟨b, 0 + m, none⟩ vs).run P w = _
  rw [Nat.zero_add]
  exact this

/-- a store into a box -/
theorem G1_storeB {b : Nat} {cs vs : List Value} (hsz : SizeT P t sz) (hx : E.look x = some (.pointer (some (adr (bx b) m)))) (hy : E.look y = some v) (hb : Blk w.heap b t' cs) (hvs : v.cells.toList = vs) (hl : vs.length = sz) (hm : m + sz ≤ cs.length)
    (h1 : ∀ v ∈ vs, v.oneCell' = true) (he : effects P dr.1 ⟨d, .store t x y, ty, pos, af, g⟩ = true) (hw : writes dr.1 ⟨d, .store t x y, ty, pos, af, g⟩ = true ∨ exempt dr.2 b = true) (hd : dstOk n d = true)
    (h : ∀ w', Blk w'.heap b t' (cs.take m ++ vs ++ cs.drop (m + sz)) → w.grownBy w' (some b) → w'.heap.size = w.heap.size → G P n ops dr l (E.put d undef) w' K) : G1 P n ops dr ⟨d, .store t x y, ty, pos, af, g⟩ l E w K :=
  G1_skip (w.setRow b (cs.take m ++ vs ++ cs.drop (m + sz)).toArray) he hd (fun a ha => by
      simp [execOp, Instr.storeAt, ha.eval hx, ha.eval hy, Instr.sureAddr, run_storeVar_box hsz hb hvs hl hm h1]) (hw.imp id (fun hS => ⟨rfl, rfl, rfl, by simp, fun k _ hk => setRow_other w b k _ (fun e => by rw [e, hS] at hk; cases hk)⟩))
    (h _ (by unfold Blk; exact setRow_heap w b _ _ t' (0, 0) hb) (setRow_grown w b _) (by simp))

end
end Go.V

/- Plain facts on byte strings and lists. -/

namespace Go.V

theorem bget_list (s : ByteArray) (k : Nat) : bget s k = s.data.toList.getD k 0 := by
  simp [bget, Array.getD_eq_getD_getElem?]

theorem get_some {α : Type} {xs : List α} {k : Nat} (h : k < xs.length) : ∃ x, xs[k]? = some x := ⟨xs[k], List.getElem?_eq_getElem h⟩
theorem get_lt {α : Type} {xs : List α} {k : Nat} {x : α} (h : xs[k]? = some x) : k < xs.length := (List.getElem?_eq_some_iff.1 h).1
theorem take_snoc {α : Type} {xs : List α} {k : Nat} {x : α} (h : xs[k]? = some x) : xs.take (k + 1) = xs.take k ++ [x] := by
  rw [List.take_add_one, h]; rfl

end Go.V

/- More rules: structs compared, slices cut, made, appended to, written. -/

namespace Go.V
open Go.RowKit

theorem bytes_beq (a b : ByteArray) : (a == b) = decide (a = b) := by
  rw [Bool.eq_iff_iff]
  simp only [decide_eq_true_eq]
  constructor
  · intro h
    have : (a.data == b.data) = true := h
    cases a; cases b; simp_all
  · rintro rfl
    show (a.data == a.data) = true
    simp

theorem eqIn_str {P : Program} {t : TypeId} (hu : StrT P t) (a b : ByteArray) (w : World) (d : Nat) : (Op.equalIn (d + 1) t (.string a) (.string b)).run P w = .ok (decide (a = b)) w := by
  simp only [Op.equalIn, Sem.run_bind, run_underlying (P := P) hu, Result.andThen_ok, bytes_beq]
  rfl
/-- what '==' gives on two values of type t -/
def EqT (P : Program) (t : TypeId) (x y : Value) (b : Bool) : Prop := ∀ w, (Op.equal t x y).run P w = .ok b w

theorem EqT.two {P : Program} {t : TypeId} {f1 f2 : Field} {a1 a2 b1 b2 : Value} {p q : Bool} (hu : P.underlying t = some (.struct #[f1, f2])) (hs : P.stoodInHeld t = false)
    (n1 : f1.name ≠ "_") (n2 : f2.name ≠ "_") (o1 : f1.offset = 0) (o2 : f2.offset = 1) (p1 : PlainT P f1.type) (p2 : PlainT P f2.type)
    (e1 : ∀ w d, (Op.equalIn (d + 1) f1.type a1 b1).run P w = .ok p w) (e2 : ∀ w d, (Op.equalIn (d + 1) f2.type a2 b2).run P w = .ok q w) : EqT P t (.agg #[a1, a2]) (.agg #[b1, b2]) (p && q) := by
  intro w
  have key : ∀ d, (Op.equalIn (d + 1 + 1) t (.agg #[a1, a2]) (.agg #[b1, b2])).run P w = .ok (p && q) w := by
    intro d
    have q1 : (part f1.type #[a1, a2] f1.offset).run P w = .ok a1 w := by simp [part, p1 w, o1]
    have q2 : (part f1.type #[b1, b2] f1.offset).run P w = .ok b1 w := by simp [part, p1 w, o1]
    have q3 : (part f2.type #[a1, a2] f2.offset).run P w = .ok a2 w := by simp [part, p2 w, o2]
    have q4 : (part f2.type #[b1, b2] f2.offset).run P w = .ok b2 w := by simp [part, p2 w, o2]
    rw [Op.equalIn]
    simp only [Sem.run_bind, run_underlying hu, Result.andThen_ok, run_program, hs]
    simp [n1, n2, q1, q2, q3, q4, e1, e2]
    cases p <;> cases q <;> simp
  exact key 9998

section
variable {P : Program} {n : Nat} {ops : Array Oper} {dr : Nat × List Nat} {dq : Nat} {l : List Oper} {E : Env} {w : World} {K : Env → World → Prop}
variable {d : Option Nat} {ty : TypeId} {pos : String} {af : Array Edge} {g : Option (Nat × Bool)} {x y z : Operand} {k k' : IntKind} {i j : Int} {t t' u sz by_ : Nat} {v v' : Value} {p : Option Addr} {c len m : Nat} {b : Bool}

theorem G1_aneq {cs ds : Array Value} (hx : E.look x = some (.agg cs)) (hy : E.look y = some (.agg ds)) (hg : P.eqGuardType P.depth t = false) (hq : EqT P t (.agg cs) (.agg ds) b) (hd : dstOk n d = true) (h : G P n ops dr l (E.put d (.bool (!b))) w K) :
    G1 P n ops dr ⟨d, .binOp .neq t x y t', ty, pos, af, g⟩ l E w K :=
  G1_quiet _ hd (fun a ha w' _ => by simp [execOp, ha.eval hx, ha.eval hy, eqGuard, binOp, hg, hq w']) h

theorem G1_convi64 (hx : E.look x = some (.int k i)) (hs : IntT P t k') (ht : IntT P t' .i64) (h1 : -9223372036854775808 ≤ i) (h2 : i ≤ 9223372036854775807) (hd : dstOk n d = true) (h : G P n ops dr l (E.put d (.int .i64 i)) w K) : G1 P n ops dr ⟨d, .convert t t' x, ty, pos, af, g⟩ l E w K :=
  G1_conv hx hs ht hd (by rw [wrap_i64 h1 h2]; exact h)
theorem G1_convu8 (hx : E.look x = some (.int k i)) (hs : IntT P t k') (ht : IntT P t' .u8) (h1 : 0 ≤ i) (h2 : i ≤ 255) (hd : dstOk n d = true) (h : G P n ops dr l (E.put d (.int .u8 i)) w K) : G1 P n ops dr ⟨d, .convert t t' x, ty, pos, af, g⟩ l E w K :=
  G1_conv hx hs ht hd (by rw [wrap_u8 h1 h2]; exact h)
theorem G1_convu64 (hx : E.look x = some (.int k i)) (hs : IntT P t k') (ht : IntT P t' .u64) (h1 : 0 ≤ i) (h2 : i ≤ 18446744073709551615) (hd : dstOk n d = true) (h : G P n ops dr l (E.put d (.int .u64 i)) w K) : G1 P n ops dr ⟨d, .convert t t' x, ty, pos, af, g⟩ l E w K :=
  G1_conv hx hs ht hd (by rw [wrap_u64 h1 h2]; exact h)

theorem G1_shrC {c : Nat} {j : Int} (hx : E.look x = some (.int k i)) (hy : E.look y = some (.int k' j)) (h0 : 0 ≤ i ∧ 0 ≤ j) (hc : 2 ^ min j.toNat k.bits = c) (hd : dstOk n d = true)
    (h : G P n ops dr l (E.put d (.int k (i / (c : Int)))) w K) : G1 P n ops dr ⟨d, .binOp .shr t x y t', ty, pos, af, g⟩ l E w K := by
  refine G1_shr hx hy h0.2 hd ?_
  have e : i.fdiv (2 ^ min j.toNat k.bits) = i / (c : Int) := by
    rw [← hc, Int.fdiv_eq_ediv_of_nonneg _ (by exact_mod_cast Nat.zero_le _)]
    push_cast
    rfl
  rw [e]; exact h

/- slices cut: s[i:], s[:j], s[i:j] -/
theorem run_slice (hu : SliceT P t u sz by_) {lo hi : Nat} {a b : Option Value} (h1 : lo ≤ hi) (h2 : hi ≤ c) (w : World)
    (ha : a = none ∧ lo = 0 ∨ ∃ k, a = some (.int k lo)) (hb : b = none ∧ hi = len ∨ ∃ k, b = some (.int k hi)) :
    (Instr.sliceAt t (.slice p len c) a b none).run P w = .ok (.slice (subp p c lo sz) (hi - lo) (c - lo)) w := by
  have e2 : (0 : Int) ≤ hi ∧ (hi : Int) ≤ c := by omega
  have e3 : (0 : Int) ≤ lo ∧ (lo : Int) ≤ hi := by omega
  have hsz := run_sizeOf_T hu w
  simp only [Instr.sliceAt, Sem.run_bind, run_underlying hu.1, Result.andThen_ok, Instr.slice, Instr.sliceBounds, Sem.run_pure]
  rcases ha with ⟨rfl, rfl⟩ | ⟨k, rfl⟩ <;> rcases hb with ⟨rfl, rfl⟩ | ⟨k2, rfl⟩ <;>
    simp [Instr.sliceBound, asIntOf, e2, e3, hsz, subp, h1]

theorem G1_sliceLo {q : Nat} (hu : SliceT P t u sz by_) (hx : E.look x = some (.slice p len c)) (hy : E.look y = some (.int k (q : Int))) (ho : Okp p len c) (hq : q ≤ len) (hd : dstOk n d = true)
    (h : G P n ops dr l (E.put d (.slice (subp p c q sz) (len - q) (c - q))) w K) : G1 P n ops dr ⟨d, .slice t x (some y) none none, ty, pos, af, g⟩ l E w K :=
  G1_quiet _ hd (fun a ha w' _ => by simp [execOp, ha.eval hx, ha.eval hy, run_slice hu hq ho.le w' (.inr ⟨k, rfl⟩) (.inl ⟨rfl, rfl⟩)]) h
theorem G1_sliceHi {q : Nat} (hu : SliceT P t u sz by_) (hx : E.look x = some (.slice p len c)) (hy : E.look y = some (.int k (q : Int))) (hq : q ≤ c) (hd : dstOk n d = true)
    (h : G P n ops dr l (E.put d (.slice (subp p c 0 sz) q c)) w K) : G1 P n ops dr ⟨d, .slice t x none (some y) none, ty, pos, af, g⟩ l E w K :=
  G1_quiet _ hd (fun a ha w' _ => by simp [execOp, ha.eval hx, ha.eval hy, run_slice hu (Nat.zero_le _) hq w' (.inl ⟨rfl, rfl⟩) (.inr ⟨k, rfl⟩)]) h
theorem G1_sliceBoth {q r : Nat} (hu : SliceT P t u sz by_) (hx : E.look x = some (.slice p len c)) (hy : E.look y = some (.int k (q : Int))) (hz : E.look z = some (.int k' (r : Int))) (hq : q ≤ r) (hr : r ≤ c) (hd : dstOk n d = true)
    (h : G P n ops dr l (E.put d (.slice (subp p c q sz) (r - q) (c - q))) w K) : G1 P n ops dr ⟨d, .slice t x (some y) (some z) none, ty, pos, af, g⟩ l E w K :=
  G1_quiet _ hd (fun a ha w' _ => by simp [execOp, ha.eval hx, ha.eval hy, ha.eval hz, run_slice hu hq hr w' (.inr ⟨k, rfl⟩) (.inr ⟨k', rfl⟩)]) h

theorem subp_zero (p : Option Addr) (c sz : Nat) : subp p c 0 sz = p := by
  unfold subp
  split
  · rfl
  · cases p <;> simp [Addr.add]

/- a row of the call's own, appended to -/
theorem run_append_nothing (hu : SliceT P t u sz by_) (ho : len ≤ c) (ty : TypeId) (w : World) : (Builtin.append_ #[t, t] ty #[.slice p len c, .slice none 0 0]).run P w = .ok (.slice p len c) w := by
  obtain ⟨h1, i, z, hi, rfl, rfl, hz, _⟩ := hu
  cases p <;> simp [Builtin.append_, run_underlying h1, sizeOf, typeInfo, hi, Builtin.lenOf, ho, Builtin.firstCells, storeCells]

theorem flat_inv {α : Type} (e : Enc α) : ∀ (xs : List α) (j : Nat) (v : Value), (xs.flatMap e.enc)[j]? = some v → ∃ i k x, j = i * e.sz + k ∧ xs[i]? = some x ∧ (e.enc x)[k]? = some v
  | [], j, v, h => by simp at h
  | x :: xs, j, v, h => by
    rw [List.flatMap_cons] at h
    by_cases hj : j < (e.enc x).length
    · rw [List.getElem?_append_left hj] at h
      exact ⟨0, j, x, by simp, rfl, h⟩
    · rw [List.getElem?_append_right (by omega), e.len] at h
      obtain ⟨i, k, y, h1, h2, h3⟩ := flat_inv e xs _ v h
      rw [e.len] at hj
      exact ⟨i + 1, k, y, by rw [Nat.add_mul]; omega, by simpa using h2, h3⟩

theorem Sl.flat {α : Type} {e : Enc α} {H : Array Obj} {p : Option Addr} {c : Nat} {xs : List α} (h : Sl H e p c xs) (j : Nat) (v : Value) (hv : (xs.flatMap e.enc)[j]? = some v) : hcell H (adr p j) = some v := by
  obtain ⟨i, k, x, rfl, h2, h3⟩ := flat_inv e xs j v hv
  exact h.cell i x h2 k v h3

/-- the row at p' lies where that at p lay, or is new -/
def NewP (w : World) (p p' : Option Addr) : Prop := blk p' = blk p ∨ ∀ k, blk p' = some k → w.heap.size ≤ k

theorem grown_trans {w w1 w2 : World} {p p' : Option Addr} (h1 : w.grownBy w1 (blk p)) (hp : NewP w p p') (h2 : w1.grownBy w2 (blk p')) : w.grownBy w2 (blk p) := by
  refine ⟨h2.os.trans h1.os, h2.tape.trans h1.tape, h2.output.trans h1.output, Nat.le_trans h1.size h2.size, fun k hk hne => ?_⟩
  rw [h2.block k (Nat.lt_of_lt_of_le hk h1.size) (fun e => ?_), h1.block k hk hne]
  rcases hp with hp | hp
  · exact hne (by rw [e, hp])
  · have := hp k e.symm; omega

theorem NewP.trans {w w1 : World} {p p' p2 : Option Addr} (h : NewP w p p') (hs : w.heap.size ≤ w1.heap.size) (h2 : NewP w1 p' p2) : NewP w p p2 := by
  rcases h2 with h2 | h2
  · rcases h with h | h
    · exact .inl (h2.trans h)
    · exact .inr (fun k hk => h k (by rw [← h2]; exact hk))
  · exact .inr (fun k hk => Nat.le_trans hs (h2 k hk))

theorem grown_ext {w w1 w2 : World} {row : Option Nat} (h1 : w.grownBy w1 row) (h2 : Ext w1 w2) : w.grownBy w2 row :=
  ⟨h2.os.trans h1.os, h2.tape.trans h1.tape, h2.output.trans h1.output, Nat.le_trans h1.size h2.size, fun k hk hne => (h2.block k (Nat.lt_of_lt_of_le hk h1.size)).trans (h1.block k hk hne)⟩
/-- a block that the call made itself may be turned: what was there stays -/
theorem Ext.own {w w1 w2 : World} {row : Option Nat} (h1 : Ext w w1) (h2 : w1.grownBy w2 row) (hr : ∀ k, row = some k → w.heap.size ≤ k) : Ext w w2 :=
  ⟨h2.os.trans h1.os, h2.tape.trans h1.tape, h2.output.trans h1.output, Nat.le_trans h1.size h2.size, fun k hk => (h2.block k (Nat.lt_of_lt_of_le hk h1.size) (fun e => by have := hr k e.symm; omega)).trans (h1.block k hk)⟩

theorem run_append {α : Type} {e : Enc α} {B : Nat} {xs ys : List α} {q : Option Addr} {c2 : Nat} (hu : SliceT P t u sz by_) (hsz : e.sz = sz) (hB : B ≤ w.heap.size) (hown : Own w B u e p c xs) (hsl : Sl w.heap e q c2 ys)
    (hlen : (xs.length + ys.length) * by_ ≤ 140737488355328) (hmax : xs.length + ys.length ≤ 9223372036854775807) (ty : TypeId) :
    ∃ p' c' w', (Builtin.append_ #[t, t] ty #[.slice p xs.length c, .slice q ys.length c2]).run P w = .ok (.slice p' (xs ++ ys).length c') w' ∧ Own w' B u e p' c' (xs ++ ys) ∧ w.grownBy w' (blk p) ∧ NewP w p p' := by
  cases q with
  | none =>
    have h1 := hsl.ok.nul rfl
    have h2 := hsl.ok.le
    obtain rfl : ys = [] := List.eq_nil_of_length_eq_zero (by omega)
    subst h1
    refine ⟨p, c, w, ?_, by simpa using hown, ⟨rfl, rfl, rfl, Nat.le_refl _, fun _ _ _ => rfl⟩, .inl rfl⟩
    have := run_append_nothing (p := p) (len := xs.length) (c := c) hu hown.sl.ok.le ty w
    simpa using this
  | some a =>
    have hn : ∀ j v, (ys.flatMap e.enc)[j]? = some v → w.cell? (a.add j) = some v := by
      intro j v hv
      have hne : 0 < ys.length := by cases ys <;> simp_all
      have hspot := hsl.ok.spot a rfl (by have := hsl.ok.le; omega)
      have hc := hsl.flat j v hv
      obtain ⟨b, o, s⟩ := a
      simp only at hspot
      subst hspot
      rw [addr_add]; exact hc
    obtain ⟨h1, i, z, hi, hs1, hb1, hz, hz2⟩ := hu
    subst hsz
    obtain ⟨v', w', hr, h2, h3, _⟩ := run_append_own (P := P) w B t ty u i z e.sz by_ h1 hi hz hs1 hb1 hz2 e.pos (.slice p xs.length c) xs.length (xs.flatMap e.enc) hown a ys.length c2 (ys.flatMap e.enc)
      (flat_len e ys) hn (flat_one e ys) (by simp only [maxLen]; omega) hlen hB
    have hform : ∃ p' c', v' = .slice p' (xs ++ ys).length c' := by
      rcases h2.2 with ⟨rfl, hn⟩ | ⟨g, cap, cur, rfl, _⟩
      · exact ⟨none, 0, by rw [List.length_append, hn]⟩
      · exact ⟨some ⟨g, 0, none⟩, cap, by rw [List.length_append]⟩
    obtain ⟨p', c', rfl⟩ := hform
    refine ⟨p', c', w', hr, ?_, ?_, ?_⟩
    · unfold Own
      rw [List.flatMap_append]
      simpa using h2
    rotate_left
    · rcases hown.2 with ⟨hv, hn0⟩ | ⟨g, cap, cur, hv, hbg, hg, hnc, hcm, hcs, htake⟩
      · injection hv with e1 e2 e3
        subst e1 e3
        by_cases hm : ys.length = 0
        · obtain rfl : ys = [] := List.eq_nil_of_length_eq_zero hm
          have e4 : (Builtin.append_ #[t, t] ty #[.slice none xs.length 0, .slice (some a) ([] : List α).length c2]).run P w = .ok (.slice none xs.length 0) w := by
            simp [Builtin.append_, run_underlying h1, sizeOf, typeInfo, hi, Builtin.lenOf, hn0, Builtin.firstCells, loadCells, loadCellsFrom]
          rw [e4] at hr
          injection hr with e5 _
          injection e5 with e6 _ _
          exact .inl (by rw [← e6])
        · have hr2 := run_append_nil (P := P) w t ty u i z h1 hi hz a ys.length c2 (ys.flatMap e.enc) (by rw [hs1]; exact flat_len e ys) hn (by omega) (by omega) (by rw [hb1]; have := hlen; rw [hn0, Nat.zero_add] at this; omega)
          rw [hn0] at hr
          rw [hr2] at hr
          injection hr with e5 _
          injection e5 with e6 _ _
          exact .inr (fun k hk => by rw [← e6] at hk; simp [blk] at hk; omega)
      · injection hv with e1 e2 e3
        subst e1 e3
        by_cases hroom : xs.length + ys.length ≤ c
        · have hr2 := run_append_room (P := P) w t ty u i h1 hi g xs.length c cur hg a ys.length c2 (ys.flatMap e.enc) (by rw [hs1]; exact flat_len e ys) hn (flat_one e ys) hroom
            (by rw [hs1, hcs, flat_len, ← Nat.add_mul]; exact Nat.mul_le_mul_right _ hroom)
          rw [hr2] at hr
          injection hr with e5 _
          injection e5 with e6 _ _
          exact .inl (by rw [← e6])
        · have hr2 := run_append_grow (P := P) w t ty u i z h1 hi hz ⟨g, 0, none⟩ xs.length c (xs.flatMap e.enc) (by rw [hs1]; exact flat_len e xs) (fun j v hv => by rw [addr_add]; exact hown.sl.flat j v hv) a ys.length c2 (ys.flatMap e.enc) (by rw [hs1]; exact flat_len e ys) hn (by omega) (by omega) (growslice_fits (by omega) (by rw [hb1]; exact hlen))
          rw [hr2] at hr
          injection hr with e5 _
          injection e5 with e6 _ _
          exact .inr (fun k hk => by rw [← e6] at hk; simp [blk] at hk; omega)
    · have e1 : Value.ownBlock (.slice p xs.length c) = blk p := by cases p <;> rfl
      rw [e1] at h3
      exact h3

theorem G1_append {α : Type} {e : Enc α} {B : Nat} {xs ys : List α} {q : Option Addr} {c2 : Nat} (hu : SliceT P t u sz by_) (hx : E.look x = some (.slice p xs.length c)) (hy : E.look y = some (.slice q ys.length c2)) (hown : Own w B u e p c xs) (hsl : Sl w.heap e q c2 ys)
    (hsz : e.sz = sz) (hB : B ≤ w.heap.size) (hlen : (xs.length + ys.length) * by_ ≤ 140737488355328) (hmax : xs.length + ys.length ≤ 9223372036854775807)
    (he : effects P dr.1 ⟨d, .call ⟨.builtin .append, #[x, y], #[t, t]⟩, ty, pos, af, g⟩ = true) (hw : writes dr.1 ⟨d, .call ⟨.builtin .append, #[x, y], #[t, t]⟩, ty, pos, af, g⟩ = true) (hd : dstOk n d = true)
    (h : ∀ p' c' w', Own w' B u e p' c' (xs ++ ys) → w.grownBy w' (blk p) → NewP w p p' → G P n ops dr l (E.put d (.slice p' (xs ++ ys).length c')) w' K) : G1 P n ops dr ⟨d, .call ⟨.builtin .append, #[x, y], #[t, t]⟩, ty, pos, af, g⟩ l E w K := by
  obtain ⟨p', c', w', hr, h1, h2, h3⟩ := run_append hu hsz hB hown hsl hlen hmax ty
  exact G1_eff _ w' he hd (fun a ha => by simp [execOp, resolve, invoke, builtin, ha.eval hx, ha.eval hy, hr]) (.inl hw) (h p' c' w' h1 h2 h3)

/-- a slice of one element, made anew -/
theorem G1_build1 {α : Type} (e : Enc α) (el : α) (hu : SliceT P t u sz by_) (hx : E.look x = some v) (hc : v.cells.toList = e.enc el) (hsz : e.sz = sz) (hs24 : sz ≤ 1000)
    (he : effects P dr.1 ⟨d, .buildSlice t 1 #[(0, x)], ty, pos, af, g⟩ = true) (hd : dstOk n d = true)
    (h : ∀ p' w', p' = some ⟨w.heap.size, 0, none⟩ → Sl w'.heap e p' 1 [el] → Blk w'.heap w.heap.size u (e.enc el) → Ext w w' → w'.heap.size = w.heap.size + 1 → G P n ops dr l (E.put d (.slice p' [el].length 1)) w' K) :
    G1 P n ops dr ⟨d, .buildSlice t 1 #[(0, x)], ty, pos, af, g⟩ l E w K := by
  subst hsz
  have hpos := e.pos
  obtain ⟨h1, i, z, hi, hs1, hb1, hz, hz2⟩ := hu
  have hvs : v.cells.size = e.sz := by rw [← e.len el, ← hc]; simp
  have hve : v.cells = (e.enc el).toArray := by rw [← hc]
  have hB : Blk (w.alloc (.cells (e.enc el).toArray u)).heap w.heap.size u (e.enc el) := by unfold Blk; exact heap_alloc_new w _
  refine G1_eff _ (w.alloc (.cells (e.enc el).toArray u)) he hd (fun a ha => ?_) (.inr (Ext.alloc Ext.rfl' _).toS) (h _ _ rfl ?_ hB (Ext.alloc Ext.rfl' _) (by simp))
  · have hfill : ∀ cells : Array Value, cells.size = e.sz → Instr.fill (fun i => some (i * e.sz, e.sz)) cells [(0, v)] = some (e.enc el).toArray := by
      intro cells hcs
      simp only [Instr.fill, hvs, Nat.zero_mul, Nat.zero_add, hcs]
      simp only [ne_eq, not_true_eq_false, decide_false, Bool.false_or, gt_iff_lt, Nat.lt_irrefl, Bool.false_eq_true, if_false, Option.some.injEq]
      rw [hve]
      apply Array.ext'
      rw [← Array.foldl_toList]
      have key : ∀ (l : List Value) (k : Nat) (cs : Array Value), k + l.length ≤ cs.size →
          ((l.zipIdx k).foldl (fun cs (x : Value × Nat) => cs.setIfInBounds x.2 x.1) cs).toList = cs.toList.take k ++ l ++ cs.toList.drop (k + l.length) := by
        intro l
        induction l with
        | nil => intro k cs _; simp
        | cons y l ih =>
          intro k cs hk
          simp only [List.length_cons] at hk
          rw [List.zipIdx_cons, List.foldl_cons, ih (k + 1) _ (by simp; omega)]
          apply List.ext_getElem?
          intro j
          simp only [Array.toList_setIfInBounds]
          simp only [List.getElem?_append, List.getElem?_take, List.getElem?_drop, List.length_take, List.length_append, List.length_cons, List.getElem?_set, List.length_set, Array.length_toList, List.getElem?_cons]
          by_cases hj : j < k
          · simp [hj, show j < min k cs.size by omega, show j < min (k + 1) cs.size + l.length by omega, show j < min (k + 1) cs.size by omega, show j < k + 1 by omega, show k ≠ j by omega, show j < min k cs.size + (l.length + 1) by omega]
          · by_cases hj2 : j = k
            · subst hj2
              simp [show j < min (j + 1) cs.size by omega, show j < min (j + 1) cs.size + l.length by omega, show j < cs.size by omega, show ¬ j < min j cs.size by omega, show j < min j cs.size + (l.length + 1) by omega, show j - min j cs.size = 0 by omega]
            · have e1 : min (k + 1) cs.size = k + 1 := by omega
              have e2 : min k cs.size = k := by omega
              rw [e1, e2]
              have e3 : k + (l.length + 1) = k + 1 + l.length := by omega
              simp only [show ¬ j < k + 1 by omega, show ¬ j < k by omega, if_false, e3]
              by_cases hj3 : j < k + 1 + l.length
              · simp [hj3, show j - k ≠ 0 by omega, show j - k - 1 = j - (k + 1) by omega]
              · have e4 : k + 1 + l.length + (j - (k + 1 + l.length)) = j := by omega
                simp [hj3, e4, show k ≠ j by omega]
      have := key (e.enc el) 0 cells (by rw [e.len]; omega)
      simp only [List.take_zero, List.nil_append, Nat.zero_add, e.len] at this
      have hdrop : cells.toList.drop e.sz = [] := by rw [List.drop_eq_nil_iff]; simp [hcs]
      rw [hdrop, List.append_nil] at this
      simpa using this
    have hcells : ((Array.range (1 * e.sz)).map (z.cells[· % z.cells.size]!)).size = e.sz := by simp
    simp only [execOp, Instr.buildSlice, Sem.run_bind, run_underlying h1, Result.andThen_ok, sizeOf, typeInfo, run_program, hi, Sem.run_pure, hs1, zeroValue]
    have h24 : ¬ (1 * e.sz > 2 ^ 24) := by omega
    have h0 : ¬ (1 * e.sz = 0) := by omega
    simp only [h24, h0, if_false, Sem.run_pure, Result.andThen_ok, Sem.run_bind, run_program, hi, hz]
    simp only [List.map_toArray, List.map_cons, List.map_nil, ha.eval hx]
    rw [hfill _ hcells]
    simp [newRow, newObj, Sem.run]
  · refine ⟨⟨by simp, by simp [maxLen], (fun h => by cases h), (fun a ha _ => by simp at ha; rw [← ha])⟩, fun i' x' hi' k' v' hv' => ?_⟩
    have : i' = 0 := by have := get_lt hi'; simp at this; omega
    subst this
    simp at hi'
    subst hi'
    simpa using hB.cell hv'

end
theorem Own.base {α : Type} {e : Enc α} {w : World} {B B' T : Nat} {p : Option Addr} {c : Nat} {xs : List α} (h : Own w B T e p c xs) (hb : B' ≤ B) : Own w B' T e p c xs := by
  obtain ⟨h1, h2⟩ := h
  refine ⟨h1, ?_⟩
  rcases h2 with h2 | ⟨g, cap, cur, h3, h4, h5⟩
  · exact .inl h2
  · exact .inr ⟨g, cap, cur, h3, Nat.le_trans hb h4, h5⟩
/-- a box that is older than a row's first possible block is none of its blocks -/
theorem Own.ne {α : Type} {e : Enc α} {w : World} {B T : Nat} {p : Option Addr} {c : Nat} {xs : List α} (h : Own w B T e p c xs) {b : Nat} (hb : b < B) : ∀ a, p = some a → some b ≠ some a.block := by
  rintro a rfl e
  have := (h.ge a.block rfl).1
  simp only [Option.some.injEq] at e
  omega
/-- a box that is newer than all that a slice lies in -/
theorem Sl.ne {α : Type} {e : Enc α} {H : Array Obj} {p : Option Addr} {c : Nat} {xs : List α} (h : Sl H e p c xs) {b : Nat} (hb : H.size ≤ b) : ∀ a, p = some a → xs ≠ [] → some b ≠ some a.block := by
  rintro a rfl hne e'
  obtain ⟨x, hx⟩ := get_some (xs := xs) (k := 0) (by cases xs <;> simp_all)
  have hlen : 0 < (e.enc x).length := by rw [e.len]; exact e.pos
  have := hcell_lt (h.cell 0 x hx 0 _ (List.getElem?_eq_getElem hlen))
  simp only [adr] at this
  simp only [Option.some.injEq] at e'
  omega

theorem Enc.oneAgg {α : Type} (e : Enc α) (x : α) : ∀ v ∈ (Value.agg (e.enc x).toArray).cells.toList, v.oneCell' = true := e.one x

/- the kinds of elements -/
def ePair : Enc (ByteArray × ByteArray) := ⟨2, fun p => [.string p.1, .string p.2], fun _ => rfl, fun _ v hv => by simp at hv; rcases hv with rfl | rfl <;> rfl, by decide⟩
def eStr : Enc ByteArray := ⟨1, fun p => [.string p], fun _ => rfl, fun _ v hv => by simp at hv; rw [hv]; rfl, by decide⟩
def eMem : Enc (Int × ByteArray) := ⟨2, fun p => [.int .i64 p.1, .string p.2], fun _ => rfl, fun _ v hv => by simp at hv; rcases hv with rfl | rfl <;> rfl, by decide⟩
def eInt : Enc Int := ⟨1, fun p => [.int .i64 p], fun _ => rfl, fun _ v hv => by simp at hv; rw [hv]; rfl, by decide⟩
def eByte : Enc UInt8 := ⟨1, fun p => [.int .u8 p.toNat], fun _ => rfl, fun _ v hv => by simp at hv; rw [hv]; rfl, by decide⟩

attribute [irreducible] NewP
end Go.V

/- Rows that are appended to, over several steps; bytes and strings. -/

namespace Go.V
open Go.RowKit

/-- from w to w' the row at p has become the row at p' with elements xs; nothing else that was there has turned -/
structure App {α : Type} (w w' : World) (B T : Nat) (e : Enc α) (p p' : Option Addr) (c' : Nat) (xs : List α) : Prop where
  own : Own w' B T e p' c' xs
  grown : w.grownBy w' (blk p)
  new : NewP w p p'
  base : B ≤ w'.heap.size

section
variable {α : Type} {e : Enc α} {w w1 w2 : World} {B T : Nat} {p p1 p2 : Option Addr} {c c1 c2 : Nat} {xs ys : List α}

theorem App.refl (h : Own w B T e p c xs) (hB : B ≤ w.heap.size) : App w w B T e p p c xs := ⟨h, ⟨rfl, rfl, rfl, Nat.le_refl _, fun _ _ _ => rfl⟩, by unfold NewP; exact .inl rfl, hB⟩
theorem App.ext (h : App w w1 B T e p p1 c1 xs) (hx : Ext w1 w2) : App w w2 B T e p p1 c1 xs := ⟨h.own.ext hx, grown_ext h.grown hx, h.new, Nat.le_trans h.base hx.size⟩
theorem App.trans (h : App w w1 B T e p p1 c1 xs) (k : App w1 w2 B T e p1 p2 c2 ys) : App w w2 B T e p p2 c2 ys := ⟨k.own, grown_trans h.grown h.new k.grown, h.new.trans h.grown.size k.new, k.base⟩
/-- the row is one that the call made: what was there when it began stays -/
theorem Ext.app {w0 : World} (hx : Ext w0 w) (h : App w w1 B T e p p1 c1 xs) (hp : ∀ k, V.blk p = some k → w0.heap.size ≤ k) : Ext w0 w1 := hx.own h.grown hp
theorem App.sl (h : App w w1 B T e p p1 c1 xs) : Sl w1.heap e p1 c1 xs := h.own.sl
end

theorem Own.at {α : Type} {e : Enc α} {w : World} {B T : Nat} {p : Option Addr} {c : Nat} {xs : List α} (h : Own w B T e p c xs) {k : Nat} (hk : blk p = some k) : ∃ cur, w.heap[k]? = some (.cells cur T (0, 0)) := by
  rcases h.2 with ⟨hv, _⟩ | ⟨g, cap, cur, hv, _, hg, _⟩
  · injection hv with e1 _ _; subst e1; cases hk
  · injection hv with e1 _ _; subst e1
    simp only [blk, Option.some.injEq] at hk
    subst hk
    exact ⟨cur, hg⟩
/-- rows of different element types lie in different blocks -/
theorem Own.neT {α β : Type} {e : Enc α} {e' : Enc β} {w : World} {B B' T T' : Nat} {p p' : Option Addr} {c c' : Nat} {xs : List α} {ys : List β} (h : Own w B T e p c xs) (k : Own w B' T' e' p' c' ys) (hT : T ≠ T') : ∀ a, p' = some a → blk p ≠ some a.block := by
  rintro a rfl hb
  obtain ⟨cur, h1⟩ := h.at hb
  obtain ⟨cur', h2⟩ := k.at (k := a.block) rfl
  rw [h1] at h2
  simp at h2
  exact hT h2.2
theorem Own.neB {α : Type} {e : Enc α} {w : World} {B T T' b : Nat} {p : Option Addr} {c : Nat} {xs : List α} {cs : List Value} (h : Own w B T e p c xs) (k : Blk w.heap b T' cs) (hT : T ≠ T') : blk p ≠ some b := by
  intro hb
  obtain ⟨cur, h1⟩ := h.at hb
  unfold Blk at k
  rw [h1] at k
  simp at k
  exact hT k.2
section
variable {P : Program} {n : Nat} {ops : Array Oper} {dr : Nat × List Nat} {dq : Nat} {l : List Oper} {E : Env} {w : World} {K : Env → World → Prop}
variable {d : Option Nat} {ty : TypeId} {pos : String} {af : Array Edge} {g : Option (Nat × Bool)} {x y z : Operand} {k k' : IntKind} {i j : Int} {t t' u sz by_ : Nat} {v v' : Value} {p : Option Addr} {c len m : Nat} {b : Bool}

theorem G1_appendA {α : Type} {e : Enc α} {B : Nat} {xs ys : List α} {q : Option Addr} {c2 : Nat} (hu : SliceT P t u sz by_) (hx : E.look x = some (.slice p xs.length c)) (hy : E.look y = some (.slice q ys.length c2)) (hown : Own w B u e p c xs) (hsl : Sl w.heap e q c2 ys)
    (hsz : e.sz = sz) (hB : B ≤ w.heap.size) (hlen : (xs.length + ys.length) * by_ ≤ 140737488355328) (hmax : xs.length + ys.length ≤ 9223372036854775807)
    (he : effects P dr.1 ⟨d, .call ⟨.builtin .append, #[x, y], #[t, t]⟩, ty, pos, af, g⟩ = true) (hw : writes dr.1 ⟨d, .call ⟨.builtin .append, #[x, y], #[t, t]⟩, ty, pos, af, g⟩ = true) (hd : dstOk n d = true)
    (h : ∀ p' c' w', App w w' B u e p p' c' (xs ++ ys) → G P n ops dr l (E.put d (.slice p' (xs ++ ys).length c')) w' K) : G1 P n ops dr ⟨d, .call ⟨.builtin .append, #[x, y], #[t, t]⟩, ty, pos, af, g⟩ l E w K :=
  G1_append hu hx hy hown hsl hsz hB hlen hmax he hw hd (fun p' c' w' h1 h2 h3 => h p' c' w' ⟨h1, h2, h3, Nat.le_trans hB h2.size⟩)

theorem foldl_push (l : List UInt8) : ∀ s : ByteArray, (l.map (fun b : UInt8 => ((b.toNat : Nat) : Int))).foldl (fun r (n : Int) => r.push (UInt8.ofNat n.toNat)) s = ⟨s.data ++ l.toArray⟩ := by
  induction l with
  | nil => intro s; cases s; simp
  | cons a l ih =>
    intro s
    rw [List.map_cons, List.foldl_cons, ih]
    cases s
    simp [ByteArray.push]

def mkStr (l : List UInt8) : ByteArray := ⟨l.toArray⟩

theorem run_toString {bs : List UInt8} (hu : SliceT P t u 1 by_) (hi : IntT P u .u8) (hd : StrT P t') (hs : Sl w.heap eByte p c bs) : (convert t t' (.slice p bs.length c)).run P w = .ok (.string (mkStr bs)) w := by
  rw [run_convert_bytes_string w t t' u p bs.length c hu.1 hi hd]
  cases p with
  | none =>
    have h1 := hs.ok.nul rfl
    have h2 := hs.ok.le
    obtain rfl : bs = [] := List.eq_nil_of_length_eq_zero (by omega)
    simp [Conv.bytesToString, mkStr]; rfl
  | some a =>
    have hn : ∀ j v, (bs.flatMap eByte.enc)[j]? = some v → w.cell? (a.add j) = some v := by
      intro j v hv
      have hne : 0 < bs.length := by cases bs <;> simp_all
      have hspot := hs.ok.spot a rfl (by have := hs.ok.le; omega)
      have hc := hs.flat j v hv
      obtain ⟨b, o, s⟩ := a
      simp only at hspot
      subst hspot
      rw [addr_add]; exact hc
    have hl : (loadCells a bs.length).run P w = .ok ((bs.map (fun b : UInt8 => ((b.toNat : Nat) : Int))).map (Value.int .u8)).toArray w := by
      have e1 : (bs.map (fun b : UInt8 => ((b.toNat : Nat) : Int))).map (Value.int .u8) = bs.flatMap eByte.enc := by
        rw [List.map_map, List.flatMap_def]
        simp only [eByte]
        clear hs hn
        induction bs with
        | nil => rfl
        | cons a l ih => simp [ih]
      rw [e1]
      have := run_loadCells_list (P := P) w a (bs.flatMap eByte.enc) hn
      rw [flat_len] at this
      simpa [eByte] using this
    rw [run_bytesToString w _ _ _ _ hl, foldl_push]
    simp [mkStr]

theorem G1_toString {bs : List UInt8} (hu : SliceT P t u 1 by_) (hi : IntT P u .u8) (hk : StrT P t') (hx : E.look x = some (.slice p bs.length c)) (hs : Sl w.heap eByte p c bs) (hd : dstOk n d = true)
    (h : G P n ops (dq, []) l (E.put d (.string (mkStr bs))) w K) : G1 P n ops (dq, []) ⟨d, .convert t t' x, ty, pos, af, g⟩ l E w K :=
  G1_quiet _ hd (fun a ha w' hw => by simp [execOp, ha.eval hx, run_toString hu hi hk (hs.ext (rd_ext hw rfl))]) h

theorem G1_convE {k2 : IntKind} (hx : E.look x = some (.int k i)) (hs : IntT P t k') (ht : IntT P t' k2) (hv : k2.wrap i = j) (hd : dstOk n d = true) (h : G P n ops dr l (E.put d (.int k2 j)) w K) : G1 P n ops dr ⟨d, .convert t t' x, ty, pos, af, g⟩ l E w K :=
  G1_conv hx hs ht hd (by rw [hv]; exact h)

def Env.parts (E : Env) : List (Nat × Operand) → Option (List (Nat × Value))
  | [] => some []
  | (i, x) :: xs => match E.look x, Env.parts E xs with
    | some v, some vs => some ((i, v) :: vs)
    | _, _ => none

theorem Holds.parts {a : Act} (h : Holds n E a) : ∀ {xs : List (Nat × Operand)} {vs : List (Nat × Value)}, E.parts xs = some vs → xs.map (fun (i, x) => (i, a.eval x)) = vs
  | [], vs, hx => by simpa [Env.parts] using hx
  | (i, x) :: xs, vs, hx => by
    simp only [Env.parts] at hx
    split at hx
    · rename_i v us h1 h2
      obtain rfl : (i, v) :: us = vs := by simpa using hx
      simp [h.eval h1, h.parts h2]
    · simp at hx

/-- a struct or array, built of parts -/
theorem G1_build {parts : Array (Nat × Operand)} {ps : List (Nat × Value)} (v : Value) (hp : E.parts parts.toList = some ps) (hr : ∀ w, (Instr.build t ps.toArray).run P w = .ok v w) (hd : dstOk n d = true)
    (h : G P n ops dr l (E.put d v) w K) : G1 P n ops dr ⟨d, .build t parts, ty, pos, af, g⟩ l E w K :=
  G1_quiet v hd (fun a ha w' _ => by
    have hm : (parts.map fun (i, x) => (i, a.eval x)) = ps.toArray := by
      rw [← ha.parts hp]; apply Array.ext'; simp
    simp only [execOp, hm]
    simp [hr w']) h

theorem flat_set {α : Type} (e : Enc α) (el' : α) (off : Nat) (v : Value) : ∀ (xs : List α) (q : Nat) (el : α), xs[q]? = some el → e.enc el' = (e.enc el).set off v → off < e.sz →
    (xs.flatMap e.enc).set (q * e.sz + off) v = (xs.set q el').flatMap e.enc
  | [], q, el, h, _, _ => by simp at h
  | x :: xs, 0, el, h, he, ho => by
    simp at h; subst h
    rw [List.set_cons_zero, List.flatMap_cons, List.flatMap_cons, Nat.zero_mul, Nat.zero_add, List.set_append_left _ _ (by rw [e.len]; exact ho), he]
  | x :: xs, q + 1, el, h, he, ho => by
    simp at h
    rw [List.set_cons_succ, List.flatMap_cons, List.flatMap_cons, List.set_append_right _ _ (by rw [e.len, Nat.add_mul]; omega), e.len]
    have e1 : (q + 1) * e.sz + off - e.sz = q * e.sz + off := by rw [Nat.add_mul]; omega
    rw [e1, flat_set e el' off v xs q el h he ho]

theorem take_set {l : List Value} {n i : Nat} {v : Value} (hi : i < n) (hn : n ≤ l.length) : (l.take i ++ [v] ++ l.drop (i + 1)).take n = (l.take n).set i v := by
  apply List.ext_getElem?
  intro j
  simp only [List.getElem?_take, List.getElem?_append, List.getElem?_drop, List.length_append, List.length_take, List.length_cons, List.length_nil, List.getElem?_set, List.getElem?_cons]
  by_cases hj : j < n
  · by_cases h1 : j < i
    · simp [hj, h1, show j < min i l.length by omega, show j < min i l.length + 1 by omega, show i ≠ j by omega]
    · by_cases h2 : j = i
      · subst h2; simp [hj, show j < min n l.length by omega, show min j l.length = j by omega]
      · simp [hj, show min i l.length = i by omega, show ¬ j < i + 1 by omega, show i ≠ j by omega, show i + 1 + (j - (i + 1)) = j by omega]
  · simp [hj]; intro h; omega

/-- a cell of an element of an own row is written -/
theorem G1_storeEl {α : Type} {e : Enc α} {B T : Nat} {xs : List α} {q off : Nat} {el : α} (el' : α) (hsz : SizeT P t 1) (hx : E.look x = some (.pointer (some (adr p m)))) (hy : E.look y = some v) (hown : Own w B T e p c xs) (hq : xs[q]? = some el)
    (hm : m = q * e.sz + off) (hel : e.enc el' = (e.enc el).set off v) (hoff : off < e.sz) (hc : v.cells = #[v]) (h1 : v.oneCell' = true) (hB : B ≤ w.heap.size)
    (he : effects P dr.1 ⟨d, .store t x y, ty, pos, af, g⟩ = true) (hw : writes dr.1 ⟨d, .store t x y, ty, pos, af, g⟩ = true) (hd : dstOk n d = true)
    (h : ∀ w', App w w' B T e p p c (xs.set q el') → w'.heap.size = w.heap.size → G P n ops dr l (E.put d undef) w' K) : G1 P n ops dr ⟨d, .store t x y, ty, pos, af, g⟩ l E w K := by
  have hlt := get_lt hq
  obtain ⟨i0, hi0, hs0⟩ := hsz
  rcases hown.2 with ⟨_, hn⟩ | ⟨gb, cap, cur, hv, hbg, hg, hnc, hcm, hcs, htake⟩
  · omega
  · injection hv with e1 e2 e3
    subst e1 e3
    have hmlt : m < xs.length * e.sz := by
      subst hm
      have : q * e.sz + e.sz ≤ xs.length * e.sz := by
        have := Nat.mul_le_mul_right e.sz (show q + 1 ≤ xs.length from hlt)
        rw [Nat.add_mul] at this; omega
      omega
    have hmc : xs.length * e.sz ≤ cur.size := by rw [hcs]; exact Nat.mul_le_mul_right _ hnc
    have hst := run_storeCells_at P gb m T [v] 0 cur w hg (by simp; omega) (by simp [h1])
    simp only [Nat.add_zero] at hst
    refine G1_skip (w.setRow gb (cur.toList.take m ++ [v] ++ cur.toList.drop (m + 1)).toArray) he hd (fun a ha => ?_) (.inl hw) (h _ ?_ (by simp))
    · simp only [execOp, Instr.storeAt, ha.eval hx, ha.eval hy, Instr.sureAddr, storeVar, sizeOf, typeInfo, Sem.run_bind, Sem.run_pure, run_program, Result.andThen_ok, hi0, hs0, hc]
      simp only [List.size_toArray, List.length_cons, List.length_nil, Nat.zero_add, ne_eq, not_true_eq_false, if_false]
      have : (storeCells (adr (some ⟨gb, 0, none⟩) m) [v]).run P w = .ok () (w.setRow gb (cur.toList.take m ++ [v] ++ cur.toList.drop (m + 1)).toArray) := by
        show (storeCells ⟨gb, 0 + m, none⟩ [v]).run P w = _
        rw [Nat.zero_add]; simpa using hst
      simp [this]
    · refine ⟨?_, setRow_grown w gb _, by unfold NewP; exact .inl rfl, by simpa using hB⟩
      unfold Own
      rw [List.length_set]
      refine ⟨by rw [flat_len, List.length_set], .inr ⟨gb, c, _, rfl, hbg, setRow_heap w gb cur _ T _ hg, hnc, hcm, ?_, ?_⟩⟩
      · simp only [List.size_toArray, List.length_append, List.length_take, List.length_drop, Array.length_toList, List.length_cons, List.length_nil]
        rw [← hcs]; omega
      · rw [← flat_set e el' off v xs q el hq hel hoff, ← hm, ← htake]
        exact take_set hmlt (by simpa using hmc)

end
end Go.V

/- More rules: parts of elements, slices made anew. -/

namespace Go.V
theorem fold_set : ∀ (l : List Value) (off k : Nat) (cs : Array Value), off + k + l.length ≤ cs.size →
    ((l.zipIdx k).foldl (fun cs (x : Value × Nat) => cs.setIfInBounds (off + x.2) x.1) cs).toList = cs.toList.take (off + k) ++ l ++ cs.toList.drop (off + k + l.length)
  | [], off, k, cs, _ => by simp
  | y :: l, off, k, cs, hk => by
    simp only [List.length_cons] at hk
    rw [List.zipIdx_cons, List.foldl_cons, fold_set l off (k + 1) _ (by simp; omega)]
    apply List.ext_getElem?
    intro j
    simp only [Array.toList_setIfInBounds]
    simp only [List.getElem?_append, List.getElem?_take, List.getElem?_drop, List.length_take, List.length_append, List.length_cons, List.getElem?_set, List.length_set, Array.length_toList, List.getElem?_cons]
    by_cases hj : j < off + k
    · simp [hj, show j < min (off + k) cs.size by omega, show j < min (off + (k + 1)) cs.size + l.length by omega, show j < min (off + (k + 1)) cs.size by omega, show j < off + (k + 1) by omega, show off + k ≠ j by omega, show j < min (off + k) cs.size + (l.length + 1) by omega]
    · by_cases hj2 : j = off + k
      · subst hj2
        simp [show off + k < min (off + (k + 1)) cs.size by omega, show off + k < min (off + (k + 1)) cs.size + l.length by omega, show off + k < cs.size by omega, show ¬ off + k < min (off + k) cs.size by omega, show off + k < min (off + k) cs.size + (l.length + 1) by omega, show off + k - min (off + k) cs.size = 0 by omega]
      · have e1 : min (off + (k + 1)) cs.size = off + k + 1 := by omega
        have e2 : min (off + k) cs.size = off + k := by omega
        rw [e1, e2]
        have e3 : off + k + (l.length + 1) = off + k + 1 + l.length := by omega
        have e5 : off + (k + 1) = off + k + 1 := by omega
        simp only [show ¬ j < off + k + 1 by omega, show ¬ j < off + k by omega, if_false, e3, e5]
        by_cases hj3 : j < off + k + 1 + l.length
        · simp [hj3, show j - (off + k) ≠ 0 by omega, show j - (off + k) - 1 = j - (off + k + 1) by omega]
        · have e4 : off + k + 1 + l.length + (j - (off + k + 1 + l.length)) = j := by omega
          simp [hj3, e4, show off + k ≠ j by omega]

theorem fill_all {α : Type} (e : Enc α) : ∀ (ps : List (Nat × Value)) (els : List α) (k : Nat) (cells : Array Value), ps.map (·.1) = List.range' k ps.length → ps.map (fun x => x.2.cells.toList) = els.map e.enc → (k + els.length) * e.sz ≤ cells.size →
    ∃ r, Instr.fill (fun i => some (i * e.sz, e.sz)) cells ps = some r ∧ r.toList = cells.toList.take (k * e.sz) ++ els.flatMap e.enc ++ cells.toList.drop ((k + els.length) * e.sz)
  | [], els, k, cells, _, h, _ => by
    obtain rfl : els = [] := by cases els <;> simp_all
    exact ⟨cells, rfl, by simp⟩
  | (i, v) :: ps, [], k, cells, _, h, _ => by simp at h
  | (i, v) :: ps, el :: els, k, cells, h1, h, h2 => by
    simp only [List.map_cons, List.length_cons, List.range'_succ, List.cons.injEq] at h1 h
    obtain ⟨rfl, h1⟩ := h1
    obtain ⟨hv, h⟩ := h
    have hvs : v.cells.size = e.sz := by rw [← e.len el, ← hv]; simp
    simp only [List.length_cons] at h2
    have hm : (i + (els.length + 1)) * e.sz = i * e.sz + e.sz + els.length * e.sz := by rw [Nat.add_mul, Nat.add_mul, Nat.one_mul]; omega
    have hle : i * e.sz + e.sz ≤ cells.size := by rw [hm] at h2; omega
    have hfold := fold_set v.cells.toList (i * e.sz) 0 cells (by simp only [Array.length_toList, hvs]; omega)
    rw [hv, e.len, Nat.add_zero] at hfold
    have hz : v.cells.zipIdx.foldl (fun cs (x : Value × Nat) => cs.setIfInBounds (i * e.sz + x.2) x.1) cells = (v.cells.toList.zipIdx 0).foldl (fun cs (x : Value × Nat) => cs.setIfInBounds (i * e.sz + x.2) x.1) cells := by
      rw [← Array.foldl_toList]; simp
    rw [hv] at hz
    obtain ⟨r, hr, hrl⟩ := fill_all e ps els (i + 1) (v.cells.zipIdx.foldl (fun cs (x : Value × Nat) => cs.setIfInBounds (i * e.sz + x.2) x.1) cells) h1 h (by
      rw [← Array.length_toList, hz, hfold]
      simp only [List.length_append, List.length_take, List.length_drop, e.len, Array.length_toList]
      have : (i + 1 + els.length) * e.sz = (i + (els.length + 1)) * e.sz := by congr 1; omega
      rw [this]; omega)
    refine ⟨r, ?_, ?_⟩
    · simp only [Instr.fill]
      rw [if_neg (by simp only [hvs]; simp; omega)]
      exact hr
    · rw [hrl, hz, hfold]
      have a1 : (i + 1) * e.sz = i * e.sz + e.sz := by rw [Nat.add_mul, Nat.one_mul]
      have a2 : (i + 1 + els.length) * e.sz = i * e.sz + e.sz + els.length * e.sz := by rw [Nat.add_mul, Nat.add_mul, Nat.one_mul]
      rw [a1, a2]
      simp only [List.length_cons]
      rw [hm]
      have el1 := e.len el
      have l1 : (cells.toList.take (i * e.sz) ++ e.enc el).length = i * e.sz + e.sz := by simp [el1]; omega
      rw [List.take_append_of_le_length (by rw [l1]; omega), List.take_of_length_le (by rw [l1]; omega), List.drop_append, List.drop_of_length_le (by rw [l1]; omega), l1, List.nil_append, List.drop_drop]
      simp only [List.flatMap_cons, List.append_assoc]
      congr 4
      omega

section
variable {P : Program} {n : Nat} {ops : Array Oper} {dr : Nat × List Nat} {dq : Nat} {l : List Oper} {E : Env} {w : World} {K : Env → World → Prop}
variable {d : Option Nat} {ty : TypeId} {pos : String} {af : Array Edge} {g : Option (Nat × Bool)} {x y z : Operand} {k k' : IntKind} {i j : Int} {t t' u sz by_ : Nat} {v v' : Value} {p : Option Addr} {c len m : Nat} {b : Bool}

/-- a slice of given elements, made anew -/
theorem G1_buildN {α : Type} (e : Enc α) (els : List α) {parts : Array (Nat × Operand)} {ps : List (Nat × Value)} (hu : SliceT P t u sz by_) (hx : E.parts parts.toList = some ps) (h0 : ps.map (·.1) = List.range' 0 ps.length) (hc : ps.map (fun x => x.2.cells.toList) = els.map e.enc) (hm : m = els.length) (hsz : e.sz = sz) (hpos : 0 < els.length) (hs24 : els.length * sz ≤ 10000)
    (he : effects P dr.1 ⟨d, .buildSlice t m parts, ty, pos, af, g⟩ = true) (hd : dstOk n d = true)
    (h : ∀ p' w', Own w' w.heap.size u e p' els.length els → Ext w w' → w'.heap.size = w.heap.size + 1 → G P n ops dr l (E.put d (.slice p' els.length els.length)) w' K) :
    G1 P n ops dr ⟨d, .buildSlice t m parts, ty, pos, af, g⟩ l E w K := by
  subst hsz hm
  have hp := e.pos
  obtain ⟨h1, i, z, hi, hs1, hb1, hz, hz2⟩ := hu
  have hnz : 0 < els.length * e.sz := Nat.mul_pos hpos hp
  have hcells : ((Array.range (els.length * e.sz)).map (z.cells[· % z.cells.size]!)).size = els.length * e.sz := by simp
  obtain ⟨r, hr, hrl⟩ := fill_all e ps els 0 ((Array.range (els.length * e.sz)).map (z.cells[· % z.cells.size]!)) h0 hc (by rw [hcells]; simp)
  have hr' : r = (els.flatMap e.enc).toArray := by
    apply Array.ext'
    rw [hrl]
    rw [List.drop_of_length_le (by simp)]
    simp
  subst hr'
  refine G1_eff _ (w.alloc (.cells (els.flatMap e.enc).toArray u)) he hd (fun a ha => ?_) (.inr (Ext.alloc Ext.rfl' _).toS) (h (some ⟨w.heap.size, 0, none⟩) _ ?_ (Ext.alloc Ext.rfl' _) (by simp))
  · have hm : (parts.map fun (i, x) => (i, a.eval x)) = ps.toArray := by
      rw [← ha.parts hx]; apply Array.ext'; simp
    simp only [execOp, hm, Instr.buildSlice, Sem.run_bind, run_underlying h1, Result.andThen_ok, sizeOf, typeInfo, run_program, hi, Sem.run_pure, hs1, zeroValue]
    have h24 : ¬ (els.length * e.sz > 2 ^ 24) := by omega
    have h0' : ¬ (els.length * e.sz = 0) := by omega
    simp only [h24, h0', if_false, Sem.run_pure, Result.andThen_ok, Sem.run_bind, run_program, hi, hz]
    rw [hr]
    simp [newRow, newObj, Sem.run]
  · unfold Own
    refine ⟨by rw [flat_len], .inr ⟨w.heap.size, els.length, _, rfl, Nat.le_refl _, heap_alloc_new w _, Nat.le_refl _, ?_, by rw [List.size_toArray, flat_len], ?_⟩⟩
    · have : els.length ≤ els.length * e.sz := Nat.le_mul_of_pos_right _ hp
      simp only [maxLen]; omega
    · rw [← flat_len]; exact List.take_length

/-- make with no element, but room -/
theorem G1_make0 {α : Type} (e : Enc α) (hu : SliceT P t u sz by_) (hx : E.look x = some (.int k 0)) (hy : E.look y = some (.int k' i)) (hsz : e.sz = sz) (h0 : 0 ≤ i) (h1 : (by_ : Int) * i ≤ 281474976710656) (h2 : i ≤ 9223372036854775807)
    (he : effects P dr.1 ⟨d, .makeSlice t x y, ty, pos, af, g⟩ = true) (hd : dstOk n d = true)
    (h : ∀ p' w', Own w' w.heap.size u e p' i.toNat [] → Ext w w' → w'.heap.size = w.heap.size + 1 → G P n ops dr l (E.put d (.slice p' ([] : List α).length i.toNat)) w' K) :
    G1 P n ops dr ⟨d, .makeSlice t x y, ty, pos, af, g⟩ l E w K := by
  subst hsz
  obtain ⟨hu1, inf, z, hi, hs1, hb1, hz, hz2⟩ := hu
  have hr := run_make (P := P) w t u inf z hu1 hi hz k k' 0 i (Int.le_refl _) h0 (by rw [hb1]; exact h1) h2
  refine G1_eff _ _ he hd (fun a ha => by simp only [execOp, ha.eval hx, ha.eval hy, Sem.run_bind, hr]; rfl) (.inr (Ext.alloc Ext.rfl' _).toS) (h (some ⟨w.heap.size, 0, none⟩) _ ?_ (Ext.alloc Ext.rfl' _) (by simp))
  exact World.ownsRow_made w _ _ (Nat.le_refl _) (by simp only [maxLen]; omega) (by rw [size_madeCells, hs1])

/-- a part of an element -/
theorem G1_loadElSub {α : Type} {e : Enc α} {xs : List α} {q off esz : Nat} {el : α} {vs : List Value} (hu : AggT P t sz) (hx : E.look x = some (.pointer (some (adr p (q * esz + off))))) (hs : Sl w.heap e p c xs) (hq : xs[q]? = some el) (he : e.sz = esz)
    (hv : ((e.enc el).drop off).take sz = vs) (hl : vs.length = sz) (hd : dstOk n d = true)
    (h : G P n ops (dq, []) l (E.put d (.agg vs.toArray)) w K) : G1 P n ops (dq, []) ⟨d, .load t x, ty, pos, af, g⟩ l E w K :=
  G1_loadAgg hu hx hl (fun k v hk => by
    subst he hv
    have hk' : (e.enc el)[off + k]? = some v := by
      have := get_lt hk
      rw [hl] at this
      rw [List.getElem?_take, if_pos this, List.getElem?_drop] at hk
      exact hk
    have := hs.cell q el hq (off + k) v hk'
    rw [Nat.add_assoc]; exact this) hd h

end
end Go.V

/- Arrays in boxes. -/

namespace Go.V
open Go.RowKit
def ArrT (P : Program) (t n u sz : Nat) : Prop := P.underlying t = some (.array n u) ∧ ∃ i, P.info? u = some i ∧ i.size = sz
theorem ArrT.of {P : Program} {t n u sz : Nat} (h1 : P.underlying t = some (.array n u)) (h2 : (P.info? u).map (·.size) = some sz) : ArrT P t n u sz := by
  refine ⟨h1, ?_⟩
  cases hi : P.info? u with
  | none => simp [hi] at h2
  | some i => exact ⟨i, rfl, by simpa [hi] using h2⟩
section
variable {P : Program} {n : Nat} {ops : Array Oper} {dr : Nat × List Nat} {dq : Nat} {l : List Oper} {E : Env} {w : World} {K : Env → World → Prop}
variable {d : Option Nat} {ty : TypeId} {pos : String} {af : Array Edge} {g : Option (Nat × Bool)} {x y z : Operand} {k k' : IntKind} {i j : Int} {t nn u sz m : Nat} {p : Option Addr}
theorem G1_indexArr (hu : ArrT P t nn u sz) (hx : E.look x = some (.pointer (some (adr p m)))) (hy : E.look y = some (.int k i)) (h0 : 0 ≤ i) (h1 : i < nn) (hd : dstOk n d = true)
    (h : G P n ops dr l (E.put d (.pointer (some (adr p (m + i.toNat * sz))))) w K) : G1 P n ops dr ⟨d, .indexAddr t x y, ty, pos, af, g⟩ l E w K :=
  G1_quiet _ hd (fun a ha w' _ => by
    obtain ⟨hu, inf, hi, hs⟩ := hu
    simp [execOp, Instr.indexAt, ha.eval hx, ha.eval hy, asIntOf, run_underlying (P := P) hu, h0, h1, Instr.sureAddr, sizeOf, typeInfo, hi, hs, adr_add]) h
end
end Go.V

/- The program's types, as facts for the walk. -/

namespace Go.Proofs.YtipbakiecocioaaGreatDoor
open Go.V
theorem mixed : Tryz.prog.follows .mixedOrders = true := by kernel_rfl
theorem T.i2 : IntT Tryz.prog 2 .i64 := Tryz.underlying2
theorem T.p2 : PlainT Tryz.prog 2 := PlainT.of Tryz.underlying2 rfl
theorem T.z2 : SizeT Tryz.prog 2 1 := SizeT.of (by kernel_rfl)
theorem T.i3 : IntT Tryz.prog 3 .i64 := Tryz.underlying3
theorem T.p3 : PlainT Tryz.prog 3 := PlainT.of Tryz.underlying3 rfl
theorem T.z3 : SizeT Tryz.prog 3 1 := SizeT.of (by kernel_rfl)
theorem T.zero3 : ZeroT Tryz.prog 3 (.int .i64 0) := ZeroT.of (by kernel_rfl)
theorem T.p4 : PlainT Tryz.prog 4 := PlainT.of Tryz.underlying4 rfl
theorem T.z4 : SizeT Tryz.prog 4 1 := SizeT.of (by kernel_rfl)
theorem T.i5 : IntT Tryz.prog 5 .u8 := Tryz.underlying5
theorem T.p5 : PlainT Tryz.prog 5 := PlainT.of Tryz.underlying5 rfl
theorem T.z5 : SizeT Tryz.prog 5 1 := SizeT.of (by kernel_rfl)
theorem T.p6 : PlainT Tryz.prog 6 := PlainT.of Tryz.underlying6 rfl
theorem T.z7 : SizeT Tryz.prog 7 4 := SizeT.of (by kernel_rfl)
theorem T.a8 : AggT Tryz.prog 8 4 := AggT.of Tryz.underlying8 rfl (by kernel_rfl)
theorem T.str9 : StrT Tryz.prog 9 := Tryz.underlying9
theorem T.p9 : PlainT Tryz.prog 9 := PlainT.of Tryz.underlying9 rfl
theorem T.z9 : SizeT Tryz.prog 9 1 := SizeT.of (by kernel_rfl)
theorem T.p10 : PlainT Tryz.prog 10 := PlainT.of Tryz.underlying10 rfl
theorem T.p11 : PlainT Tryz.prog 11 := PlainT.of Tryz.underlying11 rfl
theorem T.p12 : PlainT Tryz.prog 12 := PlainT.of Tryz.underlying12 rfl
theorem T.z12 : SizeT Tryz.prog 12 1 := SizeT.of (by kernel_rfl)
theorem T.z13 : SizeT Tryz.prog 13 2 := SizeT.of (by kernel_rfl)
theorem T.a14 : AggT Tryz.prog 14 2 := AggT.of Tryz.underlying14 rfl (by kernel_rfl)
theorem T.p15 : PlainT Tryz.prog 15 := PlainT.of Tryz.underlying15 rfl
theorem T.i21 : IntT Tryz.prog 21 .i32 := Tryz.underlying21
theorem T.z21 : SizeT Tryz.prog 21 1 := SizeT.of (by kernel_rfl)
theorem T.s22 : SliceT Tryz.prog 22 5 1 1 := SliceT.of Tryz.underlying22 (by kernel_rfl)
theorem T.p22 : PlainT Tryz.prog 22 := PlainT.of Tryz.underlying22 rfl
theorem T.z22 : SizeT Tryz.prog 22 1 := SizeT.of (by kernel_rfl)
theorem T.f24_1 : FieldT Tryz.prog 24 1 1 := FieldT.of (by kernel_rfl)
theorem T.f24_2 : FieldT Tryz.prog 24 2 2 := FieldT.of (by kernel_rfl)
theorem T.s26 : SliceT Tryz.prog 26 31 4 56 := SliceT.of Tryz.underlying26 (by kernel_rfl)
theorem T.p26 : PlainT Tryz.prog 26 := PlainT.of Tryz.underlying26 rfl
theorem T.z26 : SizeT Tryz.prog 26 1 := SizeT.of (by kernel_rfl)
theorem T.a30 : AggT Tryz.prog 30 4 := AggT.of Tryz.underlying30 rfl (by kernel_rfl)
theorem T.z30 : SizeT Tryz.prog 30 4 := SizeT.of (by kernel_rfl)
theorem T.a31 : AggT Tryz.prog 31 4 := AggT.of Tryz.underlying31 rfl (by kernel_rfl)
theorem T.z31 : SizeT Tryz.prog 31 4 := SizeT.of (by kernel_rfl)
theorem T.f31_1 : FieldT Tryz.prog 31 1 1 := FieldT.of (by kernel_rfl)
theorem T.f31_3 : FieldT Tryz.prog 31 3 3 := FieldT.of (by kernel_rfl)
theorem T.zero31 : ZeroT Tryz.prog 31 (.agg #[.int .i64 0, .string ⟨#[]⟩, .int .i64 0, .slice none 0 0]) := ZeroT.of (by kernel_rfl)
theorem T.s32 : SliceT Tryz.prog 32 53 6 88 := SliceT.of Tryz.underlying32 (by kernel_rfl)
theorem T.s37 : SliceT Tryz.prog 37 9 1 16 := SliceT.of Tryz.underlying37 (by kernel_rfl)
theorem T.p37 : PlainT Tryz.prog 37 := PlainT.of Tryz.underlying37 rfl
theorem T.z37 : SizeT Tryz.prog 37 1 := SizeT.of (by kernel_rfl)
theorem T.s38 : SliceT Tryz.prog 38 43 4 48 := SliceT.of Tryz.underlying38 (by kernel_rfl)
theorem T.p38 : PlainT Tryz.prog 38 := PlainT.of Tryz.underlying38 rfl
theorem T.a40 : AggT Tryz.prog 40 4 := AggT.of Tryz.underlying40 rfl (by kernel_rfl)
theorem T.z40 : SizeT Tryz.prog 40 4 := SizeT.of (by kernel_rfl)
theorem T.f40_0 : FieldT Tryz.prog 40 0 0 := FieldT.of (by kernel_rfl)
theorem T.f40_1 : FieldT Tryz.prog 40 1 1 := FieldT.of (by kernel_rfl)
theorem T.f40_2 : FieldT Tryz.prog 40 2 2 := FieldT.of (by kernel_rfl)
theorem T.f40_3 : FieldT Tryz.prog 40 3 3 := FieldT.of (by kernel_rfl)
theorem T.zero40 : ZeroT Tryz.prog 40 (.agg #[.bool false, .string ⟨#[]⟩, .string ⟨#[]⟩, .bool false]) := ZeroT.of (by kernel_rfl)
theorem T.s41 : SliceT Tryz.prog 41 40 4 48 := SliceT.of Tryz.underlying41 (by kernel_rfl)
theorem T.p41 : PlainT Tryz.prog 41 := PlainT.of Tryz.underlying41 rfl
theorem T.a43 : AggT Tryz.prog 43 4 := AggT.of Tryz.underlying43 rfl (by kernel_rfl)
theorem T.z43 : SizeT Tryz.prog 43 4 := SizeT.of (by kernel_rfl)
theorem T.f43_0 : FieldT Tryz.prog 43 0 0 := FieldT.of (by kernel_rfl)
theorem T.f43_1 : FieldT Tryz.prog 43 1 1 := FieldT.of (by kernel_rfl)
theorem T.f43_2 : FieldT Tryz.prog 43 2 2 := FieldT.of (by kernel_rfl)
theorem T.f43_3 : FieldT Tryz.prog 43 3 3 := FieldT.of (by kernel_rfl)
theorem T.zero43 : ZeroT Tryz.prog 43 (.agg #[.int .i64 0, .int .i64 0, .int .i64 0, .slice none 0 0]) := ZeroT.of (by kernel_rfl)
theorem T.p44 : PlainT Tryz.prog 44 := PlainT.of Tryz.underlying44 rfl
theorem T.z44 : SizeT Tryz.prog 44 1 := SizeT.of (by kernel_rfl)
theorem T.s47 : SliceT Tryz.prog 47 50 2 32 := SliceT.of Tryz.underlying47 (by kernel_rfl)
theorem T.f50_1 : FieldT Tryz.prog 50 1 1 := FieldT.of (by kernel_rfl)
theorem T.a53 : AggT Tryz.prog 53 6 := AggT.of Tryz.underlying53 rfl (by kernel_rfl)
theorem T.z53 : SizeT Tryz.prog 53 6 := SizeT.of (by kernel_rfl)
theorem T.f53_1 : FieldT Tryz.prog 53 1 1 := FieldT.of (by kernel_rfl)
theorem T.f53_2 : FieldT Tryz.prog 53 2 5 := FieldT.of (by kernel_rfl)
theorem T.zero53 : ZeroT Tryz.prog 53 (.agg #[.slice none 0 0, .int .i64 0, .string ⟨#[]⟩, .int .i64 0, .slice none 0 0, .bool false]) := ZeroT.of (by kernel_rfl)
theorem T.s58 : SliceT Tryz.prog 58 37 1 24 := SliceT.of Tryz.underlying58 (by kernel_rfl)
theorem T.p58 : PlainT Tryz.prog 58 := PlainT.of Tryz.underlying58 rfl
theorem T.z58 : SizeT Tryz.prog 58 1 := SizeT.of (by kernel_rfl)
theorem T.zero58 : ZeroT Tryz.prog 58 (.slice none 0 0) := ZeroT.of (by kernel_rfl)
theorem T.p60 : PlainT Tryz.prog 60 := PlainT.of Tryz.underlying60 rfl
theorem T.s73 : SliceT Tryz.prog 73 3 1 8 := SliceT.of Tryz.underlying73 (by kernel_rfl)
theorem T.p76 : PlainT Tryz.prog 76 := PlainT.of Tryz.underlying76 rfl
theorem T.p77 : PlainT Tryz.prog 77 := PlainT.of Tryz.underlying77 rfl
theorem T.p78 : PlainT Tryz.prog 78 := PlainT.of Tryz.underlying78 rfl
theorem T.a80 : AggT Tryz.prog 80 3 := AggT.of Tryz.underlying80 rfl (by kernel_rfl)
theorem T.z80 : SizeT Tryz.prog 80 3 := SizeT.of (by kernel_rfl)
theorem T.f80_0 : FieldT Tryz.prog 80 0 0 := FieldT.of (by kernel_rfl)
theorem T.f80_1 : FieldT Tryz.prog 80 1 1 := FieldT.of (by kernel_rfl)
theorem T.f80_2 : FieldT Tryz.prog 80 2 2 := FieldT.of (by kernel_rfl)
theorem T.zero80 : ZeroT Tryz.prog 80 (.agg #[.map none, .map none, .map none]) := ZeroT.of (by kernel_rfl)
theorem T.a85 : AggT Tryz.prog 85 2 := AggT.of Tryz.underlying85 rfl (by kernel_rfl)
theorem T.z85 : SizeT Tryz.prog 85 2 := SizeT.of (by kernel_rfl)
theorem T.f85_0 : FieldT Tryz.prog 85 0 0 := FieldT.of (by kernel_rfl)
theorem T.f85_1 : FieldT Tryz.prog 85 1 1 := FieldT.of (by kernel_rfl)
theorem T.zero85 : ZeroT Tryz.prog 85 (.agg #[.bool false, .string ⟨#[]⟩]) := ZeroT.of (by kernel_rfl)
theorem T.s86 : SliceT Tryz.prog 86 88 3 32 := SliceT.of Tryz.underlying86 (by kernel_rfl)
theorem T.a88 : AggT Tryz.prog 88 3 := AggT.of Tryz.underlying88 rfl (by kernel_rfl)
theorem T.f88_0 : FieldT Tryz.prog 88 0 0 := FieldT.of (by kernel_rfl)
theorem T.f88_1 : FieldT Tryz.prog 88 1 1 := FieldT.of (by kernel_rfl)
theorem T.a90 : AggT Tryz.prog 90 2 := AggT.of Tryz.underlying90 rfl (by kernel_rfl)
theorem T.z90 : SizeT Tryz.prog 90 2 := SizeT.of (by kernel_rfl)
theorem T.f90_0 : FieldT Tryz.prog 90 0 0 := FieldT.of (by kernel_rfl)
theorem T.f90_1 : FieldT Tryz.prog 90 1 1 := FieldT.of (by kernel_rfl)
theorem T.zero90 : ZeroT Tryz.prog 90 (.agg #[.int .i64 0, .nilFunc]) := ZeroT.of (by kernel_rfl)
theorem T.s91 : SliceT Tryz.prog 91 90 2 16 := SliceT.of Tryz.underlying91 (by kernel_rfl)
theorem T.z92 : SizeT Tryz.prog 92 0 := SizeT.of (by kernel_rfl)
theorem T.zero92 : ZeroT Tryz.prog 92 (.agg #[]) := ZeroT.of (by kernel_rfl)
theorem T.z109 : SizeT Tryz.prog 109 7 := SizeT.of (by kernel_rfl)
theorem T.f109_0 : FieldT Tryz.prog 109 0 0 := FieldT.of (by kernel_rfl)
theorem T.f109_1 : FieldT Tryz.prog 109 1 1 := FieldT.of (by kernel_rfl)
theorem T.f109_2 : FieldT Tryz.prog 109 2 2 := FieldT.of (by kernel_rfl)
theorem T.f109_3 : FieldT Tryz.prog 109 3 3 := FieldT.of (by kernel_rfl)
theorem T.f109_4 : FieldT Tryz.prog 109 4 4 := FieldT.of (by kernel_rfl)
theorem T.f109_5 : FieldT Tryz.prog 109 5 5 := FieldT.of (by kernel_rfl)
theorem T.f109_6 : FieldT Tryz.prog 109 6 6 := FieldT.of (by kernel_rfl)
theorem T.s110 : SliceT Tryz.prog 110 22 1 24 := SliceT.of Tryz.underlying110 (by kernel_rfl)
theorem T.i134 : IntT Tryz.prog 134 .u64 := Tryz.underlying134
theorem T.ar140 : ArrT Tryz.prog 140 256 4 1 := ArrT.of Tryz.underlying140 (by kernel_rfl)
theorem T.a140 : AggT Tryz.prog 140 256 := AggT.of Tryz.underlying140 rfl (by kernel_rfl)
theorem T.z140 : SizeT Tryz.prog 140 256 := SizeT.of (by kernel_rfl)
theorem T.i151 : IntT Tryz.prog 151 .u64 := Tryz.underlying151
theorem T.z175 : SizeT Tryz.prog 175 1 := SizeT.of (by kernel_rfl)
theorem T.a212 : AggT Tryz.prog 212 65 := AggT.of Tryz.underlying212 rfl (by kernel_rfl)
theorem T.z212 : SizeT Tryz.prog 212 65 := SizeT.of (by kernel_rfl)
end Go.Proofs.YtipbakiecocioaaGreatDoor

/- The library's sort and the like, laid at this program by the kit's tool. -/

namespace Go.Proofs
open Go.Shelf
def Tryz.layPI_ren : Go.Shelf.Ren := ⟨fun | 174 => 81 | 247 => 111 | 245 => 112 | 287 => 125 | 279 => 126 | 280 => 127 | 281 => 128 | 282 => 129 | 321 => 134 | 322 => 135 | 316 => 136 | 171 => 138 | 205 => 137 | 243 => 146 | 246 => 130 | 283 => 139 | 284 => 140 | 285 => 141 | 286 => 142 | 129 => 103 | 317 => 147 | 318 => 148 | 319 => 149 | 320 => 150 | 337 => 152 | 338 => 153 | n => n, fun | 9 => 9 | 3 => 3 | 2 => 2 | 75 => 147 | 85 => 148 | 4 => 4 | 167 => 191 | 5 => 5 | 53 => 151 | 175 => 192 | 46 => 134 | 168 => 194 | 37 => 22 | 0 => 0 | 210 => 200 | 21 => 21 | 127 => 206 | 145 => 209 | 143 => 207 | 171 => 202 | 173 => 204 | 212 => 211 | 51 => 169 | 20 => 20 | 213 => 212 | 232 => 215 | 233 => 216 | 80 => 217 | n => n, fun | 15 => 3 | 16 => 4 | 17 => 5 | 18 => 6 | 19 => 7 | n => n⟩
theorem Tryz.layPI : Go.Proofs.LaysC.n174 Tryz.prog Tryz.layPI_ren := {
  mixed := by kernel_rfl
  f129 := Tryz.func103.trans (congrArg some (by kernel_rfl))
  f171 := Tryz.func138.trans (congrArg some (by kernel_rfl))
  f174 := Tryz.func81.trans (congrArg some (by kernel_rfl))
  f205 := Tryz.func137.trans (congrArg some (by kernel_rfl))
  f243 := Tryz.func146.trans (congrArg some (by kernel_rfl))
  f245 := Tryz.func112.trans (congrArg some (by kernel_rfl))
  f246 := Tryz.func130.trans (congrArg some (by kernel_rfl))
  f247 := Tryz.func111.trans (congrArg some (by kernel_rfl))
  f279 := Tryz.func126.trans (congrArg some (by kernel_rfl))
  f280 := Tryz.func127.trans (congrArg some (by kernel_rfl))
  f281 := Tryz.func128.trans (congrArg some (by kernel_rfl))
  f282 := Tryz.func129.trans (congrArg some (by kernel_rfl))
  f283 := Tryz.func139.trans (congrArg some (by kernel_rfl))
  f284 := Tryz.func140.trans (congrArg some (by kernel_rfl))
  f285 := Tryz.func141.trans (congrArg some (by kernel_rfl))
  f286 := Tryz.func142.trans (congrArg some (by kernel_rfl))
  f287 := Tryz.func125.trans (congrArg some (by kernel_rfl))
  f316 := Tryz.func136.trans (congrArg some (by kernel_rfl))
  f317 := Tryz.func147.trans (congrArg some (by kernel_rfl))
  f318 := Tryz.func148.trans (congrArg some (by kernel_rfl))
  f319 := Tryz.func149.trans (congrArg some (by kernel_rfl))
  f320 := Tryz.func150.trans (congrArg some (by kernel_rfl))
  f321 := Tryz.func134.trans (congrArg some (by kernel_rfl))
  f322 := Tryz.func135.trans (congrArg some (by kernel_rfl))
  f337 := Tryz.func152.trans (congrArg some (by kernel_rfl))
  f338 := Tryz.func153.trans (congrArg some (by kernel_rfl))
  t0 := Tryz.underlying0
  a0 := Tryz.isAgg0
  z0 := Tryz.sizeOf0
  v0 := Tryz.zeroValue0
  t2 := Tryz.underlying2
  a2 := Tryz.isAgg2
  z2 := Tryz.sizeOf2
  v2 := Tryz.zeroValue2
  t3 := Tryz.underlying3
  a3 := Tryz.isAgg3
  z3 := Tryz.sizeOf3
  v3 := Tryz.zeroValue3
  t4 := Tryz.underlying4
  a4 := Tryz.isAgg4
  z4 := Tryz.sizeOf4
  v4 := Tryz.zeroValue4
  t5 := Tryz.underlying5
  a5 := Tryz.isAgg5
  z5 := Tryz.sizeOf5
  v5 := Tryz.zeroValue5
  t9 := Tryz.underlying9
  a9 := Tryz.isAgg9
  z9 := Tryz.sizeOf9
  v9 := Tryz.zeroValue9
  t20 := Tryz.underlying20
  a20 := Tryz.isAgg20
  z20 := Tryz.sizeOf20
  v20 := Tryz.zeroValue20
  t21 := Tryz.underlying21
  a21 := Tryz.isAgg21
  z21 := Tryz.sizeOf21
  v21 := Tryz.zeroValue21
  t37 := Tryz.underlying22
  a37 := Tryz.isAgg22
  z37 := Tryz.sizeOf22
  v37 := Tryz.zeroValue22
  t46 := Tryz.underlying134
  a46 := Tryz.isAgg134
  z46 := Tryz.sizeOf134
  v46 := Tryz.zeroValue134
  t51 := Tryz.underlying169
  a51 := Tryz.isAgg169
  z51 := Tryz.sizeOf169
  v51 := Tryz.zeroValue169
  t53 := Tryz.underlying151
  a53 := Tryz.isAgg151
  z53 := Tryz.sizeOf151
  v53 := Tryz.zeroValue151
  t75 := Tryz.underlying147
  a75 := Tryz.isAgg147
  z75 := Tryz.sizeOf147
  v75 := Tryz.zeroValue147
  t85 := Tryz.underlying148
  a85 := Tryz.isAgg148
  z85 := Tryz.sizeOf148
  v85 := Tryz.zeroValue148
  t127 := Tryz.underlying206
  a127 := Tryz.isAgg206
  z127 := Tryz.sizeOf206
  v127 := Tryz.zeroValue206
  t143 := Tryz.underlying207
  a143 := Tryz.isAgg207
  z143 := Tryz.sizeOf207
  v143 := Tryz.zeroValue207
  t145 := Tryz.underlying209
  a145 := Tryz.isAgg209
  z145 := Tryz.sizeOf209
  v145 := Tryz.zeroValue209
  t167 := Tryz.underlying191
  a167 := Tryz.isAgg191
  z167 := Tryz.sizeOf191
  v167 := Tryz.zeroValue191
  t168 := Tryz.underlying194
  a168 := Tryz.isAgg194
  z168 := Tryz.sizeOf194
  v168 := Tryz.zeroValue194
  t171 := Tryz.underlying202
  a171 := Tryz.isAgg202
  z171 := Tryz.sizeOf202
  v171 := Tryz.zeroValue202
  t173 := Tryz.underlying204
  a173 := Tryz.isAgg204
  z173 := Tryz.sizeOf204
  v173 := Tryz.zeroValue204
  t175 := Tryz.underlying192
  a175 := Tryz.isAgg192
  z175 := Tryz.sizeOf192
  v175 := Tryz.zeroValue192
  t210 := Tryz.underlying200
  a210 := Tryz.isAgg200
  z210 := Tryz.sizeOf200
  v210 := Tryz.zeroValue200
  t212 := Tryz.underlying211
  a212 := Tryz.isAgg211
  z212 := Tryz.sizeOf211
  v212 := Tryz.zeroValue211
  t213 := Tryz.underlying212
  a213 := Tryz.isAgg212
  z213 := Tryz.sizeOf212
  t232 := Tryz.underlying215
  a232 := Tryz.isAgg215
  z232 := Tryz.sizeOf215
  v232 := Tryz.zeroValue215
  t233 := Tryz.underlying216
  a233 := Tryz.isAgg216
  z233 := Tryz.sizeOf216
  v233 := Tryz.zeroValue216
  g15 := by kernel_rfl
  g16 := by kernel_rfl
  g17 := by kernel_rfl
  g18 := by kernel_rfl
  g19 := by kernel_rfl
  t80 := Tryz.underlying217
  a80 := Tryz.isAgg217
  z80 := Tryz.sizeOf217
  v80 := Tryz.zeroValue217
  i0 := by kernel_rfl
  i2 := by kernel_rfl
  i3 := by kernel_rfl
  i4 := by kernel_rfl
  i5 := by kernel_rfl
  i9 := by kernel_rfl
  i20 := by kernel_rfl
  i21 := by kernel_rfl
  i37 := by kernel_rfl
  i46 := by kernel_rfl
  i51 := by kernel_rfl
  i53 := by kernel_rfl
  i75 := by kernel_rfl
  i80 := by kernel_rfl
  i85 := by kernel_rfl
  i127 := by kernel_rfl
  i143 := by kernel_rfl
  i145 := by kernel_rfl
  i167 := by kernel_rfl
  i168 := by kernel_rfl
  i171 := by kernel_rfl
  i173 := by kernel_rfl
  i175 := by kernel_rfl
  i210 := by kernel_rfl
  i212 := by kernel_rfl
  i232 := by kernel_rfl
  i233 := by kernel_rfl
  m15 := by kernel_rfl
  m16 := by kernel_rfl
  m17 := by kernel_rfl
  m18 := by kernel_rfl
  m19 := by kernel_rfl
  c0 := by kernel_rfl
  c2 := by kernel_rfl
  c3 := by kernel_rfl
  c4 := by kernel_rfl
  c5 := by kernel_rfl
  c9 := by kernel_rfl
  c20 := by kernel_rfl
  c21 := by kernel_rfl
  c37 := by kernel_rfl
  c46 := by kernel_rfl
  c51 := by kernel_rfl
  c53 := by kernel_rfl
  c75 := by kernel_rfl
  c80 := by kernel_rfl
  c85 := by kernel_rfl
  c127 := by kernel_rfl
  c143 := by kernel_rfl
  c145 := by kernel_rfl
  c167 := by kernel_rfl
  c168 := by kernel_rfl
  c171 := by kernel_rfl
  c173 := by kernel_rfl
  c175 := by kernel_rfl
  c210 := by kernel_rfl
  c212 := by kernel_rfl
  c213 := by kernel_rfl
  c232 := by kernel_rfl
  c233 := by kernel_rfl }
def Tryz.layDR_ren : Go.Shelf.Ren := ⟨fun | 32 => 79 | 49 => 110 | n => n, fun | 30 => 22 | 21 => 21 | 3 => 3 | 0 => 0 | 5 => 5 | 4 => 4 | 33 => 144 | 66 => 187 | 25 => 134 | 69 => 190 | 68 => 189 | n => n, fun | 2 => 1 | 3 => 2 | n => n⟩
theorem Tryz.layDR : Go.Proofs.Lays7.n32 Tryz.prog Tryz.layDR_ren := {
  mixed := by kernel_rfl
  f32 := Tryz.func79.trans (congrArg some (by kernel_rfl))
  f49 := Tryz.func110.trans (congrArg some (by kernel_rfl))
  t0 := Tryz.underlying0
  a0 := Tryz.isAgg0
  z0 := Tryz.sizeOf0
  v0 := Tryz.zeroValue0
  i0 := by kernel_rfl
  t3 := Tryz.underlying3
  a3 := Tryz.isAgg3
  z3 := Tryz.sizeOf3
  v3 := Tryz.zeroValue3
  i3 := by kernel_rfl
  t4 := Tryz.underlying4
  a4 := Tryz.isAgg4
  z4 := Tryz.sizeOf4
  v4 := Tryz.zeroValue4
  i4 := by kernel_rfl
  t5 := Tryz.underlying5
  a5 := Tryz.isAgg5
  z5 := Tryz.sizeOf5
  v5 := Tryz.zeroValue5
  i5 := by kernel_rfl
  t21 := Tryz.underlying21
  a21 := Tryz.isAgg21
  z21 := Tryz.sizeOf21
  v21 := Tryz.zeroValue21
  i21 := by kernel_rfl
  t25 := Tryz.underlying134
  a25 := Tryz.isAgg134
  z25 := Tryz.sizeOf134
  v25 := Tryz.zeroValue134
  i25 := by kernel_rfl
  t30 := Tryz.underlying22
  a30 := Tryz.isAgg22
  z30 := Tryz.sizeOf22
  v30 := Tryz.zeroValue22
  i30 := by kernel_rfl
  t33 := Tryz.underlying144
  a33 := Tryz.isAgg144
  z33 := Tryz.sizeOf144
  v33 := Tryz.zeroValue144
  i33 := by kernel_rfl
  t66 := Tryz.underlying187
  a66 := Tryz.isAgg187
  z66 := Tryz.sizeOf187
  t68 := Tryz.underlying189
  a68 := Tryz.isAgg189
  z68 := Tryz.sizeOf189
  v68 := Tryz.zeroValue189
  i68 := by kernel_rfl
  t69 := Tryz.underlying190
  a69 := Tryz.isAgg190
  z69 := Tryz.sizeOf190
  v69 := Tryz.zeroValue190
  i69 := by kernel_rfl
  g2 := by kernel_rfl
  g3 := by kernel_rfl }
def Tryz.layFI_ren : Go.Shelf.Ren := ⟨fun | 173 => 113 | 246 => 130 | 283 => 139 | 284 => 140 | 285 => 141 | 286 => 142 | 129 => 103 | 317 => 147 | 318 => 148 | 319 => 149 | 320 => 150 | 337 => 152 | 338 => 153 | n => n, fun | 2 => 2 | 3 => 3 | 9 => 9 | 4 => 4 | 171 => 202 | 0 => 0 | 53 => 151 | 37 => 22 | 5 => 5 | 173 => 204 | 212 => 211 | 51 => 169 | 20 => 20 | 213 => 212 | 46 => 134 | 232 => 215 | 233 => 216 | n => n, fun | 17 => 5 | 18 => 6 | 19 => 7 | n => n⟩
theorem Tryz.layFI : Go.Proofs.LaysM.n173 Tryz.prog Tryz.layFI_ren := {
  mixed := by kernel_rfl
  f129 := Tryz.func103.trans (congrArg some (by kernel_rfl))
  f173 := Tryz.func113.trans (congrArg some (by kernel_rfl))
  f246 := Tryz.func130.trans (congrArg some (by kernel_rfl))
  f283 := Tryz.func139.trans (congrArg some (by kernel_rfl))
  f284 := Tryz.func140.trans (congrArg some (by kernel_rfl))
  f285 := Tryz.func141.trans (congrArg some (by kernel_rfl))
  f286 := Tryz.func142.trans (congrArg some (by kernel_rfl))
  f317 := Tryz.func147.trans (congrArg some (by kernel_rfl))
  f318 := Tryz.func148.trans (congrArg some (by kernel_rfl))
  f319 := Tryz.func149.trans (congrArg some (by kernel_rfl))
  f320 := Tryz.func150.trans (congrArg some (by kernel_rfl))
  f337 := Tryz.func152.trans (congrArg some (by kernel_rfl))
  f338 := Tryz.func153.trans (congrArg some (by kernel_rfl))
  t0 := Tryz.underlying0
  a0 := Tryz.isAgg0
  z0 := Tryz.sizeOf0
  v0 := Tryz.zeroValue0
  t2 := Tryz.underlying2
  a2 := Tryz.isAgg2
  z2 := Tryz.sizeOf2
  v2 := Tryz.zeroValue2
  t3 := Tryz.underlying3
  a3 := Tryz.isAgg3
  z3 := Tryz.sizeOf3
  v3 := Tryz.zeroValue3
  t4 := Tryz.underlying4
  a4 := Tryz.isAgg4
  z4 := Tryz.sizeOf4
  v4 := Tryz.zeroValue4
  t5 := Tryz.underlying5
  a5 := Tryz.isAgg5
  z5 := Tryz.sizeOf5
  v5 := Tryz.zeroValue5
  t9 := Tryz.underlying9
  a9 := Tryz.isAgg9
  z9 := Tryz.sizeOf9
  v9 := Tryz.zeroValue9
  t20 := Tryz.underlying20
  a20 := Tryz.isAgg20
  z20 := Tryz.sizeOf20
  v20 := Tryz.zeroValue20
  t37 := Tryz.underlying22
  a37 := Tryz.isAgg22
  z37 := Tryz.sizeOf22
  v37 := Tryz.zeroValue22
  t46 := Tryz.underlying134
  a46 := Tryz.isAgg134
  z46 := Tryz.sizeOf134
  v46 := Tryz.zeroValue134
  t51 := Tryz.underlying169
  a51 := Tryz.isAgg169
  z51 := Tryz.sizeOf169
  v51 := Tryz.zeroValue169
  t53 := Tryz.underlying151
  a53 := Tryz.isAgg151
  z53 := Tryz.sizeOf151
  v53 := Tryz.zeroValue151
  t171 := Tryz.underlying202
  a171 := Tryz.isAgg202
  z171 := Tryz.sizeOf202
  v171 := Tryz.zeroValue202
  t173 := Tryz.underlying204
  a173 := Tryz.isAgg204
  z173 := Tryz.sizeOf204
  v173 := Tryz.zeroValue204
  t212 := Tryz.underlying211
  a212 := Tryz.isAgg211
  z212 := Tryz.sizeOf211
  v212 := Tryz.zeroValue211
  t213 := Tryz.underlying212
  a213 := Tryz.isAgg212
  z213 := Tryz.sizeOf212
  t232 := Tryz.underlying215
  a232 := Tryz.isAgg215
  z232 := Tryz.sizeOf215
  v232 := Tryz.zeroValue215
  t233 := Tryz.underlying216
  a233 := Tryz.isAgg216
  z233 := Tryz.sizeOf216
  v233 := Tryz.zeroValue216
  g17 := by kernel_rfl
  g18 := by kernel_rfl
  g19 := by kernel_rfl
  i0 := by kernel_rfl
  i2 := by kernel_rfl
  i3 := by kernel_rfl
  i4 := by kernel_rfl
  i5 := by kernel_rfl
  i9 := by kernel_rfl
  i20 := by kernel_rfl
  i37 := by kernel_rfl
  i46 := by kernel_rfl
  i51 := by kernel_rfl
  i53 := by kernel_rfl
  i171 := by kernel_rfl
  i173 := by kernel_rfl
  i212 := by kernel_rfl
  i232 := by kernel_rfl
  i233 := by kernel_rfl
  m17 := by kernel_rfl
  m18 := by kernel_rfl
  m19 := by kernel_rfl }
end Go.Proofs

/- Layer 1: numbers and their decimal forms, by the shelf's contracts. -/

namespace Go.V
open Go.RowKit
section
variable {P : Program} {n : Nat} {ops : Array Oper} {dr : Nat × List Nat} {l : List Oper} {E : Env} {w : World} {K : Env → World → Prop}
variable {d : Option Nat} {ty : TypeId} {pos : String} {af : Array Edge} {g : Option (Nat × Bool)} {x : Operand} {t t' tp : TypeId} {ms : Array (String × TypeId)} {v : Value}
theorem G1_errNil (hu : P.underlying t = some (.interface ms)) (hx : E.look x = some .nilIface) (hd : dstOk n d = true) (h : G P n ops dr l (E.put d (.bool false)) w K) : G1 P n ops dr ⟨d, .binOp .neq t x (.const .nilIface) t', ty, pos, af, g⟩ l E w K :=
  G1_quiet _ hd (fun a ha w' _ => by
    have e0 : a.eval (.const .nilIface) = .nilIface := rfl
    have key : ∀ k, (Op.equalIn (k + 1) t .nilIface .nilIface).run P w' = .ok true w' := fun k => by rw [Op.equalIn]; simp [run_underlying hu]
    have e1 : (Op.equal t .nilIface .nilIface).run P w' = .ok true w' := key 9999
    simp [execOp, ha.eval hx, e0, eqGuard, binOp, e1]) h
theorem G1_errNot (hu : P.underlying t = some (.interface ms)) (hx : E.look x = some (.iface tp v)) (hd : dstOk n d = true) (h : G P n ops dr l (E.put d (.bool true)) w K) : G1 P n ops dr ⟨d, .binOp .neq t x (.const .nilIface) t', ty, pos, af, g⟩ l E w K :=
  G1_quiet _ hd (fun a ha w' _ => by
    have e0 : a.eval (.const .nilIface) = .nilIface := rfl
    have key : ∀ k, (Op.equalIn (k + 1) t (.iface tp v) .nilIface).run P w' = .ok false w' := fun k => by rw [Op.equalIn]; simp [run_underlying hu]
    have e1 : (Op.equal t (.iface tp v) .nilIface).run P w' = .ok false w' := key 9999
    simp [execOp, ha.eval hx, e0, eqGuard, binOp, e1]) h
end
theorem Ext.grow {w : World} (k : Nat) (os : Array Obj) : Ext w (Sort.grow (w.drewN k) os) :=
  ⟨rfl, rfl, rfl, by simp [Sort.grow, World.drewN], fun i hi => by simp only [Sort.grow, World.drewN]; rw [Array.getElem?_append_left hi]⟩
theorem TabIs.ext {P : Program} {w w' : World} {name : String} {k : IntKind} {zs : List Int} (h : Lib.TabIs P w name k zs) (hx : Ext w w') : Lib.TabIs P w' name k zs := by
  unfold Lib.TabIs World.var? at *
  cases hg : P.globalNamed name with
  | none => simp [hg] at h
  | some g =>
    simp only [hg, Option.bind_some] at *
    cases hb : w.heap[g]? with
    | none => rw [hb] at h; cases h
    | some o => rw [hx.blk hb]; rw [hb] at h; exact h
theorem var_ext {P : Program} {w w' : World} {name : String} {cs : Array Value} (h : w.var? P name = some cs) (hx : Ext w w') : w'.var? P name = some cs := by
  unfold World.var? at *
  cases hg : P.globalNamed name with
  | none => simp [hg] at h
  | some g =>
    simp only [hg, Option.bind_some] at *
    cases hb : w.heap[g]? with
    | none => rw [hb] at h; cases h
    | some o => rw [hx.blk hb]; rw [hb] at h; exact h
end Go.V
namespace Go.Proofs.YtipbakiecocioaaGreatDoor
open Go.V
attribute [local irreducible] Blk Own hcell IntT SliceT PlainT AggT SizeT StrT FieldT ZeroT EqT ArrT
abbrev Pow (w : World) : Prop := Lib.TabIs Tryz.prog w "internal/strconv.uint64pow10" .u64 Lib.pow10Tab
def itoaB (n : Int) : ByteArray := ⟨(Lib.itoa n).toArray⟩
theorem pi_ok {s : ByteArray} {v : Int} {w : World} (hs : s.size ≤ 1000000) (h : Lib.parseIntB 64 s.data.toList = .ok v) : Ctr Tryz.prog 81 [.string s, .int .i64 10, .int .i64 64] w (fun r w' => r = .tuple #[.int .i64 v, .nilIface] ∧ Ext w w') := by
  unfold Ctr
  refine ⟨⟨Tryz.f81, Tryz.func81, by decide, rfl⟩, ?_⟩
  refine Calls.mono (Any.strconv_ParseInt_10_at64_ok Tryz.layPI s (by omega) v h w) fun e w' ⟨he, hw⟩ => ⟨_, he, rfl, ?_⟩
  rcases hw with rfl | ⟨t, rfl⟩
  · exact Ext.rfl'
  · exact Lib.bytesWorld_below _ _ _
theorem print_spec {n : Int} {w : World} (h0 : -9223372036854775808 ≤ n) (h1 : n ≤ 9223372036854775807) (hT : Pow w) : Ctr Tryz.prog 82 [.int .i64 n] w (fun r w' => r = .string (itoaB n) ∧ Ext w w') := by
  have hF : Ctr Tryz.prog 113 [.int .i64 n, .int .i64 10] w (fun r w' => r = .string (itoaB n) ∧ Ext w w') := by
    unfold Ctr
    refine ⟨⟨Tryz.f113, Tryz.func113, by decide, rfl⟩, ?_⟩
    refine Calls.mono (Any.strconv_FormatInt_10 Tryz.layFI n h0 h1 w hT) fun e w' ⟨he, k, os, hw⟩ => ⟨_, he, rfl, ?_⟩
    rw [hw]; exact Ext.grow k os
  refine Ctr_of Tryz.func82 Tryz.ntmps82 rfl rfl rfl ?_
  repeat' (first | (apply G_on; exact rfl; first | ((first | apply G1_assign | apply G1_move); exact rfl; exact rfl) | (apply G1_call (f := 113); exact rfl; exact rfl; exact rfl; exact hF; rintro _ w2 ⟨rfl, hx2⟩; refine ⟨(by first | exact .inl rfl | exact .inr (by assumption)), ?_⟩)) | apply G_nil | apply Post_next | apply W_seq | apply W_region | (apply W_cond_true; exact rfl) | (apply W_cond_false; exact rfl) | (apply W_cond_dec; exact rfl; all_goals (intro h; try (exfalso; omega))) | (apply W_cond; exact rfl; all_goals intro h) | (apply G_off; exact rfl; exact rfl) | ((fail_if_success (apply G_on; exact rfl)); apply G_split_dec; exact rfl; exact rfl; all_goals (intro h; try (exfalso; omega))) | ((fail_if_success (apply G_on; exact rfl)); apply G_split; exact rfl; exact rfl; all_goals intro h) | apply W_skip | apply W_exit | apply W_ret | apply W_block | apply Post_then_ret | apply Post_block_ret | apply Post_then_exit | apply Post_block_exit | (apply Post_block_other; exact rfl) | apply Post_block_normal)
  refine Post_ret Tryz.results82 ⟨_, _, rfl, rfl, rfl⟩ ?_
  exact ⟨rfl, (by repeat first | assumption | exact Ext.rfl' | apply Ext.drew | apply Ext.alloc | refine Ext.trans ?_ (by assumption))⟩
theorem parse_ok {s : ByteArray} {v : Int} {w : World} (hs : s.size ≤ 20) (hpi : Lib.parseIntB 64 s.data.toList = .ok v) (h0 : -9223372036854775808 ≤ v) (h1 : v ≤ 9223372036854775807) (hi : itoaB v = s) (hT : Pow w) : Ctr Tryz.prog 44 [.string s] w (fun r w' => r = .tuple #[.int .i64 v, .bool true] ∧ Ext w w') := by
  refine Ctr_of Tryz.func44 Tryz.ntmps44 rfl rfl rfl ?_
  repeat' (first | (apply G_on; exact rfl; first | ((first | apply G1_assign | apply G1_move); exact rfl; exact rfl) | (apply G1_call (f := 81); exact rfl; exact rfl; exact rfl; exact pi_ok (by omega) hpi; rintro _ w2 ⟨rfl, hx2⟩; refine ⟨(by first | exact .inl rfl | exact .inr (by assumption)), ?_⟩) | (apply G1_errNil; exact Tryz.underlying147; exact rfl; exact rfl) | (apply G1_slen; exact T.str9; exact rfl; exact rfl) | ((first | apply G1_gtr | apply G1_extract | apply G1_sneq); exact rfl; exact rfl; exact rfl)) | apply G_nil | apply Post_next | apply W_seq | apply W_region | (apply W_cond_true; exact rfl) | (apply W_cond_false; exact rfl) | (apply W_cond_dec; exact rfl; all_goals (intro h; try (exfalso; omega))) | (apply W_cond; exact rfl; all_goals intro h) | (apply G_off; exact rfl; exact rfl) | ((fail_if_success (apply G_on; exact rfl)); apply G_split_dec; exact rfl; exact rfl; all_goals (intro h; try (exfalso; omega))) | ((fail_if_success (apply G_on; exact rfl)); apply G_split; exact rfl; exact rfl; all_goals intro h) | apply W_skip | apply W_exit | apply W_ret | apply W_block | apply Post_then_ret | apply Post_block_ret | apply Post_then_exit | apply Post_block_exit | (apply Post_block_other; exact rfl) | apply Post_block_normal)
  apply G_on; exact rfl; apply G1_call; exact rfl; exact rfl; exact rfl; exact print_spec h0 h1 (TabIs.ext hT hx2); rintro _ w3 ⟨rfl, hx3⟩; refine ⟨(by first | exact .inl rfl | exact .inr (by assumption)), ?_⟩
  repeat' (first | (apply G_on; exact rfl; first | ((first | apply G1_assign | apply G1_move); exact rfl; exact rfl) | (apply G1_slen; exact T.str9; exact rfl; exact rfl) | ((first | apply G1_gtr | apply G1_extract | apply G1_sneq); exact rfl; exact rfl; exact rfl)) | apply G_nil | apply Post_next | apply W_seq | apply W_region | (apply W_cond_true; exact rfl) | (apply W_cond_false; exact rfl) | (apply W_cond_dec; exact rfl; all_goals (intro h; try (exfalso; omega))) | (apply W_cond; exact rfl; all_goals intro h) | (apply G_off; exact rfl; exact rfl) | ((fail_if_success (apply G_on; exact rfl)); apply G_split_dec; exact rfl; exact rfl; all_goals (intro h; try (exfalso; omega))) | ((fail_if_success (apply G_on; exact rfl)); apply G_split; exact rfl; exact rfl; all_goals intro h) | apply W_skip | apply W_exit | apply W_ret | apply W_block | apply Post_then_ret | apply Post_block_ret | apply Post_then_exit | apply Post_block_exit | (apply Post_block_other; exact rfl) | apply Post_block_normal)
  all_goals try contradiction
  refine Post_ret Tryz.results44 ⟨_, _, rfl, rfl, _, _, rfl, rfl, rfl⟩ ?_
  exact ⟨rfl, (by repeat first | assumption | exact Ext.rfl' | apply Ext.drew | apply Ext.alloc | refine Ext.trans ?_ (by assumption))⟩
end Go.Proofs.YtipbakiecocioaaGreatDoor

/- From the reading of the arguments to slices that read as lists; the frame of a law's proof. -/

namespace Go.V
open Go.RowKit Go.ChangeShapes Go.WideShapes Go.ChangeAt

theorem list_of {α : Type} {Q : Nat → α → Prop} : ∀ n, (∀ i, i < n → ∃ x, Q i x) → ∃ xs : List α, xs.length = n ∧ ∀ i x, xs[i]? = some x → Q i x
  | 0, _ => ⟨[], rfl, fun i x h => by simp at h⟩
  | n + 1, h => by
    obtain ⟨xs, hl, hq⟩ := list_of n (fun i hi => h i (by omega))
    obtain ⟨x, hx⟩ := h n (by omega)
    refine ⟨xs ++ [x], by simp [hl], fun i y hy => ?_⟩
    by_cases hi : i < xs.length
    · rw [List.getElem?_append_left hi] at hy; exact hq i y hy
    · rw [List.getElem?_append_right (by omega)] at hy
      have h0 : i - xs.length = 0 := by have := get_lt hy; simp at this; omega
      rw [h0] at hy
      simp at hy
      subst hy
      have : i = n := by omega
      subst this
      exact hx

section
variable {H : Type} {enc : TypeId × Value → H} {P : Program} {w : World}

theorem read_slice {α : Type} (en : Enc α) (Good : α → Prop) {t e : TypeId} (ht : P.underlying t = some (.slice e)) (hc : P.cellsOf e = en.sz)
    (dec : ∀ n cs z, DataW.trod enc P w 0 (fun _ => true) true n e cs = some z → ∃ x, cs = en.enc x ∧ Good x)
    {fuel : Nat} {cs : List Value} {x : DataW H × List MemPlace} (h : DataW.trod enc P w 0 (fun _ => true) true fuel t cs = some x) :
    ∃ p c xs, cs = [.slice p xs.length c] ∧ Sl w.heap en p c xs ∧ ∀ y ∈ xs, Good y := by
  rcases Deep.open_slice ht h with ⟨rfl, _⟩ | ⟨a, len, cap, m, n, D, Pl, rfl, _, hl, hm, hmm, _, hx⟩
  · exact ⟨none, 0, [], rfl, Sl.nil, by simp⟩
  · simp only [if_true] at hmm
    subst hmm
    rw [hc] at hx
    have key : ∀ i, i < m → ∃ y, (∀ k v, (en.enc y)[k]? = some v → w.cell? ((a.add (i * en.sz)).add k) = some v) ∧ Good y := by
      intro i hi
      obtain ⟨cs', h1, h2⟩ := hx i hi
      obtain ⟨y, rfl, hg⟩ := dec _ _ _ h2
      refine ⟨y, fun k v hv => ?_, hg⟩
      obtain ⟨_, h3, h4⟩ := World.cells?_some h1
      have hk := get_lt hv
      rw [h4 k (by omega)]; exact hv
    have hspot : 0 < m → a.spot = none := by
      intro hpos
      obtain ⟨y, hy, _⟩ := key 0 hpos
      have hlen : 0 < (en.enc y).length := by rw [en.len]; exact en.pos
      have := hy 0 _ (List.getElem?_eq_getElem hlen)
      simp only [Nat.zero_mul] at this
      have e0 : (a.add 0).add 0 = a := by simp [Addr.add]
      rw [e0] at this
      exact World.cell?_spot this
    obtain ⟨xs, hxl, hxs⟩ := list_of len (fun i hi => key i (by omega))
    refine ⟨some a, m, xs, by rw [hxl], ⟨⟨by omega, hm, (fun h => by cases h), fun b hb hpos => ?_⟩, fun i y hi k v hv => ?_⟩, fun y hy => ?_⟩
    · injection hb with hb; subst hb; exact hspot hpos
    · have h1 := (hxs i y hi).1 k v hv
      have hi' := get_lt hi
      have hs := hspot (by omega)
      obtain ⟨b, o, s⟩ := a
      simp only at hs
      subst hs
      rw [addr_add, addr_add] at h1
      rw [← cell_eq]
      simpa [adr, Nat.add_assoc] using h1
    · obtain ⟨i, hi⟩ := List.getElem?_of_mem hy
      exact (hxs i y hi).2

theorem read_str {t : TypeId} (ht : P.underlying t = some .string) (n : Nat) (cs : List Value) (z : DataW H × List MemPlace) (h : DataW.trod enc P w 0 (fun _ => true) true n t cs = some z) : ∃ x, cs = eStr.enc x ∧ x.size ≤ maxLen := by
  obtain ⟨s, h1, _, h2⟩ := DataW.trod_string ht h
  exact ⟨s, h1, h2⟩

theorem read_int {t : TypeId} (ht : P.underlying t = some (.int .i64)) (n : Nat) (cs : List Value) (z : DataW H × List MemPlace) (h : DataW.trod enc P w 0 (fun _ => true) true n t cs = some z) : ∃ x, cs = eInt.enc x ∧ (-9223372036854775808 ≤ x ∧ x ≤ 9223372036854775807) := by
  obtain ⟨s, h1, _, h2⟩ := DataW.trod_int ht h
  exact ⟨s, h1, by simpa [Lit.wf, IntKind.min, IntKind.max, IntKind.bits, IntKind.signed] using h2⟩

theorem arg_int {t : TypeId} {v : Value} {d : DataW H} {ps : List MemPlace} {r : Reach} {base : Nat} (ht : P.underlying t = some (.int .i64)) (hv : Value.okWide P w r base t v) (h : DataW.Trod enc P w 0 (fun _ => true) true t v d ps) : ∃ x, v = .int .i64 x ∧ (-9223372036854775808 ≤ x ∧ x ≤ 9223372036854775807) := by
  obtain ⟨s, rfl⟩ := okWide_int ht hv
  obtain ⟨n, h⟩ := h
  obtain ⟨x, hx, hs⟩ := read_int ht _ _ _ h
  simp [Value.cells, eInt] at hx
  subst hx
  exact ⟨s, rfl, hs⟩

theorem arg_slice {α : Type} (en : Enc α) (Good : α → Prop) {t e : TypeId} {v : Value} {d : DataW H} {ps : List MemPlace} {r : Reach} {base : Nat} (ht : P.underlying t = some (.slice e)) (hc : P.cellsOf e = en.sz)
    (dec : ∀ n cs z, DataW.trod enc P w 0 (fun _ => true) true n e cs = some z → ∃ x, cs = en.enc x ∧ Good x)
    (hv : Value.okWide P w r base t v) (h : DataW.Trod enc P w 0 (fun _ => true) true t v d ps) : ∃ p c xs, v = .slice p xs.length c ∧ Sl w.heap en p c xs ∧ ∀ y ∈ xs, Good y := by
  obtain ⟨a, len, cap, rfl⟩ := okWide_slice ht hv
  obtain ⟨n, h⟩ := h
  obtain ⟨p, c, xs, hx, hs⟩ := read_slice en Good ht hc dec h
  simp [Value.cells] at hx
  obtain ⟨rfl, rfl, rfl⟩ := hx
  exact ⟨_, _, xs, rfl, hs⟩

theorem trodAll_below (hl : laidOutB P = true) {W W' : World} (hx : Ext W W') : ∀ {ts : List TypeId} {vs : List Value} {ds : List (DataW H)} {ps : List MemPlace}, (∀ t ∈ ts, P.readableRec t = true ∧ t < P.types.size) →
    DataW.TrodAll enc P W 0 (fun _ => true) true ts vs ds ps → DataW.TrodAll enc P W' 0 (fun b => decide (b < W.heap.size)) true ts vs ds ps
  | [], vs, ds, ps, _, h => by
    obtain ⟨rfl, rfl, rfl⟩ := trodAll_nil h
    exact trodAll_mk0
  | t :: ts, vs, ds, ps, hr, h => by
    obtain ⟨v, vs', d, ds', p, q, rfl, rfl, rfl, h1, h2⟩ := trodAll_cons h
    have hlt : ∀ x ∈ p, x.block < W.heap.size := by obtain ⟨m, hm⟩ := h1; exact DataW.trod_lt m _ _ _ hm
    obtain ⟨r1, r2⟩ := hr t (by simp)
    exact trodAll_cons_mk (Below.trod hl r1 r2 h1 hx hlt) (trodAll_below hl hx (fun t ht => hr t (by simp [ht])) h2)

/-- the frame of a law: it returns true and only adds memory -/
theorem law_post {f : Func} {s : ChangeSpec} {W W' : World} {args : Array Value} {ds gs : List (DataW H)} {before : List MemPlace} (hl : laidOutB P = true) (hr : (f.params.toList.all fun t => P.readableRec t && decide (t < P.types.size)) = true) {tb : TypeId} (hb : P.underlying tb = some .bool)
    (hres : f.resultTypes = #[tb]) (hvars : s.vars = []) (hW : DataW.Whole enc P f.params.toList s.vars false W args.toList ds gs before) (hs : s.fn H (ds ++ gs) = { results := [.lit (.bool true)], args := ds }) (hx : Ext W W') :
    s.post enc P f false true false false W args (.bool true) W' := by
  have hW' := hW
  obtain ⟨p, q, hA, hV, rfl, _, _⟩ := hW
  rw [hvars] at hV
  obtain ⟨rfl, rfl⟩ := trodVars_none hV
  have hr' : ∀ t ∈ f.params.toList, P.readableRec t = true ∧ t < P.types.size := fun t ht => by
    have := List.all_eq_true.1 hr t ht
    simpa using this
  refine ⟨ds, [], p ++ [], [], p, [], hW', ?_, ?_, ?_, hx.frame _, fun h => by cases h⟩
  · rw [hs, hres]
    exact trodAll_mk1 (shut_bool hb _)
  · rw [hs]
    exact trodAll_below hl hx hr' hA
  · rw [hs, hvars]; exact rfl

end
end Go.V

/- Replies: trees, and how they lie in memory; in plain Lean. -/

namespace Go.V
section
variable {P : Program} {n : Nat} {E E0 : Env} {w : World} {Q : Exit → Act → World → Prop}
/-- a region's many ways meet again behind it -/
theorem W_cutR {id : Nat} {l : Array Oper} {b : Bool} {y : Code} (E0 : Env) (J : World → Prop) (h1 : W P n (.region id l b) (fun e a w' => e = .normal ∧ Holds n E0 a ∧ J w') E w) (h2 : ∀ w', J w' → W P n y Q E0 w') : W P n (.seq (.region id l b) y) Q E w := by
  unfold W at *
  exact fun a ha => wp_seq (wp_mono (h1 a ha) (fun e a w' ⟨he, hh, hj⟩ => by subst he; exact h2 w' hj a hh))
theorem Post_cut {J : World → Prop} (hE : Env.sub E0 E) (hJ : J w) : Post n (fun e a w' => e = .normal ∧ Holds n E0 a ∧ J w') .normal E w := by
  unfold Post
  exact fun _ ha => ⟨rfl, ha.sub hE, hJ⟩
end
/-- a reply as it lies in a slice -/
structure RawR where
  kind : Int
  s : ByteArray
  n : Int
  p : Option Addr
  len : Nat
  cap : Nat
def eRep : Enc RawR := ⟨4, fun r => [.int .i64 r.kind, .string r.s, .int .i64 r.n, .slice r.p r.len r.cap], fun _ => rfl, fun _ v hv => by simp at hv; rcases hv with rfl | rfl | rfl | rfl <;> rfl, by decide⟩
inductive Rep where
  | mk (kind : Int) (s : ByteArray) (n : Int) (l : List Rep)
def Rep.kind : Rep → Int | .mk k _ _ _ => k
def Rep.s : Rep → ByteArray | .mk _ s _ _ => s
def Rep.n : Rep → Int | .mk _ _ n _ => n
def Rep.l : Rep → List Rep | .mk _ _ _ l => l
theorem Rep.ext' {a b : Rep} (h1 : a.kind = b.kind) (h2 : a.s = b.s) (h3 : a.n = b.n) (h4 : a.l = b.l) : a = b := by
  cases a; cases b
  simp only [Rep.kind, Rep.s, Rep.n, Rep.l] at *
  subst h1 h2 h3 h4
  rfl
/-- tree t lies at r, not deeper than d -/
def RepAt (H : Array Obj) : Nat → RawR → Rep → Prop
  | 0, _, _ => False
  | d + 1, r, t => r.kind = t.kind ∧ r.s = t.s ∧ r.n = t.n ∧ r.len = t.l.length ∧ t.s.size ≤ maxLen ∧ (-9223372036854775808 ≤ t.n ∧ t.n ≤ 9223372036854775807) ∧
    ∃ rs : List RawR, Sl H eRep r.p r.cap rs ∧ rs.length = t.l.length ∧ ∀ (i : Nat) r' t', rs[i]? = some r' → t.l[i]? = some t' → RepAt H d r' t'
/-- several -/
structure RepsAt (H : Array Obj) (d : Nat) (p : Option Addr) (c : Nat) (rs : List RawR) (ts : List Rep) : Prop where
  sl : Sl H eRep p c rs
  len : rs.length = ts.length
  get : ∀ (i : Nat) r t, rs[i]? = some r → ts[i]? = some t → RepAt H d r t
theorem RepAt.ext {w w' : World} (hx : Ext w w') : ∀ {d : Nat} {r : RawR} {t : Rep}, RepAt w.heap d r t → RepAt w'.heap d r t
  | 0, _, _, h => h
  | d + 1, r, t, ⟨h1, h2, h3, h4, h5, h6, rs, hs, hl, hg⟩ => ⟨h1, h2, h3, h4, h5, h6, rs, hs.ext hx, hl, fun i r' t' hr ht => RepAt.ext hx (hg i r' t' hr ht)⟩
theorem RepsAt.ext {w w' : World} {d : Nat} {p : Option Addr} {c : Nat} {rs : List RawR} {ts : List Rep} (h : RepsAt w.heap d p c rs ts) (hx : Ext w w') : RepsAt w'.heap d p c rs ts :=
  ⟨h.sl.ext hx, h.len, fun i r t hr ht => (h.get i r t hr ht).ext hx⟩
/-- a reply and its list -/
theorem RepAt.open {H : Array Obj} {d : Nat} {r : RawR} {t : Rep} (h : RepAt H d r t) : ∃ e rs, d = e + 1 ∧ r.kind = t.kind ∧ r.s = t.s ∧ r.n = t.n ∧ r.len = rs.length ∧ t.s.size ≤ maxLen ∧ (-9223372036854775808 ≤ t.n ∧ t.n ≤ 9223372036854775807) ∧ RepsAt H e r.p r.cap rs t.l := by
  cases d with
  | zero => exact h.elim
  | succ d =>
    obtain ⟨h1, h2, h3, h4, h5, h6, rs, hs, hl, hg⟩ := h
    exact ⟨d, rs, rfl, h1, h2, h3, by rw [h4, hl], h5, h6, hs, hl, hg⟩
theorem RepAt.mono {H : Array Obj} : ∀ {d e : Nat} {r : RawR} {t : Rep}, RepAt H d r t → d ≤ e → RepAt H e r t
  | 0, _, _, _, h, _ => h.elim
  | d + 1, 0, _, _, _, hl => by omega
  | d + 1, e + 1, r, t, ⟨h1, h2, h3, h4, h5, h6, rs, hs, hl, hg⟩, hle => ⟨h1, h2, h3, h4, h5, h6, rs, hs, hl, fun i r' t' hr ht => RepAt.mono (hg i r' t' hr ht) (by omega)⟩
/-- no end of a line in s -/
def nobr (s : ByteArray) : Bool := s.data.toList.all (fun b => decide (b ≠ 13) && decide (b ≠ 10))
def leafOk (t : Rep) : Bool :=
  decide (0 ≤ t.kind) && decide (t.kind ≤ 5) && (decide (t.kind = 5) || t.l.isEmpty) && (decide (t.kind = 2) || decide (t.n = 0)) && (decide (t.kind = 0) || decide (t.kind = 1) || decide (t.kind = 3) || decide (t.s = ⟨#[]⟩)) && (decide (2 ≤ t.kind) || nobr t.s)
/-- Right, with so many arrays within one another -/
def rightT : Nat → Rep → Bool
  | 0, t => leafOk t && decide (t.kind ≠ 5)
  | d + 1, t => leafOk t && t.l.all (rightT d)
end Go.V

/- Rules for pieces of strings, bits. -/

namespace Go.V
open Go.RowKit
section
variable {P : Program} {n : Nat} {ops : Array Oper} {dr : Nat × List Nat} {dq : Nat} {l : List Oper} {E : Env} {w : World} {K : Env → World → Prop}
variable {d : Option Nat} {ty : TypeId} {pos : String} {af : Array Edge} {g : Option (Nat × Bool)} {x y z : Operand} {k k' : IntKind} {i j : Int} {t : Nat} {s : ByteArray}
theorem G1_ssliceHi (hu : StrT P t) (hx : E.look x = some (.string s)) (hy : E.look y = some (.int k i)) (h0 : 0 ≤ i) (h1 : i ≤ s.size) (hd : dstOk n d = true)
    (h : G P n ops dr l (E.put d (.string (s.extract 0 i.toNat))) w K) : G1 P n ops dr ⟨d, .slice t x none (some y) none, ty, pos, af, g⟩ l E w K :=
  G1_quiet _ hd (fun a ha w' _ => by
    simp [execOp, Instr.sliceAt, Instr.slice, Instr.sliceBounds, Instr.sliceBound, asIntOf, ha.eval hx, ha.eval hy, run_underlying (P := P) hu, h0, h1]) h
theorem G1_ssliceLo (hu : StrT P t) (hx : E.look x = some (.string s)) (hy : E.look y = some (.int k i)) (h0 : 0 ≤ i) (h1 : i ≤ s.size) (hd : dstOk n d = true)
    (h : G P n ops dr l (E.put d (.string (s.extract i.toNat s.size))) w K) : G1 P n ops dr ⟨d, .slice t x (some y) none none, ty, pos, af, g⟩ l E w K :=
  G1_quiet _ hd (fun a ha w' _ => by
    simp [execOp, Instr.sliceAt, Instr.slice, Instr.sliceBounds, Instr.sliceBound, asIntOf, ha.eval hx, ha.eval hy, run_underlying (P := P) hu, h0, h1]) h
end
theorem mkStr_size (l : List UInt8) : (mkStr l).size = l.length := by simp [mkStr, ByteArray.size]
theorem mkStr_take (l : List UInt8) (k : Nat) : (mkStr l).extract 0 k = mkStr (l.take k) := by
  unfold mkStr; rw [ByteArray.extract_mk]; simp
theorem mkStr_inj {a b : List UInt8} : mkStr a = mkStr b ↔ a = b := by
  constructor
  · intro h
    have : (mkStr a).data.toList = (mkStr b).data.toList := by rw [h]
    simpa [mkStr] using this
  · rintro rfl; rfl
end Go.V

/- Rows as raw cells: copy, the append of zeros, overlaps, room behind the length. -/

namespace Go.V
open Go.RowKit

theorem Own.toBlk {α : Type} {e : Enc α} {w : World} {B T : Nat} {p : Option Addr} {c : Nat} {xs : List α} (h : Own w B T e p c xs) (hne : p ≠ none) :
    ∃ gb cur, p = bx gb ∧ B ≤ gb ∧ Blk w.heap gb T cur ∧ cur.length = c * e.sz ∧ c ≤ maxLen ∧ xs.length ≤ c ∧ cur.take (xs.length * e.sz) = xs.flatMap e.enc := by
  rcases h.2 with ⟨hv, _⟩ | ⟨g, cap, cur, hv, hb, hg, hnc, hcm, hcs, ht⟩
  · injection hv with e1 _ _; exact absurd e1 hne
  · injection hv with e1 _ e3; subst e1 e3
    exact ⟨g, cur.toList, rfl, hb, by unfold Blk; rw [Array.toArray_toList]; exact hg, by simpa using hcs, hcm, hnc, ht⟩
theorem Own.ofBlk {α : Type} {e : Enc α} {w : World} {B T gb : Nat} {c : Nat} {xs : List α} {cur : List Value} (hb : B ≤ gb) (hB : Blk w.heap gb T cur) (hl : cur.length = c * e.sz) (hc : c ≤ maxLen) (hx : xs.length ≤ c) (ht : cur.take (xs.length * e.sz) = xs.flatMap e.enc) :
    Own w B T e (bx gb) c xs := by
  unfold Own
  refine ⟨by rw [flat_len], .inr ⟨gb, c, cur.toArray, rfl, hb, hB, hx, hc, by simpa using hl, by simpa using ht⟩⟩
theorem Own.some_of_pos {α : Type} {e : Enc α} {w : World} {B T : Nat} {p : Option Addr} {c : Nat} {xs : List α} (h : Own w B T e p c xs) (hn : 0 < xs.length) : p ≠ none := by
  rintro rfl
  have h1 := h.sl.ok.nul rfl
  have h2 := h.sl.ok.le
  omega
theorem subp_bx {gb c l sz : Nat} (h : l < c) : subp (bx gb) c l sz = some ⟨gb, l * sz, none⟩ := by
  unfold subp
  rw [if_neg (by omega)]
  simp [addr_add]

section
variable {P : Program} {n : Nat} {ops : Array Oper} {dr : Nat × List Nat} {dq : Nat} {l : List Oper} {E : Env} {w : World} {K : Env → World → Prop}
variable {d : Option Nat} {ty : TypeId} {pos : String} {af : Array Edge} {g : Option (Nat × Bool)} {x y z : Operand} {k k' : IntKind} {i j : Int} {t t' u sz by_ : Nat} {v v' : Value} {p q : Option Addr} {c len m : Nat} {b : Bool}

theorem G1_sliceLoJ {q : Nat} (hu : SliceT P t u sz by_) (hx : E.look x = some (.slice p len c)) (hy : E.look y = some (.int k j)) (hj : j = (q : Int)) (ho : Okp p len c) (hq : q ≤ len) (hd : dstOk n d = true)
    (h : G P n ops dr l (E.put d (.slice (subp p c q sz) (len - q) (c - q))) w K) : G1 P n ops dr ⟨d, .slice t x (some y) none none, ty, pos, af, g⟩ l E w K := by
  subst hj; exact G1_sliceLo hu hx hy ho hq hd h
theorem G1_sliceHiJ {q : Nat} (hu : SliceT P t u sz by_) (hx : E.look x = some (.slice p len c)) (hy : E.look y = some (.int k j)) (hj : j = (q : Int)) (hq : q ≤ c) (hd : dstOk n d = true)
    (h : G P n ops dr l (E.put d (.slice p q c)) w K) : G1 P n ops dr ⟨d, .slice t x none (some y) none, ty, pos, af, g⟩ l E w K := by
  subst hj; exact G1_sliceHi hu hx hy hq hd (by rw [subp_zero]; exact h)

theorem run_copyB {gb o dl dc sl sc T : Nat} {cur vs : List Value} (hu : SliceT P t u sz by_) (hb : Blk w.heap gb T cur) (hq : vs ≠ [] → ∃ b' o', q = some ⟨b', o', none⟩) (hn : vs.length = min sl dl * sz)
    (hsrc : ∀ j v, vs[j]? = some v → hcell w.heap (adr q j) = some v) (hfit : o + vs.length ≤ cur.length) (h1 : ∀ v ∈ vs, v.oneCell' = true) (hsz : 0 < sz) (ty : TypeId) :
    (Builtin.copy_ #[t, t'] ty #[.slice (some ⟨gb, o, none⟩) dl dc, .slice q sl sc]).run P w = .ok (goInt (min sl dl)) (w.setRow gb (cur.take o ++ vs ++ cur.drop (o + vs.length)).toArray) := by
  obtain ⟨hu1, inf, z, hi, rfl, rfl, hz, hz2⟩ := hu
  have hst := run_storeCells_at P gb o T vs 0 cur.toArray w hb (by simpa using hfit) h1
  simp only [Nat.add_zero] at hst
  have hmin : Nat.min sl dl = min sl dl := rfl
  by_cases hv : vs = []
  · subst hv
    have h0 : min sl dl = 0 := by
      have : min sl dl * inf.size = 0 := by simpa using hn.symm
      rcases Nat.mul_eq_zero.1 this with h | h
      · exact h
      · omega
    have hl : ∀ (x : Addr), (loadCells x 0).run P w = .ok #[] w := fun x => by simpa using run_loadCells_list (P := P) w x [] (by simp)
    cases q <;> (simp [Builtin.copy_, run_underlying hu1, Builtin.lenOf, Builtin.firstCells, sizeOf, typeInfo, hi, hmin, h0, hl, hst, goInt]; try omega)
  · obtain ⟨b', o', rfl⟩ := hq hv
    have hl := run_loadCells_list (P := P) w ⟨b', o', none⟩ vs (fun j v hj => by rw [addr_add]; exact hsrc j v hj)
    rw [hn] at hl
    simp [Builtin.copy_, run_underlying hu1, Builtin.lenOf, Builtin.firstCells, sizeOf, typeInfo, hi, hmin, hl, hst, goInt]
    try omega

/-- copy into a row of one's own -/
theorem G1_copyB {gb o dl dc sl sc T : Nat} {cur : List Value} {dp : Option Addr} (vs : List Value) (hu : SliceT P t u sz by_) (hx : E.look x = some (.slice dp dl dc)) (hy : E.look y = some (.slice q sl sc)) (hdp : dp = some ⟨gb, o, none⟩) (hb : Blk w.heap gb T cur) (hq : vs ≠ [] → ∃ b' o', q = some ⟨b', o', none⟩) (hn : vs.length = min sl dl * sz)
    (hsrc : ∀ j v, vs[j]? = some v → hcell w.heap (adr q j) = some v) (hfit : o + vs.length ≤ cur.length) (h1 : ∀ v ∈ vs, v.oneCell' = true) (hsz : 0 < sz)
    (he : effects P dr.1 ⟨d, .call ⟨.builtin .copy, #[x, y], #[t, t']⟩, ty, pos, af, g⟩ = true) (hw : writes dr.1 ⟨d, .call ⟨.builtin .copy, #[x, y], #[t, t']⟩, ty, pos, af, g⟩ = true) (hd : dstOk n d = true)
    (h : ∀ w', Blk w'.heap gb T (cur.take o ++ vs ++ cur.drop (o + vs.length)) → w.grownBy w' (some gb) → w'.heap.size = w.heap.size → G P n ops dr l (E.put d (.int .i64 (min sl dl : Nat))) w' K) : G1 P n ops dr ⟨d, .call ⟨.builtin .copy, #[x, y], #[t, t']⟩, ty, pos, af, g⟩ l E w K := by
  subst hdp
  exact G1_eff _ (w.setRow gb (cur.take o ++ vs ++ cur.drop (o + vs.length)).toArray) he hd (fun a ha => by simp [execOp, resolve, invoke, builtin, ha.eval hx, ha.eval hy, run_copyB (t' := t') hu hb hq hn hsrc hfit h1 hsz ty, goInt]; try omega) (.inl hw)
    (h _ (by unfold Blk; exact setRow_heap w gb _ _ T (0, 0) hb) (setRow_grown w gb _) (by simp))

end
end Go.V

/- append within the room, clear, rows that are shortened. -/

namespace Go.V
open Go.RowKit
section
variable {P : Program} {n : Nat} {ops : Array Oper} {dr : Nat × List Nat} {dq : Nat} {l : List Oper} {E : Env} {w : World} {K : Env → World → Prop}
variable {d : Option Nat} {ty : TypeId} {pos : String} {af : Array Edge} {g : Option (Nat × Bool)} {x y z : Operand} {k k' : IntKind} {i j : Int} {t t' u sz by_ : Nat} {v v' : Value} {p q : Option Addr} {c len m : Nat} {b : Bool}

theorem G1_indexAddrJ {q : Nat} (hu : SliceT P t u sz by_) (hx : E.look x = some (.slice p len c)) (hy : E.look y = some (.int k j)) (hj : j = (q : Int)) (ho : Okp p len c) (h1 : q < len) (hd : dstOk n d = true)
    (h : G P n ops dr l (E.put d (.pointer (some (adr p (q * sz))))) w K) : G1 P n ops dr ⟨d, .indexAddr t x y, ty, pos, af, g⟩ l E w K := by
  subst hj; exact G1_indexAddrN hu hx hy ho h1 hd h
theorem G1_sliceBothJ {q r : Nat} (hu : SliceT P t u sz by_) (hx : E.look x = some (.slice p len c)) (hy : E.look y = some (.int k i)) (hz : E.look z = some (.int k' j)) (hi : i = (q : Int)) (hj : j = (r : Int)) (hq : q ≤ r) (hr : r ≤ c) (hd : dstOk n d = true)
    (h : G P n ops dr l (E.put d (.slice (subp p c q sz) (r - q) (c - q))) w K) : G1 P n ops dr ⟨d, .slice t x (some y) (some z) none, ty, pos, af, g⟩ l E w K := by
  subst hi hj; exact G1_sliceBoth hu hx hy hz hq hr hd h
end
end Go.V

/- bytes.Equal, bytes.HasPrefix, resp.cut: the walks. -/

namespace Go.V
section
variable {P : Program} {n : Nat} {ops : Array Oper} {dr : Nat × List Nat} {l : List Oper} {E : Env} {w : World} {K : Env → World → Prop}
variable {d : Option Nat} {ty : TypeId} {pos : String} {af : Array Edge} {g : Option (Nat × Bool)} {x : Operand} {t e : Nat}
/-- a literal's row of bytes, marked as a string's -/
theorem G1_convMark {gb N c : Nat} {cs : List Value} {bs : List UInt8} (ht : P.underlying t = some (.slice e)) (hk : P.underlying e = some (.int .u8)) (hx : E.look x = some (.slice (bx gb) N c)) (hb : Blk w.heap gb e cs) (hs : Sl w.heap eByte (bx gb) c bs)
    (he : effects P dr.1 ⟨d, .convert t t x, ty, pos, af, g⟩ = true) (hw : writes dr.1 ⟨d, .convert t t x, ty, pos, af, g⟩ = true) (hd : dstOk n d = true)
    (h : ∀ w', Sl w'.heap eByte (bx gb) c bs → w.grownBy w' (some gb) → w'.heap.size = w.heap.size → G P n ops dr l (E.put d (.slice (bx gb) N c)) w' K) : G1 P n ops dr ⟨d, .convert t t x, ty, pos, af, g⟩ l E w K := by
  have hb' := hb
  unfold Blk at hb'
  have hsh : w.shape? gb = some (e, cs.length) := by
    unfold World.shape?
    rw [hb']
    simp
  have hrun : (convert t t (.slice (bx gb) N c)).run P w = .ok (.slice (bx gb) N c) (w.freeze ⟨gb, cs.length, none⟩ 1) := by
    simp [convert, run_underlying ht, run_underlying hk, markStringish, hsh]
  have hfz : (w.freeze ⟨gb, cs.length, none⟩ 1).heap = w.heap.modify gb (fun
      | .cells c elem (lo, hi) => .cells c elem (if lo == hi then (cs.length, cs.length + 1) else (min lo cs.length, max hi (cs.length + 1)))
      | o => o) := by
    unfold World.freeze
    rw [if_neg (by decide)]
    rfl
  have hcell : ∀ a, hcell (w.freeze ⟨gb, cs.length, none⟩ 1).heap a = hcell w.heap a := by
    intro a
    unfold Go.V.hcell
    rw [hfz, Array.getElem?_modify]
    by_cases hg : gb = a.block
    · subst hg
      rw [if_pos rfl, hb']
      rfl
    · rw [if_neg hg]
  refine G1_eff _ _ he hd (fun a ha => by simp only [execOp, ha.eval hx, Sem.run_bind, hrun]; rfl) (.inl hw) (h _ ?_ ?_ ?_)
  · exact ⟨hs.ok, fun i y hi k v hv => by rw [hcell]; exact hs.cell i y hi k v hv⟩
  · refine ⟨?_, ?_, ?_, ?_, fun k hk hne => ?_⟩
    · unfold World.freeze; rw [if_neg (by decide)]
    · unfold World.freeze; rw [if_neg (by decide)]
    · unfold World.freeze; rw [if_neg (by decide)]
    · rw [hfz]; simp
    · rw [hfz, Array.getElem?_modify, if_neg (fun e => hne (by rw [e]))]
  · rw [hfz]; simp
end
end Go.V
namespace Go.Proofs.YtipbakiecocioaaGreatDoor
open Go.V
attribute [local irreducible] Blk Own hcell IntT SliceT PlainT AggT SizeT StrT FieldT ZeroT EqT ArrT
theorem bytes_equal {p q : Option Addr} {c d : Nat} {xs ys : List UInt8} {w : World} (hx : Sl w.heap eByte p c xs) (hy : Sl w.heap eByte q d ys) :
    Ctr Tryz.prog 105 [.slice p xs.length c, .slice q ys.length d] w (fun v w' => v = .bool (decide (xs = ys)) ∧ Ext w w') := by
  refine Ctr_of Tryz.func105 Tryz.ntmps105 rfl rfl rfl ?_
  repeat' (first | (apply G_on; exact rfl; first | ((first | apply G1_assign | apply G1_move); exact rfl; exact rfl) | (apply G1_toString; exact T.s22; exact T.i5; exact T.str9; exact rfl; (first | exact hx | exact hy); exact rfl) | (apply G1_seql; exact rfl; exact rfl; exact rfl)) | apply G_nil | apply Post_next | apply W_seq | apply W_region | apply W_ret)
  refine Post_ret Tryz.results105 ⟨_, _, rfl, rfl, rfl⟩ ?_
  refine ⟨?_, (by repeat first | assumption | exact Ext.rfl' | apply Ext.drew | apply Ext.alloc | refine Ext.trans ?_ (by assumption))⟩
  show Value.bool (decide _) = _
  congr 1
  rw [decide_eq_decide]
  exact mkStr_inj
theorem bytes_prefix {p q : Option Addr} {c d : Nat} {xs ys : List UInt8} {w : World} (hx : Sl w.heap eByte p c xs) (hy : Sl w.heap eByte q d ys) :
    Ctr Tryz.prog 73 [.slice p xs.length c, .slice q ys.length d] w (fun v w' => v = .bool (decide (ys.length ≤ xs.length ∧ xs.take ys.length = ys)) ∧ Ext w w') := by
  have hok := hx.ok
  have hle := hok.le
  refine Ctr_of Tryz.func73 Tryz.ntmps73 rfl rfl rfl ?_
  by_cases hl : ys.length ≤ xs.length
  · have ht := hx.take ys.length
    have htl : (xs.take ys.length).length = ys.length := by simp; omega
    have heq := fun (v : World) (h1 : Sl v.heap eByte p c (xs.take ys.length)) (h2 : Sl v.heap eByte q d ys) => bytes_equal (w := v) h1 h2
    simp only [htl] at heq
    repeat' (first | (apply G_on; exact rfl; first | ((first | apply G1_assign | apply G1_move); exact rfl; exact rfl) | (apply G1_sliceHiJ (q := ys.length); exact T.s22; exact rfl; exact rfl; exact rfl; omega; exact rfl) | (apply G1_call (f := 105); exact rfl; exact rfl; exact rfl; exact heq _ ht hy; rintro _ w2 ⟨rfl, hx2⟩; refine ⟨(by first | exact .inl rfl | exact .inr (by assumption)), ?_⟩) | (apply G1_len; exact T.s22; exact rfl; exact rfl) | (apply G1_geq; exact rfl; exact rfl; exact rfl) | (apply G1_pick_t; exact rfl; exact rfl; exact rfl)) | apply G_nil | apply Post_next | apply W_seq | apply W_region | ((fail_if_success (apply G_on; exact rfl)); apply G_split_dec; exact rfl; exact rfl; all_goals (intro h; try (exfalso; omega))) | apply W_ret)
    refine Post_ret Tryz.results73 ⟨_, _, rfl, rfl, rfl⟩ ?_
    refine ⟨?_, (by repeat first | assumption | exact Ext.rfl' | apply Ext.drew | apply Ext.alloc | refine Ext.trans ?_ (by assumption))⟩
    show Value.bool (decide _) = _
    congr 1
    rw [decide_eq_decide]
    exact ⟨fun h => ⟨hl, h⟩, fun h => h.2⟩
  · repeat' (first | (apply G_on; exact rfl; first | ((first | apply G1_assign | apply G1_move); exact rfl; exact rfl) | (apply G1_len; exact T.s22; exact rfl; exact rfl) | (apply G1_geq; exact rfl; exact rfl; exact rfl) | (apply G1_pick_f; exact rfl; exact rfl; exact rfl)) | apply G_nil | apply Post_next | apply W_seq | apply W_region | (apply G_off; exact rfl; exact rfl) | ((fail_if_success (apply G_on; exact rfl)); apply G_split_dec; exact rfl; exact rfl; all_goals (intro h; try (exfalso; omega))) | apply W_ret)
    refine Post_ret Tryz.results73 ⟨_, _, rfl, rfl, rfl⟩ ?_
    exact ⟨by rw [decide_eq_false (fun h => hl h.1)]; rfl, (by repeat first | assumption | exact Ext.rfl' | apply Ext.drew | apply Ext.alloc | refine Ext.trans ?_ (by assumption))⟩
theorem cut_no {p : Option Addr} {c : Nat} {bs : List UInt8} {n : Int} {w : World} (hC : Sl w.heap eByte p c bs) (h : ¬ (0 ≤ n ∧ n ≤ bs.length)) :
    Ctr Tryz.prog 40 [.slice p bs.length c, .int .i64 n] w (fun v w' => v = .tuple #[.string ⟨#[]⟩, .bool false] ∧ Ext w w') := by
  have n1 := hC.bound
  refine Ctr_of Tryz.func40 Tryz.ntmps40 rfl rfl rfl ?_
  repeat' (first | (apply G_on; exact rfl; first | ((first | apply G1_assign | apply G1_move); exact rfl; exact rfl) | ((first | apply G1_lss | apply G1_gtr); exact rfl; exact rfl; exact rfl) | (apply G1_len; exact T.s22; exact rfl; exact rfl) | (apply G1_pick_t; exact rfl; exact rfl; exact rfl) | (apply G1_pick_f; exact rfl; exact rfl; exact rfl)) | apply G_nil | apply Post_next | apply W_seq | apply W_region | (apply W_cond_true; exact rfl) | (apply G_off; exact rfl; exact rfl) | ((fail_if_success (apply G_on; exact rfl)); apply G_split_dec; exact rfl; exact rfl; all_goals (intro h; try (exfalso; omega))) | apply W_ret | apply Post_then_ret)
  all_goals
    refine Post_ret Tryz.results40 ⟨_, _, rfl, rfl, _, _, rfl, rfl, rfl⟩ ?_
    exact ⟨rfl, (by repeat first | assumption | exact Ext.rfl' | apply Ext.drew | apply Ext.alloc | refine Ext.trans ?_ (by assumption))⟩
theorem cut_spec {p : Option Addr} {c k : Nat} {bs : List UInt8} {w : World} (hC : Sl w.heap eByte p c bs) (hk : k ≤ bs.length) :
    Ctr Tryz.prog 40 [.slice p bs.length c, .int .i64 (k : Int)] w (fun v w' => v = (if (bs.drop k).take 2 = [13, 10] then .tuple #[.string (mkStr (bs.take k)), .bool true] else .tuple #[.string ⟨#[]⟩, .bool false]) ∧ Ext w w') := by
  have n1 := hC.bound
  have hok := hC.ok
  have hle := hok.le
  refine Ctr_of Tryz.func40 Tryz.ntmps40 rfl rfl rfl ?_
  repeat' (first | (apply G_on; exact rfl; first | ((first | apply G1_assign | apply G1_move); exact rfl; exact rfl) | (apply G1_sliceLoJ (q := k); exact T.s22; exact rfl; exact rfl; exact rfl; exact hok; omega; exact rfl) | ((first | apply G1_lss | apply G1_gtr); exact rfl; exact rfl; exact rfl) | (apply G1_len; exact T.s22; exact rfl; exact rfl) | (apply G1_pick_f; exact rfl; exact rfl; exact rfl)) | apply G_nil | apply Post_next | apply W_seq | apply W_region | ((fail_if_success (apply G_on; exact rfl)); apply G_split_dec; exact rfl; exact rfl; all_goals (intro h; try (exfalso; omega))))
  apply G_on; exact rfl
  apply G1_buildN eByte [13, 10]; exact T.s22; exact rfl; exact rfl; exact rfl; exact rfl; exact rfl; exact Nat.succ_pos _; exact Nat.le_of_ble_eq_true rfl; exact rfl; exact rfl
  intro p1 w1 ho1 hx1 hz1
  obtain ⟨gb, cur, hp1, hgb, hB, hcl, hcm, _, htk⟩ := ho1.toBlk (ho1.some_of_pos (by simp))
  subst hp1
  have hs1 := ho1.sl
  skip
  apply G_on; exact rfl
  apply G1_convMark; exact Tryz.underlying22; exact Tryz.underlying5; exact rfl; exact hB; exact hs1; exact rfl; exact rfl; exact rfl
  intro w2 hs2 hg2 hz2
  have hx2 : Ext w w2 := hx1.own hg2 (fun k hk => by injection hk; omega)
  have hC2 := hC.ext hx2
  have hd := hC2.drop (l := k) (by omega)
  have hp := fun v (h1 : Sl v.heap eByte (subp p c k 1) (c - k) (bs.drop k)) (h2 : Sl v.heap eByte (bx gb) 2 [13, 10]) => bytes_prefix (w := v) h1 h2
  simp only [List.length_drop] at hp
  have hC3 := hC2.take k
  have htk2 : (bs.take k).length = k := by simp; omega
  by_cases hcr : (bs.drop k).take 2 = [13, 10]
  · have hl2 : 2 ≤ bs.length - k := by
      have := congrArg List.length hcr
      simp at this
      omega
    have hb : decide (([13, 10] : List UInt8).length ≤ bs.length - k ∧ (bs.drop k).take ([13, 10] : List UInt8).length = [13, 10]) = true := decide_eq_true ⟨hl2, hcr⟩
    rw [hb] at hp
    rw [if_pos hcr]
    apply G_on; exact rfl; apply G1_call; exact rfl; exact rfl; exact rfl; exact hp _ hd hs2; rintro _ w3 ⟨rfl, hx3⟩; refine ⟨(by first | exact .inl rfl | exact .inr (by assumption)), ?_⟩
    have hC4 := hC3.ext hx3
    repeat' (first | (apply G_on; exact rfl; first | ((first | apply G1_assign | apply G1_move); exact rfl; exact rfl) | (apply G1_sliceHiJ (q := k); exact T.s22; exact rfl; exact rfl; exact rfl; omega; exact rfl) | (apply G1_toString (bs := bs.take k); exact T.s22; exact T.i5; exact T.str9; (rw [htk2]; exact rfl); exact hC4; exact rfl) | (apply G1_pick_f; exact rfl; exact rfl; exact rfl) | (apply G1_not_t; exact rfl; exact rfl)) | apply G_nil | apply Post_next | apply W_seq | apply W_region | (apply W_cond_false; exact rfl) | apply W_skip | apply W_ret)
    refine Post_ret Tryz.results40 ⟨_, _, rfl, rfl, _, _, rfl, rfl, rfl⟩ ?_
    exact ⟨rfl, (by repeat first | assumption | exact Ext.rfl' | apply Ext.drew | apply Ext.alloc | refine Ext.trans ?_ (by assumption))⟩
  · have hb : decide (([13, 10] : List UInt8).length ≤ bs.length - k ∧ (bs.drop k).take ([13, 10] : List UInt8).length = [13, 10]) = false := decide_eq_false (fun h => hcr h.2)
    rw [hb] at hp
    rw [if_neg hcr]
    apply G_on; exact rfl; apply G1_call; exact rfl; exact rfl; exact rfl; exact hp _ hd hs2; rintro _ w3 ⟨rfl, hx3⟩; refine ⟨(by first | exact .inl rfl | exact .inr (by assumption)), ?_⟩
    repeat' (first | (apply G_on; exact rfl; first | (apply G1_assign; exact rfl; exact rfl) | (apply G1_pick_f; exact rfl; exact rfl; exact rfl) | (apply G1_not_f; exact rfl; exact rfl)) | apply G_nil | apply Post_next | apply W_seq | apply W_region | (apply W_cond_true; exact rfl) | apply W_ret | apply Post_then_ret)
    refine Post_ret Tryz.results40 ⟨_, _, rfl, rfl, _, _, rfl, rfl, rfl⟩ ?_
    exact ⟨rfl, (by repeat first | assumption | exact Ext.rfl' | apply Ext.drew | apply Ext.alloc | refine Ext.trans ?_ (by assumption))⟩
end Go.Proofs.YtipbakiecocioaaGreatDoor

/- Rules for the bits of unsigned words. -/

namespace Go.V
open Go.RowKit
section
variable {P : Program} {n : Nat} {ops : Array Oper} {dr : Nat × List Nat} {l : List Oper} {E : Env} {w : World} {K : Env → World → Prop}
variable {d : Option Nat} {ty : TypeId} {pos : String} {af : Array Edge} {g : Option (Nat × Bool)} {x y : Operand} {k k' : IntKind} {t t' : TypeId} {a b : Nat} {i j : Int}
theorem G1_sindexJ {q : Nat} {s : ByteArray} (hu : StrT P t) (hx : E.look x = some (.string s)) (hy : E.look y = some (.int k j)) (hj : j = (q : Int)) (hq : q < s.size) (hd : dstOk n d = true)
    (h : G P n ops dr l (E.put d (.int .u8 ((bget s q).toNat : Int))) w K) : G1 P n ops dr ⟨d, .index t x y, ty, pos, af, g⟩ l E w K := by
  subst hj
  refine G1_sindex hu hx hy (by omega) (by omega) hd ?_
  rw [Int.toNat_natCast]; exact h
end
end Go.V

/- Ranging over a string; scopes; a rune's string. -/

namespace Go.V
open Go.RowKit
/-- the iterator that stands in a block -/
def Itr (w : World) (k : Nat) (s : ByteArray) (pos : Nat) : Prop := w.heap[k]? = some (.stringIter s pos)
theorem Itr.ext {w w' : World} {k : Nat} {s : ByteArray} {pos : Nat} (h : Itr w k s pos) (hx : Ext w w') : Itr w' k s pos := hx.blk h
section
variable {P : Program} {n : Nat} {ops : Array Oper} {dr : Nat × List Nat} {l : List Oper} {E : Env} {w : World} {K : Env → World → Prop}
variable {d : Option Nat} {ty : TypeId} {pos : String} {af : Array Edge} {g : Option (Nat × Bool)} {x y : Operand} {k : Nat} {t t' u : TypeId} {i j r : Int} {s : ByteArray} {m : Nat}
theorem G1_rangeS (hu : StrT P t) (hx : E.look x = some (.string s)) (he : effects P dr.1 ⟨d, .range t x, ty, pos, af, g⟩ = true) (hd : dstOk n d = true)
    (h : ∀ w', Itr w' w.heap.size s 0 → Ext w w' → w'.heap.size = w.heap.size + 1 → G P n ops dr l (E.put d (.pointer (some ⟨w.heap.size, 0, none⟩))) w' K) : G1 P n ops dr ⟨d, .range t x, ty, pos, af, g⟩ l E w K :=
  G1_eff _ (w.alloc (.stringIter s 0)) he hd (fun a ha => by simp [execOp, ha.eval hx, Instr.range, run_underlying (P := P) hu, newObj]; rfl) (.inr (Ext.alloc Ext.rfl' _).toS)
    (h _ (by unfold Itr; exact heap_alloc_new w _) (Ext.alloc Ext.rfl' _) (by simp))
theorem G1_nextS {v : Nat × Nat} (hx : E.look x = some (.pointer (some ⟨k, 0, none⟩))) (hk : Itr w k s m) (hm : m < s.size) (hv : Utf8.decode s m = v) (he : effects P dr.1 ⟨d, .next x true, ty, pos, af, g⟩ = true) (hw : writes dr.1 ⟨d, .next x true, ty, pos, af, g⟩ = true) (hd : dstOk n d = true)
    (h : ∀ w', Itr w' k s (m + v.2) → w.grownBy w' (some k) → w'.heap.size = w.heap.size → G P n ops dr l (E.put d (.tuple #[.bool true, .int .i64 (m : Int), .int .i32 (v.1 : Int)])) w' K) : G1 P n ops dr ⟨d, .next x true, ty, pos, af, g⟩ l E w K := by
  subst hv
  have hlt : k < w.heap.size := (Array.getElem?_eq_some_iff.1 hk).1
  refine G1_eff _ (w.iterAt k s (m + (Utf8.decode s m).2)) he hd (fun a ha => by simp [execOp, ha.eval hx, Lib.run_next_any_at w k s m ty hk hm]) (.inl hw) (h _ ?_ ?_ (by simp [World.iterAt]))
  · exact Lib.iterAt_heap w k s m _ hk
  · refine ⟨rfl, rfl, rfl, by simp [World.iterAt], fun q hq hne => ?_⟩
    simp only [World.iterAt]
    rw [Array.getElem?_setIfInBounds_ne (by intro e; subst e; exact hne rfl)]
theorem G1_nextE (hx : E.look x = some (.pointer (some ⟨k, 0, none⟩))) (hk : Itr w k s m) (hm : ¬ m < s.size) (he : effects P dr.1 ⟨d, .next x true, ty, pos, af, g⟩ = true) (hw : writes dr.1 ⟨d, .next x true, ty, pos, af, g⟩ = true) (hd : dstOk n d = true)
    (h : G P n ops dr l (E.put d (.tuple #[.bool false])) w K) : G1 P n ops dr ⟨d, .next x true, ty, pos, af, g⟩ l E w K :=
  G1_eff _ w he hd (fun a ha => by simp [execOp, ha.eval hx, Lib.run_next_end_at w k s m ty hk hm]) (.inl hw) h
theorem G1_runeStr {kk kk' : IntKind} (hi : IntT P t kk) (hk : StrT P t') (hx : E.look x = some (.int kk' i)) (hd : dstOk n d = true)
    (h : G P n ops dr l (E.put d (.string (Utf8.encode i))) w K) : G1 P n ops dr ⟨d, .convert t t' x, ty, pos, af, g⟩ l E w K :=
  G1_quiet _ hd (fun a ha w' _ => by simp [execOp, convert, ha.eval hx, run_underlying (P := P) hi, run_underlying (P := P) hk, Conv.intToString]) h
variable {Q : Exit → Act → World → Prop}
end
theorem bget_get' {s : ByteArray} {k : Nat} (h : k < s.size) : s.get! k = bget s k := by
  rw [bget_list]
  have h' : k < s.data.toList.length := by rw [Array.length_toList]; exact h
  have h2 : k < s.data.size := h
  rw [List.getD_eq_getElem?_getD, List.getElem?_eq_getElem h']
  simp only [ByteArray.get!]
  rw [getElem!_pos s.data k h2]
  simp
theorem bget_idx {s : ByteArray} {k : Nat} (h : k < s.size) : bget s k = s[k]'h := by rw [← bget_get' h]; exact get_at s k h
/-- what is decoded at a byte that is no ASCII: nothing of ASCII, and nothing of ASCII is left out -/
theorem decode_skip (s : ByteArray) (i : Nat) (h : i < s.size) (hb : 128 ≤ (bget s i).toNat) : 128 ≤ (Utf8.decode s i).1 ∧ (Utf8.decode s i).1 ≤ 2147483647 ∧ 1 ≤ (Utf8.decode s i).2 ∧ i + (Utf8.decode s i).2 ≤ s.size ∧ ∀ j, i ≤ j → j < i + (Utf8.decode s i).2 → 128 ≤ (bget s j).toNat := by
  have hg : ∀ k, i + k < s.size → (s.get! (i + k)).toNat = (bget s (i + k)).toNat := fun k hk => by
    rw [bget_get' hk]
  have h0 := hg 0 (by omega)
  rw [Nat.add_zero] at h0
  have hn : ¬ (s.get! i).toNat < 128 := by omega
  have step : ∀ (d : Nat × Nat), 128 ≤ d.1 → d.1 ≤ 2147483647 → 1 ≤ d.2 → d.2 ≤ 4 → (∀ k, 1 ≤ k → k < d.2 → i + k < s.size ∧ (s.get! (i + k)).toNat / 64 = 2) →
      128 ≤ d.1 ∧ d.1 ≤ 2147483647 ∧ 1 ≤ d.2 ∧ i + d.2 ≤ s.size ∧ ∀ j, i ≤ j → j < i + d.2 → 128 ≤ (bget s j).toNat := by
    intro d a1 a2 a3 a4 a5
    refine ⟨a1, a2, a3, ?_, ?_⟩
    · by_cases h1 : d.2 = 1
      · omega
      · have := (a5 (d.2 - 1) (by omega) (by omega)).1; omega
    · intro j hj1 hj2
      by_cases hji : j = i
      · rw [hji]; exact hb
      · obtain ⟨b1, b2⟩ := a5 (j - i) (by omega) (by omega)
        have b3 := hg (j - i) b1
        rw [show i + (j - i) = j by omega] at b2 b3
        omega
  have h1 := decode_high s i h (by rw [← bget_idx h]; exact hb)
  have h2 := decode_le s i
  have hw : (Utf8.decode s i).2 ≤ 4 ∧ ∀ k, 1 ≤ k → k < (Utf8.decode s i).2 → i + k < s.size ∧ (s.get! (i + k)).toNat / 64 = 2 := by
    simp only [Utf8.decode, Nat.add_zero, hn, if_false]
    repeat' split
    all_goals refine ⟨by simp, fun k hk1 hk2 => ?_⟩
    all_goals simp only [Bool.and_eq_true, decide_eq_true_eq, beq_iff_eq] at *
    all_goals try (exfalso; omega)
    all_goals rcases (show k = 1 ∨ k = 2 ∨ k = 3 by omega) with rfl | rfl | rfl
    all_goals first
      | (exfalso; omega)
      | exact ⟨by omega, by omega⟩
  exact step _ h1.1 h2 h1.2 hw.1 hw.2
theorem rune_facts (r : Nat) (h : 128 ≤ r) : 2 ≤ (Utf8.encode (r : Int)).size ∧ (Utf8.encode (r : Int)).size ≤ 4 ∧ 128 ≤ (bget (Utf8.encode (r : Int)) ((Utf8.encode (r : Int)).size - 1)).toNat := by
  unfold Utf8.encode
  simp only
  generalize hc : (if Utf8.valid (r : Int) = true then (r : Int).toNat else Utf8.runeError) = c
  have hc1 : 128 ≤ c := by
    rw [← hc]; split
    · omega
    · decide
  rw [if_neg (by omega)]
  split
  · refine ⟨Nat.le_of_ble_eq_true rfl, Nat.le_of_ble_eq_true rfl, ?_⟩
    show 128 ≤ (UInt8.ofNat (0x80 + c % 64)).toNat
    rw [UInt8.toNat_ofNat']; omega
  · split
    · refine ⟨Nat.le_of_ble_eq_true rfl, Nat.le_of_ble_eq_true rfl, ?_⟩
      show 128 ≤ (UInt8.ofNat (0x80 + c % 64)).toNat
      rw [UInt8.toNat_ofNat']; omega
    · refine ⟨Nat.le_of_ble_eq_true rfl, Nat.le_of_ble_eq_true rfl, ?_⟩
      show 128 ≤ (UInt8.ofNat (0x80 + c % 64)).toNat
      rw [UInt8.toNat_ofNat']; omega
end Go.V
