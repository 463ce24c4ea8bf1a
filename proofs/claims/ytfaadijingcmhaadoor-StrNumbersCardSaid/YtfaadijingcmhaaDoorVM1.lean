/- Texts of this proof laid together: Core, Env, Ops, Mem, Plain, Mem2, Mem3, Mem4, Arr, Types, Shelf, Num1, Read, LaidNum, NumOrd, NumFit, NumRead, Rows, Bits, StrBase, Str, StrRule, RefNum, StrPiece, RefParse. -/
import Derived.Orders
import Derived.Below
import Derived.WalkKit
import Derived.Deep.AppendSrc
import Derived.Laws.MakeOwn
import Derived.Test.YtfaadijingcmhaaDoorProg
import Derived.KernelRfl
import Derived.Shelf.SlGeneric
import Derived.Shelf.Strconv.ParseIntPublic10
import Derived.Ground.NamesProg
import Derived.Shelf.Strconv.Itoa4
import Derived.Lib.AtoiErrMem
import Derived.ProofKit
import Derived.OpenShut
import Derived.ChangeOld
import Derived.Deep.Slices
import Derived.Test.YtfaadijingcmhaaDoorCards
import Derived.Test.YtfaadijingcmhaaDoorTie
import Derived.Deep.DeepHandedRow
import Derived.Lib.LaidTab
import Derived.LaidSub
import Derived.SevenTiedAt
import Derived.Lib.ItoaNum
import Derived.Lib.ParseIntB
import Derived.Laws.Externs
import Derived.Laws.CopyRow
import Derived.Lib.AppendZerosOnto
import Derived.Lib.Overlaps
import Derived.Laws.Strings2
/- The region and code rules of this prover's own walk: environments of slots, one canonical order for regions that draw their order, rules for each kind of code. -/

namespace Go.V
open Go.RowKit

/-- w' has all blocks of w as they were; there may be more. -/
abbrev Ext (w w' : World) : Prop := Below w.heap.size w w'

theorem Ext.rfl' {w : World} : Ext w w := Below.refl _ _
theorem Ext.trans {a b c : World} (h : Ext a b) (k : Ext b c) : Ext a c := Below.trans h (k.mono h.size)

/-- the blocks that may be turned: those of S; if S is of two, all from the second on, too -/
def exempt (S : List Nat) (k : Nat) : Bool := S.contains k || match S with
  | [_, l] => Nat.ble l k
  | _ => false

/-- the same, but for the blocks of S -/
structure ExtS (S : List Nat) (w w' : World) : Prop where
  os : w'.os = w.os
  tape : w'.tape = w.tape
  output : w'.output = w.output
  size : w.heap.size ≤ w'.heap.size
  block : ∀ k, k < w.heap.size → exempt S k = false → w'.heap[k]? = w.heap[k]?
theorem ExtS.rfl' {S : List Nat} {w : World} : ExtS S w w := ⟨rfl, rfl, rfl, Nat.le_refl _, fun _ _ _ => rfl⟩
theorem ExtS.trans {S : List Nat} {a b c : World} (h : ExtS S a b) (k : ExtS S b c) : ExtS S a c :=
  ⟨k.os.trans h.os, k.tape.trans h.tape, k.output.trans h.output, Nat.le_trans h.size k.size, fun i hi hs => (k.block i (Nat.lt_of_lt_of_le hi h.size) hs).trans (h.block i hi hs)⟩
theorem Ext.toS {S : List Nat} {w w' : World} (h : Ext w w') : ExtS S w w' := ⟨h.os, h.tape, h.output, h.size, fun k hk _ => h.block k hk⟩
theorem ExtS.toE {w w' : World} (h : ExtS [] w w') : Ext w w' := ⟨h.os, h.tape, h.output, h.size, fun k hk => h.block k hk rfl⟩

def QF : Exit → Act → World → Prop := fun _ _ _ => False

/-- the run of one operation, wanted, with no way out but the next step -/
def stepX (P : Program) (S : List Nat) (wr : Oper → Bool) (o : Oper) (K : Act → World → Prop) (a : Act) (w : World) : Prop :=
  o.wp P a w (fun a' w' => (wr o = true ∨ ExtS S w w') ∧ K a' w') QF

def opX (P : Program) (S : List Nat) (ops : Array Oper) (wr : Oper → Bool) (i : Nat) (K : Act → World → Prop) (a : Act) (w : World) : Prop :=
  match ops[i]? with
  | none => K a w
  | some o => if Region.wanted o (yielded ops a.tmps) then stepX P S wr o K a w else K (a.put o.dst undef) w

def wpX (P : Program) (S : List Nat) (ops : Array Oper) (wr : Oper → Bool) (K : Act → World → Prop) : Nat → Array Bool → Act → World → Prop
  | 0, listed, a, w => Region.ready .any ops listed = [] ∧ K a w
  | fuel + 1, listed, a, w =>
    (Region.ready .any ops listed = [] → K a w) ∧
    ∀ i ∈ Region.ready .any ops listed, opX P S ops wr i (wpX P S ops wr K fuel (listed.setIfInBounds i true)) a w

theorem wp_QF {P : Program} {o : Oper} {a : Act} {w : World} {K : Act → World → Prop} {Q : Exit → Act → World → Prop} (h : o.wp P a w K QF) : o.wp P a w K Q := by
  unfold Oper.wp at *
  generalize (execOp a.eval o).run P w = r at *
  cases r with
  | ok n w' =>
    cases n <;> simp only [Oper.upon] at h ⊢ <;>
      first
        | exact h
        | exact Calls.mono h (fun e w'' he => by cases e with | returned v => exact he | panicked c => exact he.elim | outgrown => obtain ⟨_, _, hh⟩ := he; exact hh.elim)
  | halt x w' => cases x <;> simp only [Oper.upon] at h ⊢ <;> exact h.elim

theorem stepX_mono {P : Program} {S : List Nat} {wr : Oper → Bool} {o : Oper} {K K' : Act → World → Prop} {a : Act} {w : World} (h : ∀ a w, K a w → K' a w) (hh : stepX P S wr o K a w) : stepX P S wr o K' a w :=
  Oper.wp_mono (fun _ _ ⟨h1, h2⟩ => ⟨h1, h _ _ h2⟩) hh

theorem opX_mono {P : Program} {S : List Nat} {ops : Array Oper} {wr : Oper → Bool} {i : Nat} {K K' : Act → World → Prop} {a : Act} {w : World} (h : ∀ a w, K a w → K' a w) (hh : opX P S ops wr i K a w) : opX P S ops wr i K' a w := by
  unfold opX at *
  split
  · exact h _ _ (by simpa [*] using hh)
  · rename_i o ho
    simp only [ho] at hh
    split
    · rename_i hw; simp only [hw, if_true] at hh; exact stepX_mono h hh
    · rename_i hw; simp only [hw] at hh; exact h _ _ hh

theorem wpAny_of_wpX {P : Program} {S : List Nat} {ops : Array Oper} {wr : Oper → Bool} {K : Act → World → Prop} {Q : Exit → Act → World → Prop} (hQ : ∀ a w, K a w → Q .normal a w) :
    ∀ (fuel : Nat) (listed : Array Bool) (a : Act) (w : World), wpX P S ops wr K fuel listed a w → wpAny P .any ops Q fuel listed a w
  | 0, _, _, _, h => ⟨h.1, hQ _ _ h.2⟩
  | fuel + 1, listed, a, w, h => ⟨fun h0 => hQ _ _ (h.1 h0), fun i hi => by
      have h1 := opX_mono (fun a w => wpAny_of_wpX hQ fuel (listed.setIfInBounds i true) a w) (h.2 i hi)
      unfold opX at h1
      unfold wpOp
      split
      · rename_i ho; simp only [ho] at h1; exact h1
      · rename_i o ho
        simp only [ho] at h1
        split
        · rename_i hw; simp only [hw, if_true] at h1; exact .inl (wp_QF (Oper.wp_mono (fun _ _ h => h.2) h1))
        · rename_i hw; simp only [hw] at h1; exact h1⟩

/-- operation o yields v in w and in every extension of w; if it reads no memory: in every world -/
def YX (P : Program) (S : List Nat) (ops : Array Oper) (rd : Oper → Bool) (o : Oper) (v : Value) (a : Act) (w : World) : Prop :=
  (Region.wanted o (yielded ops a.tmps) = true ∧ ∀ w', (rd o = false ∨ ExtS S w w') → (execOp a.eval o).run P w' = .ok (.value v) w') ∨
  (Region.wanted o (yielded ops a.tmps) = false ∧ v = undef)

theorem YX.ext {P : Program} {S : List Nat} {ops : Array Oper} {rd : Oper → Bool} {o : Oper} {v : Value} {a : Act} {w w' : World} (h : YX P S ops rd o v a w) (hx : rd o = false ∨ ExtS S w w') : YX P S ops rd o v a w' := by
  rcases h with ⟨h1, h2⟩ | h
  · refine .inl ⟨h1, fun w'' h'' => h2 w'' ?_⟩
    rcases hx with hx | hx
    · exact .inl hx
    · rcases h'' with h'' | h''
      · exact .inl h''
      · exact .inr (hx.trans h'')
  · exact .inr h

theorem YX.opX {P : Program} {S : List Nat} {ops : Array Oper} {rd wr : Oper → Bool} {i : Nat} {o : Oper} {v : Value} {a : Act} {w : World} (hi : ops[i]? = some o) (hy : YX P S ops rd o v a w)
    {K : Act → World → Prop} (h : K (a.put o.dst v) w) : V.opX P S ops wr i K a w := by
  unfold V.opX
  simp only [hi]
  rcases hy with ⟨hw, hv⟩ | ⟨hw, rfl⟩
  · simp only [hw, if_true, stepX, Oper.wp, hv w (.inr ExtS.rfl'), Oper.upon]; exact ⟨.inr ExtS.rfl', h⟩
  · simp only [hw, Bool.false_eq_true, if_false]; exact h

theorem YX.of_same {P : Program} {S : List Nat} {ops : Array Oper} {rd : Oper → Bool} {o : Oper} {v : Value} {a a' : Act} {w : World} (hy : YX P S ops rd o v a w) (he : execOp a'.eval o = execOp a.eval o)
    (hw : Region.wanted o (yielded ops a'.tmps) = Region.wanted o (yielded ops a.tmps)) : YX P S ops rd o v a' w := by
  unfold YX at *
  rw [he, hw]
  exact hy

theorem opX_put {P : Program} {S : List Nat} {ops : Array Oper} {rd wr : Oper → Bool} {j : Nat} {oi oj : Oper} {v : Value} (hj : ops[j]? = some oj) (hap : oi.apart ops oj = true) (hnw : wr oj = false ∨ rd oi = false)
    (hsi : ∀ cs b, oi.op ≠ .select cs b) (hsj : ∀ cs b, oj.op ≠ .select cs b) {K : Act → World → Prop} {a : Act} {w : World}
    (hy : YX P S ops rd oi v a w) (h : opX P S ops wr j K (a.put oi.dst v) w) :
    opX P S ops wr j (fun a' w' => YX P S ops rd oi v a' w' ∧ K (a'.put oi.dst v) w') a w := by
  obtain ⟨h1, h2, h3⟩ := Oper.apart_spec hap
  have keep : ∀ (a : Act) (w : World), YX P S ops rd oi v a w → ∀ u, YX P S ops rd oi v (a.put oj.dst u) w := fun a w hy u =>
    hy.of_same (execOp_put oi hsi a oj.dst u h3) (wanted_put oi a oj.dst u h3)
  have tr : ∀ w', (wr oj = true ∨ ExtS S w w') → (rd oi = false ∨ ExtS S w w') := fun w' h => by
    rcases hnw with hn | hn
    · rw [hn] at h; exact .inr (by simpa using h)
    · exact .inl hn
  have keepD : ∀ w d, YX P S ops rd oi v a w → YX P S ops rd oi v { a with defers := d :: a.defers } w := fun w d hy => hy.of_same rfl rfl
  unfold opX at *
  simp only [hj] at *
  rw [wanted_put oj a oi.dst v h1] at h
  split
  · rename_i hw
    simp only [hw, if_true] at h
    unfold stepX Oper.wp at *
    rw [execOp_put oj hsj a oi.dst v h1] at h
    generalize (execOp a.eval oj).run P w = r at *
    cases r with
    | ok n w' =>
      cases n <;> simp only [Oper.upon] at h ⊢
      case value u => exact ⟨h.1, keep a _ (hy.ext (tr _ h.1)) u, by rw [← Act.put_comm a v u h2]; exact h.2⟩
      case skip => exact ⟨h.1, keep a _ (hy.ext (tr _ h.1)) _, by rw [← Act.put_comm a v undef h2]; exact h.2⟩
      case defer d =>
        refine ⟨h.1, keep _ _ (keepD _ d (hy.ext (tr _ h.1))) _, ?_⟩
        rw [← Act.put_comm _ v undef h2, ← Act.put_defers]
        exact h.2
      case enter f args =>
        refine Calls.mono h fun e w'' he => ?_
        cases e with
        | returned u => exact ⟨he.1, keep a _ (hy.ext (tr _ he.1)) u, by rw [← Act.put_comm a v u h2]; exact he.2⟩
        | panicked c => exact he
        | outgrown => exact he
      case row row args => exact Rows.mono h fun u w'' he => ⟨he.1, keep a _ (hy.ext (tr _ he.1)) u, by rw [← Act.put_comm a v u h2]; exact he.2⟩
    | halt x w' => cases x <;> simp only [Oper.upon] at h ⊢ <;> exact h
  · rename_i hw
    simp only [hw] at h
    exact ⟨keep a _ hy _, by rw [← Act.put_comm a v undef h2]; exact h⟩

theorem wpX_first {P : Program} {S : List Nat} {ops : Array Oper} {rd wr : Oper → Bool} {K : Act → World → Prop} {i : Nat} {oi : Oper} {v : Value} (hi : ops[i]? = some oi)
    (hsel : ∀ (j : Nat) (o : Oper) cs b, ops[j]? = some o → o.op ≠ .select cs b) :
    ∀ (fuel : Nat) (listed : Array Bool) (a : Act) (w : World),
      (∀ j oj, ops[j]? = some oj → j ≠ i → listed.getD j true = false → (∀ e ∈ oj.after, Region.binds .any e = true → e.on ≠ i) → oi.apart ops oj = true ∧ (wr oj = false ∨ rd oi = false)) →
      i ∈ Region.ready .any ops listed → YX P S ops rd oi v a w →
      wpX P S ops wr K fuel (listed.setIfInBounds i true) (a.put oi.dst v) w → wpX P S ops wr K (fuel + 1) listed a w := by
  intro fuel
  induction fuel with
  | zero =>
    intro listed a w _ hr hy H
    refine ⟨fun h => (by rw [h] at hr; cases hr), fun j hj => ?_⟩
    by_cases hji : j = i
    · subst hji; exact hy.opX hi H
    · have := ready_mono hj hji
      rw [H.1] at this
      cases this
  | succ fuel ih =>
    intro listed a w hfree hr hy H
    refine ⟨fun h => (by rw [h] at hr; cases hr), fun j hj => ?_⟩
    by_cases hji : j = i
    · subst hji; exact hy.opX hi H
    · have h1 := H.2 j (ready_mono hj hji)
      obtain ⟨hjun, oj, hoj, hall⟩ := mem_ready.1 hj
      have hnot : ∀ e ∈ oj.after, Region.binds .any e = true → e.on ≠ i := fun e he hb heq => by
        have h1 := hall e he hb
        have h0 := (mem_ready.1 hr).1
        rw [heq] at h1
        rcases Nat.lt_or_ge i listed.size with h' | h'
        · simp [h'] at h0 h1; rw [h0] at h1; cases h1
        · simp [Array.getElem?_eq_none h'] at h1
      obtain ⟨hap, hnw⟩ := hfree j oj hoj hji hjun hnot
      have h2 := opX_put hoj hap hnw (fun cs b => hsel i oi cs b hi) (fun cs b => hsel j oj cs b hoj) hy h1
      have hfree' : ∀ k ok, ops[k]? = some ok → k ≠ i → (listed.setIfInBounds j true).getD k true = false →
          (∀ e ∈ ok.after, Region.binds .any e = true → e.on ≠ i) → oi.apart ops ok = true ∧ (wr ok = false ∨ rd oi = false) := fun k ok hk hki hun hno => by
        refine hfree k ok hk hki ?_ hno
        by_cases hjk : j = k
        · subst hjk; exact hjun
        · rw [getD_set_ne true hjk] at hun; exact hun
      refine opX_mono (fun a' w' h3 => ih (listed.setIfInBounds j true) a' w' hfree' (ready_mono hr (Ne.symm hji)) h3.1 ?_) h2
      rw [Array.setIfInBounds_comm _ _ hji]
      exact h3.2

/-- every other operation that is still to come waits for i, or is apart from it and no write -/
def freeX (ops : Array Oper) (rd wr : Oper → Bool) (listed : Array Bool) (i : Nat) : Bool :=
  match ops[i]? with
  | none => false
  | some oi => (List.range ops.size).all fun j => j == i || listed.getD j true || match ops[j]? with
      | some oj => oj.after.any (fun e => Region.binds .any e && e.on == i) || (oi.apart ops oj && (!wr oj || !rd oi))
      | none => true

theorem freeX_spec {ops : Array Oper} {rd wr : Oper → Bool} {i : Nat} {oi : Oper} {listed : Array Bool} (hi : ops[i]? = some oi) (h : freeX ops rd wr listed i = true) (j : Nat) (oj : Oper)
    (hj : ops[j]? = some oj) (hne : j ≠ i) (hun : listed.getD j true = false) (hno : ∀ e ∈ oj.after, Region.binds .any e = true → e.on ≠ i) :
    oi.apart ops oj = true ∧ (wr oj = false ∨ rd oi = false) := by
  simp only [freeX, hi, List.all_eq_true, List.mem_range] at h
  have h1 := h j (Array.getElem?_eq_some_iff.1 hj).1
  simp only [hj, Bool.or_eq_true, beq_iff_eq, hne, false_or, hun, Bool.false_eq_true] at h1
  rcases h1 with h1 | h1
  · obtain ⟨e, he, hb⟩ := Array.any_eq_true'.1 h1
    simp only [Bool.and_eq_true, beq_iff_eq] at hb
    exact absurd hb.2 (hno e he hb.1)
  · simpa using h1

/-- the canonical order c serves every order: an operation with an effect comes up alone; every other one may be taken first -/
def okc (ops : Array Oper) (ef rd wr : Oper → Bool) : List Nat → Array Bool → Bool
  | [], listed => (Region.ready .any ops listed).isEmpty
  | i :: c, listed =>
    (if ef (ops.getD i default) then Region.ready .any ops listed == [i] else (Region.ready .any ops listed).contains i && freeX ops rd wr listed i) && okc ops ef rd wr c (listed.setIfInBounds i true)

/-- the walk of a list of operations, over frames -/
def GA (P : Program) (S : List Nat) (ops : Array Oper) (ef rd wr : Oper → Bool) (K : Act → World → Prop) : List Oper → Act → World → Prop
  | [], a, w => K a w
  | o :: l, a, w =>
    (∃ v, YX P S ops rd o v a w ∧ GA P S ops ef rd wr K l (a.put o.dst v) w) ∨
    (ef o = true ∧ Region.wanted o (yielded ops a.tmps) = true ∧ stepX P S wr o (GA P S ops ef rd wr K l) a w)

theorem GA_sound {P : Program} {S : List Nat} {ops : Array Oper} {ef rd wr : Oper → Bool} {K : Act → World → Prop} (hs : Region.noSelect ops = true) :
    ∀ (c : List Nat) (listed : Array Bool) (a : Act) (w : World), okc ops ef rd wr c listed = true →
      GA P S ops ef rd wr K (c.map fun i => ops.getD i default) a w → wpX P S ops wr K c.length listed a w
  | [], listed, a, w, hc, h => ⟨by simpa [okc] using hc, h⟩
  | i :: c, listed, a, w, hc, h => by
    simp only [okc, Bool.and_eq_true] at hc
    obtain ⟨h0, hc⟩ := hc
    have hmem : i ∈ Region.ready .any ops listed := by
      by_cases he : ef (ops.getD i default) = true
      · simp only [he, if_true, beq_iff_eq] at h0; rw [h0]; simp
      · simp only [he] at h0; simp at h0; exact h0.1
    obtain ⟨_, o, ho, _⟩ := mem_ready.1 hmem
    have hget : ops.getD i default = o := by
      have := Array.getElem?_eq_some_iff.1 ho
      simp [Array.getD, this.1, this.2]
    simp only [List.map_cons] at h
    rw [hget] at h h0
    simp only [GA] at h
    have alone : ef o = true → ∀ K', opX P S ops wr i K' a w → (∀ a w, K' a w → wpX P S ops wr K c.length (listed.setIfInBounds i true) a w) → wpX P S ops wr K (i :: c).length listed a w := by
      intro he K' hop hK
      simp only [he, if_true, beq_iff_eq] at h0
      refine ⟨fun h => (by rw [h] at hmem; cases hmem), fun j hj => ?_⟩
      rw [h0] at hj
      obtain rfl : j = i := by simpa using hj
      exact opX_mono hK hop
    rcases h with ⟨v, hy, h⟩ | ⟨he, hw, h⟩
    · by_cases he : ef o = true
      · exact alone he (fun a w => GA P S ops ef rd wr K (c.map fun i => ops.getD i default) a w) (hy.opX ho h) (fun a w h => GA_sound hs c _ a w hc h)
      · simp only [he] at h0
        simp only [Bool.false_eq_true, if_false, Bool.and_eq_true] at h0
        exact wpX_first ho (Region.noSelect_spec hs) c.length listed a w (freeX_spec ho h0.2) hmem hy (GA_sound hs c _ _ w hc h)
    · refine alone he _ ?_ (fun a w h => GA_sound hs c _ a w hc h)
      unfold opX
      simp only [ho, hw, if_true]
      exact h

theorem GA_seq {P : Program} {S : List Nat} {ops : Array Oper} {ef rd wr : Oper → Bool} {K : Act → World → Prop} {Q : Exit → Act → World → Prop} (hQ : ∀ a w, K a w → Q .normal a w) :
    ∀ (m k : Nat) (l : List Oper) (a : Act) (w : World), l.length = m → (∀ j, l[j]? = ops[k + j]?) →
      GA P S ops ef rd wr K l a w → wpOps P ops Q (List.range' k m) a w
  | 0, k, l, a, w, hm, hl, h => by
    obtain rfl : l = [] := List.eq_nil_of_length_eq_zero hm
    simpa [wpOps] using hQ _ _ h
  | m + 1, k, [], a, w, hm, hl, h => by simp at hm
  | m + 1, k, o :: l, a, w, hm, hl, h => by
    have h0 : ops[k]? = some o := by simpa using (hl 0).symm
    have ih := fun a w => GA_seq hQ (P := P) (S := S) (ops := ops) (ef := ef) (rd := rd) (wr := wr) m (k + 1) l a w (by simpa using hm)
      (fun j => by have := hl (j + 1); simpa [Nat.add_assoc, Nat.add_comm 1 j] using this)
    simp only [List.range'_succ, wpOps, h0]
    simp only [GA] at h
    rcases h with ⟨v, hy, h⟩ | ⟨he, hw, h⟩
    · rcases hy with ⟨hw, hv⟩ | ⟨hw, rfl⟩
      · simp only [hw, if_true, Oper.wp, hv w (.inr ExtS.rfl'), Oper.upon]; exact .inl (ih _ _ h)
      · simp only [hw, Bool.false_eq_true, if_false]; exact ih _ _ h
    · simp only [hw, if_true]
      exact .inl (wp_QF (Oper.wp_mono (fun a w h => ih _ _ h.2) h))

end Go.V

/- Environments: what the live slots hold; the rules for code and for operations over them. -/

namespace Go.V
open Go.RowKit

abbrev Env := List (Nat × Value)

def Env.get : Env → Nat → Option Value
  | [], _ => none
  | (s, v) :: E, t => bif Nat.beq s t then some v else Env.get E t

def Env.look (E : Env) : Operand → Option Value
  | .tmp t => E.get t
  | .const v => some v
  | .global g => some (.pointer (some ⟨g, 0, none⟩))
  | .func f => some (.func (.func f) #[] #[])

def Env.looks (E : Env) : List Operand → Option (List Value)
  | [] => some []
  | x :: xs => match E.look x, E.looks xs with
    | some v, some vs => some (v :: vs)
    | _, _ => none

def Env.put (E : Env) (d : Option Nat) (v : Value) : Env := match d with
  | some d => (d, v) :: E
  | none => E

structure Holds (n : Nat) (E : Env) (a : Act) : Prop where
  defers : a.defers = []
  size : a.tmps.size = n
  get : ∀ t v, E.get t = some v → a.tmps[t]? = some v

theorem Holds.eval {n : Nat} {E : Env} {a : Act} (h : Holds n E a) {x : Operand} {v : Value} (hx : E.look x = some v) : a.eval x = v := by
  cases x with
  | tmp t => simp only [Env.look] at hx; simp [Act.eval, h.get t v hx]
  | const u => simpa [Env.look, Act.eval] using hx
  | global g => simpa [Env.look, Act.eval] using hx
  | func f => simpa [Env.look, Act.eval] using hx

theorem Holds.evals {n : Nat} {E : Env} {a : Act} (h : Holds n E a) : ∀ {xs : List Operand} {vs : List Value}, E.looks xs = some vs → xs.map a.eval = vs
  | [], vs, hx => by simpa [Env.looks] using hx
  | x :: xs, vs, hx => by
    simp only [Env.looks] at hx
    split at hx
    · rename_i v us h1 h2
      obtain rfl : v :: us = vs := by simpa using hx
      simp [h.eval h1, h.evals h2]
    · simp at hx

theorem Env.get_cons (s t : Nat) (v : Value) (E : Env) : Env.get ((s, v) :: E) t = if s = t then some v else E.get t := by
  show (bif Nat.beq s t then some v else Env.get E t) = _
  by_cases h : s = t
  · subst h; simp
  · have : Nat.beq s t = false := by
      cases hb : Nat.beq s t with
      | true => exact absurd (Nat.eq_of_beq_eq_true hb) h
      | false => rfl
    simp [this, h]

theorem Holds.put {n : Nat} {E : Env} {a : Act} (h : Holds n E a) (d : Option Nat) (v : Value) (hd : ∀ t, d = some t → t < n) : Holds n (E.put d v) (a.put d v) := by
  cases d with
  | none => exact h
  | some d =>
    refine ⟨h.defers, by simpa [Act.put] using h.size, fun t u ht => ?_⟩
    simp only [Env.put, Env.get_cons] at ht
    simp only [Act.put]
    by_cases e : d = t
    · subst e
      simp only [if_true, Option.some.injEq] at ht
      subst ht
      have := hd d rfl
      simp [h.size, this]
    · simp only [e, if_false] at ht
      rw [Array.getElem?_setIfInBounds_ne e]
      exact h.get t u ht

/-- all entries of E' are found in E -/
def Env.sub : Env → Env → Prop
  | [], _ => True
  | (t, v) :: E', E => E.get t = some v ∧ Env.sub E' E

theorem Holds.sub {n : Nat} {E : Env} {a : Act} (h : Holds n E a) : ∀ {E' : Env}, Env.sub E' E → Holds n E' a
  | [], _ => ⟨h.defers, h.size, fun t v ht => by simp [Env.get] at ht⟩
  | (s, u) :: E', hs => by
    have ih := h.sub hs.2
    refine ⟨h.defers, h.size, fun t v ht => ?_⟩
    rw [Env.get_cons] at ht
    by_cases e : s = t
    · subst e
      simp only [if_true, Option.some.injEq] at ht
      subst ht
      exact h.get _ _ hs.1
    · simp only [e, if_false] at ht
      exact ih.get t v ht

/-- is the guard met (Some b), by what the environment holds? -/
def gval (ops : Array Oper) (E : Env) : Option (Nat × Bool) → Option Bool
  | none => some true
  | some (j, want) => match (ops[j]?).bind (·.dst) with
    | some t => match E.get t with
      | some (.bool b) => some (b == want)
      | some (.tuple _) => some false
      | _ => none
    | none => none

theorem wanted_of {n : Nat} {ops : Array Oper} {E : Env} {o : Oper} {a : Act} {b : Bool} (h : Holds n E a) (hg : gval ops E o.guard = some b) :
    Region.wanted o (yielded ops a.tmps) = b := by
  unfold Region.wanted
  cases hgd : o.guard with
  | none => rw [hgd] at hg; simpa [gval] using hg
  | some jw =>
    obtain ⟨j, want⟩ := jw
    rw [hgd] at hg
    simp only [gval] at hg
    split at hg
    · rename_i t ht
      split at hg
      · rename_i c hc
        obtain rfl : (c == want) = b := by simpa using hg
        have := h.get t _ hc
        simp only [yielded, ht, Option.bind_some, this]
        cases c <;> cases want <;> rfl
      · rename_i c hc
        obtain rfl : false = b := by simpa using hg
        have := h.get t _ hc
        simp only [yielded, ht, Option.bind_some, this]
        cases want <;> rfl
      · simp at hg
    · simp at hg

/-- operations with an effect, in a region that draws its order -/
def effects (P : Program) (dr : Nat) (o : Oper) : Bool :=
  dr == 0 || match o.op with
  | .move _ | .assign _ | .pick .. | .load .. | .nilCheck _ | .binOp .. | .unOp .. | .fieldAddr .. | .field .. | .indexAddr .. | .index .. | .slice ..
  | .extract .. | .makeFunc .. | .makeInterface .. | .build .. | .lookup .. => false
  | .convert _ dst _ => match P.underlying dst with
    | some (.slice _) => true
    | _ => false
  | .call { callee := .builtin .len, .. } | .call { callee := .builtin .cap, .. } | .call { callee := .builtin .min, .. } | .call { callee := .builtin .max, .. } => false
  | _ => true

/-- operations that may turn what was there: dr = 1: calls of functions only add memory; dr = 2: they may turn it -/
def writes (dr : Nat) (o : Oper) : Bool :=
  dr == 0 || match o.op with
  | .store .. => dr != 3
  | .mapUpdate .. | .insert .. | .entryStore .. | .next .. => true
  | .call { callee := .builtin .append, .. } | .call { callee := .builtin .copy, .. } | .call { callee := .builtin .delete, .. } | .call { callee := .builtin .clear, .. } => true
  | .call { callee := .value _, .. } => dr == 2
  | _ => false

/-- operations that read memory -/
def readsM (P : Program) (o : Oper) : Bool :=
  match o.op with
  | .move _ | .assign _ | .pick .. | .nilCheck _ | .unOp .. | .fieldAddr .. | .field .. | .indexAddr .. | .index .. | .slice ..
  | .extract .. | .makeFunc .. | .makeInterface .. | .build .. => false
  | .binOp _ t .. => match P.underlying t with
    | some (.pointer _) => true
    | _ => false
  | .call { callee := .builtin .min, .. } | .call { callee := .builtin .max, .. } => false
  | .call { callee := .builtin .len, argTypes, .. } | .call { callee := .builtin .cap, argTypes, .. } => match P.underlying (argTypes.getD 0 0) with
    | some (.map _ _) => true
    | _ => false
  | _ => true

def dstOk (n : Nat) : Option Nat → Bool
  | none => true
  | some d => Nat.blt d n

theorem dstOk_spec {n : Nat} {d : Option Nat} (h : dstOk n d = true) : ∀ t, d = some t → t < n := by
  rintro t rfl
  simpa [dstOk] using h

section
variable (P : Program) (n : Nat) (ops : Array Oper) (dr : Nat × List Nat)

/-- the walk of a list of operations -/
def G (l : List Oper) (E : Env) (w : World) (K : Env → World → Prop) : Prop :=
  ∀ a, Holds n E a → GA P dr.2 ops (effects P dr.1) (readsM P) (writes dr.1) (fun a' w' => ∃ E', Holds n E' a' ∧ K E' w') l a w

/-- the same, the first operation's guard being met -/
def G1 (o : Oper) (l : List Oper) (E : Env) (w : World) (K : Env → World → Prop) : Prop :=
  ∀ a, Holds n E a → Region.wanted o (yielded ops a.tmps) = true → GA P dr.2 ops (effects P dr.1) (readsM P) (writes dr.1) (fun a' w' => ∃ E', Holds n E' a' ∧ K E' w') (o :: l) a w

/-- the walk of code -/
def W (c : Code) (Q : Exit → Act → World → Prop) (E : Env) (w : World) : Prop := ∀ a, Holds n E a → c.wp P Q a w

end

/-- what is asked at an exit -/
def Post (n : Nat) (Q : Exit → Act → World → Prop) (e : Exit) (E : Env) (w : World) : Prop := ∀ a, Holds n E a → Q e a w

section
variable {P : Program} {n : Nat} {ops : Array Oper} {dr : Nat × List Nat} {l : List Oper} {E : Env} {w : World} {K : Env → World → Prop} {Q : Exit → Act → World → Prop}

theorem G_nil (h : K E w) : G P n ops dr [] E w K := fun _ ha => ⟨E, ha, h⟩

theorem G_on {o : Oper} (hg : gval ops E o.guard = some true) (h : G1 P n ops dr o l E w K) : G P n ops dr (o :: l) E w K :=
  fun a ha => h a ha (wanted_of ha hg)

theorem G_off {o : Oper} (hg : gval ops E o.guard = some false) (hd : dstOk n o.dst = true) (h : G P n ops dr l (E.put o.dst undef) w K) : G P n ops dr (o :: l) E w K :=
  fun _ ha => .inl ⟨undef, .inr ⟨wanted_of ha hg, rfl⟩, h _ (ha.put _ _ (dstOk_spec hd))⟩

/-- the slot on which the guard hangs -/
def gslot (ops : Array Oper) : Option (Nat × Bool) → Option Nat
  | none => none
  | some (j, _) => (ops[j]?).bind (·.dst)

/-- a guard that is not decided yet: both ways, the slot known in each -/
theorem G_split {o : Oper} {t : Nat} {b : Bool} (_ht : gslot ops o.guard = some t) (hb : E.get t = some (.bool b))
    (h1 : b = true → G P n ops dr (o :: l) ((t, .bool true) :: E) w K) (h2 : b = false → G P n ops dr (o :: l) ((t, .bool false) :: E) w K) : G P n ops dr (o :: l) E w K := by
  intro a ha
  have key : ∀ c, b = c → Holds n ((t, .bool c) :: E) a := by
    rintro c rfl
    refine ⟨ha.defers, ha.size, fun s v hs => ?_⟩
    rw [Env.get_cons] at hs
    by_cases e : t = s
    · subst e
      simp only [if_true, Option.some.injEq] at hs
      subst hs
      exact ha.get _ _ hb
    · simp only [e, if_false] at hs
      exact ha.get _ _ hs
  cases b with
  | true => exact h1 rfl a (key _ rfl)
  | false => exact h2 rfl a (key _ rfl)

/-- an operation that only computes or reads -/
theorem G1_quiet {o : Oper} (v : Value) (hd : dstOk n o.dst = true) (hv : ∀ a, Holds n E a → ∀ w', (readsM P o = false ∨ ExtS dr.2 w w') → (execOp a.eval o).run P w' = .ok (.value v) w')
    (h : G P n ops dr l (E.put o.dst v) w K) : G1 P n ops dr o l E w K :=
  fun a ha hw => .inl ⟨v, .inl ⟨hw, hv a ha⟩, h _ (ha.put _ _ (dstOk_spec hd))⟩

/-- an operation that makes or turns memory, and runs in one step -/
theorem G1_eff {o : Oper} (v : Value) (w' : World) (he : effects P dr.1 o = true) (hd : dstOk n o.dst = true) (hv : ∀ a, Holds n E a → (execOp a.eval o).run P w = .ok (.value v) w')
    (hx : writes dr.1 o = true ∨ ExtS dr.2 w w') (h : G P n ops dr l (E.put o.dst v) w' K) : G1 P n ops dr o l E w K :=
  fun a ha hw => .inr ⟨he, hw, by unfold stepX Oper.wp; rw [hv a ha]; exact ⟨hx, h _ (ha.put _ _ (dstOk_spec hd))⟩⟩

/-- the same for an operation without a value -/
theorem G1_skip {o : Oper} (w' : World) (he : effects P dr.1 o = true) (hd : dstOk n o.dst = true) (hv : ∀ a, Holds n E a → (execOp a.eval o).run P w = .ok .skip w')
    (hx : writes dr.1 o = true ∨ ExtS dr.2 w w') (h : G P n ops dr l (E.put o.dst undef) w' K) : G1 P n ops dr o l E w K :=
  fun a ha hw => .inr ⟨he, hw, by unfold stepX Oper.wp; rw [hv a ha]; exact ⟨hx, h _ (ha.put _ _ (dstOk_spec hd))⟩⟩

/-- what a contract says: it returns, and what -/
def Ret (Φ : Value → World → Prop) : Ending → World → Prop := fun e w' => ∃ v, e = .returned v ∧ Φ v w'

/-- function f has a body (its call enters it) -/
def Enters (P : Program) (f : FuncId) : Prop := ∃ fn, P.funcs[f]? = some fn ∧ fn.name ≠ "runtime.NumGoroutine" ∧ fn.body.isNone = false

/-- THE FORM OF A CONTRACT -/
def Ctr (P : Program) (f : FuncId) (args : List Value) (w : World) (Φ : Value → World → Prop) : Prop := Enters P f ∧ Calls P f args.toArray w (Ret Φ)

theorem Ctr.calls {f : FuncId} {args : List Value} {Φ : Value → World → Prop} (h : Ctr P f args w Φ) : Calls P f args.toArray w (Ret Φ) := h.2

theorem Ctr.mono {f : FuncId} {args : List Value} {Φ Φ' : Value → World → Prop} (h : Ctr P f args w Φ) (hh : ∀ v w', Φ v w' → Φ' v w') : Ctr P f args w Φ' :=
  ⟨h.1, h.2.mono fun _ _ ⟨v, he, hv⟩ => ⟨v, he, hh _ _ hv⟩⟩

theorem run_callFunc {f : FuncId} (h : Enters P f) (args : Array Value) (w : World) : (callFunc f args).run P w = .ok (.enter f args) w := by
  obtain ⟨fn, hf, hn, hb⟩ := h
  simp only [callFunc, Sem.run_bind, run_program, Result.andThen_ok, hf]
  have hn' : (fn.name == "runtime.NumGoroutine") = false := by simpa using hn
  simp only [hn', hb, Bool.false_eq_true, if_false, Sem.run_pure]

/-- a call of a function, by its contract -/
theorem G1_call {f : FuncId} {d : Option Nat} {args : Array Operand} {tys : Array TypeId} {ty : TypeId} {pos : String} {af : Array Edge} {g : Option (Nat × Bool)} {vs : List Value} {Φ : Value → World → Prop}
    (hargs : E.looks args.toList = some vs) (he : effects P dr.1 ⟨d, .call ⟨.value (.func f), args, tys⟩, ty, pos, af, g⟩ = true) (hd : dstOk n d = true)
    (hc : Ctr P f vs w Φ) (h : ∀ v w', Φ v w' → (writes dr.1 ⟨d, .call ⟨.value (.func f), args, tys⟩, ty, pos, af, g⟩ = true ∨ Ext w w') ∧ G P n ops dr l (E.put d v) w' K) :
    G1 P n ops dr ⟨d, .call ⟨.value (.func f), args, tys⟩, ty, pos, af, g⟩ l E w K := by
  intro a ha hw
  refine .inr ⟨he, hw, ?_⟩
  have hm : args.map a.eval = vs.toArray := by
    rw [← ha.evals hargs]; apply Array.ext'; simp
  unfold stepX Oper.wp
  have : (execOp a.eval ⟨d, .call ⟨.value (.func f), args, tys⟩, ty, pos, af, g⟩).run P w = .ok (.enter f vs.toArray) w := by
    simp [execOp, resolve, Deferred.ofValue, Act.eval, invoke, hm, run_callFunc hc.1]
  rw [this]
  refine Calls.mono hc.2 ?_
  rintro e w' ⟨v, rfl, hv⟩
  exact ⟨(h v w' hv).1.imp id Ext.toS, (h v w' hv).2 _ (ha.put _ _ (dstOk_spec hd))⟩

theorem W_seq {x y : Code} (h : W P n x (Exit.then (y.wp P Q) Q) E w) : W P n (.seq x y) Q E w := fun a ha => wp_seq (h a ha)
theorem W_skip (h : Post n Q .normal E w) : W P n .skip Q E w := fun a ha => wp_skip (h a ha)
theorem W_exit {id : Nat} (h : Post n Q (.exit id) E w) : W P n (.exit id) Q E w := fun a ha => wp_exit (h a ha)
theorem W_ret (h : Post n Q .ret E w) : W P n .ret Q E w := fun a ha => wp_ret (h a ha)
theorem W_block {id : Nat} {c : Code} (h : W P n c (Exit.inBlock id Q) E w) : W P n (.block id c) Q E w := fun a ha => wp_block (h a ha)
theorem W_cond {c : Operand} {x y : Code} {b : Bool} (hc : E.look c = some (.bool b)) (h1 : b = true → W P n x Q E w) (h2 : b = false → W P n y Q E w) : W P n (.cond c x y) Q E w :=
  fun a ha => wp_cond_split (ha.eval hc) (fun h => h1 h a ha) (fun h => h2 h a ha)
theorem W_cond_true {c : Operand} {x y : Code} (hc : E.look c = some (.bool true)) (h : W P n x Q E w) : W P n (.cond c x y) Q E w :=
  fun a ha => wp_cond_true (ha.eval hc) (h a ha)
theorem W_cond_false {c : Operand} {x y : Code} (hc : E.look c = some (.bool false)) (h : W P n y Q E w) : W P n (.cond c x y) Q E w :=
  fun a ha => wp_cond_false (ha.eval hc) (h a ha)

theorem W_region {id : Nat} {l : List Oper} (h : G P n l.toArray (0, []) l E w (Post n Q .normal)) : W P n (.region id l.toArray false) Q E w := by
  intro a ha
  refine wp_region ?_
  have := GA_seq (P := P) (S := []) (ops := l.toArray) (ef := effects P 0) (rd := readsM P) (wr := writes 0) (Q := Q) (K := fun a' w' => ∃ E', Holds n E' a' ∧ Post n Q .normal E' w')
    (fun a _ ⟨_, hE, hp⟩ => hp a hE) l.length 0 l a w rfl (by simp) (h a ha)
  simpa [List.range_eq_range'] using this

theorem W_drawn {id : Nat} {l : List Oper} (k : Nat) (S : List Nat) (c : List Nat) (hm : P.follows .mixedOrders = true)
    (hc : (Region.noSelect l.toArray && okc l.toArray (effects P k) (readsM P) (writes k) c (Array.replicate l.length false) && Nat.beq c.length l.length) = true)
    (h : G P n l.toArray (k, S) (c.map fun i => l.toArray.getD i default) E w.drew (Post n Q .normal)) : W P n (.region id l.toArray true) Q E w := by
  intro a ha
  simp only [Bool.and_eq_true] at hc
  refine wp_region_any hm (wpAny_of_wpX (S := S) (wr := writes k) (K := fun a' w' => ∃ E', Holds n E' a' ∧ Post n Q .normal E' w') (fun a _ ⟨_, hE, hp⟩ => hp a hE) _ _ _ _ ?_)
  have hl : c.length = l.length := by simpa using hc.2
  have := GA_sound (P := P) hc.1.1 c (Array.replicate l.length false) a { w with drawn := w.drawn + 1 } hc.1.2 (h a ha)
  rw [hl] at this
  simpa using this

/-- what is asked at the end of a round -/
def LoopK {ι : Type} (n : Nat) (I : ι → Env) (J : ι → World → Prop) (μ : ι → Nat) (y : ι) : Act → World → Prop := fun a' w' => ∃ z, Holds n (I z) a' ∧ J z w' ∧ μ z < μ y

/-- a loop: ghost state x; the environment and the fact at each round's head -/
theorem W_loop {ι : Type} {c : Code} (I : ι → Env) (J : ι → World → Prop) (μ : ι → Nat) (x : ι) (hE : Env.sub (I x) E) (hJ : J x w)
    (step : ∀ y v, J y v → W P n c (Exit.then (LoopK n I J μ y) Q) (I y) v) : W P n (.loop c) Q E w := by
  intro a ha b k cs
  have key : ∀ m y a w, μ y = m → Holds n (I y) a → J y w →
      ∃ e a' w', Q e a' w' ∧ Arrives P (lone (b.at a (.code c :: .inLoop c :: k)) cs w) b k cs e a' w' := by
    intro m
    induction m using Nat.strongRecOn with
    | _ m ih =>
      intro y a w hm hI hJ
      obtain ⟨e, a₁, w₁, hq, harr⟩ := step y w hJ a hI b (.inLoop c :: k) cs
      cases e with
      | normal =>
        obtain ⟨z, hz, hjz, hlt⟩ := hq
        obtain ⟨e₂, a₂, w₂, hq₂, harr₂⟩ := ih (μ z) (hm ▸ hlt) z a₁ w₁ rfl hz hjz
        exact ⟨e₂, a₂, w₂, hq₂, .of_steps (Steps.trans harr (.one step_inLoop)) harr₂⟩
      | exit id => exact ⟨_, a₁, w₁, hq, .pass (x := .inLoop c) rfl (fun _ _ => .inl (by simp)) harr⟩
      | goto l => exact ⟨_, a₁, w₁, hq, .pass (x := .inLoop c) rfl (fun _ _ => .inl (by simp)) harr⟩
      | ret => exact ⟨_, a₁, w₁, hq, .pass (x := .inLoop c) rfl (fun _ _ => .inl (by simp)) harr⟩
      | panic ch => exact ⟨_, a₁, w₁, hq, .pass (x := .inLoop c) rfl (fun _ _ => .inl (by simp)) harr⟩
      | outgrown => exact ⟨_, a₁, w₁, hq, .pass (x := .inLoop c) rfl (fun _ _ => .inl (by simp)) harr⟩
  obtain ⟨e, a', w', hq, harr⟩ := key _ x a w rfl (ha.sub hE) hJ
  exact ⟨e, a', w', hq, .of_steps (.one step_loop) harr⟩



theorem Post_round {ι : Type} {I : ι → Env} {J : ι → World → Prop} {μ : ι → Nat} {y : ι} (z : ι) (hE : Env.sub (I z) E) (hJ : J z w) (hμ : μ z < μ y) : Post n (Exit.then (LoopK n I J μ y) Q) .normal E w :=
  fun _ ha => ⟨z, ha.sub hE, hJ, hμ⟩
theorem Post_next {y : Code} (h : W P n y Q E w) : Post n (Exit.then (y.wp P Q) Q) .normal E w := h
theorem Post_then_ret {k : Act → World → Prop} (h : Post n Q .ret E w) : Post n (Exit.then k Q) .ret E w := h
theorem Post_then_exit {k : Act → World → Prop} {id : Nat} (h : Post n Q (.exit id) E w) : Post n (Exit.then k Q) (.exit id) E w := h
theorem Post_block_normal {id : Nat} (h : Post n Q .normal E w) : Post n (Exit.inBlock id Q) .normal E w := h
theorem Post_block_ret {id : Nat} (h : Post n Q .ret E w) : Post n (Exit.inBlock id Q) .ret E w := h
theorem Post_block_exit {id : Nat} (h : Post n Q .normal E w) : Post n (Exit.inBlock id Q) (.exit id) E w := fun a ha => by
  simp only [Exit.inBlock, if_true]; exact h a ha
theorem Post_block_other {id id' : Nat} (hne : Nat.beq id' id = false) (h : Post n Q (.exit id') E w) : Post n (Exit.inBlock id Q) (.exit id') E w := fun a ha => by
  have : id' ≠ id := by rintro rfl; simp at hne
  simp only [Exit.inBlock, this, if_false]; exact h a ha

/- functions -/

def argEnv : Nat → List Value → Env
  | _, [] => []
  | k, v :: vs => (k, v) :: argEnv (k + 1) vs

theorem argEnv_get : ∀ (vs : List Value) (k t : Nat) (v : Value), (argEnv k vs).get t = some v → k ≤ t ∧ vs[t - k]? = some v
  | [], k, t, v, h => by simp [argEnv, Env.get] at h
  | u :: vs, k, t, v, h => by
    rw [argEnv, Env.get_cons] at h
    by_cases e : k = t
    · subst e
      simp only [if_true, Option.some.injEq] at h
      subst h
      simp
    · simp only [e, if_false] at h
      obtain ⟨h1, h2⟩ := argEnv_get vs (k + 1) t v h
      refine ⟨by omega, ?_⟩
      obtain ⟨m, rfl⟩ : ∃ m, t = k + 1 + m := ⟨t - (k + 1), by omega⟩
      have e1 : k + 1 + m - (k + 1) = m := by omega
      have e2 : k + 1 + m - k = m + 1 := by omega
      rw [e1] at h2
      rw [e2]
      simpa using h2

theorem Ctr_of {f : FuncId} {fn : Func} {c : Code} {args : List Value} {Φ : Value → World → Prop} {m : Nat} (hf : P.funcs[f]? = some fn) (hm : fn.ntmps = m) (hb : fn.body = some c)
    (hname : (fn.name == "runtime.NumGoroutine") = false) (hn : Nat.ble args.length m = true) (h : W P m c (bodyPost P fn (Ret Φ)) (argEnv 0 args) w) : Ctr P f args w Φ := by
  refine ⟨⟨fn, hf, by simpa using hname, by simp [hb]⟩, ?_⟩
  refine calls_of_wp hf hb (h _ ⟨rfl, ?_, fun t v ht => ?_⟩)
  · have := Nat.le_of_ble_eq_true hn
    simp [hm]; omega
  · obtain ⟨_, h2⟩ := argEnv_get args 0 t v ht
    simp only [Nat.sub_zero] at h2
    have hlt : t < args.length := by
      rcases Nat.lt_or_ge t args.length with h | h
      · exact h
      · rw [List.getElem?_eq_none h] at h2; cases h2
    rw [Array.getElem?_append_left (by simpa using hlt)]
    simpa using h2

/-- the results as they stand in slots or in memory -/
def ResOk (P : Program) (E : Env) (w : World) : List ResultVar → List Value → Prop
  | [], vs => vs = []
  | .tmp t :: rs, vs => ∃ v us, vs = v :: us ∧ E.get t = some v ∧ ResOk P E w rs us
  | .cell a t :: rs, vs => ∃ v us p, vs = v :: us ∧ E.get a = some (.pointer (some p)) ∧ (loadVar t p).run P w = .ok v w ∧ ResOk P E w rs us

def resVal : List Value → Value
  | [v] => v
  | vs => .tuple vs.toArray

def resOne (tmps : Array Value) : ResultVar → Sem Value
  | .tmp t => pure (tmps.getD t undef)
  | .cell x t => asAddr (tmps.getD x undef) >>= loadVar t

theorem results_eq (fn : Func) (tmps : Array Value) : results fn tmps = (fn.results.mapM (resOne tmps) >>= fun vs => pure (if h : vs.size = 1 then vs[0] else .tuple vs)) := by
  rfl

theorem ResOk.run {a : Act} (ha : Holds n E a) : ∀ {rs : List ResultVar} {vs : List Value}, ResOk P E w rs vs → (rs.mapM (resOne a.tmps) : Sem (List Value)).run P w = .ok vs w
  | [], vs, h => by simp only [ResOk] at h; subst h; rfl
  | .tmp t :: rs, vs, h => by
    obtain ⟨v, us, rfl, h1, h2⟩ := h
    have e : a.tmps.getD t undef = v := by simp [ha.get t v h1]
    simp only [List.mapM_cons, Sem.run_bind, resOne, e, Sem.run_pure, Result.andThen_ok, ResOk.run ha h2]
  | .cell x t :: rs, vs, h => by
    obtain ⟨v, us, p, rfl, h1, h2, h3⟩ := h
    have e : a.tmps.getD x undef = .pointer (some p) := by simp [ha.get x _ h1]
    have e2 : asAddr (.pointer (some p)) = pure p := rfl
    simp only [List.mapM_cons, Sem.run_bind, resOne, e, e2, Sem.run_pure, Result.andThen_ok, h2, ResOk.run ha h3]

theorem Post_ret {fn : Func} {rs : List ResultVar} {vs : List Value} {Φ : Value → World → Prop} (hr : fn.results = rs.toArray) (h : ResOk P E w rs vs) (hΦ : Φ (resVal vs) w) : Post n (bodyPost P fn (Ret Φ)) .ret E w := by
  intro a ha
  refine ⟨ha.defers, resVal vs, ?_, _, rfl, hΦ⟩
  have := ResOk.run (P := P) (w := w) ha h
  simp only [results_eq, hr, List.mapM_toArray, Sem.run_bind, Sem.run_map, this, Result.andThen_ok, Sem.run_pure]
  cases vs with
  | nil => rfl
  | cons v us => cases us with
    | nil => rfl
    | cons u us => simp [resVal]

/-- forget slots -/
theorem W_keep {c : Code} (E' : Env) (hs : Env.sub E' E) (h : W P n c Q E' w) : W P n c Q E w := fun a ha => h a (ha.sub hs)

theorem W_cond_dec {c : Operand} {x y : Code} {p : Prop} {inst : Decidable p} (hc : E.look c = some (.bool (@decide p inst))) (h1 : p → W P n x Q E w) (h2 : ¬ p → W P n y Q E w) : W P n (.cond c x y) Q E w :=
  W_cond hc (fun h => h1 (of_decide_eq_true h)) (fun h => h2 (of_decide_eq_false h))
theorem G_split_dec {o : Oper} {t : Nat} {p : Prop} {inst : Decidable p} (ht : gslot ops o.guard = some t) (hb : E.get t = some (.bool (@decide p inst)))
    (h1 : p → G P n ops dr (o :: l) ((t, .bool true) :: E) w K) (h2 : ¬ p → G P n ops dr (o :: l) ((t, .bool false) :: E) w K) : G P n ops dr (o :: l) E w K :=
  G_split ht hb (fun h => h1 (of_decide_eq_true h)) (fun h => h2 (of_decide_eq_false h))

end
attribute [irreducible] G G1 W Post Ctr LoopK
end Go.V

/- Rules for the operations, one each. -/

namespace Go.V
open Go.RowKit

/- types, as the program's tables have them -/
def IntT (P : Program) (t : TypeId) (k : IntKind) : Prop := P.underlying t = some (.int k)
def SliceT (P : Program) (t e sz by_ : Nat) : Prop :=
  P.underlying t = some (.slice e) ∧ ∃ i z, P.info? e = some i ∧ i.size = sz ∧ i.bytes = by_ ∧ i.zero = some z ∧ z.cells.size = sz
def PlainT (P : Program) (t : TypeId) : Prop := ∀ w, (isAgg t).run P w = .ok false w
def AggT (P : Program) (t sz : Nat) : Prop := (∀ w, (isAgg t).run P w = .ok true w) ∧ ∃ i, P.info? t = some i ∧ i.size = sz
def SizeT (P : Program) (t sz : Nat) : Prop := ∃ i, P.info? t = some i ∧ i.size = sz
def StrT (P : Program) (t : TypeId) : Prop := P.underlying t = some .string
/-- field k of struct type t lies at cell off, and is of one cell (no struct, no array) -/
def FieldT (P : Program) (t k off : Nat) : Prop := ∃ fs f, P.underlying t = some (.struct fs) ∧ fs[k]? = some f ∧ f.offset = off ∧ ∃ i, P.info? f.type = some i ∧ i.size ≠ 0

theorem SliceT.of {P : Program} {t e sz by_ : Nat} (h1 : P.underlying t = some (.slice e)) (h2 : (P.info? e).map (fun i => (i.size, i.bytes, i.zero.map (·.cells.size))) = some (sz, by_, some sz)) : SliceT P t e sz by_ := by
  refine ⟨h1, ?_⟩
  cases hi : P.info? e with
  | none => simp [hi] at h2
  | some i =>
    simp only [hi, Option.map_some, Option.some.injEq, Prod.mk.injEq] at h2
    obtain ⟨a, b, c⟩ := h2
    cases hz : i.zero with
    | none => simp [hz] at c
    | some z => simp only [hz, Option.map_some, Option.some.injEq] at c; exact ⟨i, z, rfl, a, b, hz, c⟩

theorem PlainT.of {P : Program} {t : TypeId} {d : TypeDesc} (h : P.underlying t = some d) (hd : (match d with | .struct _ => false | .array _ _ => false | _ => true) = true) : PlainT P t := by
  intro w
  unfold isAgg
  simp only [Sem.run_bind, run_underlying h, Result.andThen_ok]
  cases d <;> simp_all

theorem AggT.of {P : Program} {t sz : Nat} {d : TypeDesc} (h : P.underlying t = some d) (hd : (match d with | .struct _ => true | .array _ _ => true | _ => false) = true) (hs : (P.info? t).map (·.size) = some sz) : AggT P t sz := by
  refine ⟨fun w => ?_, ?_⟩
  · unfold isAgg
    simp only [Sem.run_bind, run_underlying h, Result.andThen_ok]
    cases d <;> simp_all
  · cases hi : P.info? t with
    | none => simp [hi] at hs
    | some i => exact ⟨i, by first | rfl | exact hi, by simpa [hi] using hs⟩

theorem SizeT.of {P : Program} {t sz : Nat} (hs : (P.info? t).map (·.size) = some sz) : SizeT P t sz := by
  cases hi : P.info? t with
  | none => simp [hi] at hs
  | some i => exact ⟨i, by first | rfl | exact hi, by simpa [hi] using hs⟩

def fieldOf (P : Program) (t k : Nat) : Option (Nat × Bool) :=
  match P.underlying t with
  | some (.struct fs) => match fs[k]? with
    | some f => match P.info? f.type with
      | some i => some (f.offset, i.size != 0)
      | none => none
    | none => none
  | _ => none

theorem FieldT.of {P : Program} {t k off : Nat} (h : fieldOf P t k = some (off, true)) : FieldT P t k off := by
  unfold fieldOf at h
  split at h
  · rename_i fs h1
    split at h
    · rename_i f h2
      split at h
      · rename_i i h3
        simp at h
        exact ⟨fs, f, h1, h2, h.1, i, h3, h.2⟩
      · simp at h
    · simp at h
  · simp at h

/- strings -/
def blt (s t : ByteArray) : Bool := Op.bytesLess s.data.toList t.data.toList
def bget (s : ByteArray) (i : Nat) : UInt8 := s.data.getD i 0

theorem toList_data (s : ByteArray) : s.toList = s.data.toList := by simp [ByteArray.toList_eq]

theorem str_eq (s t : ByteArray) : (s.toList == t.toList) = decide (s = t) := by
  rw [Bool.eq_iff_iff]
  simp only [toList_data, beq_iff_eq, decide_eq_true_eq]
  constructor
  · intro h; cases s; cases t; simp_all
  · rintro rfl; rfl

def adr (p : Option Addr) (k : Nat) : Addr := match p with
  | some a => ⟨a.block, a.off + k, none⟩
  | none => ⟨0, k, none⟩

theorem addr_add (b o k : Nat) : (⟨b, o, none⟩ : Addr).add k = ⟨b, o + k, none⟩ := by
  unfold Addr.add; split <;> simp_all

theorem wrap_i64 {n : Int} (h1 : -9223372036854775808 ≤ n) (h2 : n ≤ 9223372036854775807) : IntKind.i64.wrap n = n := IntWalk.i64_in n ⟨h1, h2⟩
theorem wrap_u8 {n : Int} (h1 : 0 ≤ n) (h2 : n ≤ 255) : IntKind.u8.wrap n = n := IntWalk.u8_in n ⟨h1, h2⟩
theorem wrap_u64 {n : Int} (h1 : 0 ≤ n) (h2 : n ≤ 18446744073709551615) : IntKind.u64.wrap n = n := IntWalk.u64_in n ⟨h1, h2⟩

section
variable {P : Program} {n : Nat} {ops : Array Oper} {dr : Nat × List Nat} {l : List Oper} {E : Env} {w : World} {K : Env → World → Prop}
variable {d : Option Nat} {ty : TypeId} {pos : String} {af : Array Edge} {g : Option (Nat × Bool)} {x y c : Operand} {k k' k2 : IntKind} {i j m : Int} {t t' t2 : TypeId} {v v2 : Value}

theorem G1_move (hx : E.look x = some v) (hd : dstOk n d = true) (h : G P n ops dr l (E.put d v) w K) : G1 P n ops dr ⟨d, .move x, ty, pos, af, g⟩ l E w K :=
  G1_quiet v hd (fun a ha w' _ => by simp [execOp, ha.eval hx]) h
theorem G1_assign (hx : E.look x = some v) (hd : dstOk n d = true) (h : G P n ops dr l (E.put d v) w K) : G1 P n ops dr ⟨d, .assign x, ty, pos, af, g⟩ l E w K :=
  G1_quiet v hd (fun a ha w' _ => by simp [execOp, ha.eval hx]) h
theorem G1_pick_t (hc : E.look c = some (.bool true)) (hx : E.look x = some v) (hd : dstOk n d = true) (h : G P n ops dr l (E.put d v) w K) : G1 P n ops dr ⟨d, .pick c x y, ty, pos, af, g⟩ l E w K :=
  G1_quiet v hd (fun a ha w' _ => by simp [execOp, ha.eval hx, ha.eval hc, asBool]) h
theorem G1_pick_f (hc : E.look c = some (.bool false)) (hx : E.look y = some v) (hd : dstOk n d = true) (h : G P n ops dr l (E.put d v) w K) : G1 P n ops dr ⟨d, .pick c x y, ty, pos, af, g⟩ l E w K :=
  G1_quiet v hd (fun a ha w' _ => by simp [execOp, ha.eval hx, ha.eval hc, asBool]) h

/- integers -/
theorem G1_eql (hx : E.look x = some (.int k i)) (hy : E.look y = some (.int k j)) (hd : dstOk n d = true) (h : G P n ops dr l (E.put d (.bool (decide (i = j)))) w K) : G1 P n ops dr ⟨d, .binOp .eql t x y t', ty, pos, af, g⟩ l E w K :=
  G1_quiet _ hd (fun a ha w' _ => by simp [execOp, ha.eval hx, ha.eval hy, eqGuard, binOp, Op.intCmp]; rfl) h
theorem G1_neq (hx : E.look x = some (.int k i)) (hy : E.look y = some (.int k j)) (hd : dstOk n d = true) (h : G P n ops dr l (E.put d (.bool (decide (¬ i = j)))) w K) : G1 P n ops dr ⟨d, .binOp .neq t x y t', ty, pos, af, g⟩ l E w K :=
  G1_quiet _ hd (fun a ha w' _ => by simp [execOp, ha.eval hx, ha.eval hy, eqGuard, binOp, Op.intCmp]; rfl) h
theorem G1_lss (hx : E.look x = some (.int k i)) (hy : E.look y = some (.int k j)) (hd : dstOk n d = true) (h : G P n ops dr l (E.put d (.bool (decide (i < j)))) w K) : G1 P n ops dr ⟨d, .binOp .lss t x y t', ty, pos, af, g⟩ l E w K :=
  G1_quiet _ hd (fun a ha w' _ => by simp [execOp, ha.eval hx, ha.eval hy, eqGuard, binOp, Op.intCmp]) h
theorem G1_gtr (hx : E.look x = some (.int k i)) (hy : E.look y = some (.int k j)) (hd : dstOk n d = true) (h : G P n ops dr l (E.put d (.bool (decide (j < i)))) w K) : G1 P n ops dr ⟨d, .binOp .gtr t x y t', ty, pos, af, g⟩ l E w K :=
  G1_quiet _ hd (fun a ha w' _ => by simp [execOp, ha.eval hx, ha.eval hy, eqGuard, binOp, Op.intCmp]) h
theorem G1_geq (hx : E.look x = some (.int k i)) (hy : E.look y = some (.int k j)) (hd : dstOk n d = true) (h : G P n ops dr l (E.put d (.bool (decide (j ≤ i)))) w K) : G1 P n ops dr ⟨d, .binOp .geq t x y t', ty, pos, af, g⟩ l E w K :=
  G1_quiet _ hd (fun a ha w' _ => by simp [execOp, ha.eval hx, ha.eval hy, eqGuard, binOp, Op.intCmp]) h
theorem G1_add (hx : E.look x = some (.int .i64 i)) (hy : E.look y = some (.int .i64 j)) (h1 : -9223372036854775808 ≤ i + j) (h2 : i + j ≤ 9223372036854775807) (hd : dstOk n d = true)
    (h : G P n ops dr l (E.put d (.int .i64 (i + j))) w K) : G1 P n ops dr ⟨d, .binOp .add t x y t', ty, pos, af, g⟩ l E w K :=
  G1_quiet _ hd (fun a ha w' _ => by simp [execOp, ha.eval hx, ha.eval hy, eqGuard, binOp, Op.intArith, wrap_i64 h1 h2]) h
theorem G1_sub (hx : E.look x = some (.int .i64 i)) (hy : E.look y = some (.int .i64 j)) (h1 : -9223372036854775808 ≤ i - j) (h2 : i - j ≤ 9223372036854775807) (hd : dstOk n d = true)
    (h : G P n ops dr l (E.put d (.int .i64 (i - j))) w K) : G1 P n ops dr ⟨d, .binOp .sub t x y t', ty, pos, af, g⟩ l E w K :=
  G1_quiet _ hd (fun a ha w' _ => by simp [execOp, ha.eval hx, ha.eval hy, eqGuard, binOp, Op.intArith, wrap_i64 h1 h2]) h
theorem G1_addw (hx : E.look x = some (.int k i)) (hy : E.look y = some (.int k j)) (hd : dstOk n d = true)
    (h : G P n ops dr l (E.put d (.int k (k.wrap (i + j)))) w K) : G1 P n ops dr ⟨d, .binOp .add t x y t', ty, pos, af, g⟩ l E w K :=
  G1_quiet _ hd (fun a ha w' _ => by simp [execOp, ha.eval hx, ha.eval hy, eqGuard, binOp, Op.intArith]) h
theorem G1_subw (hx : E.look x = some (.int k i)) (hy : E.look y = some (.int k j)) (hd : dstOk n d = true)
    (h : G P n ops dr l (E.put d (.int k (k.wrap (i - j)))) w K) : G1 P n ops dr ⟨d, .binOp .sub t x y t', ty, pos, af, g⟩ l E w K :=
  G1_quiet _ hd (fun a ha w' _ => by simp [execOp, ha.eval hx, ha.eval hy, eqGuard, binOp, Op.intArith]) h
theorem G1_mulw (hx : E.look x = some (.int k i)) (hy : E.look y = some (.int k j)) (hd : dstOk n d = true)
    (h : G P n ops dr l (E.put d (.int k (k.wrap (i * j)))) w K) : G1 P n ops dr ⟨d, .binOp .mul t x y t', ty, pos, af, g⟩ l E w K :=
  G1_quiet _ hd (fun a ha w' _ => by simp [execOp, ha.eval hx, ha.eval hy, eqGuard, binOp, Op.intArith]) h
theorem G1_quo (hx : E.look x = some (.int k i)) (hy : E.look y = some (.int k j)) (h0 : j ≠ 0) (hd : dstOk n d = true)
    (h : G P n ops dr l (E.put d (.int k (k.wrap (i.tdiv j)))) w K) : G1 P n ops dr ⟨d, .binOp .quo t x y t', ty, pos, af, g⟩ l E w K :=
  G1_quiet _ hd (fun a ha w' _ => by simp [execOp, ha.eval hx, ha.eval hy, eqGuard, binOp, Op.intDiv, h0]) h
theorem G1_rem (hx : E.look x = some (.int k i)) (hy : E.look y = some (.int k j)) (h0 : j ≠ 0) (hd : dstOk n d = true)
    (h : G P n ops dr l (E.put d (.int k (i.tmod j))) w K) : G1 P n ops dr ⟨d, .binOp .rem t x y t', ty, pos, af, g⟩ l E w K :=
  G1_quiet _ hd (fun a ha w' _ => by simp [execOp, ha.eval hx, ha.eval hy, eqGuard, binOp, Op.intDiv, h0]) h
theorem G1_shl (hx : E.look x = some (.int k i)) (hy : E.look y = some (.int k' j)) (h0 : 0 ≤ j) (hd : dstOk n d = true)
    (h : G P n ops dr l (E.put d (.int k (k.wrap (i * 2 ^ min j.toNat k.bits)))) w K) : G1 P n ops dr ⟨d, .binOp .shl t x y t', ty, pos, af, g⟩ l E w K :=
  G1_quiet _ hd (fun a ha w' _ => by simp [execOp, ha.eval hx, ha.eval hy, eqGuard, binOp, Op.shift, Int.not_lt.2 h0]) h
theorem G1_neg (hx : E.look x = some (.int k i)) (hd : dstOk n d = true) (h : G P n ops dr l (E.put d (.int k (k.wrap (0 - i)))) w K) : G1 P n ops dr ⟨d, .unOp .neg t x, ty, pos, af, g⟩ l E w K :=
  G1_quiet _ hd (fun a ha w' _ => by simp [execOp, ha.eval hx, Op.unary, Op.intArith]) h
theorem G1_max (hx : E.look x = some (.int k i)) (hy : E.look y = some (.int k j)) (hd : dstOk n d = true) (h : G P n ops dr l (E.put d (.int k (max i j))) w K) : G1 P n ops dr ⟨d, .call ⟨.builtin .max, #[x, y], #[t, t']⟩, ty, pos, af, g⟩ l E w K :=
  G1_quiet _ hd (fun a ha w' _ => by
    have : max i j = if i < j then j else i := by split <;> omega
    simp [execOp, resolve, invoke, builtin, Builtin.max_, ha.eval hx, ha.eval hy, Builtin.max2, this]) h
theorem G1_conv (hx : E.look x = some (.int k i)) (hs : IntT P t k2) (ht : IntT P t' k') (hd : dstOk n d = true) (h : G P n ops dr l (E.put d (.int k' (k'.wrap i))) w K) : G1 P n ops dr ⟨d, .convert t t' x, ty, pos, af, g⟩ l E w K :=
  G1_quiet _ hd (fun a ha w' _ => by simp [execOp, convert, ha.eval hx, run_underlying (P := P) hs, run_underlying (P := P) ht, Conv.intToInt]) h

/- truth values -/
theorem G1_not_dec {p : Prop} {inst : Decidable p} (hx : E.look x = some (.bool (@decide p inst))) (hd : dstOk n d = true) (h : G P n ops dr l (E.put d (.bool (decide (¬ p)))) w K) : G1 P n ops dr ⟨d, .unOp .not t x, ty, pos, af, g⟩ l E w K :=
  G1_quiet _ hd (fun a ha w' _ => by simp [execOp, ha.eval hx, Op.unary]) h
theorem G1_not_t (hx : E.look x = some (.bool true)) (hd : dstOk n d = true) (h : G P n ops dr l (E.put d (.bool false)) w K) : G1 P n ops dr ⟨d, .unOp .not t x, ty, pos, af, g⟩ l E w K :=
  G1_quiet _ hd (fun a ha w' _ => by simp [execOp, ha.eval hx, Op.unary]) h
theorem G1_not_f (hx : E.look x = some (.bool false)) (hd : dstOk n d = true) (h : G P n ops dr l (E.put d (.bool true)) w K) : G1 P n ops dr ⟨d, .unOp .not t x, ty, pos, af, g⟩ l E w K :=
  G1_quiet _ hd (fun a ha w' _ => by simp [execOp, ha.eval hx, Op.unary]) h
theorem G1_not {b : Bool} (hx : E.look x = some (.bool b)) (hd : dstOk n d = true) (h : G P n ops dr l (E.put d (.bool (!b))) w K) : G1 P n ops dr ⟨d, .unOp .not t x, ty, pos, af, g⟩ l E w K :=
  G1_quiet _ hd (fun a ha w' _ => by simp [execOp, ha.eval hx, Op.unary]) h
theorem G1_seql {s u : ByteArray} (hx : E.look x = some (.string s)) (hy : E.look y = some (.string u)) (hd : dstOk n d = true) (h : G P n ops dr l (E.put d (.bool (decide (s = u)))) w K) : G1 P n ops dr ⟨d, .binOp .eql t x y t', ty, pos, af, g⟩ l E w K :=
  G1_quiet _ hd (fun a ha w' _ => by simp only [execOp, ha.eval hx, ha.eval hy, eqGuard, binOp, Op.stringOp, str_eq]; rfl) h
theorem G1_sneq {s u : ByteArray} (hx : E.look x = some (.string s)) (hy : E.look y = some (.string u)) (hd : dstOk n d = true) (h : G P n ops dr l (E.put d (.bool (decide (¬ s = u)))) w K) : G1 P n ops dr ⟨d, .binOp .neq t x y t', ty, pos, af, g⟩ l E w K :=
  G1_quiet _ hd (fun a ha w' _ => by simp only [execOp, ha.eval hx, ha.eval hy, eqGuard, binOp, Op.stringOp, str_eq, decide_not]; rfl) h
theorem G1_sadd {s u : ByteArray} (hx : E.look x = some (.string s)) (hy : E.look y = some (.string u)) (hl : s.size + u.size ≤ 9223372036854775807) (hd : dstOk n d = true) (h : G P n ops dr l (E.put d (.string (s ++ u))) w K) : G1 P n ops dr ⟨d, .binOp .add t x y t', ty, pos, af, g⟩ l E w K :=
  G1_quiet _ hd (fun a ha w' _ => by
    have : ¬ ((s.size + u.size : Nat) : Int) > IntKind.i64.max := by have e : IntKind.i64.max = 9223372036854775807 := by decide
                                                                     rw [e]; omega
    simp only [execOp, ha.eval hx, ha.eval hy, eqGuard, binOp, Op.stringOp, this, if_false]; rfl) h
theorem G1_slen {s : ByteArray} (hu : StrT P t) (hx : E.look x = some (.string s)) (hd : dstOk n d = true) (h : G P n ops dr l (E.put d (.int .i64 s.size)) w K) : G1 P n ops dr ⟨d, .call ⟨.builtin .len, #[x], #[t]⟩, ty, pos, af, g⟩ l E w K :=
  G1_quiet _ hd (fun a ha w' _ => by simp [execOp, resolve, invoke, builtin, Builtin.len_, ha.eval hx, run_underlying (P := P) hu, goInt]) h
theorem G1_sindex {s : ByteArray} (hu : StrT P t) (hx : E.look x = some (.string s)) (hy : E.look y = some (.int k i)) (h0 : 0 ≤ i) (h1 : i < s.size) (hd : dstOk n d = true)
    (h : G P n ops dr l (E.put d (.int .u8 (bget s i.toNat).toNat)) w K) : G1 P n ops dr ⟨d, .index t x y, ty, pos, af, g⟩ l E w K :=
  G1_quiet _ hd (fun a ha w' _ => by
    have hlt : i.toNat < s.size := by omega
    have e : s[i.toNat]? = some (bget s i.toNat) := by
      rw [getElem?_pos s i.toNat hlt]
      have hlt' : i.toNat < s.data.size := hlt
      simp only [bget, Array.getD, hlt', dite_true]; rfl
    simp [execOp, Instr.index, ha.eval hx, ha.eval hy, asIntOf, run_underlying (P := P) hu, h0, e]) h

/- functions, tuples -/
theorem G1_extract {vs : Array Value} {q : Nat} (hx : E.look x = some (.tuple vs)) (hv : vs[q]? = some v) (hd : dstOk n d = true) (h : G P n ops dr l (E.put d v) w K) : G1 P n ops dr ⟨d, .extract x q, ty, pos, af, g⟩ l E w K :=
  G1_quiet _ hd (fun a ha w' _ => by simp [execOp, Instr.extract, ha.eval hx, hv]) h
end
end Go.V

/- Memory: slices that read as lists, rows of the call's own, boxes; the rules for the operations on them. -/

namespace Go.V
open Go.RowKit

def hcell (H : Array Obj) (a : Addr) : Option Value :=
  match H[a.block]? with
  | some (.cells c _ _) => if a.spot.isSome then none else c[a.off]?
  | _ => none

theorem cell_eq (w : World) (a : Addr) : w.cell? a = hcell w.heap a := rfl

theorem hcell_block {H H' : Array Obj} {a : Addr} (h : H'[a.block]? = H[a.block]?) : hcell H' a = hcell H a := by simp [hcell, h]

theorem hcell_lt {H : Array Obj} {a : Addr} {v : Value} (h : hcell H a = some v) : a.block < H.size := by
  rcases Nat.lt_or_ge a.block H.size with h' | h'
  · exact h'
  · simp [hcell, Array.getElem?_eq_none h'] at h

theorem Ext.cell {w w' : World} (h : Ext w w') {a : Addr} {v : Value} (hc : hcell w.heap a = some v) : hcell w'.heap a = some v := by
  rw [hcell_block (h.block _ (hcell_lt hc))]; exact hc
theorem Ext.blk {w w' : World} (h : Ext w w') {b : Nat} {o : Obj} (hc : w.heap[b]? = some o) : w'.heap[b]? = some o := by
  rw [h.block _ (Array.getElem?_eq_some_iff.1 hc).1]; exact hc
theorem Ext.grown {w w' : World} (h : Ext w w') (row : Option Nat) : w.grownBy w' row := ⟨h.os, h.tape, h.output, h.size, fun k hk _ => h.block k hk⟩
theorem Ext.drew {w w' : World} (h : Ext w w') : Ext w w'.drew := Below.drew h
theorem Ext.alloc {w w' : World} (h : Ext w w') (o : Obj) : Ext w (w'.alloc o) := Below.alloc h h.size o

/-- a kind of element: how it lies in cells -/
structure Enc (α : Type) where
  sz : Nat
  enc : α → List Value
  len : ∀ x, (enc x).length = sz
  one : ∀ x, ∀ v ∈ enc x, v.oneCell' = true
  pos : 0 < sz

/-- a slice value's address, length, capacity are in order -/
structure Okp (p : Option Addr) (n c : Nat) : Prop where
  le : n ≤ c
  cap : c ≤ maxLen
  nul : p = none → c = 0
  spot : ∀ a, p = some a → 0 < c → a.spot = none

/-- the slice at p with capacity c holds the elements xs -/
structure Sl {α : Type} (H : Array Obj) (e : Enc α) (p : Option Addr) (c : Nat) (xs : List α) : Prop where
  ok : Okp p xs.length c
  cell : ∀ i x, xs[i]? = some x → ∀ k v, (e.enc x)[k]? = some v → hcell H (adr p (i * e.sz + k)) = some v

section
variable {α : Type} {e : Enc α} {p : Option Addr} {c : Nat} {xs : List α} {H H' : Array Obj} {w w' : World}

theorem Sl.bound (h : Sl H e p c xs) : xs.length ≤ 9223372036854775807 := by
  have h1 := h.ok.le; have h2 := h.ok.cap; simp only [maxLen] at h2; omega

theorem Sl.ext (h : Sl w.heap e p c xs) (hx : Ext w w') : Sl w'.heap e p c xs := ⟨h.ok, fun i x hi k v hv => hx.cell (h.cell i x hi k v hv)⟩

theorem Sl.grown (h : Sl w.heap e p c xs) {row : Option Nat} (hg : w.grownBy w' row) (hne : ∀ a, p = some a → xs ≠ [] → row ≠ some a.block) : Sl w'.heap e p c xs := by
  refine ⟨h.ok, fun i x hi k v hv => ?_⟩
  have hc := h.cell i x hi k v hv
  have hx : xs ≠ [] := by rintro rfl; simp at hi
  cases p with
  | none =>
    have := h.ok.nul rfl
    have h1 := h.ok.le
    have : xs.length ≠ 0 := by cases xs <;> simp_all
    omega
  | some a =>
    rw [hcell_block (hg.block _ (hcell_lt hc) (fun e => hne a rfl hx e.symm))]
    exact hc

theorem Sl.nil : Sl H e none 0 [] := ⟨⟨Nat.le_refl _, Nat.zero_le _, fun _ => rfl, fun _ h _ => by cases h⟩, fun i x hi => by simp at hi⟩

theorem Sl.take (h : Sl H e p c xs) (m : Nat) : Sl H e p c (xs.take m) :=
  ⟨⟨Nat.le_trans (by simp; omega) h.ok.le, h.ok.cap, h.ok.nul, h.ok.spot⟩, fun i x hi => h.cell i x (by
    rw [List.getElem?_take] at hi
    split at hi
    · exact hi
    · cases hi)⟩

/-- where a slice lies that is cut at l -/
def subp (p : Option Addr) (c l sz : Nat) : Option Addr := if c = l then p else p.map (·.add (l * sz))

theorem Sl.drop (h : Sl H e p c xs) {l : Nat} (hl : l ≤ c) : Sl H e (subp p c l e.sz) (c - l) (xs.drop l) := by
  have h1 := h.ok.le
  refine ⟨⟨by simp; omega, Nat.le_trans (Nat.sub_le _ _) h.ok.cap, fun hn => ?_, fun a ha hpos => ?_⟩, fun i x hi k v hv => ?_⟩
  · unfold subp at hn
    split at hn
    · omega
    · cases p with
      | none => have := h.ok.nul rfl; omega
      | some a => simp at hn
  · unfold subp at ha
    split at ha
    · omega
    · cases p with
      | none => simp at ha
      | some q =>
        simp only [Option.map_some, Option.some.injEq] at ha
        subst ha
        have := h.ok.spot q rfl (by omega)
        unfold Addr.add; split
        · exact this
        · rfl
  · rw [List.getElem?_drop] at hi
    have hc := h.cell (l + i) x hi k v hv
    have hlt : l + i < xs.length := (List.getElem?_eq_some_iff.1 hi).1
    unfold subp
    rw [if_neg (by omega)]
    cases p with
    | none => have := h.ok.nul rfl; omega
    | some a =>
      have hs := h.ok.spot a rfl (by omega)
      have e1 : adr (Option.map (fun x => Addr.add x (l * e.sz)) (some a)) (i * e.sz + k) = adr (some a) ((l + i) * e.sz + k) := by
        simp only [Option.map_some, adr, Addr.add]
        split
        · rename_i h0; simp [Nat.add_mul, h0]
        · simp [Nat.add_mul]; omega
      rw [e1]; exact hc

theorem Okp.at {n : Nat} (h : Okp p n c) (hn : 0 < n) : ∃ b o, p = some ⟨b, o, none⟩ := by
  have h1 := h.le
  cases p with
  | none => have := h.nul rfl; omega
  | some a =>
    have := h.spot a rfl (by omega)
    obtain ⟨b, o, s⟩ := a
    simp at this
    exact ⟨b, o, by rw [this]⟩

/-- a row of the call's own, from block B on: the slice at p with capacity c, of element type T, holds xs -/
def Own (w : World) (B T : Nat) (e : Enc α) (p : Option Addr) (c : Nat) (xs : List α) : Prop := w.ownsRow B T e.sz (.slice p xs.length c) xs.length (xs.flatMap e.enc)

theorem flat_get (e : Enc α) : ∀ (xs : List α) (i k : Nat) (x : α) (v : Value), xs[i]? = some x → (e.enc x)[k]? = some v → (xs.flatMap e.enc)[i * e.sz + k]? = some v
  | [], i, k, x, v, h, _ => by simp at h
  | y :: ys, 0, k, x, v, h, hv => by
    simp at h; subst h
    rw [List.flatMap_cons, List.getElem?_append_left (by have := (List.getElem?_eq_some_iff.1 hv).1; simpa using this)]
    simpa using hv
  | y :: ys, i + 1, k, x, v, h, hv => by
    simp at h
    rw [List.flatMap_cons, List.getElem?_append_right (by rw [e.len, Nat.add_mul]; omega), e.len]
    have := flat_get e ys i k x v h hv
    rw [← this]; congr 1; rw [Nat.add_mul]; omega

theorem flat_len (e : Enc α) : ∀ xs : List α, (xs.flatMap e.enc).length = xs.length * e.sz
  | [] => by simp
  | x :: xs => by rw [List.flatMap_cons, List.length_append, e.len, flat_len e xs, List.length_cons, Nat.add_mul]; omega

theorem flat_one (e : Enc α) (xs : List α) : ∀ v ∈ xs.flatMap e.enc, v.oneCell' = true := by
  intro v hv
  obtain ⟨x, _, hx⟩ := List.mem_flatMap.1 hv
  exact e.one x v hx

theorem Own.nil (w : World) (B T : Nat) (e : Enc α) : Own w B T e none 0 [] := World.ownsRow_nil w B T e.sz

theorem Own.sl {B T : Nat} (h : Own w B T e p c xs) : Sl w.heap e p c xs := by
  obtain ⟨hl, h⟩ := h
  rcases h with ⟨hv, hn⟩ | ⟨g, cap, cur, hv, hb, hg, hnc, hcm, hcs, htake⟩
  · injection hv with h1 h2 h3
    subst h1 h3
    obtain rfl : xs = [] := List.eq_nil_of_length_eq_zero hn
    exact Sl.nil
  · injection hv with h1 h2 h3
    subst h1 h3
    refine ⟨⟨hnc, hcm, (fun h => by cases h), (fun a ha _ => by simp at ha; rw [← ha])⟩, fun i x hi k v hv => ?_⟩
    have hf := flat_get e xs i k x v hi hv
    rw [← htake, List.getElem?_take] at hf
    split at hf
    · simp only [hcell, adr, hg, Option.isSome_none, Bool.false_eq_true, if_false, Nat.zero_add]
      simpa using hf
    · cases hf

theorem Own.kept {B T : Nat} {row : Option Nat} (h : Own w B T e p c xs) (hg : w.grownBy w' row) (hne : ∀ a, p = some a → row ≠ some a.block) : Own w' B T e p c xs := by
  refine World.ownsRow.kept h hg ?_
  cases p with
  | none => exact .inl rfl
  | some a => exact .inr (fun h => hne a rfl (by rw [← h]; rfl))

theorem Own.ext {B T : Nat} (h : Own w B T e p c xs) (hx : Ext w w') : Own w' B T e p c xs := h.kept (hx.grown none) (fun _ _ h => by cases h)

/-- the block of a slice's address -/
def blk : Option Addr → Option Nat
  | some a => some a.block
  | none => none

theorem Own.ge {B T : Nat} (h : Own w B T e p c xs) : ∀ k, blk p = some k → B ≤ k ∧ k < w.heap.size := by
  intro k hk
  refine World.ownsRow.lt h k ?_
  cases p with
  | none => cases hk
  | some a => exact hk

end

/-- block b is just the cells cs of element type t, and may be written -/
def Blk (H : Array Obj) (b : Nat) (t : TypeId) (cs : List Value) : Prop := H[b]? = some (.cells cs.toArray t (0, 0))

theorem Blk.lt {H : Array Obj} {b : Nat} {t : TypeId} {cs : List Value} (h : Blk H b t cs) : b < H.size := (Array.getElem?_eq_some_iff.1 h).1
theorem Blk.ext {w w' : World} {b : Nat} {t : TypeId} {cs : List Value} (h : Blk w.heap b t cs) (hx : Ext w w') : Blk w'.heap b t cs := hx.blk h
theorem Blk.grown {w w' : World} {b : Nat} {t : TypeId} {cs : List Value} {row : Option Nat} (h : Blk w.heap b t cs) (hg : w.grownBy w' row) (hne : row ≠ some b) : Blk w'.heap b t cs := by
  have := hg.block b h.lt (fun e => hne e.symm)
  unfold Blk at *
  rw [this]; exact h

/-- the address of a box -/
abbrev bx (b : Nat) : Option Addr := some ⟨b, 0, none⟩

theorem Blk.cell {H : Array Obj} {b : Nat} {t : TypeId} {cs : List Value} (h : Blk H b t cs) {m : Nat} {v : Value} (hv : cs[m]? = some v) : hcell H (adr (bx b) m) = some v := by
  unfold Blk at h
  simp [hcell, adr, h, hv]

section
variable {P : Program} {n : Nat} {ops : Array Oper} {dr : Nat × List Nat} {dq : Nat} {l : List Oper} {E : Env} {w : World} {K : Env → World → Prop}
variable {d : Option Nat} {ty : TypeId} {pos : String} {af : Array Edge} {g : Option (Nat × Bool)} {x y z : Operand} {k : IntKind} {i j : Int} {t t' u sz by_ : Nat} {v : Value} {p : Option Addr} {c len m : Nat}

theorem G1_len (hu : SliceT P t u sz by_) (hx : E.look x = some (.slice p len c)) (hd : dstOk n d = true) (h : G P n ops dr l (E.put d (.int .i64 len)) w K) : G1 P n ops dr ⟨d, .call ⟨.builtin .len, #[x], #[t]⟩, ty, pos, af, g⟩ l E w K :=
  G1_quiet _ hd (fun a ha w' _ => by simp [execOp, resolve, invoke, builtin, Builtin.len_, ha.eval hx, run_underlying (P := P) hu.1, goInt]) h

theorem run_sizeOf_T (hu : SliceT P t u sz by_) (w : World) : (sizeOf u).run P w = .ok sz w := by
  obtain ⟨_, i, z, hi, rfl, _⟩ := hu
  simp [sizeOf, typeInfo, hi]

theorem G1_indexAddr (hu : SliceT P t u sz by_) (hx : E.look x = some (.slice p len c)) (hy : E.look y = some (.int k i)) (ho : Okp p len c) (h0 : 0 ≤ i) (h1 : i < len) (hd : dstOk n d = true)
    (h : G P n ops dr l (E.put d (.pointer (some (adr p (i.toNat * sz))))) w K) : G1 P n ops dr ⟨d, .indexAddr t x y, ty, pos, af, g⟩ l E w K :=
  G1_quiet _ hd (fun a ha w' _ => by
    obtain ⟨b, o, rfl⟩ := ho.at (by omega)
    simp [execOp, Instr.indexAt, ha.eval hx, ha.eval hy, asIntOf, run_underlying (P := P) hu.1, h0, h1, run_sizeOf_T hu, addr_add, adr]) h

theorem G1_indexAddrN {q : Nat} (hu : SliceT P t u sz by_) (hx : E.look x = some (.slice p len c)) (hy : E.look y = some (.int k (q : Int))) (ho : Okp p len c) (h1 : q < len) (hd : dstOk n d = true)
    (h : G P n ops dr l (E.put d (.pointer (some (adr p (q * sz))))) w K) : G1 P n ops dr ⟨d, .indexAddr t x y, ty, pos, af, g⟩ l E w K :=
  G1_indexAddr hu hx hy ho (by omega) (by omega) hd (by simpa using h)

theorem rd_ext {o : Oper} {w' : World} (h : readsM P o = false ∨ ExtS [] w w') (hr : readsM P o = true) : Ext w w' := by
  rcases h with h | h
  · rw [h] at hr; cases hr
  · exact h.toE

theorem G1_load (hu : PlainT P t) (hx : E.look x = some (.pointer (some (adr p m)))) (hc : hcell w.heap (adr p m) = some v) (hd : dstOk n d = true)
    (h : G P n ops (dq, []) l (E.put d v) w K) : G1 P n ops (dq, []) ⟨d, .load t x, ty, pos, af, g⟩ l E w K :=
  G1_quiet _ hd (fun a ha w' hw => by
    have := (rd_ext hw rfl).cell hc
    simp [execOp, Instr.loadAt, ha.eval hx, Instr.sureAddr, loadVar, hu w', load, Sem.run, cell_eq, this]) h

/-- an element of one cell -/
theorem G1_loadEl1 {α : Type} {e : Enc α} {xs : List α} {q : Nat} {el : α} (hu : PlainT P t) (hx : E.look x = some (.pointer (some (adr p (q * 1))))) (hs : Sl w.heap e p c xs) (hq : xs[q]? = some el) (he : e.sz = 1) (hv : e.enc el = [v]) (hd : dstOk n d = true)
    (h : G P n ops (dq, []) l (E.put d v) w K) : G1 P n ops (dq, []) ⟨d, .load t x, ty, pos, af, g⟩ l E w K :=
  G1_load hu hx (by have := hs.cell q el hq 0 v (by rw [hv]; rfl); rw [he] at this; exact this) hd h

/-- a field of an element -/
theorem G1_loadFld {α : Type} {e : Enc α} {xs : List α} {q off : Nat} {el : α} (hu : PlainT P t) (hx : E.look x = some (.pointer (some (adr p (q * sz + off))))) (hs : Sl w.heap e p c xs) (hq : xs[q]? = some el) (he : e.sz = sz) (hv : (e.enc el)[off]? = some v) (hd : dstOk n d = true)
    (h : G P n ops (dq, []) l (E.put d v) w K) : G1 P n ops (dq, []) ⟨d, .load t x, ty, pos, af, g⟩ l E w K :=
  G1_load hu hx (by have := hs.cell q el hq off v hv; rw [he] at this; exact this) hd h

/-- out of a box -/
theorem G1_loadB {b : Nat} {cs : List Value} (hu : PlainT P t) (hx : E.look x = some (.pointer (some (adr (bx b) m)))) (hb : Blk w.heap b t' cs) (hv : cs[m]? = some v) (hd : dstOk n d = true)
    (h : G P n ops (dq, []) l (E.put d v) w K) : G1 P n ops (dq, []) ⟨d, .load t x, ty, pos, af, g⟩ l E w K :=
  G1_load hu hx (hb.cell hv) hd h

/-- the same where other boxes may be written meanwhile -/
theorem G1_loadBS {b : Nat} {cs : List Value} (hu : PlainT P t) (hx : E.look x = some (.pointer (some (adr (bx b) m)))) (hb : Blk w.heap b t' cs) (hv : cs[m]? = some v) (hS : exempt dr.2 b = false) (hd : dstOk n d = true)
    (h : G P n ops dr l (E.put d v) w K) : G1 P n ops dr ⟨d, .load t x, ty, pos, af, g⟩ l E w K :=
  G1_quiet _ hd (fun a ha w' hw => by
    have hw' : ExtS dr.2 w w' := by
      rcases hw with hw | hw
      · simp [readsM] at hw
      · exact hw
    have hb' : Blk w'.heap b t' cs := by
      have := hw'.block b hb.lt hS
      unfold Blk at *
      rw [this]; exact hb
    have := hb'.cell hv
    simp [execOp, Instr.loadAt, ha.eval hx, Instr.sureAddr, loadVar, hu w', load, Sem.run, cell_eq, this]) h

/-- the zero value of a type -/
def ZeroT (P : Program) (t : TypeId) (z : Value) : Prop := (P.info? t).bind (·.zero) = some z

theorem ZeroT.of {z : Value} (h : (P.info? t).bind (·.zero) = some z) : ZeroT P t z := h

/-- the world with block b's cells turned -/
theorem setRow_grown (w : World) (b : Nat) (cs : Array Value) : w.grownBy (w.setRow b cs) (some b) :=
  ⟨rfl, rfl, rfl, by simp, fun k _ hne => setRow_other w b k cs (fun e => hne (by rw [e]))⟩

end
end Go.V

/- Plain facts on byte strings and lists. -/

namespace Go.V

theorem bget_list (s : ByteArray) (k : Nat) : bget s k = s.data.toList.getD k 0 := by
  simp [bget, Array.getD_eq_getD_getElem?]

theorem get_some {α : Type} {xs : List α} {k : Nat} (h : k < xs.length) : ∃ x, xs[k]? = some x := ⟨xs[k], List.getElem?_eq_getElem h⟩
theorem get_lt {α : Type} {xs : List α} {k : Nat} {x : α} (h : xs[k]? = some x) : k < xs.length := (List.getElem?_eq_some_iff.1 h).1
end Go.V

/- More rules: structs compared, slices cut, made, appended to, written. -/

namespace Go.V
open Go.RowKit

/-- what '==' gives on two values of type t -/
def EqT (P : Program) (t : TypeId) (x y : Value) (b : Bool) : Prop := ∀ w, (Op.equal t x y).run P w = .ok b w

theorem EqT.two {P : Program} {t : TypeId} {f1 f2 : Field} {a1 a2 b1 b2 : Value} {p q : Bool} (hu : P.underlying t = some (.struct #[f1, f2])) (hs : P.stoodInHeld t = false)
    (n1 : f1.name ≠ "_") (n2 : f2.name ≠ "_") (o1 : f1.offset = 0) (o2 : f2.offset = 1) (p1 : PlainT P f1.type) (p2 : PlainT P f2.type)
    (e1 : ∀ w d, (Op.equalIn (d + 1) f1.type a1 b1).run P w = .ok p w) (e2 : ∀ w d, (Op.equalIn (d + 1) f2.type a2 b2).run P w = .ok q w) : EqT P t (.agg #[a1, a2]) (.agg #[b1, b2]) (p && q) := by
  intro w
  have key : ∀ d, (Op.equalIn (d + 1 + 1) t (.agg #[a1, a2]) (.agg #[b1, b2])).run P w = .ok (p && q) w := by
    intro d
    have q1 : (part f1.type #[a1, a2] f1.offset).run P w = .ok a1 w := by simp [part, p1 w, o1]
    have q2 : (part f1.type #[b1, b2] f1.offset).run P w = .ok b1 w := by simp [part, p1 w, o1]
    have q3 : (part f2.type #[a1, a2] f2.offset).run P w = .ok a2 w := by simp [part, p2 w, o2]
    have q4 : (part f2.type #[b1, b2] f2.offset).run P w = .ok b2 w := by simp [part, p2 w, o2]
    rw [Op.equalIn]
    simp only [Sem.run_bind, run_underlying hu, Result.andThen_ok, run_program, hs]
    simp [n1, n2, q1, q2, q3, q4, e1, e2]
    cases p <;> cases q <;> simp
  exact key 9998

section
variable {P : Program} {n : Nat} {ops : Array Oper} {dr : Nat × List Nat} {dq : Nat} {l : List Oper} {E : Env} {w : World} {K : Env → World → Prop}
variable {d : Option Nat} {ty : TypeId} {pos : String} {af : Array Edge} {g : Option (Nat × Bool)} {x y z : Operand} {k k' : IntKind} {i j : Int} {t t' u sz by_ : Nat} {v v' : Value} {p : Option Addr} {c len m : Nat} {b : Bool}

theorem G1_convi64 (hx : E.look x = some (.int k i)) (hs : IntT P t k') (ht : IntT P t' .i64) (h1 : -9223372036854775808 ≤ i) (h2 : i ≤ 9223372036854775807) (hd : dstOk n d = true) (h : G P n ops dr l (E.put d (.int .i64 i)) w K) : G1 P n ops dr ⟨d, .convert t t' x, ty, pos, af, g⟩ l E w K :=
  G1_conv hx hs ht hd (by rw [wrap_i64 h1 h2]; exact h)
theorem G1_convu8 (hx : E.look x = some (.int k i)) (hs : IntT P t k') (ht : IntT P t' .u8) (h1 : 0 ≤ i) (h2 : i ≤ 255) (hd : dstOk n d = true) (h : G P n ops dr l (E.put d (.int .u8 i)) w K) : G1 P n ops dr ⟨d, .convert t t' x, ty, pos, af, g⟩ l E w K :=
  G1_conv hx hs ht hd (by rw [wrap_u8 h1 h2]; exact h)
theorem G1_convu64 (hx : E.look x = some (.int k i)) (hs : IntT P t k') (ht : IntT P t' .u64) (h1 : 0 ≤ i) (h2 : i ≤ 18446744073709551615) (hd : dstOk n d = true) (h : G P n ops dr l (E.put d (.int .u64 i)) w K) : G1 P n ops dr ⟨d, .convert t t' x, ty, pos, af, g⟩ l E w K :=
  G1_conv hx hs ht hd (by rw [wrap_u64 h1 h2]; exact h)

theorem run_slice (hu : SliceT P t u sz by_) {lo hi : Nat} {a b : Option Value} (h1 : lo ≤ hi) (h2 : hi ≤ c) (w : World)
    (ha : a = none ∧ lo = 0 ∨ ∃ k, a = some (.int k lo)) (hb : b = none ∧ hi = len ∨ ∃ k, b = some (.int k hi)) :
    (Instr.sliceAt t (.slice p len c) a b none).run P w = .ok (.slice (subp p c lo sz) (hi - lo) (c - lo)) w := by
  have e2 : (0 : Int) ≤ hi ∧ (hi : Int) ≤ c := by omega
  have e3 : (0 : Int) ≤ lo ∧ (lo : Int) ≤ hi := by omega
  have hsz := run_sizeOf_T hu w
  simp only [Instr.sliceAt, Sem.run_bind, run_underlying hu.1, Result.andThen_ok, Instr.slice, Instr.sliceBounds, Sem.run_pure]
  rcases ha with ⟨rfl, rfl⟩ | ⟨k, rfl⟩ <;> rcases hb with ⟨rfl, rfl⟩ | ⟨k2, rfl⟩ <;>
    simp [Instr.sliceBound, asIntOf, e2, e3, hsz, subp, h1]

theorem G1_sliceLo {q : Nat} (hu : SliceT P t u sz by_) (hx : E.look x = some (.slice p len c)) (hy : E.look y = some (.int k (q : Int))) (ho : Okp p len c) (hq : q ≤ len) (hd : dstOk n d = true)
    (h : G P n ops dr l (E.put d (.slice (subp p c q sz) (len - q) (c - q))) w K) : G1 P n ops dr ⟨d, .slice t x (some y) none none, ty, pos, af, g⟩ l E w K :=
  G1_quiet _ hd (fun a ha w' _ => by simp [execOp, ha.eval hx, ha.eval hy, run_slice hu hq ho.le w' (.inr ⟨k, rfl⟩) (.inl ⟨rfl, rfl⟩)]) h
theorem subp_zero (p : Option Addr) (c sz : Nat) : subp p c 0 sz = p := by
  unfold subp
  split
  · rfl
  · cases p <;> simp [Addr.add]

/- a row of the call's own, appended to -/
theorem flat_inv {α : Type} (e : Enc α) : ∀ (xs : List α) (j : Nat) (v : Value), (xs.flatMap e.enc)[j]? = some v → ∃ i k x, j = i * e.sz + k ∧ xs[i]? = some x ∧ (e.enc x)[k]? = some v
  | [], j, v, h => by simp at h
  | x :: xs, j, v, h => by
    rw [List.flatMap_cons] at h
    by_cases hj : j < (e.enc x).length
    · rw [List.getElem?_append_left hj] at h
      exact ⟨0, j, x, by simp, rfl, h⟩
    · rw [List.getElem?_append_right (by omega), e.len] at h
      obtain ⟨i, k, y, h1, h2, h3⟩ := flat_inv e xs _ v h
      rw [e.len] at hj
      exact ⟨i + 1, k, y, by rw [Nat.add_mul]; omega, by simpa using h2, h3⟩

theorem Sl.flat {α : Type} {e : Enc α} {H : Array Obj} {p : Option Addr} {c : Nat} {xs : List α} (h : Sl H e p c xs) (j : Nat) (v : Value) (hv : (xs.flatMap e.enc)[j]? = some v) : hcell H (adr p j) = some v := by
  obtain ⟨i, k, x, rfl, h2, h3⟩ := flat_inv e xs j v hv
  exact h.cell i x h2 k v h3

/-- the row at p' lies where that at p lay, or is new -/
def NewP (w : World) (p p' : Option Addr) : Prop := blk p' = blk p ∨ ∀ k, blk p' = some k → w.heap.size ≤ k

theorem grown_trans {w w1 w2 : World} {p p' : Option Addr} (h1 : w.grownBy w1 (blk p)) (hp : NewP w p p') (h2 : w1.grownBy w2 (blk p')) : w.grownBy w2 (blk p) := by
  refine ⟨h2.os.trans h1.os, h2.tape.trans h1.tape, h2.output.trans h1.output, Nat.le_trans h1.size h2.size, fun k hk hne => ?_⟩
  rw [h2.block k (Nat.lt_of_lt_of_le hk h1.size) (fun e => ?_), h1.block k hk hne]
  rcases hp with hp | hp
  · exact hne (by rw [e, hp])
  · have := hp k e.symm; omega

theorem NewP.trans {w w1 : World} {p p' p2 : Option Addr} (h : NewP w p p') (hs : w.heap.size ≤ w1.heap.size) (h2 : NewP w1 p' p2) : NewP w p p2 := by
  rcases h2 with h2 | h2
  · rcases h with h | h
    · exact .inl (h2.trans h)
    · exact .inr (fun k hk => h k (by rw [← h2]; exact hk))
  · exact .inr (fun k hk => Nat.le_trans hs (h2 k hk))

theorem grown_ext {w w1 w2 : World} {row : Option Nat} (h1 : w.grownBy w1 row) (h2 : Ext w1 w2) : w.grownBy w2 row :=
  ⟨h2.os.trans h1.os, h2.tape.trans h1.tape, h2.output.trans h1.output, Nat.le_trans h1.size h2.size, fun k hk hne => (h2.block k (Nat.lt_of_lt_of_le hk h1.size)).trans (h1.block k hk hne)⟩
/-- a block that the call made itself may be turned: what was there stays -/
theorem Ext.own {w w1 w2 : World} {row : Option Nat} (h1 : Ext w w1) (h2 : w1.grownBy w2 row) (hr : ∀ k, row = some k → w.heap.size ≤ k) : Ext w w2 :=
  ⟨h2.os.trans h1.os, h2.tape.trans h1.tape, h2.output.trans h1.output, Nat.le_trans h1.size h2.size, fun k hk => (h2.block k (Nat.lt_of_lt_of_le hk h1.size) (fun e => by have := hr k e.symm; omega)).trans (h1.block k hk)⟩

/-- a slice of one element, made anew -/
theorem G1_build1 {α : Type} (e : Enc α) (el : α) (hu : SliceT P t u sz by_) (hx : E.look x = some v) (hc : v.cells.toList = e.enc el) (hsz : e.sz = sz) (hs24 : sz ≤ 1000)
    (he : effects P dr.1 ⟨d, .buildSlice t 1 #[(0, x)], ty, pos, af, g⟩ = true) (hd : dstOk n d = true)
    (h : ∀ p' w', p' = some ⟨w.heap.size, 0, none⟩ → Sl w'.heap e p' 1 [el] → Blk w'.heap w.heap.size u (e.enc el) → Ext w w' → w'.heap.size = w.heap.size + 1 → G P n ops dr l (E.put d (.slice p' [el].length 1)) w' K) :
    G1 P n ops dr ⟨d, .buildSlice t 1 #[(0, x)], ty, pos, af, g⟩ l E w K := by
  subst hsz
  have hpos := e.pos
  obtain ⟨h1, i, z, hi, hs1, hb1, hz, hz2⟩ := hu
  have hvs : v.cells.size = e.sz := by rw [← e.len el, ← hc]; simp
  have hve : v.cells = (e.enc el).toArray := by rw [← hc]
  have hB : Blk (w.alloc (.cells (e.enc el).toArray u)).heap w.heap.size u (e.enc el) := by unfold Blk; exact heap_alloc_new w _
  refine G1_eff _ (w.alloc (.cells (e.enc el).toArray u)) he hd (fun a ha => ?_) (.inr (Ext.alloc Ext.rfl' _).toS) (h _ _ rfl ?_ hB (Ext.alloc Ext.rfl' _) (by simp))
  · have hfill : ∀ cells : Array Value, cells.size = e.sz → Instr.fill (fun i => some (i * e.sz, e.sz)) cells [(0, v)] = some (e.enc el).toArray := by
      intro cells hcs
      simp only [Instr.fill, hvs, Nat.zero_mul, Nat.zero_add, hcs]
      simp only [ne_eq, not_true_eq_false, decide_false, Bool.false_or, gt_iff_lt, Nat.lt_irrefl, Bool.false_eq_true, if_false, Option.some.injEq]
      rw [hve]
      apply Array.ext'
      rw [← Array.foldl_toList]
      have key : ∀ (l : List Value) (k : Nat) (cs : Array Value), k + l.length ≤ cs.size →
          ((l.zipIdx k).foldl (fun cs (x : Value × Nat) => cs.setIfInBounds x.2 x.1) cs).toList = cs.toList.take k ++ l ++ cs.toList.drop (k + l.length) := by
        intro l
        induction l with
        | nil => intro k cs _; simp
        | cons y l ih =>
          intro k cs hk
          simp only [List.length_cons] at hk
          rw [List.zipIdx_cons, List.foldl_cons, ih (k + 1) _ (by simp; omega)]
          apply List.ext_getElem?
          intro j
          simp only [Array.toList_setIfInBounds]
          simp only [List.getElem?_append, List.getElem?_take, List.getElem?_drop, List.length_take, List.length_append, List.length_cons, List.getElem?_set, List.length_set, Array.length_toList, List.getElem?_cons]
          by_cases hj : j < k
          · simp [hj, show j < min k cs.size by omega, show j < min (k + 1) cs.size + l.length by omega, show j < min (k + 1) cs.size by omega, show j < k + 1 by omega, show k ≠ j by omega, show j < min k cs.size + (l.length + 1) by omega]
          · by_cases hj2 : j = k
            · subst hj2
              simp [show j < min (j + 1) cs.size by omega, show j < min (j + 1) cs.size + l.length by omega, show j < cs.size by omega, show ¬ j < min j cs.size by omega, show j < min j cs.size + (l.length + 1) by omega, show j - min j cs.size = 0 by omega]
            · have e1 : min (k + 1) cs.size = k + 1 := by omega
              have e2 : min k cs.size = k := by omega
              rw [e1, e2]
              have e3 : k + (l.length + 1) = k + 1 + l.length := by omega
              simp only [show ¬ j < k + 1 by omega, show ¬ j < k by omega, if_false, e3]
              by_cases hj3 : j < k + 1 + l.length
              · simp [hj3, show j - k ≠ 0 by omega, show j - k - 1 = j - (k + 1) by omega]
              · have e4 : k + 1 + l.length + (j - (k + 1 + l.length)) = j := by omega
                simp [hj3, e4, show k ≠ j by omega]
      have := key (e.enc el) 0 cells (by rw [e.len]; omega)
      simp only [List.take_zero, List.nil_append, Nat.zero_add, e.len] at this
      have hdrop : cells.toList.drop e.sz = [] := by rw [List.drop_eq_nil_iff]; simp [hcs]
      rw [hdrop, List.append_nil] at this
      simpa using this
    have hcells : ((Array.range (1 * e.sz)).map (z.cells[· % z.cells.size]!)).size = e.sz := by simp
    simp only [execOp, Instr.buildSlice, Sem.run_bind, run_underlying h1, Result.andThen_ok, sizeOf, typeInfo, run_program, hi, Sem.run_pure, hs1, zeroValue]
    have h24 : ¬ (1 * e.sz > 2 ^ 24) := by omega
    have h0 : ¬ (1 * e.sz = 0) := by omega
    simp only [h24, h0, if_false, Sem.run_pure, Result.andThen_ok, Sem.run_bind, run_program, hi, hz]
    simp only [List.map_toArray, List.map_cons, List.map_nil, ha.eval hx]
    rw [hfill _ hcells]
    simp [newRow, newObj, Sem.run]
  · refine ⟨⟨by simp, by simp [maxLen], (fun h => by cases h), (fun a ha _ => by simp at ha; rw [← ha])⟩, fun i' x' hi' k' v' hv' => ?_⟩
    have : i' = 0 := by have := get_lt hi'; simp at this; omega
    subst this
    simp at hi'
    subst hi'
    simpa using hB.cell hv'

end
theorem Own.base {α : Type} {e : Enc α} {w : World} {B B' T : Nat} {p : Option Addr} {c : Nat} {xs : List α} (h : Own w B T e p c xs) (hb : B' ≤ B) : Own w B' T e p c xs := by
  obtain ⟨h1, h2⟩ := h
  refine ⟨h1, ?_⟩
  rcases h2 with h2 | ⟨g, cap, cur, h3, h4, h5⟩
  · exact .inl h2
  · exact .inr ⟨g, cap, cur, h3, Nat.le_trans hb h4, h5⟩
def eStr : Enc ByteArray := ⟨1, fun p => [.string p], fun _ => rfl, fun _ v hv => by simp at hv; rw [hv]; rfl, by decide⟩
def eInt : Enc Int := ⟨1, fun p => [.int .i64 p], fun _ => rfl, fun _ v hv => by simp at hv; rw [hv]; rfl, by decide⟩
def eByte : Enc UInt8 := ⟨1, fun p => [.int .u8 p.toNat], fun _ => rfl, fun _ v hv => by simp at hv; rw [hv]; rfl, by decide⟩

attribute [irreducible] NewP
end Go.V

/- Rows that are appended to, over several steps; bytes and strings. -/

namespace Go.V
open Go.RowKit

/-- from w to w' the row at p has become the row at p' with elements xs; nothing else that was there has turned -/
structure App {α : Type} (w w' : World) (B T : Nat) (e : Enc α) (p p' : Option Addr) (c' : Nat) (xs : List α) : Prop where
  own : Own w' B T e p' c' xs
  grown : w.grownBy w' (blk p)
  new : NewP w p p'
  base : B ≤ w'.heap.size

section
variable {α : Type} {e : Enc α} {w w1 w2 : World} {B T : Nat} {p p1 p2 : Option Addr} {c c1 c2 : Nat} {xs ys : List α}

theorem App.refl (h : Own w B T e p c xs) (hB : B ≤ w.heap.size) : App w w B T e p p c xs := ⟨h, ⟨rfl, rfl, rfl, Nat.le_refl _, fun _ _ _ => rfl⟩, by unfold NewP; exact .inl rfl, hB⟩
theorem App.ext (h : App w w1 B T e p p1 c1 xs) (hx : Ext w1 w2) : App w w2 B T e p p1 c1 xs := ⟨h.own.ext hx, grown_ext h.grown hx, h.new, Nat.le_trans h.base hx.size⟩
theorem App.trans (h : App w w1 B T e p p1 c1 xs) (k : App w1 w2 B T e p1 p2 c2 ys) : App w w2 B T e p p2 c2 ys := ⟨k.own, grown_trans h.grown h.new k.grown, h.new.trans h.grown.size k.new, k.base⟩
/-- the row is one that the call made: what was there when it began stays -/
theorem Ext.app {w0 : World} (hx : Ext w0 w) (h : App w w1 B T e p p1 c1 xs) (hp : ∀ k, V.blk p = some k → w0.heap.size ≤ k) : Ext w0 w1 := hx.own h.grown hp
theorem App.sl (h : App w w1 B T e p p1 c1 xs) : Sl w1.heap e p1 c1 xs := h.own.sl
end

theorem Own.at {α : Type} {e : Enc α} {w : World} {B T : Nat} {p : Option Addr} {c : Nat} {xs : List α} (h : Own w B T e p c xs) {k : Nat} (hk : blk p = some k) : ∃ cur, w.heap[k]? = some (.cells cur T (0, 0)) := by
  rcases h.2 with ⟨hv, _⟩ | ⟨g, cap, cur, hv, _, hg, _⟩
  · injection hv with e1 _ _; subst e1; cases hk
  · injection hv with e1 _ _; subst e1
    simp only [blk, Option.some.injEq] at hk
    subst hk
    exact ⟨cur, hg⟩
section
variable {P : Program} {n : Nat} {ops : Array Oper} {dr : Nat × List Nat} {dq : Nat} {l : List Oper} {E : Env} {w : World} {K : Env → World → Prop}
variable {d : Option Nat} {ty : TypeId} {pos : String} {af : Array Edge} {g : Option (Nat × Bool)} {x y z : Operand} {k k' : IntKind} {i j : Int} {t t' u sz by_ : Nat} {v v' : Value} {p : Option Addr} {c len m : Nat} {b : Bool}

theorem byteCells_flat (s : ByteArray) : byteCells s = s.data.toList.flatMap eByte.enc := by
  unfold byteCells
  rw [List.flatMap_def]
  simp only [eByte]
  induction s.data.toList with
  | nil => rfl
  | cons a l ih => simp [ih]

theorem foldl_push (l : List UInt8) : ∀ s : ByteArray, (l.map (fun b : UInt8 => ((b.toNat : Nat) : Int))).foldl (fun r (n : Int) => r.push (UInt8.ofNat n.toNat)) s = ⟨s.data ++ l.toArray⟩ := by
  induction l with
  | nil => intro s; cases s; simp
  | cons a l ih =>
    intro s
    rw [List.map_cons, List.foldl_cons, ih]
    cases s
    simp [ByteArray.push]

def mkStr (l : List UInt8) : ByteArray := ⟨l.toArray⟩

theorem run_toString {bs : List UInt8} (hu : SliceT P t u 1 by_) (hi : IntT P u .u8) (hd : StrT P t') (hs : Sl w.heap eByte p c bs) : (convert t t' (.slice p bs.length c)).run P w = .ok (.string (mkStr bs)) w := by
  rw [run_convert_bytes_string w t t' u p bs.length c hu.1 hi hd]
  cases p with
  | none =>
    have h1 := hs.ok.nul rfl
    have h2 := hs.ok.le
    obtain rfl : bs = [] := List.eq_nil_of_length_eq_zero (by omega)
    simp [Conv.bytesToString, mkStr]; rfl
  | some a =>
    have hn : ∀ j v, (bs.flatMap eByte.enc)[j]? = some v → w.cell? (a.add j) = some v := by
      intro j v hv
      have hne : 0 < bs.length := by cases bs <;> simp_all
      have hspot := hs.ok.spot a rfl (by have := hs.ok.le; omega)
      have hc := hs.flat j v hv
      obtain ⟨b, o, s⟩ := a
      simp only at hspot
      subst hspot
      rw [addr_add]; exact hc
    have hl : (loadCells a bs.length).run P w = .ok ((bs.map (fun b : UInt8 => ((b.toNat : Nat) : Int))).map (Value.int .u8)).toArray w := by
      have e1 : (bs.map (fun b : UInt8 => ((b.toNat : Nat) : Int))).map (Value.int .u8) = bs.flatMap eByte.enc := by
        rw [List.map_map, List.flatMap_def]
        simp only [eByte]
        clear hs hn
        induction bs with
        | nil => rfl
        | cons a l ih => simp [ih]
      rw [e1]
      have := run_loadCells_list (P := P) w a (bs.flatMap eByte.enc) hn
      rw [flat_len] at this
      simpa [eByte] using this
    rw [run_bytesToString w _ _ _ _ hl, foldl_push]
    simp [mkStr]

theorem G1_toString {bs : List UInt8} (hu : SliceT P t u 1 by_) (hi : IntT P u .u8) (hk : StrT P t') (hx : E.look x = some (.slice p bs.length c)) (hs : Sl w.heap eByte p c bs) (hd : dstOk n d = true)
    (h : G P n ops (dq, []) l (E.put d (.string (mkStr bs))) w K) : G1 P n ops (dq, []) ⟨d, .convert t t' x, ty, pos, af, g⟩ l E w K :=
  G1_quiet _ hd (fun a ha w' hw => by simp [execOp, ha.eval hx, run_toString hu hi hk (hs.ext (rd_ext hw rfl))]) h

theorem G1_convE {k2 : IntKind} (hx : E.look x = some (.int k i)) (hs : IntT P t k') (ht : IntT P t' k2) (hv : k2.wrap i = j) (hd : dstOk n d = true) (h : G P n ops dr l (E.put d (.int k2 j)) w K) : G1 P n ops dr ⟨d, .convert t t' x, ty, pos, af, g⟩ l E w K :=
  G1_conv hx hs ht hd (by rw [hv]; exact h)

theorem flat_set {α : Type} (e : Enc α) (el' : α) (off : Nat) (v : Value) : ∀ (xs : List α) (q : Nat) (el : α), xs[q]? = some el → e.enc el' = (e.enc el).set off v → off < e.sz →
    (xs.flatMap e.enc).set (q * e.sz + off) v = (xs.set q el').flatMap e.enc
  | [], q, el, h, _, _ => by simp at h
  | x :: xs, 0, el, h, he, ho => by
    simp at h; subst h
    rw [List.set_cons_zero, List.flatMap_cons, List.flatMap_cons, Nat.zero_mul, Nat.zero_add, List.set_append_left _ _ (by rw [e.len]; exact ho), he]
  | x :: xs, q + 1, el, h, he, ho => by
    simp at h
    rw [List.set_cons_succ, List.flatMap_cons, List.flatMap_cons, List.set_append_right _ _ (by rw [e.len, Nat.add_mul]; omega), e.len]
    have e1 : (q + 1) * e.sz + off - e.sz = q * e.sz + off := by rw [Nat.add_mul]; omega
    rw [e1, flat_set e el' off v xs q el h he ho]

theorem take_set {l : List Value} {n i : Nat} {v : Value} (hi : i < n) (hn : n ≤ l.length) : (l.take i ++ [v] ++ l.drop (i + 1)).take n = (l.take n).set i v := by
  apply List.ext_getElem?
  intro j
  simp only [List.getElem?_take, List.getElem?_append, List.getElem?_drop, List.length_append, List.length_take, List.length_cons, List.length_nil, List.getElem?_set, List.getElem?_cons]
  by_cases hj : j < n
  · by_cases h1 : j < i
    · simp [hj, h1, show j < min i l.length by omega, show j < min i l.length + 1 by omega, show i ≠ j by omega]
    · by_cases h2 : j = i
      · subst h2; simp [hj, show j < min n l.length by omega, show min j l.length = j by omega]
      · simp [hj, show min i l.length = i by omega, show ¬ j < i + 1 by omega, show i ≠ j by omega, show i + 1 + (j - (i + 1)) = j by omega]
  · simp [hj]; intro h; omega

/-- a cell of an element of an own row is written -/
theorem G1_storeEl {α : Type} {e : Enc α} {B T : Nat} {xs : List α} {q off : Nat} {el : α} (el' : α) (hsz : SizeT P t 1) (hx : E.look x = some (.pointer (some (adr p m)))) (hy : E.look y = some v) (hown : Own w B T e p c xs) (hq : xs[q]? = some el)
    (hm : m = q * e.sz + off) (hel : e.enc el' = (e.enc el).set off v) (hoff : off < e.sz) (hc : v.cells = #[v]) (h1 : v.oneCell' = true) (hB : B ≤ w.heap.size)
    (he : effects P dr.1 ⟨d, .store t x y, ty, pos, af, g⟩ = true) (hw : writes dr.1 ⟨d, .store t x y, ty, pos, af, g⟩ = true) (hd : dstOk n d = true)
    (h : ∀ w', App w w' B T e p p c (xs.set q el') → w'.heap.size = w.heap.size → G P n ops dr l (E.put d undef) w' K) : G1 P n ops dr ⟨d, .store t x y, ty, pos, af, g⟩ l E w K := by
  have hlt := get_lt hq
  obtain ⟨i0, hi0, hs0⟩ := hsz
  rcases hown.2 with ⟨_, hn⟩ | ⟨gb, cap, cur, hv, hbg, hg, hnc, hcm, hcs, htake⟩
  · omega
  · injection hv with e1 e2 e3
    subst e1 e3
    have hmlt : m < xs.length * e.sz := by
      subst hm
      have : q * e.sz + e.sz ≤ xs.length * e.sz := by
        have := Nat.mul_le_mul_right e.sz (show q + 1 ≤ xs.length from hlt)
        rw [Nat.add_mul] at this; omega
      omega
    have hmc : xs.length * e.sz ≤ cur.size := by rw [hcs]; exact Nat.mul_le_mul_right _ hnc
    have hst := run_storeCells_at P gb m T [v] 0 cur w hg (by simp; omega) (by simp [h1])
    simp only [Nat.add_zero] at hst
    refine G1_skip (w.setRow gb (cur.toList.take m ++ [v] ++ cur.toList.drop (m + 1)).toArray) he hd (fun a ha => ?_) (.inl hw) (h _ ?_ (by simp))
    · simp only [execOp, Instr.storeAt, ha.eval hx, ha.eval hy, Instr.sureAddr, storeVar, sizeOf, typeInfo, Sem.run_bind, Sem.run_pure, run_program, Result.andThen_ok, hi0, hs0, hc]
      simp only [List.size_toArray, List.length_cons, List.length_nil, Nat.zero_add, ne_eq, not_true_eq_false, if_false]
      have : (storeCells (adr (some ⟨gb, 0, none⟩) m) [v]).run P w = .ok () (w.setRow gb (cur.toList.take m ++ [v] ++ cur.toList.drop (m + 1)).toArray) := by
        show (storeCells ⟨gb, 0 + m, none⟩ [v]).run P w = _
        rw [Nat.zero_add]; simpa using hst
      simp [this]
    · refine ⟨?_, setRow_grown w gb _, by unfold NewP; exact .inl rfl, by simpa using hB⟩
      unfold Own
      rw [List.length_set]
      refine ⟨by rw [flat_len, List.length_set], .inr ⟨gb, c, _, rfl, hbg, setRow_heap w gb cur _ T _ hg, hnc, hcm, ?_, ?_⟩⟩
      · simp only [List.size_toArray, List.length_append, List.length_take, List.length_drop, Array.length_toList, List.length_cons, List.length_nil]
        rw [← hcs]; omega
      · rw [← flat_set e el' off v xs q el hq hel hoff, ← hm, ← htake]
        exact take_set hmlt (by simpa using hmc)

end
end Go.V

/- More rules: parts of elements, slices made anew. -/

namespace Go.V
section
variable {P : Program} {n : Nat} {ops : Array Oper} {dr : Nat × List Nat} {dq : Nat} {l : List Oper} {E : Env} {w : World} {K : Env → World → Prop}
variable {d : Option Nat} {ty : TypeId} {pos : String} {af : Array Edge} {g : Option (Nat × Bool)} {x y z : Operand} {k k' : IntKind} {i j : Int} {t t' u sz by_ : Nat} {v v' : Value} {p : Option Addr} {c len m : Nat} {b : Bool}

/-- make with elements -/
theorem G1_makeN {α : Type} (e : Enc α) (el : α) {zv : Value} (hu : SliceT P t u sz by_) (hx : E.look x = some (.int k i)) (hy : E.look y = some (.int k' i)) (hsz : e.sz = sz) (hzv : ZeroT P u zv) (hel : zv.cells.toList = e.enc el) (h0 : 0 ≤ i) (h1 : (by_ : Int) * i ≤ 281474976710656) (h2 : i ≤ 9223372036854775807)
    (he : effects P dr.1 ⟨d, .makeSlice t x y, ty, pos, af, g⟩ = true) (hd : dstOk n d = true)
    (h : ∀ p' w', Own w' w.heap.size u e p' i.toNat (List.replicate i.toNat el) → Ext w w' → w'.heap.size = w.heap.size + 1 → G P n ops dr l (E.put d (.slice p' (List.replicate i.toNat el).length i.toNat)) w' K) :
    G1 P n ops dr ⟨d, .makeSlice t x y, ty, pos, af, g⟩ l E w K := by
  subst hsz
  obtain ⟨hu1, inf, z, hi, hs1, hb1, hz, hz2⟩ := hu
  have hzz : z = zv := by unfold ZeroT at hzv; rw [hi] at hzv; simp only [Option.bind_some] at hzv; rw [hz] at hzv; exact Option.some.inj hzv
  subst hzz
  have hr := run_make (P := P) w t u inf z hu1 hi hz k k' i i h0 (Int.le_refl _) (by rw [hb1]; exact h1) h2
  suffices hown : Own (w.alloc (.cells (madeCells z.cells (i.toNat * inf.size)) u)) w.heap.size u e (some ⟨w.heap.size, 0, none⟩) i.toNat (List.replicate i.toNat el) by
    have h' := h (some ⟨w.heap.size, 0, none⟩) _ hown (Ext.alloc Ext.rfl' _) (by simp)
    rw [List.length_replicate] at h'
    exact G1_eff _ _ he hd (fun a ha => by simp only [execOp, ha.eval hx, ha.eval hy, Sem.run_bind, hr]; rfl) (.inr (Ext.alloc Ext.rfl' _).toS) h'
  unfold Own
  refine ⟨by rw [flat_len], .inr ⟨w.heap.size, i.toNat, _, by simp, Nat.le_refl _, heap_alloc_new w _, by simp, by simp only [maxLen]; omega, by rw [size_madeCells, hs1], ?_⟩⟩
  simp only [List.length_replicate]
  rw [List.take_of_length_le (by simp [size_madeCells, hs1]), hs1]
  have hpos := e.pos
  apply List.ext_getElem?
  intro j
  have flen : ((List.replicate i.toNat el).flatMap e.enc).length = i.toNat * e.sz := by rw [flat_len]; simp
  by_cases hj : j < i.toNat * e.sz
  · have hjm : j % e.sz < e.sz := Nat.mod_lt _ hpos
    have hjd : j / e.sz < i.toNat := Nat.div_lt_of_lt_mul (by rw [Nat.mul_comm]; exact hj)
    have hge : j % e.sz < (e.enc el).length := by rw [e.len]; exact hjm
    have hfl := flat_get e (List.replicate i.toNat el) (j / e.sz) (j % e.sz) el ((e.enc el)[j % e.sz]) (by rw [List.getElem?_replicate]; simp [hjd]) (List.getElem?_eq_getElem hge)
    have hjj : j / e.sz * e.sz + j % e.sz = j := by rw [Nat.mul_comm]; exact Nat.div_add_mod j e.sz
    rw [hjj] at hfl
    rw [hfl]
    have hzs : z.cells.size = e.sz := hz2
    have hzl : z.cells = (e.enc el).toArray := by rw [← hel]
    simp only [madeCells, Array.toList_map, Array.toList_range, List.getElem?_map, List.getElem?_range hj, Option.map_some, hzs]
    rw [hzl]
    simp [e.len, hjm]
  · rw [List.getElem?_eq_none (by simp [size_madeCells]; omega), List.getElem?_eq_none (by rw [flen]; omega)]

end
end Go.V

/- Arrays in boxes. -/

namespace Go.V
open Go.RowKit
def ArrT (P : Program) (t n u sz : Nat) : Prop := P.underlying t = some (.array n u) ∧ ∃ i, P.info? u = some i ∧ i.size = sz
theorem ArrT.of {P : Program} {t n u sz : Nat} (h1 : P.underlying t = some (.array n u)) (h2 : (P.info? u).map (·.size) = some sz) : ArrT P t n u sz := by
  refine ⟨h1, ?_⟩
  cases hi : P.info? u with
  | none => simp [hi] at h2
  | some i => exact ⟨i, rfl, by simpa [hi] using h2⟩
section
variable {P : Program} {n : Nat} {ops : Array Oper} {dr : Nat × List Nat} {dq : Nat} {l : List Oper} {E : Env} {w : World} {K : Env → World → Prop}
variable {d : Option Nat} {ty : TypeId} {pos : String} {af : Array Edge} {g : Option (Nat × Bool)} {x y z : Operand} {k k' : IntKind} {i j : Int} {t nn u sz m : Nat} {p : Option Addr}
end
end Go.V

/- The program's types, as facts for the walk. -/

namespace Go.Proofs.YtfaadijingcmhaaDoor
open Go.V
theorem mixed : Tryd.prog.follows .mixedOrders = true := by kernel_rfl
theorem T.i2 : IntT Tryd.prog 2 .i64 := Tryd.underlying2
theorem T.p2 : PlainT Tryd.prog 2 := PlainT.of Tryd.underlying2 rfl
theorem T.z2 : SizeT Tryd.prog 2 1 := SizeT.of (by kernel_rfl)
theorem T.i3 : IntT Tryd.prog 3 .i64 := Tryd.underlying3
theorem T.p3 : PlainT Tryd.prog 3 := PlainT.of Tryd.underlying3 rfl
theorem T.z3 : SizeT Tryd.prog 3 1 := SizeT.of (by kernel_rfl)
theorem T.z4 : SizeT Tryd.prog 4 1 := SizeT.of (by kernel_rfl)
theorem T.i5 : IntT Tryd.prog 5 .u8 := Tryd.underlying5
theorem T.p5 : PlainT Tryd.prog 5 := PlainT.of Tryd.underlying5 rfl
theorem T.z5 : SizeT Tryd.prog 5 1 := SizeT.of (by kernel_rfl)
theorem T.zero5 : ZeroT Tryd.prog 5 (.int .u8 0) := ZeroT.of (by kernel_rfl)
theorem T.str9 : StrT Tryd.prog 9 := Tryd.underlying9
theorem T.z9 : SizeT Tryd.prog 9 1 := SizeT.of (by kernel_rfl)
theorem T.i21 : IntT Tryd.prog 21 .i32 := Tryd.underlying21
theorem T.z21 : SizeT Tryd.prog 21 1 := SizeT.of (by kernel_rfl)
theorem T.s45 : SliceT Tryd.prog 45 3 1 8 := SliceT.of Tryd.underlying45 (by kernel_rfl)
theorem T.i46 : IntT Tryd.prog 46 .u64 := Tryd.underlying46
theorem T.z46 : SizeT Tryd.prog 46 1 := SizeT.of (by kernel_rfl)
theorem T.s49 : SliceT Tryd.prog 49 5 1 1 := SliceT.of Tryd.underlying49 (by kernel_rfl)
theorem T.a80 : AggT Tryd.prog 80 3 := AggT.of Tryd.underlying80 rfl (by kernel_rfl)
theorem T.z80 : SizeT Tryd.prog 80 3 := SizeT.of (by kernel_rfl)
theorem T.a85 : AggT Tryd.prog 85 1 := AggT.of Tryd.underlying85 rfl (by kernel_rfl)
theorem T.z85 : SizeT Tryd.prog 85 1 := SizeT.of (by kernel_rfl)
end Go.Proofs.YtfaadijingcmhaaDoor

/- The library's sort and the like, laid at this program by the kit's tool. -/

namespace Go.Proofs
open Go.Shelf
def Tryd.layPI_ren : Go.Shelf.Ren := ⟨fun | 174 => 30 | 247 => 33 | 245 => 34 | 287 => 39 | 279 => 40 | 280 => 41 | 281 => 42 | 282 => 43 | 321 => 49 | 322 => 50 | 316 => 51 | 171 => 53 | 205 => 52 | 243 => 56 | 246 => 31 | 283 => 35 | 284 => 36 | 285 => 37 | 286 => 38 | 129 => 45 | 317 => 44 | 318 => 46 | 319 => 47 | 320 => 48 | 337 => 54 | 338 => 55 | n => n, fun | 9 => 9 | 3 => 3 | 2 => 2 | 75 => 53 | 85 => 54 | 4 => 4 | 167 => 62 | 5 => 5 | 53 => 46 | 175 => 63 | 46 => 65 | 168 => 66 | 37 => 49 | 0 => 0 | 210 => 80 | 21 => 21 | 127 => 83 | 145 => 86 | 143 => 84 | 171 => 57 | 173 => 60 | 212 => 71 | 51 => 72 | 20 => 20 | 213 => 73 | 232 => 87 | 233 => 88 | 80 => 89 | n => n, fun | 15 => 1 | 16 => 2 | 17 => 0 | 18 => 3 | 19 => 4 | n => n⟩
theorem Tryd.layPI : Go.Proofs.LaysC.n174 Tryd.prog Tryd.layPI_ren := {
  mixed := by kernel_rfl
  f129 := Tryd.func45.trans (congrArg some (by kernel_rfl))
  f171 := Tryd.func53.trans (congrArg some (by kernel_rfl))
  f174 := Tryd.func30.trans (congrArg some (by kernel_rfl))
  f205 := Tryd.func52.trans (congrArg some (by kernel_rfl))
  f243 := Tryd.func56.trans (congrArg some (by kernel_rfl))
  f245 := Tryd.func34.trans (congrArg some (by kernel_rfl))
  f246 := Tryd.func31.trans (congrArg some (by kernel_rfl))
  f247 := Tryd.func33.trans (congrArg some (by kernel_rfl))
  f279 := Tryd.func40.trans (congrArg some (by kernel_rfl))
  f280 := Tryd.func41.trans (congrArg some (by kernel_rfl))
  f281 := Tryd.func42.trans (congrArg some (by kernel_rfl))
  f282 := Tryd.func43.trans (congrArg some (by kernel_rfl))
  f283 := Tryd.func35.trans (congrArg some (by kernel_rfl))
  f284 := Tryd.func36.trans (congrArg some (by kernel_rfl))
  f285 := Tryd.func37.trans (congrArg some (by kernel_rfl))
  f286 := Tryd.func38.trans (congrArg some (by kernel_rfl))
  f287 := Tryd.func39.trans (congrArg some (by kernel_rfl))
  f316 := Tryd.func51.trans (congrArg some (by kernel_rfl))
  f317 := Tryd.func44.trans (congrArg some (by kernel_rfl))
  f318 := Tryd.func46.trans (congrArg some (by kernel_rfl))
  f319 := Tryd.func47.trans (congrArg some (by kernel_rfl))
  f320 := Tryd.func48.trans (congrArg some (by kernel_rfl))
  f321 := Tryd.func49.trans (congrArg some (by kernel_rfl))
  f322 := Tryd.func50.trans (congrArg some (by kernel_rfl))
  f337 := Tryd.func54.trans (congrArg some (by kernel_rfl))
  f338 := Tryd.func55.trans (congrArg some (by kernel_rfl))
  t0 := Tryd.underlying0
  a0 := Tryd.isAgg0
  z0 := Tryd.sizeOf0
  v0 := Tryd.zeroValue0
  t2 := Tryd.underlying2
  a2 := Tryd.isAgg2
  z2 := Tryd.sizeOf2
  v2 := Tryd.zeroValue2
  t3 := Tryd.underlying3
  a3 := Tryd.isAgg3
  z3 := Tryd.sizeOf3
  v3 := Tryd.zeroValue3
  t4 := Tryd.underlying4
  a4 := Tryd.isAgg4
  z4 := Tryd.sizeOf4
  v4 := Tryd.zeroValue4
  t5 := Tryd.underlying5
  a5 := Tryd.isAgg5
  z5 := Tryd.sizeOf5
  v5 := Tryd.zeroValue5
  t9 := Tryd.underlying9
  a9 := Tryd.isAgg9
  z9 := Tryd.sizeOf9
  v9 := Tryd.zeroValue9
  t20 := Tryd.underlying20
  a20 := Tryd.isAgg20
  z20 := Tryd.sizeOf20
  v20 := Tryd.zeroValue20
  t21 := Tryd.underlying21
  a21 := Tryd.isAgg21
  z21 := Tryd.sizeOf21
  v21 := Tryd.zeroValue21
  t37 := Tryd.underlying49
  a37 := Tryd.isAgg49
  z37 := Tryd.sizeOf49
  v37 := Tryd.zeroValue49
  t46 := Tryd.underlying65
  a46 := Tryd.isAgg65
  z46 := Tryd.sizeOf65
  v46 := Tryd.zeroValue65
  t51 := Tryd.underlying72
  a51 := Tryd.isAgg72
  z51 := Tryd.sizeOf72
  v51 := Tryd.zeroValue72
  t53 := Tryd.underlying46
  a53 := Tryd.isAgg46
  z53 := Tryd.sizeOf46
  v53 := Tryd.zeroValue46
  t75 := Tryd.underlying53
  a75 := Tryd.isAgg53
  z75 := Tryd.sizeOf53
  v75 := Tryd.zeroValue53
  t85 := Tryd.underlying54
  a85 := Tryd.isAgg54
  z85 := Tryd.sizeOf54
  v85 := Tryd.zeroValue54
  t127 := Tryd.underlying83
  a127 := Tryd.isAgg83
  z127 := Tryd.sizeOf83
  v127 := Tryd.zeroValue83
  t143 := Tryd.underlying84
  a143 := Tryd.isAgg84
  z143 := Tryd.sizeOf84
  v143 := Tryd.zeroValue84
  t145 := Tryd.underlying86
  a145 := Tryd.isAgg86
  z145 := Tryd.sizeOf86
  v145 := Tryd.zeroValue86
  t167 := Tryd.underlying62
  a167 := Tryd.isAgg62
  z167 := Tryd.sizeOf62
  v167 := Tryd.zeroValue62
  t168 := Tryd.underlying66
  a168 := Tryd.isAgg66
  z168 := Tryd.sizeOf66
  v168 := Tryd.zeroValue66
  t171 := Tryd.underlying57
  a171 := Tryd.isAgg57
  z171 := Tryd.sizeOf57
  v171 := Tryd.zeroValue57
  t173 := Tryd.underlying60
  a173 := Tryd.isAgg60
  z173 := Tryd.sizeOf60
  v173 := Tryd.zeroValue60
  t175 := Tryd.underlying63
  a175 := Tryd.isAgg63
  z175 := Tryd.sizeOf63
  v175 := Tryd.zeroValue63
  t210 := Tryd.underlying80
  a210 := Tryd.isAgg80
  z210 := Tryd.sizeOf80
  v210 := Tryd.zeroValue80
  t212 := Tryd.underlying71
  a212 := Tryd.isAgg71
  z212 := Tryd.sizeOf71
  v212 := Tryd.zeroValue71
  t213 := Tryd.underlying73
  a213 := Tryd.isAgg73
  z213 := Tryd.sizeOf73
  t232 := Tryd.underlying87
  a232 := Tryd.isAgg87
  z232 := Tryd.sizeOf87
  v232 := Tryd.zeroValue87
  t233 := Tryd.underlying88
  a233 := Tryd.isAgg88
  z233 := Tryd.sizeOf88
  v233 := Tryd.zeroValue88
  g15 := by kernel_rfl
  g16 := by kernel_rfl
  g17 := by kernel_rfl
  g18 := by kernel_rfl
  g19 := by kernel_rfl
  t80 := Tryd.underlying89
  a80 := Tryd.isAgg89
  z80 := Tryd.sizeOf89
  v80 := Tryd.zeroValue89
  i0 := by kernel_rfl
  i2 := by kernel_rfl
  i3 := by kernel_rfl
  i4 := by kernel_rfl
  i5 := by kernel_rfl
  i9 := by kernel_rfl
  i20 := by kernel_rfl
  i21 := by kernel_rfl
  i37 := by kernel_rfl
  i46 := by kernel_rfl
  i51 := by kernel_rfl
  i53 := by kernel_rfl
  i75 := by kernel_rfl
  i80 := by kernel_rfl
  i85 := by kernel_rfl
  i127 := by kernel_rfl
  i143 := by kernel_rfl
  i145 := by kernel_rfl
  i167 := by kernel_rfl
  i168 := by kernel_rfl
  i171 := by kernel_rfl
  i173 := by kernel_rfl
  i175 := by kernel_rfl
  i210 := by kernel_rfl
  i212 := by kernel_rfl
  i232 := by kernel_rfl
  i233 := by kernel_rfl
  m15 := by kernel_rfl
  m16 := by kernel_rfl
  m17 := by kernel_rfl
  m18 := by kernel_rfl
  m19 := by kernel_rfl
  c0 := by kernel_rfl
  c2 := by kernel_rfl
  c3 := by kernel_rfl
  c4 := by kernel_rfl
  c5 := by kernel_rfl
  c9 := by kernel_rfl
  c20 := by kernel_rfl
  c21 := by kernel_rfl
  c37 := by kernel_rfl
  c46 := by kernel_rfl
  c51 := by kernel_rfl
  c53 := by kernel_rfl
  c75 := by kernel_rfl
  c80 := by kernel_rfl
  c85 := by kernel_rfl
  c127 := by kernel_rfl
  c143 := by kernel_rfl
  c145 := by kernel_rfl
  c167 := by kernel_rfl
  c168 := by kernel_rfl
  c171 := by kernel_rfl
  c173 := by kernel_rfl
  c175 := by kernel_rfl
  c210 := by kernel_rfl
  c212 := by kernel_rfl
  c213 := by kernel_rfl
  c232 := by kernel_rfl
  c233 := by kernel_rfl }
def Tryd.layFI_ren : Go.Shelf.Ren := ⟨fun | 173 => 25 | 246 => 31 | 283 => 35 | 284 => 36 | 285 => 37 | 286 => 38 | 129 => 45 | 317 => 44 | 318 => 46 | 319 => 47 | 320 => 48 | 337 => 54 | 338 => 55 | n => n, fun | 2 => 2 | 3 => 3 | 9 => 9 | 4 => 4 | 171 => 57 | 0 => 0 | 53 => 46 | 37 => 49 | 5 => 5 | 173 => 60 | 212 => 71 | 51 => 72 | 20 => 20 | 213 => 73 | 46 => 65 | 232 => 87 | 233 => 88 | n => n, fun | 17 => 0 | 18 => 3 | 19 => 4 | n => n⟩
theorem Tryd.layFI : Go.Proofs.LaysM.n173 Tryd.prog Tryd.layFI_ren := {
  mixed := by kernel_rfl
  f129 := Tryd.func45.trans (congrArg some (by kernel_rfl))
  f173 := Tryd.func25.trans (congrArg some (by kernel_rfl))
  f246 := Tryd.func31.trans (congrArg some (by kernel_rfl))
  f283 := Tryd.func35.trans (congrArg some (by kernel_rfl))
  f284 := Tryd.func36.trans (congrArg some (by kernel_rfl))
  f285 := Tryd.func37.trans (congrArg some (by kernel_rfl))
  f286 := Tryd.func38.trans (congrArg some (by kernel_rfl))
  f317 := Tryd.func44.trans (congrArg some (by kernel_rfl))
  f318 := Tryd.func46.trans (congrArg some (by kernel_rfl))
  f319 := Tryd.func47.trans (congrArg some (by kernel_rfl))
  f320 := Tryd.func48.trans (congrArg some (by kernel_rfl))
  f337 := Tryd.func54.trans (congrArg some (by kernel_rfl))
  f338 := Tryd.func55.trans (congrArg some (by kernel_rfl))
  t0 := Tryd.underlying0
  a0 := Tryd.isAgg0
  z0 := Tryd.sizeOf0
  v0 := Tryd.zeroValue0
  t2 := Tryd.underlying2
  a2 := Tryd.isAgg2
  z2 := Tryd.sizeOf2
  v2 := Tryd.zeroValue2
  t3 := Tryd.underlying3
  a3 := Tryd.isAgg3
  z3 := Tryd.sizeOf3
  v3 := Tryd.zeroValue3
  t4 := Tryd.underlying4
  a4 := Tryd.isAgg4
  z4 := Tryd.sizeOf4
  v4 := Tryd.zeroValue4
  t5 := Tryd.underlying5
  a5 := Tryd.isAgg5
  z5 := Tryd.sizeOf5
  v5 := Tryd.zeroValue5
  t9 := Tryd.underlying9
  a9 := Tryd.isAgg9
  z9 := Tryd.sizeOf9
  v9 := Tryd.zeroValue9
  t20 := Tryd.underlying20
  a20 := Tryd.isAgg20
  z20 := Tryd.sizeOf20
  v20 := Tryd.zeroValue20
  t37 := Tryd.underlying49
  a37 := Tryd.isAgg49
  z37 := Tryd.sizeOf49
  v37 := Tryd.zeroValue49
  t46 := Tryd.underlying65
  a46 := Tryd.isAgg65
  z46 := Tryd.sizeOf65
  v46 := Tryd.zeroValue65
  t51 := Tryd.underlying72
  a51 := Tryd.isAgg72
  z51 := Tryd.sizeOf72
  v51 := Tryd.zeroValue72
  t53 := Tryd.underlying46
  a53 := Tryd.isAgg46
  z53 := Tryd.sizeOf46
  v53 := Tryd.zeroValue46
  t171 := Tryd.underlying57
  a171 := Tryd.isAgg57
  z171 := Tryd.sizeOf57
  v171 := Tryd.zeroValue57
  t173 := Tryd.underlying60
  a173 := Tryd.isAgg60
  z173 := Tryd.sizeOf60
  v173 := Tryd.zeroValue60
  t212 := Tryd.underlying71
  a212 := Tryd.isAgg71
  z212 := Tryd.sizeOf71
  v212 := Tryd.zeroValue71
  t213 := Tryd.underlying73
  a213 := Tryd.isAgg73
  z213 := Tryd.sizeOf73
  t232 := Tryd.underlying87
  a232 := Tryd.isAgg87
  z232 := Tryd.sizeOf87
  v232 := Tryd.zeroValue87
  t233 := Tryd.underlying88
  a233 := Tryd.isAgg88
  z233 := Tryd.sizeOf88
  v233 := Tryd.zeroValue88
  g17 := by kernel_rfl
  g18 := by kernel_rfl
  g19 := by kernel_rfl
  i0 := by kernel_rfl
  i2 := by kernel_rfl
  i3 := by kernel_rfl
  i4 := by kernel_rfl
  i5 := by kernel_rfl
  i9 := by kernel_rfl
  i20 := by kernel_rfl
  i37 := by kernel_rfl
  i46 := by kernel_rfl
  i51 := by kernel_rfl
  i53 := by kernel_rfl
  i171 := by kernel_rfl
  i173 := by kernel_rfl
  i212 := by kernel_rfl
  i232 := by kernel_rfl
  i233 := by kernel_rfl
  m17 := by kernel_rfl
  m18 := by kernel_rfl
  m19 := by kernel_rfl }
end Go.Proofs

/- Layer 1: numbers and their decimal forms, by the shelf's contracts. -/

namespace Go.V
open Go.RowKit
section
variable {P : Program} {n : Nat} {ops : Array Oper} {dr : Nat × List Nat} {l : List Oper} {E : Env} {w : World} {K : Env → World → Prop}
variable {d : Option Nat} {ty : TypeId} {pos : String} {af : Array Edge} {g : Option (Nat × Bool)} {x : Operand} {t t' tp : TypeId} {ms : Array (String × TypeId)} {v : Value}
theorem G1_errNil (hu : P.underlying t = some (.interface ms)) (hx : E.look x = some .nilIface) (hd : dstOk n d = true) (h : G P n ops dr l (E.put d (.bool false)) w K) : G1 P n ops dr ⟨d, .binOp .neq t x (.const .nilIface) t', ty, pos, af, g⟩ l E w K :=
  G1_quiet _ hd (fun a ha w' _ => by
    have e0 : a.eval (.const .nilIface) = .nilIface := rfl
    have key : ∀ k, (Op.equalIn (k + 1) t .nilIface .nilIface).run P w' = .ok true w' := fun k => by rw [Op.equalIn]; simp [run_underlying hu]
    have e1 : (Op.equal t .nilIface .nilIface).run P w' = .ok true w' := key 9999
    simp [execOp, ha.eval hx, e0, eqGuard, binOp, e1]) h
theorem G1_errNot (hu : P.underlying t = some (.interface ms)) (hx : E.look x = some (.iface tp v)) (hd : dstOk n d = true) (h : G P n ops dr l (E.put d (.bool true)) w K) : G1 P n ops dr ⟨d, .binOp .neq t x (.const .nilIface) t', ty, pos, af, g⟩ l E w K :=
  G1_quiet _ hd (fun a ha w' _ => by
    have e0 : a.eval (.const .nilIface) = .nilIface := rfl
    have key : ∀ k, (Op.equalIn (k + 1) t (.iface tp v) .nilIface).run P w' = .ok false w' := fun k => by rw [Op.equalIn]; simp [run_underlying hu]
    have e1 : (Op.equal t (.iface tp v) .nilIface).run P w' = .ok false w' := key 9999
    simp [execOp, ha.eval hx, e0, eqGuard, binOp, e1]) h
end
theorem Ext.grow {w : World} (k : Nat) (os : Array Obj) : Ext w (Sort.grow (w.drewN k) os) :=
  ⟨rfl, rfl, rfl, by simp [Sort.grow, World.drewN], fun i hi => by simp only [Sort.grow, World.drewN]; rw [Array.getElem?_append_left hi]⟩
theorem TabIs.ext {P : Program} {w w' : World} {name : String} {k : IntKind} {zs : List Int} (h : Lib.TabIs P w name k zs) (hx : Ext w w') : Lib.TabIs P w' name k zs := by
  unfold Lib.TabIs World.var? at *
  cases hg : P.globalNamed name with
  | none => simp [hg] at h
  | some g =>
    simp only [hg, Option.bind_some] at *
    cases hb : w.heap[g]? with
    | none => rw [hb] at h; cases h
    | some o => rw [hx.blk hb]; rw [hb] at h; exact h
theorem var_ext {P : Program} {w w' : World} {name : String} {cs : Array Value} (h : w.var? P name = some cs) (hx : Ext w w') : w'.var? P name = some cs := by
  unfold World.var? at *
  cases hg : P.globalNamed name with
  | none => simp [hg] at h
  | some g =>
    simp only [hg, Option.bind_some] at *
    cases hb : w.heap[g]? with
    | none => rw [hb] at h; cases h
    | some o => rw [hx.blk hb]; rw [hb] at h; exact h
end Go.V
namespace Go.Proofs.YtfaadijingcmhaaDoor
open Go.V
attribute [local irreducible] Blk Own hcell IntT SliceT PlainT AggT SizeT StrT FieldT ZeroT EqT ArrT
abbrev Pow (w : World) : Prop := Lib.TabIs Tryd.prog w "internal/strconv.uint64pow10" .u64 Lib.pow10Tab
def itoaB (n : Int) : ByteArray := ⟨(Lib.itoa n).toArray⟩
theorem pi_ok {s : ByteArray} {v : Int} {w : World} (hs : s.size ≤ 1000000) (h : Lib.parseIntB 64 s.data.toList = .ok v) : Ctr Tryd.prog 30 [.string s, .int .i64 10, .int .i64 64] w (fun r w' => r = .tuple #[.int .i64 v, .nilIface] ∧ Ext w w') := by
  unfold Ctr
  refine ⟨⟨Tryd.f30, Tryd.func30, by decide, rfl⟩, ?_⟩
  refine Calls.mono (Any.strconv_ParseInt_10_at64_ok Tryd.layPI s (by omega) v h w) fun e w' ⟨he, hw⟩ => ⟨_, he, rfl, ?_⟩
  rcases hw with rfl | ⟨t, rfl⟩
  · exact Ext.rfl'
  · exact Lib.bytesWorld_below _ _ _
theorem print_spec {n : Int} {w : World} (h0 : -9223372036854775808 ≤ n) (h1 : n ≤ 9223372036854775807) (hT : Pow w) : Ctr Tryd.prog 10 [.int .i64 n] w (fun r w' => r = .string (itoaB n) ∧ Ext w w') := by
  have hF : Ctr Tryd.prog 25 [.int .i64 n, .int .i64 10] w (fun r w' => r = .string (itoaB n) ∧ Ext w w') := by
    unfold Ctr
    refine ⟨⟨Tryd.f25, Tryd.func25, by decide, rfl⟩, ?_⟩
    refine Calls.mono (Any.strconv_FormatInt_10 Tryd.layFI n h0 h1 w hT) fun e w' ⟨he, k, os, hw⟩ => ⟨_, he, rfl, ?_⟩
    rw [hw]; exact Ext.grow k os
  refine Ctr_of Tryd.func10 Tryd.ntmps10 rfl rfl rfl ?_
  repeat' (first | (apply G_on; exact rfl; first | ((first | apply G1_assign | apply G1_move); exact rfl; exact rfl) | (apply G1_call (f := 25); exact rfl; exact rfl; exact rfl; exact hF; rintro _ w2 ⟨rfl, hx2⟩; refine ⟨(by first | exact .inl rfl | exact .inr (by assumption)), ?_⟩)) | apply G_nil | apply Post_next | apply W_seq | apply W_region | (apply W_cond_true; exact rfl) | (apply W_cond_false; exact rfl) | (apply W_cond_dec; exact rfl; all_goals (intro h; try (exfalso; omega))) | (apply W_cond; exact rfl; all_goals intro h) | (apply G_off; exact rfl; exact rfl) | ((fail_if_success (apply G_on; exact rfl)); apply G_split_dec; exact rfl; exact rfl; all_goals (intro h; try (exfalso; omega))) | ((fail_if_success (apply G_on; exact rfl)); apply G_split; exact rfl; exact rfl; all_goals intro h) | apply W_skip | apply W_exit | apply W_ret | apply W_block | apply Post_then_ret | apply Post_block_ret | apply Post_then_exit | apply Post_block_exit | (apply Post_block_other; exact rfl) | apply Post_block_normal)
  refine Post_ret Tryd.results10 ⟨_, _, rfl, rfl, rfl⟩ ?_
  exact ⟨rfl, (by repeat first | assumption | exact Ext.rfl' | apply Ext.drew | apply Ext.alloc | refine Ext.trans ?_ (by assumption))⟩
theorem parse_ok {s : ByteArray} {v : Int} {w : World} (hs : s.size ≤ 20) (hpi : Lib.parseIntB 64 s.data.toList = .ok v) (h0 : -9223372036854775808 ≤ v) (h1 : v ≤ 9223372036854775807) (hi : itoaB v = s) (hT : Pow w) : Ctr Tryd.prog 23 [.string s] w (fun r w' => r = .tuple #[.int .i64 v, .bool true] ∧ Ext w w') := by
  refine Ctr_of Tryd.func23 Tryd.ntmps23 rfl rfl rfl ?_
  repeat' (first | (apply G_on; exact rfl; first | ((first | apply G1_assign | apply G1_move); exact rfl; exact rfl) | (apply G1_call (f := 30); exact rfl; exact rfl; exact rfl; exact pi_ok (by omega) hpi; rintro _ w2 ⟨rfl, hx2⟩; refine ⟨(by first | exact .inl rfl | exact .inr (by assumption)), ?_⟩) | (apply G1_errNil; exact Tryd.underlying53; exact rfl; exact rfl) | (apply G1_slen; exact T.str9; exact rfl; exact rfl) | ((first | apply G1_gtr | apply G1_extract | apply G1_sneq); exact rfl; exact rfl; exact rfl)) | apply G_nil | apply Post_next | apply W_seq | apply W_region | (apply W_cond_true; exact rfl) | (apply W_cond_false; exact rfl) | (apply W_cond_dec; exact rfl; all_goals (intro h; try (exfalso; omega))) | (apply W_cond; exact rfl; all_goals intro h) | (apply G_off; exact rfl; exact rfl) | ((fail_if_success (apply G_on; exact rfl)); apply G_split_dec; exact rfl; exact rfl; all_goals (intro h; try (exfalso; omega))) | ((fail_if_success (apply G_on; exact rfl)); apply G_split; exact rfl; exact rfl; all_goals intro h) | apply W_skip | apply W_exit | apply W_ret | apply W_block | apply Post_then_ret | apply Post_block_ret | apply Post_then_exit | apply Post_block_exit | (apply Post_block_other; exact rfl) | apply Post_block_normal)
  apply G_on; exact rfl; apply G1_call; exact rfl; exact rfl; exact rfl; exact print_spec h0 h1 (TabIs.ext hT hx2); rintro _ w3 ⟨rfl, hx3⟩; refine ⟨(by first | exact .inl rfl | exact .inr (by assumption)), ?_⟩
  repeat' (first | (apply G_on; exact rfl; first | ((first | apply G1_assign | apply G1_move); exact rfl; exact rfl) | (apply G1_slen; exact T.str9; exact rfl; exact rfl) | ((first | apply G1_gtr | apply G1_extract | apply G1_sneq); exact rfl; exact rfl; exact rfl)) | apply G_nil | apply Post_next | apply W_seq | apply W_region | (apply W_cond_true; exact rfl) | (apply W_cond_false; exact rfl) | (apply W_cond_dec; exact rfl; all_goals (intro h; try (exfalso; omega))) | (apply W_cond; exact rfl; all_goals intro h) | (apply G_off; exact rfl; exact rfl) | ((fail_if_success (apply G_on; exact rfl)); apply G_split_dec; exact rfl; exact rfl; all_goals (intro h; try (exfalso; omega))) | ((fail_if_success (apply G_on; exact rfl)); apply G_split; exact rfl; exact rfl; all_goals intro h) | apply W_skip | apply W_exit | apply W_ret | apply W_block | apply Post_then_ret | apply Post_block_ret | apply Post_then_exit | apply Post_block_exit | (apply Post_block_other; exact rfl) | apply Post_block_normal)
  all_goals try contradiction
  refine Post_ret Tryd.results23 ⟨_, _, rfl, rfl, _, _, rfl, rfl, rfl⟩ ?_
  exact ⟨rfl, (by repeat first | assumption | exact Ext.rfl' | apply Ext.drew | apply Ext.alloc | refine Ext.trans ?_ (by assumption))⟩
end Go.Proofs.YtfaadijingcmhaaDoor

/- From the reading of the arguments to slices that read as lists; the frame of a law's proof. -/

namespace Go.V
open Go.RowKit Go.ChangeShapes Go.WideShapes Go.ChangeAt

section
variable {H : Type} {enc : TypeId × Value → H} {P : Program} {w : World}

theorem read_str {t : TypeId} (ht : P.underlying t = some .string) (n : Nat) (cs : List Value) (z : DataW H × List MemPlace) (h : DataW.trod enc P w 0 (fun _ => true) true n t cs = some z) : ∃ x, cs = eStr.enc x ∧ x.size ≤ maxLen := by
  obtain ⟨s, h1, _, h2⟩ := DataW.trod_string ht h
  exact ⟨s, h1, h2⟩

theorem read_int {t : TypeId} (ht : P.underlying t = some (.int .i64)) (n : Nat) (cs : List Value) (z : DataW H × List MemPlace) (h : DataW.trod enc P w 0 (fun _ => true) true n t cs = some z) : ∃ x, cs = eInt.enc x ∧ (-9223372036854775808 ≤ x ∧ x ≤ 9223372036854775807) := by
  obtain ⟨s, h1, _, h2⟩ := DataW.trod_int ht h
  exact ⟨s, h1, by simpa [Lit.wf, IntKind.min, IntKind.max, IntKind.bits, IntKind.signed] using h2⟩

theorem arg_str {t : TypeId} {v : Value} {d : DataW H} {ps : List MemPlace} {r : Reach} {base : Nat} (ht : P.underlying t = some .string) (hv : Value.okWide P w r base t v) (h : DataW.Trod enc P w 0 (fun _ => true) true t v d ps) : ∃ s, v = .string s ∧ s.size ≤ maxLen := by
  obtain ⟨s, rfl⟩ := okWide_string ht hv
  obtain ⟨n, h⟩ := h
  obtain ⟨x, hx, hs⟩ := read_str ht _ _ _ h
  simp [Value.cells, eStr] at hx
  subst hx
  exact ⟨s, rfl, hs⟩

theorem arg_int {t : TypeId} {v : Value} {d : DataW H} {ps : List MemPlace} {r : Reach} {base : Nat} (ht : P.underlying t = some (.int .i64)) (hv : Value.okWide P w r base t v) (h : DataW.Trod enc P w 0 (fun _ => true) true t v d ps) : ∃ x, v = .int .i64 x ∧ (-9223372036854775808 ≤ x ∧ x ≤ 9223372036854775807) := by
  obtain ⟨s, rfl⟩ := okWide_int ht hv
  obtain ⟨n, h⟩ := h
  obtain ⟨x, hx, hs⟩ := read_int ht _ _ _ h
  simp [Value.cells, eInt] at hx
  subst hx
  exact ⟨s, rfl, hs⟩

theorem trodAll_below (hl : laidOutB P = true) {W W' : World} (hx : Ext W W') : ∀ {ts : List TypeId} {vs : List Value} {ds : List (DataW H)} {ps : List MemPlace}, (∀ t ∈ ts, P.readableRec t = true ∧ t < P.types.size) →
    DataW.TrodAll enc P W 0 (fun _ => true) true ts vs ds ps → DataW.TrodAll enc P W' 0 (fun b => decide (b < W.heap.size)) true ts vs ds ps
  | [], vs, ds, ps, _, h => by
    obtain ⟨rfl, rfl, rfl⟩ := trodAll_nil h
    exact trodAll_mk0
  | t :: ts, vs, ds, ps, hr, h => by
    obtain ⟨v, vs', d, ds', p, q, rfl, rfl, rfl, h1, h2⟩ := trodAll_cons h
    have hlt : ∀ x ∈ p, x.block < W.heap.size := by obtain ⟨m, hm⟩ := h1; exact DataW.trod_lt m _ _ _ hm
    obtain ⟨r1, r2⟩ := hr t (by simp)
    exact trodAll_cons_mk (Below.trod hl r1 r2 h1 hx hlt) (trodAll_below hl hx (fun t ht => hr t (by simp [ht])) h2)

/-- the frame of a law: it returns true and only adds memory -/
theorem law_post {f : Func} {s : ChangeSpec} {W W' : World} {args : Array Value} {ds gs : List (DataW H)} {before : List MemPlace} (hl : laidOutB P = true) (hr : (f.params.toList.all fun t => P.readableRec t && decide (t < P.types.size)) = true) {tb : TypeId} (hb : P.underlying tb = some .bool)
    (hres : f.resultTypes = #[tb]) (hvars : s.vars = []) (hW : DataW.Whole enc P f.params.toList s.vars false W args.toList ds gs before) (hs : s.fn H (ds ++ gs) = { results := [.lit (.bool true)], args := ds }) (hx : Ext W W') :
    s.post enc P f false true false false W args (.bool true) W' := by
  have hW' := hW
  obtain ⟨p, q, hA, hV, rfl, _, _⟩ := hW
  rw [hvars] at hV
  obtain ⟨rfl, rfl⟩ := trodVars_none hV
  have hr' : ∀ t ∈ f.params.toList, P.readableRec t = true ∧ t < P.types.size := fun t ht => by
    have := List.all_eq_true.1 hr t ht
    simpa using this
  refine ⟨ds, [], p ++ [], [], p, [], hW', ?_, ?_, ?_, hx.frame _, fun h => by cases h⟩
  · rw [hs, hres]
    exact trodAll_mk1 (shut_bool hb _)
  · rw [hs]
    exact trodAll_below hl hx hr' hA
  · rw [hs, hvars]; exact rfl

end
end Go.V

/- The package-level variables that the number laws' rows list: what they give a walk, and a world that holds them. -/

namespace Go.Proofs.YtfaadijingcmhaaDoor
open Go.V Go.ChangeShapes Go.WideShapes Go.ChangeAt Go.RowKit
theorem own : ownKnob Tryd.prog.godebug = none := by kernel_rfl
theorem laidOut : laidOutB Tryd.prog = true := by kernel_rfl
theorem gPow : Tryd.prog.globalNamed "internal/strconv.uint64pow10" = some 0 := by kernel_rfl
theorem gPowType : (Tryd.prog.globals[0]?).map (·.type) = some 71 := by kernel_rfl
theorem cellsPow : Tryd.prog.cellsOf 71 = 20 := by kernel_rfl
theorem cellsU64 : Tryd.prog.cellsOf 46 = 1 := by kernel_rfl
/-- the list that all rows of this seat bear -/
abbrev laidAll : List (String × DataW Unit) := [("math/bits.deBruijn32tab", Rows.laid_math_bits_deBruijn32tab), ("math/bits.deBruijn64tab", Rows.laid_math_bits_deBruijn64tab), ("internal/strconv.uint64pow10", Rows.laid_internal_strconv_uint64pow10), ("strconv.ErrRange", Rows.laid_strconv_ErrRange), ("strconv.ErrSyntax", Rows.laid_strconv_ErrSyntax)]
theorem met_of {W : World} (h : laidMetH Tryd.prog laidAll W) : laidMet Tryd.prog laidAll W := h
theorem pow_of {W : World} (h : laidMetH Tryd.prog laidAll W) : Pow W := by
  have h1 := laidMet.filter (fun x => x.1 == "internal/strconv.uint64pow10") (met_of h)
  exact Lib.tabIs_of_head (k := .u64) (zs := Lib.pow10Tab) (rest := []) gPow gPowType Tryd.underlying71 Tryd.underlying46 cellsU64 cellsPow h1
def setc (cs : Array Value) : Obj → Obj
  | .cells _ t frozen => .cells cs t frozen
  | o => o
def tab32 : Array Value := #[.int .u8 0, .int .u8 1, .int .u8 28, .int .u8 2, .int .u8 29, .int .u8 14, .int .u8 24, .int .u8 3, .int .u8 30, .int .u8 22, .int .u8 20, .int .u8 15, .int .u8 25, .int .u8 17, .int .u8 4, .int .u8 8, .int .u8 31, .int .u8 27, .int .u8 13, .int .u8 23, .int .u8 21, .int .u8 19, .int .u8 16, .int .u8 7, .int .u8 26, .int .u8 12, .int .u8 18, .int .u8 6, .int .u8 11, .int .u8 5, .int .u8 10, .int .u8 9]
def tab64 : Array Value := #[.int .u8 0, .int .u8 1, .int .u8 56, .int .u8 2, .int .u8 57, .int .u8 49, .int .u8 28, .int .u8 3, .int .u8 61, .int .u8 58, .int .u8 42, .int .u8 50, .int .u8 38, .int .u8 29, .int .u8 17, .int .u8 4, .int .u8 62, .int .u8 47, .int .u8 59, .int .u8 36, .int .u8 45, .int .u8 43, .int .u8 51, .int .u8 22, .int .u8 53, .int .u8 39, .int .u8 33, .int .u8 30, .int .u8 24, .int .u8 18, .int .u8 12, .int .u8 5, .int .u8 63, .int .u8 55, .int .u8 48, .int .u8 27, .int .u8 60, .int .u8 41, .int .u8 37, .int .u8 16, .int .u8 46, .int .u8 35, .int .u8 44, .int .u8 21, .int .u8 52, .int .u8 32, .int .u8 23, .int .u8 11, .int .u8 54, .int .u8 26, .int .u8 40, .int .u8 15, .int .u8 34, .int .u8 20, .int .u8 31, .int .u8 10, .int .u8 25, .int .u8 14, .int .u8 19, .int .u8 9, .int .u8 13, .int .u8 8, .int .u8 7, .int .u8 6]
def setAt (hp : Array Obj) (n : Nat) (cs : Array Value) : Array Obj := hp.modify n (setc cs)
def heap0 (hp : Array Obj) : Array Obj :=
  let h1 := setAt hp 0 (Lib.pow10Tab.map (Value.int .u64)).toArray
  let h2 := setAt h1 3 tab32
  let h3 := setAt h2 4 tab64
  let h4 := setAt h3 2 #[.iface 84 (.pointer (some ⟨hp.size, 0, none⟩))]
  let h5 := setAt h4 1 #[.iface 84 (.pointer (some ⟨hp.size + 1, 0, none⟩))]
  (h5.push (.cells #[.string ⟨#[118, 97, 108, 117, 101, 32, 111, 117, 116, 32, 111, 102, 32, 114, 97, 110, 103, 101]⟩] 86)).push
    (.cells #[.string ⟨#[105, 110, 118, 97, 108, 105, 100, 32, 115, 121, 110, 116, 97, 120]⟩] 86)
noncomputable def laidWorld (os : Os) : World :=
  { World.holding Tryd.prog os ⟨#[], #[], []⟩ with heap := heap0 (World.holding Tryd.prog os ⟨#[], #[], []⟩).heap }
end Go.Proofs.YtfaadijingcmhaaDoor

/- The order of decimal forms, in plain Lean. -/

namespace Go.Proofs.YtfaadijingcmhaaDoor
open Go.V
attribute [local irreducible] Blk Own hcell IntT SliceT PlainT AggT SizeT StrT FieldT ZeroT EqT ArrT
theorem dec_ge (u : Nat) : ∀ c ∈ Lib.decDigits u, 48 ≤ c.toNat := by
  induction u using Nat.strongRecOn with
  | _ u ih =>
    rw [Lib.decDigits]
    split
    · intro c hc
      simp only [List.mem_singleton] at hc
      rw [hc, UInt8.toNat_ofNat']
      omega
    · intro c hc
      rcases List.mem_append.1 hc with hc | hc
      · exact ih (u / 10) (by omega) c hc
      · simp only [List.mem_singleton] at hc
        rw [hc, UInt8.toNat_ofNat']
        omega
end Go.Proofs.YtfaadijingcmhaaDoor

/- Numbers that fit, sums, spans: in plain Lean. -/

namespace Go.V
def fit64 (n : Int) : Prop := -9223372036854775808 ≤ n ∧ n ≤ 9223372036854775807
instance (n : Int) : Decidable (fit64 n) := inferInstanceAs (Decidable (_ ∧ _))
/-- a sum, if it fits -/
def sum2 (a b : Int) : Int × Bool := if fit64 (a + b) then (a + b, true) else (0, false)
def sums : Int → List Int → Int × Bool
  | a, [] => (a, true)
  | a, b :: bs => if fit64 (a + b) then sums (a + b) bs else (0, false)
end Go.V

/- Decimal forms read back, in plain Lean. -/

namespace Go.Proofs.YtfaadijingcmhaaDoor
open Go.V
attribute [local irreducible] Blk Own hcell IntT SliceT PlainT AggT SizeT StrT FieldT ZeroT EqT ArrT
def valN (acc : Nat) (l : List UInt8) : Nat := l.foldl (fun a c => a * 10 + (c.toNat - 48)) acc
theorem valN_cons (acc : Nat) (c : UInt8) (l : List UInt8) : valN acc (c :: l) = valN (acc * 10 + (c.toNat - 48)) l := by unfold valN; rw [List.foldl_cons]
theorem valN_snoc (acc : Nat) (l : List UInt8) (c : UInt8) : valN acc (l ++ [c]) = valN acc l * 10 + (c.toNat - 48) := by unfold valN; rw [List.foldl_append, List.foldl_cons, List.foldl_nil]
theorem valN_ge : ∀ (l : List UInt8) (acc : Nat), acc ≤ valN acc l
  | [], acc => Nat.le_refl _
  | c :: l, acc => by rw [valN_cons]; have := valN_ge l (acc * 10 + (c.toNat - 48)); omega
theorem parseM_ok : ∀ (l : List UInt8) (acc : Nat), (∀ c ∈ l, 48 ≤ c.toNat ∧ c.toNat ≤ 57) → valN acc l ≤ 18446744073709551615 → Lib.parseUintM (2 ^ 64 - 1) acc l = .ok (valN acc l)
  | [], acc, _, _ => rfl
  | c :: l, acc, hd, hv => by
    have hc := hd c (by simp)
    have hg := valN_ge l (acc * 10 + (c.toNat - 48))
    rw [valN_cons] at hv ⊢
    rw [Lib.parseUintM, if_pos hc, if_neg (by omega), if_neg (by omega), parseM_ok l _ (fun d h => hd d (by simp [h])) hv]
theorem dec_le (u : Nat) : ∀ c ∈ Lib.decDigits u, c.toNat ≤ 57 := by
  induction u using Nat.strongRecOn with
  | _ u ih =>
    rw [Lib.decDigits]
    split
    · intro c hc
      simp only [List.mem_singleton] at hc
      rw [hc, UInt8.toNat_ofNat']
      omega
    · intro c hc
      rcases List.mem_append.1 hc with hc | hc
      · exact ih (u / 10) (by omega) c hc
      · simp only [List.mem_singleton] at hc
        rw [hc, UInt8.toNat_ofNat']
        omega
theorem val_dec (u : Nat) : valN 0 (Lib.decDigits u) = u := by
  induction u using Nat.strongRecOn with
  | _ u ih =>
    rw [Lib.decDigits]
    split
    · show 0 * 10 + ((UInt8.ofNat (48 + u)).toNat - 48) = u
      rw [UInt8.toNat_ofNat']
      omega
    · rw [valN_snoc, ih (u / 10) (by omega), UInt8.toNat_ofNat']
      omega
theorem dec_cons (u : Nat) : ∃ c l, Lib.decDigits u = c :: l ∧ 48 ≤ c.toNat := by
  cases h : Lib.decDigits u with
  | nil =>
    have := Lib.decDigits_length u
    rw [h] at this
    have h2 := Lib.nDigits_pos u
    simp at this; omega
  | cons c l => exact ⟨c, l, rfl, dec_ge u c (by rw [h]; simp)⟩
theorem uint_dec {u : Nat} (h : u ≤ 18446744073709551615) : Lib.parseUintB 64 (Lib.decDigits u) = .ok u := by
  obtain ⟨c, l, hc, _⟩ := dec_cons u
  unfold Lib.parseUintB
  rw [if_neg (by rw [hc]; simp), parseM_ok _ 0 (fun c hc => ⟨dec_ge u c hc, dec_le u c hc⟩) (by rw [val_dec]; exact h), val_dec]
theorem parse_itoa {n : Int} (h : fit64 n) : Lib.parseIntB 64 (Lib.itoa n) = .ok n := by
  unfold fit64 at h
  unfold Lib.itoa
  by_cases hn : n < 0
  · rw [if_pos hn]
    unfold Lib.parseIntB
    simp only
    rw [if_pos (.inr (by decide)), uint_dec (by omega)]
    simp only
    have h45 : (45 : UInt8).toNat = 45 := by decide
    rw [if_neg (by rw [h45]; simp), if_neg (by omega), if_pos h45]
    congr 1; omega
  · rw [if_neg hn]
    obtain ⟨c, l, hc, hc48⟩ := dec_cons n.toNat
    have hu := uint_dec (u := n.toNat) (by omega)
    rw [hc] at hu ⊢
    unfold Lib.parseIntB
    simp only
    rw [if_neg (by omega), hu]
    simp only
    rw [if_neg (by omega), if_neg (by omega), if_neg (by omega)]
    congr 1; omega
theorem parse_fit {l : List UInt8} {v : Int} (h : Lib.parseIntB 64 l = .ok v) : fit64 v := by
  unfold Lib.parseIntB at h
  cases l with
  | nil => cases h
  | cons c r =>
    simp only at h
    generalize Lib.parseUintB 64 _ = q at h
    rcases q with u | _ | _
    · simp only at h
      split at h
      · cases h
      · split at h
        · cases h
        · injection h with h
          unfold fit64
          split at h <;> omega
    · cases h
    · cases h
theorem nDigits_le : ∀ (k u : Nat), u < 10 ^ (k + 1) → Lib.nDigits u ≤ k + 1
  | 0, u, h => by rw [Lib.nDigits_small (by simpa using h)]; exact Nat.le_refl _
  | k + 1, u, h => by
    by_cases h10 : u < 10
    · rw [Lib.nDigits_small h10]; omega
    · rw [Lib.nDigits_big h10]
      have := nDigits_le k (u / 10) (by rw [Nat.pow_succ] at h; omega)
      omega
theorem itoa_size {n : Int} (h : fit64 n) : (itoaB n).size ≤ 20 := by
  unfold fit64 at h
  have e : (itoaB n).size = (Lib.itoa n).length := by
    show (Lib.itoa n).toArray.size = _
    simp
  rw [e]
  unfold Lib.itoa
  split
  · have := nDigits_le 18 n.natAbs (by omega)
    rw [List.length_cons, Lib.decDigits_length]; omega
  · have := nDigits_le 18 n.toNat (by omega)
    rw [Lib.decDigits_length]; omega
/-- the number of which s is the form -/
def IsNum (s : ByteArray) (n : Int) : Prop := fit64 n ∧ itoaB n = s
theorem itoaB_list (n : Int) : (itoaB n).data.toList = Lib.itoa n := by show (Lib.itoa n).toArray.toList = _; simp
end Go.Proofs.YtfaadijingcmhaaDoor

/- Rows as raw cells: copy, the append of zeros, overlaps, room behind the length. -/

namespace Go.V
open Go.RowKit

theorem Own.toBlk {α : Type} {e : Enc α} {w : World} {B T : Nat} {p : Option Addr} {c : Nat} {xs : List α} (h : Own w B T e p c xs) (hne : p ≠ none) :
    ∃ gb cur, p = bx gb ∧ B ≤ gb ∧ Blk w.heap gb T cur ∧ cur.length = c * e.sz ∧ c ≤ maxLen ∧ xs.length ≤ c ∧ cur.take (xs.length * e.sz) = xs.flatMap e.enc := by
  rcases h.2 with ⟨hv, _⟩ | ⟨g, cap, cur, hv, hb, hg, hnc, hcm, hcs, ht⟩
  · injection hv with e1 _ _; exact absurd e1 hne
  · injection hv with e1 _ e3; subst e1 e3
    exact ⟨g, cur.toList, rfl, hb, by unfold Blk; rw [Array.toArray_toList]; exact hg, by simpa using hcs, hcm, hnc, ht⟩
theorem Own.ofBlk {α : Type} {e : Enc α} {w : World} {B T gb : Nat} {c : Nat} {xs : List α} {cur : List Value} (hb : B ≤ gb) (hB : Blk w.heap gb T cur) (hl : cur.length = c * e.sz) (hc : c ≤ maxLen) (hx : xs.length ≤ c) (ht : cur.take (xs.length * e.sz) = xs.flatMap e.enc) :
    Own w B T e (bx gb) c xs := by
  unfold Own
  refine ⟨by rw [flat_len], .inr ⟨gb, c, cur.toArray, rfl, hb, hB, hx, hc, by simpa using hl, by simpa using ht⟩⟩
theorem Own.some_of_pos {α : Type} {e : Enc α} {w : World} {B T : Nat} {p : Option Addr} {c : Nat} {xs : List α} (h : Own w B T e p c xs) (hn : 0 < xs.length) : p ≠ none := by
  rintro rfl
  have h1 := h.sl.ok.nul rfl
  have h2 := h.sl.ok.le
  omega
theorem subp_bx {gb c l sz : Nat} (h : l < c) : subp (bx gb) c l sz = some ⟨gb, l * sz, none⟩ := by
  unfold subp
  rw [if_neg (by omega)]
  simp [addr_add]

section
variable {P : Program} {n : Nat} {ops : Array Oper} {dr : Nat × List Nat} {dq : Nat} {l : List Oper} {E : Env} {w : World} {K : Env → World → Prop}
variable {d : Option Nat} {ty : TypeId} {pos : String} {af : Array Edge} {g : Option (Nat × Bool)} {x y z : Operand} {k k' : IntKind} {i j : Int} {t t' u sz by_ : Nat} {v v' : Value} {p q : Option Addr} {c len m : Nat} {b : Bool}

theorem G1_sliceLoJ {q : Nat} (hu : SliceT P t u sz by_) (hx : E.look x = some (.slice p len c)) (hy : E.look y = some (.int k j)) (hj : j = (q : Int)) (ho : Okp p len c) (hq : q ≤ len) (hd : dstOk n d = true)
    (h : G P n ops dr l (E.put d (.slice (subp p c q sz) (len - q) (c - q))) w K) : G1 P n ops dr ⟨d, .slice t x (some y) none none, ty, pos, af, g⟩ l E w K := by
  subst hj; exact G1_sliceLo hu hx hy ho hq hd h
end
end Go.V

/- Rules for the bits of unsigned words. -/

namespace Go.V
open Go.RowKit
theorem ofInt_nat {b n : Nat} (h : n < 2 ^ b) : (BitVec.ofInt b (n : Int)).toNat = n := by
  rw [BitVec.toNat_ofInt]
  have : ((n : Int) % ((2 ^ b : Nat) : Int)) = (n : Int) := Int.emod_eq_of_lt (by omega) (by exact_mod_cast h)
  rw [this]; simp
theorem wrap_u8n {n : Nat} (h : n < 2 ^ 8) : IntKind.u8.wrap (n : Int) = n := wrap_u8 (by omega) (by have : n < 256 := h; omega)
section
variable {P : Program} {n : Nat} {ops : Array Oper} {dr : Nat × List Nat} {l : List Oper} {E : Env} {w : World} {K : Env → World → Prop}
variable {d : Option Nat} {ty : TypeId} {pos : String} {af : Array Edge} {g : Option (Nat × Bool)} {x y : Operand} {k k' : IntKind} {t t' : TypeId} {a b : Nat} {i j : Int}
theorem G1_sindexJ {q : Nat} {s : ByteArray} (hu : StrT P t) (hx : E.look x = some (.string s)) (hy : E.look y = some (.int k j)) (hj : j = (q : Int)) (hq : q < s.size) (hd : dstOk n d = true)
    (h : G P n ops dr l (E.put d (.int .u8 ((bget s q).toNat : Int))) w K) : G1 P n ops dr ⟨d, .index t x y, ty, pos, af, g⟩ l E w K := by
  subst hj
  refine G1_sindex hu hx hy (by omega) (by omega) hd ?_
  rw [Int.toNat_natCast]; exact h
end
end Go.V

/- Rules for bytes: a string copied into a row of bytes; bits of bytes. -/

namespace Go.V
open Go.RowKit
/-- xs with bs in the place of as many from o on -/
def over (xs : List UInt8) (o : Nat) (bs : List UInt8) : List UInt8 := xs.take o ++ bs ++ xs.drop (o + bs.length)
theorem over_length {xs bs : List UInt8} {o : Nat} (h : o + bs.length ≤ xs.length) : (over xs o bs).length = xs.length := by
  unfold over; simp only [List.length_append, List.length_take, List.length_drop]; omega
section
variable {P : Program} {n : Nat} {ops : Array Oper} {dr : Nat × List Nat} {l : List Oper} {E : Env} {w : World} {K : Env → World → Prop}
variable {d : Option Nat} {ty : TypeId} {pos : String} {af : Array Edge} {g : Option (Nat × Bool)} {x y : Operand} {k k' : IntKind} {t t' u : TypeId} {a b by_ : Nat} {i j : Int} {p : Option Addr} {c : Nat}
theorem run_copyS {gb o dl dc : Nat} {T : Nat} {cur : List Value} (hu : SliceT P t u 1 by_) (hb : Blk w.heap gb T cur) (s : ByteArray) (hdl : s.size ≤ dl) (hfit : o + s.size ≤ cur.length) (ty : TypeId) :
    (Builtin.copy_ #[t, t'] ty #[.slice (some ⟨gb, o, none⟩) dl dc, .string s]).run P w = .ok (goInt s.size) (w.setRow gb (cur.take o ++ byteCells s ++ cur.drop (o + s.size)).toArray) := by
  obtain ⟨hu1, inf, z, hi, hs1, hb1, hz, hz2⟩ := hu
  have hst := run_storeCells_at P gb o T (byteCells s) 0 cur.toArray w hb (by rw [byteCells_length]; simpa using hfit) (fun u hu => by rw [byteCells_flat] at hu; exact flat_one eByte _ u hu)
  simp only [Nat.add_zero, byteCells_length] at hst
  have hmin : Nat.min s.size dl = s.size := by show min s.size dl = _; omega
  simp [Builtin.copy_, run_underlying hu1, Builtin.lenOf, sizeOf, typeInfo, hi, hs1, hmin, firstCells_string, hst]
/-- copy(xs[o:], s), where it has room -/
theorem G1_copyS {B o dl dc : Nat} {xs : List UInt8} {s : ByteArray} {q : Option Addr} (hu : SliceT P t u 1 by_) (hx : E.look x = some (.slice q dl dc)) (hy : E.look y = some (.string s)) (hown : Own w B u eByte p c xs) (hq : q = subp p c o 1) (ho : o < c) (hne : 0 < xs.length) (hdl : s.size ≤ dl) (hfit : o + s.size ≤ xs.length) (hB : B ≤ w.heap.size)
    (he : effects P dr.1 ⟨d, .call ⟨.builtin .copy, #[x, y], #[t, t']⟩, ty, pos, af, g⟩ = true) (hw : writes dr.1 ⟨d, .call ⟨.builtin .copy, #[x, y], #[t, t']⟩, ty, pos, af, g⟩ = true) (hd : dstOk n d = true)
    (h : ∀ w', App w w' B u eByte p p c (over xs o s.data.toList) → w'.heap.size = w.heap.size → G P n ops dr l (E.put d (.int .i64 (s.size : Nat))) w' K) : G1 P n ops dr ⟨d, .call ⟨.builtin .copy, #[x, y], #[t, t']⟩, ty, pos, af, g⟩ l E w K := by
  obtain ⟨gb, cur, rfl, hbg, hblk, hcl, hcm, hnc, htake⟩ := hown.toBlk (hown.some_of_pos hne)
  rw [subp_bx ho, Nat.mul_one] at hq
  subst hq
  have hsz : eByte.sz = 1 := rfl
  rw [hsz, Nat.mul_one] at hcl htake
  have hcur : o + s.size ≤ cur.length := by omega
  have hr := run_copyS (t' := t') (dl := dl) (dc := dc) (o := o) hu hblk s hdl hcur ty
  refine G1_eff _ (w.setRow gb (cur.take o ++ byteCells s ++ cur.drop (o + s.size)).toArray) he hd (fun a ha => by simp [execOp, resolve, invoke, builtin, ha.eval hx, ha.eval hy, hr, goInt]; try rfl) (.inl hw) (h _ ?_ (by simp))
  have hsl : s.data.toList.length = s.size := by rw [Array.length_toList]; rfl
  have hov : (over xs o s.data.toList).length = xs.length := over_length (by rw [hsl]; exact hfit)
  refine ⟨Own.ofBlk (cur := cur.take o ++ byteCells s ++ cur.drop (o + s.size)) hbg (by unfold Blk; exact setRow_heap w gb _ _ u (0, 0) hblk) ?_ hcm (by rw [hov]; exact hnc) ?_, setRow_grown w gb _, by unfold NewP; exact .inl rfl, by simpa using hB⟩
  · rw [hsz]
    simp only [List.length_append, List.length_take, List.length_drop, byteCells_length]
    omega
  · rw [hov, hsz, Nat.mul_one]
    unfold over
    rw [List.flatMap_append, List.flatMap_append, ← byteCells_flat, hsl]
    have hfl : ∀ l : List UInt8, (l.flatMap eByte.enc).length = l.length := fun l => by rw [flat_len, hsz, Nat.mul_one]
    have hsplit : ∀ m, (xs.flatMap eByte.enc) = (xs.take m).flatMap eByte.enc ++ (xs.drop m).flatMap eByte.enc := fun m => by rw [← List.flatMap_append, List.take_append_drop]
    have e1 : (xs.take o).flatMap eByte.enc = cur.take o := by
      have : (cur.take xs.length).take o = (xs.flatMap eByte.enc).take o := by rw [htake]
      rw [List.take_take, Nat.min_eq_left (by omega), hsplit o, List.take_left' (by rw [hfl, List.length_take]; omega)] at this
      exact this.symm
    have e2 : (xs.drop (o + s.size)).flatMap eByte.enc = (cur.drop (o + s.size)).take (xs.length - (o + s.size)) := by
      have : (cur.take xs.length).drop (o + s.size) = (xs.flatMap eByte.enc).drop (o + s.size) := by rw [htake]
      rw [List.drop_take, hsplit (o + s.size), List.drop_left' (by rw [hfl, List.length_take]; omega)] at this
      exact this.symm
    rw [e1, e2, List.take_append, List.take_of_length_le (by simp only [List.length_append, List.length_take, byteCells_length]; omega)]
    congr 2
    simp only [List.length_append, List.length_take, byteCells_length]
    omega
theorem G1_orU8 {r : Nat} (hx : E.look x = some (.int .u8 i)) (hy : E.look y = some (.int .u8 j)) (hi : i = (a : Int)) (hj : j = (b : Int)) (ha : a < 2 ^ 8) (hb : b < 2 ^ 8) (hr : a ||| b = r) (hd : dstOk n d = true)
    (h : G P n ops dr l (E.put d (.int .u8 (r : Int))) w K) : G1 P n ops dr ⟨d, .binOp .or t x y t', ty, pos, af, g⟩ l E w K := by
  subst hi hj hr
  exact G1_quiet _ hd (fun ac hac w' _ => by
    have e : Op.intBits .or .u8 (a : Int) (b : Int) = pure (.int .u8 ((a ||| b : Nat) : Int)) := by
      show (pure (Value.int .u8 (IntKind.u8.wrap ((BitVec.ofInt 8 (a : Int) ||| BitVec.ofInt 8 (b : Int)).toNat : Int))) : Sem Value) = _
      rw [BitVec.toNat_or, ofInt_nat ha, ofInt_nat hb, wrap_u8n (Nat.or_lt_two_pow ha hb)]
    simp [execOp, hac.eval hx, hac.eval hy, eqGuard, binOp, e]) h
theorem G1_andU8 {r : Nat} (hx : E.look x = some (.int .u8 i)) (hy : E.look y = some (.int .u8 j)) (hi : i = (a : Int)) (hj : j = (b : Int)) (ha : a < 2 ^ 8) (hb : b < 2 ^ 8) (hr : a &&& b = r) (hd : dstOk n d = true)
    (h : G P n ops dr l (E.put d (.int .u8 (r : Int))) w K) : G1 P n ops dr ⟨d, .binOp .and t x y t', ty, pos, af, g⟩ l E w K := by
  subst hi hj hr
  exact G1_quiet _ hd (fun ac hac w' _ => by
    have e : Op.intBits .and .u8 (a : Int) (b : Int) = pure (.int .u8 ((a &&& b : Nat) : Int)) := by
      show (pure (Value.int .u8 (IntKind.u8.wrap ((BitVec.ofInt 8 (a : Int) &&& BitVec.ofInt 8 (b : Int)).toNat : Int))) : Sem Value) = _
      rw [BitVec.toNat_and, ofInt_nat ha, ofInt_nat hb, wrap_u8n (Nat.and_lt_two_pow _ hb)]
    simp [execOp, hac.eval hx, hac.eval hy, eqGuard, binOp, e]) h
theorem G1_andNotU8 {r : Nat} (hx : E.look x = some (.int .u8 i)) (hy : E.look y = some (.int .u8 j)) (hr : IntKind.u8.wrap ((BitVec.ofInt 8 i &&& ~~~ BitVec.ofInt 8 j).toNat : Int) = (r : Int)) (hd : dstOk n d = true)
    (h : G P n ops dr l (E.put d (.int .u8 (r : Int))) w K) : G1 P n ops dr ⟨d, .binOp .andNot t x y t', ty, pos, af, g⟩ l E w K := by
  exact G1_quiet _ hd (fun ac hac w' _ => by
    have e : Op.intBits .andNot .u8 i j = pure (.int .u8 (r : Int)) := by
      show (pure (Value.int .u8 (IntKind.u8.wrap ((BitVec.ofInt 8 i &&& ~~~ BitVec.ofInt 8 j).toNat : Int))) : Sem Value) = _
      rw [hr]
    simp [execOp, hac.eval hx, hac.eval hy, eqGuard, binOp, e]) h
theorem G1_shlU8 {c : Nat} (hx : E.look x = some (.int .u8 1)) (hy : E.look y = some (.int k' j)) (hj : j = (c : Int)) (hc : c < 8) (hd : dstOk n d = true)
    (h : G P n ops dr l (E.put d (.int .u8 ((2 ^ c : Nat) : Int))) w K) : G1 P n ops dr ⟨d, .binOp .shl t x y t', ty, pos, af, g⟩ l E w K := by
  subst hj
  refine G1_shl hx hy (by omega) hd ?_
  have e : IntKind.u8.wrap ((1 : Int) * 2 ^ min (c : Int).toNat IntKind.u8.bits) = ((2 ^ c : Nat) : Int) := by
    have e1 : min (c : Int).toNat IntKind.u8.bits = c := by
      have : IntKind.u8.bits = 8 := rfl
      rw [this]; simp; omega
    rw [e1, Int.one_mul]
    have e2 : (2 : Int) ^ c = ((2 ^ c : Nat) : Int) := by push_cast; rfl
    rw [e2, wrap_u8n (Nat.pow_lt_pow_right (by decide) hc)]
  rw [e]; exact h
end
end Go.V

/- Rules for pieces of strings, bits. -/

namespace Go.V
open Go.RowKit
section
variable {P : Program} {n : Nat} {ops : Array Oper} {dr : Nat × List Nat} {dq : Nat} {l : List Oper} {E : Env} {w : World} {K : Env → World → Prop}
variable {d : Option Nat} {ty : TypeId} {pos : String} {af : Array Edge} {g : Option (Nat × Bool)} {x y z : Operand} {k k' : IntKind} {i j : Int} {t : Nat} {s : ByteArray}
end
end Go.V

/- Rules for numbers that are divided, bytes made strings, rows made. -/

namespace Go.V
section
variable {P : Program} {n : Nat} {ops : Array Oper} {dr : Nat × List Nat} {l : List Oper} {E : Env} {w : World} {K : Env → World → Prop}
variable {d : Option Nat} {ty : TypeId} {pos : String} {af : Array Edge} {g : Option (Nat × Bool)} {x y : Operand} {k k' : IntKind} {t t' u : TypeId} {a b by_ : Nat} {i j : Int} {p : Option Addr} {c : Nat}
theorem G1_quoI {c : Nat} (hx : E.look x = some (.int .i64 i)) (hy : E.look y = some (.int .i64 j)) (hi : i = (a : Int)) (hj : j = (c : Int)) (ha : a ≤ 9223372036854775807) (hc : 0 < c) (hd : dstOk n d = true)
    (h : G P n ops dr l (E.put d (.int .i64 ((a / c : Nat) : Int))) w K) : G1 P n ops dr ⟨d, .binOp .quo t x y t', ty, pos, af, g⟩ l E w K := by
  subst hi hj
  refine G1_quo hx hy (by omega) hd ?_
  have e : IntKind.i64.wrap ((a : Int).tdiv (c : Int)) = ((a / c : Nat) : Int) := by
    rw [Int.tdiv_eq_ediv_of_nonneg (by omega)]
    have : ((a : Int) / (c : Int)) = ((a / c : Nat) : Int) := by push_cast; rfl
    have h2 : a / c ≤ a := Nat.div_le_self _ _
    rw [this]
    generalize a / c = q at h2 ⊢
    rw [wrap_i64 (by omega) (by omega)]
  rw [e]; exact h
theorem G1_remI {c : Nat} (hx : E.look x = some (.int .i64 i)) (hy : E.look y = some (.int .i64 j)) (hi : i = (a : Int)) (hj : j = (c : Int)) (hc : 0 < c) (hd : dstOk n d = true)
    (h : G P n ops dr l (E.put d (.int .i64 ((a % c : Nat) : Int))) w K) : G1 P n ops dr ⟨d, .binOp .rem t x y t', ty, pos, af, g⟩ l E w K := by
  subst hi hj
  refine G1_rem hx hy (by omega) hd ?_
  have e : ((a : Int).tmod (c : Int)) = ((a % c : Nat) : Int) := by
    rw [Int.tmod_eq_emod_of_nonneg (by omega)]; push_cast; rfl
  rw [e]; exact h
/-- the rest, told by what is known of it -/
theorem G1_remE {r : Int} (hx : E.look x = some (.int k i)) (hy : E.look y = some (.int k j)) (h0 : j ≠ 0) (hr : i.tmod j = r) (hd : dstOk n d = true)
    (h : G P n ops dr l (E.put d (.int k r)) w K) : G1 P n ops dr ⟨d, .binOp .rem t x y t', ty, pos, af, g⟩ l E w K := by
  subst hr; exact G1_rem hx hy h0 hd h
theorem G1_toStringL {bs : List UInt8} {dq : Nat} {m : Nat} (hu : SliceT P t u 1 by_) (hi : IntT P u .u8) (hk : StrT P t') (hx : E.look x = some (.slice p m c)) (hm : m = bs.length) (hs : Sl w.heap eByte p c bs) (hd : dstOk n d = true)
    (h : G P n ops (dq, []) l (E.put d (.string (mkStr bs))) w K) : G1 P n ops (dq, []) ⟨d, .convert t t' x, ty, pos, af, g⟩ l E w K := by
  subst hm; exact G1_toString hu hi hk hx hs hd h
theorem G1_makeJ {α : Type} {sz m : Nat} (e : Enc α) (el : α) {zv : Value} (hu : SliceT P t u sz by_) (hx : E.look x = some (.int k i)) (hy : E.look y = some (.int k' i)) (hi : i = (m : Int)) (hsz : e.sz = sz) (hzv : ZeroT P u zv) (hel : zv.cells.toList = e.enc el) (h1 : by_ * m ≤ 281474976710656) (h2 : m ≤ 9223372036854775807)
    (he : effects P dr.1 ⟨d, .makeSlice t x y, ty, pos, af, g⟩ = true) (hd : dstOk n d = true)
    (h : ∀ p' w', Own w' w.heap.size u e p' m (List.replicate m el) → Ext w w' → w'.heap.size = w.heap.size + 1 → G P n ops dr l (E.put d (.slice p' m m)) w' K) :
    G1 P n ops dr ⟨d, .makeSlice t x y, ty, pos, af, g⟩ l E w K := by
  subst hi
  refine G1_makeN e el hu hx hy hsz hzv hel (by omega) (by have := Int.ofNat_le.2 h1; rw [Int.natCast_mul] at this; exact this) (by omega) he hd (fun p' w' h3 h4 h5 => ?_)
  rw [List.length_replicate, Int.toNat_natCast]
  rw [Int.toNat_natCast] at h3
  exact h p' w' h3 h4 h5
end
/-- the bit with number m of s -/
def bitP (s : ByteArray) (m : Nat) : Int := if m / 8 < s.size ∧ (bget s (m / 8)).toNat &&& 2 ^ (7 - m % 8) ≠ 0 then 1 else 0
end Go.V

/- The document's Print and Parse. -/

namespace Go.V
section
variable {P : Program} {n : Nat} {ops : Array Oper} {dr : Nat × List Nat} {l : List Oper} {E : Env} {w : World} {K : Env → World → Prop}
variable {d : Option Nat} {ty : TypeId} {pos : String} {af : Array Edge} {g : Option (Nat × Bool)} {x y : Operand} {k k' : IntKind} {t t' u : TypeId} {i j r : Int}
theorem G1_addE (hx : E.look x = some (.int k i)) (hy : E.look y = some (.int k j)) (hr : k.wrap (i + j) = r) (hd : dstOk n d = true)
    (h : G P n ops dr l (E.put d (.int k r)) w K) : G1 P n ops dr ⟨d, .binOp .add t x y t', ty, pos, af, g⟩ l E w K := by subst hr; exact G1_addw hx hy hd h
theorem G1_mulE (hx : E.look x = some (.int k i)) (hy : E.look y = some (.int k j)) (hr : k.wrap (i * j) = r) (hd : dstOk n d = true)
    (h : G P n ops dr l (E.put d (.int k r)) w K) : G1 P n ops dr ⟨d, .binOp .mul t x y t', ty, pos, af, g⟩ l E w K := by subst hr; exact G1_mulw hx hy hd h
theorem G1_quoE (hx : E.look x = some (.int k i)) (hy : E.look y = some (.int k j)) (h0 : j ≠ 0) (hr : k.wrap (i.tdiv j) = r) (hd : dstOk n d = true)
    (h : G P n ops dr l (E.put d (.int k r)) w K) : G1 P n ops dr ⟨d, .binOp .quo t x y t', ty, pos, af, g⟩ l E w K := by subst hr; exact G1_quo hx hy h0 hd h
theorem G1_negE (hx : E.look x = some (.int k i)) (hr : k.wrap (0 - i) = r) (hd : dstOk n d = true)
    (h : G P n ops dr l (E.put d (.int k r)) w K) : G1 P n ops dr ⟨d, .unOp .neg t x, ty, pos, af, g⟩ l E w K := by subst hr; exact G1_neg hx hd h
end
end Go.V
namespace Go.Proofs.YtfaadijingcmhaaDoor
open Go.V
attribute [local irreducible] Blk Own hcell IntT SliceT PlainT AggT SizeT StrT FieldT ZeroT EqT ArrT
theorem ba_list (a b : ByteArray) : (a ++ b).data.toList = a.data.toList ++ b.data.toList := by
  rw [ByteArray.data_append, Array.toList_append]
theorem ba_ext {a b : ByteArray} (h : a.data.toList = b.data.toList) : a = b := by
  cases a; cases b; simp at h; rw [h]
theorem mkStr_L (l : List UInt8) : (mkStr l).data.toList = l := by simp [mkStr]

theorem rprint_spec {n : Int} {w : World} (hn : fit64 n) : Ctr Tryd.prog 32 [.int .i64 n] w (fun r w' => r = .string (itoaB n) ∧ Ext w w') := by
  unfold fit64 at hn
  obtain ⟨u0, hu0⟩ : ∃ u : Nat, u = n.natAbs := ⟨_, rfl⟩
  refine Ctr_of Tryd.func32 Tryd.ntmps32 rfl rfl rfl ?_
  by_cases hneg : n < 0
  · have hw1 : IntKind.u64.wrap n = n + 18446744073709551616 := by simp only [IntKind.wrap_u64]; omega
    have hw2 : IntKind.u64.wrap (0 - (n + 18446744073709551616)) = (u0 : Int) := by simp only [IntKind.wrap_u64]; omega
    repeat' (first | (apply G_on; exact rfl; first | ((first | apply G1_assign | apply G1_move | apply G1_neg); exact rfl; exact rfl) | (apply G1_convE (j := n + 18446744073709551616); exact rfl; exact T.i3; exact T.i46; exact hw1; exact rfl) | (apply G1_negE (r := (u0 : Int)); exact rfl; exact hw2; exact rfl) | (apply G1_convu64; exact rfl; exact T.i3; exact T.i46; omega; omega; exact rfl) | ((first | apply G1_lss | apply G1_eql); exact rfl; exact rfl; exact rfl) | (apply G1_rem; exact rfl; exact rfl; omega; exact rfl) | (apply G1_convu8; exact rfl; exact T.i46; exact T.i5; omega; omega; exact rfl) | (apply G1_sadd; exact rfl; exact rfl; omega; exact rfl) | (apply G1_quo; exact rfl; exact rfl; omega; exact rfl)) | apply G_nil | apply Post_next | apply W_seq | apply W_region | (apply W_cond_true; exact rfl) | (apply W_cond_false; exact rfl) | (apply W_cond_dec; exact rfl; all_goals (intro h; try (exfalso; omega))) | (apply W_cond; exact rfl; all_goals intro h) | (apply G_off; exact rfl; exact rfl) | ((fail_if_success (apply G_on; exact rfl)); apply G_split_dec; exact rfl; exact rfl; all_goals (intro h; try (exfalso; omega))) | ((fail_if_success (apply G_on; exact rfl)); apply G_split; exact rfl; exact rfl; all_goals intro h) | apply W_skip | apply W_exit | apply W_ret | apply W_block | apply Post_then_ret | apply Post_block_ret | apply Post_then_exit | apply Post_block_exit | (apply Post_block_other; exact rfl) | apply Post_block_normal)
    refine W_loop (ι := Nat × ByteArray) (fun y => [(3, .int .u64 (y.1 : Int)), (4, .string ⟨#[45]⟩), (5, .string y.2)]) (fun y w' => Ext w w' ∧ y.1 ≤ u0 ∧ Lib.decDigits y.1 ++ y.2.data.toList = Lib.decDigits u0) (fun y => y.1) (u0, ⟨#[]⟩) ⟨(by first | exact congrArg (fun z => some (Value.int .u64 z)) hw2 | exact rfl), rfl, rfl, trivial⟩ ⟨(by repeat first | assumption | exact Ext.rfl' | apply Ext.drew | apply Ext.alloc | refine Ext.trans ?_ (by assumption)), Nat.le_refl _, List.append_nil _⟩ ?_
    rintro ⟨u, A⟩ w2 ⟨hx, hu, hdec⟩
    simp only at hu hdec
    have hA : A.size ≤ 19 := by
      have h1 := congrArg List.length hdec
      have h2 := nDigits_le 18 u0 (by omega)
      rw [List.length_append, Lib.decDigits_length, Lib.decDigits_length, Array.length_toList] at h1
      show A.data.size ≤ 19
      omega
    have hm1 : ∀ c, (mkStr [c]).size = 1 := fun _ => rfl
    have hm2 := hm1 (UInt8.ofNat (48 + u % 10))
    refine W_keep [(3, .int .u64 (u : Int)), (4, .string ⟨#[45]⟩), (5, .string A)] ⟨rfl, rfl, rfl, trivial⟩ ?_
    obtain ⟨c, hc⟩ : ∃ c : UInt8, c = UInt8.ofNat (48 + u % 10) := ⟨_, rfl⟩
    rw [← hc] at hm2
    have hct : c.toNat = 48 + u % 10 := by rw [hc, UInt8.toNat_ofNat']; omega
    have q1 : (u : Int).tmod 10 = ((u % 10 : Nat) : Int) := by rw [Int.tmod_eq_emod_of_nonneg (by omega)]; push_cast; rfl
    have q2 : IntKind.u64.wrap (48 + ((u % 10 : Nat) : Int)) = ((48 + u % 10 : Nat) : Int) := by simp only [IntKind.wrap_u64]; omega
    have q3 : IntKind.u8.wrap ((48 + u % 10 : Nat) : Int) = (c.toNat : Int) := by rw [hct]; exact wrap_u8 (by omega) (by omega)
    have q4 : IntKind.u64.wrap ((u : Int).tdiv 10) = ((u / 10 : Nat) : Int) := by rw [Int.tdiv_eq_ediv_of_nonneg (by omega)]; simp only [IntKind.wrap_u64]; omega
    have hms : (mkStr [c] ++ A).size = 1 + A.size := by rw [ByteArray.size_append, hm2]
    have hsg : ((⟨#[45]⟩ : ByteArray)).size ≤ 1 := by decide
    have hcl : (mkStr [c] ++ A).data.toList = c :: A.data.toList := by rw [ba_list, mkStr_L]; rfl
    repeat' (first | (apply G_on; exact rfl; first | ((first | apply G1_assign | apply G1_move | apply G1_neg); exact rfl; exact rfl) | (apply G1_remE (r := ((u % 10 : Nat) : Int)); exact rfl; exact rfl; decide; exact q1; exact rfl) | (apply G1_addE (r := ((48 + u % 10 : Nat) : Int)); exact rfl; exact rfl; exact q2; exact rfl) | (apply G1_convE (j := (c.toNat : Int)); exact rfl; exact T.i46; exact T.i5; exact q3; exact rfl) | (apply G1_build1 eByte c; exact T.s49; exact rfl; exact rfl; exact rfl; decide; exact rfl; exact rfl; intro p3 w3 hp3 hs3 _ hx3 hz3) | (apply G1_toString (bs := [c]); exact T.s49; exact T.i5; exact T.str9; exact rfl; exact hs3; exact rfl) | (apply G1_quoE (r := ((u / 10 : Nat) : Int)); exact rfl; exact rfl; decide; exact q4; exact rfl) | (apply G1_sadd; exact rfl; exact rfl; omega; exact rfl) | (apply G1_convu64; exact rfl; exact T.i3; exact T.i46; omega; omega; exact rfl) | ((first | apply G1_lss | apply G1_eql); exact rfl; exact rfl; exact rfl) | (apply G1_rem; exact rfl; exact rfl; omega; exact rfl) | (apply G1_convu8; exact rfl; exact T.i46; exact T.i5; omega; omega; exact rfl) | (apply G1_sadd; exact rfl; exact rfl; omega; exact rfl) | (apply G1_quo; exact rfl; exact rfl; omega; exact rfl)) | apply G_nil | apply Post_next | apply W_seq | apply W_region | (apply W_cond_true; exact rfl) | (apply W_cond_false; exact rfl) | (apply W_cond_dec; exact rfl; all_goals (intro h; try (exfalso; omega))) | (apply W_cond; exact rfl; all_goals intro h) | (apply G_off; exact rfl; exact rfl) | ((fail_if_success (apply G_on; exact rfl)); apply G_split_dec; exact rfl; exact rfl; all_goals (intro h; try (exfalso; omega))) | ((fail_if_success (apply G_on; exact rfl)); apply G_split; exact rfl; exact rfl; all_goals intro h) | apply W_skip | apply W_exit | apply W_ret | apply W_block | apply Post_then_ret | apply Post_block_ret | apply Post_then_exit | apply Post_block_exit | (apply Post_block_other; exact rfl) | apply Post_block_normal)
    · have hu10 : u < 10 := by omega
      rw [Lib.decDigits_one hu10] at hdec
      have e0 : c :: A.data.toList = Lib.decDigits u0 := by rw [← hdec, hc, show u % 10 = u by omega]; rfl
      have e1 : (⟨#[45]⟩ : ByteArray) ++ (mkStr [c] ++ A) = itoaB n := by
        apply ba_ext
        rw [ba_list, hcl, itoaB_list, e0, hu0]
        unfold Lib.itoa
        rw [if_pos hneg]; rfl
      refine Post_ret Tryd.results32 ⟨_, _, rfl, rfl, rfl⟩ ?_
      exact ⟨congrArg Value.string e1, (by repeat first | assumption | exact Ext.rfl' | apply Ext.drew | apply Ext.alloc | refine Ext.trans ?_ (by assumption))⟩
    · have hu10 : ¬ u < 10 := by omega
      rw [Lib.decDigits, dif_neg hu10, List.append_assoc] at hdec
      exact Post_round (u / 10, mkStr [c] ++ A) ⟨rfl, rfl, rfl, trivial⟩ ⟨(by repeat first | assumption | exact Ext.rfl' | apply Ext.drew | apply Ext.alloc | refine Ext.trans ?_ (by assumption)), by simp only; omega, by simp only; rw [hcl, hc]; exact hdec⟩ (by simp only; omega)
  · have hw1 : IntKind.u64.wrap n = (u0 : Int) := by simp only [IntKind.wrap_u64]; omega
    have hw2 : (u0 : Int) = (u0 : Int) := rfl
    repeat' (first | (apply G_on; exact rfl; first | ((first | apply G1_assign | apply G1_move | apply G1_neg); exact rfl; exact rfl) | (apply G1_convE (j := (u0 : Int)); exact rfl; exact T.i3; exact T.i46; exact hw1; exact rfl) | (apply G1_negE (r := (u0 : Int)); exact rfl; exact hw2; exact rfl) | (apply G1_convu64; exact rfl; exact T.i3; exact T.i46; omega; omega; exact rfl) | ((first | apply G1_lss | apply G1_eql); exact rfl; exact rfl; exact rfl) | (apply G1_rem; exact rfl; exact rfl; omega; exact rfl) | (apply G1_convu8; exact rfl; exact T.i46; exact T.i5; omega; omega; exact rfl) | (apply G1_sadd; exact rfl; exact rfl; omega; exact rfl) | (apply G1_quo; exact rfl; exact rfl; omega; exact rfl)) | apply G_nil | apply Post_next | apply W_seq | apply W_region | (apply W_cond_true; exact rfl) | (apply W_cond_false; exact rfl) | (apply W_cond_dec; exact rfl; all_goals (intro h; try (exfalso; omega))) | (apply W_cond; exact rfl; all_goals intro h) | (apply G_off; exact rfl; exact rfl) | ((fail_if_success (apply G_on; exact rfl)); apply G_split_dec; exact rfl; exact rfl; all_goals (intro h; try (exfalso; omega))) | ((fail_if_success (apply G_on; exact rfl)); apply G_split; exact rfl; exact rfl; all_goals intro h) | apply W_skip | apply W_exit | apply W_ret | apply W_block | apply Post_then_ret | apply Post_block_ret | apply Post_then_exit | apply Post_block_exit | (apply Post_block_other; exact rfl) | apply Post_block_normal)
    refine W_loop (ι := Nat × ByteArray) (fun y => [(3, .int .u64 (y.1 : Int)), (4, .string ⟨#[]⟩), (5, .string y.2)]) (fun y w' => Ext w w' ∧ y.1 ≤ u0 ∧ Lib.decDigits y.1 ++ y.2.data.toList = Lib.decDigits u0) (fun y => y.1) (u0, ⟨#[]⟩) ⟨(by first | exact congrArg (fun z => some (Value.int .u64 z)) hw2 | exact rfl), rfl, rfl, trivial⟩ ⟨(by repeat first | assumption | exact Ext.rfl' | apply Ext.drew | apply Ext.alloc | refine Ext.trans ?_ (by assumption)), Nat.le_refl _, List.append_nil _⟩ ?_
    rintro ⟨u, A⟩ w2 ⟨hx, hu, hdec⟩
    simp only at hu hdec
    have hA : A.size ≤ 19 := by
      have h1 := congrArg List.length hdec
      have h2 := nDigits_le 18 u0 (by omega)
      rw [List.length_append, Lib.decDigits_length, Lib.decDigits_length, Array.length_toList] at h1
      show A.data.size ≤ 19
      omega
    have hm1 : ∀ c, (mkStr [c]).size = 1 := fun _ => rfl
    have hm2 := hm1 (UInt8.ofNat (48 + u % 10))
    refine W_keep [(3, .int .u64 (u : Int)), (4, .string ⟨#[]⟩), (5, .string A)] ⟨rfl, rfl, rfl, trivial⟩ ?_
    obtain ⟨c, hc⟩ : ∃ c : UInt8, c = UInt8.ofNat (48 + u % 10) := ⟨_, rfl⟩
    rw [← hc] at hm2
    have hct : c.toNat = 48 + u % 10 := by rw [hc, UInt8.toNat_ofNat']; omega
    have q1 : (u : Int).tmod 10 = ((u % 10 : Nat) : Int) := by rw [Int.tmod_eq_emod_of_nonneg (by omega)]; push_cast; rfl
    have q2 : IntKind.u64.wrap (48 + ((u % 10 : Nat) : Int)) = ((48 + u % 10 : Nat) : Int) := by simp only [IntKind.wrap_u64]; omega
    have q3 : IntKind.u8.wrap ((48 + u % 10 : Nat) : Int) = (c.toNat : Int) := by rw [hct]; exact wrap_u8 (by omega) (by omega)
    have q4 : IntKind.u64.wrap ((u : Int).tdiv 10) = ((u / 10 : Nat) : Int) := by rw [Int.tdiv_eq_ediv_of_nonneg (by omega)]; simp only [IntKind.wrap_u64]; omega
    have hms : (mkStr [c] ++ A).size = 1 + A.size := by rw [ByteArray.size_append, hm2]
    have hsg : ((⟨#[]⟩ : ByteArray)).size ≤ 1 := by decide
    have hcl : (mkStr [c] ++ A).data.toList = c :: A.data.toList := by rw [ba_list, mkStr_L]; rfl
    repeat' (first | (apply G_on; exact rfl; first | ((first | apply G1_assign | apply G1_move | apply G1_neg); exact rfl; exact rfl) | (apply G1_remE (r := ((u % 10 : Nat) : Int)); exact rfl; exact rfl; decide; exact q1; exact rfl) | (apply G1_addE (r := ((48 + u % 10 : Nat) : Int)); exact rfl; exact rfl; exact q2; exact rfl) | (apply G1_convE (j := (c.toNat : Int)); exact rfl; exact T.i46; exact T.i5; exact q3; exact rfl) | (apply G1_build1 eByte c; exact T.s49; exact rfl; exact rfl; exact rfl; decide; exact rfl; exact rfl; intro p3 w3 hp3 hs3 _ hx3 hz3) | (apply G1_toString (bs := [c]); exact T.s49; exact T.i5; exact T.str9; exact rfl; exact hs3; exact rfl) | (apply G1_quoE (r := ((u / 10 : Nat) : Int)); exact rfl; exact rfl; decide; exact q4; exact rfl) | (apply G1_sadd; exact rfl; exact rfl; omega; exact rfl) | (apply G1_convu64; exact rfl; exact T.i3; exact T.i46; omega; omega; exact rfl) | ((first | apply G1_lss | apply G1_eql); exact rfl; exact rfl; exact rfl) | (apply G1_rem; exact rfl; exact rfl; omega; exact rfl) | (apply G1_convu8; exact rfl; exact T.i46; exact T.i5; omega; omega; exact rfl) | (apply G1_sadd; exact rfl; exact rfl; omega; exact rfl) | (apply G1_quo; exact rfl; exact rfl; omega; exact rfl)) | apply G_nil | apply Post_next | apply W_seq | apply W_region | (apply W_cond_true; exact rfl) | (apply W_cond_false; exact rfl) | (apply W_cond_dec; exact rfl; all_goals (intro h; try (exfalso; omega))) | (apply W_cond; exact rfl; all_goals intro h) | (apply G_off; exact rfl; exact rfl) | ((fail_if_success (apply G_on; exact rfl)); apply G_split_dec; exact rfl; exact rfl; all_goals (intro h; try (exfalso; omega))) | ((fail_if_success (apply G_on; exact rfl)); apply G_split; exact rfl; exact rfl; all_goals intro h) | apply W_skip | apply W_exit | apply W_ret | apply W_block | apply Post_then_ret | apply Post_block_ret | apply Post_then_exit | apply Post_block_exit | (apply Post_block_other; exact rfl) | apply Post_block_normal)
    · have hu10 : u < 10 := by omega
      rw [Lib.decDigits_one hu10] at hdec
      have e0 : c :: A.data.toList = Lib.decDigits u0 := by rw [← hdec, hc, show u % 10 = u by omega]; rfl
      have e1 : (⟨#[]⟩ : ByteArray) ++ (mkStr [c] ++ A) = itoaB n := by
        apply ba_ext
        rw [ba_list, hcl, itoaB_list, e0, hu0]
        unfold Lib.itoa
        rw [if_neg hneg, show n.natAbs = n.toNat by omega]; rfl
      refine Post_ret Tryd.results32 ⟨_, _, rfl, rfl, rfl⟩ ?_
      exact ⟨congrArg Value.string e1, (by repeat first | assumption | exact Ext.rfl' | apply Ext.drew | apply Ext.alloc | refine Ext.trans ?_ (by assumption))⟩
    · have hu10 : ¬ u < 10 := by omega
      rw [Lib.decDigits, dif_neg hu10, List.append_assoc] at hdec
      exact Post_round (u / 10, mkStr [c] ++ A) ⟨rfl, rfl, rfl, trivial⟩ ⟨(by repeat first | assumption | exact Ext.rfl' | apply Ext.drew | apply Ext.alloc | refine Ext.trans ?_ (by assumption)), by simp only; omega, by simp only; rw [hcl, hc]; exact hdec⟩ (by simp only; omega)
end Go.Proofs.YtfaadijingcmhaaDoor

/- Pieces of strings, as lists. -/

namespace Go.V
theorem list_bget' {s : ByteArray} {k : Nat} (h : k < s.size) : s.data.toList[k]? = some (bget s k) := by
  have h' : k < s.data.toList.length := by rw [Array.length_toList]; exact h
  have h2 : k < s.data.size := h
  rw [List.getElem?_eq_getElem h', bget_list, List.getD_eq_getElem?_getD, List.getElem?_eq_getElem h']
  rfl
end Go.V

/- The document's Parse. -/

namespace Go.Proofs.YtfaadijingcmhaaDoor
open Go.V
attribute [local irreducible] Blk Own hcell IntT SliceT PlainT AggT SizeT StrT FieldT ZeroT EqT ArrT
theorem valN_app (acc : Nat) (a b : List UInt8) : valN acc (a ++ b) = valN (valN acc a) b := by unfold valN; rw [List.foldl_append]

theorem rparse_no {s : ByteArray} {w : World} (hno : ∀ n, ¬ IsNum s n) : Ctr Tryd.prog 27 [.string s] w (fun r w' => r = .tuple #[.int .i64 0, .bool false] ∧ Ext w w') := by
  have hfit : ∀ i, fit64 (IntKind.i64.wrap i) := fun i => by unfold fit64; simp only [IntKind.wrap_i64]; omega
  have hne : ∀ i, ¬ itoaB (IntKind.i64.wrap i) = s := fun i he => hno _ ⟨hfit i, he⟩
  refine Ctr_of Tryd.func27 Tryd.ntmps27 rfl rfl rfl ?_
  by_cases hl : s.size = 0 ∨ 20 < s.size
  · repeat' (first | (apply G_on; exact rfl; first | ((first | apply G1_assign | apply G1_move | apply G1_neg); exact rfl; exact rfl) | (apply G1_slen; exact T.str9; exact rfl; exact rfl) | ((first | apply G1_eql | apply G1_gtr | apply G1_lss | apply G1_sneq); exact rfl; exact rfl; exact rfl) | (apply G1_pick_t; exact rfl; exact rfl; exact rfl) | (apply G1_pick_f; exact rfl; exact rfl; exact rfl) | (apply G1_sindex; exact T.str9; exact rfl; exact rfl; omega; omega; exact rfl) | (apply G1_convu64; exact rfl; exact T.i5; exact T.i46; omega; omega; exact rfl) | (apply G1_add; exact rfl; exact rfl; omega; omega; exact rfl) | (apply G1_convi64; exact rfl; exact T.i46; exact T.i3; omega; omega; exact rfl)) | apply G_nil | apply Post_next | apply W_seq | apply W_region | (apply W_cond_true; exact rfl) | (apply W_cond_false; exact rfl) | (apply W_cond_dec; exact rfl; all_goals (intro h; try (exfalso; omega))) | (apply W_cond; exact rfl; all_goals intro h) | (apply G_off; exact rfl; exact rfl) | ((fail_if_success (apply G_on; exact rfl)); apply G_split_dec; exact rfl; exact rfl; all_goals (intro h; try (exfalso; omega))) | ((fail_if_success (apply G_on; exact rfl)); apply G_split; exact rfl; exact rfl; all_goals intro h) | apply W_skip | apply W_exit | apply W_ret | apply W_block | apply Post_then_ret | apply Post_block_ret | apply Post_then_exit | apply Post_block_exit | (apply Post_block_other; exact rfl) | apply Post_block_normal)
    all_goals
      refine Post_ret Tryd.results27 ⟨_, _, rfl, rfl, _, _, rfl, rfl, rfl⟩ ?_
      exact ⟨rfl, (by repeat first | assumption | exact Ext.rfl' | apply Ext.drew | apply Ext.alloc | refine Ext.trans ?_ (by assumption))⟩
  · repeat' (first | (apply G_on; exact rfl; first | ((first | apply G1_assign | apply G1_move | apply G1_neg); exact rfl; exact rfl) | (apply G1_slen; exact T.str9; exact rfl; exact rfl) | ((first | apply G1_eql | apply G1_gtr | apply G1_lss | apply G1_sneq); exact rfl; exact rfl; exact rfl) | (apply G1_pick_t; exact rfl; exact rfl; exact rfl) | (apply G1_pick_f; exact rfl; exact rfl; exact rfl) | (apply G1_sindex; exact T.str9; exact rfl; exact rfl; omega; omega; exact rfl) | (apply G1_convu64; exact rfl; exact T.i5; exact T.i46; omega; omega; exact rfl) | (apply G1_add; exact rfl; exact rfl; omega; omega; exact rfl) | (apply G1_convi64; exact rfl; exact T.i46; exact T.i3; omega; omega; exact rfl)) | apply G_nil | apply Post_next | apply W_seq | apply W_region | (apply W_cond_true; exact rfl) | (apply W_cond_false; exact rfl) | (apply W_cond_dec; exact rfl; all_goals (intro h; try (exfalso; omega))) | (apply W_cond; exact rfl; all_goals intro h) | (apply G_off; exact rfl; exact rfl) | ((fail_if_success (apply G_on; exact rfl)); apply G_split_dec; exact rfl; exact rfl; all_goals (intro h; try (exfalso; omega))) | ((fail_if_success (apply G_on; exact rfl)); apply G_split; exact rfl; exact rfl; all_goals intro h) | apply W_skip | apply W_exit | apply W_ret | apply W_block | apply Post_then_ret | apply Post_block_ret | apply Post_then_exit | apply Post_block_exit | (apply Post_block_other; exact rfl) | apply Post_block_normal)
    · refine W_loop (ι := Nat × Int) (fun y => [(0, .string s), (4, .int .i64 1), (5, .int .u64 y.2), (6, .int .i64 (y.1 : Int))]) (fun y w' => Ext w w' ∧ y.1 ≤ s.size) (fun y => s.size - y.1) (1, 0) ⟨rfl, rfl, rfl, rfl, trivial⟩ ⟨(by repeat first | assumption | exact Ext.rfl' | apply Ext.drew | apply Ext.alloc | refine Ext.trans ?_ (by assumption)), by simp only; omega⟩ ?_
      rintro ⟨i, U⟩ w2 ⟨hx, hi⟩
      simp only at hi
      refine W_keep [(0, .string s), (4, .int .i64 1), (5, .int .u64 U), (6, .int .i64 (i : Int))] ⟨rfl, rfl, rfl, rfl, trivial⟩ ?_
      by_cases hlt : i < s.size
      · repeat' (first | (apply G_on; exact rfl; first | ((first | apply G1_assign | apply G1_move | apply G1_neg); exact rfl; exact rfl) | (apply G1_sindexJ (q := i); exact T.str9; exact rfl; exact rfl; exact rfl; omega; exact rfl) | (apply G1_mulw (k := .u64); exact rfl; exact rfl; exact rfl) | (apply G1_addw (k := .u64); exact rfl; exact rfl; exact rfl) | (apply G1_subw (k := .u8); exact rfl; exact rfl; exact rfl) | (apply G1_convE; exact rfl; exact T.i5; exact T.i46; exact rfl; exact rfl) | (apply G1_slen; exact T.str9; exact rfl; exact rfl) | ((first | apply G1_eql | apply G1_gtr | apply G1_lss | apply G1_sneq); exact rfl; exact rfl; exact rfl) | (apply G1_pick_t; exact rfl; exact rfl; exact rfl) | (apply G1_pick_f; exact rfl; exact rfl; exact rfl) | (apply G1_sindex; exact T.str9; exact rfl; exact rfl; omega; omega; exact rfl) | (apply G1_convu64; exact rfl; exact T.i5; exact T.i46; omega; omega; exact rfl) | (apply G1_add; exact rfl; exact rfl; omega; omega; exact rfl) | (apply G1_convi64; exact rfl; exact T.i46; exact T.i3; omega; omega; exact rfl)) | apply G_nil | apply Post_next | apply W_seq | apply W_region | (apply W_cond_true; exact rfl) | (apply W_cond_false; exact rfl) | (apply W_cond_dec; exact rfl; all_goals (intro h; try (exfalso; omega))) | (apply W_cond; exact rfl; all_goals intro h) | (apply G_off; exact rfl; exact rfl) | ((fail_if_success (apply G_on; exact rfl)); apply G_split_dec; exact rfl; exact rfl; all_goals (intro h; try (exfalso; omega))) | ((fail_if_success (apply G_on; exact rfl)); apply G_split; exact rfl; exact rfl; all_goals intro h) | apply W_skip | apply W_exit | apply W_ret | apply W_block | apply Post_then_ret | apply Post_block_ret | apply Post_then_exit | apply Post_block_exit | (apply Post_block_other; exact rfl) | apply Post_block_normal)
        all_goals first
          | exact Post_round (i + 1, _) ⟨rfl, rfl, rfl, rfl, trivial⟩ ⟨(by repeat first | assumption | exact Ext.rfl' | apply Ext.drew | apply Ext.alloc | refine Ext.trans ?_ (by assumption)), by simp only; omega⟩ (by simp only; omega)
          | (refine Post_ret Tryd.results27 ⟨_, _, rfl, rfl, _, _, rfl, rfl, rfl⟩ ?_
             exact ⟨rfl, (by repeat first | assumption | exact Ext.rfl' | apply Ext.drew | apply Ext.alloc | refine Ext.trans ?_ (by assumption))⟩)
      · repeat' (first | (apply G_on; exact rfl; first | ((first | apply G1_assign | apply G1_move | apply G1_neg); exact rfl; exact rfl) | (apply G1_convE; exact rfl; exact T.i46; exact T.i3; exact rfl; exact rfl) | (apply G1_call (f := 32); exact rfl; exact rfl; exact rfl; exact rprint_spec (hfit _); rintro _ w3 ⟨rfl, hx3⟩; refine ⟨(by first | exact .inl rfl | exact .inr (by assumption)), ?_⟩) | (apply G1_slen; exact T.str9; exact rfl; exact rfl) | ((first | apply G1_eql | apply G1_gtr | apply G1_lss | apply G1_sneq); exact rfl; exact rfl; exact rfl) | (apply G1_pick_t; exact rfl; exact rfl; exact rfl) | (apply G1_pick_f; exact rfl; exact rfl; exact rfl) | (apply G1_sindex; exact T.str9; exact rfl; exact rfl; omega; omega; exact rfl) | (apply G1_convu64; exact rfl; exact T.i5; exact T.i46; omega; omega; exact rfl) | (apply G1_add; exact rfl; exact rfl; omega; omega; exact rfl) | (apply G1_convi64; exact rfl; exact T.i46; exact T.i3; omega; omega; exact rfl)) | apply G_nil | apply Post_next | apply W_seq | apply W_region | (apply W_cond_true; exact rfl) | (apply W_cond_false; exact rfl) | (apply W_cond_dec; exact rfl; all_goals (intro h; try (exfalso; omega))) | (apply W_cond; exact rfl; all_goals intro h) | (apply G_off; exact rfl; exact rfl) | ((fail_if_success (apply G_on; exact rfl)); apply G_split_dec; exact rfl; exact rfl; all_goals (intro h; try (exfalso; omega))) | ((fail_if_success (apply G_on; exact rfl)); apply G_split; exact rfl; exact rfl; all_goals intro h) | apply W_skip | apply W_exit | apply W_ret | apply W_block | apply Post_then_ret | apply Post_block_ret | apply Post_then_exit | apply Post_block_exit | (apply Post_block_other; exact rfl) | apply Post_block_normal)
        all_goals try exact absurd (by first | assumption | (simpa using h)) (hne _)
        all_goals
          refine Post_ret Tryd.results27 ⟨_, _, rfl, rfl, _, _, rfl, rfl, rfl⟩ ?_
          exact ⟨rfl, (by repeat first | assumption | exact Ext.rfl' | apply Ext.drew | apply Ext.alloc | refine Ext.trans ?_ (by assumption))⟩
    · refine W_loop (ι := Nat × Int) (fun y => [(0, .string s), (4, .int .i64 0), (5, .int .u64 y.2), (6, .int .i64 (y.1 : Int))]) (fun y w' => Ext w w' ∧ y.1 ≤ s.size) (fun y => s.size - y.1) (0, 0) ⟨rfl, rfl, rfl, rfl, trivial⟩ ⟨(by repeat first | assumption | exact Ext.rfl' | apply Ext.drew | apply Ext.alloc | refine Ext.trans ?_ (by assumption)), by simp only; omega⟩ ?_
      rintro ⟨i, U⟩ w2 ⟨hx, hi⟩
      simp only at hi
      refine W_keep [(0, .string s), (4, .int .i64 0), (5, .int .u64 U), (6, .int .i64 (i : Int))] ⟨rfl, rfl, rfl, rfl, trivial⟩ ?_
      by_cases hlt : i < s.size
      · repeat' (first | (apply G_on; exact rfl; first | ((first | apply G1_assign | apply G1_move | apply G1_neg); exact rfl; exact rfl) | (apply G1_sindexJ (q := i); exact T.str9; exact rfl; exact rfl; exact rfl; omega; exact rfl) | (apply G1_mulw (k := .u64); exact rfl; exact rfl; exact rfl) | (apply G1_addw (k := .u64); exact rfl; exact rfl; exact rfl) | (apply G1_subw (k := .u8); exact rfl; exact rfl; exact rfl) | (apply G1_convE; exact rfl; exact T.i5; exact T.i46; exact rfl; exact rfl) | (apply G1_slen; exact T.str9; exact rfl; exact rfl) | ((first | apply G1_eql | apply G1_gtr | apply G1_lss | apply G1_sneq); exact rfl; exact rfl; exact rfl) | (apply G1_pick_t; exact rfl; exact rfl; exact rfl) | (apply G1_pick_f; exact rfl; exact rfl; exact rfl) | (apply G1_sindex; exact T.str9; exact rfl; exact rfl; omega; omega; exact rfl) | (apply G1_convu64; exact rfl; exact T.i5; exact T.i46; omega; omega; exact rfl) | (apply G1_add; exact rfl; exact rfl; omega; omega; exact rfl) | (apply G1_convi64; exact rfl; exact T.i46; exact T.i3; omega; omega; exact rfl)) | apply G_nil | apply Post_next | apply W_seq | apply W_region | (apply W_cond_true; exact rfl) | (apply W_cond_false; exact rfl) | (apply W_cond_dec; exact rfl; all_goals (intro h; try (exfalso; omega))) | (apply W_cond; exact rfl; all_goals intro h) | (apply G_off; exact rfl; exact rfl) | ((fail_if_success (apply G_on; exact rfl)); apply G_split_dec; exact rfl; exact rfl; all_goals (intro h; try (exfalso; omega))) | ((fail_if_success (apply G_on; exact rfl)); apply G_split; exact rfl; exact rfl; all_goals intro h) | apply W_skip | apply W_exit | apply W_ret | apply W_block | apply Post_then_ret | apply Post_block_ret | apply Post_then_exit | apply Post_block_exit | (apply Post_block_other; exact rfl) | apply Post_block_normal)
        all_goals first
          | exact Post_round (i + 1, _) ⟨rfl, rfl, rfl, rfl, trivial⟩ ⟨(by repeat first | assumption | exact Ext.rfl' | apply Ext.drew | apply Ext.alloc | refine Ext.trans ?_ (by assumption)), by simp only; omega⟩ (by simp only; omega)
          | (refine Post_ret Tryd.results27 ⟨_, _, rfl, rfl, _, _, rfl, rfl, rfl⟩ ?_
             exact ⟨rfl, (by repeat first | assumption | exact Ext.rfl' | apply Ext.drew | apply Ext.alloc | refine Ext.trans ?_ (by assumption))⟩)
      · repeat' (first | (apply G_on; exact rfl; first | ((first | apply G1_assign | apply G1_move | apply G1_neg); exact rfl; exact rfl) | (apply G1_convE; exact rfl; exact T.i46; exact T.i3; exact rfl; exact rfl) | (apply G1_call (f := 32); exact rfl; exact rfl; exact rfl; exact rprint_spec (hfit _); rintro _ w3 ⟨rfl, hx3⟩; refine ⟨(by first | exact .inl rfl | exact .inr (by assumption)), ?_⟩) | (apply G1_slen; exact T.str9; exact rfl; exact rfl) | ((first | apply G1_eql | apply G1_gtr | apply G1_lss | apply G1_sneq); exact rfl; exact rfl; exact rfl) | (apply G1_pick_t; exact rfl; exact rfl; exact rfl) | (apply G1_pick_f; exact rfl; exact rfl; exact rfl) | (apply G1_sindex; exact T.str9; exact rfl; exact rfl; omega; omega; exact rfl) | (apply G1_convu64; exact rfl; exact T.i5; exact T.i46; omega; omega; exact rfl) | (apply G1_add; exact rfl; exact rfl; omega; omega; exact rfl) | (apply G1_convi64; exact rfl; exact T.i46; exact T.i3; omega; omega; exact rfl)) | apply G_nil | apply Post_next | apply W_seq | apply W_region | (apply W_cond_true; exact rfl) | (apply W_cond_false; exact rfl) | (apply W_cond_dec; exact rfl; all_goals (intro h; try (exfalso; omega))) | (apply W_cond; exact rfl; all_goals intro h) | (apply G_off; exact rfl; exact rfl) | ((fail_if_success (apply G_on; exact rfl)); apply G_split_dec; exact rfl; exact rfl; all_goals (intro h; try (exfalso; omega))) | ((fail_if_success (apply G_on; exact rfl)); apply G_split; exact rfl; exact rfl; all_goals intro h) | apply W_skip | apply W_exit | apply W_ret | apply W_block | apply Post_then_ret | apply Post_block_ret | apply Post_then_exit | apply Post_block_exit | (apply Post_block_other; exact rfl) | apply Post_block_normal)
        all_goals try exact absurd (by first | assumption | (simpa using h)) (hne _)
        all_goals
          refine Post_ret Tryd.results27 ⟨_, _, rfl, rfl, _, _, rfl, rfl, rfl⟩ ?_
          exact ⟨rfl, (by repeat first | assumption | exact Ext.rfl' | apply Ext.drew | apply Ext.alloc | refine Ext.trans ?_ (by assumption))⟩

theorem rparse_yes {s : ByteArray} {m : Int} {w : World} (h0 : IsNum s m) : Ctr Tryd.prog 27 [.string s] w (fun r w' => r = .tuple #[.int .i64 m, .bool true] ∧ Ext w w') := by
  obtain ⟨hf, hs⟩ := h0
  have hsl : s.data.toList = Lib.itoa m := by rw [← hs, itoaB_list]
  have hsz := itoa_size hf
  rw [hs] at hsz
  have hlen : s.data.toList.length = s.size := by rw [Array.length_toList]; rfl
  obtain ⟨D, hDe⟩ : ∃ D, D = Lib.decDigits m.natAbs := ⟨_, rfl⟩
  have hval : valN 0 D = m.natAbs := by rw [hDe, val_dec]
  have hdig : ∀ c ∈ D, 48 ≤ c.toNat ∧ c.toNat ≤ 57 := fun c hc => by rw [hDe] at hc; exact ⟨dec_ge _ c hc, dec_le _ c hc⟩
  have hpos : 0 < D.length := by rw [hDe, Lib.decDigits_length]; have := Lib.nDigits_pos m.natAbs; omega
  unfold fit64 at hf
  by_cases hneg : m < 0
  · have hsD : s.data.toList = 45 :: D := by rw [hsl, hDe]; unfold Lib.itoa; rw [if_pos hneg]
    have hD : s.data.toList.drop 1 = D := by rw [hsD]; rfl
    have hDl : s.size = 1 + D.length := by rw [← hlen, hsD, List.length_cons]; omega
    have hb0 : bget s 0 = 45 := by
      have h1 := list_bget' (s := s) (k := 0) (by omega)
      rw [hsD] at h1
      injection h1 with h1; exact h1.symm
    have hz1 : IntKind.i64.wrap (IntKind.u64.wrap (0 - (m.natAbs : Int))) = m := by simp only [IntKind.wrap_i64, IntKind.wrap_u64]; omega
    have hz2 := hz1
    refine Ctr_of Tryd.func27 Tryd.ntmps27 rfl rfl rfl ?_
    repeat' (first | (apply G_on; exact rfl; first | ((first | apply G1_assign | apply G1_move | apply G1_neg); exact rfl; exact rfl) | (apply G1_sindexJ (q := 0); exact T.str9; exact rfl; exact rfl; exact rfl; omega; exact rfl; rw [hb0]) | (apply G1_slen; exact T.str9; exact rfl; exact rfl) | ((first | apply G1_eql | apply G1_gtr | apply G1_lss | apply G1_sneq); exact rfl; exact rfl; exact rfl) | (apply G1_pick_t; exact rfl; exact rfl; exact rfl) | (apply G1_pick_f; exact rfl; exact rfl; exact rfl) | (apply G1_sindex; exact T.str9; exact rfl; exact rfl; omega; omega; exact rfl) | (apply G1_convu64; exact rfl; exact T.i5; exact T.i46; omega; omega; exact rfl) | (apply G1_add; exact rfl; exact rfl; omega; omega; exact rfl) | (apply G1_convi64; exact rfl; exact T.i46; exact T.i3; omega; omega; exact rfl)) | apply G_nil | apply Post_next | apply W_seq | apply W_region | (apply W_cond_true; exact rfl) | (apply W_cond_false; exact rfl) | (apply W_cond_dec; exact rfl; all_goals (intro h; try (exfalso; omega))) | (apply W_cond; exact rfl; all_goals intro h) | (apply G_off; exact rfl; exact rfl) | ((fail_if_success (apply G_on; exact rfl)); apply G_split_dec; exact rfl; exact rfl; all_goals (intro h; try (exfalso; omega))) | ((fail_if_success (apply G_on; exact rfl)); apply G_split; exact rfl; exact rfl; all_goals intro h) | apply W_skip | apply W_exit | apply W_ret | apply W_block | apply Post_then_ret | apply Post_block_ret | apply Post_then_exit | apply Post_block_exit | (apply Post_block_other; exact rfl) | apply Post_block_normal)
    refine W_loop (ι := Nat) (fun j => [(0, .string s), (4, .int .i64 1), (5, .int .u64 (valN 0 (D.take j) : Int)), (6, .int .i64 ((1 + j : Nat) : Int))]) (fun j w' => Ext w w' ∧ j ≤ D.length) (fun j => D.length - j) 0 ⟨rfl, rfl, rfl, rfl, trivial⟩ ⟨(by repeat first | assumption | exact Ext.rfl' | apply Ext.drew | apply Ext.alloc | refine Ext.trans ?_ (by assumption)), Nat.zero_le _⟩ ?_
    rintro j w2 ⟨hx, hj⟩
    by_cases hlt : j < D.length
    · obtain ⟨c, hc⟩ := get_some hlt
      have hbc : bget s (1 + j) = c := by
        have h1 := list_bget' (s := s) (k := 1 + j) (by omega)
        rw [← List.getElem?_drop, hD, hc] at h1
        injection h1 with h1; exact h1.symm
      have hd := hdig c (List.mem_of_getElem? hc)
      have hst : D.take (j + 1) = D.take j ++ [c] := by rw [List.take_add_one, hc]; rfl
      have hv1 : valN 0 (D.take (j + 1)) = valN 0 (D.take j) * 10 + (c.toNat - 48) := by rw [hst, valN_snoc]
      have hv2 : valN 0 (D.take (j + 1)) ≤ m.natAbs := by
        have h3 := valN_ge (D.drop (j + 1)) (valN 0 (D.take (j + 1)))
        rw [← valN_app, List.take_append_drop, hval] at h3; exact h3
      have q1 : IntKind.u64.wrap ((valN 0 (D.take j) : Int) * 10) = ((valN 0 (D.take j) * 10 : Nat) : Int) := by simp only [IntKind.wrap_u64]; omega
      have q2 : IntKind.u8.wrap ((c.toNat : Int) - 48) = ((c.toNat - 48 : Nat) : Int) := by rw [wrap_u8 (by omega) (by omega)]; omega
      have q3 : IntKind.u64.wrap ((c.toNat - 48 : Nat) : Int) = ((c.toNat - 48 : Nat) : Int) := wrap_u64 (by omega) (by omega)
      have q4 : IntKind.u64.wrap (((valN 0 (D.take j) * 10 : Nat) : Int) + ((c.toNat - 48 : Nat) : Int)) = (valN 0 (D.take (j + 1)) : Int) := by rw [hv1] at hv2 ⊢; simp only [IntKind.wrap_u64]; omega
      repeat' (first | (apply G_on; exact rfl; first | ((first | apply G1_assign | apply G1_move | apply G1_neg); exact rfl; exact rfl) | (apply G1_sindexJ (q := 1 + j); exact T.str9; exact rfl; exact rfl; exact rfl; omega; exact rfl; rw [hbc]) | (apply G1_mulE (k := .u64) (r := ((valN 0 (D.take j) * 10 : Nat) : Int)); exact rfl; exact rfl; exact q1; exact rfl) | (apply G1_addE (k := .u64) (r := (valN 0 (D.take (j + 1)) : Int)); exact rfl; exact rfl; exact q4; exact rfl) | (apply G1_convE (j := ((c.toNat - 48 : Nat) : Int)); exact rfl; exact T.i5; exact T.i46; exact q3; exact rfl) | (refine G1_subw (k := .u8) rfl rfl rfl ?_; rw [q2]) | (apply G1_slen; exact T.str9; exact rfl; exact rfl) | ((first | apply G1_eql | apply G1_gtr | apply G1_lss | apply G1_sneq); exact rfl; exact rfl; exact rfl) | (apply G1_pick_t; exact rfl; exact rfl; exact rfl) | (apply G1_pick_f; exact rfl; exact rfl; exact rfl) | (apply G1_sindex; exact T.str9; exact rfl; exact rfl; omega; omega; exact rfl) | (apply G1_convu64; exact rfl; exact T.i5; exact T.i46; omega; omega; exact rfl) | (apply G1_add; exact rfl; exact rfl; omega; omega; exact rfl) | (apply G1_convi64; exact rfl; exact T.i46; exact T.i3; omega; omega; exact rfl)) | apply G_nil | apply Post_next | apply W_seq | apply W_region | (apply W_cond_true; exact rfl) | (apply W_cond_false; exact rfl) | (apply W_cond_dec; exact rfl; all_goals (intro h; try (exfalso; omega))) | (apply W_cond; exact rfl; all_goals intro h) | (apply G_off; exact rfl; exact rfl) | ((fail_if_success (apply G_on; exact rfl)); apply G_split_dec; exact rfl; exact rfl; all_goals (intro h; try (exfalso; omega))) | ((fail_if_success (apply G_on; exact rfl)); apply G_split; exact rfl; exact rfl; all_goals intro h) | apply W_skip | apply W_exit | apply W_ret | apply W_block | apply Post_then_ret | apply Post_block_ret | apply Post_then_exit | apply Post_block_exit | (apply Post_block_other; exact rfl) | apply Post_block_normal)
      all_goals exact Post_round (j + 1) ⟨rfl, rfl, rfl, rfl, trivial⟩ ⟨(by repeat first | assumption | exact Ext.rfl' | apply Ext.drew | apply Ext.alloc | refine Ext.trans ?_ (by assumption)), by omega⟩ (by omega)
    · have hjD : D.take j = D := List.take_of_length_le (by omega)
      rw [hjD, hval]
      repeat' (first | (apply G_on; exact rfl; first | ((first | apply G1_assign | apply G1_move | apply G1_neg); exact rfl; exact rfl) | (apply G1_convE (j := m); exact rfl; exact T.i46; exact T.i3; (first | exact hz1 | exact hz2); exact rfl) | (apply G1_convE; exact rfl; exact T.i46; exact T.i3; exact rfl; exact rfl) | (apply G1_call (f := 32); exact rfl; exact rfl; exact rfl; exact rprint_spec hf; rintro _ w3 ⟨rfl, hx3⟩; refine ⟨(by first | exact .inl rfl | exact .inr (by assumption)), ?_⟩) | (apply G1_slen; exact T.str9; exact rfl; exact rfl) | ((first | apply G1_eql | apply G1_gtr | apply G1_lss | apply G1_sneq); exact rfl; exact rfl; exact rfl) | (apply G1_pick_t; exact rfl; exact rfl; exact rfl) | (apply G1_pick_f; exact rfl; exact rfl; exact rfl) | (apply G1_sindex; exact T.str9; exact rfl; exact rfl; omega; omega; exact rfl) | (apply G1_convu64; exact rfl; exact T.i5; exact T.i46; omega; omega; exact rfl) | (apply G1_add; exact rfl; exact rfl; omega; omega; exact rfl) | (apply G1_convi64; exact rfl; exact T.i46; exact T.i3; omega; omega; exact rfl)) | apply G_nil | apply Post_next | apply W_seq | apply W_region | (apply W_cond_true; exact rfl) | (apply W_cond_false; exact rfl) | (apply W_cond_dec; exact rfl; all_goals (intro h; try (exfalso; omega))) | (apply W_cond; exact rfl; all_goals intro h) | (apply G_off; exact rfl; exact rfl) | ((fail_if_success (apply G_on; exact rfl)); apply G_split_dec; exact rfl; exact rfl; all_goals (intro h; try (exfalso; omega))) | ((fail_if_success (apply G_on; exact rfl)); apply G_split; exact rfl; exact rfl; all_goals intro h) | apply W_skip | apply W_exit | apply W_ret | apply W_block | apply Post_then_ret | apply Post_block_ret | apply Post_then_exit | apply Post_block_exit | (apply Post_block_other; exact rfl) | apply Post_block_normal)
      all_goals try contradiction
      all_goals
        refine Post_ret Tryd.results27 ⟨_, _, rfl, rfl, _, _, rfl, rfl, rfl⟩ ?_
        exact ⟨rfl, (by repeat first | assumption | exact Ext.rfl' | apply Ext.drew | apply Ext.alloc | refine Ext.trans ?_ (by assumption))⟩
  · have hsD : s.data.toList = D := by rw [hsl, hDe]; unfold Lib.itoa; rw [if_neg hneg]; congr 1; omega
    have hD : s.data.toList.drop 0 = D := by rw [hsD]; rfl
    have hDl : s.size = 0 + D.length := by rw [← hlen, hsD]; omega
    obtain ⟨c0, hc0⟩ := get_some hpos
    have hb0 : bget s 0 = c0 := by
      have h1 := list_bget' (s := s) (k := 0) (by omega)
      rw [hsD, hc0] at h1
      injection h1 with h1; exact h1.symm
    have hd0 := hdig c0 (List.mem_of_getElem? hc0)
    have hz1 : IntKind.i64.wrap (m.natAbs : Int) = m := by simp only [IntKind.wrap_i64]; omega
    have hz2 := hz1
    refine Ctr_of Tryd.func27 Tryd.ntmps27 rfl rfl rfl ?_
    repeat' (first | (apply G_on; exact rfl; first | ((first | apply G1_assign | apply G1_move | apply G1_neg); exact rfl; exact rfl) | (apply G1_sindexJ (q := 0); exact T.str9; exact rfl; exact rfl; exact rfl; omega; exact rfl; rw [hb0]) | (apply G1_slen; exact T.str9; exact rfl; exact rfl) | ((first | apply G1_eql | apply G1_gtr | apply G1_lss | apply G1_sneq); exact rfl; exact rfl; exact rfl) | (apply G1_pick_t; exact rfl; exact rfl; exact rfl) | (apply G1_pick_f; exact rfl; exact rfl; exact rfl) | (apply G1_sindex; exact T.str9; exact rfl; exact rfl; omega; omega; exact rfl) | (apply G1_convu64; exact rfl; exact T.i5; exact T.i46; omega; omega; exact rfl) | (apply G1_add; exact rfl; exact rfl; omega; omega; exact rfl) | (apply G1_convi64; exact rfl; exact T.i46; exact T.i3; omega; omega; exact rfl)) | apply G_nil | apply Post_next | apply W_seq | apply W_region | (apply W_cond_true; exact rfl) | (apply W_cond_false; exact rfl) | (apply W_cond_dec; exact rfl; all_goals (intro h; try (exfalso; omega))) | (apply W_cond; exact rfl; all_goals intro h) | (apply G_off; exact rfl; exact rfl) | ((fail_if_success (apply G_on; exact rfl)); apply G_split_dec; exact rfl; exact rfl; all_goals (intro h; try (exfalso; omega))) | ((fail_if_success (apply G_on; exact rfl)); apply G_split; exact rfl; exact rfl; all_goals intro h) | apply W_skip | apply W_exit | apply W_ret | apply W_block | apply Post_then_ret | apply Post_block_ret | apply Post_then_exit | apply Post_block_exit | (apply Post_block_other; exact rfl) | apply Post_block_normal)
    refine W_loop (ι := Nat) (fun j => [(0, .string s), (4, .int .i64 0), (5, .int .u64 (valN 0 (D.take j) : Int)), (6, .int .i64 ((0 + j : Nat) : Int))]) (fun j w' => Ext w w' ∧ j ≤ D.length) (fun j => D.length - j) 0 ⟨rfl, rfl, rfl, rfl, trivial⟩ ⟨(by repeat first | assumption | exact Ext.rfl' | apply Ext.drew | apply Ext.alloc | refine Ext.trans ?_ (by assumption)), Nat.zero_le _⟩ ?_
    rintro j w2 ⟨hx, hj⟩
    by_cases hlt : j < D.length
    · obtain ⟨c, hc⟩ := get_some hlt
      have hbc : bget s (0 + j) = c := by
        have h1 := list_bget' (s := s) (k := 0 + j) (by omega)
        rw [← List.getElem?_drop, hD, hc] at h1
        injection h1 with h1; exact h1.symm
      have hd := hdig c (List.mem_of_getElem? hc)
      have hst : D.take (j + 1) = D.take j ++ [c] := by rw [List.take_add_one, hc]; rfl
      have hv1 : valN 0 (D.take (j + 1)) = valN 0 (D.take j) * 10 + (c.toNat - 48) := by rw [hst, valN_snoc]
      have hv2 : valN 0 (D.take (j + 1)) ≤ m.natAbs := by
        have h3 := valN_ge (D.drop (j + 1)) (valN 0 (D.take (j + 1)))
        rw [← valN_app, List.take_append_drop, hval] at h3; exact h3
      have q1 : IntKind.u64.wrap ((valN 0 (D.take j) : Int) * 10) = ((valN 0 (D.take j) * 10 : Nat) : Int) := by simp only [IntKind.wrap_u64]; omega
      have q2 : IntKind.u8.wrap ((c.toNat : Int) - 48) = ((c.toNat - 48 : Nat) : Int) := by rw [wrap_u8 (by omega) (by omega)]; omega
      have q3 : IntKind.u64.wrap ((c.toNat - 48 : Nat) : Int) = ((c.toNat - 48 : Nat) : Int) := wrap_u64 (by omega) (by omega)
      have q4 : IntKind.u64.wrap (((valN 0 (D.take j) * 10 : Nat) : Int) + ((c.toNat - 48 : Nat) : Int)) = (valN 0 (D.take (j + 1)) : Int) := by rw [hv1] at hv2 ⊢; simp only [IntKind.wrap_u64]; omega
      repeat' (first | (apply G_on; exact rfl; first | ((first | apply G1_assign | apply G1_move | apply G1_neg); exact rfl; exact rfl) | (apply G1_sindexJ (q := 0 + j); exact T.str9; exact rfl; exact rfl; exact rfl; omega; exact rfl; rw [hbc]) | (apply G1_mulE (k := .u64) (r := ((valN 0 (D.take j) * 10 : Nat) : Int)); exact rfl; exact rfl; exact q1; exact rfl) | (apply G1_addE (k := .u64) (r := (valN 0 (D.take (j + 1)) : Int)); exact rfl; exact rfl; exact q4; exact rfl) | (apply G1_convE (j := ((c.toNat - 48 : Nat) : Int)); exact rfl; exact T.i5; exact T.i46; exact q3; exact rfl) | (refine G1_subw (k := .u8) rfl rfl rfl ?_; rw [q2]) | (apply G1_slen; exact T.str9; exact rfl; exact rfl) | ((first | apply G1_eql | apply G1_gtr | apply G1_lss | apply G1_sneq); exact rfl; exact rfl; exact rfl) | (apply G1_pick_t; exact rfl; exact rfl; exact rfl) | (apply G1_pick_f; exact rfl; exact rfl; exact rfl) | (apply G1_sindex; exact T.str9; exact rfl; exact rfl; omega; omega; exact rfl) | (apply G1_convu64; exact rfl; exact T.i5; exact T.i46; omega; omega; exact rfl) | (apply G1_add; exact rfl; exact rfl; omega; omega; exact rfl) | (apply G1_convi64; exact rfl; exact T.i46; exact T.i3; omega; omega; exact rfl)) | apply G_nil | apply Post_next | apply W_seq | apply W_region | (apply W_cond_true; exact rfl) | (apply W_cond_false; exact rfl) | (apply W_cond_dec; exact rfl; all_goals (intro h; try (exfalso; omega))) | (apply W_cond; exact rfl; all_goals intro h) | (apply G_off; exact rfl; exact rfl) | ((fail_if_success (apply G_on; exact rfl)); apply G_split_dec; exact rfl; exact rfl; all_goals (intro h; try (exfalso; omega))) | ((fail_if_success (apply G_on; exact rfl)); apply G_split; exact rfl; exact rfl; all_goals intro h) | apply W_skip | apply W_exit | apply W_ret | apply W_block | apply Post_then_ret | apply Post_block_ret | apply Post_then_exit | apply Post_block_exit | (apply Post_block_other; exact rfl) | apply Post_block_normal)
      all_goals exact Post_round (j + 1) ⟨rfl, rfl, rfl, rfl, trivial⟩ ⟨(by repeat first | assumption | exact Ext.rfl' | apply Ext.drew | apply Ext.alloc | refine Ext.trans ?_ (by assumption)), by omega⟩ (by omega)
    · have hjD : D.take j = D := List.take_of_length_le (by omega)
      rw [hjD, hval]
      repeat' (first | (apply G_on; exact rfl; first | ((first | apply G1_assign | apply G1_move | apply G1_neg); exact rfl; exact rfl) | (apply G1_convE (j := m); exact rfl; exact T.i46; exact T.i3; (first | exact hz1 | exact hz2); exact rfl) | (apply G1_convE; exact rfl; exact T.i46; exact T.i3; exact rfl; exact rfl) | (apply G1_call (f := 32); exact rfl; exact rfl; exact rfl; exact rprint_spec hf; rintro _ w3 ⟨rfl, hx3⟩; refine ⟨(by first | exact .inl rfl | exact .inr (by assumption)), ?_⟩) | (apply G1_slen; exact T.str9; exact rfl; exact rfl) | ((first | apply G1_eql | apply G1_gtr | apply G1_lss | apply G1_sneq); exact rfl; exact rfl; exact rfl) | (apply G1_pick_t; exact rfl; exact rfl; exact rfl) | (apply G1_pick_f; exact rfl; exact rfl; exact rfl) | (apply G1_sindex; exact T.str9; exact rfl; exact rfl; omega; omega; exact rfl) | (apply G1_convu64; exact rfl; exact T.i5; exact T.i46; omega; omega; exact rfl) | (apply G1_add; exact rfl; exact rfl; omega; omega; exact rfl) | (apply G1_convi64; exact rfl; exact T.i46; exact T.i3; omega; omega; exact rfl)) | apply G_nil | apply Post_next | apply W_seq | apply W_region | (apply W_cond_true; exact rfl) | (apply W_cond_false; exact rfl) | (apply W_cond_dec; exact rfl; all_goals (intro h; try (exfalso; omega))) | (apply W_cond; exact rfl; all_goals intro h) | (apply G_off; exact rfl; exact rfl) | ((fail_if_success (apply G_on; exact rfl)); apply G_split_dec; exact rfl; exact rfl; all_goals (intro h; try (exfalso; omega))) | ((fail_if_success (apply G_on; exact rfl)); apply G_split; exact rfl; exact rfl; all_goals intro h) | apply W_skip | apply W_exit | apply W_ret | apply W_block | apply Post_then_ret | apply Post_block_ret | apply Post_then_exit | apply Post_block_exit | (apply Post_block_other; exact rfl) | apply Post_block_normal)
      all_goals try contradiction
      all_goals
        refine Post_ret Tryd.results27 ⟨_, _, rfl, rfl, _, _, rfl, rfl, rfl⟩ ?_
        exact ⟨rfl, (by repeat first | assumption | exact Ext.rfl' | apply Ext.drew | apply Ext.alloc | refine Ext.trans ?_ (by assumption))⟩
end Go.Proofs.YtfaadijingcmhaaDoor
