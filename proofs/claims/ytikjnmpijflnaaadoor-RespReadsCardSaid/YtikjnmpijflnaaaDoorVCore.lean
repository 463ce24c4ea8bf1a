/- The region and code rules of this prover's own walk: environments of slots, one canonical order for regions that draw their order, rules for each kind of code. -/
import Derived.Orders
import Derived.Below
namespace Go.V
open Go.RowKit

/-- w' has all blocks of w as they were; there may be more. -/
abbrev Ext (w w' : World) : Prop := Below w.heap.size w w'

theorem Ext.rfl' {w : World} : Ext w w := Below.refl _ _
theorem Ext.trans {a b c : World} (h : Ext a b) (k : Ext b c) : Ext a c := Below.trans h (k.mono h.size)

/-- the blocks that may be turned: those of S; if S is of two, all from the second on, too -/
def exempt (S : List Nat) (k : Nat) : Bool := S.contains k || match S with
  | [_, l] => Nat.ble l k
  | _ => false

/-- the same, but for the blocks of S -/
structure ExtS (S : List Nat) (w w' : World) : Prop where
  os : w'.os = w.os
  tape : w'.tape = w.tape
  output : w'.output = w.output
  size : w.heap.size ≤ w'.heap.size
  block : ∀ k, k < w.heap.size → exempt S k = false → w'.heap[k]? = w.heap[k]?
theorem ExtS.of_grown {S : List Nat} {row : Option Nat} {w w' : World} (hg : w.grownBy w' row) (h : ∀ k, row = some k → exempt S k = true) : ExtS S w w' :=
  ⟨hg.os, hg.tape, hg.output, hg.size, fun k hk hs => hg.block k hk (fun e => by rw [h k e.symm] at hs; cases hs)⟩
theorem ExtS.rfl' {S : List Nat} {w : World} : ExtS S w w := ⟨rfl, rfl, rfl, Nat.le_refl _, fun _ _ _ => rfl⟩
theorem ExtS.trans {S : List Nat} {a b c : World} (h : ExtS S a b) (k : ExtS S b c) : ExtS S a c :=
  ⟨k.os.trans h.os, k.tape.trans h.tape, k.output.trans h.output, Nat.le_trans h.size k.size, fun i hi hs => (k.block i (Nat.lt_of_lt_of_le hi h.size) hs).trans (h.block i hi hs)⟩
theorem Ext.toS {S : List Nat} {w w' : World} (h : Ext w w') : ExtS S w w' := ⟨h.os, h.tape, h.output, h.size, fun k hk _ => h.block k hk⟩
theorem ExtS.toE {w w' : World} (h : ExtS [] w w') : Ext w w' := ⟨h.os, h.tape, h.output, h.size, fun k hk => h.block k hk rfl⟩

def QF : Exit → Act → World → Prop := fun _ _ _ => False

/-- the run of one operation, wanted, with no way out but the next step -/
def stepX (P : Program) (S : List Nat) (wr : Oper → Bool) (o : Oper) (K : Act → World → Prop) (a : Act) (w : World) : Prop :=
  o.wp P a w (fun a' w' => (wr o = true ∨ ExtS S w w') ∧ K a' w') QF

def opX (P : Program) (S : List Nat) (ops : Array Oper) (wr : Oper → Bool) (i : Nat) (K : Act → World → Prop) (a : Act) (w : World) : Prop :=
  match ops[i]? with
  | none => K a w
  | some o => if Region.wanted o (yielded ops a.tmps) then stepX P S wr o K a w else K (a.put o.dst undef) w

def wpX (P : Program) (S : List Nat) (ops : Array Oper) (wr : Oper → Bool) (K : Act → World → Prop) : Nat → Array Bool → Act → World → Prop
  | 0, listed, a, w => Region.ready .any ops listed = [] ∧ K a w
  | fuel + 1, listed, a, w =>
    (Region.ready .any ops listed = [] → K a w) ∧
    ∀ i ∈ Region.ready .any ops listed, opX P S ops wr i (wpX P S ops wr K fuel (listed.setIfInBounds i true)) a w

theorem wp_QF {P : Program} {o : Oper} {a : Act} {w : World} {K : Act → World → Prop} {Q : Exit → Act → World → Prop} (h : o.wp P a w K QF) : o.wp P a w K Q := by
  unfold Oper.wp at *
  generalize (execOp a.eval o).run P w = r at *
  cases r with
  | ok n w' =>
    cases n <;> simp only [Oper.upon] at h ⊢ <;>
      first
        | exact h
        | exact Calls.mono h (fun e w'' he => by cases e with | returned v => exact he | panicked c => exact he.elim | outgrown => obtain ⟨_, _, hh⟩ := he; exact hh.elim)
  | halt x w' => cases x <;> simp only [Oper.upon] at h ⊢ <;> exact h.elim

theorem stepX_mono {P : Program} {S : List Nat} {wr : Oper → Bool} {o : Oper} {K K' : Act → World → Prop} {a : Act} {w : World} (h : ∀ a w, K a w → K' a w) (hh : stepX P S wr o K a w) : stepX P S wr o K' a w :=
  Oper.wp_mono (fun _ _ ⟨h1, h2⟩ => ⟨h1, h _ _ h2⟩) hh

theorem opX_mono {P : Program} {S : List Nat} {ops : Array Oper} {wr : Oper → Bool} {i : Nat} {K K' : Act → World → Prop} {a : Act} {w : World} (h : ∀ a w, K a w → K' a w) (hh : opX P S ops wr i K a w) : opX P S ops wr i K' a w := by
  unfold opX at *
  split
  · exact h _ _ (by simpa [*] using hh)
  · rename_i o ho
    simp only [ho] at hh
    split
    · rename_i hw; simp only [hw, if_true] at hh; exact stepX_mono h hh
    · rename_i hw; simp only [hw] at hh; exact h _ _ hh

theorem wpAny_of_wpX {P : Program} {S : List Nat} {ops : Array Oper} {wr : Oper → Bool} {K : Act → World → Prop} {Q : Exit → Act → World → Prop} (hQ : ∀ a w, K a w → Q .normal a w) :
    ∀ (fuel : Nat) (listed : Array Bool) (a : Act) (w : World), wpX P S ops wr K fuel listed a w → wpAny P .any ops Q fuel listed a w
  | 0, _, _, _, h => ⟨h.1, hQ _ _ h.2⟩
  | fuel + 1, listed, a, w, h => ⟨fun h0 => hQ _ _ (h.1 h0), fun i hi => by
      have h1 := opX_mono (fun a w => wpAny_of_wpX hQ fuel (listed.setIfInBounds i true) a w) (h.2 i hi)
      unfold opX at h1
      unfold wpOp
      split
      · rename_i ho; simp only [ho] at h1; exact h1
      · rename_i o ho
        simp only [ho] at h1
        split
        · rename_i hw; simp only [hw, if_true] at h1; exact .inl (wp_QF (Oper.wp_mono (fun _ _ h => h.2) h1))
        · rename_i hw; simp only [hw] at h1; exact h1⟩

/-- operation o yields v in w and in every extension of w; if it reads no memory: in every world -/
def YX (P : Program) (S : List Nat) (ops : Array Oper) (rd : Oper → Bool) (o : Oper) (v : Value) (a : Act) (w : World) : Prop :=
  (Region.wanted o (yielded ops a.tmps) = true ∧ ∀ w', (rd o = false ∨ ExtS S w w') → (execOp a.eval o).run P w' = .ok (.value v) w') ∨
  (Region.wanted o (yielded ops a.tmps) = false ∧ v = undef)

theorem YX.ext {P : Program} {S : List Nat} {ops : Array Oper} {rd : Oper → Bool} {o : Oper} {v : Value} {a : Act} {w w' : World} (h : YX P S ops rd o v a w) (hx : rd o = false ∨ ExtS S w w') : YX P S ops rd o v a w' := by
  rcases h with ⟨h1, h2⟩ | h
  · refine .inl ⟨h1, fun w'' h'' => h2 w'' ?_⟩
    rcases hx with hx | hx
    · exact .inl hx
    · rcases h'' with h'' | h''
      · exact .inl h''
      · exact .inr (hx.trans h'')
  · exact .inr h

theorem YX.opX {P : Program} {S : List Nat} {ops : Array Oper} {rd wr : Oper → Bool} {i : Nat} {o : Oper} {v : Value} {a : Act} {w : World} (hi : ops[i]? = some o) (hy : YX P S ops rd o v a w)
    {K : Act → World → Prop} (h : K (a.put o.dst v) w) : V.opX P S ops wr i K a w := by
  unfold V.opX
  simp only [hi]
  rcases hy with ⟨hw, hv⟩ | ⟨hw, rfl⟩
  · simp only [hw, if_true, stepX, Oper.wp, hv w (.inr ExtS.rfl'), Oper.upon]; exact ⟨.inr ExtS.rfl', h⟩
  · simp only [hw, Bool.false_eq_true, if_false]; exact h

theorem YX.of_same {P : Program} {S : List Nat} {ops : Array Oper} {rd : Oper → Bool} {o : Oper} {v : Value} {a a' : Act} {w : World} (hy : YX P S ops rd o v a w) (he : execOp a'.eval o = execOp a.eval o)
    (hw : Region.wanted o (yielded ops a'.tmps) = Region.wanted o (yielded ops a.tmps)) : YX P S ops rd o v a' w := by
  unfold YX at *
  rw [he, hw]
  exact hy

theorem opX_put {P : Program} {S : List Nat} {ops : Array Oper} {rd wr : Oper → Bool} {j : Nat} {oi oj : Oper} {v : Value} (hj : ops[j]? = some oj) (hap : oi.apart ops oj = true) (hnw : wr oj = false ∨ rd oi = false)
    (hsi : ∀ cs b, oi.op ≠ .select cs b) (hsj : ∀ cs b, oj.op ≠ .select cs b) {K : Act → World → Prop} {a : Act} {w : World}
    (hy : YX P S ops rd oi v a w) (h : opX P S ops wr j K (a.put oi.dst v) w) :
    opX P S ops wr j (fun a' w' => YX P S ops rd oi v a' w' ∧ K (a'.put oi.dst v) w') a w := by
  obtain ⟨h1, h2, h3⟩ := Oper.apart_spec hap
  have keep : ∀ (a : Act) (w : World), YX P S ops rd oi v a w → ∀ u, YX P S ops rd oi v (a.put oj.dst u) w := fun a w hy u =>
    hy.of_same (execOp_put oi hsi a oj.dst u h3) (wanted_put oi a oj.dst u h3)
  have tr : ∀ w', (wr oj = true ∨ ExtS S w w') → (rd oi = false ∨ ExtS S w w') := fun w' h => by
    rcases hnw with hn | hn
    · rw [hn] at h; exact .inr (by simpa using h)
    · exact .inl hn
  have keepD : ∀ w d, YX P S ops rd oi v a w → YX P S ops rd oi v { a with defers := d :: a.defers } w := fun w d hy => hy.of_same rfl rfl
  unfold opX at *
  simp only [hj] at *
  rw [wanted_put oj a oi.dst v h1] at h
  split
  · rename_i hw
    simp only [hw, if_true] at h
    unfold stepX Oper.wp at *
    rw [execOp_put oj hsj a oi.dst v h1] at h
    generalize (execOp a.eval oj).run P w = r at *
    cases r with
    | ok n w' =>
      cases n <;> simp only [Oper.upon] at h ⊢
      case value u => exact ⟨h.1, keep a _ (hy.ext (tr _ h.1)) u, by rw [← Act.put_comm a v u h2]; exact h.2⟩
      case skip => exact ⟨h.1, keep a _ (hy.ext (tr _ h.1)) _, by rw [← Act.put_comm a v undef h2]; exact h.2⟩
      case defer d =>
        refine ⟨h.1, keep _ _ (keepD _ d (hy.ext (tr _ h.1))) _, ?_⟩
        rw [← Act.put_comm _ v undef h2, ← Act.put_defers]
        exact h.2
      case enter f args =>
        refine Calls.mono h fun e w'' he => ?_
        cases e with
        | returned u => exact ⟨he.1, keep a _ (hy.ext (tr _ he.1)) u, by rw [← Act.put_comm a v u h2]; exact he.2⟩
        | panicked c => exact he
        | outgrown => exact he
      case row row args => exact Rows.mono h fun u w'' he => ⟨he.1, keep a _ (hy.ext (tr _ he.1)) u, by rw [← Act.put_comm a v u h2]; exact he.2⟩
    | halt x w' => cases x <;> simp only [Oper.upon] at h ⊢ <;> exact h
  · rename_i hw
    simp only [hw] at h
    exact ⟨keep a _ hy _, by rw [← Act.put_comm a v undef h2]; exact h⟩

theorem wpX_first {P : Program} {S : List Nat} {ops : Array Oper} {rd wr : Oper → Bool} {K : Act → World → Prop} {i : Nat} {oi : Oper} {v : Value} (hi : ops[i]? = some oi)
    (hsel : ∀ (j : Nat) (o : Oper) cs b, ops[j]? = some o → o.op ≠ .select cs b) :
    ∀ (fuel : Nat) (listed : Array Bool) (a : Act) (w : World),
      (∀ j oj, ops[j]? = some oj → j ≠ i → listed.getD j true = false → (∀ e ∈ oj.after, Region.binds .any e = true → e.on ≠ i) → oi.apart ops oj = true ∧ (wr oj = false ∨ rd oi = false)) →
      i ∈ Region.ready .any ops listed → YX P S ops rd oi v a w →
      wpX P S ops wr K fuel (listed.setIfInBounds i true) (a.put oi.dst v) w → wpX P S ops wr K (fuel + 1) listed a w := by
  intro fuel
  induction fuel with
  | zero =>
    intro listed a w _ hr hy H
    refine ⟨fun h => (by rw [h] at hr; cases hr), fun j hj => ?_⟩
    by_cases hji : j = i
    · subst hji; exact hy.opX hi H
    · have := ready_mono hj hji
      rw [H.1] at this
      cases this
  | succ fuel ih =>
    intro listed a w hfree hr hy H
    refine ⟨fun h => (by rw [h] at hr; cases hr), fun j hj => ?_⟩
    by_cases hji : j = i
    · subst hji; exact hy.opX hi H
    · have h1 := H.2 j (ready_mono hj hji)
      obtain ⟨hjun, oj, hoj, hall⟩ := mem_ready.1 hj
      have hnot : ∀ e ∈ oj.after, Region.binds .any e = true → e.on ≠ i := fun e he hb heq => by
        have h1 := hall e he hb
        have h0 := (mem_ready.1 hr).1
        rw [heq] at h1
        rcases Nat.lt_or_ge i listed.size with h' | h'
        · simp [h'] at h0 h1; rw [h0] at h1; cases h1
        · simp [Array.getElem?_eq_none h'] at h1
      obtain ⟨hap, hnw⟩ := hfree j oj hoj hji hjun hnot
      have h2 := opX_put hoj hap hnw (fun cs b => hsel i oi cs b hi) (fun cs b => hsel j oj cs b hoj) hy h1
      have hfree' : ∀ k ok, ops[k]? = some ok → k ≠ i → (listed.setIfInBounds j true).getD k true = false →
          (∀ e ∈ ok.after, Region.binds .any e = true → e.on ≠ i) → oi.apart ops ok = true ∧ (wr ok = false ∨ rd oi = false) := fun k ok hk hki hun hno => by
        refine hfree k ok hk hki ?_ hno
        by_cases hjk : j = k
        · subst hjk; exact hjun
        · rw [getD_set_ne true hjk] at hun; exact hun
      refine opX_mono (fun a' w' h3 => ih (listed.setIfInBounds j true) a' w' hfree' (ready_mono hr (Ne.symm hji)) h3.1 ?_) h2
      rw [Array.setIfInBounds_comm _ _ hji]
      exact h3.2

/-- every other operation that is still to come waits for i, or is apart from it and no write -/
def freeX (ops : Array Oper) (rd wr : Oper → Bool) (listed : Array Bool) (i : Nat) : Bool :=
  match ops[i]? with
  | none => false
  | some oi => (List.range ops.size).all fun j => j == i || listed.getD j true || match ops[j]? with
      | some oj => oj.after.any (fun e => Region.binds .any e && e.on == i) || (oi.apart ops oj && (!wr oj || !rd oi))
      | none => true

theorem freeX_spec {ops : Array Oper} {rd wr : Oper → Bool} {i : Nat} {oi : Oper} {listed : Array Bool} (hi : ops[i]? = some oi) (h : freeX ops rd wr listed i = true) (j : Nat) (oj : Oper)
    (hj : ops[j]? = some oj) (hne : j ≠ i) (hun : listed.getD j true = false) (hno : ∀ e ∈ oj.after, Region.binds .any e = true → e.on ≠ i) :
    oi.apart ops oj = true ∧ (wr oj = false ∨ rd oi = false) := by
  simp only [freeX, hi, List.all_eq_true, List.mem_range] at h
  have h1 := h j (Array.getElem?_eq_some_iff.1 hj).1
  simp only [hj, Bool.or_eq_true, beq_iff_eq, hne, false_or, hun, Bool.false_eq_true] at h1
  rcases h1 with h1 | h1
  · obtain ⟨e, he, hb⟩ := Array.any_eq_true'.1 h1
    simp only [Bool.and_eq_true, beq_iff_eq] at hb
    exact absurd hb.2 (hno e he hb.1)
  · simpa using h1

/-- the canonical order c serves every order: an operation with an effect comes up alone; every other one may be taken first -/
def okc (ops : Array Oper) (ef rd wr : Oper → Bool) : List Nat → Array Bool → Bool
  | [], listed => (Region.ready .any ops listed).isEmpty
  | i :: c, listed =>
    (if ef (ops.getD i default) then Region.ready .any ops listed == [i] else (Region.ready .any ops listed).contains i && freeX ops rd wr listed i) && okc ops ef rd wr c (listed.setIfInBounds i true)

/-- the walk of a list of operations, over frames -/
def GA (P : Program) (S : List Nat) (ops : Array Oper) (ef rd wr : Oper → Bool) (K : Act → World → Prop) : List Oper → Act → World → Prop
  | [], a, w => K a w
  | o :: l, a, w =>
    (∃ v, YX P S ops rd o v a w ∧ GA P S ops ef rd wr K l (a.put o.dst v) w) ∨
    (ef o = true ∧ Region.wanted o (yielded ops a.tmps) = true ∧ stepX P S wr o (GA P S ops ef rd wr K l) a w)

theorem GA_sound {P : Program} {S : List Nat} {ops : Array Oper} {ef rd wr : Oper → Bool} {K : Act → World → Prop} (hs : Region.noSelect ops = true) :
    ∀ (c : List Nat) (listed : Array Bool) (a : Act) (w : World), okc ops ef rd wr c listed = true →
      GA P S ops ef rd wr K (c.map fun i => ops.getD i default) a w → wpX P S ops wr K c.length listed a w
  | [], listed, a, w, hc, h => ⟨by simpa [okc] using hc, h⟩
  | i :: c, listed, a, w, hc, h => by
    simp only [okc, Bool.and_eq_true] at hc
    obtain ⟨h0, hc⟩ := hc
    have hmem : i ∈ Region.ready .any ops listed := by
      by_cases he : ef (ops.getD i default) = true
      · simp only [he, if_true, beq_iff_eq] at h0; rw [h0]; simp
      · simp only [he] at h0; simp at h0; exact h0.1
    obtain ⟨_, o, ho, _⟩ := mem_ready.1 hmem
    have hget : ops.getD i default = o := by
      have := Array.getElem?_eq_some_iff.1 ho
      simp [Array.getD, this.1, this.2]
    simp only [List.map_cons] at h
    rw [hget] at h h0
    simp only [GA] at h
    have alone : ef o = true → ∀ K', opX P S ops wr i K' a w → (∀ a w, K' a w → wpX P S ops wr K c.length (listed.setIfInBounds i true) a w) → wpX P S ops wr K (i :: c).length listed a w := by
      intro he K' hop hK
      simp only [he, if_true, beq_iff_eq] at h0
      refine ⟨fun h => (by rw [h] at hmem; cases hmem), fun j hj => ?_⟩
      rw [h0] at hj
      obtain rfl : j = i := by simpa using hj
      exact opX_mono hK hop
    rcases h with ⟨v, hy, h⟩ | ⟨he, hw, h⟩
    · by_cases he : ef o = true
      · exact alone he (fun a w => GA P S ops ef rd wr K (c.map fun i => ops.getD i default) a w) (hy.opX ho h) (fun a w h => GA_sound hs c _ a w hc h)
      · simp only [he] at h0
        simp only [Bool.false_eq_true, if_false, Bool.and_eq_true] at h0
        exact wpX_first ho (Region.noSelect_spec hs) c.length listed a w (freeX_spec ho h0.2) hmem hy (GA_sound hs c _ _ w hc h)
    · refine alone he _ ?_ (fun a w h => GA_sound hs c _ a w hc h)
      unfold opX
      simp only [ho, hw, if_true]
      exact h

theorem GA_seq {P : Program} {S : List Nat} {ops : Array Oper} {ef rd wr : Oper → Bool} {K : Act → World → Prop} {Q : Exit → Act → World → Prop} (hQ : ∀ a w, K a w → Q .normal a w) :
    ∀ (m k : Nat) (l : List Oper) (a : Act) (w : World), l.length = m → (∀ j, l[j]? = ops[k + j]?) →
      GA P S ops ef rd wr K l a w → wpOps P ops Q (List.range' k m) a w
  | 0, k, l, a, w, hm, hl, h => by
    obtain rfl : l = [] := List.eq_nil_of_length_eq_zero hm
    simpa [wpOps] using hQ _ _ h
  | m + 1, k, [], a, w, hm, hl, h => by simp at hm
  | m + 1, k, o :: l, a, w, hm, hl, h => by
    have h0 : ops[k]? = some o := by simpa using (hl 0).symm
    have ih := fun a w => GA_seq hQ (P := P) (S := S) (ops := ops) (ef := ef) (rd := rd) (wr := wr) m (k + 1) l a w (by simpa using hm)
      (fun j => by have := hl (j + 1); simpa [Nat.add_assoc, Nat.add_comm 1 j] using this)
    simp only [List.range'_succ, wpOps, h0]
    simp only [GA] at h
    rcases h with ⟨v, hy, h⟩ | ⟨he, hw, h⟩
    · rcases hy with ⟨hw, hv⟩ | ⟨hw, rfl⟩
      · simp only [hw, if_true, Oper.wp, hv w (.inr ExtS.rfl'), Oper.upon]; exact .inl (ih _ _ h)
      · simp only [hw, Bool.false_eq_true, if_false]; exact ih _ _ h
    · simp only [hw, if_true]
      exact .inl (wp_QF (Oper.wp_mono (fun a w h => ih _ _ h.2) h))

end Go.V
