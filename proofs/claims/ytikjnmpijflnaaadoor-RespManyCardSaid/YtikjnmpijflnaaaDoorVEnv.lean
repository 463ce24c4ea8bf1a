/- Environments: what the live slots hold; the rules for code and for operations over them. -/
import Derived.Test.YtikjnmpijflnaaaDoorVCore
import Derived.WalkKit
namespace Go.V
open Go.RowKit

abbrev Env := List (Nat × Value)

def Env.get : Env → Nat → Option Value
  | [], _ => none
  | (s, v) :: E, t => bif Nat.beq s t then some v else Env.get E t

def Env.look (E : Env) : Operand → Option Value
  | .tmp t => E.get t
  | .const v => some v
  | .global g => some (.pointer (some ⟨g, 0, none⟩))
  | .func f => some (.func (.func f) #[] #[])

def Env.looks (E : Env) : List Operand → Option (List Value)
  | [] => some []
  | x :: xs => match E.look x, E.looks xs with
    | some v, some vs => some (v :: vs)
    | _, _ => none

def Env.put (E : Env) (d : Option Nat) (v : Value) : Env := match d with
  | some d => (d, v) :: E
  | none => E

structure Holds (n : Nat) (E : Env) (a : Act) : Prop where
  defers : a.defers = []
  size : a.tmps.size = n
  get : ∀ t v, E.get t = some v → a.tmps[t]? = some v

theorem Holds.eval {n : Nat} {E : Env} {a : Act} (h : Holds n E a) {x : Operand} {v : Value} (hx : E.look x = some v) : a.eval x = v := by
  cases x with
  | tmp t => simp only [Env.look] at hx; simp [Act.eval, h.get t v hx]
  | const u => simpa [Env.look, Act.eval] using hx
  | global g => simpa [Env.look, Act.eval] using hx
  | func f => simpa [Env.look, Act.eval] using hx

theorem Holds.evals {n : Nat} {E : Env} {a : Act} (h : Holds n E a) : ∀ {xs : List Operand} {vs : List Value}, E.looks xs = some vs → xs.map a.eval = vs
  | [], vs, hx => by simpa [Env.looks] using hx
  | x :: xs, vs, hx => by
    simp only [Env.looks] at hx
    split at hx
    · rename_i v us h1 h2
      obtain rfl : v :: us = vs := by simpa using hx
      simp [h.eval h1, h.evals h2]
    · simp at hx

theorem Env.get_cons (s t : Nat) (v : Value) (E : Env) : Env.get ((s, v) :: E) t = if s = t then some v else E.get t := by
  show (bif Nat.beq s t then some v else Env.get E t) = _
  by_cases h : s = t
  · subst h; simp
  · have : Nat.beq s t = false := by
      cases hb : Nat.beq s t with
      | true => exact absurd (Nat.eq_of_beq_eq_true hb) h
      | false => rfl
    simp [this, h]

theorem Holds.put {n : Nat} {E : Env} {a : Act} (h : Holds n E a) (d : Option Nat) (v : Value) (hd : ∀ t, d = some t → t < n) : Holds n (E.put d v) (a.put d v) := by
  cases d with
  | none => exact h
  | some d =>
    refine ⟨h.defers, by simpa [Act.put] using h.size, fun t u ht => ?_⟩
    simp only [Env.put, Env.get_cons] at ht
    simp only [Act.put]
    by_cases e : d = t
    · subst e
      simp only [if_true, Option.some.injEq] at ht
      subst ht
      have := hd d rfl
      simp [h.size, this]
    · simp only [e, if_false] at ht
      rw [Array.getElem?_setIfInBounds_ne e]
      exact h.get t u ht

/-- all entries of E' are found in E -/
def Env.sub : Env → Env → Prop
  | [], _ => True
  | (t, v) :: E', E => E.get t = some v ∧ Env.sub E' E

theorem Holds.sub {n : Nat} {E : Env} {a : Act} (h : Holds n E a) : ∀ {E' : Env}, Env.sub E' E → Holds n E' a
  | [], _ => ⟨h.defers, h.size, fun t v ht => by simp [Env.get] at ht⟩
  | (s, u) :: E', hs => by
    have ih := h.sub hs.2
    refine ⟨h.defers, h.size, fun t v ht => ?_⟩
    rw [Env.get_cons] at ht
    by_cases e : s = t
    · subst e
      simp only [if_true, Option.some.injEq] at ht
      subst ht
      exact h.get _ _ hs.1
    · simp only [e, if_false] at ht
      exact ih.get t v ht

/-- is the guard met (Some b), by what the environment holds? -/
def gval (ops : Array Oper) (E : Env) : Option (Nat × Bool) → Option Bool
  | none => some true
  | some (j, want) => match (ops[j]?).bind (·.dst) with
    | some t => match E.get t with
      | some (.bool b) => some (b == want)
      | some (.tuple _) => some false
      | _ => none
    | none => none

theorem wanted_of {n : Nat} {ops : Array Oper} {E : Env} {o : Oper} {a : Act} {b : Bool} (h : Holds n E a) (hg : gval ops E o.guard = some b) :
    Region.wanted o (yielded ops a.tmps) = b := by
  unfold Region.wanted
  cases hgd : o.guard with
  | none => rw [hgd] at hg; simpa [gval] using hg
  | some jw =>
    obtain ⟨j, want⟩ := jw
    rw [hgd] at hg
    simp only [gval] at hg
    split at hg
    · rename_i t ht
      split at hg
      · rename_i c hc
        obtain rfl : (c == want) = b := by simpa using hg
        have := h.get t _ hc
        simp only [yielded, ht, Option.bind_some, this]
        cases c <;> cases want <;> rfl
      · rename_i c hc
        obtain rfl : false = b := by simpa using hg
        have := h.get t _ hc
        simp only [yielded, ht, Option.bind_some, this]
        cases want <;> rfl
      · simp at hg
    · simp at hg

/-- operations with an effect, in a region that draws its order -/
def effects (P : Program) (dr : Nat) (o : Oper) : Bool :=
  dr == 0 || match o.op with
  | .move _ | .assign _ | .pick .. | .load .. | .nilCheck _ | .binOp .. | .unOp .. | .fieldAddr .. | .field .. | .indexAddr .. | .index .. | .slice ..
  | .extract .. | .makeFunc .. | .makeInterface .. | .build .. | .lookup .. => false
  | .convert _ dst _ => match P.underlying dst with
    | some (.slice _) => true
    | _ => false
  | .call { callee := .builtin .len, .. } | .call { callee := .builtin .cap, .. } | .call { callee := .builtin .min, .. } | .call { callee := .builtin .max, .. } => false
  | _ => true

/-- operations that may turn what was there: dr = 1: calls of functions only add memory; dr = 2: they may turn it -/
def writes (dr : Nat) (o : Oper) : Bool :=
  dr == 0 || match o.op with
  | .store .. => dr != 3
  | .mapUpdate .. | .insert .. | .entryStore .. | .next .. => true
  | .call { callee := .builtin .append, .. } | .call { callee := .builtin .copy, .. } | .call { callee := .builtin .delete, .. } | .call { callee := .builtin .clear, .. } => true
  | .call { callee := .value _, .. } => dr == 2
  | _ => false

/-- operations that read memory -/
def readsM (P : Program) (o : Oper) : Bool :=
  match o.op with
  | .move _ | .assign _ | .pick .. | .nilCheck _ | .unOp .. | .fieldAddr .. | .field .. | .indexAddr .. | .index .. | .slice ..
  | .extract .. | .makeFunc .. | .makeInterface .. | .build .. => false
  | .binOp _ t .. => match P.underlying t with
    | some (.pointer _) => true
    | _ => false
  | .call { callee := .builtin .min, .. } | .call { callee := .builtin .max, .. } => false
  | .call { callee := .builtin .len, argTypes, .. } | .call { callee := .builtin .cap, argTypes, .. } => match P.underlying (argTypes.getD 0 0) with
    | some (.map _ _) => true
    | _ => false
  | _ => true

def dstOk (n : Nat) : Option Nat → Bool
  | none => true
  | some d => Nat.blt d n

theorem dstOk_spec {n : Nat} {d : Option Nat} (h : dstOk n d = true) : ∀ t, d = some t → t < n := by
  rintro t rfl
  simpa [dstOk] using h

section
variable (P : Program) (n : Nat) (ops : Array Oper) (dr : Nat × List Nat)

/-- the walk of a list of operations -/
def G (l : List Oper) (E : Env) (w : World) (K : Env → World → Prop) : Prop :=
  ∀ a, Holds n E a → GA P dr.2 ops (effects P dr.1) (readsM P) (writes dr.1) (fun a' w' => ∃ E', Holds n E' a' ∧ K E' w') l a w

/-- the same, the first operation's guard being met -/
def G1 (o : Oper) (l : List Oper) (E : Env) (w : World) (K : Env → World → Prop) : Prop :=
  ∀ a, Holds n E a → Region.wanted o (yielded ops a.tmps) = true → GA P dr.2 ops (effects P dr.1) (readsM P) (writes dr.1) (fun a' w' => ∃ E', Holds n E' a' ∧ K E' w') (o :: l) a w

/-- the walk of code -/
def W (c : Code) (Q : Exit → Act → World → Prop) (E : Env) (w : World) : Prop := ∀ a, Holds n E a → c.wp P Q a w

end

/-- what is asked at an exit -/
def Post (n : Nat) (Q : Exit → Act → World → Prop) (e : Exit) (E : Env) (w : World) : Prop := ∀ a, Holds n E a → Q e a w

section
variable {P : Program} {n : Nat} {ops : Array Oper} {dr : Nat × List Nat} {l : List Oper} {E : Env} {w : World} {K : Env → World → Prop} {Q : Exit → Act → World → Prop}

theorem G_nil (h : K E w) : G P n ops dr [] E w K := fun _ ha => ⟨E, ha, h⟩

theorem G_on {o : Oper} (hg : gval ops E o.guard = some true) (h : G1 P n ops dr o l E w K) : G P n ops dr (o :: l) E w K :=
  fun a ha => h a ha (wanted_of ha hg)

theorem G_off {o : Oper} (hg : gval ops E o.guard = some false) (hd : dstOk n o.dst = true) (h : G P n ops dr l (E.put o.dst undef) w K) : G P n ops dr (o :: l) E w K :=
  fun _ ha => .inl ⟨undef, .inr ⟨wanted_of ha hg, rfl⟩, h _ (ha.put _ _ (dstOk_spec hd))⟩

/-- the slot on which the guard hangs -/
def gslot (ops : Array Oper) : Option (Nat × Bool) → Option Nat
  | none => none
  | some (j, _) => (ops[j]?).bind (·.dst)

/-- a guard that is not decided yet: both ways, the slot known in each -/
theorem G_split {o : Oper} {t : Nat} {b : Bool} (_ht : gslot ops o.guard = some t) (hb : E.get t = some (.bool b))
    (h1 : b = true → G P n ops dr (o :: l) ((t, .bool true) :: E) w K) (h2 : b = false → G P n ops dr (o :: l) ((t, .bool false) :: E) w K) : G P n ops dr (o :: l) E w K := by
  intro a ha
  have key : ∀ c, b = c → Holds n ((t, .bool c) :: E) a := by
    rintro c rfl
    refine ⟨ha.defers, ha.size, fun s v hs => ?_⟩
    rw [Env.get_cons] at hs
    by_cases e : t = s
    · subst e
      simp only [if_true, Option.some.injEq] at hs
      subst hs
      exact ha.get _ _ hb
    · simp only [e, if_false] at hs
      exact ha.get _ _ hs
  cases b with
  | true => exact h1 rfl a (key _ rfl)
  | false => exact h2 rfl a (key _ rfl)

/-- an operation that only computes or reads -/
theorem G1_quiet {o : Oper} (v : Value) (hd : dstOk n o.dst = true) (hv : ∀ a, Holds n E a → ∀ w', (readsM P o = false ∨ ExtS dr.2 w w') → (execOp a.eval o).run P w' = .ok (.value v) w')
    (h : G P n ops dr l (E.put o.dst v) w K) : G1 P n ops dr o l E w K :=
  fun a ha hw => .inl ⟨v, .inl ⟨hw, hv a ha⟩, h _ (ha.put _ _ (dstOk_spec hd))⟩

/-- an operation that makes or turns memory, and runs in one step -/
theorem G1_eff {o : Oper} (v : Value) (w' : World) (he : effects P dr.1 o = true) (hd : dstOk n o.dst = true) (hv : ∀ a, Holds n E a → (execOp a.eval o).run P w = .ok (.value v) w')
    (hx : writes dr.1 o = true ∨ ExtS dr.2 w w') (h : G P n ops dr l (E.put o.dst v) w' K) : G1 P n ops dr o l E w K :=
  fun a ha hw => .inr ⟨he, hw, by unfold stepX Oper.wp; rw [hv a ha]; exact ⟨hx, h _ (ha.put _ _ (dstOk_spec hd))⟩⟩

/-- the same for an operation without a value -/
theorem G1_skip {o : Oper} (w' : World) (he : effects P dr.1 o = true) (hd : dstOk n o.dst = true) (hv : ∀ a, Holds n E a → (execOp a.eval o).run P w = .ok .skip w')
    (hx : writes dr.1 o = true ∨ ExtS dr.2 w w') (h : G P n ops dr l (E.put o.dst undef) w' K) : G1 P n ops dr o l E w K :=
  fun a ha hw => .inr ⟨he, hw, by unfold stepX Oper.wp; rw [hv a ha]; exact ⟨hx, h _ (ha.put _ _ (dstOk_spec hd))⟩⟩

/-- what a contract says: it returns, and what -/
def Ret (Φ : Value → World → Prop) : Ending → World → Prop := fun e w' => ∃ v, e = .returned v ∧ Φ v w'

/-- function f has a body (its call enters it) -/
def Enters (P : Program) (f : FuncId) : Prop := ∃ fn, P.funcs[f]? = some fn ∧ fn.name ≠ "runtime.NumGoroutine" ∧ fn.body.isNone = false

/-- THE FORM OF A CONTRACT -/
def Ctr (P : Program) (f : FuncId) (args : List Value) (w : World) (Φ : Value → World → Prop) : Prop := Enters P f ∧ Calls P f args.toArray w (Ret Φ)

theorem Ctr.calls {f : FuncId} {args : List Value} {Φ : Value → World → Prop} (h : Ctr P f args w Φ) : Calls P f args.toArray w (Ret Φ) := h.2

theorem Ctr.mono {f : FuncId} {args : List Value} {Φ Φ' : Value → World → Prop} (h : Ctr P f args w Φ) (hh : ∀ v w', Φ v w' → Φ' v w') : Ctr P f args w Φ' :=
  ⟨h.1, h.2.mono fun _ _ ⟨v, he, hv⟩ => ⟨v, he, hh _ _ hv⟩⟩

theorem run_callFunc {f : FuncId} (h : Enters P f) (args : Array Value) (w : World) : (callFunc f args).run P w = .ok (.enter f args) w := by
  obtain ⟨fn, hf, hn, hb⟩ := h
  simp only [callFunc, Sem.run_bind, run_program, Result.andThen_ok, hf]
  have hn' : (fn.name == "runtime.NumGoroutine") = false := by simpa using hn
  simp only [hn', hb, Bool.false_eq_true, if_false, Sem.run_pure]

/-- a call of a function, by its contract -/
theorem G1_call {f : FuncId} {d : Option Nat} {args : Array Operand} {tys : Array TypeId} {ty : TypeId} {pos : String} {af : Array Edge} {g : Option (Nat × Bool)} {vs : List Value} {Φ : Value → World → Prop}
    (hargs : E.looks args.toList = some vs) (he : effects P dr.1 ⟨d, .call ⟨.value (.func f), args, tys⟩, ty, pos, af, g⟩ = true) (hd : dstOk n d = true)
    (hc : Ctr P f vs w Φ) (h : ∀ v w', Φ v w' → (writes dr.1 ⟨d, .call ⟨.value (.func f), args, tys⟩, ty, pos, af, g⟩ = true ∨ Ext w w') ∧ G P n ops dr l (E.put d v) w' K) :
    G1 P n ops dr ⟨d, .call ⟨.value (.func f), args, tys⟩, ty, pos, af, g⟩ l E w K := by
  intro a ha hw
  refine .inr ⟨he, hw, ?_⟩
  have hm : args.map a.eval = vs.toArray := by
    rw [← ha.evals hargs]; apply Array.ext'; simp
  unfold stepX Oper.wp
  have : (execOp a.eval ⟨d, .call ⟨.value (.func f), args, tys⟩, ty, pos, af, g⟩).run P w = .ok (.enter f vs.toArray) w := by
    simp [execOp, resolve, Deferred.ofValue, Act.eval, invoke, hm, run_callFunc hc.1]
  rw [this]
  refine Calls.mono hc.2 ?_
  rintro e w' ⟨v, rfl, hv⟩
  exact ⟨(h v w' hv).1.imp id Ext.toS, (h v w' hv).2 _ (ha.put _ _ (dstOk_spec hd))⟩

/-- the same where it may turn some blocks -/
theorem G1_callS {f : FuncId} {d : Option Nat} {args : Array Operand} {tys : Array TypeId} {ty : TypeId} {pos : String} {af : Array Edge} {g : Option (Nat × Bool)} {vs : List Value} {Φ : Value → World → Prop}
    (hargs : E.looks args.toList = some vs) (he : effects P dr.1 ⟨d, .call ⟨.value (.func f), args, tys⟩, ty, pos, af, g⟩ = true) (hd : dstOk n d = true)
    (hc : Ctr P f vs w Φ) (h : ∀ v w', Φ v w' → (writes dr.1 ⟨d, .call ⟨.value (.func f), args, tys⟩, ty, pos, af, g⟩ = true ∨ ExtS dr.2 w w') ∧ G P n ops dr l (E.put d v) w' K) :
    G1 P n ops dr ⟨d, .call ⟨.value (.func f), args, tys⟩, ty, pos, af, g⟩ l E w K := by
  intro a ha hw
  refine .inr ⟨he, hw, ?_⟩
  have hm : args.map a.eval = vs.toArray := by
    rw [← ha.evals hargs]; apply Array.ext'; simp
  unfold stepX Oper.wp
  have : (execOp a.eval ⟨d, .call ⟨.value (.func f), args, tys⟩, ty, pos, af, g⟩).run P w = .ok (.enter f vs.toArray) w := by
    simp [execOp, resolve, Deferred.ofValue, Act.eval, invoke, hm, run_callFunc hc.1]
  rw [this]
  refine Calls.mono hc.2 ?_
  rintro e w' ⟨v, rfl, hv⟩
  exact ⟨(h v w' hv).1, (h v w' hv).2 _ (ha.put _ _ (dstOk_spec hd))⟩

/-- a call of a function value -/
theorem G1_callv {f : FuncId} {first cap : Array Value} {x : Operand} {d : Option Nat} {args : Array Operand} {tys : Array TypeId} {ty : TypeId} {pos : String} {af : Array Edge} {g : Option (Nat × Bool)} {vs : List Value} {Φ : Value → World → Prop}
    (hf : E.look x = some (.func (.func f) first cap)) (hargs : E.looks args.toList = some vs) (he : effects P dr.1 ⟨d, .call ⟨.value x, args, tys⟩, ty, pos, af, g⟩ = true) (hd : dstOk n d = true)
    (hc : Ctr P f (first.toList ++ vs ++ cap.toList) w Φ) (h : ∀ v w', Φ v w' → (writes dr.1 ⟨d, .call ⟨.value x, args, tys⟩, ty, pos, af, g⟩ = true ∨ Ext w w') ∧ G P n ops dr l (E.put d v) w' K) :
    G1 P n ops dr ⟨d, .call ⟨.value x, args, tys⟩, ty, pos, af, g⟩ l E w K := by
  intro a ha hw
  refine .inr ⟨he, hw, ?_⟩
  have hm : args.map a.eval = vs.toArray := by
    rw [← ha.evals hargs]; apply Array.ext'; simp
  unfold stepX Oper.wp
  have e1 : first ++ vs.toArray ++ cap = (first.toList ++ vs ++ cap.toList).toArray := by
    apply Array.ext'; simp
  have : (execOp a.eval ⟨d, .call ⟨.value x, args, tys⟩, ty, pos, af, g⟩).run P w = .ok (.enter f (first.toList ++ vs ++ cap.toList).toArray) w := by
    rw [← e1]
    simp [execOp, resolve, Deferred.ofValue, ha.eval hf, invoke, hm, run_callFunc hc.1]
  rw [this]
  refine Calls.mono hc.2 ?_
  rintro e w' ⟨v, rfl, hv⟩
  exact ⟨(h v w' hv).1.imp id Ext.toS, (h v w' hv).2 _ (ha.put _ _ (dstOk_spec hd))⟩

/- code -/

theorem W_seq {x y : Code} (h : W P n x (Exit.then (y.wp P Q) Q) E w) : W P n (.seq x y) Q E w := fun a ha => wp_seq (h a ha)
theorem W_skip (h : Post n Q .normal E w) : W P n .skip Q E w := fun a ha => wp_skip (h a ha)
theorem W_exit {id : Nat} (h : Post n Q (.exit id) E w) : W P n (.exit id) Q E w := fun a ha => wp_exit (h a ha)
theorem W_ret (h : Post n Q .ret E w) : W P n .ret Q E w := fun a ha => wp_ret (h a ha)
theorem W_block {id : Nat} {c : Code} (h : W P n c (Exit.inBlock id Q) E w) : W P n (.block id c) Q E w := fun a ha => wp_block (h a ha)
theorem W_cond {c : Operand} {x y : Code} {b : Bool} (hc : E.look c = some (.bool b)) (h1 : b = true → W P n x Q E w) (h2 : b = false → W P n y Q E w) : W P n (.cond c x y) Q E w :=
  fun a ha => wp_cond_split (ha.eval hc) (fun h => h1 h a ha) (fun h => h2 h a ha)
theorem W_cond_true {c : Operand} {x y : Code} (hc : E.look c = some (.bool true)) (h : W P n x Q E w) : W P n (.cond c x y) Q E w :=
  fun a ha => wp_cond_true (ha.eval hc) (h a ha)
theorem W_cond_false {c : Operand} {x y : Code} (hc : E.look c = some (.bool false)) (h : W P n y Q E w) : W P n (.cond c x y) Q E w :=
  fun a ha => wp_cond_false (ha.eval hc) (h a ha)

theorem W_region {id : Nat} {l : List Oper} (h : G P n l.toArray (0, []) l E w (Post n Q .normal)) : W P n (.region id l.toArray false) Q E w := by
  intro a ha
  refine wp_region ?_
  have := GA_seq (P := P) (S := []) (ops := l.toArray) (ef := effects P 0) (rd := readsM P) (wr := writes 0) (Q := Q) (K := fun a' w' => ∃ E', Holds n E' a' ∧ Post n Q .normal E' w')
    (fun a _ ⟨_, hE, hp⟩ => hp a hE) l.length 0 l a w rfl (by simp) (h a ha)
  simpa [List.range_eq_range'] using this

theorem W_drawn {id : Nat} {l : List Oper} (k : Nat) (S : List Nat) (c : List Nat) (hm : P.follows .mixedOrders = true)
    (hc : (Region.noSelect l.toArray && okc l.toArray (effects P k) (readsM P) (writes k) c (Array.replicate l.length false) && Nat.beq c.length l.length) = true)
    (h : G P n l.toArray (k, S) (c.map fun i => l.toArray.getD i default) E w.drew (Post n Q .normal)) : W P n (.region id l.toArray true) Q E w := by
  intro a ha
  simp only [Bool.and_eq_true] at hc
  refine wp_region_any hm (wpAny_of_wpX (S := S) (wr := writes k) (K := fun a' w' => ∃ E', Holds n E' a' ∧ Post n Q .normal E' w') (fun a _ ⟨_, hE, hp⟩ => hp a hE) _ _ _ _ ?_)
  have hl : c.length = l.length := by simpa using hc.2
  have := GA_sound (P := P) hc.1.1 c (Array.replicate l.length false) a { w with drawn := w.drawn + 1 } hc.1.2 (h a ha)
  rw [hl] at this
  simpa using this

/-- what is asked at the end of a round -/
def LoopK {ι : Type} (n : Nat) (I : ι → Env) (J : ι → World → Prop) (μ : ι → Nat) (y : ι) : Act → World → Prop := fun a' w' => ∃ z, Holds n (I z) a' ∧ J z w' ∧ μ z < μ y

/-- a loop: ghost state x; the environment and the fact at each round's head -/
theorem W_loop {ι : Type} {c : Code} (I : ι → Env) (J : ι → World → Prop) (μ : ι → Nat) (x : ι) (hE : Env.sub (I x) E) (hJ : J x w)
    (step : ∀ y v, J y v → W P n c (Exit.then (LoopK n I J μ y) Q) (I y) v) : W P n (.loop c) Q E w := by
  intro a ha b k cs
  have key : ∀ m y a w, μ y = m → Holds n (I y) a → J y w →
      ∃ e a' w', Q e a' w' ∧ Arrives P (lone (b.at a (.code c :: .inLoop c :: k)) cs w) b k cs e a' w' := by
    intro m
    induction m using Nat.strongRecOn with
    | _ m ih =>
      intro y a w hm hI hJ
      obtain ⟨e, a₁, w₁, hq, harr⟩ := step y w hJ a hI b (.inLoop c :: k) cs
      cases e with
      | normal =>
        obtain ⟨z, hz, hjz, hlt⟩ := hq
        obtain ⟨e₂, a₂, w₂, hq₂, harr₂⟩ := ih (μ z) (hm ▸ hlt) z a₁ w₁ rfl hz hjz
        exact ⟨e₂, a₂, w₂, hq₂, .of_steps (Steps.trans harr (.one step_inLoop)) harr₂⟩
      | exit id => exact ⟨_, a₁, w₁, hq, .pass (x := .inLoop c) rfl (fun _ _ => .inl (by simp)) harr⟩
      | goto l => exact ⟨_, a₁, w₁, hq, .pass (x := .inLoop c) rfl (fun _ _ => .inl (by simp)) harr⟩
      | ret => exact ⟨_, a₁, w₁, hq, .pass (x := .inLoop c) rfl (fun _ _ => .inl (by simp)) harr⟩
      | panic ch => exact ⟨_, a₁, w₁, hq, .pass (x := .inLoop c) rfl (fun _ _ => .inl (by simp)) harr⟩
      | outgrown => exact ⟨_, a₁, w₁, hq, .pass (x := .inLoop c) rfl (fun _ _ => .inl (by simp)) harr⟩
  obtain ⟨e, a', w', hq, harr⟩ := key _ x a w rfl (ha.sub hE) hJ
  exact ⟨e, a', w', hq, .of_steps (.one step_loop) harr⟩



theorem Post_round {ι : Type} {I : ι → Env} {J : ι → World → Prop} {μ : ι → Nat} {y : ι} (z : ι) (hE : Env.sub (I z) E) (hJ : J z w) (hμ : μ z < μ y) : Post n (Exit.then (LoopK n I J μ y) Q) .normal E w :=
  fun _ ha => ⟨z, ha.sub hE, hJ, hμ⟩
theorem Post_next {y : Code} (h : W P n y Q E w) : Post n (Exit.then (y.wp P Q) Q) .normal E w := h
theorem Post_then_ret {k : Act → World → Prop} (h : Post n Q .ret E w) : Post n (Exit.then k Q) .ret E w := h
theorem Post_then_exit {k : Act → World → Prop} {id : Nat} (h : Post n Q (.exit id) E w) : Post n (Exit.then k Q) (.exit id) E w := h
theorem Post_block_normal {id : Nat} (h : Post n Q .normal E w) : Post n (Exit.inBlock id Q) .normal E w := h
theorem Post_block_ret {id : Nat} (h : Post n Q .ret E w) : Post n (Exit.inBlock id Q) .ret E w := h
theorem Post_block_exit {id : Nat} (h : Post n Q .normal E w) : Post n (Exit.inBlock id Q) (.exit id) E w := fun a ha => by
  simp only [Exit.inBlock, if_true]; exact h a ha
theorem Post_block_other {id id' : Nat} (hne : Nat.beq id' id = false) (h : Post n Q (.exit id') E w) : Post n (Exit.inBlock id Q) (.exit id') E w := fun a ha => by
  have : id' ≠ id := by rintro rfl; simp at hne
  simp only [Exit.inBlock, this, if_false]; exact h a ha

/- functions -/

def argEnv : Nat → List Value → Env
  | _, [] => []
  | k, v :: vs => (k, v) :: argEnv (k + 1) vs

theorem argEnv_get : ∀ (vs : List Value) (k t : Nat) (v : Value), (argEnv k vs).get t = some v → k ≤ t ∧ vs[t - k]? = some v
  | [], k, t, v, h => by simp [argEnv, Env.get] at h
  | u :: vs, k, t, v, h => by
    rw [argEnv, Env.get_cons] at h
    by_cases e : k = t
    · subst e
      simp only [if_true, Option.some.injEq] at h
      subst h
      simp
    · simp only [e, if_false] at h
      obtain ⟨h1, h2⟩ := argEnv_get vs (k + 1) t v h
      refine ⟨by omega, ?_⟩
      obtain ⟨m, rfl⟩ : ∃ m, t = k + 1 + m := ⟨t - (k + 1), by omega⟩
      have e1 : k + 1 + m - (k + 1) = m := by omega
      have e2 : k + 1 + m - k = m + 1 := by omega
      rw [e1] at h2
      rw [e2]
      simpa using h2

theorem Ctr_of {f : FuncId} {fn : Func} {c : Code} {args : List Value} {Φ : Value → World → Prop} {m : Nat} (hf : P.funcs[f]? = some fn) (hm : fn.ntmps = m) (hb : fn.body = some c)
    (hname : (fn.name == "runtime.NumGoroutine") = false) (hn : Nat.ble args.length m = true) (h : W P m c (bodyPost P fn (Ret Φ)) (argEnv 0 args) w) : Ctr P f args w Φ := by
  refine ⟨⟨fn, hf, by simpa using hname, by simp [hb]⟩, ?_⟩
  refine calls_of_wp hf hb (h _ ⟨rfl, ?_, fun t v ht => ?_⟩)
  · have := Nat.le_of_ble_eq_true hn
    simp [hm]; omega
  · obtain ⟨_, h2⟩ := argEnv_get args 0 t v ht
    simp only [Nat.sub_zero] at h2
    have hlt : t < args.length := by
      rcases Nat.lt_or_ge t args.length with h | h
      · exact h
      · rw [List.getElem?_eq_none h] at h2; cases h2
    rw [Array.getElem?_append_left (by simpa using hlt)]
    simpa using h2

/-- the results as they stand in slots or in memory -/
def ResOk (P : Program) (E : Env) (w : World) : List ResultVar → List Value → Prop
  | [], vs => vs = []
  | .tmp t :: rs, vs => ∃ v us, vs = v :: us ∧ E.get t = some v ∧ ResOk P E w rs us
  | .cell a t :: rs, vs => ∃ v us p, vs = v :: us ∧ E.get a = some (.pointer (some p)) ∧ (loadVar t p).run P w = .ok v w ∧ ResOk P E w rs us

def resVal : List Value → Value
  | [v] => v
  | vs => .tuple vs.toArray

def resOne (tmps : Array Value) : ResultVar → Sem Value
  | .tmp t => pure (tmps.getD t undef)
  | .cell x t => asAddr (tmps.getD x undef) >>= loadVar t

theorem results_eq (fn : Func) (tmps : Array Value) : results fn tmps = (fn.results.mapM (resOne tmps) >>= fun vs => pure (if h : vs.size = 1 then vs[0] else .tuple vs)) := by
  rfl

theorem ResOk.run {a : Act} (ha : Holds n E a) : ∀ {rs : List ResultVar} {vs : List Value}, ResOk P E w rs vs → (rs.mapM (resOne a.tmps) : Sem (List Value)).run P w = .ok vs w
  | [], vs, h => by simp only [ResOk] at h; subst h; rfl
  | .tmp t :: rs, vs, h => by
    obtain ⟨v, us, rfl, h1, h2⟩ := h
    have e : a.tmps.getD t undef = v := by simp [ha.get t v h1]
    simp only [List.mapM_cons, Sem.run_bind, resOne, e, Sem.run_pure, Result.andThen_ok, ResOk.run ha h2]
  | .cell x t :: rs, vs, h => by
    obtain ⟨v, us, p, rfl, h1, h2, h3⟩ := h
    have e : a.tmps.getD x undef = .pointer (some p) := by simp [ha.get x _ h1]
    have e2 : asAddr (.pointer (some p)) = pure p := rfl
    simp only [List.mapM_cons, Sem.run_bind, resOne, e, e2, Sem.run_pure, Result.andThen_ok, h2, ResOk.run ha h3]

theorem Post_ret {fn : Func} {rs : List ResultVar} {vs : List Value} {Φ : Value → World → Prop} (hr : fn.results = rs.toArray) (h : ResOk P E w rs vs) (hΦ : Φ (resVal vs) w) : Post n (bodyPost P fn (Ret Φ)) .ret E w := by
  intro a ha
  refine ⟨ha.defers, resVal vs, ?_, _, rfl, hΦ⟩
  have := ResOk.run (P := P) (w := w) ha h
  simp only [results_eq, hr, List.mapM_toArray, Sem.run_bind, Sem.run_map, this, Result.andThen_ok, Sem.run_pure]
  cases vs with
  | nil => rfl
  | cons v us => cases us with
    | nil => rfl
    | cons u us => simp [resVal]

theorem Post_end {fn : Func} {rs : List ResultVar} {vs : List Value} {Φ : Value → World → Prop} (hr : fn.results = rs.toArray) (h : ResOk P E w rs vs) (hΦ : Φ (resVal vs) w) : Post n (bodyPost P fn (Ret Φ)) .normal E w :=
  Post_ret hr h hΦ

/-- forget slots -/
theorem W_keep {c : Code} (E' : Env) (hs : Env.sub E' E) (h : W P n c Q E' w) : W P n c Q E w := fun a ha => h a (ha.sub hs)

theorem W_cond_dec {c : Operand} {x y : Code} {p : Prop} {inst : Decidable p} (hc : E.look c = some (.bool (@decide p inst))) (h1 : p → W P n x Q E w) (h2 : ¬ p → W P n y Q E w) : W P n (.cond c x y) Q E w :=
  W_cond hc (fun h => h1 (of_decide_eq_true h)) (fun h => h2 (of_decide_eq_false h))
theorem G_split_dec {o : Oper} {t : Nat} {p : Prop} {inst : Decidable p} (ht : gslot ops o.guard = some t) (hb : E.get t = some (.bool (@decide p inst)))
    (h1 : p → G P n ops dr (o :: l) ((t, .bool true) :: E) w K) (h2 : ¬ p → G P n ops dr (o :: l) ((t, .bool false) :: E) w K) : G P n ops dr (o :: l) E w K :=
  G_split ht hb (fun h => h1 (of_decide_eq_true h)) (fun h => h2 (of_decide_eq_false h))

end
attribute [irreducible] G G1 W Post Ctr LoopK
end Go.V
