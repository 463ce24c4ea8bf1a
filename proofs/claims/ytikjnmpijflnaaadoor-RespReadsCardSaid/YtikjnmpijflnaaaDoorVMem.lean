/- Memory: slices that read as lists, rows of the call's own, boxes; the rules for the operations on them. -/
import Derived.Test.YtikjnmpijflnaaaDoorVOps
namespace Go.V
open Go.RowKit

def hcell (H : Array Obj) (a : Addr) : Option Value :=
  match H[a.block]? with
  | some (.cells c _ _) => if a.spot.isSome then none else c[a.off]?
  | _ => none

theorem cell_eq (w : World) (a : Addr) : w.cell? a = hcell w.heap a := rfl

theorem hcell_block {H H' : Array Obj} {a : Addr} (h : H'[a.block]? = H[a.block]?) : hcell H' a = hcell H a := by simp [hcell, h]

theorem hcell_lt {H : Array Obj} {a : Addr} {v : Value} (h : hcell H a = some v) : a.block < H.size := by
  rcases Nat.lt_or_ge a.block H.size with h' | h'
  · exact h'
  · simp [hcell, Array.getElem?_eq_none h'] at h

theorem Ext.cell {w w' : World} (h : Ext w w') {a : Addr} {v : Value} (hc : hcell w.heap a = some v) : hcell w'.heap a = some v := by
  rw [hcell_block (h.block _ (hcell_lt hc))]; exact hc
theorem Ext.blk {w w' : World} (h : Ext w w') {b : Nat} {o : Obj} (hc : w.heap[b]? = some o) : w'.heap[b]? = some o := by
  rw [h.block _ (Array.getElem?_eq_some_iff.1 hc).1]; exact hc
theorem Ext.grown {w w' : World} (h : Ext w w') (row : Option Nat) : w.grownBy w' row := ⟨h.os, h.tape, h.output, h.size, fun k hk _ => h.block k hk⟩
theorem Ext.of_grown {w w' : World} (h : w.grownBy w' none) : Ext w w' := ⟨h.os, h.tape, h.output, h.size, fun k hk => h.block k hk (by simp)⟩
theorem Ext.drew {w w' : World} (h : Ext w w') : Ext w w'.drew := Below.drew h
theorem Ext.alloc {w w' : World} (h : Ext w w') (o : Obj) : Ext w (w'.alloc o) := Below.alloc h h.size o

/-- a kind of element: how it lies in cells -/
structure Enc (α : Type) where
  sz : Nat
  enc : α → List Value
  len : ∀ x, (enc x).length = sz
  one : ∀ x, ∀ v ∈ enc x, v.oneCell' = true
  pos : 0 < sz

/-- a slice value's address, length, capacity are in order -/
structure Okp (p : Option Addr) (n c : Nat) : Prop where
  le : n ≤ c
  cap : c ≤ maxLen
  nul : p = none → c = 0
  spot : ∀ a, p = some a → 0 < c → a.spot = none

/-- the slice at p with capacity c holds the elements xs -/
structure Sl {α : Type} (H : Array Obj) (e : Enc α) (p : Option Addr) (c : Nat) (xs : List α) : Prop where
  ok : Okp p xs.length c
  cell : ∀ i x, xs[i]? = some x → ∀ k v, (e.enc x)[k]? = some v → hcell H (adr p (i * e.sz + k)) = some v

section
variable {α : Type} {e : Enc α} {p : Option Addr} {c : Nat} {xs : List α} {H H' : Array Obj} {w w' : World}

theorem Sl.bound (h : Sl H e p c xs) : xs.length ≤ 9223372036854775807 := by
  have h1 := h.ok.le; have h2 := h.ok.cap; simp only [maxLen] at h2; omega

theorem Sl.ext (h : Sl w.heap e p c xs) (hx : Ext w w') : Sl w'.heap e p c xs := ⟨h.ok, fun i x hi k v hv => hx.cell (h.cell i x hi k v hv)⟩

theorem adr_block (p : Option Addr) (a : Addr) (k : Nat) (h : p = some a) : (adr p k).block = a.block := by subst h; rfl

theorem Sl.grown (h : Sl w.heap e p c xs) {row : Option Nat} (hg : w.grownBy w' row) (hne : ∀ a, p = some a → xs ≠ [] → row ≠ some a.block) : Sl w'.heap e p c xs := by
  refine ⟨h.ok, fun i x hi k v hv => ?_⟩
  have hc := h.cell i x hi k v hv
  have hx : xs ≠ [] := by rintro rfl; simp at hi
  cases p with
  | none =>
    have := h.ok.nul rfl
    have h1 := h.ok.le
    have : xs.length ≠ 0 := by cases xs <;> simp_all
    omega
  | some a =>
    rw [hcell_block (hg.block _ (hcell_lt hc) (fun e => hne a rfl hx e.symm))]
    exact hc

theorem Sl.nil : Sl H e none 0 [] := ⟨⟨Nat.le_refl _, Nat.zero_le _, fun _ => rfl, fun _ h _ => by cases h⟩, fun i x hi => by simp at hi⟩

theorem Sl.empty {p : Option Addr} {c : Nat} (h : Okp p 0 c) : Sl H e p c [] := ⟨h, fun i x hi => by simp at hi⟩

theorem Sl.take (h : Sl H e p c xs) (m : Nat) : Sl H e p c (xs.take m) :=
  ⟨⟨Nat.le_trans (by simp; omega) h.ok.le, h.ok.cap, h.ok.nul, h.ok.spot⟩, fun i x hi => h.cell i x (by
    rw [List.getElem?_take] at hi
    split at hi
    · exact hi
    · cases hi)⟩

/-- where a slice lies that is cut at l -/
def subp (p : Option Addr) (c l sz : Nat) : Option Addr := if c = l then p else p.map (·.add (l * sz))

theorem Sl.drop (h : Sl H e p c xs) {l : Nat} (hl : l ≤ c) : Sl H e (subp p c l e.sz) (c - l) (xs.drop l) := by
  have h1 := h.ok.le
  refine ⟨⟨by simp; omega, Nat.le_trans (Nat.sub_le _ _) h.ok.cap, fun hn => ?_, fun a ha hpos => ?_⟩, fun i x hi k v hv => ?_⟩
  · unfold subp at hn
    split at hn
    · omega
    · cases p with
      | none => have := h.ok.nul rfl; omega
      | some a => simp at hn
  · unfold subp at ha
    split at ha
    · omega
    · cases p with
      | none => simp at ha
      | some q =>
        simp only [Option.map_some, Option.some.injEq] at ha
        subst ha
        have := h.ok.spot q rfl (by omega)
        unfold Addr.add; split
        · exact this
        · rfl
  · rw [List.getElem?_drop] at hi
    have hc := h.cell (l + i) x hi k v hv
    have hlt : l + i < xs.length := (List.getElem?_eq_some_iff.1 hi).1
    unfold subp
    rw [if_neg (by omega)]
    cases p with
    | none => have := h.ok.nul rfl; omega
    | some a =>
      have hs := h.ok.spot a rfl (by omega)
      have e1 : adr (Option.map (fun x => Addr.add x (l * e.sz)) (some a)) (i * e.sz + k) = adr (some a) ((l + i) * e.sz + k) := by
        simp only [Option.map_some, adr, Addr.add]
        split
        · rename_i h0; simp [Nat.add_mul, h0]
        · simp [Nat.add_mul]; omega
      rw [e1]; exact hc

theorem Okp.at {n : Nat} (h : Okp p n c) (hn : 0 < n) : ∃ b o, p = some ⟨b, o, none⟩ := by
  have h1 := h.le
  cases p with
  | none => have := h.nul rfl; omega
  | some a =>
    have := h.spot a rfl (by omega)
    obtain ⟨b, o, s⟩ := a
    simp at this
    exact ⟨b, o, by rw [this]⟩

/-- a row of the call's own, from block B on: the slice at p with capacity c, of element type T, holds xs -/
def Own (w : World) (B T : Nat) (e : Enc α) (p : Option Addr) (c : Nat) (xs : List α) : Prop := w.ownsRow B T e.sz (.slice p xs.length c) xs.length (xs.flatMap e.enc)

theorem flat_get (e : Enc α) : ∀ (xs : List α) (i k : Nat) (x : α) (v : Value), xs[i]? = some x → (e.enc x)[k]? = some v → (xs.flatMap e.enc)[i * e.sz + k]? = some v
  | [], i, k, x, v, h, _ => by simp at h
  | y :: ys, 0, k, x, v, h, hv => by
    simp at h; subst h
    rw [List.flatMap_cons, List.getElem?_append_left (by have := (List.getElem?_eq_some_iff.1 hv).1; simpa using this)]
    simpa using hv
  | y :: ys, i + 1, k, x, v, h, hv => by
    simp at h
    rw [List.flatMap_cons, List.getElem?_append_right (by rw [e.len, Nat.add_mul]; omega), e.len]
    have := flat_get e ys i k x v h hv
    rw [← this]; congr 1; rw [Nat.add_mul]; omega

theorem flat_len (e : Enc α) : ∀ xs : List α, (xs.flatMap e.enc).length = xs.length * e.sz
  | [] => by simp
  | x :: xs => by rw [List.flatMap_cons, List.length_append, e.len, flat_len e xs, List.length_cons, Nat.add_mul]; omega

theorem flat_one (e : Enc α) (xs : List α) : ∀ v ∈ xs.flatMap e.enc, v.oneCell' = true := by
  intro v hv
  obtain ⟨x, _, hx⟩ := List.mem_flatMap.1 hv
  exact e.one x v hx

theorem Own.nil (w : World) (B T : Nat) (e : Enc α) : Own w B T e none 0 [] := World.ownsRow_nil w B T e.sz

theorem Own.sl {B T : Nat} (h : Own w B T e p c xs) : Sl w.heap e p c xs := by
  obtain ⟨hl, h⟩ := h
  rcases h with ⟨hv, hn⟩ | ⟨g, cap, cur, hv, hb, hg, hnc, hcm, hcs, htake⟩
  · injection hv with h1 h2 h3
    subst h1 h3
    obtain rfl : xs = [] := List.eq_nil_of_length_eq_zero hn
    exact Sl.nil
  · injection hv with h1 h2 h3
    subst h1 h3
    refine ⟨⟨hnc, hcm, (fun h => by cases h), (fun a ha _ => by simp at ha; rw [← ha])⟩, fun i x hi k v hv => ?_⟩
    have hf := flat_get e xs i k x v hi hv
    rw [← htake, List.getElem?_take] at hf
    split at hf
    · simp only [hcell, adr, hg, Option.isSome_none, Bool.false_eq_true, if_false, Nat.zero_add]
      simpa using hf
    · cases hf

theorem Own.kept {B T : Nat} {row : Option Nat} (h : Own w B T e p c xs) (hg : w.grownBy w' row) (hne : ∀ a, p = some a → row ≠ some a.block) : Own w' B T e p c xs := by
  refine World.ownsRow.kept h hg ?_
  cases p with
  | none => exact .inl rfl
  | some a => exact .inr (fun h => hne a rfl (by rw [← h]; rfl))

theorem Own.ext {B T : Nat} (h : Own w B T e p c xs) (hx : Ext w w') : Own w' B T e p c xs := h.kept (hx.grown none) (fun _ _ h => by cases h)

/-- the block of a slice's address -/
def blk : Option Addr → Option Nat
  | some a => some a.block
  | none => none

theorem Own.ge {B T : Nat} (h : Own w B T e p c xs) : ∀ k, blk p = some k → B ≤ k ∧ k < w.heap.size := by
  intro k hk
  refine World.ownsRow.lt h k ?_
  cases p with
  | none => cases hk
  | some a => exact hk

end

/-- block b is just the cells cs of element type t, and may be written -/
def Blk (H : Array Obj) (b : Nat) (t : TypeId) (cs : List Value) : Prop := H[b]? = some (.cells cs.toArray t (0, 0))

theorem Blk.lt {H : Array Obj} {b : Nat} {t : TypeId} {cs : List Value} (h : Blk H b t cs) : b < H.size := (Array.getElem?_eq_some_iff.1 h).1
theorem Blk.ext {w w' : World} {b : Nat} {t : TypeId} {cs : List Value} (h : Blk w.heap b t cs) (hx : Ext w w') : Blk w'.heap b t cs := hx.blk h
theorem Blk.grown {w w' : World} {b : Nat} {t : TypeId} {cs : List Value} {row : Option Nat} (h : Blk w.heap b t cs) (hg : w.grownBy w' row) (hne : row ≠ some b) : Blk w'.heap b t cs := by
  have := hg.block b h.lt (fun e => hne e.symm)
  unfold Blk at *
  rw [this]; exact h

/-- the address of a box -/
abbrev bx (b : Nat) : Option Addr := some ⟨b, 0, none⟩

theorem Blk.cell {H : Array Obj} {b : Nat} {t : TypeId} {cs : List Value} (h : Blk H b t cs) {m : Nat} {v : Value} (hv : cs[m]? = some v) : hcell H (adr (bx b) m) = some v := by
  unfold Blk at h
  simp [hcell, adr, h, hv]

section
variable {P : Program} {n : Nat} {ops : Array Oper} {dr : Nat × List Nat} {dq : Nat} {l : List Oper} {E : Env} {w : World} {K : Env → World → Prop}
variable {d : Option Nat} {ty : TypeId} {pos : String} {af : Array Edge} {g : Option (Nat × Bool)} {x y z : Operand} {k : IntKind} {i j : Int} {t t' u sz by_ : Nat} {v : Value} {p : Option Addr} {c len m : Nat}

theorem G1_len (hu : SliceT P t u sz by_) (hx : E.look x = some (.slice p len c)) (hd : dstOk n d = true) (h : G P n ops dr l (E.put d (.int .i64 len)) w K) : G1 P n ops dr ⟨d, .call ⟨.builtin .len, #[x], #[t]⟩, ty, pos, af, g⟩ l E w K :=
  G1_quiet _ hd (fun a ha w' _ => by simp [execOp, resolve, invoke, builtin, Builtin.len_, ha.eval hx, run_underlying (P := P) hu.1, goInt]) h

theorem run_sizeOf_T (hu : SliceT P t u sz by_) (w : World) : (sizeOf u).run P w = .ok sz w := by
  obtain ⟨_, i, z, hi, rfl, _⟩ := hu
  simp [sizeOf, typeInfo, hi]

theorem G1_indexAddr (hu : SliceT P t u sz by_) (hx : E.look x = some (.slice p len c)) (hy : E.look y = some (.int k i)) (ho : Okp p len c) (h0 : 0 ≤ i) (h1 : i < len) (hd : dstOk n d = true)
    (h : G P n ops dr l (E.put d (.pointer (some (adr p (i.toNat * sz))))) w K) : G1 P n ops dr ⟨d, .indexAddr t x y, ty, pos, af, g⟩ l E w K :=
  G1_quiet _ hd (fun a ha w' _ => by
    obtain ⟨b, o, rfl⟩ := ho.at (by omega)
    simp [execOp, Instr.indexAt, ha.eval hx, ha.eval hy, asIntOf, run_underlying (P := P) hu.1, h0, h1, run_sizeOf_T hu, addr_add, adr]) h

theorem G1_indexAddrN {q : Nat} (hu : SliceT P t u sz by_) (hx : E.look x = some (.slice p len c)) (hy : E.look y = some (.int k (q : Int))) (ho : Okp p len c) (h1 : q < len) (hd : dstOk n d = true)
    (h : G P n ops dr l (E.put d (.pointer (some (adr p (q * sz))))) w K) : G1 P n ops dr ⟨d, .indexAddr t x y, ty, pos, af, g⟩ l E w K :=
  G1_indexAddr hu hx hy ho (by omega) (by omega) hd (by simpa using h)

theorem G1_fieldAddr {q off : Nat} (hu : FieldT P t q off) (hx : E.look x = some (.pointer (some (adr p m)))) (hd : dstOk n d = true)
    (h : G P n ops dr l (E.put d (.pointer (some (adr p (m + off))))) w K) : G1 P n ops dr ⟨d, .fieldAddr t x q, ty, pos, af, g⟩ l E w K :=
  G1_quiet _ hd (fun a ha w' _ => by
    obtain ⟨fs, f, h1, h2, h3, i, h4, h5⟩ := hu
    simp [execOp, Instr.fieldAt, ha.eval hx, run_underlying h1, h2, Instr.sureAddr, fieldPlace, sizeOf, typeInfo, h4, h5, adr_add, h3]) h

theorem rd_ext {o : Oper} {w' : World} (h : readsM P o = false ∨ ExtS [] w w') (hr : readsM P o = true) : Ext w w' := by
  rcases h with h | h
  · rw [h] at hr; cases hr
  · exact h.toE

theorem G1_load (hu : PlainT P t) (hx : E.look x = some (.pointer (some (adr p m)))) (hc : hcell w.heap (adr p m) = some v) (hd : dstOk n d = true)
    (h : G P n ops (dq, []) l (E.put d v) w K) : G1 P n ops (dq, []) ⟨d, .load t x, ty, pos, af, g⟩ l E w K :=
  G1_quiet _ hd (fun a ha w' hw => by
    have := (rd_ext hw rfl).cell hc
    simp [execOp, Instr.loadAt, ha.eval hx, Instr.sureAddr, loadVar, hu w', load, Sem.run, cell_eq, this]) h

theorem run_loadCells_adr {vs : List Value} (hc : ∀ k v, vs[k]? = some v → hcell w.heap (adr p (m + k)) = some v) : (loadCells (adr p m) vs.length).run P w = .ok vs.toArray w :=
  run_loadCells_list w (adr p m) vs (fun j v hv => by rw [adr_add]; exact hc j v hv)

theorem run_loadVar_agg {vs : List Value} (hu : AggT P t sz) (hl : vs.length = sz) (hc : ∀ k v, vs[k]? = some v → hcell w.heap (adr p (m + k)) = some v) : (loadVar t (adr p m)).run P w = .ok (.agg vs.toArray) w := by
  obtain ⟨h1, i, h2, rfl⟩ := hu
  have := run_loadCells_adr (P := P) hc
  rw [hl] at this
  simp [loadVar, h1 w, sizeOf, typeInfo, h2, this]

theorem G1_loadAgg {vs : List Value} (hu : AggT P t sz) (hx : E.look x = some (.pointer (some (adr p m)))) (hl : vs.length = sz) (hc : ∀ k v, vs[k]? = some v → hcell w.heap (adr p (m + k)) = some v) (hd : dstOk n d = true)
    (h : G P n ops (dq, []) l (E.put d (.agg vs.toArray)) w K) : G1 P n ops (dq, []) ⟨d, .load t x, ty, pos, af, g⟩ l E w K :=
  G1_quiet _ hd (fun a ha w' hw => by
    have := run_loadVar_agg (P := P) (w := w') (p := p) (m := m) hu hl (fun k v hv => (rd_ext hw rfl).cell (hc k v hv))
    simp [execOp, Instr.loadAt, ha.eval hx, Instr.sureAddr, this]) h

/-- an element of a slice, whole -/
theorem G1_loadEl {α : Type} {e : Enc α} {xs : List α} {q : Nat} {el : α} (hu : AggT P t sz) (hx : E.look x = some (.pointer (some (adr p (q * sz))))) (hs : Sl w.heap e p c xs) (hq : xs[q]? = some el) (he : e.sz = sz) (hd : dstOk n d = true)
    (h : G P n ops (dq, []) l (E.put d (.agg (e.enc el).toArray)) w K) : G1 P n ops (dq, []) ⟨d, .load t x, ty, pos, af, g⟩ l E w K :=
  G1_loadAgg hu hx (by rw [e.len, he]) (fun k v hv => by subst he; exact hs.cell q el hq k v hv) hd h

/-- an element of one cell -/
theorem G1_loadEl1 {α : Type} {e : Enc α} {xs : List α} {q : Nat} {el : α} (hu : PlainT P t) (hx : E.look x = some (.pointer (some (adr p (q * 1))))) (hs : Sl w.heap e p c xs) (hq : xs[q]? = some el) (he : e.sz = 1) (hv : e.enc el = [v]) (hd : dstOk n d = true)
    (h : G P n ops (dq, []) l (E.put d v) w K) : G1 P n ops (dq, []) ⟨d, .load t x, ty, pos, af, g⟩ l E w K :=
  G1_load hu hx (by have := hs.cell q el hq 0 v (by rw [hv]; rfl); rw [he] at this; exact this) hd h

/-- a field of an element -/
theorem G1_loadFld {α : Type} {e : Enc α} {xs : List α} {q off : Nat} {el : α} (hu : PlainT P t) (hx : E.look x = some (.pointer (some (adr p (q * sz + off))))) (hs : Sl w.heap e p c xs) (hq : xs[q]? = some el) (he : e.sz = sz) (hv : (e.enc el)[off]? = some v) (hd : dstOk n d = true)
    (h : G P n ops (dq, []) l (E.put d v) w K) : G1 P n ops (dq, []) ⟨d, .load t x, ty, pos, af, g⟩ l E w K :=
  G1_load hu hx (by have := hs.cell q el hq off v hv; rw [he] at this; exact this) hd h

/-- out of a box -/
theorem G1_loadB {b : Nat} {cs : List Value} (hu : PlainT P t) (hx : E.look x = some (.pointer (some (adr (bx b) m)))) (hb : Blk w.heap b t' cs) (hv : cs[m]? = some v) (hd : dstOk n d = true)
    (h : G P n ops (dq, []) l (E.put d v) w K) : G1 P n ops (dq, []) ⟨d, .load t x, ty, pos, af, g⟩ l E w K :=
  G1_load hu hx (hb.cell hv) hd h

/-- the same where other boxes may be written meanwhile -/
theorem G1_loadBS {b : Nat} {cs : List Value} (hu : PlainT P t) (hx : E.look x = some (.pointer (some (adr (bx b) m)))) (hb : Blk w.heap b t' cs) (hv : cs[m]? = some v) (hS : exempt dr.2 b = false) (hd : dstOk n d = true)
    (h : G P n ops dr l (E.put d v) w K) : G1 P n ops dr ⟨d, .load t x, ty, pos, af, g⟩ l E w K :=
  G1_quiet _ hd (fun a ha w' hw => by
    have hw' : ExtS dr.2 w w' := by
      rcases hw with hw | hw
      · simp [readsM] at hw
      · exact hw
    have hb' : Blk w'.heap b t' cs := by
      have := hw'.block b hb.lt hS
      unfold Blk at *
      rw [this]; exact hb
    have := hb'.cell hv
    simp [execOp, Instr.loadAt, ha.eval hx, Instr.sureAddr, loadVar, hu w', load, Sem.run, cell_eq, this]) h

theorem run_loadVar_box {b : Nat} {cs : List Value} (hu : AggT P t sz) (hb : Blk w.heap b t' cs) (hl : cs.length = sz) : (loadVar t (adr (bx b) 0)).run P w = .ok (.agg cs.toArray) w :=
  run_loadVar_agg hu hl (fun k v hv => by rw [Nat.zero_add]; exact hb.cell hv)

theorem G1_loadBAgg {b : Nat} {cs : List Value} (hu : AggT P t sz) (hx : E.look x = some (.pointer (some (adr (bx b) 0)))) (hb : Blk w.heap b t' cs) (hl : cs.length = sz) (hd : dstOk n d = true)
    (h : G P n ops (dq, []) l (E.put d (.agg cs.toArray)) w K) : G1 P n ops (dq, []) ⟨d, .load t x, ty, pos, af, g⟩ l E w K :=
  G1_loadAgg hu hx hl (fun k v hv => by rw [Nat.zero_add]; exact hb.cell hv) hd h

/-- a new box -/
theorem G1_box (hx : E.look x = some v) (he : effects P dr.1 ⟨d, .box t x, ty, pos, af, g⟩ = true) (hd : dstOk n d = true)
    (h : ∀ b w', b = w.heap.size → Blk w'.heap b t v.cells.toList → Ext w w' → w'.heap.size = w.heap.size + 1 → G P n ops dr l (E.put d (.pointer (some (adr (bx b) 0)))) w' K) : G1 P n ops dr ⟨d, .box t x, ty, pos, af, g⟩ l E w K :=
  G1_eff _ (w.alloc (.cells v.cells t)) he hd (fun a ha => by simp [execOp, Instr.box, ha.eval hx, newVar, newRow, newObj, Sem.run, adr])
    (.inr (Ext.alloc Ext.rfl' _).toS) (h w.heap.size _ rfl (by unfold Blk; rw [Array.toArray_toList]; exact heap_alloc_new w _) (Ext.alloc Ext.rfl' _) (by simp))

/-- the zero value of a type -/
def ZeroT (P : Program) (t : TypeId) (z : Value) : Prop := (P.info? t).bind (·.zero) = some z

theorem ZeroT.of {z : Value} (h : (P.info? t).bind (·.zero) = some z) : ZeroT P t z := h

theorem run_zero {z : Value} (h : ZeroT P t z) (w : World) : (zeroValue t).run P w = .ok z w := by
  unfold ZeroT at h
  cases hi : P.info? t with
  | none => simp [hi] at h
  | some i => simp [hi] at h; simp [zeroValue, typeInfo, hi, h]

theorem G1_alloc {z : Value} (hz : ZeroT P t z) (he : effects P dr.1 ⟨d, .alloc t, ty, pos, af, g⟩ = true) (hd : dstOk n d = true)
    (h : ∀ b w', b = w.heap.size → Blk w'.heap b t z.cells.toList → Ext w w' → w'.heap.size = w.heap.size + 1 → G P n ops dr l (E.put d (.pointer (some (adr (bx b) 0)))) w' K) : G1 P n ops dr ⟨d, .alloc t, ty, pos, af, g⟩ l E w K :=
  G1_eff _ (w.alloc (.cells z.cells t)) he hd (fun a ha => by simp [execOp, Instr.alloc, run_zero hz, newVar, newRow, newObj, Sem.run, adr])
    (.inr (Ext.alloc Ext.rfl' _).toS) (h w.heap.size _ rfl (by unfold Blk; rw [Array.toArray_toList]; exact heap_alloc_new w _) (Ext.alloc Ext.rfl' _) (by simp))

/-- the world with block b's cells turned -/
theorem setRow_grown (w : World) (b : Nat) (cs : Array Value) : w.grownBy (w.setRow b cs) (some b) :=
  ⟨rfl, rfl, rfl, by simp, fun k _ hne => setRow_other w b k cs (fun e => hne (by rw [e]))⟩

theorem run_storeVar_box {b : Nat} {cs vs : List Value} (hsz : SizeT P t sz) (hb : Blk w.heap b t' cs) (hvs : v.cells.toList = vs) (hl : vs.length = sz) (hm : m + sz ≤ cs.length) (h1 : ∀ v ∈ vs, v.oneCell' = true) :
    (storeVar t (adr (bx b) m) v).run P w = .ok () (w.setRow b (cs.take m ++ vs ++ cs.drop (m + sz)).toArray) := by
  obtain ⟨i, hi, rfl⟩ := hsz
  have hs : v.cells.size = i.size := by rw [← hl, ← hvs]; simp
  have := run_storeCells_at P b m t' vs 0 cs.toArray w hb (by simp; omega) h1
  simp only [Nat.add_zero] at this
  simp only [storeVar, sizeOf, typeInfo, Sem.run_bind, run_program, Result.andThen_ok, hi, Sem.run_pure, hs, ne_eq, not_true_eq_false, if_false]
  rw [hvs, ← hl]
  show (storeCells ⟨b, 0 + m, none⟩ vs).run P w = _
  rw [Nat.zero_add]
  exact this

/-- a store into a box -/
theorem G1_storeB {b : Nat} {cs vs : List Value} (hsz : SizeT P t sz) (hx : E.look x = some (.pointer (some (adr (bx b) m)))) (hy : E.look y = some v) (hb : Blk w.heap b t' cs) (hvs : v.cells.toList = vs) (hl : vs.length = sz) (hm : m + sz ≤ cs.length)
    (h1 : ∀ v ∈ vs, v.oneCell' = true) (he : effects P dr.1 ⟨d, .store t x y, ty, pos, af, g⟩ = true) (hw : writes dr.1 ⟨d, .store t x y, ty, pos, af, g⟩ = true ∨ exempt dr.2 b = true) (hd : dstOk n d = true)
    (h : ∀ w', Blk w'.heap b t' (cs.take m ++ vs ++ cs.drop (m + sz)) → w.grownBy w' (some b) → w'.heap.size = w.heap.size → G P n ops dr l (E.put d undef) w' K) : G1 P n ops dr ⟨d, .store t x y, ty, pos, af, g⟩ l E w K :=
  G1_skip (w.setRow b (cs.take m ++ vs ++ cs.drop (m + sz)).toArray) he hd (fun a ha => by
      simp [execOp, Instr.storeAt, ha.eval hx, ha.eval hy, Instr.sureAddr, run_storeVar_box hsz hb hvs hl hm h1]) (hw.imp id (fun hS => ⟨rfl, rfl, rfl, by simp, fun k _ hk => setRow_other w b k _ (fun e => by rw [e, hS] at hk; cases hk)⟩))
    (h _ (by unfold Blk; exact setRow_heap w b _ _ t' (0, 0) hb) (setRow_grown w b _) (by simp))

end
end Go.V
