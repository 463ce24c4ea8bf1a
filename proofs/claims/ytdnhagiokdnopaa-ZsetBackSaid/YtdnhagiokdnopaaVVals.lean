/- Values as plain data: what makes them right. -/
import Derived.Test.YtdnhagiokdnopaaVMem4
namespace Go.V

structure Val where
  kind : Int
  text : ByteArray
  ps : List (ByteArray × ByteArray)
  ts : List ByteArray
  zs : List (Int × ByteArray)

/-- a value as it lies in memory -/
structure RawV where
  kind : Int
  text : ByteArray
  p1 : Option Addr
  n1 : Nat
  c1 : Nat
  p2 : Option Addr
  n2 : Nat
  c2 : Nat
  p3 : Option Addr
  n3 : Nat
  c3 : Nat
def eRaw : Enc RawV := ⟨5, fun r => [.int .i64 r.kind, .string r.text, .slice r.p1 r.n1 r.c1, .slice r.p2 r.n2 r.c2, .slice r.p3 r.n3 r.c3], fun _ => rfl,
  fun _ v hv => by simp at hv; rcases hv with rfl | rfl | rfl | rfl | rfl <;> rfl, by decide⟩

/-- the cells r read as the value v -/
structure Rv (H : Array Obj) (r : RawV) (v : Val) : Prop where
  kind : r.kind = v.kind
  text : r.text = v.text
  n1 : r.n1 = v.ps.length
  n2 : r.n2 = v.ts.length
  n3 : r.n3 = v.zs.length
  s1 : Sl H ePair r.p1 r.c1 v.ps
  s2 : Sl H eStr r.p2 r.c2 v.ts
  s3 : Sl H eMem r.p3 r.c3 v.zs

theorem Rv.ext {w w' : World} {r : RawV} {v : Val} (h : Rv w.heap r v) (hx : Ext w w') : Rv w'.heap r v := ⟨h.kind, h.text, h.n1, h.n2, h.n3, h.s1.ext hx, h.s2.ext hx, h.s3.ext hx⟩
theorem Rv.enc {H : Array Obj} {r : RawV} {v : Val} (h : Rv H r v) : eRaw.enc r = [.int .i64 v.kind, .string v.text, .slice r.p1 v.ps.length r.c1, .slice r.p2 v.ts.length r.c2, .slice r.p3 v.zs.length r.c3] := by
  simp [eRaw, h.kind, h.text, h.n1, h.n2, h.n3]

def stepP (ps : List (ByteArray × ByteArray)) (i : Nat) : Prop := ∀ x, ps[i]? = some x → x.1.size ≤ 4096 ∧ x.2.size ≤ 4096 ∧ (0 < i → ∀ y, ps[i - 1]? = some y → blt y.1 x.1 = true)
def okP (ps : List (ByteArray × ByteArray)) : Prop := ps.length ≤ 512 ∧ ∀ i, i < ps.length → stepP ps i
def stepL (ts : List ByteArray) (i : Nat) : Prop := ∀ x, ts[i]? = some x → x.size ≤ 4096
def okL (ts : List ByteArray) : Prop := ts.length ≤ 512 ∧ ∀ i, i < ts.length → stepL ts i
def stepS (ts : List ByteArray) (i : Nat) : Prop := ∀ x, ts[i]? = some x → x.size ≤ 4096 ∧ (0 < i → ∀ y, ts[i - 1]? = some y → blt y x = true)
def okS (ts : List ByteArray) : Prop := ts.length ≤ 512 ∧ ∀ i, i < ts.length → stepS ts i
def before (a b : Int × ByteArray) : Prop := a.1 < b.1 ∨ a.1 = b.1 ∧ blt a.2 b.2 = true
def stepZ (zs : List (Int × ByteArray)) (i : Nat) : Prop := ∀ x, zs[i]? = some x → x.2.size ≤ 4096 ∧ (0 < i → ∀ y, zs[i - 1]? = some y → before y x) ∧ ∀ j y, j < i → zs[j]? = some y → y.2 ≠ x.2
def okZ (zs : List (Int × ByteArray)) : Prop := zs.length ≤ 512 ∧ ∀ i, i < zs.length → stepZ zs i

structure RightV (v : Val) : Prop where
  kind : 1 ≤ v.kind ∧ v.kind ≤ 5
  text : v.kind ≠ 1 → v.text = ⟨#[]⟩
  ps : v.kind ≠ 2 → v.ps = []
  ts : v.kind ≠ 3 → v.kind ≠ 4 → v.ts = []
  zs : v.kind ≠ 5 → v.zs = []
  str : v.kind = 1 → v.text.size ≤ 4096
  hash : v.kind = 2 → v.ps ≠ [] ∧ okP v.ps
  list : v.kind = 3 → v.ts ≠ [] ∧ okL v.ts
  set : v.kind = 4 → v.ts ≠ [] ∧ okS v.ts
  zset : v.kind = 5 → v.zs ≠ [] ∧ okZ v.zs

theorem RightV.lens {v : Val} (h : RightV v) : (v.kind = 2 ∨ v.ps.length = 0) ∧ (v.kind = 3 ∨ v.kind = 4 ∨ v.ts.length = 0) ∧ (v.kind = 5 ∨ v.zs.length = 0) := by
  refine ⟨?_, ?_, ?_⟩
  · by_cases hk : v.kind = 2
    · exact .inl hk
    · exact .inr (by rw [h.ps hk]; rfl)
  · by_cases hk : v.kind = 3
    · exact .inl hk
    · by_cases hk' : v.kind = 4
      · exact .inr (.inl hk')
      · exact .inr (.inr (by rw [h.ts hk hk']; rfl))
  · by_cases hk : v.kind = 5
    · exact .inl hk
    · exact .inr (by rw [h.zs hk]; rfl)

theorem right1 {s : ByteArray} {ps : List (ByteArray × ByteArray)} {ts : List ByteArray} {zs : List (Int × ByteArray)} : RightV ⟨1, s, ps, ts, zs⟩ ↔ s.size ≤ 4096 ∧ ps.length = 0 ∧ ts.length = 0 ∧ zs.length = 0 := by
  have e0 : ∀ {α : Type} {l : List α}, l.length = 0 ↔ l = [] := List.length_eq_zero_iff
  have e1 : ∀ {α : Type} {l : List α}, 0 < l.length ↔ l ≠ [] := List.length_pos_iff
  rw [e0, e0, e0]
  constructor
  · intro h
    have := h.text; have := h.ps; have := h.ts; have := h.zs; have := h.str; have := h.hash; have := h.list; have := h.set; have := h.zset
    simp_all
  · intro h
    constructor <;> simp_all
theorem right2 {s : ByteArray} {ps : List (ByteArray × ByteArray)} {ts : List ByteArray} {zs : List (Int × ByteArray)} : RightV ⟨2, s, ps, ts, zs⟩ ↔ s = ⟨#[]⟩ ∧ 0 < ps.length ∧ okP ps ∧ ts.length = 0 ∧ zs.length = 0 := by
  have e0 : ∀ {α : Type} {l : List α}, l.length = 0 ↔ l = [] := List.length_eq_zero_iff
  have e1 : ∀ {α : Type} {l : List α}, 0 < l.length ↔ l ≠ [] := List.length_pos_iff
  rw [e0, e0, e1]
  constructor
  · intro h
    have := h.text; have := h.ps; have := h.ts; have := h.zs; have := h.str; have := h.hash; have := h.list; have := h.set; have := h.zset
    simp_all
  · intro h
    constructor <;> simp_all
theorem right3 {s : ByteArray} {ps : List (ByteArray × ByteArray)} {ts : List ByteArray} {zs : List (Int × ByteArray)} : RightV ⟨3, s, ps, ts, zs⟩ ↔ s = ⟨#[]⟩ ∧ 0 < ts.length ∧ okL ts ∧ ps.length = 0 ∧ zs.length = 0 := by
  have e0 : ∀ {α : Type} {l : List α}, l.length = 0 ↔ l = [] := List.length_eq_zero_iff
  have e1 : ∀ {α : Type} {l : List α}, 0 < l.length ↔ l ≠ [] := List.length_pos_iff
  rw [e0, e0, e1]
  constructor
  · intro h
    have := h.text; have := h.ps; have := h.ts; have := h.zs; have := h.str; have := h.hash; have := h.list; have := h.set; have := h.zset
    simp_all
  · intro h
    constructor <;> simp_all
theorem right4 {s : ByteArray} {ps : List (ByteArray × ByteArray)} {ts : List ByteArray} {zs : List (Int × ByteArray)} : RightV ⟨4, s, ps, ts, zs⟩ ↔ s = ⟨#[]⟩ ∧ 0 < ts.length ∧ okS ts ∧ ps.length = 0 ∧ zs.length = 0 := by
  have e0 : ∀ {α : Type} {l : List α}, l.length = 0 ↔ l = [] := List.length_eq_zero_iff
  have e1 : ∀ {α : Type} {l : List α}, 0 < l.length ↔ l ≠ [] := List.length_pos_iff
  rw [e0, e0, e1]
  constructor
  · intro h
    have := h.text; have := h.ps; have := h.ts; have := h.zs; have := h.str; have := h.hash; have := h.list; have := h.set; have := h.zset
    simp_all
  · intro h
    constructor <;> simp_all
theorem right5 {s : ByteArray} {ps : List (ByteArray × ByteArray)} {ts : List ByteArray} {zs : List (Int × ByteArray)} : RightV ⟨5, s, ps, ts, zs⟩ ↔ s = ⟨#[]⟩ ∧ 0 < zs.length ∧ okZ zs ∧ ps.length = 0 ∧ ts.length = 0 := by
  have e0 : ∀ {α : Type} {l : List α}, l.length = 0 ↔ l = [] := List.length_eq_zero_iff
  have e1 : ∀ {α : Type} {l : List α}, 0 < l.length ↔ l ≠ [] := List.length_pos_iff
  rw [e0, e0, e1]
  constructor
  · intro h
    have := h.text; have := h.ps; have := h.ts; have := h.zs; have := h.str; have := h.hash; have := h.list; have := h.set; have := h.zset
    simp_all
  · intro h
    constructor <;> simp_all

/-- texts and numbers as a program can hold them -/
structure Fits (v : Val) : Prop where
  kind : -9223372036854775808 ≤ v.kind ∧ v.kind ≤ 9223372036854775807
  text : v.text.size ≤ maxLen
  ps : ∀ x ∈ v.ps, x.1.size ≤ maxLen ∧ x.2.size ≤ maxLen
  ts : ∀ x ∈ v.ts, x.size ≤ maxLen
  zs : ∀ x ∈ v.zs, (-9223372036854775808 ≤ x.1 ∧ x.1 ≤ 9223372036854775807) ∧ x.2.size ≤ maxLen

/-- the first place of a name -/
def IsAt (zs : List (Int × ByteArray)) (s : ByteArray) (i : Int) : Prop := (∃ k : Nat, ∃ x, i = k ∧ zs[k]? = some x ∧ x.2 = s ∧ ∀ j y, j < k → zs[j]? = some y → y.2 ≠ s) ∨ (i = -1 ∧ ∀ x ∈ zs, x.2 ≠ s)

theorem isAt_self {zs : List (Int × ByteArray)} {k : Nat} {x : Int × ByteArray} {i : Int} (h : IsAt zs x.2 i) (hk : zs[k]? = some x) : i = k ↔ ∀ j y, j < k → zs[j]? = some y → y.2 ≠ x.2 := by
  rcases h with ⟨m, z, rfl, hm, hz, hf⟩ | ⟨rfl, hf⟩
  · constructor
    · intro e
      have : m = k := by omega
      subst this
      exact hf
    · intro hq
      rcases Nat.lt_trichotomy m k with h1 | h1 | h1
      · exact absurd hz (hq m z h1 hm)
      · omega
      · exact absurd rfl (hf k x h1 hk)
  · exact absurd rfl (hf x (List.mem_of_getElem? hk))

theorem all_step {Q : Nat → Prop} {k : Nat} (h : ∀ i, i < k → Q i) (hk : Q k) : ∀ i, i < k + 1 → Q i := fun i hi => by
  rcases Nat.lt_or_ge i k with h1 | h1
  · exact h i h1
  · have : i = k := by omega
    rw [this]; exact hk
end Go.V
