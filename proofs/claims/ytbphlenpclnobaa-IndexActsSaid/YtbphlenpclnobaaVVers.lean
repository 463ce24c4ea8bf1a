/- Versions of values as plain data. -/
import Derived.Test.YtbphlenpclnobaaVVals
namespace Go.V

/-- all that r leads to is newer than B -/
def NewR (B : Nat) (r : RawV) : Prop := ∀ a : Addr, r.p1 = some a ∨ r.p2 = some a ∨ r.p3 = some a → B ≤ a.block
theorem NewR.mono {B B' : Nat} {r : RawV} (h : NewR B r) (hb : B' ≤ B) : NewR B' r := fun a ha => Nat.le_trans hb (h a ha)
theorem Rv.grown {w w' : World} {r : RawV} {v : Val} {b B : Nat} (h : Rv w.heap r v) (hg : w.grownBy w' (some b)) (hn : NewR B r) (hb : b < B) : Rv w'.heap r v :=
  ⟨h.kind, h.text, h.n1, h.n2, h.n3,
    h.s1.grown hg (fun a ha _ e => by have := hn a (.inl ha); injection e with e; omega),
    h.s2.grown hg (fun a ha _ e => by have := hn a (.inr (.inl ha)); injection e with e; omega),
    h.s3.grown hg (fun a ha _ e => by have := hn a (.inr (.inr ha)); injection e with e; omega)⟩

def OldR (B : Nat) (r : RawV) : Prop := ∀ a : Addr, r.p1 = some a ∨ r.p2 = some a ∨ r.p3 = some a → a.block < B
theorem OldR.mono {B B' : Nat} {r : RawV} (h : OldR B r) (hb : B ≤ B') : OldR B' r := fun a ha => Nat.lt_of_lt_of_le (h a ha) hb
theorem Rv.grownN {w w' : World} {r : RawV} {v : Val} {row : Option Nat} (h : Rv w.heap r v) (hg : w.grownBy w' row) (hn : ∀ a : Addr, r.p1 = some a ∨ r.p2 = some a ∨ r.p3 = some a → row ≠ some a.block) : Rv w'.heap r v :=
  ⟨h.kind, h.text, h.n1, h.n2, h.n3, h.s1.grown hg (fun a ha _ => hn a (.inl ha)), h.s2.grown hg (fun a ha _ => hn a (.inr (.inl ha))), h.s3.grown hg (fun a ha _ => hn a (.inr (.inr ha)))⟩

structure Ver where
  stamp : Int
  gone : Bool
  exp : Int
  val : Val

structure RawVer where
  stamp : Int
  gone : Bool
  exp : Int
  raw : RawV
def eVer : Enc RawVer := ⟨8, fun r => [.int .i64 r.stamp, .bool r.gone, .int .i64 r.exp, .int .i64 r.raw.kind, .string r.raw.text, .slice r.raw.p1 r.raw.n1 r.raw.c1, .slice r.raw.p2 r.raw.n2 r.raw.c2, .slice r.raw.p3 r.raw.n3 r.raw.c3], fun _ => rfl,
  fun _ v hv => by simp at hv; rcases hv with rfl | rfl | rfl | rfl | rfl | rfl | rfl | rfl <;> rfl, by decide⟩
theorem ver_sub (r : RawVer) : ((eVer.enc r).drop 3).take 5 = eRaw.enc r.raw := rfl

structure VerAt (H : Array Obj) (r : RawVer) (v : Ver) : Prop where
  stamp : r.stamp = v.stamp
  gone : r.gone = v.gone
  exp : r.exp = v.exp
  val : Rv H r.raw v.val
theorem VerAt.ext {w w' : World} {r : RawVer} {v : Ver} (h : VerAt w.heap r v) (hx : Ext w w') : VerAt w'.heap r v := ⟨h.stamp, h.gone, h.exp, h.val.ext hx⟩

/-- the versions rs lie at p and read as vs -/
structure ChainAt (H : Array Obj) (p : Option Addr) (c : Nat) (rs : List RawVer) (vs : List Ver) : Prop where
  sl : Sl H eVer p c rs
  len : rs.length = vs.length
  get : ∀ (i : Nat) r v, rs[i]? = some r → vs[i]? = some v → VerAt H r v
theorem ChainAt.ext {w w' : World} {p : Option Addr} {c : Nat} {rs : List RawVer} {vs : List Ver} (h : ChainAt w.heap p c rs vs) (hx : Ext w w') : ChainAt w'.heap p c rs vs := ⟨h.sl.ext hx, h.len, fun i r v h1 h2 => (h.get i r v h1 h2).ext hx⟩
structure FitsVer (v : Ver) : Prop where
  stamp : -9223372036854775808 ≤ v.stamp ∧ v.stamp ≤ 9223372036854775807
  exp : -9223372036854775808 ≤ v.exp ∧ v.exp ≤ 9223372036854775807
  val : Fits v.val

def val0 : Val := ⟨0, ⟨#[]⟩, [], [], []⟩
def raw0 : RawV := ⟨0, ⟨#[]⟩, none, 0, 0, none, 0, 0, none, 0, 0⟩
theorem rv0 {H : Array Obj} : Rv H raw0 val0 := ⟨rfl, rfl, rfl, rfl, rfl, Sl.nil, Sl.nil, Sl.nil⟩
structure OneV (v : Ver) : Prop where
  lo : 1 ≤ v.stamp
  hi : v.stamp ≤ 1152921504606846975
  e0 : 0 ≤ v.exp
  e1 : v.exp ≤ 1099511627776
  gone : v.gone = true → v.exp = 0 ∧ v.val = val0
  here : v.gone = false → RightV v.val
def stepR (vs : List Ver) (i : Nat) : Prop := ∀ x, vs[i]? = some x → OneV x ∧ (0 < i → ∀ y, vs[i - 1]? = some y → y.stamp < x.stamp)
def RisesV (vs : List Ver) : Prop := ∀ i, i < vs.length → stepR vs i
/-- the stamps rise -/
def Rising (vs : List Ver) : Prop := ∀ (i : Nat) a b, vs[i]? = some a → vs[i + 1]? = some b → a.stamp < b.stamp
theorem Rising.lt {vs : List Ver} (h : Rising vs) {i : Nat} {a : Ver} (hi : vs[i]? = some a) : ∀ (d : Nat) b, vs[i + 1 + d]? = some b → a.stamp < b.stamp
  | 0, b, hb => h i a b hi hb
  | d + 1, b, hb => by
    have hl := get_lt hb
    obtain ⟨c, hc⟩ := get_some (xs := vs) (k := i + 1 + d) (by omega)
    have h1 := h.lt hi d c hc
    have h2 := h _ c b hc hb
    omega
/-- how many stamps do not exceed s -/
def IsUpto (vs : List Ver) (s : Int) (n : Nat) : Prop := n ≤ vs.length ∧ (∀ i v, i < n → vs[i]? = some v → v.stamp ≤ s) ∧ ∀ i v, n ≤ i → vs[i]? = some v → s < v.stamp
theorem RisesV.rising {vs : List Ver} (h : RisesV vs) : Rising vs := fun i a b ha hb => by
  have := (h (i + 1) (get_lt hb) b hb).2 (by omega) a (by simpa using ha)
  exact this
theorem RisesV.one {vs : List Ver} (h : RisesV vs) {v : Ver} (hv : v ∈ vs) : OneV v := by
  obtain ⟨i, hi⟩ := List.getElem?_of_mem hv
  exact (h i (get_lt hi) v hi).1
theorem upto_at {vs : List Ver} {s : Int} {n i : Nat} {v : Ver} (hn : IsUpto vs s n) (hv : vs[i]? = some v) (h1 : v.stamp ≤ s) (h2 : ∀ b, vs[i + 1]? = some b → s < b.stamp) : n = i + 1 := by
  have a1 : i < n := by
    rcases Nat.lt_or_ge i n with h | h
    · exact h
    · have := hn.2.2 i v h hv; omega
  have a2 : n ≤ i + 1 := by
    rcases Nat.lt_or_ge (i + 1) n with h | h
    · have h3 := hn.1
      obtain ⟨b, hb⟩ := get_some (xs := vs) (k := i + 1) (by omega)
      have := hn.2.1 _ b h hb
      have := h2 b hb
      omega
    · exact h
  omega
theorem upto_none {vs : List Ver} {s : Int} {n : Nat} (hn : IsUpto vs s n) (h : ∀ v ∈ vs, s < v.stamp) : n = 0 := by
  rcases Nat.eq_zero_or_pos n with h0 | h0
  · exact h0
  · have h3 := hn.1
    obtain ⟨b, hb⟩ := get_some (xs := vs) (k := 0) (by omega)
    have := hn.2.1 0 b h0 hb
    have := h b (List.mem_of_getElem? hb)
    omega
structure AliveV (v : Ver) (clock : Int) : Prop where
  here : v.gone = false
  exp : v.exp = 0 ∨ clock < v.exp
end Go.V
