/- Replies: trees, and how they lie in memory; in plain Lean. -/
import Derived.Test.YtikjnmpijflnaaaDoorVTypes
import Derived.Test.YtikjnmpijflnaaaDoorVPlain
namespace Go.V
section
variable {P : Program} {n : Nat} {E E0 : Env} {w : World} {Q : Exit → Act → World → Prop}
/-- a region's many ways meet again behind it -/
theorem W_cutR {id : Nat} {l : Array Oper} {b : Bool} {y : Code} (E0 : Env) (J : World → Prop) (h1 : W P n (.region id l b) (fun e a w' => e = .normal ∧ Holds n E0 a ∧ J w') E w) (h2 : ∀ w', J w' → W P n y Q E0 w') : W P n (.seq (.region id l b) y) Q E w := by
  unfold W at *
  exact fun a ha => wp_seq (wp_mono (h1 a ha) (fun e a w' ⟨he, hh, hj⟩ => by subst he; exact h2 w' hj a hh))
theorem Post_cut {J : World → Prop} (hE : Env.sub E0 E) (hJ : J w) : Post n (fun e a w' => e = .normal ∧ Holds n E0 a ∧ J w') .normal E w := by
  unfold Post
  exact fun _ ha => ⟨rfl, ha.sub hE, hJ⟩
end
/-- a reply as it lies in a slice -/
structure RawR where
  kind : Int
  s : ByteArray
  n : Int
  p : Option Addr
  len : Nat
  cap : Nat
def eRep : Enc RawR := ⟨4, fun r => [.int .i64 r.kind, .string r.s, .int .i64 r.n, .slice r.p r.len r.cap], fun _ => rfl, fun _ v hv => by simp at hv; rcases hv with rfl | rfl | rfl | rfl <;> rfl, by decide⟩
inductive Rep where
  | mk (kind : Int) (s : ByteArray) (n : Int) (l : List Rep)
def Rep.kind : Rep → Int | .mk k _ _ _ => k
def Rep.s : Rep → ByteArray | .mk _ s _ _ => s
def Rep.n : Rep → Int | .mk _ _ n _ => n
def Rep.l : Rep → List Rep | .mk _ _ _ l => l
theorem Rep.ext' {a b : Rep} (h1 : a.kind = b.kind) (h2 : a.s = b.s) (h3 : a.n = b.n) (h4 : a.l = b.l) : a = b := by
  cases a; cases b
  simp only [Rep.kind, Rep.s, Rep.n, Rep.l] at *
  subst h1 h2 h3 h4
  rfl
/-- tree t lies at r, not deeper than d -/
def RepAt (H : Array Obj) : Nat → RawR → Rep → Prop
  | 0, _, _ => False
  | d + 1, r, t => r.kind = t.kind ∧ r.s = t.s ∧ r.n = t.n ∧ r.len = t.l.length ∧ t.s.size ≤ maxLen ∧ (-9223372036854775808 ≤ t.n ∧ t.n ≤ 9223372036854775807) ∧
    ∃ rs : List RawR, Sl H eRep r.p r.cap rs ∧ rs.length = t.l.length ∧ ∀ (i : Nat) r' t', rs[i]? = some r' → t.l[i]? = some t' → RepAt H d r' t'
/-- several -/
structure RepsAt (H : Array Obj) (d : Nat) (p : Option Addr) (c : Nat) (rs : List RawR) (ts : List Rep) : Prop where
  sl : Sl H eRep p c rs
  len : rs.length = ts.length
  get : ∀ (i : Nat) r t, rs[i]? = some r → ts[i]? = some t → RepAt H d r t
theorem RepAt.ext {w w' : World} (hx : Ext w w') : ∀ {d : Nat} {r : RawR} {t : Rep}, RepAt w.heap d r t → RepAt w'.heap d r t
  | 0, _, _, h => h
  | d + 1, r, t, ⟨h1, h2, h3, h4, h5, h6, rs, hs, hl, hg⟩ => ⟨h1, h2, h3, h4, h5, h6, rs, hs.ext hx, hl, fun i r' t' hr ht => RepAt.ext hx (hg i r' t' hr ht)⟩
theorem RepsAt.ext {w w' : World} {d : Nat} {p : Option Addr} {c : Nat} {rs : List RawR} {ts : List Rep} (h : RepsAt w.heap d p c rs ts) (hx : Ext w w') : RepsAt w'.heap d p c rs ts :=
  ⟨h.sl.ext hx, h.len, fun i r t hr ht => (h.get i r t hr ht).ext hx⟩
/-- a reply and its list -/
theorem RepAt.open {H : Array Obj} {d : Nat} {r : RawR} {t : Rep} (h : RepAt H d r t) : ∃ e rs, d = e + 1 ∧ r.kind = t.kind ∧ r.s = t.s ∧ r.n = t.n ∧ r.len = rs.length ∧ t.s.size ≤ maxLen ∧ (-9223372036854775808 ≤ t.n ∧ t.n ≤ 9223372036854775807) ∧ RepsAt H e r.p r.cap rs t.l := by
  cases d with
  | zero => exact h.elim
  | succ d =>
    obtain ⟨h1, h2, h3, h4, h5, h6, rs, hs, hl, hg⟩ := h
    exact ⟨d, rs, rfl, h1, h2, h3, by rw [h4, hl], h5, h6, hs, hl, hg⟩
theorem RepAt.mono {H : Array Obj} : ∀ {d e : Nat} {r : RawR} {t : Rep}, RepAt H d r t → d ≤ e → RepAt H e r t
  | 0, _, _, _, h, _ => h.elim
  | d + 1, 0, _, _, _, hl => by omega
  | d + 1, e + 1, r, t, ⟨h1, h2, h3, h4, h5, h6, rs, hs, hl, hg⟩, hle => ⟨h1, h2, h3, h4, h5, h6, rs, hs, hl, fun i r' t' hr ht => RepAt.mono (hg i r' t' hr ht) (by omega)⟩
/-- no end of a line in s -/
def nobr (s : ByteArray) : Bool := s.data.toList.all (fun b => decide (b ≠ 13) && decide (b ≠ 10))
theorem nobr_iff (s : ByteArray) : nobr s = true ↔ ∀ k, k < s.size → bget s k ≠ 13 ∧ bget s k ≠ 10 := by
  unfold nobr
  rw [List.all_eq_true]
  constructor
  · intro h k hk
    have := h (bget s k) (by
      rw [bget_list]
      rw [List.getD_eq_getElem?_getD, List.getElem?_eq_getElem (by rw [← size_list]; exact hk)]
      exact List.getElem_mem _)
    simpa using this
  · intro h b hb
    obtain ⟨k, hk⟩ := List.getElem?_of_mem hb
    have hlt : k < s.size := by rw [size_list]; exact get_lt hk
    have := h k hlt
    rw [bget_list, List.getD_eq_getElem?_getD, hk] at this
    simpa using this
def leafOk (t : Rep) : Bool :=
  decide (0 ≤ t.kind) && decide (t.kind ≤ 5) && (decide (t.kind = 5) || t.l.isEmpty) && (decide (t.kind = 2) || decide (t.n = 0)) && (decide (t.kind = 0) || decide (t.kind = 1) || decide (t.kind = 3) || decide (t.s = ⟨#[]⟩)) && (decide (2 ≤ t.kind) || nobr t.s)
/-- Right, with so many arrays within one another -/
def rightT : Nat → Rep → Bool
  | 0, t => leafOk t && decide (t.kind ≠ 5)
  | d + 1, t => leafOk t && t.l.all (rightT d)
def sizeL (f : Rep → Int) : List Rep → Int → Int
  | [], n => n
  | x :: l, n => if n < 100000 then sizeL f l (n + f x) else n
/-- Size, so deep -/
def sizeT : Nat → Rep → Int
  | 0, _ => 100000
  | d + 1, t => if 2000 < t.s.size then 100000 else sizeL (sizeT d) t.l 1
end Go.V
