/- Replies in memory where some blocks are not looked at. -/
import Derived.Test.YtikjnmpijflnaaaDoorVRepBase
namespace Go.V
open Classical in
/-- the memory without the blocks of S -/
noncomputable def veil (S : Nat → Prop) (H : Array Obj) : Array Obj := H.mapIdx (fun q o => if S q then .cells #[] 0 (0, 0) else o)
theorem hcell_veil {S : Nat → Prop} {H : Array Obj} {a : Addr} {v : Value} : hcell (veil S H) a = some v ↔ ¬ S a.block ∧ hcell H a = some v := by
  unfold hcell veil
  rw [Array.getElem?_mapIdx]
  by_cases hs : S a.block
  · simp only [hs, if_true, not_true, false_and, iff_false]
    cases H[a.block]? with
    | none => simp
    | some o => simp
  · simp only [hs, if_false, not_false_eq_true, true_and]
    cases H[a.block]? with
    | none => simp
    | some o => simp
theorem Sl.cells {α : Type} {e : Enc α} {H H' : Array Obj} {p : Option Addr} {c : Nat} {xs : List α} (h : ∀ a v, hcell H a = some v → hcell H' a = some v) (hs : Sl H e p c xs) : Sl H' e p c xs :=
  ⟨hs.ok, fun i x hi k v hv => h _ _ (hs.cell i x hi k v hv)⟩
theorem RepAt.cells {H H' : Array Obj} (h : ∀ a v, hcell H a = some v → hcell H' a = some v) : ∀ {d : Nat} {r : RawR} {t : Rep}, RepAt H d r t → RepAt H' d r t
  | 0, _, _, h0 => h0
  | d + 1, r, t, ⟨h1, h2, h3, h4, h5, h6, rs, hs, hl, hg⟩ => ⟨h1, h2, h3, h4, h5, h6, rs, hs.cells h, hl, fun i r' t' hr ht => RepAt.cells h (hg i r' t' hr ht)⟩
theorem RepAt.shown {S : Nat → Prop} {H : Array Obj} {d : Nat} {r : RawR} {t : Rep} (h : RepAt (veil S H) d r t) : RepAt H d r t :=
  h.cells fun _ _ hv => (hcell_veil.1 hv).2
theorem RepAt.hide {S S' : Nat → Prop} {H H' : Array Obj} {d : Nat} {r : RawR} {t : Rep} (h : RepAt (veil S H) d r t) (hh : ∀ q, ¬ S q → q < H.size → ¬ S' q ∧ H'[q]? = H[q]?) : RepAt (veil S' H') d r t :=
  h.cells fun a v hv => by
    obtain ⟨h1, h2⟩ := hcell_veil.1 hv
    obtain ⟨h3, h4⟩ := hh a.block h1 (hcell_lt h2)
    exact hcell_veil.2 ⟨h3, by rw [hcell_block h4]; exact h2⟩
theorem Sl.hidden {α : Type} {e : Enc α} {H : Array Obj} {p : Option Addr} {c : Nat} {xs : List α} {S : Nat → Prop} (h : Sl H e p c xs) (hb : ∀ q, blk p = some q → ¬ S q) : Sl (veil S H) e p c xs := by
  refine ⟨h.ok, fun i x hi k v hv => hcell_veil.2 ⟨?_, h.cell i x hi k v hv⟩⟩
  cases p with
  | none =>
    have h1 := h.ok.nul rfl
    have h2 := h.ok.le
    have h3 := get_lt hi
    omega
  | some a => exact hb a.block rfl
theorem ExtS.own {S : List Nat} {w w1 w2 : World} {row : Option Nat} (h1 : ExtS S w w1) (h2 : w1.grownBy w2 row) (hr : ∀ k, row = some k → w.heap.size ≤ k) : ExtS S w w2 :=
  ⟨h2.os.trans h1.os, h2.tape.trans h1.tape, h2.output.trans h1.output, Nat.le_trans h1.size h2.size, fun k hk hs => (h2.block k (Nat.lt_of_lt_of_le hk h1.size) (fun e => by have := hr k e.symm; omega)).trans (h1.block k hk hs)⟩
theorem ExtS.grown1 {a : Nat} {w w' : World} (h : ExtS [a] w w') : w.grownBy w' (some a) :=
  ⟨h.os, h.tape, h.output, h.size, fun k hk hne => h.block k hk (by
    have : k ≠ a := fun e => hne (by rw [e])
    simp [exempt, this])⟩
end Go.V
