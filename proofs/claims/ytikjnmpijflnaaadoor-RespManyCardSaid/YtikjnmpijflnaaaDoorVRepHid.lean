/- Replies in memory where some blocks are not looked at. -/
import Derived.Test.YtikjnmpijflnaaaDoorVRepBase
namespace Go.V
/-- an object of which no part is a string's -/
def plainO : Obj → Bool
  | .cells _ _ (0, 0) => true
  | _ => false
open Classical in
/-- the memory without the blocks of S, and without those that a string may share -/
noncomputable def veil (S : Nat → Prop) (H : Array Obj) : Array Obj := H.mapIdx (fun q o => if S q ∨ plainO o = false then .cells #[] 0 (0, 0) else o)
theorem hcell_veil {S : Nat → Prop} {H : Array Obj} {a : Addr} {v : Value} : hcell (veil S H) a = some v ↔ ¬ S a.block ∧ (∃ o, H[a.block]? = some o ∧ plainO o = true) ∧ hcell H a = some v := by
  unfold hcell veil
  rw [Array.getElem?_mapIdx]
  cases h : H[a.block]? with
  | none => simp
  | some o =>
    simp only [Option.map_some]
    by_cases hs : S a.block ∨ plainO o = false
    · rw [if_pos hs]
      rcases hs with hs | hs
      · simp [hs]
      · simp [hs]
    · rw [if_neg hs]
      have h1 : ¬ S a.block := fun h => hs (.inl h)
      have h2 : plainO o = true := by
        cases e : plainO o with
        | true => rfl
        | false => exact absurd (.inr e) hs
      simp [h1, h2]
theorem Sl.cells {α : Type} {e : Enc α} {H H' : Array Obj} {p : Option Addr} {c : Nat} {xs : List α} (h : ∀ a v, hcell H a = some v → hcell H' a = some v) (hs : Sl H e p c xs) : Sl H' e p c xs :=
  ⟨hs.ok, fun i x hi k v hv => h _ _ (hs.cell i x hi k v hv)⟩
theorem RepAt.cells {H H' : Array Obj} (h : ∀ a v, hcell H a = some v → hcell H' a = some v) : ∀ {d : Nat} {r : RawR} {t : Rep}, RepAt H d r t → RepAt H' d r t
  | 0, _, _, h0 => h0
  | d + 1, r, t, ⟨h1, h2, h3, h4, h5, h6, rs, hs, hl, hg⟩ => ⟨h1, h2, h3, h4, h5, h6, rs, hs.cells h, hl, fun i r' t' hr ht => RepAt.cells h (hg i r' t' hr ht)⟩
theorem RepAt.shown {S : Nat → Prop} {H : Array Obj} {d : Nat} {r : RawR} {t : Rep} (h : RepAt (veil S H) d r t) : RepAt H d r t :=
  h.cells fun _ _ hv => (hcell_veil.1 hv).2.2
theorem RepAt.hide {S S' : Nat → Prop} {H H' : Array Obj} {d : Nat} {r : RawR} {t : Rep} (h : RepAt (veil S H) d r t) (hh : ∀ q, ¬ S q → q < H.size → ¬ S' q ∧ H'[q]? = H[q]?) : RepAt (veil S' H') d r t :=
  h.cells fun a v hv => by
    obtain ⟨h1, hp, h2⟩ := hcell_veil.1 hv
    obtain ⟨h3, h4⟩ := hh a.block h1 (hcell_lt h2)
    exact hcell_veil.2 ⟨h3, by rw [h4]; exact hp, by rw [hcell_block h4]; exact h2⟩
theorem Own.hidden {α : Type} {e : Enc α} {w : World} {B T : Nat} {p : Option Addr} {c : Nat} {xs : List α} {S : Nat → Prop} (ho : Own w B T e p c xs) (hb : ∀ q, blk p = some q → ¬ S q) : Sl (veil S w.heap) e p c xs := by
  have h := ho.sl
  refine ⟨h.ok, fun i x hi k v hv => ?_⟩
  cases hp : p with
  | none =>
    have h1 := h.ok.nul hp
    have h2 := h.ok.le
    have h3 := get_lt hi
    omega
  | some a =>
    have hk : blk p = some a.block := by rw [hp]; rfl
    obtain ⟨cur, hc⟩ := ho.at hk
    rw [← hp]
    refine hcell_veil.2 ⟨?_, ⟨.cells cur T (0, 0), ?_, rfl⟩, h.cell i x hi k v hv⟩
    · rw [adr_block p a _ hp]; exact hb _ hk
    · rw [adr_block p a _ hp]; exact hc
theorem ExtS.own {S : List Nat} {w w1 w2 : World} {row : Option Nat} (h1 : ExtS S w w1) (h2 : w1.grownBy w2 row) (hr : ∀ k, row = some k → w.heap.size ≤ k) : ExtS S w w2 :=
  ⟨h2.os.trans h1.os, h2.tape.trans h1.tape, h2.output.trans h1.output, Nat.le_trans h1.size h2.size, fun k hk hs => (h2.block k (Nat.lt_of_lt_of_le hk h1.size) (fun e => by have := hr k e.symm; omega)).trans (h1.block k hk hs)⟩
theorem ExtS.grown1 {a : Nat} {w w' : World} (h : ExtS [a] w w') : w.grownBy w' (some a) :=
  ⟨h.os, h.tape, h.output, h.size, fun k hk hne => h.block k hk (by
    have : k ≠ a := fun e => hne (by rw [e])
    simp [exempt, this])⟩
end Go.V
