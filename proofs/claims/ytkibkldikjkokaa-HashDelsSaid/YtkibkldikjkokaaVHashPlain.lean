/- Layer 10: what hashes are, plainly. -/
import Derived.Test.YtkibkldikjkokaaVHashPut
namespace Go.Proofs.Ytkibkldikjkokaa
open Go.V
attribute [local irreducible] Blk Own hcell IntT SliceT PlainT AggT SizeT StrT FieldT ZeroT EqT ArrT

theorem sortedP_cons {y : ByteArray × ByteArray} {ps : List (ByteArray × ByteArray)} : SortedP (y :: ps) ↔ (∀ z, ps[0]? = some z → blt y.1 z.1 = true) ∧ SortedP ps := by
  constructor
  · intro h
    exact ⟨fun z hz => h 0 y z rfl (by simpa using hz), fun i a b ha hb => h (i + 1) a b (by simpa using ha) (by simpa using hb)⟩
  · rintro ⟨h1, h2⟩ i a b ha hb
    cases i with
    | zero => simp at ha; subst ha; exact h1 b (by simpa using hb)
    | succ i => exact h2 i a b (by simpa using ha) (by simpa using hb)
theorem sortedP_nil : SortedP [] := fun i a b ha => by simp at ha
/-- every field behind the first is greater -/
theorem sortedP_all {y : ByteArray × ByteArray} {ps : List (ByteArray × ByteArray)} (h : SortedP (y :: ps)) : ∀ z ∈ ps, blt y.1 z.1 = true := fun z hz => by
  obtain ⟨i, hi⟩ := List.getElem?_of_mem hz
  exact h.lt (i := 0) (a := y) rfl i z (by rw [Nat.zero_add, Nat.add_comm]; simpa using hi)
theorem putH_head {ps : List (ByteArray × ByteArray)} {x y : ByteArray × ByteArray} (h : ∀ z, ps[0]? = some z → blt y.1 z.1 = true) (hx : blt y.1 x.1 = true) : ∀ z, (putH ps x)[0]? = some z → blt y.1 z.1 = true := by
  intro z hz
  cases ps with
  | nil => simp [putH] at hz; rw [← hz]; exact hx
  | cons a ps =>
    simp only [putH] at hz
    split at hz
    · simp at hz; exact h z (by simpa using hz)
    · split at hz <;> (simp at hz; rw [← hz]; exact hx)
theorem putH_sorted : ∀ {ps : List (ByteArray × ByteArray)} {x : ByteArray × ByteArray}, SortedP ps → SortedP (putH ps x)
  | [], x, _ => fun i a b ha hb => by simp [putH] at hb
  | y :: ps, x, h => by
    have ⟨h1, h2⟩ := sortedP_cons.1 h
    simp only [putH]
    split
    · rename_i hb
      exact sortedP_cons.2 ⟨putH_head h1 hb, putH_sorted h2⟩
    · rename_i hb
      split
      · rename_i e
        exact sortedP_cons.2 ⟨fun z hz => by rw [← e]; exact h1 z hz, h2⟩
      · rename_i e
        refine sortedP_cons.2 ⟨fun z hz => ?_, h⟩
        simp at hz; subst hz
        rcases blt_total x.1 y.1 with h3 | h3 | h3
        · exact h3
        · exact absurd h3.symm e
        · exact absurd h3 hb
theorem putH_mem : ∀ {ps : List (ByteArray × ByteArray)} {x z : ByteArray × ByteArray}, z ∈ putH ps x → z = x ∨ z ∈ ps
  | [], x, z, h => by simp [putH] at h; exact .inl h
  | y :: ps, x, z, h => by
    simp only [putH] at h
    split at h
    · rcases List.mem_cons.1 h with h | h
      · exact .inr (by simp [h])
      · rcases putH_mem h with h | h
        · exact .inl h
        · exact .inr (by simp [h])
    · split at h
      · rcases List.mem_cons.1 h with h | h
        · exact .inl h
        · exact .inr (by simp [h])
      · rcases List.mem_cons.1 h with h | h
        · exact .inl h
        · exact .inr h
theorem hasH_cons {y : ByteArray × ByteArray} {ps : List (ByteArray × ByteArray)} {s : ByteArray} : hasH (y :: ps) s = (decide (y.1 = s) || hasH ps s) := rfl
theorem hasH_less {ps : List (ByteArray × ByteArray)} {s : ByteArray} (h : ∀ z ∈ ps, blt s z.1 = true) : hasH ps s = false := by
  unfold hasH
  rw [List.any_eq_false]
  intro z hz e
  have e := of_decide_eq_true e
  have := h z hz
  rw [e, blt_irrefl] at this; cases this
theorem putH_length : ∀ {ps : List (ByteArray × ByteArray)} {x : ByteArray × ByteArray}, SortedP ps → (putH ps x).length = ps.length + (if hasH ps x.1 = true then 0 else 1)
  | [], x, _ => by simp [putH, hasH]
  | y :: ps, x, h => by
    have ⟨h1, h2⟩ := sortedP_cons.1 h
    have ih := putH_length (x := x) h2
    simp only [putH, hasH_cons]
    split
    · rename_i hb
      have hne : ¬ y.1 = x.1 := blt_ne hb
      simp only [hne, decide_false, Bool.false_or, List.length_cons, ih]; omega
    · rename_i hb
      split
      · rename_i e; simp [e]
      · rename_i e
        have hlt : blt x.1 y.1 = true := by
          rcases blt_total x.1 y.1 with h3 | h3 | h3
          · exact h3
          · exact absurd h3.symm e
          · exact absurd h3 hb
        have : hasH ps x.1 = false := hasH_less (fun z hz => blt_trans hlt (sortedP_all h z hz))
        simp [e, this]
theorem putH_le {ps : List (ByteArray × ByteArray)} {x : ByteArray × ByteArray} (h : SortedP ps) : ps.length ≤ (putH ps x).length := by
  rw [putH_length h]; omega

def putsH (ps more : List (ByteArray × ByteArray)) : List (ByteArray × ByteArray) := more.foldl putH ps
theorem putsH_sorted {more : List (ByteArray × ByteArray)} : ∀ {ps : List (ByteArray × ByteArray)}, SortedP ps → SortedP (putsH ps more) := by
  induction more with
  | nil => intro ps h; exact h
  | cons x more ih => intro ps h; exact ih (putH_sorted h)
theorem putsH_le {more : List (ByteArray × ByteArray)} : ∀ {ps : List (ByteArray × ByteArray)}, SortedP ps → ps.length ≤ (putsH ps more).length ∧ (putsH ps more).length ≤ ps.length + more.length := by
  induction more with
  | nil => intro ps h; exact ⟨Nat.le_refl _, by simp [putsH]⟩
  | cons x more ih =>
    intro ps h
    have h1 := ih (putH_sorted (x := x) h)
    have h2 := putH_le (x := x) h
    have h3 := putH_len (ps := ps) (x := x)
    exact ⟨Nat.le_trans h2 h1.1, by have := h1.2; simp only [List.length_cons]; show (putsH (putH ps x) more).length ≤ _; omega⟩
theorem putsH_snoc {ps more : List (ByteArray × ByteArray)} {x : ByteArray × ByteArray} : putsH ps (more ++ [x]) = putH (putsH ps more) x := by simp [putsH]
theorem putsH_app {ps more more' : List (ByteArray × ByteArray)} : putsH ps (more ++ more') = putsH (putsH ps more) more' := by simp [putsH]
theorem putsH_take {ps more : List (ByteArray × ByteArray)} (k : Nat) (h : SortedP ps) : (putsH ps (more.take k)).length ≤ (putsH ps more).length := by
  have : putsH ps more = putsH (putsH ps (more.take k)) (more.drop k) := by rw [← putsH_app, List.take_append_drop]
  rw [this]; exact (putsH_le (putsH_sorted h)).1
theorem putsH_mem {more : List (ByteArray × ByteArray)} : ∀ {ps : List (ByteArray × ByteArray)} {z}, z ∈ putsH ps more → z ∈ more ∨ z ∈ ps := by
  induction more with
  | nil => intro ps z h; exact .inr h
  | cons x more ih =>
    intro ps z h
    rcases ih (ps := putH ps x) h with h | h
    · exact .inl (by simp [h])
    · rcases putH_mem h with h | h
      · exact .inl (by simp [h])
      · exact .inr h

def fitsB (x : ByteArray × ByteArray) : Bool := decide (x.1.size ≤ 4096 ∧ x.2.size ≤ 4096)
/-- what Set answers -/
def setH (ps more : List (ByteArray × ByteArray)) : List (ByteArray × ByteArray) × Int × Int :=
  if more.all fitsB = true then if 512 < (putsH ps more).length then ([], 0, 22) else (putsH ps more, ((putsH ps more).length : Int) - ps.length, 0) else ([], 0, 12)
theorem setH_long {ps more : List (ByteArray × ByteArray)} (h : ∃ x ∈ more, fitsB x = false) : setH ps more = ([], 0, 12) := by
  obtain ⟨x, hx, e⟩ := h
  unfold setH
  rw [if_neg]
  intro h
  have := List.all_eq_true.1 h x hx
  rw [e] at this; cases this
theorem setH_full {ps more : List (ByteArray × ByteArray)} (h : ∀ x ∈ more, fitsB x = true) (hl : 512 < (putsH ps more).length) : setH ps more = ([], 0, 22) := by
  unfold setH
  rw [if_pos (List.all_eq_true.2 h), if_pos hl]
theorem setH_ok {ps more : List (ByteArray × ByteArray)} (h : ∀ x ∈ more, fitsB x = true) (hl : ¬ 512 < (putsH ps more).length) : setH ps more = (putsH ps more, ((putsH ps more).length : Int) - ps.length, 0) := by
  unfold setH
  rw [if_pos (List.all_eq_true.2 h), if_neg hl]
theorem setH_sorted {ps more : List (ByteArray × ByteArray)} (h : SortedP ps) : SortedP (setH ps more).1 := by
  unfold setH
  split
  · split
    · exact sortedP_nil
    · exact putsH_sorted h
  · exact sortedP_nil

/-- what Get answers -/
def getH (ps : List (ByteArray × ByteArray)) (s : ByteArray) : ByteArray × Bool := match ps.find? (fun y => decide (y.1 = s)) with
  | some y => (y.2, true)
  | none => (⟨#[]⟩, false)
theorem getH_at {ps : List (ByteArray × ByteArray)} {s : ByteArray} {k : Nat} {y : ByteArray × ByteArray} (hy : ps[k]? = some y) (e : y.1 = s) (hb : ∀ i z, i < k → ps[i]? = some z → z.1 ≠ s) : getH ps s = (y.2, true) := by
  unfold getH
  have : ps.find? (fun y => decide (y.1 = s)) = some y := by
    rw [List.find?_eq_some_iff_getElem]
    refine ⟨by simpa using e, k, get_lt hy, (List.getElem?_eq_some_iff.1 hy).2, fun j hj => ?_⟩
    have := hb j _ hj (List.getElem?_eq_getElem (by have := get_lt hy; omega))
    simpa using this
  rw [this]
theorem getH_none {ps : List (ByteArray × ByteArray)} {s : ByteArray} (h : ∀ z ∈ ps, z.1 ≠ s) : getH ps s = (⟨#[]⟩, false) := by
  unfold getH
  have : ps.find? (fun y => decide (y.1 = s)) = none := by
    rw [List.find?_eq_none]
    intro z hz
    simpa using h z hz
  rw [this]
theorem pos_none {ps : List (ByteArray × ByteArray)} {s : ByteArray} {n : Nat} (h : IsPos ps s n) (hs : SortedP ps) (hn : ¬ ∃ x, ps[n]? = some x ∧ x.1 = s) : ∀ z ∈ ps, z.1 ≠ s := by
  intro z hz e
  apply hn
  apply (putH_has h hs).1
  unfold hasH
  rw [List.any_eq_true]
  exact ⟨z, hz, decide_eq_true e⟩
theorem pos_first {ps : List (ByteArray × ByteArray)} {s : ByteArray} {n : Nat} (h : IsPos ps s n) : ∀ i z, i < n → ps[i]? = some z → z.1 ≠ s := fun i z hi hz => blt_ne (h.2.1 i z hi hz)
theorem putH_set {ps : List (ByteArray × ByteArray)} {x y : ByteArray × ByteArray} {n : Nat} (h : IsPos ps x.1 n) (hy : ps[n]? = some y) (e : y.1 = x.1) : putH ps x = ps.set n x := by
  rw [putH_pos h, hy]
  simp only [e, if_true]
  rw [List.set_eq_take_append_cons_drop, if_pos (get_lt hy)]
  simp
theorem putH_ins {ps : List (ByteArray × ByteArray)} {x : ByteArray × ByteArray} {n : Nat} (h : IsPos ps x.1 n) (hn : ¬ ∃ y, ps[n]? = some y ∧ y.1 = x.1) : putH ps x = ps.take n ++ [x] ++ ps.drop n := by
  rw [putH_pos h]
  cases hy : ps[n]? with
  | none =>
    have : ps.length ≤ n := by simpa using hy
    simp [List.drop_of_length_le this]
  | some y =>
    have : ¬ y.1 = x.1 := fun e => hn ⟨y, hy, e⟩
    simp [this]
end Go.Proofs.Ytkibkldikjkokaa
