/- Sorted sets as lists: put, look, sums of scores; in plain Lean. -/
import Derived.Test.YtdnhagiokdnopaaVZsetCmp
import Derived.Test.YtdnhagiokdnopaaVZNum
namespace Go.V
abbrev Mem := Int × ByteArray
instance (a b : Mem) : Decidable (before a b) := inferInstanceAs (Decidable (_ ∨ _ ∧ _))
theorem before_irrefl (a : Mem) : ¬ before a a := by
  unfold before; simp [blt_irrefl]
theorem before_trans {a b c : Mem} (h : before a b) (k : before b c) : before a c := by
  unfold before at *
  rcases h with h | ⟨h, h'⟩ <;> rcases k with k | ⟨k, k'⟩
  · left; omega
  · left; omega
  · left; omega
  · right; exact ⟨by omega, blt_trans h' k'⟩
theorem before_asymm {a b : Mem} (h : before a b) : ¬ before b a := fun k => before_irrefl a (before_trans h k)
theorem before_total {a b : Mem} (h : a.2 ≠ b.2) (k : ¬ before a b) : before b a := by
  unfold before at *
  rcases Int.lt_trichotomy a.1 b.1 with h1 | h1 | h1
  · exact absurd (.inl h1) k
  · rcases blt_total a.2 b.2 with h2 | h2 | h2
    · exact absurd (.inr ⟨h1, h2⟩) k
    · exact absurd h2 h
    · exact .inr ⟨h1.symm, h2⟩
  · exact .inl h1
def getZ (z : List Mem) (u : ByteArray) : Option Int := (z.find? (fun x => decide (x.2 = u))).map (·.1)
def putGo (m : Mem) : List Mem → Bool → List Mem
  | [], done => if done then [] else [m]
  | x :: z, done => if x.2 = m.2 then putGo m z done else if done = false ∧ before m x then m :: x :: putGo m z true else x :: putGo m z done
def putL (z : List Mem) (m : Mem) : List Mem := putGo m z false
theorem mem_putGo (m x : Mem) : ∀ (z : List Mem) (done : Bool), x ∈ putGo m z done ↔ (done = false ∧ x = m) ∨ (x ∈ z ∧ x.2 ≠ m.2)
  | [], done => by cases done <;> simp [putGo]
  | y :: z, done => by
    unfold putGo
    by_cases h : y.2 = m.2
    · rw [if_pos h, mem_putGo m x z done]
      constructor
      · rintro (h1 | h1)
        · exact .inl h1
        · exact .inr ⟨List.mem_cons_of_mem _ h1.1, h1.2⟩
      · rintro (h1 | ⟨h1, h2⟩)
        · exact .inl h1
        · rcases List.mem_cons.1 h1 with rfl | h1
          · exact absurd h h2
          · exact .inr ⟨h1, h2⟩
    · rw [if_neg h]
      by_cases h3 : done = false ∧ before m y
      · rw [if_pos h3, List.mem_cons, List.mem_cons, mem_putGo m x z true, h3.1]
        constructor
        · rintro (rfl | rfl | h1)
          · exact .inl ⟨rfl, rfl⟩
          · exact .inr ⟨by simp, h⟩
          · rcases h1 with h1 | h1
            · cases h1.1
            · exact .inr ⟨List.mem_cons_of_mem _ h1.1, h1.2⟩
        · rintro (h1 | ⟨h1, h2⟩)
          · exact .inl h1.2
          · rcases List.mem_cons.1 h1 with rfl | h1
            · exact .inr (.inl rfl)
            · exact .inr (.inr (.inr ⟨h1, h2⟩))
      · rw [if_neg h3, List.mem_cons, mem_putGo m x z done]
        constructor
        · rintro (rfl | h1 | h1)
          · exact .inr ⟨by simp, h⟩
          · exact .inl h1
          · exact .inr ⟨List.mem_cons_of_mem _ h1.1, h1.2⟩
        · rintro (h1 | ⟨h1, h2⟩)
          · exact .inr (.inl h1)
          · rcases List.mem_cons.1 h1 with rfl | h1
            · exact .inl rfl
            · exact .inr (.inr ⟨h1, h2⟩)
theorem mem_putL (m x : Mem) (z : List Mem) : x ∈ putL z m ↔ x = m ∨ (x ∈ z ∧ x.2 ≠ m.2) := by
  unfold putL; rw [mem_putGo]; simp
theorem sorted_putGo (m : Mem) : ∀ (z : List Mem) (done : Bool), z.Pairwise before → (done = true → ∀ x ∈ z, before m x) → (putGo m z done).Pairwise before
  | [], done, _, _ => by cases done <;> simp [putGo]
  | y :: z, done, hp, hd => by
    have hp' := (List.pairwise_cons.1 hp).2
    have hpy := (List.pairwise_cons.1 hp).1
    unfold putGo
    by_cases h : y.2 = m.2
    · rw [if_pos h]; exact sorted_putGo m z done hp' (fun e x hx => hd e x (List.mem_cons_of_mem _ hx))
    · rw [if_neg h]
      by_cases h3 : done = false ∧ before m y
      · rw [if_pos h3]
        have hz : ∀ x ∈ z, before m x := fun x hx => before_trans h3.2 (hpy x hx)
        refine List.pairwise_cons.2 ⟨fun x hx => ?_, List.pairwise_cons.2 ⟨fun x hx => ?_, sorted_putGo m z true hp' (fun _ => hz)⟩⟩
        · rcases List.mem_cons.1 hx with rfl | hx
          · exact h3.2
          · rcases (mem_putGo m x z true).1 hx with hx | hx
            · cases hx.1
            · exact hz x hx.1
        · rcases (mem_putGo m x z true).1 hx with hx | hx
          · cases hx.1
          · exact hpy x hx.1
      · rw [if_neg h3]
        refine List.pairwise_cons.2 ⟨fun x hx => ?_, sorted_putGo m z done hp' (fun e x hx => hd e x (List.mem_cons_of_mem _ hx))⟩
        rcases (mem_putGo m x z done).1 hx with ⟨e, rfl⟩ | hx
        · exact before_total (fun e2 => h e2.symm) (fun e2 => h3 ⟨e, e2⟩)
        · exact hpy x hx.1
structure OkZ (z : List Mem) : Prop where
  sorted : z.Pairwise before
  nod : ∀ x ∈ z, ∀ y ∈ z, x.2 = y.2 → x = y
theorem OkZ.nil : OkZ [] := ⟨List.Pairwise.nil, by simp⟩
theorem OkZ.put {z : List Mem} (h : OkZ z) (m : Mem) : OkZ (putL z m) := by
  refine ⟨sorted_putGo m z false h.sorted (by simp), fun x hx y hy e => ?_⟩
  rcases (mem_putL m x z).1 hx with rfl | hx <;> rcases (mem_putL _ y z).1 hy with rfl | hy
  · rfl
  · exact absurd e.symm hy.2
  · exact absurd e hx.2
  · exact h.nod x hx.1 y hy.1 e
theorem getZ_iff {z : List Mem} (h : OkZ z) (u : ByteArray) (s : Int) : getZ z u = some s ↔ (s, u) ∈ z := by
  unfold getZ
  constructor
  · intro e
    obtain ⟨x, hx, rfl⟩ := Option.map_eq_some_iff.1 e
    have := List.find?_some hx
    have h2 : x.2 = u := of_decide_eq_true this
    have := List.mem_of_find?_eq_some hx
    rw [← h2]; exact this
  · intro e
    cases hf : z.find? (fun x => decide (x.2 = u)) with
    | none => have := List.find?_eq_none.1 hf _ e; simp at this
    | some x =>
      have h0 := List.find?_some hf
      have h1 : x.2 = u := of_decide_eq_true h0
      have := h.nod x (List.mem_of_find?_eq_some hf) _ e h1
      rw [this]; rfl
theorem getZ_none {z : List Mem} (u : ByteArray) : getZ z u = none ↔ ∀ x ∈ z, x.2 ≠ u := by
  unfold getZ
  rw [Option.map_eq_none_iff, List.find?_eq_none]
  simp
theorem opt_ext {a b : Option Int} (h : ∀ s, a = some s ↔ b = some s) : a = b := by
  cases a with
  | none => cases b with
    | none => rfl
    | some s => exact (by have := (h s).2 rfl; cases this)
  | some s => exact ((h s).1 rfl).symm
theorem getZ_putL {z : List Mem} (h : OkZ z) (m : Mem) (u : ByteArray) : getZ (putL z m) u = if u = m.2 then some m.1 else getZ z u := by
  apply opt_ext
  intro s
  rw [getZ_iff (h.put m), mem_putL]
  by_cases e : u = m.2
  · rw [if_pos e]
    constructor
    · rintro (h1 | h1)
      · rw [← h1]
      · exact absurd e h1.2
    · intro h1; injection h1 with h1; left; rw [← h1, e]
  · rw [if_neg e, getZ_iff h]
    constructor
    · rintro (h1 | h1)
      · exact absurd (congrArg Prod.snd h1) e
      · exact h1.1
    · intro h1; exact .inr ⟨h1, e⟩
theorem eq_of_before : ∀ {a b : List Mem}, a.Pairwise before → b.Pairwise before → (∀ x, x ∈ a ↔ x ∈ b) → a = b
  | [], [], _, _, _ => rfl
  | [], y :: b, _, _, h => by have := (h y).2 (by simp); simp at this
  | x :: a, [], _, _, h => by have := (h x).1 (by simp); simp at this
  | x :: a, y :: b, ha, hb, h => by
    have ha1 := (List.pairwise_cons.1 ha).1
    have hb1 := (List.pairwise_cons.1 hb).1
    have hxy : x = y := by
      rcases List.mem_cons.1 ((h x).1 (by simp)) with e | e
      · exact e
      · rcases List.mem_cons.1 ((h y).2 (by simp)) with e2 | e2
        · exact e2.symm
        · exact absurd (ha1 y e2) (before_asymm (hb1 x e))
    subst hxy
    congr 1
    refine eq_of_before (List.pairwise_cons.1 ha).2 (List.pairwise_cons.1 hb).2 (fun u => ?_)
    constructor
    · intro hu
      rcases List.mem_cons.1 ((h u).1 (List.mem_cons_of_mem _ hu)) with e | e
      · subst e; exact absurd (ha1 u hu) (before_irrefl u)
      · exact e
    · intro hu
      rcases List.mem_cons.1 ((h u).2 (List.mem_cons_of_mem _ hu)) with e | e
      · subst e; exact absurd (hb1 u hu) (before_irrefl u)
      · exact e
theorem putGo_true_len (m : Mem) : ∀ z : List Mem, (∀ x ∈ z, x.2 ≠ m.2) → (putGo m z true).length = z.length
  | [], _ => rfl
  | x :: z, h => by
    unfold putGo
    rw [if_neg (h x (by simp)), if_neg (by simp), List.length_cons, putGo_true_len m z (fun y hy => h y (List.mem_cons_of_mem _ hy)), List.length_cons]
theorem putGo_len (m : Mem) : ∀ z : List Mem, (∀ x ∈ z, x.2 ≠ m.2) → (putGo m z false).length = z.length + 1
  | [], _ => rfl
  | x :: z, h => by
    have h' : ∀ y ∈ z, y.2 ≠ m.2 := fun y hy => h y (List.mem_cons_of_mem _ hy)
    unfold putGo
    rw [if_neg (h x (by simp))]
    split
    · rw [List.length_cons, List.length_cons, putGo_true_len m z h', List.length_cons]
    · rw [List.length_cons, putGo_len m z h', List.length_cons]
theorem putGo_len_in (m : Mem) (s : Int) : ∀ (z : List Mem) (done : Bool), z.Pairwise (fun x y => x.2 ≠ y.2) → (s, m.2) ∈ z → (putGo m z done).length = z.length - (if done then 1 else 0)
  | [], _, _, h => by simp at h
  | x :: z, done, hp, h => by
    have hp1 := (List.pairwise_cons.1 hp).1
    have hp2 := (List.pairwise_cons.1 hp).2
    unfold putGo
    by_cases e : x.2 = m.2
    · rw [if_pos e]
      have h' : ∀ y ∈ z, y.2 ≠ m.2 := fun y hy e2 => hp1 y hy (e.trans e2.symm)
      cases done with
      | true => rw [putGo_true_len m z h']; simp
      | false => rw [putGo_len m z h']; simp
    · rw [if_neg e]
      have hz : (s, m.2) ∈ z := by
        rcases List.mem_cons.1 h with h1 | h1
        · rw [← h1] at e; exact absurd rfl e
        · exact h1
      have hpos : 0 < z.length := List.length_pos_of_mem hz
      split
      · rename_i h3
        rw [List.length_cons, List.length_cons, putGo_len_in m s z true hp2 hz, h3.1, List.length_cons]
        simp; omega
      · rw [List.length_cons, putGo_len_in m s z done hp2 hz, List.length_cons]
        cases done <;> simp <;> omega
theorem OkZ.pair {z : List Mem} (h : OkZ z) : z.Pairwise (fun x y => x.2 ≠ y.2) := by
  have h2 : z.Pairwise (fun x y => x ∈ z ∧ y ∈ z ∧ before x y) := by
    rw [List.pairwise_iff_getElem]
    intro i j hi hj hij
    exact ⟨List.getElem_mem hi, List.getElem_mem hj, List.pairwise_iff_getElem.1 h.sorted i j hi hj hij⟩
  refine h2.imp ?_
  rintro a b ⟨h3, h4, h5⟩ e
  have := h.nod a h3 b h4 e
  subst this
  exact before_irrefl a h5
theorem putL_len {z : List Mem} (h : OkZ z) (m : Mem) : (putL z m).length = if (getZ z m.2).isSome = true then z.length else z.length + 1 := by
  unfold putL
  cases hg : getZ z m.2 with
  | none => rw [putGo_len m z ((getZ_none m.2).1 hg)]; simp
  | some s =>
    rw [putGo_len_in m s z false h.pair ((getZ_iff h m.2 s).1 hg)]; simp
/-- sums of scores, of those names for which inn holds; none: one does not fit -/
def sumGo (inn : ByteArray → Bool) : List Mem → List Mem → Option (List Mem)
  | [], z => some z
  | m :: l, z => if inn m.2 = true then (if fit64 ((getZ z m.2).getD 0 + m.1) then sumGo inn l (putL z ((getZ z m.2).getD 0 + m.1, m.2)) else none) else sumGo inn l z
theorem sumGo_cons (inn : ByteArray → Bool) (m : Mem) (l z : List Mem) : sumGo inn (m :: l) z = if inn m.2 = true then (if fit64 ((getZ z m.2).getD 0 + m.1) then sumGo inn l (putL z ((getZ z m.2).getD 0 + m.1, m.2)) else none) else sumGo inn l z := rfl
theorem sumGo_congr {inn inn' : ByteArray → Bool} : ∀ (l z : List Mem), (∀ x ∈ l, inn x.2 = inn' x.2) → sumGo inn l z = sumGo inn' l z
  | [], _, _ => rfl
  | m :: l, z, h => by
    unfold sumGo
    rw [h m (by simp), sumGo_congr l z (fun x hx => h x (List.mem_cons_of_mem _ hx)), sumGo_congr l (putL z ((getZ z m.2).getD 0 + m.1, m.2)) (fun x hx => h x (List.mem_cons_of_mem _ hx))]
theorem sumGo_ok {inn : ByteArray → Bool} : ∀ (l z z' : List Mem), OkZ z → sumGo inn l z = some z' → OkZ z'
  | [], z, z', h, e => by injection e with e; subst e; exact h
  | m :: l, z, z', h, e => by
    unfold sumGo at e
    split at e
    · split at e
      · exact sumGo_ok l _ z' (h.put _) e
      · cases e
    · exact sumGo_ok l z z' h e
end Go.V
