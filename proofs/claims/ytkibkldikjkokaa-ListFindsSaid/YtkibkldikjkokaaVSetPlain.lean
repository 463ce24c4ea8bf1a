/- Layer 12: sets of strings, plainly. -/
import Derived.Test.YtkibkldikjkokaaVPlain
import Derived.Test.YtkibkldikjkokaaVVals
namespace Go.V

def SortedS (l : List ByteArray) : Prop := l.Pairwise (fun a b => blt a b = true)
def hasS (l : List ByteArray) (x : ByteArray) : Bool := l.any (fun y => decide (y = x))
theorem hasS_iff {l : List ByteArray} {x : ByteArray} : hasS l x = true ↔ x ∈ l := by
  unfold hasS
  rw [List.any_eq_true]
  constructor
  · rintro ⟨y, hy, e⟩; rw [← of_decide_eq_true e]; exact hy
  · intro h; exact ⟨x, h, decide_eq_true rfl⟩
theorem hasS_false {l : List ByteArray} {x : ByteArray} : hasS l x = false ↔ ¬ x ∈ l := by
  rw [← hasS_iff]; simp
theorem hasS_congr {l m : List ByteArray} {x : ByteArray} (h : x ∈ l ↔ x ∈ m) : hasS l x = hasS m x := by
  rw [Bool.eq_iff_iff, hasS_iff, hasS_iff]; exact h
theorem sorted_ext : ∀ {a b : List ByteArray}, SortedS a → SortedS b → (∀ x, x ∈ a ↔ x ∈ b) → a = b
  | [], [], _, _, _ => rfl
  | [], y :: b, _, _, h => by have := (h y).2 (by simp); cases this
  | x :: a, [], _, _, h => by have := (h x).1 (by simp); cases this
  | x :: a, y :: b, ha, hb, h => by
    have ⟨ha1, ha2⟩ := List.pairwise_cons.1 ha
    have ⟨hb1, hb2⟩ := List.pairwise_cons.1 hb
    have e : x = y := by
      rcases List.mem_cons.1 ((h x).1 (by simp)) with e | e
      · exact e
      · rcases List.mem_cons.1 ((h y).2 (by simp)) with e2 | e2
        · exact e2.symm
        · have h1 := hb1 x e
          have h2 := ha1 y e2
          have := blt_trans h1 h2
          rw [blt_irrefl] at this; cases this
    subst e
    have := sorted_ext ha2 hb2 (fun z => by
      constructor
      · intro hz
        rcases List.mem_cons.1 ((h z).1 (List.mem_cons_of_mem _ hz)) with e | e
        · subst e; have := ha1 _ hz; rw [blt_irrefl] at this; cases this
        · exact e
      · intro hz
        rcases List.mem_cons.1 ((h z).2 (List.mem_cons_of_mem _ hz)) with e | e
        · subst e; have := hb1 _ hz; rw [blt_irrefl] at this; cases this
        · exact e)
    rw [this]
theorem SortedS.get {l : List ByteArray} (h : SortedS l) {i j : Nat} {a b : ByteArray} (hi : l[i]? = some a) (hj : l[j]? = some b) (hij : i < j) : blt a b = true := by
  have h1 := get_lt hi
  have h2 := get_lt hj
  have := List.pairwise_iff_getElem.1 h i j h1 h2 hij
  rw [List.getElem?_eq_getElem h1] at hi
  rw [List.getElem?_eq_getElem h2] at hj
  injection hi with hi
  injection hj with hj
  rw [← hi, ← hj]; exact this
theorem SortedS.filter {l : List ByteArray} (h : SortedS l) (p : ByteArray → Bool) : SortedS (l.filter p) := List.Pairwise.filter p h
theorem sortedS_nil : SortedS [] := List.Pairwise.nil

/-- x put into a set -/
def insS : List ByteArray → ByteArray → List ByteArray
  | [], x => [x]
  | y :: l, x => if blt y x = true then y :: insS l x else if y = x then y :: l else x :: y :: l
theorem insS_mem : ∀ {l : List ByteArray} {x z : ByteArray}, z ∈ insS l x ↔ z = x ∨ z ∈ l
  | [], x, z => by simp [insS]
  | y :: l, x, z => by
    simp only [insS]
    split
    · simp only [List.mem_cons, insS_mem (l := l)]
      constructor
      · rintro (h | h | h)
        · exact .inr (.inl h)
        · exact .inl h
        · exact .inr (.inr h)
      · rintro (h | h | h)
        · exact .inr (.inl h)
        · exact .inl h
        · exact .inr (.inr h)
    · split
      · rename_i e; subst e; simp
      · simp
theorem insS_sorted : ∀ {l : List ByteArray} {x : ByteArray}, SortedS l → SortedS (insS l x)
  | [], x, _ => List.pairwise_singleton _ _
  | y :: l, x, h => by
    have ⟨h1, h2⟩ := List.pairwise_cons.1 h
    simp only [insS]
    split
    · rename_i hb
      refine List.pairwise_cons.2 ⟨fun z hz => ?_, insS_sorted h2⟩
      rcases insS_mem.1 hz with e | e
      · rw [e]; exact hb
      · exact h1 z e
    · rename_i hb
      split
      · exact h
      · rename_i e
        have hxy : blt x y = true := by
          rcases blt_total x y with h3 | h3 | h3
          · exact h3
          · exact absurd h3.symm e
          · exact absurd h3 hb
        refine List.pairwise_cons.2 ⟨fun z hz => ?_, h⟩
        rcases List.mem_cons.1 hz with e2 | e2
        · rw [e2]; exact hxy
        · exact blt_trans hxy (h1 z e2)
def addsS (s xs : List ByteArray) : List ByteArray := xs.foldl insS s
theorem addsS_sorted {xs : List ByteArray} : ∀ {s : List ByteArray}, SortedS s → SortedS (addsS s xs) := by
  induction xs with
  | nil => intro s h; exact h
  | cons x xs ih => intro s h; exact ih (insS_sorted h)
theorem addsS_mem {xs : List ByteArray} : ∀ {s : List ByteArray} {z : ByteArray}, z ∈ addsS s xs ↔ z ∈ s ∨ z ∈ xs := by
  induction xs with
  | nil => intro s z; simp [addsS]
  | cons x xs ih =>
    intro s z
    have := ih (s := insS s x) (z := z)
    show z ∈ addsS (insS s x) xs ↔ _
    rw [this, insS_mem, List.mem_cons]
    constructor
    · rintro ((h | h) | h)
      · exact .inr (.inl h)
      · exact .inl h
      · exact .inr (.inr h)
    · rintro (h | h | h)
      · exact .inl (.inr h)
      · exact .inl (.inl h)
      · exact .inr h
theorem addsS_eq {s xs r : List ByteArray} (hs : SortedS s) (hr : SortedS r) (h : ∀ z, z ∈ r ↔ z ∈ s ∨ z ∈ xs) : r = addsS s xs :=
  sorted_ext hr (addsS_sorted hs) (fun z => by rw [h z, addsS_mem])
theorem addsS_snoc {s xs : List ByteArray} {x : ByteArray} : addsS s (xs ++ [x]) = insS (addsS s xs) x := by simp [addsS]
theorem addsS_app {s xs ys : List ByteArray} : addsS s (xs ++ ys) = addsS (addsS s xs) ys := by simp [addsS]
theorem insS_has {l : List ByteArray} {x : ByteArray} (hs : SortedS l) (h : hasS l x = true) : insS l x = l :=
  sorted_ext (insS_sorted hs) hs (fun z => by rw [insS_mem]; constructor; (rintro (e | e); (rw [e]; exact hasS_iff.1 h); exact e); exact .inr)
theorem insS_len : ∀ {l : List ByteArray} {x : ByteArray}, (insS l x).length ≤ l.length + 1 ∧ l.length ≤ (insS l x).length
  | [], x => by simp [insS]
  | y :: l, x => by
    have ih := insS_len (l := l) (x := x)
    simp only [insS]
    split
    · simp; omega
    · split <;> simp
theorem addsS_len {xs : List ByteArray} : ∀ {s : List ByteArray}, (addsS s xs).length ≤ s.length + xs.length ∧ s.length ≤ (addsS s xs).length := by
  induction xs with
  | nil => intro s; simp [addsS]
  | cons x xs ih =>
    intro s
    have h1 := ih (s := insS s x)
    have h2 := insS_len (l := s) (x := x)
    have e : addsS s (x :: xs) = addsS (insS s x) xs := rfl
    rw [e]
    simp only [List.length_cons]
    omega
/-- x at its place -/
theorem insS_at {l : List ByteArray} {x : ByteArray} {n : Nat} (hs : SortedS l) (hx : ¬ x ∈ l) (h1 : ∀ i y, i < n → l[i]? = some y → blt y x = true) (h2 : ∀ y, l[n]? = some y → blt y x = false) : l.take n ++ [x] ++ l.drop n = insS l x := by
  have hge : ∀ i y, n ≤ i → l[i]? = some y → blt x y = true := fun i y hi hy => by
    have hgt : ∀ y, y ∈ l → blt y x = false → blt x y = true := fun y hy hb => by
      rcases blt_total x y with h3 | h3 | h3
      · exact h3
      · rw [h3] at hx; exact absurd hy hx
      · rw [h3] at hb; cases hb
    obtain ⟨z, hz⟩ := get_some (xs := l) (k := n) (by have := get_lt hy; omega)
    have hxz := hgt z (List.mem_of_getElem? hz) (h2 z hz)
    rcases Nat.lt_or_ge n i with h | h
    · exact blt_trans hxz (hs.get hz hy h)
    · have : i = n := by omega
      subst this
      rw [hy] at hz; injection hz with hz; rw [hz]; exact hxz
  refine sorted_ext ?_ (insS_sorted hs) (fun z => ?_)
  · unfold SortedS
    rw [List.append_assoc, List.pairwise_append]
    refine ⟨List.Pairwise.sublist (List.take_sublist _ _) hs, ?_, ?_⟩
    · rw [List.singleton_append, List.pairwise_cons]
      refine ⟨fun y hy => ?_, List.Pairwise.sublist (List.drop_sublist _ _) hs⟩
      obtain ⟨i, hi⟩ := List.getElem?_of_mem hy
      rw [List.getElem?_drop] at hi
      exact hge _ y (by omega) hi
    · intro a ha b hb
      obtain ⟨i, hi⟩ := List.getElem?_of_mem ha
      have hil := get_lt hi
      rw [List.getElem?_take] at hi
      split at hi
      · rename_i hin
        rcases List.mem_append.1 hb with hb | hb
        · rw [List.mem_singleton.1 hb]; exact h1 i a hin hi
        · obtain ⟨j, hj⟩ := List.getElem?_of_mem hb
          rw [List.getElem?_drop] at hj
          exact hs.get hi hj (by omega)
      · cases hi
  · rw [insS_mem]
    have : z ∈ l ↔ z ∈ l.take n ∨ z ∈ l.drop n := by
      rw [← List.mem_append, List.take_append_drop]
    rw [this]
    simp only [List.mem_append, List.mem_singleton]
    constructor
    · rintro ((h | h) | h)
      · exact .inr (.inl h)
      · exact .inl h
      · exact .inr (.inr h)
    · rintro (h | h | h)
      · exact .inl (.inr h)
      · exact .inl (.inl h)
      · exact .inr h
theorem okS_of {l : List ByteArray} (h1 : SortedS l) (h2 : l.length ≤ 512) (h3 : ∀ x ∈ l, x.size ≤ 4096) : okS l :=
  ⟨h2, fun i _ x hx => ⟨h3 x (List.mem_of_getElem? hx), fun h0 y hy => h1.get hy hx (by omega)⟩⟩

/-- texts sorted, some of them twice, each once -/
theorem sorted_dedup {ys : List ByteArray} (h : ys.Pairwise (fun a b => blt b a = false)) {i j : Nat} {a b : ByteArray} (hi : ys[i]? = some a) (hj : ys[j]? = some b) (hij : i ≤ j) : blt b a = false := by
  rcases Nat.lt_or_ge i j with h0 | h0
  · have h1 := get_lt hi
    have h2 := get_lt hj
    have := List.pairwise_iff_getElem.1 h i j h1 h2 h0
    rw [List.getElem?_eq_getElem h1] at hi
    rw [List.getElem?_eq_getElem h2] at hj
    injection hi with hi
    injection hj with hj
    rw [← hi, ← hj]; exact this
  · have : i = j := by omega
    subst this
    rw [hi] at hj; injection hj with hj; rw [hj]; exact blt_irrefl _
end Go.V
