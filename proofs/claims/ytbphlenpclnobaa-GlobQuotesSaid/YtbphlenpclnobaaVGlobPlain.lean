/- Layer 2: what a pattern's parts match, plainly, and why looking back to the last star alone is enough. -/
import Derived.Test.YtbphlenpclnobaaVGlob1
namespace Go.V
def matchP : List RawPart → List UInt8 → Bool
  | [], l => l.isEmpty
  | r :: rs, l => if r.star = true then (List.range (l.length + 1)).any (fun k => matchP rs (l.drop k)) else match l with
    | [] => false
    | c :: t => r.has c.toNat && matchP rs t
theorem matchP_star {r : RawPart} {rs : List RawPart} {l : List UInt8} (h : r.star = true) : matchP (r :: rs) l = true ↔ ∃ k, k ≤ l.length ∧ matchP rs (l.drop k) = true := by
  simp only [matchP, h, if_true, List.any_eq_true, List.mem_range]
  constructor
  · rintro ⟨k, hk, h⟩; exact ⟨k, by omega, h⟩
  · rintro ⟨k, hk, h⟩; exact ⟨k, by omega, h⟩
theorem matchP_one {r : RawPart} {rs : List RawPart} {c : UInt8} {t : List UInt8} (h : r.star = false) : matchP (r :: rs) (c :: t) = (r.has c.toNat && matchP rs t) := by
  simp [matchP, h]
theorem matchP_no {r : RawPart} {rs : List RawPart} (h : r.star = false) : matchP (r :: rs) [] = false := by
  simp [matchP, h]
theorem drop_cons {α : Type} {l : List α} {i : Nat} {x : α} (h : l[i]? = some x) : l.drop i = x :: l.drop (i + 1) := by
  have hl := get_lt h
  rw [List.drop_eq_getElem_cons hl]
  rw [List.getElem?_eq_getElem hl] at h
  injection h with h
  rw [h]
theorem star_drop {r : RawPart} {rs : List RawPart} {l : List UInt8} (h : r.star = true) {i j : Nat} (hij : i ≤ j) (hj : j ≤ l.length) (hm : matchP (r :: rs) (l.drop j) = true) : matchP (r :: rs) (l.drop i) = true := by
  obtain ⟨k, hk, hm⟩ := (matchP_star h).1 hm
  rw [List.length_drop] at hk
  rw [List.drop_drop] at hm
  refine (matchP_star h).2 ⟨j - i + k, by rw [List.length_drop]; omega, ?_⟩
  rw [List.drop_drop]
  have : i + (j - i + k) = j + k := by omega
  rw [this]; exact hm
/-- parts that are no stars take one byte each -/
theorem mids {R : List RawPart} {L : List UInt8} {a : Nat} : ∀ (m j : Nat), (∀ i r, a ≤ i → i < a + m → R[i]? = some r → r.star = false) → a + m ≤ R.length → j ≤ L.length → matchP (R.drop a) (L.drop j) = true → j + m ≤ L.length ∧ matchP (R.drop (a + m)) (L.drop (j + m)) = true
  | 0, j, _, _, hj, h => ⟨hj, h⟩
  | m + 1, j, hs, hl, hj, h => by
    obtain ⟨h1, h2⟩ := mids m j (fun i r hi hi2 hr => hs i r hi (by omega) hr) (by omega) hj h
    obtain ⟨r, hr⟩ := get_some (xs := R) (k := a + m) (by omega)
    have hns := hs (a + m) r (by omega) (by omega) hr
    rw [drop_cons hr] at h2
    rcases Nat.lt_or_ge (j + m) L.length with hlt | hge
    · obtain ⟨c, hc⟩ := get_some hlt
      rw [drop_cons hc, matchP_one hns] at h2
      simp only [Bool.and_eq_true] at h2
      exact ⟨by omega, h2.2⟩
    · rw [List.drop_of_length_le hge, matchP_no hns] at h2
      cases h2
/-- the state of the search -/
structure MInv (R : List RawPart) (L : List UInt8) (now at_ : Nat) (st : Option Nat) (from_ : Nat) : Prop where
  now_le : now ≤ R.length
  at_le : at_ ≤ L.length
  from_le : from_ ≤ at_
  star : ∀ k, st = some k → k < now ∧ at_ - from_ = now - (k + 1) ∧ ∀ i r, k + 1 ≤ i → i < now → R[i]? = some r → r.star = false
  iff : matchP R L = true ↔ matchP (R.drop now) (L.drop at_) = true ∨ ∃ k, st = some k ∧ ∃ j, from_ < j ∧ j ≤ L.length ∧ matchP (R.drop (k + 1)) (L.drop j) = true
theorem MInv.start (R : List RawPart) (L : List UInt8) : MInv R L 0 0 none 0 :=
  ⟨Nat.zero_le _, Nat.zero_le _, Nat.le_refl _, (fun k h => by cases h), by simp⟩
theorem MInv.alt {R : List RawPart} {L : List UInt8} {now at_ from_ : Nat} {st : Option Nat} (h : MInv R L now at_ st from_) {k j : Nat} (hk : st = some k) (hj : from_ < j) (hjl : j ≤ L.length) (hm : matchP (R.drop (k + 1)) (L.drop j) = true) :
    j + (at_ - from_) ≤ L.length ∧ matchP (R.drop now) (L.drop (j + (at_ - from_))) = true := by
  obtain ⟨h1, h2, h3⟩ := h.star k hk
  have hnl := h.now_le
  have := mids (R := R) (L := L) (a := k + 1) (now - (k + 1)) j (fun i r hi hi2 hr => h3 i r hi (by omega) hr) (by omega) hjl hm
  rw [h2]
  have e : k + 1 + (now - (k + 1)) = now := by omega
  rw [e] at this
  exact this
theorem MInv.toStar {R : List RawPart} {L : List UInt8} {now at_ from_ : Nat} {st : Option Nat} (h : MInv R L now at_ st from_) {r : RawPart} (hr : R[now]? = some r) (hs : r.star = true) : MInv R L (now + 1) at_ (some now) at_ := by
  have hnl := get_lt hr
  refine ⟨hnl, h.at_le, Nat.le_refl _, fun k hk => ?_, ?_⟩
  · injection hk with hk; subst hk
    exact ⟨by omega, by omega, fun i r hi hi2 => by omega⟩
  · have key : matchP (R.drop now) (L.drop at_) = true ↔ matchP (R.drop (now + 1)) (L.drop at_) = true ∨ ∃ k, some now = some k ∧ ∃ j, at_ < j ∧ j ≤ L.length ∧ matchP (R.drop (k + 1)) (L.drop j) = true := by
      rw [drop_cons hr, matchP_star hs]
      constructor
      · rintro ⟨k, hk, hm⟩
        rw [List.length_drop] at hk
        rw [List.drop_drop] at hm
        rcases Nat.eq_zero_or_pos k with h0 | h0
        · subst h0; exact .inl hm
        · exact .inr ⟨now, rfl, at_ + k, by omega, by have := h.at_le; omega, hm⟩
      · rintro (hm | ⟨k, hk, j, hj, hjl, hm⟩)
        · exact ⟨0, Nat.zero_le _, hm⟩
        · injection hk with hk; subst hk
          refine ⟨j - at_, by rw [List.length_drop]; omega, ?_⟩
          rw [List.drop_drop]
          have : at_ + (j - at_) = j := by omega
          rw [this]; exact hm
    rw [← key, h.iff]
    constructor
    · rintro (hm | ⟨k, hk, j, hj, hjl, hm⟩)
      · exact hm
      · obtain ⟨h1, h2⟩ := h.alt hk hj hjl hm
        have hf := h.from_le
        rw [drop_cons hr] at h2 ⊢
        exact star_drop hs (by omega) h1 h2
    · exact .inl
theorem MInv.toOne {R : List RawPart} {L : List UInt8} {now at_ from_ : Nat} {st : Option Nat} (h : MInv R L now at_ st from_) {r : RawPart} {c : UInt8} (hr : R[now]? = some r) (hs : r.star = false) (hc : L[at_]? = some c) (hh : r.has c.toNat = true) : MInv R L (now + 1) (at_ + 1) st from_ := by
  have hnl := get_lt hr
  have hal := get_lt hc
  have hf := h.from_le
  refine ⟨hnl, hal, by omega, fun k hk => ?_, ?_⟩
  · obtain ⟨h1, h2, h3⟩ := h.star k hk
    refine ⟨by omega, by omega, fun i r' hi hi2 hr' => ?_⟩
    rcases Nat.lt_or_ge i now with h4 | h4
    · exact h3 i r' hi h4 hr'
    · have : i = now := by omega
      subst this
      rw [hr] at hr'; injection hr' with hr'; rw [← hr']; exact hs
  · rw [h.iff, drop_cons hr, drop_cons hc, matchP_one hs, hh, Bool.true_and]
theorem MInv.stuck {R : List RawPart} {L : List UInt8} {now at_ from_ : Nat} {st : Option Nat} (h : MInv R L now at_ st from_) {c : UInt8} (hc : L[at_]? = some c) (hn : ∀ r, R[now]? = some r → r.star = false ∧ r.has c.toNat = false) : matchP (R.drop now) (L.drop at_) = false := by
  rcases Nat.lt_or_ge now R.length with hlt | hge
  · obtain ⟨r, hr⟩ := get_some hlt
    obtain ⟨h1, h2⟩ := hn r hr
    rw [drop_cons hr, drop_cons hc, matchP_one h1, h2, Bool.false_and]
  · rw [List.drop_of_length_le hge, drop_cons hc]; rfl
theorem MInv.back {R : List RawPart} {L : List UInt8} {now at_ from_ k : Nat} (h : MInv R L now at_ (some k) from_) {c : UInt8} (hc : L[at_]? = some c) (hn : ∀ r, R[now]? = some r → r.star = false ∧ r.has c.toNat = false) : MInv R L (k + 1) (from_ + 1) (some k) (from_ + 1) := by
  have hst := h.stuck hc hn
  obtain ⟨h1, h2, h3⟩ := h.star k rfl
  have hnl := h.now_le
  have hf := h.from_le
  have hal := get_lt hc
  refine ⟨by omega, by omega, Nat.le_refl _, fun k' hk => ?_, ?_⟩
  · injection hk with hk; subst hk
    exact ⟨by omega, by omega, fun i r hi hi2 => by omega⟩
  · rw [h.iff, hst]
    constructor
    · rintro (hm | ⟨k', hk, j, hj, hjl, hm⟩)
      · cases hm
      · injection hk with hk; subst hk
        rcases Nat.lt_or_ge (from_ + 1) j with h4 | h4
        · exact .inr ⟨k, rfl, j, h4, hjl, hm⟩
        · have : j = from_ + 1 := by omega
          subst this
          exact .inl hm
    · rintro (hm | ⟨k', hk, j, hj, hjl, hm⟩)
      · exact .inr ⟨k, rfl, from_ + 1, by omega, by omega, hm⟩
      · exact .inr ⟨k', hk, j, by omega, hjl, hm⟩
theorem MInv.fails {R : List RawPart} {L : List UInt8} {now at_ from_ : Nat} (h : MInv R L now at_ none from_) {c : UInt8} (hc : L[at_]? = some c) (hn : ∀ r, R[now]? = some r → r.star = false ∧ r.has c.toNat = false) : matchP R L = false := by
  have hst := h.stuck hc hn
  cases hm : matchP R L with
  | false => rfl
  | true =>
    rcases h.iff.1 hm with h1 | ⟨k, hk, _⟩
    · rw [hst] at h1; cases h1
    · cases hk
theorem MInv.ends {R : List RawPart} {L : List UInt8} {now at_ from_ : Nat} {st : Option Nat} (h : MInv R L now at_ st from_) (he : L.length ≤ at_) : matchP R L = matchP (R.drop now) [] := by
  rw [Bool.eq_iff_iff, h.iff, List.drop_of_length_le he]
  constructor
  · rintro (hm | ⟨k, hk, j, hj, hjl, hm⟩)
    · exact hm
    · obtain ⟨h1, _⟩ := h.alt hk hj hjl hm
      have := h.from_le
      have := h.at_le
      omega
  · exact .inl
theorem lex_lt {B a a' b b' c c' : Nat} (hb : b' + 1 ≤ B) (hc : c' + 1 ≤ B) (h : a' < a ∨ a' = a ∧ (b' < b ∨ b' = b ∧ c' < c)) : a' * B * B + b' * B + c' < a * B * B + b * B + c := by
  have key : ∀ x y : Nat, x < y → x * B + B ≤ y * B := fun x y hxy => by
    have : (x + 1) * B ≤ y * B := Nat.mul_le_mul_right _ hxy
    rw [Nat.add_mul, Nat.one_mul] at this; exact this
  rcases h with h | ⟨rfl, h | ⟨rfl, h⟩⟩
  · have h1 : a' * B + B ≤ a * B := key _ _ h
    have h2 : (a' * B + B) * B ≤ a * B * B := Nat.mul_le_mul_right _ h1
    rw [Nat.add_mul] at h2
    have h3 := key b' B hb
    omega
  · have := key _ _ h
    omega
  · omega
end Go.V
