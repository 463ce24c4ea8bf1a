/- Replies: how they are written; unlike ones are written unlike; in plain Lean. -/
import Derived.Test.YtikjnmpijflnaaaDoorVRepBase
import Derived.Test.YtikjnmpijflnaaaDoorVNumOrd
namespace Go.Proofs.YtikjnmpijflnaaaDoor
open Go.V
attribute [local irreducible] Blk Own hcell IntT SliceT PlainT AggT SizeT StrT FieldT ZeroT EqT ArrT
def crlf : List UInt8 := [13, 10]
def wHead (t : Rep) : List UInt8 :=
  if t.kind = 0 then 43 :: (t.s.data.toList ++ crlf)
  else if t.kind = 1 then 45 :: (t.s.data.toList ++ crlf)
  else if t.kind = 2 then 58 :: (Lib.itoa t.n ++ crlf)
  else if t.kind = 3 then 36 :: (Lib.itoa t.s.size ++ crlf ++ (t.s.data.toList ++ crlf))
  else if t.kind = 4 then 36 :: ([45, 49] ++ crlf)
  else 42 :: (Lib.itoa t.l.length ++ crlf)
/-- what is written of a reply, so deep -/
def wT : Nat → Rep → List UInt8
  | 0, t => wHead t
  | d + 1, t => wHead t ++ (if t.kind = 5 then t.l.flatMap (wT d) else [])
theorem line_inj : ∀ {a c r1 r2 : List UInt8}, (∀ b ∈ a, b ≠ 13) → (∀ b ∈ c, b ≠ 13) → a ++ 13 :: r1 = c ++ 13 :: r2 → a = c ∧ r1 = r2
  | [], [], r1, r2, _, _, h => by simpa using h
  | [], y :: c, r1, r2, _, hc, h => by
    injection h with h _
    exact absurd h.symm (hc y (by simp))
  | x :: a, [], r1, r2, ha, _, h => by
    injection h with h _
    exact absurd h (ha x (by simp))
  | x :: a, y :: c, r1, r2, ha, hc, h => by
    injection h with h1 h2
    obtain ⟨e1, e2⟩ := line_inj (fun b hb => ha b (List.mem_cons_of_mem _ hb)) (fun b hb => hc b (List.mem_cons_of_mem _ hb)) h2
    exact ⟨by rw [h1, e1], e2⟩
theorem itoa_no13 (n : Int) : ∀ b ∈ Lib.itoa n, b ≠ 13 := by
  intro b hb
  unfold Lib.itoa at hb
  split at hb
  · rcases List.mem_cons.1 hb with rfl | hb
    · decide
    · intro e; subst e
      have := dec_ge _ _ hb
      simp at this
  · intro e; subst e
    have := dec_ge _ _ hb
    simp at this
theorem nobr_no13 {s : ByteArray} (h : nobr s = true) : ∀ b ∈ s.data.toList, b ≠ 13 := by
  intro b hb
  have := List.all_eq_true.1 h b hb
  simp at this
  exact this.1
theorem ba_list_ext {a b : ByteArray} (h : a.data.toList = b.data.toList) : a = b := by
  cases a with | mk a => cases b with | mk b =>
    congr 1
    exact Array.toList_inj.1 h
structure Leaf (t : Rep) : Prop where
  lo : 0 ≤ t.kind
  hi : t.kind ≤ 5
  list : t.kind ≠ 5 → t.l = []
  num : t.kind ≠ 2 → t.n = 0
  text : t.kind = 2 ∨ t.kind = 4 ∨ t.kind = 5 → t.s = ⟨#[]⟩
  line : t.kind = 0 ∨ t.kind = 1 → nobr t.s = true
theorem leaf_of {t : Rep} (h : leafOk t = true) : Leaf t := by
  unfold leafOk at h
  simp only [Bool.and_eq_true, Bool.or_eq_true, decide_eq_true_eq, List.isEmpty_iff] at h
  obtain ⟨⟨⟨⟨⟨h1, h2⟩, h3⟩, h4⟩, h5⟩, h6⟩ := h
  refine ⟨h1, h2, fun e => h3.resolve_left e, fun e => h4.resolve_left e, fun e => ?_, fun e => ?_⟩
  · rcases h5 with ((h5 | h5) | h5) | h5
    · omega
    · omega
    · omega
    · exact h5
  · rcases h6 with h6 | h6
    · omega
    · exact h6
theorem of_leaf {t : Rep} (h : Leaf t) : leafOk t = true := by
  unfold leafOk
  simp only [Bool.and_eq_true, Bool.or_eq_true, decide_eq_true_eq, List.isEmpty_iff]
  refine ⟨⟨⟨⟨⟨h.lo, h.hi⟩, ?_⟩, ?_⟩, ?_⟩, ?_⟩
  · by_cases e : t.kind = 5
    · exact .inl e
    · exact .inr (h.list e)
  · by_cases e : t.kind = 2
    · exact .inl e
    · exact .inr (h.num e)
  · have h1 := h.lo
    have h2 := h.hi
    by_cases e : t.kind = 2 ∨ t.kind = 4 ∨ t.kind = 5
    · exact .inr (h.text e)
    · exact .inl (by omega)
  · have h1 := h.lo
    by_cases e : t.kind = 0 ∨ t.kind = 1
    · exact .inr (h.line e)
    · exact .inl (by omega)
theorem right_leaf {d : Nat} {t : Rep} (h : rightT d t = true) : Leaf t := by
  cases d <;> simp only [rightT, Bool.and_eq_true] at h <;> exact leaf_of h.1
/-- the head of a reply tells all but its list, and how long that is -/
theorem head_inj {t u : Rep} (ht : Leaf t) (hu : Leaf u) {r1 r2 : List UInt8} (h : wHead t ++ r1 = wHead u ++ r2) : t.kind = u.kind ∧ t.s = u.s ∧ t.n = u.n ∧ t.l.length = u.l.length ∧ r1 = r2 := by
  have t1 := ht.lo
  have t2 := ht.hi
  have u1 := hu.lo
  have u2 := hu.hi
  have lines : ∀ {m1 m2 : UInt8} {a c x y : List UInt8}, (m1 :: (a ++ crlf)) ++ x = (m2 :: (c ++ crlf)) ++ y → (∀ b ∈ a, b ≠ 13) → (∀ b ∈ c, b ≠ 13) → m1 = m2 ∧ a = c ∧ x = y := by
    intro m1 m2 a c x y h ha hc
    simp only [crlf, List.cons_append, List.append_assoc, List.nil_append] at h
    injection h with h1 h2
    obtain ⟨e1, e2⟩ := line_inj ha hc h2
    injection e2 with _ e2
    exact ⟨h1, e1, e2⟩
  have cases5 : ∀ k : Int, 0 ≤ k → k ≤ 5 → k = 0 ∨ k = 1 ∨ k = 2 ∨ k = 3 ∨ k = 4 ∨ k = 5 := by intro k h1 h2; omega
  -- the mark, the line, and what is behind it
  have form : ∀ v : Rep, Leaf v → ∃ (m : UInt8) (a : List UInt8) (z : List UInt8), wHead v = (m :: (a ++ crlf)) ++ z ∧ (∀ b ∈ a, b ≠ 13) ∧
      ((v.kind = 0 ∧ m = 43 ∧ a = v.s.data.toList ∧ z = []) ∨ (v.kind = 1 ∧ m = 45 ∧ a = v.s.data.toList ∧ z = []) ∨ (v.kind = 2 ∧ m = 58 ∧ a = Lib.itoa v.n ∧ z = []) ∨
       (v.kind = 3 ∧ m = 36 ∧ a = Lib.itoa v.s.size ∧ z = v.s.data.toList ++ crlf) ∨ (v.kind = 4 ∧ m = 36 ∧ a = Lib.itoa (-1) ∧ z = []) ∨ (v.kind = 5 ∧ m = 42 ∧ a = Lib.itoa v.l.length ∧ z = [])) := by
    intro v hv
    rcases cases5 v.kind hv.lo hv.hi with h | h | h | h | h | h
    · exact ⟨43, v.s.data.toList, [], by simp [wHead, h], nobr_no13 (hv.line (.inl h)), .inl ⟨h, rfl, rfl, rfl⟩⟩
    · exact ⟨45, v.s.data.toList, [], by simp [wHead, h], nobr_no13 (hv.line (.inr h)), .inr (.inl ⟨h, rfl, rfl, rfl⟩)⟩
    · exact ⟨58, Lib.itoa v.n, [], by simp [wHead, h], itoa_no13 _, .inr (.inr (.inl ⟨h, rfl, rfl, rfl⟩))⟩
    · exact ⟨36, Lib.itoa v.s.size, v.s.data.toList ++ crlf, by simp [wHead, h], itoa_no13 _, .inr (.inr (.inr (.inl ⟨h, rfl, rfl, rfl⟩)))⟩
    · exact ⟨36, Lib.itoa (-1), [], (by have e : Lib.itoa (-1) = [45, 49] := (by decide +kernel); rw [e]; simp [wHead, h]), itoa_no13 _, .inr (.inr (.inr (.inr (.inl ⟨h, rfl, rfl, rfl⟩))))⟩
    · exact ⟨42, Lib.itoa v.l.length, [], by simp [wHead, h], itoa_no13 _, .inr (.inr (.inr (.inr (.inr ⟨h, rfl, rfl, rfl⟩))))⟩
  obtain ⟨m1, a, z1, e1, n1, c1⟩ := form t ht
  obtain ⟨m2, c, z2, e2, n2, c2⟩ := form u hu
  rw [e1, e2, List.append_assoc, List.append_assoc] at h
  obtain ⟨hm, hac, hz⟩ := lines h n1 n2
  have fin : ∀ {k : Int}, t.kind = k → u.kind = k → t.s = u.s → t.n = u.n → t.l.length = u.l.length → z1 ++ r1 = z2 ++ r2 → (z1 = z2) → t.kind = u.kind ∧ t.s = u.s ∧ t.n = u.n ∧ t.l.length = u.l.length ∧ r1 = r2 := by
    intro k hk1 hk2 hs hn hl hzr hzz
    subst hzz
    exact ⟨by rw [hk1, hk2], hs, hn, hl, List.append_cancel_left hzr⟩
  rcases c1 with ⟨k1, rfl, rfl, rfl⟩ | ⟨k1, rfl, rfl, rfl⟩ | ⟨k1, rfl, rfl, rfl⟩ | ⟨k1, rfl, rfl, rfl⟩ | ⟨k1, rfl, rfl, rfl⟩ | ⟨k1, rfl, rfl, rfl⟩ <;>
    rcases c2 with ⟨k2, e3, rfl, rfl⟩ | ⟨k2, e3, rfl, rfl⟩ | ⟨k2, e3, rfl, rfl⟩ | ⟨k2, e3, rfl, rfl⟩ | ⟨k2, e3, rfl, rfl⟩ | ⟨k2, e3, rfl, rfl⟩ <;>
    rw [e3] at hm <;> try (exact absurd hm (by decide))
  · exact fin k1 k2 (ba_list_ext hac) (by rw [ht.num (by omega), hu.num (by omega)]) (by rw [ht.list (by omega), hu.list (by omega)]) hz rfl
  · exact fin k1 k2 (ba_list_ext hac) (by rw [ht.num (by omega), hu.num (by omega)]) (by rw [ht.list (by omega), hu.list (by omega)]) hz rfl
  · exact fin k1 k2 (by rw [ht.text (.inl k1), hu.text (.inl k2)]) (itoa_inj hac) (by rw [ht.list (by omega), hu.list (by omega)]) hz rfl
  · have hsz := itoa_inj hac
    simp only [List.append_assoc] at hz
    have hl : t.s.data.toList.length = u.s.data.toList.length := by rw [← size_list, ← size_list]; omega
    obtain ⟨hs, hr⟩ := List.append_inj hz hl
    exact fin k1 k2 (ba_list_ext hs) (by rw [ht.num (by omega), hu.num (by omega)]) (by rw [ht.list (by omega), hu.list (by omega)]) (by rw [hs]; rw [List.append_assoc, List.append_assoc, hr]) (by rw [hs])
  · have := itoa_inj hac; omega
  · have := itoa_inj hac; omega
  · exact fin k1 k2 (by rw [ht.text (by omega), hu.text (by omega)]) (by rw [ht.num (by omega), hu.num (by omega)]) (by rw [ht.list (by omega), hu.list (by omega)]) hz rfl
  · have := itoa_inj hac
    exact fin k1 k2 (by rw [ht.text (by omega), hu.text (by omega)]) (by rw [ht.num (by omega), hu.num (by omega)]) (by omega) hz rfl
theorem list_inj {f : Rep → List UInt8} {ok : Rep → Bool} (hf : ∀ t u r1 r2, ok t = true → ok u = true → f t ++ r1 = f u ++ r2 → t = u ∧ r1 = r2) : ∀ (l m : List Rep) (r1 r2 : List UInt8), l.length = m.length → l.all ok = true → m.all ok = true → l.flatMap f ++ r1 = m.flatMap f ++ r2 → l = m ∧ r1 = r2
  | [], [], r1, r2, _, _, _, h => ⟨rfl, by simpa using h⟩
  | [], _ :: _, _, _, hl, _, _, _ => by simp at hl
  | _ :: _, [], _, _, hl, _, _, _ => by simp at hl
  | x :: l, y :: m, r1, r2, hl, h1, h2, h => by
    simp only [List.all_cons, Bool.and_eq_true] at h1 h2
    rw [List.flatMap_cons, List.flatMap_cons, List.append_assoc, List.append_assoc] at h
    obtain ⟨e, h'⟩ := hf x y _ _ h1.1 h2.1 h
    obtain ⟨e2, e3⟩ := list_inj hf l m r1 r2 (by simpa using hl) h1.2 h2.2 h'
    exact ⟨by rw [e, e2], e3⟩
theorem w_inj : ∀ (d : Nat) (t u : Rep) (r1 r2 : List UInt8), rightT d t = true → rightT d u = true → wT d t ++ r1 = wT d u ++ r2 → t = u ∧ r1 = r2
  | 0, t, u, r1, r2, ht, hu, h => by
    obtain ⟨h1, h2, h3, h4, h5⟩ := head_inj (right_leaf ht) (right_leaf hu) h
    simp only [rightT, Bool.and_eq_true, decide_eq_true_eq] at ht hu
    exact ⟨Rep.ext' h1 h2 h3 (by rw [(leaf_of ht.1).list ht.2, (leaf_of hu.1).list hu.2]), h5⟩
  | d + 1, t, u, r1, r2, ht, hu, h => by
    unfold wT at h
    rw [List.append_assoc, List.append_assoc] at h
    obtain ⟨h1, h2, h3, h4, h5⟩ := head_inj (right_leaf ht) (right_leaf hu) h
    have lt := right_leaf ht
    have lu := right_leaf hu
    simp only [rightT, Bool.and_eq_true] at ht hu
    by_cases hk : t.kind = 5
    · rw [if_pos hk, if_pos (by rw [← h1]; exact hk)] at h5
      obtain ⟨e1, e2⟩ := list_inj (fun t u r1 r2 => w_inj d t u r1 r2) t.l u.l r1 r2 h4 ht.2 hu.2 h5
      exact ⟨Rep.ext' h1 h2 h3 e1, e2⟩
    · rw [if_neg hk, if_neg (by rw [← h1]; exact hk)] at h5
      exact ⟨Rep.ext' h1 h2 h3 (by rw [lt.list hk, lu.list (by rw [← h1]; exact hk)]), by simpa using h5⟩
end Go.Proofs.YtikjnmpijflnaaaDoor
