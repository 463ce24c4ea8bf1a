/- Reading encodings: plain. -/
import Derived.Test.YtomgghelhalaeaaVPackLaw
import Derived.Test.YtomgghelhalaeaaVStr
namespace Go.Proofs.Ytomgghelhalaeaa
open Go.V
attribute [local irreducible] Blk Own hcell IntT SliceT PlainT AggT SizeT StrT FieldT ZeroT EqT ArrT

def beW (xs : List UInt8) : Int := xs.foldl (fun n c => IntKind.i64.wrap (n * 256 + (c.toNat : Int))) 0
theorem beW_snoc (xs : List UInt8) (c : UInt8) : beW (xs ++ [c]) = IntKind.i64.wrap (beW xs * 256 + (c.toNat : Int)) := by simp [beW]
theorem wrap_range (n : Int) : -9223372036854775808 ≤ IntKind.i64.wrap n ∧ IntKind.i64.wrap n ≤ 9223372036854775807 := by rw [IntKind.wrap_i64]; omega
theorem beW_range (xs : List UInt8) : -9223372036854775808 ≤ beW xs ∧ beW xs ≤ 9223372036854775807 := by
  rcases List.eq_nil_or_concat xs with rfl | ⟨l, c, rfl⟩
  · simp [beW]
  · rw [List.concat_eq_append, beW_snoc]; exact wrap_range _
theorem byte_lt (c : UInt8) : (c.toNat : Int) < 256 := by have := c.toNat_lt; omega
theorem beW0 : beW [] = 0 := rfl
theorem beW1 (a : UInt8) : beW [a] = a.toNat := by
  have := byte_lt a
  have e := beW_snoc [] a
  rw [List.nil_append, beW0] at e
  rw [e, IntKind.wrap_i64]; omega
theorem beW2 (a b : UInt8) : beW [a, b] = a.toNat * 256 + b.toNat := by
  have := byte_lt a; have := byte_lt b
  have e := beW_snoc [a] b
  rw [List.singleton_append, beW1] at e
  rw [e, IntKind.wrap_i64]; omega
theorem wrap_wrap (x c : Int) : IntKind.i64.wrap (IntKind.i64.wrap x * 256 + c) = IntKind.i64.wrap (x * 256 + c) := by
  simp only [IntKind.wrap_i64]; omega
/-- the same without wrapping -/
def beU (xs : List UInt8) : Int := xs.foldl (fun n c => n * 256 + (c.toNat : Int)) 0
theorem beU_snoc (xs : List UInt8) (c : UInt8) : beU (xs ++ [c]) = beU xs * 256 + (c.toNat : Int) := by simp [beU]
theorem beW_beU_aux : ∀ (n : Nat) (xs : List UInt8), xs.length = n → beW xs = IntKind.i64.wrap (beU xs)
  | 0, xs, h => by
    obtain rfl : xs = [] := List.eq_nil_of_length_eq_zero h
    rw [IntKind.wrap_i64]; rfl
  | n + 1, xs, h => by
    rcases List.eq_nil_or_concat xs with rfl | ⟨l, c, rfl⟩
    · simp at h
    · rw [List.concat_eq_append, beW_snoc, beU_snoc, beW_beU_aux n l (by simpa using h), wrap_wrap]
theorem beW_beU (xs : List UInt8) : beW xs = IntKind.i64.wrap (beU xs) := beW_beU_aux _ xs rfl

theorem octet_eq {n : Int} {i : Nat} {a : UInt8} (h : n / 2 ^ (8 * i) % 256 = (a.toNat : Int)) : octet n i = a := by
  apply UInt8.toNat_inj.1
  have := octet_nat (n := n) (i := i)
  omega
theorem pows : (2 : Int) ^ (8 * 0) = 1 ∧ (2 : Int) ^ (8 * 1) = 256 ∧ (2 : Int) ^ (8 * 2) = 65536 ∧ (2 : Int) ^ (8 * 3) = 16777216 ∧ (2 : Int) ^ (8 * 4) = 4294967296 ∧ (2 : Int) ^ (8 * 5) = 1099511627776 ∧ (2 : Int) ^ (8 * 6) = 281474976710656 ∧ (2 : Int) ^ (8 * 7) = 72057594037927936 := by decide
theorem octet_low (y : Int) (c : UInt8) : octet (y * 256 + c.toNat) 0 = c := octet_eq (by have := byte_lt c; simp only [Nat.mul_zero, Int.pow_zero, Int.ediv_one]; omega)
theorem octet_step (y : Int) (c : UInt8) (i : Nat) : octet (y * 256 + c.toNat) (i + 1) = octet y i := by
  have hc := byte_lt c
  have e1 : (2 : Int) ^ (8 * (i + 1)) = 256 * 2 ^ (8 * i) := by
    rw [Nat.mul_add, Int.pow_add, Int.mul_comm]; rfl
  have e2 : (y * 256 + (c.toNat : Int)) / 256 = y := by omega
  unfold octet
  rw [e1]
  have e3 : (y * 256 + (c.toNat : Int)) / (256 * 2 ^ (8 * i)) = y / 2 ^ (8 * i) := by
    first
      | rw [← Int.ediv_ediv_eq_ediv_mul _ (by omega), e2]
      | rw [← Int.ediv_ediv (by omega), e2]
      | rw [← Int.ediv_ediv_of_nonneg (by omega), e2]
  rw [e3]
theorem octets_snoc (y : Int) (c : UInt8) : ∀ k, octets (y * 256 + c.toNat) (k + 1) = octets y k ++ [c]
  | 0 => by simp [octets, octet_low]
  | k + 1 => by
    have ih := octets_snoc y c k
    rw [octets, ih, octet_step]
    simp [octets]
theorem octets_beU_aux : ∀ (n : Nat) (xs : List UInt8), xs.length = n → octets (beU xs) n = xs
  | 0, xs, h => by
    obtain rfl : xs = [] := List.eq_nil_of_length_eq_zero h
    rfl
  | n + 1, xs, h => by
    rcases List.eq_nil_or_concat xs with rfl | ⟨l, c, rfl⟩
    · simp at h
    · rw [List.concat_eq_append, beU_snoc, octets_snoc, octets_beU_aux n l (by simpa using h)]
theorem octet_wrap (x : Int) (i : Nat) (hi : i ≤ 7) : octet (IntKind.i64.wrap x) i = octet x i := by
  apply UInt8.toNat_inj.1
  have h1 := octet_nat (n := IntKind.i64.wrap x) (i := i)
  have h2 := octet_nat (n := x) (i := i)
  obtain ⟨p0, p1, p2, p3, p4, p5, p6, p7⟩ := pows
  rw [IntKind.wrap_i64] at h1
  have hi' : i = 0 ∨ i = 1 ∨ i = 2 ∨ i = 3 ∨ i = 4 ∨ i = 5 ∨ i = 6 ∨ i = 7 := by omega
  rw [IntKind.wrap_i64]
  rcases hi' with rfl | rfl | rfl | rfl | rfl | rfl | rfl | rfl
  · rw [p0] at h1 h2; omega
  · rw [p1] at h1 h2; omega
  · rw [p2] at h1 h2; omega
  · rw [p3] at h1 h2; omega
  · rw [p4] at h1 h2; omega
  · rw [p5] at h1 h2; omega
  · rw [p6] at h1 h2; omega
  · rw [p7] at h1 h2; omega
theorem octets_wrap (x : Int) : ∀ k, k ≤ 8 → octets (IntKind.i64.wrap x) k = octets x k
  | 0, _ => rfl
  | k + 1, hk => by rw [octets, octets, octets_wrap x k (by omega), octet_wrap x k (by omega)]
theorem octets_beW {xs : List UInt8} {n : Nat} (h : xs.length = n) (hn : n ≤ 8) : octets (beW xs) n = xs := by
  rw [beW_beU, octets_wrap _ _ hn, octets_beU_aux n xs h]
theorem oct2 (a b : UInt8) : octets (beW [a, b]) 2 = [a, b] := octets_beW rfl (by omega)
theorem oct8 (a b c d e f g h : UInt8) : octets (beW [a, b, c, d, e, f, g, h]) 8 = [a, b, c, d, e, f, g, h] := octets_beW rfl (by omega)
theorem be_oct2 {n : Int} (h : 0 ≤ n ∧ n < 65536) : beW (octets n 2) = n := by
  simp only [octets]
  rw [beW2, octet_nat, octet_nat]
  obtain ⟨p0, p1, _⟩ := pows
  rw [p0, p1]
  omega
theorem be_oct8 {n : Int} (h : -9223372036854775808 ≤ n ∧ n ≤ 9223372036854775807) : beW (octets n 8) = n :=
  octets8_inj (octets_beW (octets_len n 8) (by omega)) (beW_range _) h

def takeO (n : Nat) (l : List UInt8) : Option (List UInt8 × List UInt8) := if l.length < n then none else some (l.take n, l.drop n)
def textO (l : List UInt8) : Option (ByteArray × List UInt8) :=
  match takeO 2 l with
  | none => none
  | some (a, l1) => match takeO (beW a).toNat l1 with
    | none => none
    | some (b, l2) => some (mkStr b, l2)
def pairO (l : List UInt8) : Option ((ByteArray × ByteArray) × List UInt8) :=
  match textO l with
  | none => none
  | some (s, l1) => match textO l1 with
    | none => none
    | some (t, l2) => some ((s, t), l2)
def memO (l : List UInt8) : Option ((Int × ByteArray) × List UInt8) :=
  match takeO 8 l with
  | none => none
  | some (a, l1) => match textO l1 with
    | none => none
    | some (t, l2) => some ((beW a, t), l2)
def itemsO {α : Type} (one : List UInt8 → Option (α × List UInt8)) : Nat → List UInt8 → Option (List α × List UInt8)
  | 0, l => some ([], l)
  | k + 1, l => match itemsO one k l with
    | none => none
    | some (acc, r) => match one r with
      | none => none
      | some (x, r') => some (acc ++ [x], r')

theorem takeO_some {n : Nat} {l a r : List UInt8} (h : takeO n l = some (a, r)) : l = a ++ r ∧ a.length = n := by
  unfold takeO at h
  split at h
  · cases h
  · injection h with h; injection h with h1 h2
    subst h1 h2
    exact ⟨(List.take_append_drop _ _).symm, by simp; omega⟩
theorem takeO_app {a r : List UInt8} : takeO a.length (a ++ r) = some (a, r) := by
  unfold takeO
  rw [if_neg (by simp)]
  simp
theorem len2 {l : List UInt8} (h : l.length = 2) : ∃ a b, l = [a, b] := by
  match l, h with
  | [a, b], _ => exact ⟨a, b, rfl⟩
theorem len8 {l : List UInt8} (h : l.length = 8) : ∃ a b c d e f g i, l = [a, b, c, d, e, f, g, i] := by
  match l, h with
  | [a, b, c, d, e, f, g, i], _ => exact ⟨a, b, c, d, e, f, g, i, rfl⟩

theorem textO_some {l r : List UInt8} {s : ByteArray} (h : textO l = some (s, r)) : l = encT s ++ r ∧ s.size < 65536 := by
  unfold textO at h
  cases h1 : takeO 2 l with
  | none => simp [h1] at h
  | some x =>
    obtain ⟨a, l1⟩ := x
    simp only [h1] at h
    cases h2 : takeO (beW a).toNat l1 with
    | none => simp [h2] at h
    | some y =>
      obtain ⟨b, l2⟩ := y
      simp only [h2] at h
      injection h with h; injection h with e1 e2
      subst e1 e2
      obtain ⟨rfl, ha⟩ := takeO_some h1
      obtain ⟨rfl, hb⟩ := takeO_some h2
      obtain ⟨x, y, rfl⟩ := len2 ha
      have h3 := beW2 x y
      have hx := byte_lt x; have hy := byte_lt y
      have hs : ((mkStr b).size : Int) = beW [x, y] := by rw [mkStr_size, hb]; omega
      refine ⟨?_, by rw [mkStr_size]; omega⟩
      unfold encT
      rw [hs, oct2]
      simp [mkStr]
theorem textO_app {s : ByteArray} {r : List UInt8} (hs : s.size < 65536) : textO (encT s ++ r) = some (s, r) := by
  have e1 : encT s ++ r = octets s.size 2 ++ (s.data.toList ++ r) := by unfold encT; simp
  have h1 : takeO 2 (encT s ++ r) = some (octets s.size 2, s.data.toList ++ r) := by
    rw [e1]
    have := takeO_app (a := octets s.size 2) (r := s.data.toList ++ r)
    rwa [octets_len] at this
  have h2 : (beW (octets s.size 2)).toNat = s.data.toList.length := by rw [be_oct2 ⟨by omega, by omega⟩, ← size_list]; omega
  unfold textO
  simp only [h1, h2, takeO_app]
  simp [mkStr]

theorem pairO_some {l r : List UInt8} {x : ByteArray × ByteArray} (h : pairO l = some (x, r)) : l = encP x ++ r ∧ x.1.size < 65536 ∧ x.2.size < 65536 := by
  unfold pairO at h
  cases h1 : textO l with
  | none => simp [h1] at h
  | some y =>
    obtain ⟨s, l1⟩ := y
    simp only [h1] at h
    cases h2 : textO l1 with
    | none => simp [h2] at h
    | some z =>
      obtain ⟨t, l2⟩ := z
      simp only [h2] at h
      injection h with h; injection h with e1 e2
      subst e1 e2
      obtain ⟨rfl, g1⟩ := textO_some h1
      obtain ⟨rfl, g2⟩ := textO_some h2
      exact ⟨by simp [encP], g1, g2⟩
theorem pairO_app {x : ByteArray × ByteArray} {r : List UInt8} (hs : x.1.size < 65536 ∧ x.2.size < 65536) : pairO (encP x ++ r) = some (x, r) := by
  unfold pairO encP
  rw [List.append_assoc]
  simp only [textO_app hs.1, textO_app hs.2]
theorem memO_some {l r : List UInt8} {x : Int × ByteArray} (h : memO l = some (x, r)) : l = encZ x ++ r ∧ (-9223372036854775808 ≤ x.1 ∧ x.1 ≤ 9223372036854775807) ∧ x.2.size < 65536 := by
  unfold memO at h
  cases h1 : takeO 8 l with
  | none => simp [h1] at h
  | some y =>
    obtain ⟨a, l1⟩ := y
    simp only [h1] at h
    cases h2 : textO l1 with
    | none => simp [h2] at h
    | some z =>
      obtain ⟨t, l2⟩ := z
      simp only [h2] at h
      injection h with h; injection h with e1 e2
      subst e1 e2
      obtain ⟨rfl, ha⟩ := takeO_some h1
      obtain ⟨rfl, g2⟩ := textO_some h2
      obtain ⟨a0, a1, a2, a3, a4, a5, a6, a7, rfl⟩ := len8 ha
      exact ⟨by unfold encZ; rw [oct8]; simp, beW_range _, g2⟩
theorem memO_app {x : Int × ByteArray} {r : List UInt8} (hs : (-9223372036854775808 ≤ x.1 ∧ x.1 ≤ 9223372036854775807) ∧ x.2.size < 65536) : memO (encZ x ++ r) = some (x, r) := by
  have h1 : takeO 8 (octets x.1 8 ++ (encT x.2 ++ r)) = some (octets x.1 8, encT x.2 ++ r) := by
    have := takeO_app (a := octets x.1 8) (r := encT x.2 ++ r)
    rwa [octets_len] at this
  unfold memO encZ
  rw [List.append_assoc]
  simp only [h1, textO_app hs.2, be_oct8 hs.1]

section
variable {α : Type} {one : List UInt8 → Option (α × List UInt8)} {f : α → List UInt8} {ok : α → Prop}
theorem items_some (h : ∀ l x r, one l = some (x, r) → l = f x ++ r ∧ ok x) : ∀ (k : Nat) (l : List UInt8) (xs : List α) (r : List UInt8), itemsO one k l = some (xs, r) → l = xs.flatMap f ++ r ∧ xs.length = k ∧ ∀ x ∈ xs, ok x
  | 0, l, xs, r, e => by
    simp only [itemsO] at e
    injection e with e; injection e with e1 e2
    subst e1 e2
    simp
  | k + 1, l, xs, r, e => by
    simp only [itemsO] at e
    cases h1 : itemsO one k l with
    | none => simp [h1] at e
    | some y =>
      obtain ⟨acc, r1⟩ := y
      simp only [h1] at e
      cases h2 : one r1 with
      | none => simp [h2] at e
      | some z =>
        obtain ⟨x, r2⟩ := z
        simp only [h2] at e
        injection e with e; injection e with e1 e2
        subst e1 e2
        obtain ⟨g1, g2, g3⟩ := items_some h k l acc r1 h1
        obtain ⟨g4, g5⟩ := h _ _ _ h2
        refine ⟨?_, by simp [g2], fun y hy => ?_⟩
        · rw [g1, g4]; simp
        · simp at hy
          rcases hy with hy | rfl
          · exact g3 y hy
          · exact g5
theorem items_app (h : ∀ x r, ok x → one (f x ++ r) = some (x, r)) {xs : List α} (hx : ∀ x ∈ xs, ok x) (r : List UInt8) : ∀ k, k ≤ xs.length → itemsO one k (xs.flatMap f ++ r) = some (xs.take k, (xs.drop k).flatMap f ++ r)
  | 0, _ => by simp [itemsO]
  | k + 1, hk => by
    have ih := items_app h hx r k (by omega)
    obtain ⟨x, hxk⟩ := get_some (xs := xs) (k := k) (by omega)
    have hd : xs.drop k = x :: xs.drop (k + 1) := by
      rw [List.drop_eq_getElem_cons (by omega)]
      congr 1
      rw [List.getElem?_eq_getElem (by omega)] at hxk
      simpa using hxk
    simp only [itemsO, ih, hd, List.flatMap_cons, List.append_assoc, h x _ (hx x (List.mem_of_getElem? hxk)), take_snoc hxk]
theorem items_none : ∀ (d k : Nat) (l : List UInt8), itemsO one k l = none → itemsO one (k + d) l = none
  | 0, k, l, h => h
  | d + 1, k, l, h => by
    have := items_none d k l h
    rw [← Nat.add_assoc]
    simp only [itemsO, this]
end

/-- what value() reads -/
def parseV (l : List UInt8) : Option (Val × List UInt8) :=
  match takeO 1 l with
  | none => none
  | some (k, l1) =>
    if beW k = 1 then (match textO l1 with
      | none => none
      | some (s, r) => some (⟨1, s, [], [], []⟩, r))
    else match takeO 2 l1 with
      | none => none
      | some (m, l2) =>
        if 512 < beW m then none
        else if beW k = 2 then (match itemsO pairO (beW m).toNat l2 with
          | none => none
          | some (ps, r) => some (⟨2, ⟨#[]⟩, ps, [], []⟩, r))
        else if beW k = 3 ∨ beW k = 4 then (match itemsO textO (beW m).toNat l2 with
          | none => none
          | some (ts, r) => some (⟨beW k, ⟨#[]⟩, [], ts, []⟩, r))
        else if beW k = 5 then (match itemsO memO (beW m).toNat l2 with
          | none => none
          | some (zs, r) => some (⟨5, ⟨#[]⟩, [], [], zs⟩, r))
        else if beW m = 0 then some (⟨beW k, ⟨#[]⟩, [], [], []⟩, l2) else none
end Go.Proofs.Ytomgghelhalaeaa
