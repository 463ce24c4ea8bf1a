/- What is written of a right reply is read as it; in plain Lean. -/
import Derived.Test.YtikjnmpijflnaaaDoorVRepRd
namespace Go.Proofs.YtikjnmpijflnaaaDoor
open Go.V
attribute [local irreducible] Blk Own hcell IntT SliceT PlainT AggT SizeT StrT FieldT ZeroT EqT ArrT
def fitsT : Nat → Rep → Prop
  | 0, t => fit64 t.n ∧ t.s.size ≤ 9223372036854775807 ∧ t.l.length ≤ 9223372036854775807
  | d + 1, t => (fit64 t.n ∧ t.s.size ≤ 9223372036854775807 ∧ t.l.length ≤ 9223372036854775807) ∧ ∀ x ∈ t.l, fitsT d x
theorem fitsT.one {d : Nat} {t : Rep} (h : fitsT d t) : fit64 t.n ∧ t.s.size ≤ 9223372036854775807 ∧ t.l.length ≤ 9223372036854775807 := by
  cases d with
  | zero => exact h
  | succ d => exact h.1
theorem fits_of {H : Array Obj} : ∀ (e : Nat) {r : RawR} {t : Rep}, RepAt H e r t → ∀ d, fitsT d t
  | 0, _, _, h, _ => h.elim
  | e + 1, r, t, h, d => by
    obtain ⟨e', rs, he, hk, hs, hn, hl, hsz, hfit, hL⟩ := h.open
    obtain rfl : e = e' := by omega
    have h1 := hL.sl.bound
    have h2 := hL.len
    have h0 : fit64 t.n ∧ t.s.size ≤ 9223372036854775807 ∧ t.l.length ≤ 9223372036854775807 := ⟨hfit, by simp only [maxLen] at hsz; omega, by omega⟩
    cases d with
    | zero => exact h0
    | succ d =>
      refine ⟨h0, fun x hx => ?_⟩
      obtain ⟨i, hi⟩ := List.getElem?_of_mem hx
      obtain ⟨r', hr'⟩ := get_some (xs := rs) (k := i) (by rw [h2]; exact get_lt hi)
      exact fits_of e (hL.get i r' x hr' hi) d
theorem mkStr_list (s : ByteArray) : mkStr s.data.toList = s := by
  cases s with | mk a => simp [mkStr]
theorem itoa_nobr (n : Int) : ∀ b ∈ Lib.itoa n, isBr b = false := by
  intro b hb
  unfold isBr
  unfold Lib.itoa at hb
  have key : 48 ≤ b.toNat ∨ b = 45 → (b == 13 || b == 10) = false := by
    intro h
    have h1 : b ≠ 13 := by rintro rfl; revert h; decide
    have h2 : b ≠ 10 := by rintro rfl; revert h; decide
    simp [h1, h2]
  split at hb
  · rcases List.mem_cons.1 hb with rfl | hb
    · exact key (.inr rfl)
    · exact key (.inl (dec_ge _ _ hb))
  · exact key (.inl (dec_ge _ _ hb))
theorem num_itoa {n : Int} (h : fit64 n) : numOf (Lib.itoa n) = some n := by
  refine numOf_some ⟨h, ?_⟩
  show (⟨(Lib.itoa n).toArray⟩ : ByteArray) = mkStr _
  unfold mkStr
  rfl
theorem nobr_isBr {s : ByteArray} (h : nobr s = true) : ∀ b ∈ s.data.toList, isBr b = false := by
  intro b hb
  have := List.all_eq_true.1 h b hb
  simp only [Bool.and_eq_true, decide_eq_true_eq] at this
  unfold isBr
  simp [this.1, this.2]
theorem fit_nat {k : Nat} (h : k ≤ 9223372036854775807) : fit64 (k : Int) := by
  unfold fit64
  omega
theorem rdHead_w {t : Rep} (ht : Leaf t) (hf : fit64 t.n ∧ t.s.size ≤ 9223372036854775807 ∧ t.l.length ≤ 9223372036854775807) (r : List UInt8) :
    rdHead (wHead t ++ r) = if t.kind = 5 then .list t.l.length (wHead t).length else .leaf t (wHead t).length := by
  have t1 := ht.lo
  have t2 := ht.hi
  rcases (show t.kind = 0 ∨ t.kind = 1 ∨ t.kind = 2 ∨ t.kind = 3 ∨ t.kind = 4 ∨ t.kind = 5 by omega) with h | h | h | h | h | h
  · have e : wHead t = 43 :: (t.s.data.toList ++ crlf) := by simp [wHead, h]
    rw [e, rdHead_at (by decide) (nobr_isBr (ht.line (.inl h))), if_neg (by omega)]
    unfold rdLine
    rw [if_pos rfl]
    congr 1
    · exact Rep.ext' h.symm (mkStr_list _) (ht.num (by omega)).symm (ht.list (by omega)).symm
    · simp [crlf]
  · have e : wHead t = 45 :: (t.s.data.toList ++ crlf) := by simp [wHead, h]
    rw [e, rdHead_at (by decide) (nobr_isBr (ht.line (.inr h))), if_neg (by omega)]
    unfold rdLine
    rw [if_neg (by decide), if_pos rfl]
    congr 1
    · exact Rep.ext' h.symm (mkStr_list _) (ht.num (by omega)).symm (ht.list (by omega)).symm
    · simp [crlf]
  · have e : wHead t = 58 :: (Lib.itoa t.n ++ crlf) := by simp [wHead, h]
    rw [e, rdHead_at (by decide) (itoa_nobr _), if_neg (by omega)]
    unfold rdLine
    rw [if_neg (by decide), if_neg (by decide), num_itoa hf.1]
    simp only
    rw [if_pos trivial]
    congr 1
    · exact Rep.ext' h.symm (ht.text (.inl h)).symm rfl (ht.list (by omega)).symm
    · simp [crlf]
  · have e : wHead t ++ r = (36 :: (Lib.itoa t.s.size ++ crlf)) ++ (t.s.data.toList ++ (crlf ++ r)) := by simp [wHead, h]
    have el : (wHead t).length = (Lib.itoa t.s.size).length + 3 + t.s.size + 2 := by
      simp [wHead, h, crlf]
      omega
    rw [e, el, rdHead_at (by decide) (itoa_nobr _), if_neg (by omega)]
    unfold rdLine
    rw [if_neg (by decide), if_neg (by decide), num_itoa (fit_nat hf.2.1)]
    simp only
    have hl : t.s.data.toList.length = t.s.size := by rw [Array.length_toList]; rfl
    have e2 : (t.s.data.toList ++ (crlf ++ r)).drop ((t.s.size : Int)).toNat = crlf ++ r := by rw [Int.toNat_natCast]; exact List.drop_left' hl
    have e3 : (t.s.data.toList ++ (crlf ++ r)).take ((t.s.size : Int)).toNat = t.s.data.toList := by rw [Int.toNat_natCast]; exact List.take_left' hl
    rw [if_neg (by decide), if_pos trivial, if_neg (by omega), if_pos ⟨by omega, by simp only [List.length_append, hl]; push_cast; omega, by rw [e2]; rfl⟩, e3, Int.toNat_natCast]
    congr 1
    exact Rep.ext' h.symm (mkStr_list _) (ht.num (by omega)).symm (ht.list (by omega)).symm
  · have e : wHead t = 36 :: (Lib.itoa (-1) ++ crlf) := by
      have e : Lib.itoa (-1) = [45, 49] := (by decide +kernel)
      rw [e]; simp [wHead, h]
    rw [e, rdHead_at (by decide) (itoa_nobr _), if_neg (by omega)]
    unfold rdLine
    rw [if_neg (by decide), if_neg (by decide), num_itoa (by unfold fit64; omega)]
    simp only
    rw [if_neg (by decide), if_pos trivial, if_pos trivial]
    congr 1
    · exact Rep.ext' h.symm (ht.text (.inr (.inl h))).symm (ht.num (by omega)).symm (ht.list (by omega)).symm
    · simp [crlf]
  · have e : wHead t = 42 :: (Lib.itoa t.l.length ++ crlf) := by simp [wHead, h]
    rw [e, rdHead_at (by decide) (itoa_nobr _), if_pos h]
    unfold rdLine
    rw [if_neg (by decide), if_neg (by decide), num_itoa (fit_nat hf.2.2)]
    simp only
    rw [if_neg (by decide), if_neg (by decide), if_pos ⟨trivial, by omega⟩]
    congr 1
    simp [crlf]
theorem rdL_w {f : List UInt8 → Option (Rep × Nat)} {g : Rep → List UInt8} : ∀ (l : List Rep), (∀ x ∈ l, ∀ r, f (g x ++ r) = some (x, (g x).length)) → ∀ r, rdL f l.length (l.flatMap g ++ r) = some (l, (l.flatMap g).length)
  | [], _, r => rfl
  | x :: l, h, r => by
    have e : (x :: l).flatMap g ++ r = g x ++ (l.flatMap g ++ r) := by simp
    rw [e]
    simp only [List.length_cons, rdL]
    rw [h x (by simp)]
    simp only
    rw [List.drop_left' rfl, rdL_w l (fun y hy => h y (List.mem_cons_of_mem _ hy)) r]
    simp
theorem rdT_w : ∀ (d : Nat) (t : Rep), rightT d t = true → fitsT d t → ∀ r, rdT d (wT d t ++ r) = some (t, (wT d t).length)
  | 0, t, ht, hf, r => by
    have h := rdHead_w (right_leaf ht) hf.one r
    simp only [rightT, Bool.and_eq_true, decide_eq_true_eq] at ht
    rw [if_neg ht.2] at h
    unfold wT
    exact rdT_leaf h
  | d + 1, t, ht, hf, r => by
    have hlf := right_leaf ht
    simp only [rightT, Bool.and_eq_true] at ht
    have e : wT (d + 1) t = wHead t ++ (if t.kind = 5 then t.l.flatMap (wT d) else []) := rfl
    rw [e, List.append_assoc]
    have h := rdHead_w hlf hf.one ((if t.kind = 5 then t.l.flatMap (wT d) else []) ++ r)
    by_cases hk : t.kind = 5
    · rw [if_pos hk, if_pos hk] at h
      rw [if_pos hk]
      rw [rdT_list h, List.drop_left' rfl, rdL_w t.l (fun x hx r => rdT_w d x (List.all_eq_true.1 ht.2 x hx) (hf.2 x hx) r)]
      simp only [Option.map_some, List.length_append]
      congr 2
      exact Rep.ext' hk.symm (hlf.text (.inr (.inr hk))).symm (hlf.num (by omega)).symm rfl
    · rw [if_neg hk, if_neg hk] at h
      rw [if_neg hk]
      rw [rdT_leaf h]
      simp
end Go.Proofs.YtikjnmpijflnaaaDoor
