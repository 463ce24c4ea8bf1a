/- Replies read out of bytes; what is written of a right one is read as it; in plain Lean. -/
import Derived.Test.YtikjnmpijflnaaaDoorVRepPlain
import Derived.Test.YtikjnmpijflnaaaDoorVNumRead
import Derived.Test.YtikjnmpijflnaaaDoorVBrAny
namespace Go.Proofs.YtikjnmpijflnaaaDoor
open Go.V
attribute [local irreducible] Blk Own hcell IntT SliceT PlainT AggT SizeT StrT FieldT ZeroT EqT ArrT
/-- the place of the first end-of-line sign; the length, where there is none -/
def brAt : List UInt8 → Nat
  | [] => 0
  | b :: l => if isBr b = true then 0 else brAt l + 1
theorem brAt_le : ∀ l : List UInt8, brAt l ≤ l.length
  | [] => Nat.le_refl _
  | b :: l => by
    unfold brAt
    have := brAt_le l
    split
    · omega
    · simp only [List.length_cons]; omega
theorem brAt_app : ∀ (a : List UInt8) (c : UInt8) (r : List UInt8), (∀ b ∈ a, isBr b = false) → isBr c = true → brAt (a ++ c :: r) = a.length
  | [], c, r, _, hc => by simp [brAt, hc]
  | b :: a, c, r, ha, hc => by
    have h1 := ha b (by simp)
    have h2 := brAt_app a c r (fun x hx => ha x (List.mem_cons_of_mem _ hx)) hc
    simp only [List.cons_append, brAt, h1, h2, List.length_cons]
    simp
theorem brAt_no : ∀ (l : List UInt8) (k : Nat), k ≤ brAt l → ∀ b ∈ l.take k, isBr b = false
  | [], k, _, b, hb => by simp at hb
  | c :: l, 0, _, b, hb => by simp at hb
  | c :: l, k + 1, h, b, hb => by
    unfold brAt at h
    split at h
    · omega
    · rename_i hc
      rw [List.take_succ_cons] at hb
      rcases List.mem_cons.1 hb with rfl | hb
      · simpa using hc
      · exact brAt_no l k (by omega) b hb
theorem brAt_is : ∀ (l : List UInt8), brAt l < l.length → ∃ c, l[brAt l]? = some c ∧ isBr c = true
  | [], h => by simp at h
  | c :: l, h => by
    unfold brAt at h ⊢
    split
    · rename_i hc; exact ⟨c, rfl, hc⟩
    · rename_i hc
      rw [if_neg hc, List.length_cons] at h
      obtain ⟨x, h1, h2⟩ := brAt_is l (by omega)
      exact ⟨x, by simpa using h1, h2⟩
open Classical in
noncomputable def numOf (s : List UInt8) : Option Int := if h : ∃ n, IsNum (mkStr s) n then some h.choose else none
theorem isNum_inj {s : ByteArray} {m n : Int} (h : IsNum s m) (k : IsNum s n) : m = n := by
  have e := h.2.trans k.2.symm
  have e2 := congrArg (fun b : ByteArray => b.data.toList) e
  simp only [itoaB_list] at e2
  exact itoa_inj e2
theorem numOf_some {s : List UInt8} {n : Int} (h : IsNum (mkStr s) n) : numOf s = some n := by
  have hx : ∃ n, IsNum (mkStr s) n := ⟨n, h⟩
  unfold numOf
  rw [dif_pos hx]
  exact congrArg some (isNum_inj hx.choose_spec h)
theorem numOf_none {s : List UInt8} (h : ∀ n, ¬ IsNum (mkStr s) n) : numOf s = none := by
  unfold numOf
  rw [dif_neg (fun ⟨n, hn⟩ => h n hn)]
inductive Hd where
  | none
  | leaf (t : Rep) (k : Nat)
  | list (n k : Nat)
/-- what a line with the mark m and the text s says; r is behind it, k the length of it with its end -/
noncomputable def rdLine (m : UInt8) (s r : List UInt8) (k : Nat) : Hd :=
  if m = 43 then .leaf (.mk 0 (mkStr s) 0 []) k
  else if m = 45 then .leaf (.mk 1 (mkStr s) 0 []) k
  else match numOf s with
    | none => .none
    | some n =>
      if m = 58 then .leaf (.mk 2 ⟨#[]⟩ n []) k
      else if m = 36 then
        if n = -1 then .leaf (.mk 4 ⟨#[]⟩ 0 []) k
        else if 0 ≤ n ∧ n ≤ (r.length : Int) ∧ (r.drop n.toNat).take 2 = [13, 10] then .leaf (.mk 3 (mkStr (r.take n.toNat)) 0 []) (k + n.toNat + 2)
        else .none
      else if m = 42 ∧ 0 ≤ n then .list n.toNat k
      else .none
noncomputable def rdHead (bs : List UInt8) : Hd :=
  match bs.take (brAt bs) with
  | [] => .none
  | m :: s => if (bs.drop (brAt bs)).take 2 = [13, 10] then rdLine m s (bs.drop (brAt bs + 2)) (brAt bs + 2) else .none
def rdL (f : List UInt8 → Option (Rep × Nat)) : Nat → List UInt8 → Option (List Rep × Nat)
  | 0, _ => some ([], 0)
  | n + 1, bs => match f bs with
    | none => none
    | some (t, k) => match rdL f n (bs.drop k) with
      | none => none
      | some (l, j) => some (t :: l, k + j)
/-- the reply with which bytes begin, with at most so many arrays within one another, and its length -/
noncomputable def rdT : Nat → List UInt8 → Option (Rep × Nat)
  | 0, bs => match rdHead bs with
    | .leaf t k => some (t, k)
    | _ => none
  | d + 1, bs => match rdHead bs with
    | .leaf t k => some (t, k)
    | .list n k => match rdL (rdT d) n (bs.drop k) with
      | some (l, j) => some (.mk 5 ⟨#[]⟩ 0 l, k + j)
      | none => none
    | .none => none
theorem rdT_leaf {d k : Nat} {bs : List UInt8} {t : Rep} (h : rdHead bs = .leaf t k) : rdT d bs = some (t, k) := by
  cases d <;> simp [rdT, h]
theorem rdT_none {d : Nat} {bs : List UInt8} (h : rdHead bs = .none) : rdT d bs = none := by
  cases d <;> simp [rdT, h]
theorem rdT_list0 {n k : Nat} {bs : List UInt8} (h : rdHead bs = .list n k) : rdT 0 bs = none := by
  simp [rdT, h]
theorem rdT_list {d n k : Nat} {bs : List UInt8} (h : rdHead bs = .list n k) : rdT (d + 1) bs = (rdL (rdT d) n (bs.drop k)).map (fun x => (.mk 5 ⟨#[]⟩ 0 x.1, k + x.2)) := by
  simp only [rdT, h]
  cases rdL (rdT d) n (bs.drop k) with
  | none => rfl
  | some x => rfl
theorem rdHead_no {bs : List UInt8} (h : brAt bs = 0 ∨ ¬ (bs.drop (brAt bs)).take 2 = [13, 10]) : rdHead bs = .none := by
  unfold rdHead
  split
  · rfl
  · rename_i m s e
    rcases h with h | h
    · rw [h] at e; simp at e
    · rw [if_neg h]
theorem rdHead_line {bs : List UInt8} {m : UInt8} {s : List UInt8} (h1 : bs.take (brAt bs) = m :: s) (h2 : (bs.drop (brAt bs)).take 2 = [13, 10]) : rdHead bs = rdLine m s (bs.drop (brAt bs + 2)) (brAt bs + 2) := by
  unfold rdHead
  rw [h1]
  simp only
  rw [if_pos h2]
/-- a whole line -/
theorem rdHead_at {m : UInt8} {s r : List UInt8} (hm : isBr m = false) (hs : ∀ b ∈ s, isBr b = false) : rdHead ((m :: (s ++ crlf)) ++ r) = rdLine m s r (s.length + 3) := by
  have e : (m :: (s ++ crlf)) ++ r = (m :: s) ++ 13 :: (10 :: r) := by simp [crlf]
  have hb : brAt ((m :: (s ++ crlf)) ++ r) = s.length + 1 := by
    rw [e, brAt_app _ _ _ (fun b hb => by
      rcases List.mem_cons.1 hb with rfl | hb
      · exact hm
      · exact hs b hb) (by decide)]
    rfl
  have e1 : ((m :: (s ++ crlf)) ++ r).take (s.length + 1) = m :: s := by rw [e]; exact List.take_left' rfl
  have e2 : ((m :: (s ++ crlf)) ++ r).drop (s.length + 1) = 13 :: 10 :: r := by rw [e]; exact List.drop_left' rfl
  have e3 : ((m :: (s ++ crlf)) ++ r).drop (s.length + 1 + 2) = r := by rw [← List.drop_drop, e2]; rfl
  rw [rdHead_line (m := m) (s := s) (by rw [hb, e1]) (by rw [hb, e2]; rfl), hb, e3]
/-- the reply takes at least three bytes, and they are there -/
theorem brAt_two {bs : List UInt8} (h : (bs.drop (brAt bs)).take 2 = [13, 10]) : brAt bs + 2 ≤ bs.length := by
  have := congrArg List.length h
  simp at this
  omega
theorem rdHead_len {bs : List UInt8} : (∀ t k, rdHead bs = .leaf t k → 3 ≤ k ∧ k ≤ bs.length) ∧ (∀ n k, rdHead bs = .list n k → 3 ≤ k ∧ k ≤ bs.length) := by
  by_cases h0 : brAt bs = 0 ∨ ¬ (bs.drop (brAt bs)).take 2 = [13, 10]
  · rw [rdHead_no h0]
    exact ⟨fun t k h => (by cases h), fun n k h => (by cases h)⟩
  · have h1 : brAt bs ≠ 0 := fun e => h0 (.inl e)
    have h2 : (bs.drop (brAt bs)).take 2 = [13, 10] := Classical.byContradiction fun e => h0 (.inr e)
    have h3 := brAt_two h2
    obtain ⟨m, s, hms⟩ : ∃ m s, bs.take (brAt bs) = m :: s := by
      cases e : bs.take (brAt bs) with
      | nil => have := congrArg List.length e; rw [List.length_take, List.length_nil] at this; omega
      | cons m s => exact ⟨m, s, rfl⟩
    rw [rdHead_line hms h2]
    unfold rdLine
    have hl : (bs.drop (brAt bs + 2)).length = bs.length - (brAt bs + 2) := by simp
    constructor
    · intro t k h
      split at h
      · cases h; omega
      split at h
      · cases h; omega
      split at h
      · cases h
      rename_i n _
      split at h
      · cases h; omega
      split at h
      · split at h
        · cases h; omega
        · split at h
          · rename_i h5
            have h6 := congrArg List.length h5.2.2
            simp only [List.length_take, List.length_drop, List.length_cons, List.length_nil] at h6
            cases h
            omega
          · cases h
      · split at h <;> cases h
    · intro n k h
      split at h
      · cases h
      split at h
      · cases h
      split at h
      · cases h
      split at h
      · cases h
      split at h
      · split at h
        · cases h
        · split at h <;> cases h
      · split at h
        · cases h; omega
        · cases h
theorem rdL_len {f : List UInt8 → Option (Rep × Nat)} (hf : ∀ bs t k, f bs = some (t, k) → 3 ≤ k ∧ k ≤ bs.length) : ∀ (n : Nat) (bs : List UInt8) (l : List Rep) (j : Nat), rdL f n bs = some (l, j) → l.length = n ∧ 3 * n ≤ j ∧ j ≤ bs.length
  | 0, bs, l, j, h => by
    simp only [rdL, Option.some.injEq, Prod.mk.injEq] at h
    obtain ⟨rfl, rfl⟩ := h
    simp
  | n + 1, bs, l, j, h => by
    unfold rdL at h
    split at h
    · cases h
    rename_i t k e
    split at h
    · cases h
    rename_i l' j' e'
    cases h
    obtain ⟨h1, h2⟩ := hf _ _ _ e
    obtain ⟨h3, h4, h5⟩ := rdL_len hf n _ _ _ e'
    simp only [List.length_drop] at h5
    simp only [List.length_cons]
    omega
theorem rdT_len : ∀ (d : Nat) (bs : List UInt8) (t : Rep) (k : Nat), rdT d bs = some (t, k) → 3 ≤ k ∧ k ≤ bs.length
  | 0, bs, t, k, h => by
    cases e : rdHead bs with
    | none => rw [rdT_none e] at h; cases h
    | leaf t' k' => rw [rdT_leaf e] at h; cases h; exact rdHead_len.1 _ _ e
    | list n k' => rw [rdT_list0 e] at h; cases h
  | d + 1, bs, t, k, h => by
    cases e : rdHead bs with
    | none => rw [rdT_none e] at h; cases h
    | leaf t' k' => rw [rdT_leaf e] at h; cases h; exact rdHead_len.1 _ _ e
    | list n k' =>
      rw [rdT_list e] at h
      have h1 := rdHead_len.2 _ _ e
      cases e2 : rdL (rdT d) n (bs.drop k') with
      | none => rw [e2] at h; cases h
      | some x =>
        rw [e2] at h
        cases h
        have h2 := rdL_len (rdT_len d) n _ x.1 x.2 e2
        simp only [List.length_drop] at h2
        omega
theorem rdL_snoc {f : List UInt8 → Option (Rep × Nat)} : ∀ (n : Nat) (bs : List UInt8), rdL f (n + 1) bs = (rdL f n bs).bind (fun x => (f (bs.drop x.2)).map (fun y => (x.1 ++ [y.1], x.2 + y.2)))
  | 0, bs => by
    simp only [rdL, Option.bind_some, List.drop_zero, List.nil_append]
    cases f bs with
    | none => rfl
    | some y => simp
  | n + 1, bs => by
    unfold rdL
    cases e : f bs with
    | none => rfl
    | some y =>
      obtain ⟨t, k⟩ := y
      simp only
      rw [rdL_snoc n (bs.drop k)]
      cases e2 : rdL f n (bs.drop k) with
      | none => rfl
      | some x =>
        obtain ⟨l, j⟩ := x
        simp only [Option.bind_some, List.drop_drop]
        cases e3 : f (bs.drop (k + j)) with
        | none => rfl
        | some z => simp [Nat.add_assoc]
/-- once none, always none -/
theorem rdL_stop {f : List UInt8 → Option (Rep × Nat)} {bs : List UInt8} : ∀ {n m : Nat}, n ≤ m → rdL f n bs = none → rdL f m bs = none := by
  intro n m h
  induction h with
  | refl => exact id
  | step _ ih => intro h0; rw [rdL_snoc, ih h0]; rfl
end Go.Proofs.YtikjnmpijflnaaaDoor
