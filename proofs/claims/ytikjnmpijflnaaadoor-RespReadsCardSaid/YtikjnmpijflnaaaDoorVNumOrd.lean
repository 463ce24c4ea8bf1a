/- The order of decimal forms, in plain Lean. -/
import Derived.Test.YtikjnmpijflnaaaDoorVNum1
import Derived.Lib.ItoaNum
namespace Go.Proofs.YtikjnmpijflnaaaDoor
open Go.V
attribute [local irreducible] Blk Own hcell IntT SliceT PlainT AggT SizeT StrT FieldT ZeroT EqT ArrT
theorem less_app : ∀ (xs ys : List UInt8) (c d : UInt8), xs.length = ys.length → Op.bytesLess (xs ++ [c]) (ys ++ [d]) = (Op.bytesLess xs ys || (decide (xs = ys) && decide (c < d)))
  | [], [], c, d, _ => by simp [Op.bytesLess]
  | x :: xs, y :: ys, c, d, h => by
    have ih := less_app xs ys c d (by simpa using h)
    simp only [List.cons_append, Op.bytesLess, ih]
    by_cases hlt : x < y
    · simp [hlt]
    · by_cases hgt : y < x
      · have hne : x ≠ y := by intro he; subst he; exact absurd hgt hlt
        have hb : (x == y) = false := by simp [hne]
        simp [hlt, hne, hb]
      · have he : x = y := UInt8.le_antisymm (UInt8.not_lt.1 hgt) (UInt8.not_lt.1 hlt)
        subst he
        simp
  | [], y :: ys, c, d, h => by cases h
  | x :: xs, [], c, d, h => by cases h
theorem digit_lt {a b : Nat} (ha : a < 10) (hb : b < 10) : (UInt8.ofNat (48 + a) < UInt8.ofNat (48 + b)) ↔ a < b := by
  rw [UInt8.lt_iff_toNat_lt]
  rw [UInt8.toNat_ofNat', UInt8.toNat_ofNat']
  omega
theorem dec_ge (u : Nat) : ∀ c ∈ Lib.decDigits u, 48 ≤ c.toNat := by
  induction u using Nat.strongRecOn with
  | _ u ih =>
    rw [Lib.decDigits]
    split
    · intro c hc
      simp only [List.mem_singleton] at hc
      rw [hc, UInt8.toNat_ofNat']
      omega
    · intro c hc
      rcases List.mem_append.1 hc with hc | hc
      · exact ih (u / 10) (by omega) c hc
      · simp only [List.mem_singleton] at hc
        rw [hc, UInt8.toNat_ofNat']
        omega
theorem dec_less (u : Nat) : ∀ v, Lib.nDigits u = Lib.nDigits v → Op.bytesLess (Lib.decDigits u) (Lib.decDigits v) = decide (u < v) ∧ (Lib.decDigits u = Lib.decDigits v ↔ u = v) := by
  induction u using Nat.strongRecOn with
  | _ u ih =>
    intro v hn
    by_cases hu : u < 10
    · have hv : v < 10 := by
        apply Decidable.byContradiction; intro hv
        rw [Lib.nDigits_small hu, Lib.nDigits_big hv] at hn
        have := Lib.nDigits_pos (v / 10)
        omega
      have hd := digit_lt hu hv
      have hd2 := digit_lt hv hu
      rw [Lib.decDigits_one hu, Lib.decDigits_one hv]
      refine ⟨?_, ?_⟩
      · rw [show ([UInt8.ofNat (48 + u)] : List UInt8) = [] ++ [UInt8.ofNat (48 + u)] from rfl, show ([UInt8.ofNat (48 + v)] : List UInt8) = [] ++ [UInt8.ofNat (48 + v)] from rfl, less_app [] [] _ _ rfl]
        rw [show decide (UInt8.ofNat (48 + u) < UInt8.ofNat (48 + v)) = decide (u < v) from decide_eq_decide.2 hd]
        simp [Op.bytesLess]
      · constructor
        · intro he
          injection he with he _
          rw [he] at hd hd2
          have h1 : ¬ u < v := fun h => UInt8.lt_irrefl _ (hd.2 h)
          have h2 : ¬ v < u := fun h => UInt8.lt_irrefl _ (hd2.2 h)
          omega
        · intro he; rw [he]
    · have hv : ¬ v < 10 := by
        intro hv
        rw [Lib.nDigits_small hv, Lib.nDigits_big hu] at hn
        have := Lib.nDigits_pos (u / 10)
        omega
      rw [Lib.nDigits_big hu, Lib.nDigits_big hv] at hn
      obtain ⟨ih1, ih2⟩ := ih (u / 10) (by omega) (v / 10) (by omega)
      have hlen : (Lib.decDigits (u / 10)).length = (Lib.decDigits (v / 10)).length := by rw [Lib.decDigits_length, Lib.decDigits_length]; omega
      have hd := digit_lt (a := u % 10) (b := v % 10) (by omega) (by omega)
      have hd2 := digit_lt (a := v % 10) (b := u % 10) (by omega) (by omega)
      rw [Lib.decDigits, dif_neg hu, Lib.decDigits.eq_1 v, dif_neg hv]
      refine ⟨?_, ?_⟩
      · rw [less_app _ _ _ _ hlen, ih1]
        rw [show decide (UInt8.ofNat (48 + u % 10) < UInt8.ofNat (48 + v % 10)) = decide (u % 10 < v % 10) from decide_eq_decide.2 hd,
          show decide (Lib.decDigits (u / 10) = Lib.decDigits (v / 10)) = decide (u / 10 = v / 10) from decide_eq_decide.2 ih2, ← Bool.decide_and, ← Bool.decide_or]
        apply decide_eq_decide.2
        omega
      · constructor
        · intro he
          obtain ⟨e1, e2⟩ := List.append_inj he hlen
          injection e2 with e2 _
          rw [e2] at hd hd2
          have h1 : ¬ u % 10 < v % 10 := fun h => UInt8.lt_irrefl _ (hd.2 h)
          have h2 : ¬ v % 10 < u % 10 := fun h => UInt8.lt_irrefl _ (hd2.2 h)
          have := ih2.1 e1
          omega
        · intro he; rw [he]
theorem dec_inj {u v : Nat} (he : Lib.decDigits u = Lib.decDigits v) : u = v :=
  (dec_less u v (by rw [← Lib.decDigits_length, ← Lib.decDigits_length, he])).2.1 he
theorem dec_ne (u : Nat) (xs : List UInt8) : Lib.decDigits u ≠ 45 :: xs := by
  intro he
  have := dec_ge u 45 (by rw [he]; simp)
  simp at this
theorem itoa_inj {a b : Int} (he : Lib.itoa a = Lib.itoa b) : a = b := by
  unfold Lib.itoa at he
  split at he <;> split at he
  · injection he with _ he
    have := dec_inj he
    omega
  · exact absurd he.symm (dec_ne _ _)
  · exact absurd he (dec_ne _ _)
  · have := dec_inj he
    omega
theorem itoaB_inj {a b : Int} : itoaB a = itoaB b ↔ a = b := by
  constructor
  · intro he
    have := congrArg (fun x : ByteArray => x.data.toList) he
    exact itoa_inj (by simpa [itoaB] using this)
  · intro he; rw [he]
theorem itoaB_less {a b : Int} (ha : 0 ≤ a) (hb : 0 ≤ b) (hl : (itoaB a).size = (itoaB b).size) : blt (itoaB a) (itoaB b) = decide (a < b) := by
  have hl' : (Lib.itoa a).length = (Lib.itoa b).length := by
    have e : ∀ n, (itoaB n).size = (Lib.itoa n).length := fun n => by
      show (Lib.itoa n).toArray.size = _
      simp
    rw [e, e] at hl; exact hl
  show Op.bytesLess (Lib.itoa a).toArray.toList (Lib.itoa b).toArray.toList = _
  unfold Lib.itoa at hl' ⊢
  rw [if_neg (by omega), if_neg (by omega)] at hl' ⊢
  rw [Lib.decDigits_length, Lib.decDigits_length] at hl'
  show Op.bytesLess (Lib.decDigits _) (Lib.decDigits _) = _
  rw [(dec_less _ _ hl').1]
  apply decide_eq_decide.2
  omega
end Go.Proofs.YtikjnmpijflnaaaDoor
