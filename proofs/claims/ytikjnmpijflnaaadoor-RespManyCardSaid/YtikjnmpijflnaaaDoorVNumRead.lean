/- Decimal forms read back, in plain Lean. -/
import Derived.Test.YtikjnmpijflnaaaDoorVNumOrd
import Derived.Test.YtikjnmpijflnaaaDoorVNumFit
import Derived.Lib.ParseIntB
namespace Go.Proofs.YtikjnmpijflnaaaDoor
open Go.V
attribute [local irreducible] Blk Own hcell IntT SliceT PlainT AggT SizeT StrT FieldT ZeroT EqT ArrT
def valN (acc : Nat) (l : List UInt8) : Nat := l.foldl (fun a c => a * 10 + (c.toNat - 48)) acc
theorem valN_cons (acc : Nat) (c : UInt8) (l : List UInt8) : valN acc (c :: l) = valN (acc * 10 + (c.toNat - 48)) l := by unfold valN; rw [List.foldl_cons]
theorem valN_snoc (acc : Nat) (l : List UInt8) (c : UInt8) : valN acc (l ++ [c]) = valN acc l * 10 + (c.toNat - 48) := by unfold valN; rw [List.foldl_append, List.foldl_cons, List.foldl_nil]
theorem valN_ge : ∀ (l : List UInt8) (acc : Nat), acc ≤ valN acc l
  | [], acc => Nat.le_refl _
  | c :: l, acc => by rw [valN_cons]; have := valN_ge l (acc * 10 + (c.toNat - 48)); omega
theorem parseM_ok : ∀ (l : List UInt8) (acc : Nat), (∀ c ∈ l, 48 ≤ c.toNat ∧ c.toNat ≤ 57) → valN acc l ≤ 18446744073709551615 → Lib.parseUintM (2 ^ 64 - 1) acc l = .ok (valN acc l)
  | [], acc, _, _ => rfl
  | c :: l, acc, hd, hv => by
    have hc := hd c (by simp)
    have hg := valN_ge l (acc * 10 + (c.toNat - 48))
    rw [valN_cons] at hv ⊢
    rw [Lib.parseUintM, if_pos hc, if_neg (by omega), if_neg (by omega), parseM_ok l _ (fun d h => hd d (by simp [h])) hv]
theorem dec_le (u : Nat) : ∀ c ∈ Lib.decDigits u, c.toNat ≤ 57 := by
  induction u using Nat.strongRecOn with
  | _ u ih =>
    rw [Lib.decDigits]
    split
    · intro c hc
      simp only [List.mem_singleton] at hc
      rw [hc, UInt8.toNat_ofNat']
      omega
    · intro c hc
      rcases List.mem_append.1 hc with hc | hc
      · exact ih (u / 10) (by omega) c hc
      · simp only [List.mem_singleton] at hc
        rw [hc, UInt8.toNat_ofNat']
        omega
theorem val_dec (u : Nat) : valN 0 (Lib.decDigits u) = u := by
  induction u using Nat.strongRecOn with
  | _ u ih =>
    rw [Lib.decDigits]
    split
    · show 0 * 10 + ((UInt8.ofNat (48 + u)).toNat - 48) = u
      rw [UInt8.toNat_ofNat']
      omega
    · rw [valN_snoc, ih (u / 10) (by omega), UInt8.toNat_ofNat']
      omega
theorem dec_cons (u : Nat) : ∃ c l, Lib.decDigits u = c :: l ∧ 48 ≤ c.toNat := by
  cases h : Lib.decDigits u with
  | nil =>
    have := Lib.decDigits_length u
    rw [h] at this
    have h2 := Lib.nDigits_pos u
    simp at this; omega
  | cons c l => exact ⟨c, l, rfl, dec_ge u c (by rw [h]; simp)⟩
theorem uint_dec {u : Nat} (h : u ≤ 18446744073709551615) : Lib.parseUintB 64 (Lib.decDigits u) = .ok u := by
  obtain ⟨c, l, hc, _⟩ := dec_cons u
  unfold Lib.parseUintB
  rw [if_neg (by rw [hc]; simp), parseM_ok _ 0 (fun c hc => ⟨dec_ge u c hc, dec_le u c hc⟩) (by rw [val_dec]; exact h), val_dec]
theorem parse_itoa {n : Int} (h : fit64 n) : Lib.parseIntB 64 (Lib.itoa n) = .ok n := by
  unfold fit64 at h
  unfold Lib.itoa
  by_cases hn : n < 0
  · rw [if_pos hn]
    unfold Lib.parseIntB
    simp only
    rw [if_pos (.inr (by decide)), uint_dec (by omega)]
    simp only
    have h45 : (45 : UInt8).toNat = 45 := by decide
    rw [if_neg (by rw [h45]; simp), if_neg (by omega), if_pos h45]
    congr 1; omega
  · rw [if_neg hn]
    obtain ⟨c, l, hc, hc48⟩ := dec_cons n.toNat
    have hu := uint_dec (u := n.toNat) (by omega)
    rw [hc] at hu ⊢
    unfold Lib.parseIntB
    simp only
    rw [if_neg (by omega), hu]
    simp only
    rw [if_neg (by omega), if_neg (by omega), if_neg (by omega)]
    congr 1; omega
theorem parse_fit {l : List UInt8} {v : Int} (h : Lib.parseIntB 64 l = .ok v) : fit64 v := by
  unfold Lib.parseIntB at h
  cases l with
  | nil => cases h
  | cons c r =>
    simp only at h
    generalize Lib.parseUintB 64 _ = q at h
    rcases q with u | _ | _
    · simp only at h
      split at h
      · cases h
      · split at h
        · cases h
        · injection h with h
          unfold fit64
          split at h <;> omega
    · cases h
    · cases h
theorem nDigits_le : ∀ (k u : Nat), u < 10 ^ (k + 1) → Lib.nDigits u ≤ k + 1
  | 0, u, h => by rw [Lib.nDigits_small (by simpa using h)]; exact Nat.le_refl _
  | k + 1, u, h => by
    by_cases h10 : u < 10
    · rw [Lib.nDigits_small h10]; omega
    · rw [Lib.nDigits_big h10]
      have := nDigits_le k (u / 10) (by rw [Nat.pow_succ] at h; omega)
      omega
theorem itoa_size {n : Int} (h : fit64 n) : (itoaB n).size ≤ 20 := by
  unfold fit64 at h
  have e : (itoaB n).size = (Lib.itoa n).length := by
    show (Lib.itoa n).toArray.size = _
    simp
  rw [e]
  unfold Lib.itoa
  split
  · have := nDigits_le 18 n.natAbs (by omega)
    rw [List.length_cons, Lib.decDigits_length]; omega
  · have := nDigits_le 18 n.toNat (by omega)
    rw [Lib.decDigits_length]; omega
/-- the number of which s is the form -/
def IsNum (s : ByteArray) (n : Int) : Prop := fit64 n ∧ itoaB n = s
theorem itoaB_list (n : Int) : (itoaB n).data.toList = Lib.itoa n := by show (Lib.itoa n).toArray.toList = _; simp
end Go.Proofs.YtikjnmpijflnaaaDoor
