/- Where the document looks for the end of a line, and where the program does; in plain Lean. -/
import Derived.Test.YtikjnmpijflnaaaDoorVRepRdW
namespace Go.Proofs.YtikjnmpijflnaaaDoor
open Go.V
attribute [local irreducible] Blk Own hcell IntT SliceT PlainT AggT SizeT StrT FieldT ZeroT EqT ArrT
/-- the place of the first 13 10, or the last place -/
def crAt : List UInt8 → Nat
  | b :: c :: l => if b = 13 ∧ c = 10 then 0 else crAt (c :: l) + 1
  | _ => 0
theorem crAt_short {cs : List UInt8} (h : cs.length ≤ 1) : crAt cs = 0 := by
  match cs, h with
  | [], _ => rfl
  | [_], _ => rfl
  | _ :: _ :: _, h => simp at h
theorem crAt_yes {cs : List UInt8} (h : cs.take 2 = [13, 10]) : crAt cs = 0 := by
  match cs, h with
  | [], h => simp at h
  | [_], h => simp at h
  | b :: c :: l, h =>
    simp only [List.take_succ_cons, List.take_zero, List.cons.injEq, and_true] at h
    unfold crAt
    rw [if_pos h]
theorem crAt_no {b c : UInt8} {l : List UInt8} (h : ¬ (b = 13 ∧ c = 10)) : crAt (b :: c :: l) = crAt (c :: l) + 1 := by
  conv => lhs; unfold crAt
  rw [if_neg h]
theorem cr_line2 : ∀ {cs : List UInt8}, (cs.drop (brAt cs)).take 2 = [13, 10] → crAt cs = brAt cs
  | [], h => by simp [brAt] at h
  | b :: l, h => by
    by_cases hb : isBr b = true
    · have e : brAt (b :: l) = 0 := if_pos hb
      rw [e] at h ⊢
      exact crAt_yes h
    · have e : brAt (b :: l) = brAt l + 1 := if_neg hb
      rw [e] at h ⊢
      rw [List.drop_succ_cons] at h
      have ih := cr_line2 h
      match l, h with
      | [], h => simp at h
      | c :: l, h =>
        rw [crAt_no (fun hh => hb (by rw [hh.1]; decide)), ih]
theorem head_nofind {cs : List UInt8} (h : cs.length ≤ crAt cs + 1 ∨ crAt cs = 0) : rdHead cs = .none := by
  by_cases hl : (cs.drop (brAt cs)).take 2 = [13, 10]
  · have h1 := cr_line2 hl
    have h2 := brAt_two hl
    exact rdHead_no (.inl (by omega))
  · exact rdHead_no (.inr hl)
/-- a line in which no end of a line stands -/
def Plain (m : UInt8) (s : List UInt8) : Prop := isBr m = false ∧ ∀ b ∈ s, isBr b = false
theorem head_find {cs : List UInt8} {m : UInt8} {s r : List UInt8} (hc : cs = (m :: s) ++ 13 :: 10 :: r) (he : crAt cs = s.length + 1) : (Plain m s → rdHead cs = rdLine m s r (s.length + 3)) ∧ (¬ Plain m s → rdHead cs = .none) := by
  constructor
  · intro hp
    have e : cs = (m :: (s ++ crlf)) ++ r := by rw [hc]; simp [crlf]
    rw [e]
    exact rdHead_at hp.1 hp.2
  · intro hn
    have hlt : ¬ s.length + 1 ≤ brAt cs := fun hle => hn (by
      have h1 := brAt_no cs _ hle
      have h2 : cs.take (s.length + 1) = m :: s := by rw [hc]; exact List.take_left' rfl
      rw [h2] at h1
      exact ⟨h1 m (by simp), fun b hb => h1 b (List.mem_cons_of_mem _ hb)⟩)
    refine rdHead_no (.inr fun hl => ?_)
    have := cr_line2 hl
    omega
theorem head_none {cs : List UInt8} {m : UInt8} {s r : List UInt8} (hc : cs = (m :: s) ++ 13 :: 10 :: r) (he : crAt cs = s.length + 1) (h : Plain m s → rdLine m s r (s.length + 3) = .none) : rdHead cs = .none := by
  by_cases hp : Plain m s
  · rw [(head_find hc he).1 hp, h hp]
  · exact (head_find hc he).2 hp
theorem plain_num {m : UInt8} {s : List UInt8} {n : Int} (hm : isBr m = false) (h : IsNum (mkStr s) n) : Plain m s := by
  refine ⟨hm, fun b hb => ?_⟩
  have e : s = Lib.itoa n := by
    have h1 := congrArg (fun x : ByteArray => x.data.toList) h.2
    simp only [itoaB_list] at h1
    rw [h1]
    unfold mkStr
    simp
  rw [e] at hb
  exact itoa_nobr n b hb
theorem plain_nobr {m : UInt8} {s : List UInt8} (hm : isBr m = false) : Plain m s ↔ nobr (mkStr s) = true := by
  have e : (mkStr s).data.toList = s := by unfold mkStr; simp
  constructor
  · intro h
    unfold nobr
    rw [e, List.all_eq_true]
    intro b hb
    have := h.2 b hb
    unfold isBr at this
    simp only [Bool.or_eq_false_iff, beq_eq_false_iff_ne] at this
    simp [this.1, this.2]
  · intro h
    exact ⟨hm, fun b hb => nobr_isBr h b (by rw [e]; exact hb)⟩
theorem num_m1 {s : List UInt8} (n : Int) (h : IsNum (mkStr s) n) : mkStr s = ⟨#[45, 49]⟩ ↔ n = -1 := by
  have e : itoaB (-1) = ⟨#[45, 49]⟩ := by decide +kernel
  constructor
  · intro h1
    exact isNum_inj h ⟨by unfold fit64; omega, by rw [h1, e]⟩
  · intro h1
    rw [← h.2, h1, e]
theorem num_m1' {s : List UInt8} (h : mkStr s = ⟨#[45, 49]⟩) : IsNum (mkStr s) (-1) := ⟨by unfold fit64; omega, by rw [h]; decide +kernel⟩
end Go.Proofs.YtikjnmpijflnaaaDoor
