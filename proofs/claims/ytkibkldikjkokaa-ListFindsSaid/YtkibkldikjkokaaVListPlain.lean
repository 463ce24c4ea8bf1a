/- list.Find and list.Remove in plain terms. -/
import Derived.Test.YtkibkldikjkokaaVListRemove
namespace Go.V
/-- all places of s, counted from i -/
def alP (s : ByteArray) : Nat → List ByteArray → List Int
  | _, [] => []
  | i, x :: l => if x = s then (i : Int) :: alP s (i + 1) l else alP s (i + 1) l
def occ (s : ByteArray) : List ByteArray → Nat
  | [] => 0
  | x :: l => if x = s then occ s l + 1 else occ s l
/-- without the first k that equal s -/
def cutN (s : ByteArray) : Nat → List ByteArray → List ByteArray
  | 0, l => l
  | _ + 1, [] => []
  | k + 1, x :: l => if x = s then cutN s k l else x :: cutN s (k + 1) l
/-- without those that equal s, but for the first j -/
def skipN (s : ByteArray) : Nat → List ByteArray → List ByteArray
  | _, [] => []
  | 0, x :: l => if x = s then skipN s 0 l else x :: skipN s 0 l
  | j + 1, x :: l => if x = s then x :: skipN s j l else x :: skipN s (j + 1) l
section
variable {s : ByteArray}
theorem alP_len : ∀ (l : List ByteArray) (i : Nat), (alP s i l).length = occ s l
  | [], _ => rfl
  | x :: l, i => by
    unfold alP occ
    split
    · simp [alP_len l]
    · exact alP_len l _
theorem alP_ge : ∀ (l : List ByteArray) (i : Nat), ∀ y ∈ alP s i l, (i : Int) ≤ y
  | [], _, y, h => by simp [alP] at h
  | x :: l, i, y, h => by
    unfold alP at h
    split at h
    · rcases List.mem_cons.1 h with rfl | h
      · exact Int.le_refl _
      · have := alP_ge l (i + 1) y h; omega
    · have := alP_ge l (i + 1) y h; omega
theorem alP_sorted : ∀ (l : List ByteArray) (i : Nat), (alP s i l).Pairwise (fun a b => a ≤ b)
  | [], _ => List.Pairwise.nil
  | x :: l, i => by
    unfold alP
    split
    · exact List.Pairwise.cons (fun y hy => by have := alP_ge l (i + 1) y hy; omega) (alP_sorted l _)
    · exact alP_sorted l _
theorem alP_append : ∀ (a b : List ByteArray) (i : Nat), alP s i (a ++ b) = alP s i a ++ alP s (i + a.length) b
  | [], b, i => by simp [alP]
  | x :: a, b, i => by
    have ih := alP_append a b (i + 1)
    have e : i + 1 + a.length = i + (x :: a).length := by simp; omega
    rw [e] at ih
    simp only [List.cons_append, alP]
    split
    · rw [ih]; rfl
    · exact ih
theorem occ_le : ∀ l : List ByteArray, occ s l ≤ l.length
  | [] => Nat.le_refl _
  | x :: l => by
    have := occ_le l
    unfold occ
    split <;> simp <;> omega
theorem occ_append : ∀ (a b : List ByteArray), occ s (a ++ b) = occ s a + occ s b
  | [], b => by simp [occ]
  | x :: a, b => by
    simp only [List.cons_append, occ, occ_append a b]
    split <;> omega
theorem occ_zero : ∀ {l : List ByteArray}, occ s l = 0 ↔ s ∉ l
  | [] => by simp [occ]
  | x :: l => by
    unfold occ
    split
    · rename_i h; simp [h]
    · rename_i h
      have h' : ¬ s = x := fun e => h e.symm
      simp [occ_zero (l := l), h']
theorem dropAt_nil : ∀ (l : List ByteArray) (i : Nat), dropAt i l [] = l
  | [], _ => by simp [dropAt]
  | x :: l, i => by simp [dropAt, dropAt_nil l]
theorem dropAt_ge {x : ByteArray} {l : List ByteArray} {i : Nat} {ys : List Int} (h : ∀ y ∈ ys, ((i + 1 : Nat) : Int) ≤ y) : dropAt i (x :: l) ys = x :: dropAt (i + 1) l ys := by
  cases ys with
  | nil => rfl
  | cons y ys =>
    have := h y (by simp)
    rw [dropAt, if_neg (by omega)]
theorem dropAt_take : ∀ (l : List ByteArray) (i k : Nat), dropAt i l ((alP s i l).take k) = cutN s k l
  | [], i, k => by cases k <;> simp [dropAt, cutN]
  | x :: l, i, k => by
    unfold alP
    split
    · rename_i h
      cases k with
      | zero => simp only [List.take_zero, dropAt_nil, cutN]
      | succ k => simp only [List.take_succ_cons, dropAt, if_true, cutN, h, dropAt_take l]
    · rename_i h
      rw [dropAt_ge (fun y hy => alP_ge l (i + 1) y (List.mem_of_mem_take hy)), dropAt_take l]
      cases k with
      | zero => simp [cutN]
      | succ k => simp [cutN, h]
theorem dropAt_drop : ∀ (l : List ByteArray) (i j : Nat), dropAt i l ((alP s i l).drop j) = skipN s j l
  | [], i, j => by cases j <;> simp [dropAt, skipN]
  | x :: l, i, j => by
    unfold alP
    split
    · rename_i h
      cases j with
      | zero =>
        have := dropAt_drop l (i + 1) 0
        simp only [List.drop_zero] at this ⊢
        simp only [dropAt, if_true, skipN, h, this]
      | succ j =>
        simp only [List.drop_succ_cons]
        rw [dropAt_ge (fun y hy => alP_ge l (i + 1) y (List.mem_of_mem_drop hy)), dropAt_drop l]
        simp [skipN, h]
    · rename_i h
      rw [dropAt_ge (fun y hy => alP_ge l (i + 1) y (List.mem_of_mem_drop hy)), dropAt_drop l]
      cases j <;> simp [skipN, h]
theorem cut_one : ∀ {a b : List ByteArray}, s ∉ a → cutN s 1 (a ++ s :: b) = a ++ b
  | [], b, _ => by simp [cutN]
  | x :: a, b, h => by
    simp only [List.mem_cons, not_or] at h
    have h' : ¬ x = s := fun e => h.1 e.symm
    simp only [List.cons_append, cutN, if_neg h', cut_one h.2]
theorem cut_cut : ∀ (l : List ByteArray) (n : Nat), cutN s 1 (cutN s n l) = cutN s (n + 1) l
  | l, 0 => by simp [cutN]
  | [], n + 1 => by simp [cutN]
  | x :: l, n + 1 => by
    by_cases h : x = s
    · rw [cutN, if_pos h, cut_cut l n, cutN, if_pos h]
    · rw [cutN, if_neg h, cutN, if_neg h, cut_cut l (n + 1), cutN, if_neg h]
theorem occ_cut : ∀ (l : List ByteArray) (n : Nat), occ s (cutN s n l) = occ s l - n
  | l, 0 => by simp [cutN]
  | [], n + 1 => by simp [cutN, occ]
  | x :: l, n + 1 => by
    by_cases h : x = s
    · rw [cutN, if_pos h, occ_cut l n, show occ s (x :: l) = occ s l + 1 by rw [occ, if_pos h]]; omega
    · rw [cutN, if_neg h, show occ s (x :: cutN s (n + 1) l) = occ s (cutN s (n + 1) l) by rw [occ, if_neg h], show occ s (x :: l) = occ s l by rw [occ, if_neg h], occ_cut l (n + 1)]
theorem skip_none : ∀ {l : List ByteArray} (j : Nat), s ∉ l → skipN s j l = l
  | [], j, _ => by cases j <;> rfl
  | x :: l, j, h => by
    simp only [List.mem_cons, not_or] at h
    have h' : ¬ x = s := fun e => h.1 e.symm
    cases j <;> simp [skipN, h', skip_none _ h.2]
theorem skip_all : ∀ {l : List ByteArray} (j : Nat), occ s l ≤ j → skipN s j l = l
  | [], j, _ => by cases j <;> rfl
  | x :: l, j, h => by
    unfold occ at h
    by_cases e : x = s
    · rw [if_pos e] at h
      cases j with
      | zero => omega
      | succ j => rw [skipN, if_pos e, skip_all j (by omega)]
    · rw [if_neg e] at h
      cases j <;> rw [skipN, if_neg e, skip_all _ h]
theorem skip_last : ∀ {a b : List ByteArray}, s ∉ b → skipN s (occ s a) (a ++ s :: b) = a ++ b
  | [], b, h => by simp [skipN, occ, skip_none _ h]
  | x :: a, b, h => by
    by_cases e : x = s
    · simp only [List.cons_append, occ, if_pos e, skipN, skip_last h]
    · have := skip_last (a := a) h
      unfold occ
      rw [if_neg e, List.cons_append]
      generalize occ s a = n at this ⊢
      cases n <;> rw [skipN, if_neg e, this] <;> rfl
theorem skip_skip : ∀ (l : List ByteArray) {j k : Nat}, j ≤ k → skipN s j (skipN s k l) = skipN s j l
  | [], j, k, _ => by cases j <;> cases k <;> rfl
  | x :: l, j, k, h => by
    by_cases e : x = s
    · cases k with
      | zero =>
        obtain rfl : j = 0 := by omega
        rw [skipN, if_pos e, skip_skip l h]
      | succ k =>
        rw [show skipN s (k + 1) (x :: l) = x :: skipN s k l by rw [skipN, if_pos e]]
        cases j with
        | zero => rw [skipN, if_pos e, skip_skip l (by omega), skipN, if_pos e]
        | succ j => rw [skipN, if_pos e, skip_skip l (by omega), skipN, if_pos e]
    · rw [show skipN s k (x :: l) = x :: skipN s k l by cases k <;> rw [skipN, if_neg e]]
      rw [show skipN s j (x :: skipN s k l) = x :: skipN s j (skipN s k l) by cases j <;> rw [skipN, if_neg e], skip_skip l h]
      cases j <;> rw [skipN, if_neg e]
theorem occ_skip : ∀ (l : List ByteArray) (j : Nat), occ s (skipN s j l) = min j (occ s l)
  | [], j => by cases j <;> simp [skipN, occ]
  | x :: l, j => by
    by_cases e : x = s
    · cases j with
      | zero => rw [skipN, if_pos e, occ_skip l 0]; simp
      | succ j => rw [skipN, if_pos e]; unfold occ; rw [if_pos e, if_pos e, occ_skip l j]; omega
    · rw [show skipN s j (x :: l) = x :: skipN s j l by cases j <;> rw [skipN, if_neg e]]
      unfold occ; rw [if_neg e, if_neg e, occ_skip l j]
/-- the one that is taken out -/
theorem split_at {l : List ByteArray} {k : Nat} (h : l[k]? = some s) : l = l.take k ++ s :: l.drop (k + 1) := by
  obtain ⟨hk, e⟩ := List.getElem?_eq_some_iff.1 h
  rw [← e, ← List.drop_eq_getElem_cons hk, List.take_append_drop]
theorem cut_step {l : List ByteArray} {n k : Nat} (h : (cutN s n l)[k]? = some s) (h0 : s ∉ (cutN s n l).take k) : (cutN s n l).take k ++ (cutN s n l).drop (k + 1) = cutN s (n + 1) l := by
  rw [← cut_cut, ← cut_one h0, ← split_at h]
theorem skip_step {l : List ByteArray} {n k : Nat} (hn : n < occ s l) (h : (skipN s (occ s l - n) l)[k]? = some s) (h0 : s ∉ (skipN s (occ s l - n) l).drop (k + 1)) :
    (skipN s (occ s l - n) l).take k ++ (skipN s (occ s l - n) l).drop (k + 1) = skipN s (occ s l - (n + 1)) l := by
  have h1 := split_at h
  have h2 := occ_skip (s := s) l (occ s l - n)
  generalize hL : skipN s (occ s l - n) l = L at h h0 h1 h2 ⊢
  rw [← skip_last h0, ← h1]
  rw [h1, occ_append, occ, if_pos rfl, occ_zero.2 h0] at h2
  rw [show occ s (L.take k) = occ s l - (n + 1) by omega, ← hL, skip_skip l (by omega)]
/-- at most so many: most less one: all -/
def selM (most : Int) (m : Nat) (xs : List Int) : List Int := if most < 1 then xs else xs.take (most.toNat - m)
theorem runF_fwd {l : List ByteArray} {most : Int} : ∀ (r : List ByteArray) (k : Nat) (out : List Int), l.drop k = r → (most < 1 ∨ (out.length : Int) < most) →
    (runF l s most (List.range' k r.length) (0, out)).2 = out ++ selM most out.length (alP s k r)
  | [], k, out, _, _ => by simp [runF, alP, selM]
  | x :: r, k, out, hr, hm => by
    have hx : l.getD k ⟨#[]⟩ = x := by
      have : l[k]? = some x := by rw [← List.head?_drop, hr]; rfl
      rw [List.getD_eq_getElem?_getD, this]; rfl
    have hr' : l.drop (k + 1) = r := by rw [← List.drop_drop, hr]; rfl
    simp only [List.length_cons, List.range'_succ, runF, hx]
    unfold findStep alP
    by_cases e : x = s
    · simp only [if_pos e, Int.lt_irrefl, if_false]
      by_cases hm' : most < 1 ∨ (((out ++ [(k : Int)]).length : Nat) : Int) < most
      · rw [if_pos hm', runF_fwd r (k + 1) _ hr' hm']
        unfold selM
        split
        · simp
        · have : most.toNat - out.length = (most.toNat - (out ++ [(k : Int)]).length) + 1 := by
            simp only [List.length_append, List.length_cons, List.length_nil] at hm' ⊢; omega
          rw [this, List.take_succ_cons]; simp
      · rw [if_neg hm']
        unfold selM
        simp only [List.length_append, List.length_cons, List.length_nil] at hm'
        rw [if_neg (by omega), show most.toNat - out.length = 1 by omega]
        simp
    · simp only [if_neg e]
      rw [if_pos hm, runF_fwd r (k + 1) out hr' hm]
theorem runF_bwd {l : List ByteArray} {most : Int} : ∀ (k : Nat) (out : List Int), k ≤ l.length → (most < 1 ∨ (out.length : Int) < most) →
    (runF l s most (List.range k).reverse (0, out)).2 = out ++ selM most out.length (alP s 0 (l.take k)).reverse
  | 0, out, _, _ => by simp [runF, alP, selM]
  | k + 1, out, hk, hm => by
    have hx : l[k]? = some l[k] := List.getElem?_eq_getElem (by omega)
    have hd : l.getD k ⟨#[]⟩ = l[k] := by rw [List.getD_eq_getElem?_getD, hx]; rfl
    have ht : l.take (k + 1) = l.take k ++ [l[k]] := by rw [List.take_add_one, hx]; rfl
    have hl : (l.take k).length = k := by simp; omega
    rw [show (List.range (k + 1)).reverse = k :: (List.range k).reverse by rw [List.range_succ, List.reverse_append]; rfl, ht, alP_append, hl, Nat.zero_add]
    simp only [runF, hd]
    unfold findStep
    by_cases e : l[k] = s
    · simp only [if_pos e, Int.lt_irrefl, if_false, alP, List.reverse_append, List.reverse_cons, List.reverse_nil, List.nil_append]
      by_cases hm' : most < 1 ∨ (((out ++ [(k : Int)]).length : Nat) : Int) < most
      · rw [if_pos hm', runF_bwd k _ (by omega) hm']
        unfold selM
        split
        · simp
        · have : most.toNat - out.length = (most.toNat - (out ++ [(k : Int)]).length) + 1 := by
            simp only [List.length_append, List.length_cons, List.length_nil] at hm' ⊢; omega
          rw [this, List.singleton_append, List.take_succ_cons]; simp
      · rw [if_neg hm']
        unfold selM
        simp only [List.length_append, List.length_cons, List.length_nil] at hm'
        rw [if_neg (by omega), show most.toNat - out.length = 1 by omega]
        simp
    · simp only [if_neg e, alP, List.append_nil]
      rw [if_pos hm, runF_bwd k out (by omega) hm]
/-- how many are taken out -/
def remM (l : List ByteArray) (count : Int) (s : ByteArray) : Nat := if count = 0 then occ s l else min count.natAbs (occ s l)
theorem rem_fwd {l : List ByteArray} {count : Int} (hc : 0 ≤ count) : dropAt 0 l (remAts l count s) = cutN s (remM l count s) l ∧ (remAts l count s).length = remM l count s := by
  have h1 := runF_fwd (l := l) (s := s) (most := count) l 0 [] rfl (by simp; omega)
  have h2 : findL l s 1 count = selM count 0 (alP s 0 l) := by
    unfold findL
    rw [if_neg (by decide), if_pos (by decide), show (1 : Int) - 1 = 0 by decide, List.range_eq_range', h1]; simp
  have h3 : selM count 0 (alP s 0 l) = (alP s 0 l).take (remM l count s) := by
    unfold selM remM
    split
    · rw [if_pos (by omega), List.take_of_length_le (by rw [alP_len]; exact Nat.le_refl _)]
    · rw [if_neg (by omega), Nat.sub_zero, List.take_eq_take_iff, alP_len]
      omega
  have h4 : remAts l count s = (alP s 0 l).take (remM l count s) := by
    unfold remAts
    rw [if_neg (by omega), h2, h3]
    refine List.mergeSort_of_pairwise ?_
    exact ((alP_sorted l 0).sublist (List.take_sublist _ _)).imp fun h => decide_eq_true h
  rw [h4]
  refine ⟨dropAt_take _ _ _, ?_⟩
  rw [List.length_take, alP_len]
  unfold remM; split <;> omega
theorem rem_bwd {l : List ByteArray} {count : Int} (hc : count < 0) : dropAt 0 l (remAts l count s) = skipN s (occ s l - remM l count s) l ∧ (remAts l count s).length = remM l count s := by
  have ho := occ_le (s := s) l
  obtain ⟨m, hm⟩ : ∃ m, -(max count (-(l.length : Int))) = m := ⟨_, rfl⟩
  have h1 := runF_bwd (l := l) (s := s) (most := m) l.length [] (Nat.le_refl _) (by simp; omega)
  have h2 : findL l s (-1) m = selM m 0 (alP s 0 l).reverse := by
    unfold findL
    rw [if_neg (by decide), if_neg (by decide), show -((-1 : Int) + 1) = 0 by decide, h1]; simp
  have h3 : selM m 0 (alP s 0 l).reverse = ((alP s 0 l).drop (occ s l - remM l count s)).reverse := by
    have hr := List.take_reverse (xs := alP s 0 l) (i := remM l count s)
    rw [alP_len] at hr
    rw [← hr]
    unfold selM remM
    rw [if_neg (show ¬ count = 0 by omega)]
    split
    · rw [List.take_of_length_le (by rw [List.length_reverse, alP_len]; omega)]
    · rw [Nat.sub_zero, List.take_eq_take_iff, List.length_reverse, alP_len]
      omega
  have h4 : remAts l count s = (alP s 0 l).drop (occ s l - remM l count s) := by
    unfold remAts
    rw [if_pos hc, hm, h2, h3]
    have hs : ((alP s 0 l).drop (occ s l - remM l count s)).Pairwise (fun a b => a ≤ b) := (alP_sorted l 0).sublist (List.drop_sublist _ _)
    refine List.Perm.eq_of_pairwise (le := fun a b => a ≤ b) (fun a b _ _ h1 h2 => Int.le_antisymm h1 h2) ?_ hs ((List.mergeSort_perm _ _).trans (List.reverse_perm _))
    have := List.pairwise_mergeSort (le := fun x y : Int => decide (x ≤ y)) (fun a b c h1 h2 => by simp only [decide_eq_true_eq] at *; omega) (fun a b => by simp only [Bool.or_eq_true, decide_eq_true_eq]; omega) ((alP s 0 l).drop (occ s l - remM l count s)).reverse
    exact this.imp fun hab => of_decide_eq_true hab
  rw [h4]
  refine ⟨dropAt_drop _ _ _, ?_⟩
  rw [List.length_drop, alP_len]
  unfold remM; split <;> omega
end
end Go.V
