/- The document's Remove and Find of lists. -/
import Derived.Test.YtkibkldikjkokaaVRefList
namespace Go.V
section
variable {P : Program} {n : Nat} {ops : Array Oper} {dr : Nat × List Nat} {l : List Oper} {E : Env} {w : World} {K : Env → World → Prop}
variable {d : Option Nat} {ty : TypeId} {pos : String} {af : Array Edge} {g : Option (Nat × Bool)} {x y : Operand} {t u sz by_ : Nat} {p : Option Addr} {c : Nat}
theorem G1_appendB {α : Type} {e : Enc α} {B xl yl : Nat} {xs ys : List α} {q : Option Addr} {c2 : Nat} (hu : SliceT P t u sz by_) (hx : E.look x = some (.slice p xl c)) (hy : E.look y = some (.slice q yl c2)) (hxl : xl = xs.length) (hyl : yl = ys.length) (hown : Own w B u e p c xs) (hsl : Sl w.heap e q c2 ys)
    (hsz : e.sz = sz) (hB : B ≤ w.heap.size) (hlen : (xs.length + ys.length) * by_ ≤ 140737488355328) (hmax : xs.length + ys.length ≤ 9223372036854775807)
    (he : effects P dr.1 ⟨d, .call ⟨.builtin .append, #[x, y], #[t, t]⟩, ty, pos, af, g⟩ = true) (hw : writes dr.1 ⟨d, .call ⟨.builtin .append, #[x, y], #[t, t]⟩, ty, pos, af, g⟩ = true) (hd : dstOk n d = true)
    (h : ∀ p' c' w', App w w' B u e p p' c' (xs ++ ys) → G P n ops dr l (E.put d (.slice p' (xs ++ ys).length c')) w' K) : G1 P n ops dr ⟨d, .call ⟨.builtin .append, #[x, y], #[t, t]⟩, ty, pos, af, g⟩ l E w K := by
  subst hxl hyl; exact G1_appendA hu hx hy hown hsl hsz hB hlen hmax he hw hd h
end
/-- what is left after k -/
def leftN (s : ByteArray) (l : List ByteArray) (neg : Bool) (k : Nat) : List ByteArray := if neg = true then skipN s (occ s l - k) l else cutN s k l
theorem leftN_zero {s : ByteArray} {l : List ByteArray} {neg : Bool} : leftN s l neg 0 = l := by
  unfold leftN; split
  · exact skip_all _ (by omega)
  · cases l <;> rfl
theorem leftN_occ {s : ByteArray} {l : List ByteArray} {neg : Bool} {k : Nat} : occ s (leftN s l neg k) = occ s l - k := by
  unfold leftN; split
  · rw [occ_skip]; omega
  · exact occ_cut _ _
theorem cutN_len (s : ByteArray) : ∀ (k : Nat) (l : List ByteArray), (cutN s k l).length ≤ l.length
  | 0, l => by rw [cutN]; exact Nat.le_refl _
  | k + 1, [] => by rw [cutN]; exact Nat.le_refl _
  | k + 1, x :: l => by
    have h1 := cutN_len s k l
    have h2 := cutN_len s (k + 1) l
    rw [cutN]; split <;> simp only [List.length_cons] <;> omega
theorem skipN_len (s : ByteArray) : ∀ (j : Nat) (l : List ByteArray), (skipN s j l).length ≤ l.length
  | 0, [] => by rw [skipN]; exact Nat.le_refl _
  | j + 1, [] => by rw [skipN]; exact Nat.le_refl _
  | 0, x :: l => by have h1 := skipN_len s 0 l; rw [skipN]; split <;> simp only [List.length_cons] <;> omega
  | j + 1, x :: l => by
    have h1 := skipN_len s j l
    have h2 := skipN_len s (j + 1) l
    rw [skipN]; split <;> simp only [List.length_cons] <;> omega
theorem leftN_len {s : ByteArray} {l : List ByteArray} {neg : Bool} {k : Nat} : (leftN s l neg k).length ≤ l.length := by
  unfold leftN; split
  · exact skipN_len _ _ _
  · exact cutN_len _ _ _
/-- where the one to be taken out is, of the first i -/
def AtI (s : ByteArray) (L : List ByteArray) (neg : Bool) (i : Nat) (z : Int) : Prop := (z = -1 ∧ s ∉ L.take i) ∨ ∃ a : Nat, z = a ∧ a < i ∧ L[a]? = some s ∧ (if neg = true then s ∉ (L.take i).drop (a + 1) else s ∉ L.take a)
theorem AtI.zero {s : ByteArray} {L : List ByteArray} {neg : Bool} : AtI s L neg 0 (-1) := .inl ⟨rfl, by simp⟩
theorem AtI.no {s x : ByteArray} {L : List ByteArray} {neg : Bool} {i : Nat} {z : Int} (h : AtI s L neg i z) (hx : L[i]? = some x) (hne : x ≠ s) : AtI s L neg (i + 1) z := by
  have hi := get_lt hx
  rcases h with ⟨h1, h2⟩ | ⟨a, h1, h2, h3, h4⟩
  · refine .inl ⟨h1, ?_⟩
    rw [take_snoc hx]; simp [h2, hne.symm]
  · refine .inr ⟨a, h1, by omega, h3, ?_⟩
    split
    · rename_i hn
      rw [if_pos hn] at h4
      rw [take_snoc hx, List.drop_append_of_le_length (by rw [List.length_take]; omega)]
      simp [h4, hne.symm]
    · rename_i hn
      rwa [if_neg hn] at h4
theorem AtI.last {s : ByteArray} {L : List ByteArray} {i : Nat} (hx : L[i]? = some s) : AtI s L true (i + 1) (i : Int) := by
  refine .inr ⟨i, rfl, by omega, hx, ?_⟩
  rw [if_pos rfl, List.drop_of_length_le (by rw [List.length_take]; omega)]; simp
theorem AtI.first {s : ByteArray} {L : List ByteArray} {i : Nat} {z : Int} (h : AtI s L false i z) (hz : z < 0) (hx : L[i]? = some s) : AtI s L false (i + 1) (i : Int) := by
  rcases h with ⟨h1, h2⟩ | ⟨a, h1, h2, h3, h4⟩
  · exact .inr ⟨i, rfl, by omega, hx, by rw [if_neg (by decide)]; exact h2⟩
  · omega
theorem AtI.keep {s : ByteArray} {L : List ByteArray} {i : Nat} {z : Int} (h : AtI s L false i z) (hz : ¬ z < 0) : AtI s L false (i + 1) z := by
  rcases h with ⟨h1, h2⟩ | ⟨a, h1, h2, h3, h4⟩
  · omega
  · exact .inr ⟨a, h1, by omega, h3, h4⟩
theorem left_step {s : ByteArray} {l : List ByteArray} {neg : Bool} {k a : Nat} (hk : k < occ s l) (h : AtI s (leftN s l neg k) neg (leftN s l neg k).length (a : Int)) :
    (leftN s l neg k).take a ++ (leftN s l neg k).drop (a + 1) = leftN s l neg (k + 1) := by
  rcases h with ⟨h1, h2⟩ | ⟨b, h1, h2, h3, h4⟩
  · omega
  · obtain rfl : a = b := by omega
    unfold leftN at *
    cases neg with
    | true => simp only [if_true, List.take_length] at *; exact skip_step hk h3 h4
    | false => simp only [Bool.false_eq_true, if_false] at *; exact cut_step h3 h4
end Go.V
namespace Go.Proofs.Ytkibkldikjkokaa
open Go.V
attribute [local irreducible] Blk Own hcell IntT SliceT PlainT AggT SizeT StrT FieldT ZeroT EqT ArrT
theorem rremove {p : Option Addr} {c : Nat} {l : List ByteArray} {s : ByteArray} {count : Int} {w : World} (hl : Sl w.heap eStr p c l) (hn : l.length ≤ 500) (hc : fitI count) :
    Ctr Try.prog 33 [.slice p l.length c, .int .i64 count, .string s] w (fun v w' => ∃ p' c', v = .tuple #[.slice p' (dropAt 0 l (remAts l count s)).length c', .int .i64 ((remAts l count s).length : Int)] ∧ Sl w'.heap eStr p' c' (dropAt 0 l (remAts l count s)) ∧ Ext w w') := by
  obtain ⟨neg, hneg⟩ : ∃ neg : Bool, (neg = true ↔ count < 0) := ⟨decide (count < 0), by simp⟩
  have hrem : dropAt 0 l (remAts l count s) = leftN s l neg (remM l count s) ∧ (remAts l count s).length = remM l count s := by
    unfold leftN
    by_cases h0 : count < 0
    · rw [if_pos (hneg.2 h0)]; exact rem_bwd h0
    · rw [if_neg (fun e => h0 (hneg.1 e))]; exact rem_fwd (by omega)
  rw [hrem.1, hrem.2]
  clear hrem
  have ho := occ_le (s := s) l
  unfold fitI at hc
  have hM : (count = 0 ∧ remM l count s = occ s l) ∨ (count ≠ 0 ∧ remM l count s = min count.natAbs (occ s l)) := by
    unfold remM
    by_cases h0 : count = 0
    · exact .inl ⟨h0, if_pos h0⟩
    · exact .inr ⟨h0, if_neg h0⟩
  generalize remM l count s = M at hM ⊢
  have hMo : M ≤ occ s l := by omega
  refine Ctr_of Try.func33 Try.ntmps33 rfl rfl rfl ?_
  repeat' (first | (apply G_on; exact rfl; first | ((first | apply G1_assign | apply G1_move | apply G1_neg); exact rfl; exact rfl) | ((first | apply G1_lss | apply G1_gtr); exact rfl; exact rfl; exact rfl) | (apply G1_eql; exact rfl; exact rfl; exact rfl) | (apply G1_pick_t; exact rfl; exact rfl; exact rfl) | (apply G1_pick_f; exact rfl; exact rfl; exact rfl) | (apply G1_len; exact T.s37; exact rfl; exact rfl) | (apply G1_indexAddrN; exact T.s37; exact rfl; exact rfl; (first | assumption | exact Sl.ok (by assumption) | exact (Own.sl (by assumption)).ok); omega; exact rfl) | (apply G1_indexAddr; exact T.s37; exact rfl; exact rfl; (first | assumption | exact Sl.ok (by assumption) | exact (Own.sl (by assumption)).ok); omega; omega; exact rfl) | (apply G1_loadB; exact T.p9; exact rfl; assumption; exact rfl; exact rfl) | (apply G1_loadBS; exact T.p9; exact rfl; assumption; exact rfl; (first | assumption | (focus (simp [exempt]; omega))); exact rfl) | (apply G1_loadFld; exact T.p9; exact rfl; assumption; assumption; exact rfl; exact rfl; exact rfl) | (apply G1_loadEl1; exact T.p9; exact rfl; assumption; assumption; exact rfl; exact rfl; exact rfl) | (apply G1_seql; exact rfl; exact rfl; exact rfl) | (apply G1_add; exact rfl; exact rfl; omega; omega; exact rfl)) | apply G_nil | apply Post_next | apply W_seq | apply W_region | (apply W_cond_true; exact rfl) | (apply W_cond_false; exact rfl) | (apply W_cond_dec; exact rfl; all_goals (intro h; try (exfalso; omega))) | (apply W_cond; exact rfl; all_goals intro h) | (apply G_off; exact rfl; exact rfl) | ((fail_if_success (apply G_on; exact rfl)); apply G_split_dec; exact rfl; exact rfl; all_goals (intro h; try (exfalso; omega))) | ((fail_if_success (apply G_on; exact rfl)); apply G_split; exact rfl; exact rfl; all_goals intro h) | apply W_skip | apply W_exit | apply W_ret | apply W_block | apply Post_then_ret | apply Post_block_ret | apply Post_then_exit | apply Post_block_exit | (apply Post_block_other; exact rfl) | apply Post_block_normal)
  refine W_loop (ι := Nat × Option Addr × Nat) (fun y => [(0, .slice y.2.1 (leftN s l neg y.1).length y.2.2), (1, .int .i64 count), (2, .string s), (8, .int .i64 (y.1 : Int)), (9, .int .i64 (y.1 : Int))])
    (fun y w' => Ext w w' ∧ y.1 ≤ M ∧ Sl w'.heap eStr y.2.1 y.2.2 (leftN s l neg y.1)) (fun y => M - y.1) (0, p, c) ⟨by simp only; rw [leftN_zero]; rfl, rfl, rfl, rfl, rfl, trivial⟩ ⟨(by repeat first | assumption | exact Ext.rfl' | apply Ext.drew | apply Ext.alloc | refine Ext.trans ?_ (by assumption)), Nat.zero_le _, by simp only; rw [leftN_zero]; exact hl⟩ ?_
  rintro ⟨k, p1, c1⟩ w1 ⟨hx1, hk, hS⟩
  simp only at hk hS
  have hocc := leftN_occ (s := s) (l := l) (neg := neg) (k := k)
  have hLl := leftN_len (s := s) (l := l) (neg := neg) (k := k)
  refine W_keep [(0, .slice p1 (leftN s l neg k).length c1), (1, .int .i64 count), (2, .string s), (8, .int .i64 (k : Int)), (9, .int .i64 (k : Int))] ⟨rfl, rfl, rfl, rfl, rfl, trivial⟩ ?_
  have hwr : IntKind.i64.wrap (0 - count) = (k : Int) ↔ count = -(k : Int) := by
    by_cases h0 : count = -9223372036854775808
    · subst h0
      have : IntKind.i64.wrap (0 - -9223372036854775808) = -9223372036854775808 := by decide
      rw [this]; omega
    · rw [wrap_i64 (by omega) (by omega)]; omega
  by_cases hstop : (0 < count ∧ (k : Int) = count) ∨ (count < 0 ∧ count = -(k : Int))
  · have hkM : k = M := by omega
    have hw2 : count < 0 → (k : Int) = IntKind.i64.wrap (0 - count) := fun h0 => (hwr.2 (by omega)).symm
    repeat' (first | (apply G_on; exact rfl; first | ((first | apply G1_assign | apply G1_move | apply G1_neg); exact rfl; exact rfl) | ((first | apply G1_lss | apply G1_gtr); exact rfl; exact rfl; exact rfl) | (apply G1_eql; exact rfl; exact rfl; exact rfl) | (apply G1_pick_t; exact rfl; exact rfl; exact rfl) | (apply G1_pick_f; exact rfl; exact rfl; exact rfl) | (apply G1_len; exact T.s37; exact rfl; exact rfl) | (apply G1_indexAddrN; exact T.s37; exact rfl; exact rfl; (first | assumption | exact Sl.ok (by assumption) | exact (Own.sl (by assumption)).ok); omega; exact rfl) | (apply G1_indexAddr; exact T.s37; exact rfl; exact rfl; (first | assumption | exact Sl.ok (by assumption) | exact (Own.sl (by assumption)).ok); omega; omega; exact rfl) | (apply G1_loadB; exact T.p9; exact rfl; assumption; exact rfl; exact rfl) | (apply G1_loadBS; exact T.p9; exact rfl; assumption; exact rfl; (first | assumption | (focus (simp [exempt]; omega))); exact rfl) | (apply G1_loadFld; exact T.p9; exact rfl; assumption; assumption; exact rfl; exact rfl; exact rfl) | (apply G1_loadEl1; exact T.p9; exact rfl; assumption; assumption; exact rfl; exact rfl; exact rfl) | (apply G1_seql; exact rfl; exact rfl; exact rfl) | (apply G1_add; exact rfl; exact rfl; omega; omega; exact rfl)) | apply G_nil | apply Post_next | apply W_seq | apply W_region | (apply W_cond_dec; exact rfl; all_goals (intro h; try (exfalso; omega))) | (apply W_cond_true; exact rfl) | (apply W_cond_false; exact rfl) | (apply W_cond_dec; exact rfl; all_goals (intro h; try (exfalso; omega))) | (apply W_cond; exact rfl; all_goals intro h) | (apply G_off; exact rfl; exact rfl) | ((fail_if_success (apply G_on; exact rfl)); apply G_split_dec; exact rfl; exact rfl; all_goals (intro h; try (exfalso; omega))) | ((fail_if_success (apply G_on; exact rfl)); apply G_split; exact rfl; exact rfl; all_goals intro h) | apply W_skip | apply W_exit | apply W_ret | apply W_block | apply Post_then_ret | apply Post_block_ret | apply Post_then_exit | apply Post_block_exit | (apply Post_block_other; exact rfl) | apply Post_block_normal)
    all_goals try (exfalso; omega)
    all_goals
      refine Post_ret Try.results33 ⟨_, _, rfl, rfl, _, _, rfl, rfl, rfl⟩ ?_
      subst hkM
      exact ⟨p1, c1, rfl, hS, (by repeat first | assumption | exact Ext.rfl' | apply Ext.drew | apply Ext.alloc | refine Ext.trans ?_ (by assumption))⟩
  have hw3 : ¬ (count < 0 ∧ (k : Int) = IntKind.i64.wrap (0 - count)) := fun h0 => hstop (.inr ⟨h0.1, hwr.1 h0.2.symm⟩)
  obtain ⟨L, hL⟩ : ∃ L, leftN s l neg k = L := ⟨_, rfl⟩
  have hstep : ∀ a : Nat, k < occ s l → AtI s L neg L.length (a : Int) → L.take a ++ L.drop (a + 1) = leftN s l neg (k + 1) := fun a h1 h2 => by
    rw [← hL] at h2 ⊢; exact left_step h1 h2
  rw [hL] at hS hocc hLl ⊢
  repeat' (first | (apply G_on; exact rfl; first | ((first | apply G1_assign | apply G1_move | apply G1_neg); exact rfl; exact rfl) | ((first | apply G1_lss | apply G1_gtr); exact rfl; exact rfl; exact rfl) | (apply G1_eql; exact rfl; exact rfl; exact rfl) | (apply G1_pick_t; exact rfl; exact rfl; exact rfl) | (apply G1_pick_f; exact rfl; exact rfl; exact rfl) | (apply G1_len; exact T.s37; exact rfl; exact rfl) | (apply G1_indexAddrN; exact T.s37; exact rfl; exact rfl; (first | assumption | exact Sl.ok (by assumption) | exact (Own.sl (by assumption)).ok); omega; exact rfl) | (apply G1_indexAddr; exact T.s37; exact rfl; exact rfl; (first | assumption | exact Sl.ok (by assumption) | exact (Own.sl (by assumption)).ok); omega; omega; exact rfl) | (apply G1_loadB; exact T.p9; exact rfl; assumption; exact rfl; exact rfl) | (apply G1_loadBS; exact T.p9; exact rfl; assumption; exact rfl; (first | assumption | (focus (simp [exempt]; omega))); exact rfl) | (apply G1_loadFld; exact T.p9; exact rfl; assumption; assumption; exact rfl; exact rfl; exact rfl) | (apply G1_loadEl1; exact T.p9; exact rfl; assumption; assumption; exact rfl; exact rfl; exact rfl) | (apply G1_seql; exact rfl; exact rfl; exact rfl) | (apply G1_add; exact rfl; exact rfl; omega; omega; exact rfl)) | apply G_nil | apply Post_next | apply W_seq | apply W_region | (apply W_cond_dec; exact rfl; all_goals (intro h; try (exfalso; omega))) | (apply W_cond_true; exact rfl) | (apply W_cond_false; exact rfl) | (apply W_cond_dec; exact rfl; all_goals (intro h; try (exfalso; omega))) | (apply W_cond; exact rfl; all_goals intro h) | (apply G_off; exact rfl; exact rfl) | ((fail_if_success (apply G_on; exact rfl)); apply G_split_dec; exact rfl; exact rfl; all_goals (intro h; try (exfalso; omega))) | ((fail_if_success (apply G_on; exact rfl)); apply G_split; exact rfl; exact rfl; all_goals intro h) | apply W_skip | apply W_exit | apply W_ret | apply W_block | apply Post_then_ret | apply Post_block_ret | apply Post_then_exit | apply Post_block_exit | (apply Post_block_other; exact rfl) | apply Post_block_normal)
  all_goals try (exfalso; omega)
  all_goals
    refine W_loop (ι := Nat × Int) (fun y => [(0, .slice p1 L.length c1), (1, .int .i64 count), (2, .string s), (8, .int .i64 (k : Int)), (9, .int .i64 (k : Int)), (10, .int .i64 y.2), (11, .int .i64 (y.1 : Int))])
      (fun y w' => Ext w1 w' ∧ y.1 ≤ L.length ∧ AtI s L neg y.1 y.2) (fun y => L.length - y.1) (0, -1) ⟨rfl, rfl, rfl, rfl, rfl, rfl, rfl, trivial⟩ ⟨(by repeat first | assumption | exact Ext.rfl' | apply Ext.drew | apply Ext.alloc | refine Ext.trans ?_ (by assumption)), Nat.zero_le _, AtI.zero⟩ ?_
    rintro ⟨i, z⟩ w2 ⟨hx2, hi, hA⟩
    simp only at hi hA
    refine W_keep [(0, .slice p1 L.length c1), (1, .int .i64 count), (2, .string s), (8, .int .i64 (k : Int)), (9, .int .i64 (k : Int)), (10, .int .i64 z), (11, .int .i64 (i : Int))] ⟨rfl, rfl, rfl, rfl, rfl, rfl, rfl, trivial⟩ ?_
    have hS2 := hS.ext hx2
    by_cases hlt : i < L.length
    · obtain ⟨x, hxi⟩ := get_some hlt
      by_cases hxs : x = s
      · subst hxs
        by_cases h0 : count < 0
        · have hnt := hneg.2 h0
          repeat' (first | (apply G_on; exact rfl; first | ((first | apply G1_assign | apply G1_move | apply G1_neg); exact rfl; exact rfl) | ((first | apply G1_lss | apply G1_gtr); exact rfl; exact rfl; exact rfl) | (apply G1_eql; exact rfl; exact rfl; exact rfl) | (apply G1_pick_t; exact rfl; exact rfl; exact rfl) | (apply G1_pick_f; exact rfl; exact rfl; exact rfl) | (apply G1_len; exact T.s37; exact rfl; exact rfl) | (apply G1_indexAddrN; exact T.s37; exact rfl; exact rfl; (first | assumption | exact Sl.ok (by assumption) | exact (Own.sl (by assumption)).ok); omega; exact rfl) | (apply G1_indexAddr; exact T.s37; exact rfl; exact rfl; (first | assumption | exact Sl.ok (by assumption) | exact (Own.sl (by assumption)).ok); omega; omega; exact rfl) | (apply G1_loadB; exact T.p9; exact rfl; assumption; exact rfl; exact rfl) | (apply G1_loadBS; exact T.p9; exact rfl; assumption; exact rfl; (first | assumption | (focus (simp [exempt]; omega))); exact rfl) | (apply G1_loadFld; exact T.p9; exact rfl; assumption; assumption; exact rfl; exact rfl; exact rfl) | (apply G1_loadEl1; exact T.p9; exact rfl; assumption; assumption; exact rfl; exact rfl; exact rfl) | (apply G1_seql; exact rfl; exact rfl; exact rfl) | (apply G1_add; exact rfl; exact rfl; omega; omega; exact rfl)) | apply G_nil | apply Post_next | apply W_seq | apply W_region | (apply W_cond_true; exact rfl) | (apply W_cond_false; exact rfl) | (apply W_cond_dec; exact rfl; all_goals (intro h; try (exfalso; omega))) | (apply W_cond; exact rfl; all_goals intro h) | (apply G_off; exact rfl; exact rfl) | ((fail_if_success (apply G_on; exact rfl)); apply G_split_dec; exact rfl; exact rfl; all_goals (intro h; try (exfalso; omega))) | ((fail_if_success (apply G_on; exact rfl)); apply G_split; exact rfl; exact rfl; all_goals intro h) | apply W_skip | apply W_exit | apply W_ret | apply W_block | apply Post_then_ret | apply Post_block_ret | apply Post_then_exit | apply Post_block_exit | (apply Post_block_other; exact rfl) | apply Post_block_normal)
          all_goals try (exfalso; omega)
          all_goals try (exact absurd rfl (by assumption))
          all_goals exact Post_round (i + 1, (i : Int)) ⟨rfl, rfl, rfl, rfl, rfl, rfl, rfl, trivial⟩ ⟨(by repeat first | assumption | exact Ext.rfl' | apply Ext.drew | apply Ext.alloc | refine Ext.trans ?_ (by assumption)), by simp only; omega, by rw [hnt]; exact AtI.last hxi⟩ (by simp only; omega)
        · have hnt : neg = false := by cases neg with | false => rfl | true => exact absurd (hneg.1 rfl) h0
          by_cases hz : z < 0
          · repeat' (first | (apply G_on; exact rfl; first | ((first | apply G1_assign | apply G1_move | apply G1_neg); exact rfl; exact rfl) | ((first | apply G1_lss | apply G1_gtr); exact rfl; exact rfl; exact rfl) | (apply G1_eql; exact rfl; exact rfl; exact rfl) | (apply G1_pick_t; exact rfl; exact rfl; exact rfl) | (apply G1_pick_f; exact rfl; exact rfl; exact rfl) | (apply G1_len; exact T.s37; exact rfl; exact rfl) | (apply G1_indexAddrN; exact T.s37; exact rfl; exact rfl; (first | assumption | exact Sl.ok (by assumption) | exact (Own.sl (by assumption)).ok); omega; exact rfl) | (apply G1_indexAddr; exact T.s37; exact rfl; exact rfl; (first | assumption | exact Sl.ok (by assumption) | exact (Own.sl (by assumption)).ok); omega; omega; exact rfl) | (apply G1_loadB; exact T.p9; exact rfl; assumption; exact rfl; exact rfl) | (apply G1_loadBS; exact T.p9; exact rfl; assumption; exact rfl; (first | assumption | (focus (simp [exempt]; omega))); exact rfl) | (apply G1_loadFld; exact T.p9; exact rfl; assumption; assumption; exact rfl; exact rfl; exact rfl) | (apply G1_loadEl1; exact T.p9; exact rfl; assumption; assumption; exact rfl; exact rfl; exact rfl) | (apply G1_seql; exact rfl; exact rfl; exact rfl) | (apply G1_add; exact rfl; exact rfl; omega; omega; exact rfl)) | apply G_nil | apply Post_next | apply W_seq | apply W_region | (apply W_cond_true; exact rfl) | (apply W_cond_false; exact rfl) | (apply W_cond_dec; exact rfl; all_goals (intro h; try (exfalso; omega))) | (apply W_cond; exact rfl; all_goals intro h) | (apply G_off; exact rfl; exact rfl) | ((fail_if_success (apply G_on; exact rfl)); apply G_split_dec; exact rfl; exact rfl; all_goals (intro h; try (exfalso; omega))) | ((fail_if_success (apply G_on; exact rfl)); apply G_split; exact rfl; exact rfl; all_goals intro h) | apply W_skip | apply W_exit | apply W_ret | apply W_block | apply Post_then_ret | apply Post_block_ret | apply Post_then_exit | apply Post_block_exit | (apply Post_block_other; exact rfl) | apply Post_block_normal)
            all_goals try (exfalso; omega)
            all_goals try (exact absurd rfl (by assumption))
            all_goals exact Post_round (i + 1, (i : Int)) ⟨rfl, rfl, rfl, rfl, rfl, rfl, rfl, trivial⟩ ⟨(by repeat first | assumption | exact Ext.rfl' | apply Ext.drew | apply Ext.alloc | refine Ext.trans ?_ (by assumption)), by simp only; omega, by rw [hnt] at hA ⊢; exact AtI.first hA hz hxi⟩ (by simp only; omega)
          · repeat' (first | (apply G_on; exact rfl; first | ((first | apply G1_assign | apply G1_move | apply G1_neg); exact rfl; exact rfl) | ((first | apply G1_lss | apply G1_gtr); exact rfl; exact rfl; exact rfl) | (apply G1_eql; exact rfl; exact rfl; exact rfl) | (apply G1_pick_t; exact rfl; exact rfl; exact rfl) | (apply G1_pick_f; exact rfl; exact rfl; exact rfl) | (apply G1_len; exact T.s37; exact rfl; exact rfl) | (apply G1_indexAddrN; exact T.s37; exact rfl; exact rfl; (first | assumption | exact Sl.ok (by assumption) | exact (Own.sl (by assumption)).ok); omega; exact rfl) | (apply G1_indexAddr; exact T.s37; exact rfl; exact rfl; (first | assumption | exact Sl.ok (by assumption) | exact (Own.sl (by assumption)).ok); omega; omega; exact rfl) | (apply G1_loadB; exact T.p9; exact rfl; assumption; exact rfl; exact rfl) | (apply G1_loadBS; exact T.p9; exact rfl; assumption; exact rfl; (first | assumption | (focus (simp [exempt]; omega))); exact rfl) | (apply G1_loadFld; exact T.p9; exact rfl; assumption; assumption; exact rfl; exact rfl; exact rfl) | (apply G1_loadEl1; exact T.p9; exact rfl; assumption; assumption; exact rfl; exact rfl; exact rfl) | (apply G1_seql; exact rfl; exact rfl; exact rfl) | (apply G1_add; exact rfl; exact rfl; omega; omega; exact rfl)) | apply G_nil | apply Post_next | apply W_seq | apply W_region | (apply W_cond_true; exact rfl) | (apply W_cond_false; exact rfl) | (apply W_cond_dec; exact rfl; all_goals (intro h; try (exfalso; omega))) | (apply W_cond; exact rfl; all_goals intro h) | (apply G_off; exact rfl; exact rfl) | ((fail_if_success (apply G_on; exact rfl)); apply G_split_dec; exact rfl; exact rfl; all_goals (intro h; try (exfalso; omega))) | ((fail_if_success (apply G_on; exact rfl)); apply G_split; exact rfl; exact rfl; all_goals intro h) | apply W_skip | apply W_exit | apply W_ret | apply W_block | apply Post_then_ret | apply Post_block_ret | apply Post_then_exit | apply Post_block_exit | (apply Post_block_other; exact rfl) | apply Post_block_normal)
            all_goals try (exfalso; omega)
            all_goals try (exact absurd rfl (by assumption))
            all_goals exact Post_round (i + 1, z) ⟨rfl, rfl, rfl, rfl, rfl, rfl, rfl, trivial⟩ ⟨(by repeat first | assumption | exact Ext.rfl' | apply Ext.drew | apply Ext.alloc | refine Ext.trans ?_ (by assumption)), by simp only; omega, by rw [hnt] at hA ⊢; exact AtI.keep hA hz⟩ (by simp only; omega)
      · repeat' (first | (apply G_on; exact rfl; first | ((first | apply G1_assign | apply G1_move | apply G1_neg); exact rfl; exact rfl) | ((first | apply G1_lss | apply G1_gtr); exact rfl; exact rfl; exact rfl) | (apply G1_eql; exact rfl; exact rfl; exact rfl) | (apply G1_pick_t; exact rfl; exact rfl; exact rfl) | (apply G1_pick_f; exact rfl; exact rfl; exact rfl) | (apply G1_len; exact T.s37; exact rfl; exact rfl) | (apply G1_indexAddrN; exact T.s37; exact rfl; exact rfl; (first | assumption | exact Sl.ok (by assumption) | exact (Own.sl (by assumption)).ok); omega; exact rfl) | (apply G1_indexAddr; exact T.s37; exact rfl; exact rfl; (first | assumption | exact Sl.ok (by assumption) | exact (Own.sl (by assumption)).ok); omega; omega; exact rfl) | (apply G1_loadB; exact T.p9; exact rfl; assumption; exact rfl; exact rfl) | (apply G1_loadBS; exact T.p9; exact rfl; assumption; exact rfl; (first | assumption | (focus (simp [exempt]; omega))); exact rfl) | (apply G1_loadFld; exact T.p9; exact rfl; assumption; assumption; exact rfl; exact rfl; exact rfl) | (apply G1_loadEl1; exact T.p9; exact rfl; assumption; assumption; exact rfl; exact rfl; exact rfl) | (apply G1_seql; exact rfl; exact rfl; exact rfl) | (apply G1_add; exact rfl; exact rfl; omega; omega; exact rfl)) | apply G_nil | apply Post_next | apply W_seq | apply W_region | (apply W_cond_true; exact rfl) | (apply W_cond_false; exact rfl) | (apply W_cond_dec; exact rfl; all_goals (intro h; try (exfalso; omega))) | (apply W_cond; exact rfl; all_goals intro h) | (apply G_off; exact rfl; exact rfl) | ((fail_if_success (apply G_on; exact rfl)); apply G_split_dec; exact rfl; exact rfl; all_goals (intro h; try (exfalso; omega))) | ((fail_if_success (apply G_on; exact rfl)); apply G_split; exact rfl; exact rfl; all_goals intro h) | apply W_skip | apply W_exit | apply W_ret | apply W_block | apply Post_then_ret | apply Post_block_ret | apply Post_then_exit | apply Post_block_exit | (apply Post_block_other; exact rfl) | apply Post_block_normal)
        all_goals try (exact absurd (by assumption) hxs)
        all_goals exact Post_round (i + 1, z) ⟨rfl, rfl, rfl, rfl, rfl, rfl, rfl, trivial⟩ ⟨(by repeat first | assumption | exact Ext.rfl' | apply Ext.drew | apply Ext.alloc | refine Ext.trans ?_ (by assumption)), by simp only; omega, hA.no hxi hxs⟩ (by simp only; omega)
    · obtain rfl : i = L.length := by omega
      rcases hA with ⟨rfl, hno⟩ | ⟨a, rfl, ha, hxa, hrest⟩
      · have hz := occ_zero.2 hno
        rw [List.take_length] at hz
        obtain rfl : k = M := by omega
        repeat' (first | (apply G_on; exact rfl; first | ((first | apply G1_assign | apply G1_move | apply G1_neg); exact rfl; exact rfl) | ((first | apply G1_lss | apply G1_gtr); exact rfl; exact rfl; exact rfl) | (apply G1_eql; exact rfl; exact rfl; exact rfl) | (apply G1_pick_t; exact rfl; exact rfl; exact rfl) | (apply G1_pick_f; exact rfl; exact rfl; exact rfl) | (apply G1_len; exact T.s37; exact rfl; exact rfl) | (apply G1_indexAddrN; exact T.s37; exact rfl; exact rfl; (first | assumption | exact Sl.ok (by assumption) | exact (Own.sl (by assumption)).ok); omega; exact rfl) | (apply G1_indexAddr; exact T.s37; exact rfl; exact rfl; (first | assumption | exact Sl.ok (by assumption) | exact (Own.sl (by assumption)).ok); omega; omega; exact rfl) | (apply G1_loadB; exact T.p9; exact rfl; assumption; exact rfl; exact rfl) | (apply G1_loadBS; exact T.p9; exact rfl; assumption; exact rfl; (first | assumption | (focus (simp [exempt]; omega))); exact rfl) | (apply G1_loadFld; exact T.p9; exact rfl; assumption; assumption; exact rfl; exact rfl; exact rfl) | (apply G1_loadEl1; exact T.p9; exact rfl; assumption; assumption; exact rfl; exact rfl; exact rfl) | (apply G1_seql; exact rfl; exact rfl; exact rfl) | (apply G1_add; exact rfl; exact rfl; omega; omega; exact rfl)) | apply G_nil | apply Post_next | apply W_seq | apply W_region | (apply W_cond_true; exact rfl) | (apply W_cond_false; exact rfl) | (apply W_cond_dec; exact rfl; all_goals (intro h; try (exfalso; omega))) | (apply W_cond; exact rfl; all_goals intro h) | (apply G_off; exact rfl; exact rfl) | ((fail_if_success (apply G_on; exact rfl)); apply G_split_dec; exact rfl; exact rfl; all_goals (intro h; try (exfalso; omega))) | ((fail_if_success (apply G_on; exact rfl)); apply G_split; exact rfl; exact rfl; all_goals intro h) | apply W_skip | apply W_exit | apply W_ret | apply W_block | apply Post_then_ret | apply Post_block_ret | apply Post_then_exit | apply Post_block_exit | (apply Post_block_other; exact rfl) | apply Post_block_normal)
        all_goals try (exfalso; omega)
        refine Post_ret Try.results33 ⟨_, _, rfl, rfl, _, _, rfl, rfl, rfl⟩ ?_
        rw [hL]
        exact ⟨p1, c1, rfl, hS2, hx1.trans hx2⟩
      · have hko : k < occ s l := by
          have : occ s L ≠ 0 := fun e => occ_zero.1 e (List.mem_of_getElem? hxa)
          omega
        have hst := hstep a hko (.inr ⟨a, rfl, ha, hxa, hrest⟩)
        have hO : Go.V.Own w2 w2.heap.size 9 eStr none 0 ([] : List ByteArray) := Own.nil _ _ _ _
        have hok := hS.ok.le
        have hta : a = (L.take a).length := by rw [List.length_take]; omega
        have hda : L.length - (a + 1) = (L.drop (a + 1)).length := List.length_drop.symm
        repeat' (first | (apply G_on; exact rfl; first | ((first | apply G1_assign | apply G1_move | apply G1_neg); exact rfl; exact rfl) | (apply G1_sliceHiJ (q := a); exact T.s37; exact rfl; exact rfl; exact rfl; omega; exact rfl) | (apply G1_appendB (xs := []) (ys := L.take a) (p := none) (c := 0); exact T.s37; exact rfl; exact rfl; exact rfl; exact hta; exact hO; exact hS2.take a; exact rfl; omega; (simp only [List.length_nil]; omega); (simp only [List.length_nil]; omega); exact rfl; exact rfl; exact rfl; intro p5 c5 w5 ha5) | ((first | apply G1_lss | apply G1_gtr); exact rfl; exact rfl; exact rfl) | (apply G1_eql; exact rfl; exact rfl; exact rfl) | (apply G1_pick_t; exact rfl; exact rfl; exact rfl) | (apply G1_pick_f; exact rfl; exact rfl; exact rfl) | (apply G1_len; exact T.s37; exact rfl; exact rfl) | (apply G1_indexAddrN; exact T.s37; exact rfl; exact rfl; (first | assumption | exact Sl.ok (by assumption) | exact (Own.sl (by assumption)).ok); omega; exact rfl) | (apply G1_indexAddr; exact T.s37; exact rfl; exact rfl; (first | assumption | exact Sl.ok (by assumption) | exact (Own.sl (by assumption)).ok); omega; omega; exact rfl) | (apply G1_loadB; exact T.p9; exact rfl; assumption; exact rfl; exact rfl) | (apply G1_loadBS; exact T.p9; exact rfl; assumption; exact rfl; (first | assumption | (focus (simp [exempt]; omega))); exact rfl) | (apply G1_loadFld; exact T.p9; exact rfl; assumption; assumption; exact rfl; exact rfl; exact rfl) | (apply G1_loadEl1; exact T.p9; exact rfl; assumption; assumption; exact rfl; exact rfl; exact rfl) | (apply G1_seql; exact rfl; exact rfl; exact rfl) | (apply G1_add; exact rfl; exact rfl; omega; omega; exact rfl)) | apply G_nil | apply Post_next | apply W_seq | apply W_region | (apply W_cond_true; exact rfl) | (apply W_cond_false; exact rfl) | (apply W_cond_dec; exact rfl; all_goals (intro h; try (exfalso; omega))) | (apply W_cond; exact rfl; all_goals intro h) | (apply G_off; exact rfl; exact rfl) | ((fail_if_success (apply G_on; exact rfl)); apply G_split_dec; exact rfl; exact rfl; all_goals (intro h; try (exfalso; omega))) | ((fail_if_success (apply G_on; exact rfl)); apply G_split; exact rfl; exact rfl; all_goals intro h) | apply W_skip | apply W_exit | apply W_ret | apply W_block | apply Post_then_ret | apply Post_block_ret | apply Post_then_exit | apply Post_block_exit | (apply Post_block_other; exact rfl) | apply Post_block_normal)
        all_goals try (exfalso; omega)
        rw [List.nil_append] at ha5 ⊢
        have hx5 : Ext w2 w5 := Ext.rfl'.app ha5 (fun k hk => by cases hk)
        have hS5 := hS2.ext hx5
        have ho5 := ha5.own
        have z5 := hx5.size
        repeat' (first | (apply G_on; exact rfl; first | ((first | apply G1_assign | apply G1_move | apply G1_neg); exact rfl; exact rfl) | (apply G1_sliceLoJ (q := a + 1); exact T.s37; exact rfl; exact rfl; omega; exact hS5.ok; omega; exact rfl) | (apply G1_appendB (xs := L.take a) (ys := L.drop (a + 1)); exact T.s37; exact rfl; exact rfl; exact rfl; exact hda; exact ho5; exact hS5.drop (by omega); exact rfl; omega; (simp only [List.length_drop]; omega); (simp only [List.length_drop]; omega); exact rfl; exact rfl; exact rfl; intro p6 c6 w6 ha6) | ((first | apply G1_lss | apply G1_gtr); exact rfl; exact rfl; exact rfl) | (apply G1_eql; exact rfl; exact rfl; exact rfl) | (apply G1_pick_t; exact rfl; exact rfl; exact rfl) | (apply G1_pick_f; exact rfl; exact rfl; exact rfl) | (apply G1_len; exact T.s37; exact rfl; exact rfl) | (apply G1_indexAddrN; exact T.s37; exact rfl; exact rfl; (first | assumption | exact Sl.ok (by assumption) | exact (Own.sl (by assumption)).ok); omega; exact rfl) | (apply G1_indexAddr; exact T.s37; exact rfl; exact rfl; (first | assumption | exact Sl.ok (by assumption) | exact (Own.sl (by assumption)).ok); omega; omega; exact rfl) | (apply G1_loadB; exact T.p9; exact rfl; assumption; exact rfl; exact rfl) | (apply G1_loadBS; exact T.p9; exact rfl; assumption; exact rfl; (first | assumption | (focus (simp [exempt]; omega))); exact rfl) | (apply G1_loadFld; exact T.p9; exact rfl; assumption; assumption; exact rfl; exact rfl; exact rfl) | (apply G1_loadEl1; exact T.p9; exact rfl; assumption; assumption; exact rfl; exact rfl; exact rfl) | (apply G1_seql; exact rfl; exact rfl; exact rfl) | (apply G1_add; exact rfl; exact rfl; omega; omega; exact rfl)) | apply G_nil | apply Post_next | apply W_seq | apply W_region | (apply W_cond_true; exact rfl) | (apply W_cond_false; exact rfl) | (apply W_cond_dec; exact rfl; all_goals (intro h; try (exfalso; omega))) | (apply W_cond; exact rfl; all_goals intro h) | (apply G_off; exact rfl; exact rfl) | ((fail_if_success (apply G_on; exact rfl)); apply G_split_dec; exact rfl; exact rfl; all_goals (intro h; try (exfalso; omega))) | ((fail_if_success (apply G_on; exact rfl)); apply G_split; exact rfl; exact rfl; all_goals intro h) | apply W_skip | apply W_exit | apply W_ret | apply W_block | apply Post_then_ret | apply Post_block_ret | apply Post_then_exit | apply Post_block_exit | (apply Post_block_other; exact rfl) | apply Post_block_normal)
        rw [hst] at ha6 ⊢
        exact Post_round (k + 1, p6, c6) ⟨rfl, rfl, rfl, rfl, rfl, trivial⟩ ⟨(hx1.trans hx2).trans (hx5.app ha6 (fun k hk => (ho5.ge k hk).1)), by simp only; omega, ha6.own.sl⟩ (by simp only; omega)
end Go.Proofs.Ytkibkldikjkokaa
