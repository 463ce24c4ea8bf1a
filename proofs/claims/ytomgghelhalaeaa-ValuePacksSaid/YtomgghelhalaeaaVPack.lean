/- Pack: putNumber, putText. -/
import Derived.Test.YtomgghelhalaeaaVSmall
namespace Go.Proofs.Ytomgghelhalaeaa
open Go.V
attribute [local irreducible] Blk Own hcell IntT SliceT PlainT AggT SizeT StrT FieldT ZeroT EqT ArrT

/-- the octet number i (from the lowest on) of n -/
def octet (n : Int) (i : Nat) : UInt8 := UInt8.ofNat ((n / 2 ^ (8 * i)) % 256).toNat
/-- the octets of n, from number j + r - 1 down to number j -/
def octets (n : Int) : Nat → List UInt8
  | 0 => []
  | k + 1 => octet n k :: octets n k
theorem octets_len (n : Int) : ∀ k, (octets n k).length = k
  | 0 => rfl
  | k + 1 => by simp [octets, octets_len n k]

theorem octet_val (n : Int) (i : Nat) (hi : i ≤ 7) : IntKind.u8.wrap (n.fdiv (2 ^ min ((8 : Int) * i).toNat IntKind.i64.bits)) = ((octet n i).toNat : Int) := by
  have e1 : min ((8 : Int) * i).toNat IntKind.i64.bits = 8 * i := by
    have : IntKind.i64.bits = 64 := rfl
    rw [this]; omega
  rw [e1, IntKind.wrap_u8, Int.fdiv_eq_ediv_of_nonneg _ (Int.le_of_lt (Int.pow_pos (by omega)))]
  unfold octet
  have h1 : 0 ≤ n / 2 ^ (8 * i) % 256 := Int.emod_nonneg _ (by omega)
  have h2 : n / 2 ^ (8 * i) % 256 < 256 := Int.emod_lt_of_pos _ (by omega)
  generalize n / 2 ^ (8 * i) % 256 = q at *
  have : (UInt8.ofNat q.toNat).toNat = q.toNat := by simp; omega
  rw [this]; omega

theorem putNumber_spec {n : Int} {k : Nat} {B : Nat} {p : Option Addr} {c : Nat} {bs : List UInt8} {w : World} (hk : k ≤ 8) (hB : B ≤ w.heap.size) (ho : Own w B 5 eByte p c bs) (hl : bs.length ≤ 100000000) :
    Ctr Try.prog 70 [.slice p bs.length c, .int .i64 n, .int .i64 k] w (fun v w' => ∃ p' c', v = .slice p' (bs ++ octets n k).length c' ∧ App w w' B 5 eByte p p' c' (bs ++ octets n k)) := by
  refine Ctr_of Try.func70 Try.ntmps70 rfl rfl rfl ?_
  repeat' (first | (apply G_on; exact rfl; first | ((first | apply G1_assign | apply G1_move); exact rfl; exact rfl) | (apply G1_sub; exact rfl; exact rfl; omega; omega; exact rfl) | (apply G1_geq; exact rfl; exact rfl; exact rfl) | (apply G1_mul; exact rfl; exact rfl; omega; omega; exact rfl) | (apply G1_shr; exact rfl; exact rfl; omega; exact rfl) | (apply G1_convu8; exact rfl; exact T.i3; exact T.i5; omega; omega; exact rfl)) | apply G_nil | apply Post_next | apply W_seq | apply W_region | (apply W_cond_true; exact rfl) | (apply W_cond_false; exact rfl) | (apply W_cond_dec; exact rfl; all_goals (intro h; try (exfalso; omega))) | (apply W_cond; exact rfl; all_goals intro h) | (apply G_off; exact rfl; exact rfl) | ((fail_if_success (apply G_on; exact rfl)); apply G_split_dec; exact rfl; exact rfl; all_goals (intro h; try (exfalso; omega))) | ((fail_if_success (apply G_on; exact rfl)); apply G_split; exact rfl; exact rfl; all_goals intro h) | apply W_skip | apply W_exit | apply W_ret | apply W_block | apply Post_then_ret | apply Post_block_ret | apply Post_then_exit | apply Post_block_exit | (apply Post_block_other; exact rfl) | apply Post_block_normal)
  refine W_loop (ι := Nat × Option Addr × Nat × List UInt8) (fun x => [(0, .slice x.2.1 x.2.2.2.length x.2.2.1), (1, .int .i64 n), (7, .int .i64 ((x.1 : Int) - 1))])
    (fun x w' => App w w' B 5 eByte p x.2.1 x.2.2.1 x.2.2.2 ∧ x.1 ≤ k ∧ x.2.2.2.length ≤ bs.length + (k - x.1) ∧ x.2.2.2 ++ octets n x.1 = bs ++ octets n k) (fun x => x.1) (k, p, c, bs) ⟨rfl, rfl, rfl, trivial⟩ ⟨App.refl ho hB, Nat.le_refl _, Nat.le_add_right _ _, rfl⟩ ?_
  rintro ⟨j, q, d, cs⟩ w1 ⟨ha, hj, hcl, he⟩
  simp only at ha hj hcl he
  by_cases hz : j = 0
  · subst hz
    repeat' (first | (apply G_on; exact rfl; first | ((first | apply G1_assign | apply G1_move); exact rfl; exact rfl) | (apply G1_sub; exact rfl; exact rfl; omega; omega; exact rfl) | (apply G1_geq; exact rfl; exact rfl; exact rfl) | (apply G1_mul; exact rfl; exact rfl; omega; omega; exact rfl) | (apply G1_shr; exact rfl; exact rfl; omega; exact rfl) | (apply G1_convu8; exact rfl; exact T.i3; exact T.i5; omega; omega; exact rfl)) | apply G_nil | apply Post_next | apply W_seq | apply W_region | (apply W_cond_true; exact rfl) | (apply W_cond_false; exact rfl) | (apply W_cond_dec; exact rfl; all_goals (intro h; try (exfalso; omega))) | (apply W_cond; exact rfl; all_goals intro h) | (apply G_off; exact rfl; exact rfl) | ((fail_if_success (apply G_on; exact rfl)); apply G_split_dec; exact rfl; exact rfl; all_goals (intro h; try (exfalso; omega))) | ((fail_if_success (apply G_on; exact rfl)); apply G_split; exact rfl; exact rfl; all_goals intro h) | apply W_skip | apply W_exit | apply W_ret | apply W_block | apply Post_then_ret | apply Post_block_ret | apply Post_then_exit | apply Post_block_exit | (apply Post_block_other; exact rfl) | apply Post_block_normal)
    refine Post_ret Try.results70 ⟨_, _, rfl, rfl, rfl⟩ ?_
    have e0 : cs = bs ++ octets n k := by simpa [octets] using he
    subst e0
    exact ⟨q, d, rfl, ha⟩
  · obtain ⟨i, rfl⟩ : ∃ i, j = i + 1 := ⟨j - 1, by omega⟩
    refine W_keep [(0, .slice q cs.length d), (1, .int .i64 n), (7, .int .i64 (i : Int))] ⟨rfl, rfl, by show some _ = some _; congr 2; omega, trivial⟩ ?_
    repeat' (first | (apply G_on; exact rfl; first | ((first | apply G1_assign | apply G1_move); exact rfl; exact rfl) | (apply G1_convE; exact rfl; exact T.i3; exact T.i5; exact octet_val n i (by omega); exact rfl) | (apply G1_sub; exact rfl; exact rfl; omega; omega; exact rfl) | (apply G1_geq; exact rfl; exact rfl; exact rfl) | (apply G1_mul; exact rfl; exact rfl; omega; omega; exact rfl) | (apply G1_shr; exact rfl; exact rfl; omega; exact rfl) | (apply G1_convu8; exact rfl; exact T.i3; exact T.i5; omega; omega; exact rfl)) | apply G_nil | apply Post_next | apply W_seq | apply W_region | (apply W_cond_true; exact rfl) | (apply W_cond_false; exact rfl) | (apply W_cond_dec; exact rfl; all_goals (intro h; try (exfalso; omega))) | (apply W_cond; exact rfl; all_goals intro h) | (apply G_off; exact rfl; exact rfl) | ((fail_if_success (apply G_on; exact rfl)); apply G_split_dec; exact rfl; exact rfl; all_goals (intro h; try (exfalso; omega))) | ((fail_if_success (apply G_on; exact rfl)); apply G_split; exact rfl; exact rfl; all_goals intro h) | apply W_skip | apply W_exit | apply W_ret | apply W_block | apply Post_then_ret | apply Post_block_ret | apply Post_then_exit | apply Post_block_exit | (apply Post_block_other; exact rfl) | apply Post_block_normal)
    apply G_on; exact rfl
    apply G1_build1 eByte (octet n i); exact T.s38; exact rfl; exact rfl; exact rfl; decide; exact rfl; exact rfl
    intro p2 w2 hp2 hs2 _ hx2 hz2
    have ha2 := ha.ext hx2
    repeat' (first | (apply G_on; exact rfl; first | ((first | apply G1_assign | apply G1_move); exact rfl; exact rfl) | (apply G1_appendA; exact T.s38; exact rfl; exact rfl; exact ha2.own; exact hs2; exact rfl; exact ha2.base; (simp; omega); (simp; omega); exact rfl; exact rfl; exact rfl; intro p3 c3 w3 ha3) | (apply G1_sub; exact rfl; exact rfl; omega; omega; exact rfl) | (apply G1_geq; exact rfl; exact rfl; exact rfl) | (apply G1_mul; exact rfl; exact rfl; omega; omega; exact rfl) | (apply G1_shr; exact rfl; exact rfl; omega; exact rfl) | (apply G1_convu8; exact rfl; exact T.i3; exact T.i5; omega; omega; exact rfl)) | apply G_nil | apply Post_next | apply W_seq | apply W_region | (apply W_cond_true; exact rfl) | (apply W_cond_false; exact rfl) | (apply W_cond_dec; exact rfl; all_goals (intro h; try (exfalso; omega))) | (apply W_cond; exact rfl; all_goals intro h) | (apply G_off; exact rfl; exact rfl) | ((fail_if_success (apply G_on; exact rfl)); apply G_split_dec; exact rfl; exact rfl; all_goals (intro h; try (exfalso; omega))) | ((fail_if_success (apply G_on; exact rfl)); apply G_split; exact rfl; exact rfl; all_goals intro h) | apply W_skip | apply W_exit | apply W_ret | apply W_block | apply Post_then_ret | apply Post_block_ret | apply Post_then_exit | apply Post_block_exit | (apply Post_block_other; exact rfl) | apply Post_block_normal)
    have ha4 := ha2.trans ha3
    refine Post_round (i, p3, c3, cs ++ [octet n i]) ⟨rfl, rfl, rfl, trivial⟩ ⟨ha4, by simp only; omega, by simp; omega, ?_⟩ (by simp)
    rw [← he]; simp [octets]

theorem putText_spec {s : ByteArray} {B : Nat} {p : Option Addr} {c : Nat} {bs : List UInt8} {w : World} (hB : B ≤ w.heap.size) (ho : Own w B 5 eByte p c bs) (hl : bs.length ≤ 90000000) (hs : s.size ≤ 1000000) :
    Ctr Try.prog 69 [.slice p bs.length c, .string s] w (fun v w' => ∃ p' c', v = .slice p' (bs ++ (octets s.size 2 ++ s.data.toList)).length c' ∧ App w w' B 5 eByte p p' c' (bs ++ (octets s.size 2 ++ s.data.toList))) := by
  refine Ctr_of Try.func69 Try.ntmps69 rfl rfl rfl ?_
  repeat' (first | (apply G_on; exact rfl; first | ((first | apply G1_assign | apply G1_move); exact rfl; exact rfl) | (apply G1_slen; exact T.str9; exact rfl; exact rfl)) | apply G_nil | apply Post_next | apply W_seq | apply W_region | (apply W_cond_true; exact rfl) | (apply W_cond_false; exact rfl) | (apply W_cond_dec; exact rfl; all_goals (intro h; try (exfalso; omega))) | (apply W_cond; exact rfl; all_goals intro h) | (apply G_off; exact rfl; exact rfl) | ((fail_if_success (apply G_on; exact rfl)); apply G_split_dec; exact rfl; exact rfl; all_goals (intro h; try (exfalso; omega))) | ((fail_if_success (apply G_on; exact rfl)); apply G_split; exact rfl; exact rfl; all_goals intro h) | apply W_skip | apply W_exit | apply W_ret | apply W_block | apply Post_then_ret | apply Post_block_ret | apply Post_then_exit | apply Post_block_exit | (apply Post_block_other; exact rfl) | apply Post_block_normal)
  apply G_on; exact rfl; apply G1_call; exact rfl; exact rfl; exact rfl; exact putNumber_spec (k := 2) (by omega) hB ho (by omega); rintro _ w1 ⟨q, d, rfl, ha⟩; refine ⟨(by first | exact .inl rfl | exact .inr (by assumption)), ?_⟩
  have e1 : (bs ++ octets s.size 2).length = bs.length + 2 := by rw [List.length_append, octets_len]
  repeat' (first | (apply G_on; exact rfl; first | ((first | apply G1_assign | apply G1_move); exact rfl; exact rfl) | (apply G1_appendStr; exact T.s38; exact T.str9; exact rfl; exact rfl; exact ha.own; exact ha.base; (rw [e1]; omega); (rw [e1]; omega); exact rfl; exact rfl; exact rfl; intro p3 c3 w3 ha3) | (apply G1_slen; exact T.str9; exact rfl; exact rfl)) | apply G_nil | apply Post_next | apply W_seq | apply W_region | (apply W_cond_true; exact rfl) | (apply W_cond_false; exact rfl) | (apply W_cond_dec; exact rfl; all_goals (intro h; try (exfalso; omega))) | (apply W_cond; exact rfl; all_goals intro h) | (apply G_off; exact rfl; exact rfl) | ((fail_if_success (apply G_on; exact rfl)); apply G_split_dec; exact rfl; exact rfl; all_goals (intro h; try (exfalso; omega))) | ((fail_if_success (apply G_on; exact rfl)); apply G_split; exact rfl; exact rfl; all_goals intro h) | apply W_skip | apply W_exit | apply W_ret | apply W_block | apply Post_then_ret | apply Post_block_ret | apply Post_then_exit | apply Post_block_exit | (apply Post_block_other; exact rfl) | apply Post_block_normal)
  refine Post_ret Try.results69 ⟨_, _, rfl, rfl, rfl⟩ ?_
  rw [← List.append_assoc]
  exact ⟨p3, c3, rfl, ha.trans ha3⟩
end Go.Proofs.Ytomgghelhalaeaa
