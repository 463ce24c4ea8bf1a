/- Texts of this proof laid together: RefNum, StrPiece, RefParse, RepHid, RepList, RepRef, RepRight. -/
import Derived.Test.YtikjnmpijflnaaaDoorVM2
/- The document's Print and Parse. -/
namespace Go.V
section
variable {P : Program} {n : Nat} {ops : Array Oper} {dr : Nat × List Nat} {l : List Oper} {E : Env} {w : World} {K : Env → World → Prop}
variable {d : Option Nat} {ty : TypeId} {pos : String} {af : Array Edge} {g : Option (Nat × Bool)} {x y : Operand} {k k' : IntKind} {t t' u : TypeId} {i j r : Int}
theorem G1_addE (hx : E.look x = some (.int k i)) (hy : E.look y = some (.int k j)) (hr : k.wrap (i + j) = r) (hd : dstOk n d = true)
    (h : G P n ops dr l (E.put d (.int k r)) w K) : G1 P n ops dr ⟨d, .binOp .add t x y t', ty, pos, af, g⟩ l E w K := by subst hr; exact G1_addw hx hy hd h
theorem G1_mulE (hx : E.look x = some (.int k i)) (hy : E.look y = some (.int k j)) (hr : k.wrap (i * j) = r) (hd : dstOk n d = true)
    (h : G P n ops dr l (E.put d (.int k r)) w K) : G1 P n ops dr ⟨d, .binOp .mul t x y t', ty, pos, af, g⟩ l E w K := by subst hr; exact G1_mulw hx hy hd h
theorem G1_quoE (hx : E.look x = some (.int k i)) (hy : E.look y = some (.int k j)) (h0 : j ≠ 0) (hr : k.wrap (i.tdiv j) = r) (hd : dstOk n d = true)
    (h : G P n ops dr l (E.put d (.int k r)) w K) : G1 P n ops dr ⟨d, .binOp .quo t x y t', ty, pos, af, g⟩ l E w K := by subst hr; exact G1_quo hx hy h0 hd h
theorem G1_negE (hx : E.look x = some (.int k i)) (hr : k.wrap (0 - i) = r) (hd : dstOk n d = true)
    (h : G P n ops dr l (E.put d (.int k r)) w K) : G1 P n ops dr ⟨d, .unOp .neg t x, ty, pos, af, g⟩ l E w K := by subst hr; exact G1_neg hx hd h
end
end Go.V
namespace Go.Proofs.YtikjnmpijflnaaaDoor
open Go.V
attribute [local irreducible] Blk Own hcell IntT SliceT PlainT AggT SizeT StrT FieldT ZeroT EqT ArrT
theorem ba_list (a b : ByteArray) : (a ++ b).data.toList = a.data.toList ++ b.data.toList := by
  rw [ByteArray.data_append, Array.toList_append]
theorem ba_ext {a b : ByteArray} (h : a.data.toList = b.data.toList) : a = b := by
  cases a; cases b; simp at h; rw [h]
theorem mkStr_L (l : List UInt8) : (mkStr l).data.toList = l := by simp [mkStr]

theorem rprint_spec {n : Int} {w : World} (hn : fit64 n) : Ctr Tryd.prog 56 [.int .i64 n] w (fun r w' => r = .string (itoaB n) ∧ Ext w w') := by
  unfold fit64 at hn
  obtain ⟨u0, hu0⟩ : ∃ u : Nat, u = n.natAbs := ⟨_, rfl⟩
  refine Ctr_of Tryd.func56 Tryd.ntmps56 rfl rfl rfl ?_
  by_cases hneg : n < 0
  · have hw1 : IntKind.u64.wrap n = n + 18446744073709551616 := by simp only [IntKind.wrap_u64]; omega
    have hw2 : IntKind.u64.wrap (0 - (n + 18446744073709551616)) = (u0 : Int) := by simp only [IntKind.wrap_u64]; omega
    repeat' (first | (apply G_on; exact rfl; first | ((first | apply G1_assign | apply G1_move | apply G1_neg); exact rfl; exact rfl) | (apply G1_convE (j := n + 18446744073709551616); exact rfl; exact T.i3; exact T.i105; exact hw1; exact rfl) | (apply G1_lss; exact rfl; exact rfl; exact rfl)) | apply G_nil | apply Post_next | apply W_seq | apply W_region | (apply W_cond_dec; exact rfl; all_goals (intro h; try (exfalso; omega))) | apply W_block)
    refine W_loop (ι := Nat × ByteArray) (fun y => [(3, .int .u64 (y.1 : Int)), (4, .string ⟨#[45]⟩), (5, .string y.2)]) (fun y w' => Ext w w' ∧ y.1 ≤ u0 ∧ Lib.decDigits y.1 ++ y.2.data.toList = Lib.decDigits u0) (fun y => y.1) (u0, ⟨#[]⟩) ⟨(by first | exact congrArg (fun z => some (Value.int .u64 z)) hw2 | exact rfl), rfl, rfl, trivial⟩ ⟨(by repeat first | assumption | exact Ext.rfl' | apply Ext.drew | apply Ext.alloc | refine Ext.trans ?_ (by assumption)), Nat.le_refl _, List.append_nil _⟩ ?_
    rintro ⟨u, A⟩ w2 ⟨hx, hu, hdec⟩
    simp only at hu hdec
    have hA : A.size ≤ 19 := by
      have h1 := congrArg List.length hdec
      have h2 := nDigits_le 18 u0 (by omega)
      rw [List.length_append, Lib.decDigits_length, Lib.decDigits_length, Array.length_toList] at h1
      show A.data.size ≤ 19
      omega
    have hm1 : ∀ c, (mkStr [c]).size = 1 := fun _ => rfl
    have hm2 := hm1 (UInt8.ofNat (48 + u % 10))
    refine W_keep [(3, .int .u64 (u : Int)), (4, .string ⟨#[45]⟩), (5, .string A)] ⟨rfl, rfl, rfl, trivial⟩ ?_
    obtain ⟨c, hc⟩ : ∃ c : UInt8, c = UInt8.ofNat (48 + u % 10) := ⟨_, rfl⟩
    rw [← hc] at hm2
    have hct : c.toNat = 48 + u % 10 := by rw [hc, UInt8.toNat_ofNat']; omega
    have q1 : (u : Int).tmod 10 = ((u % 10 : Nat) : Int) := by rw [Int.tmod_eq_emod_of_nonneg (by omega)]; push_cast; rfl
    have q2 : IntKind.u64.wrap (48 + ((u % 10 : Nat) : Int)) = ((48 + u % 10 : Nat) : Int) := by simp only [IntKind.wrap_u64]; omega
    have q3 : IntKind.u8.wrap ((48 + u % 10 : Nat) : Int) = (c.toNat : Int) := by rw [hct]; exact wrap_u8 (by omega) (by omega)
    have q4 : IntKind.u64.wrap ((u : Int).tdiv 10) = ((u / 10 : Nat) : Int) := by rw [Int.tdiv_eq_ediv_of_nonneg (by omega)]; simp only [IntKind.wrap_u64]; omega
    have hms : (mkStr [c] ++ A).size = 1 + A.size := by rw [ByteArray.size_append, hm2]
    have hsg : ((⟨#[45]⟩ : ByteArray)).size ≤ 1 := by decide
    have hcl : (mkStr [c] ++ A).data.toList = c :: A.data.toList := by rw [ba_list, mkStr_L]; rfl
    repeat' (first | (apply G_on; exact rfl; first | ((first | apply G1_assign | apply G1_move); exact rfl; exact rfl) | (apply G1_remE (r := ((u % 10 : Nat) : Int)); exact rfl; exact rfl; decide; exact q1; exact rfl) | (apply G1_addE (r := ((48 + u % 10 : Nat) : Int)); exact rfl; exact rfl; exact q2; exact rfl) | (apply G1_convE (j := (c.toNat : Int)); exact rfl; exact T.i105; exact T.i5; exact q3; exact rfl) | (apply G1_build1 eByte c; exact T.s28; exact rfl; exact rfl; exact rfl; decide; exact rfl; exact rfl; intro p3 w3 hp3 hs3 _ hx3 hz3) | (apply G1_toString (bs := [c]); exact T.s28; exact T.i5; exact T.str9; exact rfl; exact hs3; exact rfl) | (apply G1_quoE (r := ((u / 10 : Nat) : Int)); exact rfl; exact rfl; decide; exact q4; exact rfl) | (apply G1_sadd; exact rfl; exact rfl; omega; exact rfl) | (apply G1_eql; exact rfl; exact rfl; exact rfl)) | apply G_nil | apply Post_next | apply W_seq | apply W_region | (apply W_cond_dec; exact rfl; all_goals (intro h; try (exfalso; omega))) | apply W_skip | apply W_ret | apply W_block | apply Post_then_ret | apply Post_block_ret | apply Post_block_normal)
    · have hu10 : u < 10 := by omega
      rw [Lib.decDigits_one hu10] at hdec
      have e0 : c :: A.data.toList = Lib.decDigits u0 := by rw [← hdec, hc, show u % 10 = u by omega]; rfl
      have e1 : (⟨#[45]⟩ : ByteArray) ++ (mkStr [c] ++ A) = itoaB n := by
        apply ba_ext
        rw [ba_list, hcl, itoaB_list, e0, hu0]
        unfold Lib.itoa
        rw [if_pos hneg]; rfl
      refine Post_ret Tryd.results56 ⟨_, _, rfl, rfl, rfl⟩ ?_
      exact ⟨congrArg Value.string e1, (by repeat first | assumption | exact Ext.rfl' | apply Ext.drew | apply Ext.alloc | refine Ext.trans ?_ (by assumption))⟩
    · have hu10 : ¬ u < 10 := by omega
      rw [Lib.decDigits, dif_neg hu10, List.append_assoc] at hdec
      exact Post_round (u / 10, mkStr [c] ++ A) ⟨rfl, rfl, rfl, trivial⟩ ⟨(by repeat first | assumption | exact Ext.rfl' | apply Ext.drew | apply Ext.alloc | refine Ext.trans ?_ (by assumption)), by simp only; omega, by simp only; rw [hcl, hc]; exact hdec⟩ (by simp only; omega)
  · have hw1 : IntKind.u64.wrap n = (u0 : Int) := by simp only [IntKind.wrap_u64]; omega
    have hw2 : (u0 : Int) = (u0 : Int) := rfl
    repeat' (first | (apply G_on; exact rfl; first | ((first | apply G1_assign | apply G1_move); exact rfl; exact rfl) | (apply G1_convE (j := (u0 : Int)); exact rfl; exact T.i3; exact T.i105; exact hw1; exact rfl) | (apply G1_lss; exact rfl; exact rfl; exact rfl)) | apply G_nil | apply Post_next | apply W_seq | apply W_region | (apply W_cond_dec; exact rfl; all_goals (intro h; try (exfalso; omega))) | apply W_skip | apply W_block)
    refine W_loop (ι := Nat × ByteArray) (fun y => [(3, .int .u64 (y.1 : Int)), (4, .string ⟨#[]⟩), (5, .string y.2)]) (fun y w' => Ext w w' ∧ y.1 ≤ u0 ∧ Lib.decDigits y.1 ++ y.2.data.toList = Lib.decDigits u0) (fun y => y.1) (u0, ⟨#[]⟩) ⟨(by first | exact congrArg (fun z => some (Value.int .u64 z)) hw2 | exact rfl), rfl, rfl, trivial⟩ ⟨(by repeat first | assumption | exact Ext.rfl' | apply Ext.drew | apply Ext.alloc | refine Ext.trans ?_ (by assumption)), Nat.le_refl _, List.append_nil _⟩ ?_
    rintro ⟨u, A⟩ w2 ⟨hx, hu, hdec⟩
    simp only at hu hdec
    have hA : A.size ≤ 19 := by
      have h1 := congrArg List.length hdec
      have h2 := nDigits_le 18 u0 (by omega)
      rw [List.length_append, Lib.decDigits_length, Lib.decDigits_length, Array.length_toList] at h1
      show A.data.size ≤ 19
      omega
    have hm1 : ∀ c, (mkStr [c]).size = 1 := fun _ => rfl
    have hm2 := hm1 (UInt8.ofNat (48 + u % 10))
    refine W_keep [(3, .int .u64 (u : Int)), (4, .string ⟨#[]⟩), (5, .string A)] ⟨rfl, rfl, rfl, trivial⟩ ?_
    obtain ⟨c, hc⟩ : ∃ c : UInt8, c = UInt8.ofNat (48 + u % 10) := ⟨_, rfl⟩
    rw [← hc] at hm2
    have hct : c.toNat = 48 + u % 10 := by rw [hc, UInt8.toNat_ofNat']; omega
    have q1 : (u : Int).tmod 10 = ((u % 10 : Nat) : Int) := by rw [Int.tmod_eq_emod_of_nonneg (by omega)]; push_cast; rfl
    have q2 : IntKind.u64.wrap (48 + ((u % 10 : Nat) : Int)) = ((48 + u % 10 : Nat) : Int) := by simp only [IntKind.wrap_u64]; omega
    have q3 : IntKind.u8.wrap ((48 + u % 10 : Nat) : Int) = (c.toNat : Int) := by rw [hct]; exact wrap_u8 (by omega) (by omega)
    have q4 : IntKind.u64.wrap ((u : Int).tdiv 10) = ((u / 10 : Nat) : Int) := by rw [Int.tdiv_eq_ediv_of_nonneg (by omega)]; simp only [IntKind.wrap_u64]; omega
    have hms : (mkStr [c] ++ A).size = 1 + A.size := by rw [ByteArray.size_append, hm2]
    have hsg : ((⟨#[]⟩ : ByteArray)).size ≤ 1 := by decide
    have hcl : (mkStr [c] ++ A).data.toList = c :: A.data.toList := by rw [ba_list, mkStr_L]; rfl
    repeat' (first | (apply G_on; exact rfl; first | ((first | apply G1_assign | apply G1_move); exact rfl; exact rfl) | (apply G1_remE (r := ((u % 10 : Nat) : Int)); exact rfl; exact rfl; decide; exact q1; exact rfl) | (apply G1_addE (r := ((48 + u % 10 : Nat) : Int)); exact rfl; exact rfl; exact q2; exact rfl) | (apply G1_convE (j := (c.toNat : Int)); exact rfl; exact T.i105; exact T.i5; exact q3; exact rfl) | (apply G1_build1 eByte c; exact T.s28; exact rfl; exact rfl; exact rfl; decide; exact rfl; exact rfl; intro p3 w3 hp3 hs3 _ hx3 hz3) | (apply G1_toString (bs := [c]); exact T.s28; exact T.i5; exact T.str9; exact rfl; exact hs3; exact rfl) | (apply G1_quoE (r := ((u / 10 : Nat) : Int)); exact rfl; exact rfl; decide; exact q4; exact rfl) | (apply G1_sadd; exact rfl; exact rfl; omega; exact rfl) | (apply G1_eql; exact rfl; exact rfl; exact rfl)) | apply G_nil | apply Post_next | apply W_seq | apply W_region | (apply W_cond_dec; exact rfl; all_goals (intro h; try (exfalso; omega))) | apply W_skip | apply W_ret | apply W_block | apply Post_then_ret | apply Post_block_ret | apply Post_block_normal)
    · have hu10 : u < 10 := by omega
      rw [Lib.decDigits_one hu10] at hdec
      have e0 : c :: A.data.toList = Lib.decDigits u0 := by rw [← hdec, hc, show u % 10 = u by omega]; rfl
      have e1 : (⟨#[]⟩ : ByteArray) ++ (mkStr [c] ++ A) = itoaB n := by
        apply ba_ext
        rw [ba_list, hcl, itoaB_list, e0, hu0]
        unfold Lib.itoa
        rw [if_neg hneg, show n.natAbs = n.toNat by omega]; rfl
      refine Post_ret Tryd.results56 ⟨_, _, rfl, rfl, rfl⟩ ?_
      exact ⟨congrArg Value.string e1, (by repeat first | assumption | exact Ext.rfl' | apply Ext.drew | apply Ext.alloc | refine Ext.trans ?_ (by assumption))⟩
    · have hu10 : ¬ u < 10 := by omega
      rw [Lib.decDigits, dif_neg hu10, List.append_assoc] at hdec
      exact Post_round (u / 10, mkStr [c] ++ A) ⟨rfl, rfl, rfl, trivial⟩ ⟨(by repeat first | assumption | exact Ext.rfl' | apply Ext.drew | apply Ext.alloc | refine Ext.trans ?_ (by assumption)), by simp only; omega, by simp only; rw [hcl, hc]; exact hdec⟩ (by simp only; omega)
end Go.Proofs.YtikjnmpijflnaaaDoor

/- Pieces of strings, as lists. -/
namespace Go.V
def onesF (f : UInt8 → Nat) (l : List UInt8) : Nat := (l.map f).sum
theorem onesF_app (f : UInt8 → Nat) (a b : List UInt8) : onesF f (a ++ b) = onesF f a + onesF f b := by simp [onesF]
theorem onesF_le {f : UInt8 → Nat} (hf : ∀ c, f c ≤ 255) : ∀ l : List UInt8, onesF f l ≤ 255 * l.length
  | [] => by simp [onesF]
  | c :: l => by
    have := onesF_le hf l
    have h2 := hf c
    simp only [onesF, List.map_cons, List.sum_cons, List.length_cons] at this ⊢
    omega
theorem list_bget' {s : ByteArray} {k : Nat} (h : k < s.size) : s.data.toList[k]? = some (bget s k) := by
  have h' : k < s.data.toList.length := by rw [Array.length_toList]; exact h
  have h2 : k < s.data.size := h
  rw [List.getElem?_eq_getElem h', bget_list, List.getD_eq_getElem?_getD, List.getElem?_eq_getElem h']
  rfl
/-- what is between -/
def cutL (s : ByteArray) (x y : Nat) : List UInt8 := (s.data.toList.drop x).take (y - x)
theorem cutL_succ {s : ByteArray} {x y : Nat} (h1 : x ≤ y) (h2 : y < s.size) : cutL s x (y + 1) = cutL s x y ++ [bget s y] := by
  have hc := list_bget' h2
  unfold cutL
  rw [show y + 1 - x = (y - x) + 1 by omega, List.take_add_one, List.getElem?_drop, show x + (y - x) = y by omega, hc]
  rfl
theorem cutL_self (s : ByteArray) (x : Nat) : cutL s x x = [] := by unfold cutL; simp
theorem cutL_cat (s : ByteArray) {k : Nat} (hk : k ≤ s.size) : cutL s 0 k ++ cutL s k s.size = cutL s 0 s.size := by
  have hl : s.data.toList.length = s.size := by rw [Array.length_toList]; rfl
  unfold cutL
  rw [Nat.sub_zero, Nat.sub_zero, List.drop_zero, List.take_of_length_le (show (s.data.toList.drop k).length ≤ s.size - k by rw [List.length_drop, hl]; exact Nat.le_refl _), List.take_append_drop, List.take_of_length_le (by rw [hl]; exact Nat.le_refl _)]
end Go.V

/- The document's Parse. -/
namespace Go.Proofs.YtikjnmpijflnaaaDoor
open Go.V
attribute [local irreducible] Blk Own hcell IntT SliceT PlainT AggT SizeT StrT FieldT ZeroT EqT ArrT
theorem valN_app (acc : Nat) (a b : List UInt8) : valN acc (a ++ b) = valN (valN acc a) b := by unfold valN; rw [List.foldl_append]

theorem rparse_no {s : ByteArray} {w : World} (hno : ∀ n, ¬ IsNum s n) : Ctr Tryd.prog 61 [.string s] w (fun r w' => r = .tuple #[.int .i64 0, .bool false] ∧ Ext w w') := by
  have hfit : ∀ i, fit64 (IntKind.i64.wrap i) := fun i => by unfold fit64; simp only [IntKind.wrap_i64]; omega
  have hne : ∀ i, ¬ itoaB (IntKind.i64.wrap i) = s := fun i he => hno _ ⟨hfit i, he⟩
  refine Ctr_of Tryd.func61 Tryd.ntmps61 rfl rfl rfl ?_
  by_cases hl : s.size = 0 ∨ 20 < s.size
  · repeat' (first | (apply G_on; exact rfl; first | ((first | apply G1_assign | apply G1_move); exact rfl; exact rfl) | (apply G1_slen; exact T.str9; exact rfl; exact rfl) | ((first | apply G1_eql | apply G1_gtr); exact rfl; exact rfl; exact rfl) | (apply G1_pick_t; exact rfl; exact rfl; exact rfl) | (apply G1_pick_f; exact rfl; exact rfl; exact rfl)) | apply G_nil | apply Post_next | apply W_seq | apply W_region | (apply W_cond_true; exact rfl) | (apply W_cond_dec; exact rfl; all_goals (intro h; try (exfalso; omega))) | (apply G_off; exact rfl; exact rfl) | ((fail_if_success (apply G_on; exact rfl)); apply G_split_dec; exact rfl; exact rfl; all_goals (intro h; try (exfalso; omega))) | apply W_ret | apply Post_then_ret)
    all_goals
      refine Post_ret Tryd.results61 ⟨_, _, rfl, rfl, _, _, rfl, rfl, rfl⟩ ?_
      exact ⟨rfl, (by repeat first | assumption | exact Ext.rfl' | apply Ext.drew | apply Ext.alloc | refine Ext.trans ?_ (by assumption))⟩
  · repeat' (first | (apply G_on; exact rfl; first | ((first | apply G1_assign | apply G1_move); exact rfl; exact rfl) | (apply G1_slen; exact T.str9; exact rfl; exact rfl) | ((first | apply G1_eql | apply G1_gtr); exact rfl; exact rfl; exact rfl) | (apply G1_pick_f; exact rfl; exact rfl; exact rfl) | (apply G1_sindex; exact T.str9; exact rfl; exact rfl; omega; omega; exact rfl)) | apply G_nil | apply Post_next | apply W_seq | apply W_region | (apply W_cond_dec; exact rfl; all_goals (intro h; try (exfalso; omega))) | ((fail_if_success (apply G_on; exact rfl)); apply G_split_dec; exact rfl; exact rfl; all_goals (intro h; try (exfalso; omega))) | apply W_skip | apply W_block)
    · refine W_loop (ι := Nat × Int) (fun y => [(0, .string s), (4, .int .i64 1), (5, .int .u64 y.2), (6, .int .i64 (y.1 : Int))]) (fun y w' => Ext w w' ∧ y.1 ≤ s.size) (fun y => s.size - y.1) (1, 0) ⟨rfl, rfl, rfl, rfl, trivial⟩ ⟨(by repeat first | assumption | exact Ext.rfl' | apply Ext.drew | apply Ext.alloc | refine Ext.trans ?_ (by assumption)), by simp only; omega⟩ ?_
      rintro ⟨i, U⟩ w2 ⟨hx, hi⟩
      simp only at hi
      refine W_keep [(0, .string s), (4, .int .i64 1), (5, .int .u64 U), (6, .int .i64 (i : Int))] ⟨rfl, rfl, rfl, rfl, trivial⟩ ?_
      by_cases hlt : i < s.size
      · repeat' (first | (apply G_on; exact rfl; first | ((first | apply G1_assign | apply G1_move); exact rfl; exact rfl) | (apply G1_sindexJ (q := i); exact T.str9; exact rfl; exact rfl; exact rfl; omega; exact rfl) | (apply G1_mulw (k := .u64); exact rfl; exact rfl; exact rfl) | (apply G1_addw (k := .u64); exact rfl; exact rfl; exact rfl) | (apply G1_subw (k := .u8); exact rfl; exact rfl; exact rfl) | (apply G1_convE; exact rfl; exact T.i5; exact T.i105; exact rfl; exact rfl) | (apply G1_slen; exact T.str9; exact rfl; exact rfl) | ((first | apply G1_gtr | apply G1_lss); exact rfl; exact rfl; exact rfl) | (apply G1_pick_t; exact rfl; exact rfl; exact rfl) | (apply G1_pick_f; exact rfl; exact rfl; exact rfl) | (apply G1_add; exact rfl; exact rfl; omega; omega; exact rfl)) | apply G_nil | apply Post_next | apply W_seq | apply W_region | (apply W_cond_true; exact rfl) | (apply W_cond_dec; exact rfl; all_goals (intro h; try (exfalso; omega))) | (apply G_off; exact rfl; exact rfl) | ((fail_if_success (apply G_on; exact rfl)); apply G_split_dec; exact rfl; exact rfl; all_goals (intro h; try (exfalso; omega))) | apply W_skip | apply W_ret | apply W_block | apply Post_then_ret | apply Post_block_ret | apply Post_block_normal)
        all_goals first
          | exact Post_round (i + 1, _) ⟨rfl, rfl, rfl, rfl, trivial⟩ ⟨(by repeat first | assumption | exact Ext.rfl' | apply Ext.drew | apply Ext.alloc | refine Ext.trans ?_ (by assumption)), by simp only; omega⟩ (by simp only; omega)
          | (refine Post_ret Tryd.results61 ⟨_, _, rfl, rfl, _, _, rfl, rfl, rfl⟩ ?_
             exact ⟨rfl, (by repeat first | assumption | exact Ext.rfl' | apply Ext.drew | apply Ext.alloc | refine Ext.trans ?_ (by assumption))⟩)
      · repeat' (first | (apply G_on; exact rfl; first | ((first | apply G1_assign | apply G1_move | apply G1_neg); exact rfl; exact rfl) | (apply G1_convE; exact rfl; exact T.i105; exact T.i3; exact rfl; exact rfl) | (apply G1_call (f := 56); exact rfl; exact rfl; exact rfl; exact rprint_spec (hfit _); rintro _ w3 ⟨rfl, hx3⟩; refine ⟨(by first | exact .inl rfl | exact .inr (by assumption)), ?_⟩) | (apply G1_slen; exact T.str9; exact rfl; exact rfl) | ((first | apply G1_eql | apply G1_lss | apply G1_sneq); exact rfl; exact rfl; exact rfl)) | apply G_nil | apply Post_next | apply W_seq | apply W_region | (apply W_cond_true; exact rfl) | (apply W_cond_dec; exact rfl; all_goals (intro h; try (exfalso; omega))) | apply W_skip | apply W_exit | apply W_ret | apply Post_then_ret | apply Post_then_exit | apply Post_block_exit)
        all_goals try exact absurd (by first | assumption | (simpa using h)) (hne _)
        all_goals
          refine Post_ret Tryd.results61 ⟨_, _, rfl, rfl, _, _, rfl, rfl, rfl⟩ ?_
          exact ⟨rfl, (by repeat first | assumption | exact Ext.rfl' | apply Ext.drew | apply Ext.alloc | refine Ext.trans ?_ (by assumption))⟩
    · refine W_loop (ι := Nat × Int) (fun y => [(0, .string s), (4, .int .i64 0), (5, .int .u64 y.2), (6, .int .i64 (y.1 : Int))]) (fun y w' => Ext w w' ∧ y.1 ≤ s.size) (fun y => s.size - y.1) (0, 0) ⟨rfl, rfl, rfl, rfl, trivial⟩ ⟨(by repeat first | assumption | exact Ext.rfl' | apply Ext.drew | apply Ext.alloc | refine Ext.trans ?_ (by assumption)), by simp only; omega⟩ ?_
      rintro ⟨i, U⟩ w2 ⟨hx, hi⟩
      simp only at hi
      refine W_keep [(0, .string s), (4, .int .i64 0), (5, .int .u64 U), (6, .int .i64 (i : Int))] ⟨rfl, rfl, rfl, rfl, trivial⟩ ?_
      by_cases hlt : i < s.size
      · repeat' (first | (apply G_on; exact rfl; first | ((first | apply G1_assign | apply G1_move); exact rfl; exact rfl) | (apply G1_sindexJ (q := i); exact T.str9; exact rfl; exact rfl; exact rfl; omega; exact rfl) | (apply G1_mulw (k := .u64); exact rfl; exact rfl; exact rfl) | (apply G1_addw (k := .u64); exact rfl; exact rfl; exact rfl) | (apply G1_subw (k := .u8); exact rfl; exact rfl; exact rfl) | (apply G1_convE; exact rfl; exact T.i5; exact T.i105; exact rfl; exact rfl) | (apply G1_slen; exact T.str9; exact rfl; exact rfl) | ((first | apply G1_gtr | apply G1_lss); exact rfl; exact rfl; exact rfl) | (apply G1_pick_t; exact rfl; exact rfl; exact rfl) | (apply G1_pick_f; exact rfl; exact rfl; exact rfl) | (apply G1_add; exact rfl; exact rfl; omega; omega; exact rfl)) | apply G_nil | apply Post_next | apply W_seq | apply W_region | (apply W_cond_true; exact rfl) | (apply W_cond_dec; exact rfl; all_goals (intro h; try (exfalso; omega))) | (apply G_off; exact rfl; exact rfl) | ((fail_if_success (apply G_on; exact rfl)); apply G_split_dec; exact rfl; exact rfl; all_goals (intro h; try (exfalso; omega))) | apply W_skip | apply W_ret | apply W_block | apply Post_then_ret | apply Post_block_ret | apply Post_block_normal)
        all_goals first
          | exact Post_round (i + 1, _) ⟨rfl, rfl, rfl, rfl, trivial⟩ ⟨(by repeat first | assumption | exact Ext.rfl' | apply Ext.drew | apply Ext.alloc | refine Ext.trans ?_ (by assumption)), by simp only; omega⟩ (by simp only; omega)
          | (refine Post_ret Tryd.results61 ⟨_, _, rfl, rfl, _, _, rfl, rfl, rfl⟩ ?_
             exact ⟨rfl, (by repeat first | assumption | exact Ext.rfl' | apply Ext.drew | apply Ext.alloc | refine Ext.trans ?_ (by assumption))⟩)
      · repeat' (first | (apply G_on; exact rfl; first | ((first | apply G1_assign | apply G1_move); exact rfl; exact rfl) | (apply G1_convE; exact rfl; exact T.i105; exact T.i3; exact rfl; exact rfl) | (apply G1_call (f := 56); exact rfl; exact rfl; exact rfl; exact rprint_spec (hfit _); rintro _ w3 ⟨rfl, hx3⟩; refine ⟨(by first | exact .inl rfl | exact .inr (by assumption)), ?_⟩) | (apply G1_slen; exact T.str9; exact rfl; exact rfl) | ((first | apply G1_eql | apply G1_lss | apply G1_sneq); exact rfl; exact rfl; exact rfl)) | apply G_nil | apply Post_next | apply W_seq | apply W_region | (apply W_cond_false; exact rfl) | (apply W_cond_dec; exact rfl; all_goals (intro h; try (exfalso; omega))) | apply W_skip | apply W_exit | apply W_ret | apply Post_then_ret | apply Post_then_exit | apply Post_block_exit)
        all_goals try exact absurd (by first | assumption | (simpa using h)) (hne _)
        all_goals
          refine Post_ret Tryd.results61 ⟨_, _, rfl, rfl, _, _, rfl, rfl, rfl⟩ ?_
          exact ⟨rfl, (by repeat first | assumption | exact Ext.rfl' | apply Ext.drew | apply Ext.alloc | refine Ext.trans ?_ (by assumption))⟩

theorem rparse_yes {s : ByteArray} {m : Int} {w : World} (h0 : IsNum s m) : Ctr Tryd.prog 61 [.string s] w (fun r w' => r = .tuple #[.int .i64 m, .bool true] ∧ Ext w w') := by
  obtain ⟨hf, hs⟩ := h0
  have hsl : s.data.toList = Lib.itoa m := by rw [← hs, itoaB_list]
  have hsz := itoa_size hf
  rw [hs] at hsz
  have hlen : s.data.toList.length = s.size := by rw [Array.length_toList]; rfl
  obtain ⟨D, hDe⟩ : ∃ D, D = Lib.decDigits m.natAbs := ⟨_, rfl⟩
  have hval : valN 0 D = m.natAbs := by rw [hDe, val_dec]
  have hdig : ∀ c ∈ D, 48 ≤ c.toNat ∧ c.toNat ≤ 57 := fun c hc => by rw [hDe] at hc; exact ⟨dec_ge _ c hc, dec_le _ c hc⟩
  have hpos : 0 < D.length := by rw [hDe, Lib.decDigits_length]; have := Lib.nDigits_pos m.natAbs; omega
  unfold fit64 at hf
  by_cases hneg : m < 0
  · have hsD : s.data.toList = 45 :: D := by rw [hsl, hDe]; unfold Lib.itoa; rw [if_pos hneg]
    have hD : s.data.toList.drop 1 = D := by rw [hsD]; rfl
    have hDl : s.size = 1 + D.length := by rw [← hlen, hsD, List.length_cons]; omega
    have hb0 : bget s 0 = 45 := by
      have h1 := list_bget' (s := s) (k := 0) (by omega)
      rw [hsD] at h1
      injection h1 with h1; exact h1.symm
    have hz1 : IntKind.i64.wrap (IntKind.u64.wrap (0 - (m.natAbs : Int))) = m := by simp only [IntKind.wrap_i64, IntKind.wrap_u64]; omega
    have hz2 := hz1
    refine Ctr_of Tryd.func61 Tryd.ntmps61 rfl rfl rfl ?_
    repeat' (first | (apply G_on; exact rfl; first | ((first | apply G1_assign | apply G1_move); exact rfl; exact rfl) | (apply G1_sindexJ (q := 0); exact T.str9; exact rfl; exact rfl; exact rfl; omega; exact rfl; rw [hb0]) | (apply G1_slen; exact T.str9; exact rfl; exact rfl) | ((first | apply G1_eql | apply G1_gtr); exact rfl; exact rfl; exact rfl) | (apply G1_pick_f; exact rfl; exact rfl; exact rfl)) | apply G_nil | apply Post_next | apply W_seq | apply W_region | (apply W_cond_true; exact rfl) | (apply W_cond_dec; exact rfl; all_goals (intro h; try (exfalso; omega))) | ((fail_if_success (apply G_on; exact rfl)); apply G_split_dec; exact rfl; exact rfl; all_goals (intro h; try (exfalso; omega))) | apply W_skip | apply W_block)
    refine W_loop (ι := Nat) (fun j => [(0, .string s), (4, .int .i64 1), (5, .int .u64 (valN 0 (D.take j) : Int)), (6, .int .i64 ((1 + j : Nat) : Int))]) (fun j w' => Ext w w' ∧ j ≤ D.length) (fun j => D.length - j) 0 ⟨rfl, rfl, rfl, rfl, trivial⟩ ⟨(by repeat first | assumption | exact Ext.rfl' | apply Ext.drew | apply Ext.alloc | refine Ext.trans ?_ (by assumption)), Nat.zero_le _⟩ ?_
    rintro j w2 ⟨hx, hj⟩
    by_cases hlt : j < D.length
    · obtain ⟨c, hc⟩ := get_some hlt
      have hbc : bget s (1 + j) = c := by
        have h1 := list_bget' (s := s) (k := 1 + j) (by omega)
        rw [← List.getElem?_drop, hD, hc] at h1
        injection h1 with h1; exact h1.symm
      have hd := hdig c (List.mem_of_getElem? hc)
      have hst : D.take (j + 1) = D.take j ++ [c] := by rw [List.take_add_one, hc]; rfl
      have hv1 : valN 0 (D.take (j + 1)) = valN 0 (D.take j) * 10 + (c.toNat - 48) := by rw [hst, valN_snoc]
      have hv2 : valN 0 (D.take (j + 1)) ≤ m.natAbs := by
        have h3 := valN_ge (D.drop (j + 1)) (valN 0 (D.take (j + 1)))
        rw [← valN_app, List.take_append_drop, hval] at h3; exact h3
      have q1 : IntKind.u64.wrap ((valN 0 (D.take j) : Int) * 10) = ((valN 0 (D.take j) * 10 : Nat) : Int) := by simp only [IntKind.wrap_u64]; omega
      have q2 : IntKind.u8.wrap ((c.toNat : Int) - 48) = ((c.toNat - 48 : Nat) : Int) := by rw [wrap_u8 (by omega) (by omega)]; omega
      have q3 : IntKind.u64.wrap ((c.toNat - 48 : Nat) : Int) = ((c.toNat - 48 : Nat) : Int) := wrap_u64 (by omega) (by omega)
      have q4 : IntKind.u64.wrap (((valN 0 (D.take j) * 10 : Nat) : Int) + ((c.toNat - 48 : Nat) : Int)) = (valN 0 (D.take (j + 1)) : Int) := by rw [hv1] at hv2 ⊢; simp only [IntKind.wrap_u64]; omega
      repeat' (first | (apply G_on; exact rfl; first | ((first | apply G1_assign | apply G1_move); exact rfl; exact rfl) | (apply G1_sindexJ (q := 1 + j); exact T.str9; exact rfl; exact rfl; exact rfl; omega; exact rfl; rw [hbc]) | (apply G1_mulE (k := .u64) (r := ((valN 0 (D.take j) * 10 : Nat) : Int)); exact rfl; exact rfl; exact q1; exact rfl) | (apply G1_addE (k := .u64) (r := (valN 0 (D.take (j + 1)) : Int)); exact rfl; exact rfl; exact q4; exact rfl) | (apply G1_convE (j := ((c.toNat - 48 : Nat) : Int)); exact rfl; exact T.i5; exact T.i105; exact q3; exact rfl) | (refine G1_subw (k := .u8) rfl rfl rfl ?_; rw [q2]) | (apply G1_slen; exact T.str9; exact rfl; exact rfl) | ((first | apply G1_gtr | apply G1_lss); exact rfl; exact rfl; exact rfl) | (apply G1_pick_f; exact rfl; exact rfl; exact rfl) | (apply G1_add; exact rfl; exact rfl; omega; omega; exact rfl)) | apply G_nil | apply Post_next | apply W_seq | apply W_region | (apply W_cond_dec; exact rfl; all_goals (intro h; try (exfalso; omega))) | ((fail_if_success (apply G_on; exact rfl)); apply G_split_dec; exact rfl; exact rfl; all_goals (intro h; try (exfalso; omega))) | apply W_skip | apply W_block | apply Post_block_normal)
      all_goals exact Post_round (j + 1) ⟨rfl, rfl, rfl, rfl, trivial⟩ ⟨(by repeat first | assumption | exact Ext.rfl' | apply Ext.drew | apply Ext.alloc | refine Ext.trans ?_ (by assumption)), by omega⟩ (by omega)
    · have hjD : D.take j = D := List.take_of_length_le (by omega)
      rw [hjD, hval]
      repeat' (first | (apply G_on; exact rfl; first | ((first | apply G1_assign | apply G1_move | apply G1_neg); exact rfl; exact rfl) | (apply G1_convE (j := m); exact rfl; exact T.i105; exact T.i3; (first | exact hz1 | exact hz2); exact rfl) | (apply G1_convE; exact rfl; exact T.i105; exact T.i3; exact rfl; exact rfl) | (apply G1_call (f := 56); exact rfl; exact rfl; exact rfl; exact rprint_spec hf; rintro _ w3 ⟨rfl, hx3⟩; refine ⟨(by first | exact .inl rfl | exact .inr (by assumption)), ?_⟩) | (apply G1_slen; exact T.str9; exact rfl; exact rfl) | ((first | apply G1_eql | apply G1_lss | apply G1_sneq); exact rfl; exact rfl; exact rfl)) | apply G_nil | apply Post_next | apply W_seq | apply W_region | (apply W_cond_true; exact rfl) | (apply W_cond_dec; exact rfl; all_goals (intro h; try (exfalso; omega))) | apply W_skip | apply W_exit | apply W_ret | apply Post_then_ret | apply Post_then_exit | apply Post_block_exit)
      all_goals try contradiction
      all_goals
        refine Post_ret Tryd.results61 ⟨_, _, rfl, rfl, _, _, rfl, rfl, rfl⟩ ?_
        exact ⟨rfl, (by repeat first | assumption | exact Ext.rfl' | apply Ext.drew | apply Ext.alloc | refine Ext.trans ?_ (by assumption))⟩
  · have hsD : s.data.toList = D := by rw [hsl, hDe]; unfold Lib.itoa; rw [if_neg hneg]; congr 1; omega
    have hD : s.data.toList.drop 0 = D := by rw [hsD]; rfl
    have hDl : s.size = 0 + D.length := by rw [← hlen, hsD]; omega
    obtain ⟨c0, hc0⟩ := get_some hpos
    have hb0 : bget s 0 = c0 := by
      have h1 := list_bget' (s := s) (k := 0) (by omega)
      rw [hsD, hc0] at h1
      injection h1 with h1; exact h1.symm
    have hd0 := hdig c0 (List.mem_of_getElem? hc0)
    have hz1 : IntKind.i64.wrap (m.natAbs : Int) = m := by simp only [IntKind.wrap_i64]; omega
    have hz2 := hz1
    refine Ctr_of Tryd.func61 Tryd.ntmps61 rfl rfl rfl ?_
    repeat' (first | (apply G_on; exact rfl; first | ((first | apply G1_assign | apply G1_move); exact rfl; exact rfl) | (apply G1_sindexJ (q := 0); exact T.str9; exact rfl; exact rfl; exact rfl; omega; exact rfl; rw [hb0]) | (apply G1_slen; exact T.str9; exact rfl; exact rfl) | ((first | apply G1_eql | apply G1_gtr); exact rfl; exact rfl; exact rfl) | (apply G1_pick_f; exact rfl; exact rfl; exact rfl)) | apply G_nil | apply Post_next | apply W_seq | apply W_region | (apply W_cond_dec; exact rfl; all_goals (intro h; try (exfalso; omega))) | ((fail_if_success (apply G_on; exact rfl)); apply G_split_dec; exact rfl; exact rfl; all_goals (intro h; try (exfalso; omega))) | apply W_skip | apply W_block)
    refine W_loop (ι := Nat) (fun j => [(0, .string s), (4, .int .i64 0), (5, .int .u64 (valN 0 (D.take j) : Int)), (6, .int .i64 ((0 + j : Nat) : Int))]) (fun j w' => Ext w w' ∧ j ≤ D.length) (fun j => D.length - j) 0 ⟨rfl, rfl, rfl, rfl, trivial⟩ ⟨(by repeat first | assumption | exact Ext.rfl' | apply Ext.drew | apply Ext.alloc | refine Ext.trans ?_ (by assumption)), Nat.zero_le _⟩ ?_
    rintro j w2 ⟨hx, hj⟩
    by_cases hlt : j < D.length
    · obtain ⟨c, hc⟩ := get_some hlt
      have hbc : bget s (0 + j) = c := by
        have h1 := list_bget' (s := s) (k := 0 + j) (by omega)
        rw [← List.getElem?_drop, hD, hc] at h1
        injection h1 with h1; exact h1.symm
      have hd := hdig c (List.mem_of_getElem? hc)
      have hst : D.take (j + 1) = D.take j ++ [c] := by rw [List.take_add_one, hc]; rfl
      have hv1 : valN 0 (D.take (j + 1)) = valN 0 (D.take j) * 10 + (c.toNat - 48) := by rw [hst, valN_snoc]
      have hv2 : valN 0 (D.take (j + 1)) ≤ m.natAbs := by
        have h3 := valN_ge (D.drop (j + 1)) (valN 0 (D.take (j + 1)))
        rw [← valN_app, List.take_append_drop, hval] at h3; exact h3
      have q1 : IntKind.u64.wrap ((valN 0 (D.take j) : Int) * 10) = ((valN 0 (D.take j) * 10 : Nat) : Int) := by simp only [IntKind.wrap_u64]; omega
      have q2 : IntKind.u8.wrap ((c.toNat : Int) - 48) = ((c.toNat - 48 : Nat) : Int) := by rw [wrap_u8 (by omega) (by omega)]; omega
      have q3 : IntKind.u64.wrap ((c.toNat - 48 : Nat) : Int) = ((c.toNat - 48 : Nat) : Int) := wrap_u64 (by omega) (by omega)
      have q4 : IntKind.u64.wrap (((valN 0 (D.take j) * 10 : Nat) : Int) + ((c.toNat - 48 : Nat) : Int)) = (valN 0 (D.take (j + 1)) : Int) := by rw [hv1] at hv2 ⊢; simp only [IntKind.wrap_u64]; omega
      repeat' (first | (apply G_on; exact rfl; first | ((first | apply G1_assign | apply G1_move); exact rfl; exact rfl) | (apply G1_sindexJ (q := 0 + j); exact T.str9; exact rfl; exact rfl; exact rfl; omega; exact rfl; rw [hbc]) | (apply G1_mulE (k := .u64) (r := ((valN 0 (D.take j) * 10 : Nat) : Int)); exact rfl; exact rfl; exact q1; exact rfl) | (apply G1_addE (k := .u64) (r := (valN 0 (D.take (j + 1)) : Int)); exact rfl; exact rfl; exact q4; exact rfl) | (apply G1_convE (j := ((c.toNat - 48 : Nat) : Int)); exact rfl; exact T.i5; exact T.i105; exact q3; exact rfl) | (refine G1_subw (k := .u8) rfl rfl rfl ?_; rw [q2]) | (apply G1_slen; exact T.str9; exact rfl; exact rfl) | ((first | apply G1_gtr | apply G1_lss); exact rfl; exact rfl; exact rfl) | (apply G1_pick_f; exact rfl; exact rfl; exact rfl) | (apply G1_add; exact rfl; exact rfl; omega; omega; exact rfl)) | apply G_nil | apply Post_next | apply W_seq | apply W_region | (apply W_cond_dec; exact rfl; all_goals (intro h; try (exfalso; omega))) | ((fail_if_success (apply G_on; exact rfl)); apply G_split_dec; exact rfl; exact rfl; all_goals (intro h; try (exfalso; omega))) | apply W_skip | apply W_block | apply Post_block_normal)
      all_goals exact Post_round (j + 1) ⟨rfl, rfl, rfl, rfl, trivial⟩ ⟨(by repeat first | assumption | exact Ext.rfl' | apply Ext.drew | apply Ext.alloc | refine Ext.trans ?_ (by assumption)), by omega⟩ (by omega)
    · have hjD : D.take j = D := List.take_of_length_le (by omega)
      rw [hjD, hval]
      repeat' (first | (apply G_on; exact rfl; first | ((first | apply G1_assign | apply G1_move); exact rfl; exact rfl) | (apply G1_convE (j := m); exact rfl; exact T.i105; exact T.i3; (first | exact hz1 | exact hz2); exact rfl) | (apply G1_call (f := 56); exact rfl; exact rfl; exact rfl; exact rprint_spec hf; rintro _ w3 ⟨rfl, hx3⟩; refine ⟨(by first | exact .inl rfl | exact .inr (by assumption)), ?_⟩) | (apply G1_slen; exact T.str9; exact rfl; exact rfl) | ((first | apply G1_eql | apply G1_lss | apply G1_sneq); exact rfl; exact rfl; exact rfl)) | apply G_nil | apply Post_next | apply W_seq | apply W_region | (apply W_cond_false; exact rfl) | (apply W_cond_dec; exact rfl; all_goals (intro h; try (exfalso; omega))) | apply W_skip | apply W_exit | apply W_ret | apply Post_then_ret | apply Post_then_exit | apply Post_block_exit)
      all_goals try contradiction
      all_goals
        refine Post_ret Tryd.results61 ⟨_, _, rfl, rfl, _, _, rfl, rfl, rfl⟩ ?_
        exact ⟨rfl, (by repeat first | assumption | exact Ext.rfl' | apply Ext.drew | apply Ext.alloc | refine Ext.trans ?_ (by assumption))⟩
end Go.Proofs.YtikjnmpijflnaaaDoor

/- Replies in memory where some blocks are not looked at. -/
namespace Go.V
/-- an object of which no part is a string's -/
def plainO : Obj → Bool
  | .cells _ _ (0, 0) => true
  | _ => false
open Classical in
/-- the memory without the blocks of S, and without those that a string may share -/
noncomputable def veil (S : Nat → Prop) (H : Array Obj) : Array Obj := H.mapIdx (fun q o => if S q ∨ plainO o = false then .cells #[] 0 (0, 0) else o)
theorem hcell_veil {S : Nat → Prop} {H : Array Obj} {a : Addr} {v : Value} : hcell (veil S H) a = some v ↔ ¬ S a.block ∧ (∃ o, H[a.block]? = some o ∧ plainO o = true) ∧ hcell H a = some v := by
  unfold hcell veil
  rw [Array.getElem?_mapIdx]
  cases h : H[a.block]? with
  | none => simp
  | some o =>
    simp only [Option.map_some]
    by_cases hs : S a.block ∨ plainO o = false
    · rw [if_pos hs]
      rcases hs with hs | hs
      · simp [hs]
      · simp [hs]
    · rw [if_neg hs]
      have h1 : ¬ S a.block := fun h => hs (.inl h)
      have h2 : plainO o = true := by
        cases e : plainO o with
        | true => rfl
        | false => exact absurd (.inr e) hs
      simp [h1, h2]
theorem Sl.cells {α : Type} {e : Enc α} {H H' : Array Obj} {p : Option Addr} {c : Nat} {xs : List α} (h : ∀ a v, hcell H a = some v → hcell H' a = some v) (hs : Sl H e p c xs) : Sl H' e p c xs :=
  ⟨hs.ok, fun i x hi k v hv => h _ _ (hs.cell i x hi k v hv)⟩
theorem RepAt.cells {H H' : Array Obj} (h : ∀ a v, hcell H a = some v → hcell H' a = some v) : ∀ {d : Nat} {r : RawR} {t : Rep}, RepAt H d r t → RepAt H' d r t
  | 0, _, _, h0 => h0
  | d + 1, r, t, ⟨h1, h2, h3, h4, h5, h6, rs, hs, hl, hg⟩ => ⟨h1, h2, h3, h4, h5, h6, rs, hs.cells h, hl, fun i r' t' hr ht => RepAt.cells h (hg i r' t' hr ht)⟩
theorem RepAt.shown {S : Nat → Prop} {H : Array Obj} {d : Nat} {r : RawR} {t : Rep} (h : RepAt (veil S H) d r t) : RepAt H d r t :=
  h.cells fun _ _ hv => (hcell_veil.1 hv).2.2
theorem RepAt.hide {S S' : Nat → Prop} {H H' : Array Obj} {d : Nat} {r : RawR} {t : Rep} (h : RepAt (veil S H) d r t) (hh : ∀ q, ¬ S q → q < H.size → ¬ S' q ∧ H'[q]? = H[q]?) : RepAt (veil S' H') d r t :=
  h.cells fun a v hv => by
    obtain ⟨h1, hp, h2⟩ := hcell_veil.1 hv
    obtain ⟨h3, h4⟩ := hh a.block h1 (hcell_lt h2)
    exact hcell_veil.2 ⟨h3, by rw [h4]; exact hp, by rw [hcell_block h4]; exact h2⟩
theorem Own.hidden {α : Type} {e : Enc α} {w : World} {B T : Nat} {p : Option Addr} {c : Nat} {xs : List α} {S : Nat → Prop} (ho : Own w B T e p c xs) (hb : ∀ q, blk p = some q → ¬ S q) : Sl (veil S w.heap) e p c xs := by
  have h := ho.sl
  refine ⟨h.ok, fun i x hi k v hv => ?_⟩
  cases hp : p with
  | none =>
    have h1 := h.ok.nul hp
    have h2 := h.ok.le
    have h3 := get_lt hi
    omega
  | some a =>
    have hk : blk p = some a.block := by rw [hp]; rfl
    obtain ⟨cur, hc⟩ := ho.at hk
    rw [← hp]
    refine hcell_veil.2 ⟨?_, ⟨.cells cur T (0, 0), ?_, rfl⟩, h.cell i x hi k v hv⟩
    · rw [adr_block p a _ hp]; exact hb _ hk
    · rw [adr_block p a _ hp]; exact hc
theorem ExtS.own {S : List Nat} {w w1 w2 : World} {row : Option Nat} (h1 : ExtS S w w1) (h2 : w1.grownBy w2 row) (hr : ∀ k, row = some k → w.heap.size ≤ k) : ExtS S w w2 :=
  ⟨h2.os.trans h1.os, h2.tape.trans h1.tape, h2.output.trans h1.output, Nat.le_trans h1.size h2.size, fun k hk hs => (h2.block k (Nat.lt_of_lt_of_le hk h1.size) (fun e => by have := hr k e.symm; omega)).trans (h1.block k hk hs)⟩
theorem ExtS.grown1 {a : Nat} {w w' : World} (h : ExtS [a] w w') : w.grownBy w' (some a) :=
  ⟨h.os, h.tape, h.output, h.size, fun k hk hne => h.block k hk (by
    have : k ≠ a := fun e => hne (by rw [e])
    simp [exempt, this])⟩
end Go.V

/- The constructors of replies; List, of replies without lists. -/
namespace Go.V
def leafR (k : Int) (s : ByteArray) (n : Int) : RawR := ⟨k, s, n, none, 0, 0⟩
def clrR (r : RawR) : RawR := ⟨r.kind, r.s, r.n, none, 0, 0⟩
/-- a level of List's, its trail being empty -/
def eLev : Enc (Option Addr × Nat × Nat) := ⟨5, fun r => [.slice r.1 r.2.1 r.2.2, .int .i64 0, .int .i64 0, .slice none 0 0, .slice none 0 0], fun _ => rfl, fun _ v hv => by simp at hv; rcases hv with rfl | rfl | rfl | rfl | rfl <;> rfl, by decide⟩
end Go.V
namespace Go.Proofs.YtikjnmpijflnaaaDoor
open Go.V
attribute [local irreducible] Blk Own hcell IntT SliceT PlainT AggT SizeT StrT FieldT ZeroT EqT ArrT
theorem bldKS (k : Int) (s : ByteArray) (w : World) : (Instr.build 24 [(0, Value.int .i64 k), (1, Value.string s)].toArray).run Tryd.prog w = .ok (.agg (eRep.enc (leafR k s 0)).toArray) w := by kernel_rfl
theorem bldKN (k : Int) (n : Int) (w : World) : (Instr.build 24 [(0, Value.int .i64 k), (2, Value.int .i64 n)].toArray).run Tryd.prog w = .ok (.agg (eRep.enc (leafR k ⟨#[]⟩ n)).toArray) w := by kernel_rfl
theorem bldK (k : Int) (w : World) : (Instr.build 24 [(0, Value.int .i64 k)].toArray).run Tryd.prog w = .ok (.agg (eRep.enc (leafR k ⟨#[]⟩ 0)).toArray) w := by kernel_rfl
theorem bldKL (k : Int) (p : Option Addr) (l c : Nat) (w : World) : (Instr.build 24 [(0, Value.int .i64 k), (3, Value.slice p l c)].toArray).run Tryd.prog w = .ok (.agg (eRep.enc ⟨k, ⟨#[]⟩, 0, p, l, c⟩).toArray) w := by kernel_rfl
theorem bldLev (p : Option Addr) (l c : Nat) (w : World) : (Instr.build 70 [(0, Value.slice p l c)].toArray).run Tryd.prog w = .ok (.agg (eLev.enc (p, l, c)).toArray) w := by kernel_rfl

theorem mk_text {s : ByteArray} {w : World} : Ctr Tryd.prog 19 [.string s] w (fun v w' => v = .agg (eRep.enc (leafR 0 s 0)).toArray ∧ Ext w w') := by
  refine Ctr_of Tryd.func19 Tryd.ntmps19 rfl rfl rfl ?_
  repeat' (first | apply W_seq | apply W_region)
  apply G_on; exact rfl; apply G1_alloc; exact T.zero24; exact rfl; exact rfl; intro a1 w1 ha1 hA1 hx1 hs1
  repeat' (first | (apply G_on; exact rfl; first | (apply G1_move; exact rfl; exact rfl) | (apply G1_build (.agg (eRep.enc (leafR 0 s 0)).toArray); exact rfl; exact bldKS _ _; exact rfl)) | apply G_nil | apply Post_next | apply W_seq | apply W_region)
  apply G_on; exact rfl; apply G1_storeB; exact T.z24; exact rfl; exact rfl; exact hA1; exact rfl; exact rfl; (first | exact Nat.le_of_ble_eq_true rfl | (focus (simp [Value.cells]; done))); (first | exact Enc.one _ _ | (focus (simp [Value.oneCell']; done)) | (focus (simp [Value.cells, Value.oneCell']; done)) | exact Enc.oneAgg _ _); exact rfl; (first | exact .inl rfl | exact .inr (by simp [exempt])); exact rfl; intro w2 hA2 hg2 hs2
  replace hA2 : Blk w2.heap a1 24 (eRep.enc (leafR 0 s 0)) := hA2
  have hx2 : Ext w w2 := hx1.own hg2 (fun k hk => by injection hk; omega)
  repeat' (first | apply G_nil | apply Post_next | apply W_ret)
  refine Post_ret Tryd.results19 ⟨_, _, _, rfl, rfl, run_loadVar_box T.a24 (by assumption) rfl, rfl⟩ ?_
  exact ⟨rfl, (by repeat first | assumption | exact Ext.rfl' | apply Ext.drew | apply Ext.alloc | refine Ext.trans ?_ (by assumption))⟩
theorem mk_wrong {s : ByteArray} {w : World} : Ctr Tryd.prog 20 [.string s] w (fun v w' => v = .agg (eRep.enc (leafR 1 s 0)).toArray ∧ Ext w w') := by
  refine Ctr_of Tryd.func20 Tryd.ntmps20 rfl rfl rfl ?_
  repeat' (first | apply W_seq | apply W_region)
  apply G_on; exact rfl; apply G1_alloc; exact T.zero24; exact rfl; exact rfl; intro a1 w1 ha1 hA1 hx1 hs1
  repeat' (first | (apply G_on; exact rfl; first | (apply G1_move; exact rfl; exact rfl) | (apply G1_build (.agg (eRep.enc (leafR 1 s 0)).toArray); exact rfl; exact bldKS _ _; exact rfl)) | apply G_nil | apply Post_next | apply W_seq | apply W_region)
  apply G_on; exact rfl; apply G1_storeB; exact T.z24; exact rfl; exact rfl; exact hA1; exact rfl; exact rfl; (first | exact Nat.le_of_ble_eq_true rfl | (focus (simp [Value.cells]; done))); (first | exact Enc.one _ _ | (focus (simp [Value.oneCell']; done)) | (focus (simp [Value.cells, Value.oneCell']; done)) | exact Enc.oneAgg _ _); exact rfl; (first | exact .inl rfl | exact .inr (by simp [exempt])); exact rfl; intro w2 hA2 hg2 hs2
  replace hA2 : Blk w2.heap a1 24 (eRep.enc (leafR 1 s 0)) := hA2
  have hx2 : Ext w w2 := hx1.own hg2 (fun k hk => by injection hk; omega)
  repeat' (first | apply G_nil | apply Post_next | apply W_ret)
  refine Post_ret Tryd.results20 ⟨_, _, _, rfl, rfl, run_loadVar_box T.a24 (by assumption) rfl, rfl⟩ ?_
  exact ⟨rfl, (by repeat first | assumption | exact Ext.rfl' | apply Ext.drew | apply Ext.alloc | refine Ext.trans ?_ (by assumption))⟩
theorem mk_int {n : Int} {w : World} : Ctr Tryd.prog 21 [.int .i64 n] w (fun v w' => v = .agg (eRep.enc (leafR 2 ⟨#[]⟩ n)).toArray ∧ Ext w w') := by
  refine Ctr_of Tryd.func21 Tryd.ntmps21 rfl rfl rfl ?_
  repeat' (first | apply W_seq | apply W_region)
  apply G_on; exact rfl; apply G1_alloc; exact T.zero24; exact rfl; exact rfl; intro a1 w1 ha1 hA1 hx1 hs1
  repeat' (first | (apply G_on; exact rfl; first | (apply G1_move; exact rfl; exact rfl) | (apply G1_build (.agg (eRep.enc (leafR 2 ⟨#[]⟩ n)).toArray); exact rfl; exact bldKN _ _; exact rfl)) | apply G_nil | apply Post_next | apply W_seq | apply W_region)
  apply G_on; exact rfl; apply G1_storeB; exact T.z24; exact rfl; exact rfl; exact hA1; exact rfl; exact rfl; (first | exact Nat.le_of_ble_eq_true rfl | (focus (simp [Value.cells]; done))); (first | exact Enc.one _ _ | (focus (simp [Value.oneCell']; done)) | (focus (simp [Value.cells, Value.oneCell']; done)) | exact Enc.oneAgg _ _); exact rfl; (first | exact .inl rfl | exact .inr (by simp [exempt])); exact rfl; intro w2 hA2 hg2 hs2
  replace hA2 : Blk w2.heap a1 24 (eRep.enc (leafR 2 ⟨#[]⟩ n)) := hA2
  have hx2 : Ext w w2 := hx1.own hg2 (fun k hk => by injection hk; omega)
  repeat' (first | apply G_nil | apply Post_next | apply W_ret)
  refine Post_ret Tryd.results21 ⟨_, _, _, rfl, rfl, run_loadVar_box T.a24 (by assumption) rfl, rfl⟩ ?_
  exact ⟨rfl, (by repeat first | assumption | exact Ext.rfl' | apply Ext.drew | apply Ext.alloc | refine Ext.trans ?_ (by assumption))⟩
theorem mk_str {s : ByteArray} {w : World} : Ctr Tryd.prog 22 [.string s] w (fun v w' => v = .agg (eRep.enc (leafR 3 s 0)).toArray ∧ Ext w w') := by
  refine Ctr_of Tryd.func22 Tryd.ntmps22 rfl rfl rfl ?_
  repeat' (first | apply W_seq | apply W_region)
  apply G_on; exact rfl; apply G1_alloc; exact T.zero24; exact rfl; exact rfl; intro a1 w1 ha1 hA1 hx1 hs1
  repeat' (first | (apply G_on; exact rfl; first | (apply G1_move; exact rfl; exact rfl) | (apply G1_build (.agg (eRep.enc (leafR 3 s 0)).toArray); exact rfl; exact bldKS _ _; exact rfl)) | apply G_nil | apply Post_next | apply W_seq | apply W_region)
  apply G_on; exact rfl; apply G1_storeB; exact T.z24; exact rfl; exact rfl; exact hA1; exact rfl; exact rfl; (first | exact Nat.le_of_ble_eq_true rfl | (focus (simp [Value.cells]; done))); (first | exact Enc.one _ _ | (focus (simp [Value.oneCell']; done)) | (focus (simp [Value.cells, Value.oneCell']; done)) | exact Enc.oneAgg _ _); exact rfl; (first | exact .inl rfl | exact .inr (by simp [exempt])); exact rfl; intro w2 hA2 hg2 hs2
  replace hA2 : Blk w2.heap a1 24 (eRep.enc (leafR 3 s 0)) := hA2
  have hx2 : Ext w w2 := hx1.own hg2 (fun k hk => by injection hk; omega)
  repeat' (first | apply G_nil | apply Post_next | apply W_ret)
  refine Post_ret Tryd.results22 ⟨_, _, _, rfl, rfl, run_loadVar_box T.a24 (by assumption) rfl, rfl⟩ ?_
  exact ⟨rfl, (by repeat first | assumption | exact Ext.rfl' | apply Ext.drew | apply Ext.alloc | refine Ext.trans ?_ (by assumption))⟩
theorem mk_none {w : World} : Ctr Tryd.prog 23 [] w (fun v w' => v = .agg (eRep.enc (leafR 4 ⟨#[]⟩ 0)).toArray ∧ Ext w w') := by
  refine Ctr_of Tryd.func23 Tryd.ntmps23 rfl rfl rfl ?_
  repeat' (first | apply W_seq | apply W_region)
  apply G_on; exact rfl; apply G1_alloc; exact T.zero24; exact rfl; exact rfl; intro a1 w1 ha1 hA1 hx1 hs1
  repeat' (first | (apply G_on; exact rfl; (apply G1_build (.agg (eRep.enc (leafR 4 ⟨#[]⟩ 0)).toArray); exact rfl; exact bldK _; exact rfl)) | apply G_nil | apply Post_next | apply W_seq | apply W_region)
  apply G_on; exact rfl; apply G1_storeB; exact T.z24; exact rfl; exact rfl; exact hA1; exact rfl; exact rfl; (first | exact Nat.le_of_ble_eq_true rfl | (focus (simp [Value.cells]; done))); (first | exact Enc.one _ _ | (focus (simp [Value.oneCell']; done)) | (focus (simp [Value.cells, Value.oneCell']; done)) | exact Enc.oneAgg _ _); exact rfl; (first | exact .inl rfl | exact .inr (by simp [exempt])); exact rfl; intro w2 hA2 hg2 hs2
  replace hA2 : Blk w2.heap a1 24 (eRep.enc (leafR 4 ⟨#[]⟩ 0)) := hA2
  have hx2 : Ext w w2 := hx1.own hg2 (fun k hk => by injection hk; omega)
  repeat' (first | apply G_nil | apply Post_next | apply W_ret)
  refine Post_ret Tryd.results23 ⟨_, _, _, rfl, rfl, run_loadVar_box T.a24 (by assumption) rfl, rfl⟩ ?_
  exact ⟨rfl, (by repeat first | assumption | exact Ext.rfl' | apply Ext.drew | apply Ext.alloc | refine Ext.trans ?_ (by assumption))⟩
theorem clone_reps {p : Option Addr} {c : Nat} {xs : List RawR} {w : World} (hx : Sl w.heap eRep p c xs) (hb : xs.length ≤ 1000000) :
    Ctr Tryd.prog 41 [.slice p xs.length c] w (fun v w' => ∃ p' c', v = .slice p' xs.length c' ∧ Own w' w.heap.size 24 eRep p' c' xs ∧ Ext w w') := by
  refine Ctr_of Tryd.func41 Tryd.ntmps41 rfl rfl rfl ?_
  repeat' (first | (apply G_on; exact rfl; first | ((first | apply G1_assign | apply G1_move); exact rfl; exact rfl) | (apply G1_nileql; exact T.s22; exact rfl; exact rfl; exact rfl)) | apply G_nil | apply Post_next | apply W_seq | apply W_region | (apply W_cond; exact rfl; all_goals intro h) | apply W_skip | apply W_ret | apply Post_then_ret)
  · refine Post_ret Tryd.results41 ⟨_, _, rfl, rfl, rfl⟩ ?_
    have hn : p = none := by simpa using h
    have h1 := hx.ok.nul hn
    have h2 := hx.ok.le
    obtain rfl : xs = [] := List.eq_nil_of_length_eq_zero (by omega)
    exact ⟨none, 0, rfl, Own.nil _ _ _ _, (by repeat first | assumption | exact Ext.rfl' | apply Ext.drew | apply Ext.alloc | refine Ext.trans ?_ (by assumption))⟩
  · apply G_on; exact rfl
    apply G1_build0 eRep; exact T.s22; exact rfl; exact rfl
    intro p1 w1 ho hx1 hs1
    have hsl := hx.ext hx1
    repeat' (first | (apply G_on; exact rfl; first | ((first | apply G1_assign | apply G1_move); exact rfl; exact rfl) | (apply G1_append; exact T.s22; exact rfl; exact rfl; exact ho; exact hsl; exact rfl; omega; (simp; omega); (simp; omega); exact rfl; exact rfl; exact rfl; intro p2 c2 w2 ho2 hg2 hn2)) | apply G_nil | apply Post_next | apply W_ret)
    refine Post_ret Tryd.results41 ⟨_, _, rfl, rfl, rfl⟩ ?_
    exact ⟨p2, c2, rfl, ho2, Ext.own hx1 hg2 (fun k hk => (ho.ge k hk).1)⟩

theorem enter_leaf {p : Option Addr} {c : Nat} {w : World} :
    Ctr Tryd.prog 42 [.agg #[.int .i64 0, .int .i64 0, .slice none 0 0, .slice none 0 0], .slice p 0 c, .slice p 0 c] w (fun v w' => v = .tuple #[.agg #[.int .i64 0, .int .i64 0, .slice none 0 0, .slice none 0 0], .bool false] ∧ Ext w w') := by
  refine Ctr_of Tryd.func42 Tryd.ntmps42 rfl rfl rfl ?_
  repeat' (first | apply W_seq | apply W_region)
  apply G_on; exact rfl; apply G1_box; exact rfl; exact rfl; exact rfl; intro a1 w1 ha1 hA1 hx1 hs1
  replace hA1 : Blk w1.heap a1 68 [.int .i64 0, .int .i64 0, .slice none 0 0, .slice none 0 0] := hA1
  skip
  apply G_on; exact rfl; apply G1_alloc; exact T.zero68; exact rfl; exact rfl; intro a2 w2 ha2 hA2 hx2 hs2
  replace hA1 := hA1.ext hx2
  repeat' (first | (apply G_on; exact rfl; first | ((first | apply G1_assign | apply G1_move); exact rfl; exact rfl) | (apply G1_len; exact T.s22; exact rfl; exact rfl) | (apply G1_eql; exact rfl; exact rfl; exact rfl) | (apply G1_pick_t; exact rfl; exact rfl; exact rfl) | (apply G1_loadBAgg; exact T.a68; exact rfl; assumption; exact rfl; exact rfl)) | apply G_nil | apply Post_next | apply W_seq | apply W_region | (apply W_cond_true; exact rfl) | (apply G_off; exact rfl; exact rfl))
  apply G_on; exact rfl; apply G1_storeB; exact T.z68; exact rfl; exact rfl; exact hA2; exact rfl; exact rfl; (first | exact Nat.le_of_ble_eq_true rfl | (focus (simp [Value.cells]; done))); (first | exact Enc.one _ _ | (focus (simp [Value.oneCell']; done)) | (focus (simp [Value.cells, Value.oneCell']; done)) | exact Enc.oneAgg _ _); exact rfl; (first | exact .inl rfl | exact .inr (by simp [exempt])); exact rfl; intro w3 hA3 hg3 hs3
  replace hA3 : Blk w3.heap a2 68 [.int .i64 0, .int .i64 0, .slice none 0 0, .slice none 0 0] := hA3
  have hx3 : Ext w w3 := (hx1.trans hx2).own hg3 (fun k hk => by injection hk; omega)
  repeat' (first | (apply G_on; exact rfl; (apply G1_assign; exact rfl; exact rfl)) | apply G_nil | apply Post_next | apply W_ret | apply Post_then_ret)
  refine Post_ret Tryd.results42 ⟨_, _, _, rfl, rfl, run_loadVar_box T.a68 (by assumption) rfl, _, _, rfl, rfl, rfl⟩ ?_
  exact ⟨rfl, (by repeat first | assumption | exact Ext.rfl' | apply Ext.drew | apply Ext.alloc | refine Ext.trans ?_ (by assumption))⟩

theorem list_leaf {p : Option Addr} {c : Nat} {rs : List RawR} {w : World} (hC : Sl w.heap eRep p c rs) (h0 : ∀ r ∈ rs, r.len = 0) (hl : rs.length ≤ 100) :
    Ctr Tryd.prog 18 [.slice p rs.length c] w (fun v w' => ∃ p' c', v = .agg (eRep.enc ⟨5, ⟨#[]⟩, 0, p', rs.length, c'⟩).toArray ∧ Sl w'.heap eRep p' c' (rs.map clrR) ∧ Ext w w') := by
  refine Ctr_of Tryd.func18 Tryd.ntmps18 rfl rfl rfl ?_
  repeat' (first | apply W_seq | apply W_region)
  apply G_on; exact rfl; apply G1_alloc; exact T.zero24; exact rfl; exact rfl; intro a2 w1 ha2 hA2 hx1 hs1
  replace hC := hC.ext hx1
  repeat' (first | (apply G_on; exact rfl; (apply G1_move; exact rfl; exact rfl)) | apply G_nil | apply Post_next | apply W_seq | apply W_region)
  apply G_on; exact rfl; apply G1_call; exact rfl; exact rfl; exact rfl; exact clone_reps hC (by omega); rintro _ w2 ⟨p', c', rfl, hO, hx2⟩; refine ⟨(by first | exact .inl rfl | exact .inr (by assumption)), ?_⟩
  replace hA2 := hA2.ext hx2
  have z12 := hx2.size
  replace hx2 := hx1.trans hx2
  have hOlt : ∀ k, blk p' = some k → w1.heap.size ≤ k ∧ k < w2.heap.size := hO.ge
  have z2 := hx2.size
  repeat' (apply G_on; exact rfl; (apply G1_build (.agg (eRep.enc ⟨5, ⟨#[]⟩, 0, p', rs.length, c'⟩).toArray); exact rfl; exact bldKL _ _ _ _; exact rfl))
  apply G_on; exact rfl; apply G1_alloc; exact T.zero24; exact rfl; exact rfl; intro a3 w3 ha3 hA3 hx3 hs3
  replace hA2 := hA2.ext hx3
  replace hO := hO.ext hx3
  skip
  apply G_on; exact rfl; apply G1_storeB; exact T.z24; exact rfl; exact rfl; exact hA3; exact rfl; exact rfl; (first | exact Nat.le_of_ble_eq_true rfl | (focus (simp [Value.cells]; done))); (first | exact Enc.one _ _ | (focus (simp [Value.oneCell']; done)) | (focus (simp [Value.cells, Value.oneCell']; done)) | exact Enc.oneAgg _ _); exact rfl; (first | exact .inl rfl | exact .inr (by simp [exempt])); exact rfl; intro w4 hA4 hg4 hs4
  replace hA4 : Blk w4.heap a3 24 [.int .i64 5, .string ⟨#[]⟩, .int .i64 0, .slice p' rs.length c'] := hA4
  replace hA2 := hA2.grown hg4 (fun e => by injection e; omega)
  replace hO := hO.kept hg4 (fun a ha e => by injection e with e; have := hOlt a.block (by rw [ha]; rfl); omega)
  have hx4 : Ext w w4 := (hx2.trans hx3).own hg4 (fun k hk => by injection hk; omega)
  repeat' (first | (apply G_on; exact rfl; first | (apply G1_build (.agg (eLev.enc (p', rs.length, c')).toArray); exact rfl; exact bldLev _ _ _; exact rfl) | (apply G1_fieldAddr; exact T.f24_3; exact rfl; exact rfl) | (apply G1_loadB; exact T.p22; exact rfl; assumption; exact rfl; exact rfl)) | apply G_nil | apply Post_next | apply W_seq | apply W_region)
  apply G_on; exact rfl
  apply G1_build1 eLev (p', rs.length, c'); exact T.s71; exact rfl; exact rfl; exact rfl; decide; exact rfl; exact rfl
  intro p5 w5 hp5 hS5 _ hx5 hz5
  replace hA2 := hA2.ext hx5
  replace hA4 := hA4.ext hx5
  replace hO := hO.ext hx5
  replace hx5 := hx4.trans hx5
  repeat' (first | (apply G_on; exact rfl; (apply G1_assign; exact rfl; exact rfl)) | apply G_nil | apply Post_next | apply W_seq | apply W_block)
  have hOlt5 : ∀ k, blk p' = some k → w1.heap.size ≤ k ∧ k < w2.heap.size := hOlt
  refine W_loop (ι := Nat × Option Addr × Nat) (fun y => [(2, .pointer (some (adr (bx a2) 0))), (3, .pointer (some (adr (bx a3) 0))), (4, .slice y.2.1 (1 - y.1) y.2.2)])
    (fun y w' => Ext w w' ∧ w5.heap.size ≤ w'.heap.size ∧ Blk w'.heap a2 24 [.int .i64 0, .string ⟨#[]⟩, .int .i64 0, .slice none 0 0] ∧ Blk w'.heap a3 24 [.int .i64 5, .string ⟨#[]⟩, .int .i64 0, .slice p' rs.length c'] ∧
      Own w' w1.heap.size 24 eRep p' c' (if y.1 = 0 then rs else rs.map clrR) ∧ (y.1 = 0 → Sl w'.heap eLev y.2.1 y.2.2 [(p', rs.length, c')]) ∧ y.1 ≤ 1) (fun y => 1 - y.1) (0, p5, 1) ⟨rfl, rfl, rfl, trivial⟩ ⟨hx5, Nat.le_refl _, hA2, hA4, hO, fun _ => hS5, Nat.zero_le _⟩ ?_
  clear hA2 hA4 hO hS5
  rintro ⟨k, q6, d6⟩ w6 ⟨hx6, hz6, hA2, hA3', hO, hS, hk⟩
  simp only at hO hS hk
  rcases (show k = 0 ∨ k = 1 by omega) with rfl | rfl
  · replace hS := hS rfl
    rw [if_pos rfl] at hO
    refine W_keep [(2, .pointer (some (adr (bx a2) 0))), (3, .pointer (some (adr (bx a3) 0))), (4, .slice q6 ([(p', rs.length, c')] : List (Option Addr × Nat × Nat)).length d6)] ⟨rfl, rfl, rfl, trivial⟩ ?_
    have hok6 := hS.ok
    have hle6 := hok6.le
    have hl6 : ((([(p', rs.length, c')] : List (Option Addr × Nat × Nat)).length : Nat) : Int) - 1 = ((0 : Nat) : Int) := by simp
    have hg0 : ([(p', rs.length, c')] : List (Option Addr × Nat × Nat))[0]? = some (p', rs.length, c') := rfl
    have hl7 : ([(p', rs.length, c')] : List (Option Addr × Nat × Nat)).length = 1 := rfl
    repeat' (first | (apply G_on; exact rfl; first | (apply G1_move; exact rfl; exact rfl) | (apply G1_indexAddrJ (q := 0); exact T.s71; exact rfl; exact rfl; exact hl6; exact hok6; omega; exact rfl) | (apply G1_len; exact T.s71; exact rfl; exact rfl) | (apply G1_gtr; exact rfl; exact rfl; exact rfl) | (apply G1_sub; exact rfl; exact rfl; omega; omega; exact rfl) | (apply G1_loadEl; exact T.a70; exact rfl; assumption; assumption; exact rfl; exact rfl)) | apply G_nil | apply Post_next | apply W_seq | apply W_region | (apply W_cond_true; exact rfl) | apply W_skip | apply W_block)
    apply G_on; exact rfl; apply G1_alloc; exact T.zero70; exact rfl; exact rfl; intro a7 w7 ha7 hA7 hx7 hs7
    replace hS := hS.ext hx7
    replace hok6 := hS.ok
    replace hA2 := hA2.ext hx7
    replace hA3' := hA3'.ext hx7
    replace hO := hO.ext hx7
    skip
    apply G_on; exact rfl; apply G1_storeB; exact T.z70; exact rfl; exact rfl; exact hA7; exact rfl; exact rfl; (first | exact Nat.le_of_ble_eq_true rfl | (focus (simp [Value.cells]; done))); (first | exact Enc.one _ _ | (focus (simp [Value.oneCell']; done)) | (focus (simp [Value.cells, Value.oneCell']; done)) | exact Enc.oneAgg _ _); exact rfl; (first | exact .inl rfl | exact .inr (by simp [exempt])); exact rfl; intro w8 hA8 hg8 hs8
    replace hA8 : Blk w8.heap a7 70 [.slice p' rs.length c', .int .i64 0, .int .i64 0, .slice none 0 0, .slice none 0 0] := hA8
    have z56 := hz5
    have hx68 : Ext w6 w8 := hx7.own hg8 (fun k hk => by injection hk; omega)
    replace hA2 := hA2.grown hg8 (fun e => by injection e; omega)
    replace hA3' := hA3'.grown hg8 (fun e => by injection e; omega)
    replace hO := hO.kept hg8 (fun a ha e => by injection e with e; have := hOlt a.block (by rw [ha]; rfl); omega)
    have hx8 := hx6.trans hx68
    have z68 := hx68.size
    repeat' (first | (apply G_on; exact rfl; first | ((first | apply G1_move | apply G1_assign); exact rfl; exact rfl) | (apply G1_sliceHiJ (q := 0); exact T.s71; exact rfl; exact rfl; exact hl6; omega; exact rfl) | (apply G1_fieldAddr; exact T.f70_0; exact rfl; exact rfl) | (apply G1_loadB; exact T.p22; exact rfl; assumption; exact rfl; exact rfl) | (apply G1_len; (first | exact T.s71 | exact T.s22); exact rfl; exact rfl) | (apply G1_sub; exact rfl; exact rfl; omega; omega; exact rfl)) | apply G_nil | apply Post_next | apply W_seq | apply W_region | apply W_block)
    refine W_loop (ι := Nat) (fun i => [(2, .pointer (some (adr (bx a2) 0))), (3, .pointer (some (adr (bx a3) 0))), (4, .slice q6 0 d6), (5, .pointer (some (adr (bx a7) 0))), (32, .slice p' rs.length c'), (33, .int .i64 (rs.length : Int)), (34, .int .i64 (i : Int))])
      (fun i w' => Ext w w' ∧ w8.heap.size ≤ w'.heap.size ∧ Blk w'.heap a2 24 [.int .i64 0, .string ⟨#[]⟩, .int .i64 0, .slice none 0 0] ∧ Blk w'.heap a3 24 [.int .i64 5, .string ⟨#[]⟩, .int .i64 0, .slice p' rs.length c'] ∧
        Blk w'.heap a7 70 [.slice p' rs.length c', .int .i64 0, .int .i64 0, .slice none 0 0, .slice none 0 0] ∧ Own w' w1.heap.size 24 eRep p' c' ((rs.take i).map clrR ++ rs.drop i) ∧ i ≤ rs.length) (fun i => rs.length - i) 0 ⟨rfl, rfl, rfl, rfl, rfl, rfl, rfl, trivial⟩ ⟨hx8, Nat.le_refl _, hA2, hA3', hA8, by simpa using hO, Nat.zero_le _⟩ ?_
    clear hA2 hA3' hA8 hO
    rintro i w9 ⟨hx9, hz9, hA2, hA3', hA8, hO, hi⟩
    by_cases hlt : i < rs.length
    · obtain ⟨r', hr'⟩ := get_some hlt
      have hr0 := h0 r' (List.mem_of_getElem? hr')
      have hyl : ((rs.take i).map clrR ++ rs.drop i).length = rs.length := by simp; omega
      have hyi : ((rs.take i).map clrR ++ rs.drop i)[i]? = some r' := by
        rw [List.getElem?_append_right (by simp; omega)]
        simp [hr', show i - min i rs.length = 0 by omega]
      have hset : ((rs.take i).map clrR ++ rs.drop i).set i (clrR r') = (rs.take (i + 1)).map clrR ++ rs.drop (i + 1) := by
        have hd : rs.drop i = r' :: rs.drop (i + 1) := by
          rw [List.drop_eq_getElem_cons hlt]
          rw [List.getElem?_eq_getElem hlt] at hr'
          injection hr' with hr'
          rw [hr']
        rw [take_snoc hr', List.map_append, hd, List.set_append_right _ _ (by simp; omega)]
        simp [show i - min i rs.length = 0 by omega]
      have hs9 := hO.sl
      have hok9 : Okp p' rs.length c' := by rw [← hyl]; exact hs9.ok
      repeat' (first | (apply G_on; exact rfl; first | (apply G1_move; exact rfl; exact rfl) | (apply G1_lss; exact rfl; exact rfl; exact rfl) | (apply G1_loadEl; exact T.a24; exact rfl; assumption; assumption; exact rfl; exact rfl) | (apply G1_indexAddrN; exact T.s22; exact rfl; exact rfl; (first | assumption | exact Sl.ok (by assumption) | exact (Own.sl (by assumption)).ok); omega; exact rfl)) | apply G_nil | apply Post_next | apply W_seq | apply W_region | (apply W_cond_dec; exact rfl; all_goals (intro h; try (exfalso; omega))) | apply W_skip | apply W_block)
      apply G_on; exact rfl; apply G1_alloc; exact T.zero24; exact rfl; exact rfl; intro a10 w10 ha10 hA10 hx10 hs10
      replace hs9 := hs9.ext hx10
      repeat' (apply G_on; exact rfl; (apply G1_assign; exact rfl; exact rfl))
      apply G_on; exact rfl; apply G1_storeB; exact T.z24; exact rfl; exact rfl; exact hA10; exact rfl; exact rfl; (first | exact Nat.le_of_ble_eq_true rfl | (focus (simp [Value.cells]; done))); (first | exact Enc.one _ _ | (focus (simp [Value.oneCell']; done)) | (focus (simp [Value.cells, Value.oneCell']; done)) | exact Enc.oneAgg _ _); exact rfl; (first | exact .inl rfl | exact .inr (by simp [exempt])); exact rfl; intro w11 hA11 hg11 hs11
      replace hA11 : Blk w11.heap a10 24 [.int .i64 r'.kind, .string r'.s, .int .i64 r'.n, .slice r'.p r'.len r'.cap] := hA11
      rw [hr0] at hA11
      have hx911 : Ext w9 w11 := hx10.own hg11 (fun k hk => by injection hk; omega)
      replace hA2 := hA2.ext hx911
      replace hA3' := hA3'.ext hx911
      replace hA8 := hA8.ext hx911
      replace hO := hO.ext hx911
      have hx11 := hx9.trans hx911
      have z11 := hx911.size
      repeat' (first | (apply G_on; exact rfl; first | (apply G1_move; exact rfl; exact rfl) | (apply G1_fieldAddr; (first | exact T.f24_3 | exact T.f70_0); exact rfl; exact rfl) | (apply G1_loadB; exact T.p22; exact rfl; assumption; exact rfl; exact rfl) | (apply G1_indexAddrN; exact T.s22; exact rfl; exact rfl; (first | assumption | exact Sl.ok (by assumption) | exact (Own.sl (by assumption)).ok); omega; exact rfl)) | apply G_nil | apply Post_next | apply W_seq | apply W_region)
      apply G_on; exact rfl
      apply G1_storeEl (off := 3) (q := i) (clrR r'); exact T.z22; exact rfl; exact rfl; exact hO; exact hyi; exact rfl; exact rfl; decide; exact rfl; exact rfl; (have := hx1.size; have := hx11.size; omega); exact rfl; exact rfl; exact rfl
      intro w12 ha12 hs12
      have hgO : ∀ k, blk p' = some k → w1.heap.size ≤ k ∧ k < w2.heap.size := hOlt
      replace hO := ha12.own
      rw [hset] at hO
      replace hA2 := hA2.grown ha12.grown (fun e => by have := hgO a2 e; omega)
      replace hA3' := hA3'.grown ha12.grown (fun e => by have := hgO a3 e; omega)
      replace hA8 := hA8.grown ha12.grown (fun e => by have := hgO a7 e; omega)
      replace hA11 := hA11.grown ha12.grown (fun e => by have := hgO a10 e; omega)
      have hx12 : Ext w w12 := hx11.app ha12 (fun k hk => by have := hgO k hk; have := hx1.size; omega)
      repeat' (first | (apply G_on; exact rfl; first | (apply G1_fieldAddr; (first | exact T.f24_3 | exact T.f70_1); exact rfl; exact rfl) | (apply G1_loadB; exact T.p22; exact rfl; assumption; exact rfl; exact rfl) | (apply G1_loadBSub; exact T.a68; exact rfl; assumption; exact rfl; exact rfl; exact rfl)) | apply G_nil | apply Post_next | apply W_seq | apply W_region)
      apply G_on; exact rfl; apply G1_call; exact rfl; exact rfl; exact rfl; exact enter_leaf; rintro _ w13 ⟨rfl, hx13⟩; refine ⟨(by first | exact .inl rfl | exact .inr (by assumption)), ?_⟩
      replace hO := hO.ext hx13
      replace hA2 := hA2.ext hx13
      replace hA3' := hA3'.ext hx13
      replace hA8 := hA8.ext hx13
      have z13 := hx13.size
      repeat' (apply G_on; exact rfl; first | (apply G1_move; exact rfl; exact rfl) | (apply G1_extract; exact rfl; exact rfl; exact rfl))
      apply G_on; exact rfl; apply G1_alloc; exact T.zero68; exact rfl; exact rfl; intro a14 w14 ha14 hA14 hx14 hs14
      replace hO := hO.ext hx14
      replace hA2 := hA2.ext hx14
      replace hA3' := hA3'.ext hx14
      replace hA8 := hA8.ext hx14
      skip
      apply G_on; exact rfl; apply G1_storeB; exact T.z68; exact rfl; exact rfl; exact hA14; exact rfl; exact rfl; (first | exact Nat.le_of_ble_eq_true rfl | (focus (simp [Value.cells]; done))); (first | exact Enc.one _ _ | (focus (simp [Value.oneCell']; done)) | (focus (simp [Value.cells, Value.oneCell']; done)) | exact Enc.oneAgg _ _); exact rfl; (first | exact .inl rfl | exact .inr (by simp [exempt])); exact rfl; intro w15 hA15 hg15 hs15
      have hx15 : Ext w13 w15 := hx14.own hg15 (fun k hk => by injection hk; omega)
      replace hA2 := hA2.grown hg15 (fun e => by injection e; omega)
      replace hA3' := hA3'.grown hg15 (fun e => by injection e; omega)
      replace hA8 := hA8.grown hg15 (fun e => by injection e; omega)
      replace hO := hO.kept hg15 (fun a ha e => by injection e with e; have := hgO a.block (by rw [ha]; rfl); omega)
      repeat' (first | (apply G_on; exact rfl; first | ((first | apply G1_move | apply G1_assign); exact rfl; exact rfl) | (apply G1_add; exact rfl; exact rfl; omega; omega; exact rfl)) | apply G_nil | apply Post_next | apply W_seq | apply W_region | (apply W_cond_false; exact rfl) | apply W_skip | apply Post_block_normal)
      exact Post_round (i + 1) ⟨rfl, rfl, rfl, rfl, rfl, rfl, rfl, trivial⟩ ⟨(hx12.trans hx13).trans hx15, by have := hx15.size; omega, hA2, hA3', hA8, hO, by omega⟩ (by omega)
    · rw [List.take_of_length_le (by omega), List.drop_of_length_le (by omega), List.append_nil] at hO
      repeat' (first | (apply G_on; exact rfl; (apply G1_lss; exact rfl; exact rfl; exact rfl)) | apply G_nil | apply Post_next | apply W_seq | apply W_region | (apply W_cond_dec; exact rfl; all_goals (intro h; try (exfalso; omega))) | apply W_exit | apply Post_then_exit | apply Post_block_exit | apply Post_block_normal)
      exact Post_round (1, q6, d6) ⟨rfl, rfl, rfl, trivial⟩ ⟨hx9, by omega, hA2, hA3', by rw [if_neg (by simp)]; exact hO, fun e => by simp at e, Nat.le_refl _⟩ (by simp)
  · refine W_keep [(2, .pointer (some (adr (bx a2) 0))), (3, .pointer (some (adr (bx a3) 0))), (4, .slice q6 0 d6)] ⟨rfl, rfl, rfl, trivial⟩ ?_
    rw [if_neg (by omega)] at hO
    repeat' (first | (apply G_on; exact rfl; first | (apply G1_move; exact rfl; exact rfl) | (apply G1_len; exact T.s71; exact rfl; exact rfl) | (apply G1_gtr; exact rfl; exact rfl; exact rfl) | (apply G1_loadBAgg; exact T.a24; exact rfl; assumption; exact rfl; exact rfl)) | apply G_nil | apply Post_next | apply W_seq | apply W_region | (apply W_cond_false; exact rfl) | apply W_exit | apply Post_then_exit | apply Post_block_exit)
    apply G_on; exact rfl; apply G1_storeB; exact T.z24; exact rfl; exact rfl; exact hA2; exact rfl; exact rfl; (first | exact Nat.le_of_ble_eq_true rfl | (focus (simp [Value.cells]; done))); (first | exact Enc.one _ _ | (focus (simp [Value.oneCell']; done)) | (focus (simp [Value.cells, Value.oneCell']; done)) | exact Enc.oneAgg _ _); exact rfl; (first | exact .inl rfl | exact .inr (by simp [exempt])); exact rfl; intro w7 hA7 hg7 hs7
    replace hA7 : Blk w7.heap a2 24 [.int .i64 5, .string ⟨#[]⟩, .int .i64 0, .slice p' rs.length c'] := hA7
    replace hA3' := hA3'.grown hg7 (fun e => by injection e; omega)
    have hO7 := hO.kept hg7 (fun a ha e => by injection e with e; have := hOlt a.block (by rw [ha]; rfl); omega)
    have hx7 : Ext w w7 := hx6.own hg7 (fun k hk => by injection hk; omega)
    repeat' (first | apply G_nil | apply Post_next | apply W_ret)
    refine Post_ret Tryd.results18 ⟨_, _, _, rfl, rfl, run_loadVar_box T.a24 (by assumption) rfl, rfl⟩ ?_
    have hsl := hO7.sl
    exact ⟨p', c', rfl, hsl, (by repeat first | assumption | exact Ext.rfl' | apply Ext.drew | apply Ext.alloc | refine Ext.trans ?_ (by assumption))⟩
end Go.Proofs.YtikjnmpijflnaaaDoor

/- The document's Size, Right, Same of replies: the walks. -/
namespace Go.V
theorem sizeT_le : ∀ (d : Nat) (t : Rep), 0 ≤ sizeT d t ∧ sizeT d t ≤ 100000 * (d + 1)
  | 0, t => by simp [sizeT]
  | d + 1, t => by
    have key : ∀ (l : List Rep) (n : Int), 0 ≤ n → n ≤ 100000 * (d + 2) → 0 ≤ sizeL (sizeT d) l n ∧ sizeL (sizeT d) l n ≤ 100000 * (d + 2) := by
      intro l
      induction l with
      | nil => intro n h1 h2; exact ⟨h1, h2⟩
      | cons x l ih =>
        intro n h1 h2
        unfold sizeL
        split
        · have := sizeT_le d x
          exact ih _ (by omega) (by omega)
        · exact ⟨h1, h2⟩
    unfold sizeT
    split
    · constructor
      · omega
      · have : (0 : Int) ≤ (d : Int) := by omega
        push_cast; omega
    · have := key t.l 1 (by omega) (by omega)
      push_cast
      constructor
      · exact this.1
      · have := this.2; omega
theorem sizeL_stop (f : Rep → Int) (l : List Rep) (n : Int) (h : ¬ n < 100000) : sizeL f l n = n := by
  cases l with
  | nil => rfl
  | cons x l => unfold sizeL; rw [if_neg h]
theorem sizeL_cons (f : Rep → Int) (x : Rep) (l : List Rep) (n : Int) (h : n < 100000) : sizeL f (x :: l) n = sizeL f l (n + f x) := by
  conv => lhs; unfold sizeL
  rw [if_pos h]
theorem dropc {α : Type} {xs : List α} {k : Nat} {x : α} (h : xs[k]? = some x) : xs.drop k = x :: xs.drop (k + 1) := by
  rw [List.drop_eq_getElem_cons (get_lt h)]
  rw [List.getElem?_eq_getElem (get_lt h)] at h
  injection h with h
  rw [h]
end Go.V
namespace Go.Proofs.YtikjnmpijflnaaaDoor
open Go.V
attribute [local irreducible] Blk Own hcell IntT SliceT PlainT AggT SizeT StrT FieldT ZeroT EqT ArrT
theorem size_spec : ∀ (d e : Nat) {r : RawR} {t : Rep} {w : World}, d ≤ 20 → RepAt w.heap e r t →
    Ctr Tryd.prog 13 [.agg (eRep.enc r).toArray, .int .i64 (d : Int)] w (fun v w' => v = .int .i64 (sizeT d t) ∧ Ext w w') := by
  intro d
  induction d with
  | zero =>
    intro e r t w _ hr
    refine Ctr_of Tryd.func13 Tryd.ntmps13 rfl rfl rfl ?_
    repeat' (first | apply W_seq | apply W_region)
    apply G_on; exact rfl; apply G1_box; exact rfl; exact rfl; exact rfl; intro a1 w1 ha1 hA1 hx1 hs1
    repeat' (first | (apply G_on; exact rfl; first | ((first | apply G1_assign | apply G1_move); exact rfl; exact rfl) | (apply G1_eql; exact rfl; exact rfl; exact rfl) | (apply G1_pick_t; exact rfl; exact rfl; exact rfl)) | apply G_nil | apply Post_next | apply W_seq | apply W_region | (apply W_cond_true; exact rfl) | (apply G_off; exact rfl; exact rfl) | apply W_ret | apply Post_then_ret)
    refine Post_ret Tryd.results13 ⟨_, _, rfl, rfl, rfl⟩ ?_
    exact ⟨rfl, (by repeat first | assumption | exact Ext.rfl' | apply Ext.drew | apply Ext.alloc | refine Ext.trans ?_ (by assumption))⟩
  | succ d ih =>
    intro e r t w hd hr
    obtain ⟨e, rs, rfl, hk, hs, hn, hl, hsz, hfit, hL⟩ := hr.open
    refine Ctr_of Tryd.func13 Tryd.ntmps13 rfl rfl rfl ?_
    repeat' (first | apply W_seq | apply W_region)
    apply G_on; exact rfl; apply G1_box; exact rfl; exact rfl; exact rfl; intro a1 w1 ha1 hA1 hx1 hs1
    replace hA1 : Blk w1.heap a1 24 [.int .i64 r.kind, .string r.s, .int .i64 r.n, .slice r.p r.len r.cap] := hA1
    rw [hk, hs, hn, hl] at hA1
    simp only [maxLen] at hsz
    by_cases h2 : 2000 < t.s.size
    · repeat' (first | (apply G_on; exact rfl; first | ((first | apply G1_assign | apply G1_move); exact rfl; exact rfl) | ((first | apply G1_eql | apply G1_gtr); exact rfl; exact rfl; exact rfl) | (apply G1_fieldAddr; exact T.f24_1; exact rfl; exact rfl) | (apply G1_loadB; exact T.p9; exact rfl; assumption; exact rfl; exact rfl) | (apply G1_slen; exact T.str9; exact rfl; exact rfl) | (apply G1_pick_f; exact rfl; exact rfl; exact rfl)) | apply G_nil | apply Post_next | apply W_seq | apply W_region | (apply W_cond_dec; exact rfl; all_goals (intro h; try (exfalso; omega))) | apply W_ret | apply Post_then_ret)
      all_goals try (exfalso; omega)
      refine Post_ret Tryd.results13 ⟨_, _, rfl, rfl, rfl⟩ ?_
      exact ⟨by unfold sizeT; rw [if_pos h2]; rfl, (by repeat first | assumption | exact Ext.rfl' | apply Ext.drew | apply Ext.alloc | refine Ext.trans ?_ (by assumption))⟩
    · have hst : sizeT (d + 1) t = sizeL (sizeT d) t.l 1 := by
        conv => lhs; unfold sizeT
        rw [if_neg h2]
      rw [hst]
      have n1 := hL.sl.bound
      have hlen := hL.len
      repeat' (first | (apply G_on; exact rfl; first | ((first | apply G1_assign | apply G1_move); exact rfl; exact rfl) | ((first | apply G1_eql | apply G1_gtr); exact rfl; exact rfl; exact rfl) | (apply G1_fieldAddr; exact T.f24_1; exact rfl; exact rfl) | (apply G1_loadB; exact T.p9; exact rfl; assumption; exact rfl; exact rfl) | (apply G1_slen; exact T.str9; exact rfl; exact rfl) | (apply G1_pick_f; exact rfl; exact rfl; exact rfl)) | apply G_nil | apply Post_next | apply W_seq | apply W_region | (apply W_cond_dec; exact rfl; all_goals (intro h; try (exfalso; omega))) | apply W_skip | apply W_block)
      all_goals try (exfalso; omega)
      refine W_loop (ι := Nat × Int) (fun y => [(1, .int .i64 ((d : Int) + 1)), (2, .pointer (some (adr (bx a1) 0))), (5, .int .i64 y.2), (6, .int .i64 (y.1 : Int))])
        (fun y w' => Ext w1 w' ∧ y.1 ≤ rs.length ∧ 0 ≤ y.2 ∧ y.2 ≤ 100000 * (d + 2) ∧ sizeL (sizeT d) t.l 1 = sizeL (sizeT d) (t.l.drop y.1) y.2) (fun y => rs.length - y.1) (0, 1) ⟨rfl, rfl, rfl, rfl, trivial⟩ ⟨(by repeat first | assumption | exact Ext.rfl' | apply Ext.drew | apply Ext.alloc | refine Ext.trans ?_ (by assumption)), Nat.zero_le _, by omega, by simp only; omega, rfl⟩ ?_
      rintro ⟨i, n⟩ w2 ⟨hx2, hi, h0, hm, hq⟩
      simp only at hi h0 hm hq
      refine W_keep [(1, .int .i64 ((d : Int) + 1)), (2, .pointer (some (adr (bx a1) 0))), (5, .int .i64 n), (6, .int .i64 (i : Int))] ⟨rfl, rfl, rfl, rfl, trivial⟩ ?_
      have hA2 := hA1.ext hx2
      have hL2 := (hL.ext hx1).ext hx2
      have hsl := hL2.sl
      by_cases hlt : i < rs.length
      · obtain ⟨r', hr'⟩ := get_some hlt
        obtain ⟨t', ht'⟩ := get_some (xs := t.l) (k := i) (by omega)
        rw [dropc ht'] at hq
        by_cases h100 : n < 100000
        · rw [sizeL_cons _ _ _ _ h100] at hq
          have hle := sizeT_le d t'
          have e1 : ((d : Int) + 1) - 1 = d := by omega
          have ih' : Ctr Tryd.prog 13 [.agg (eRep.enc r').toArray, .int .i64 ((d : Int) + 1 - 1)] w2 (fun v w' => v = .int .i64 (sizeT d t') ∧ Ext w2 w') := by
            rw [e1]; exact ih e (by omega) (hL2.get i r' t' hr' ht')
          repeat' (first | (apply G_on; exact rfl; first | ((first | apply G1_assign | apply G1_move); exact rfl; exact rfl) | (apply G1_call (f := 13); exact rfl; exact rfl; exact rfl; exact ih'; rintro _ w3 ⟨rfl, hx3⟩; refine ⟨(by first | exact .inl rfl | exact .inr (by assumption)), ?_⟩) | (apply G1_lss; exact rfl; exact rfl; exact rfl) | (apply G1_fieldAddr; exact T.f24_3; exact rfl; exact rfl) | (apply G1_loadB; exact T.p22; exact rfl; assumption; exact rfl; exact rfl) | (apply G1_pick_t; exact rfl; exact rfl; exact rfl) | (apply G1_len; exact T.s22; exact rfl; exact rfl) | (apply G1_indexAddrN; exact T.s22; exact rfl; exact rfl; (first | assumption | exact Sl.ok (by assumption) | exact (Own.sl (by assumption)).ok); omega; exact rfl) | (apply G1_loadEl; exact T.a24; exact rfl; assumption; assumption; exact rfl; exact rfl) | (apply G1_sub; exact rfl; exact rfl; omega; omega; exact rfl) | (apply G1_add; exact rfl; exact rfl; omega; omega; exact rfl)) | apply G_nil | apply Post_next | apply W_seq | apply W_region | (apply W_cond_dec; exact rfl; all_goals (intro h; try (exfalso; omega))) | ((fail_if_success (apply G_on; exact rfl)); apply G_split_dec; exact rfl; exact rfl; all_goals (intro h; try (exfalso; omega))) | apply W_skip | apply W_block | apply Post_block_normal)
          exact Post_round (i + 1, n + sizeT d t') ⟨rfl, rfl, rfl, rfl, trivial⟩ ⟨(by repeat first | assumption | exact Ext.rfl' | apply Ext.drew | apply Ext.alloc | refine Ext.trans ?_ (by assumption)), by simp only; omega, by simp only; omega, by simp only; omega, hq⟩ (by simp only; omega)
        · rw [sizeL_stop _ _ _ h100] at hq
          repeat' (first | (apply G_on; exact rfl; first | ((first | apply G1_assign | apply G1_move); exact rfl; exact rfl) | (apply G1_lss; exact rfl; exact rfl; exact rfl) | (apply G1_fieldAddr; exact T.f24_3; exact rfl; exact rfl) | (apply G1_loadB; exact T.p22; exact rfl; assumption; exact rfl; exact rfl) | (apply G1_pick_t; exact rfl; exact rfl; exact rfl) | (apply G1_len; exact T.s22; exact rfl; exact rfl)) | apply G_nil | apply Post_next | apply W_seq | apply W_region | (apply W_cond_dec; exact rfl; all_goals (intro h; try (exfalso; omega))) | ((fail_if_success (apply G_on; exact rfl)); apply G_split_dec; exact rfl; exact rfl; all_goals (intro h; try (exfalso; omega))) | apply W_exit | apply W_ret | apply Post_then_exit | apply Post_block_exit)
          refine Post_ret Tryd.results13 ⟨_, _, rfl, rfl, rfl⟩ ?_
          exact ⟨by rw [hq]; rfl, (by repeat first | assumption | exact Ext.rfl' | apply Ext.drew | apply Ext.alloc | refine Ext.trans ?_ (by assumption))⟩
      · rw [List.drop_of_length_le (by omega)] at hq
        repeat' (first | (apply G_on; exact rfl; first | ((first | apply G1_assign | apply G1_move); exact rfl; exact rfl) | (apply G1_lss; exact rfl; exact rfl; exact rfl) | (apply G1_fieldAddr; exact T.f24_3; exact rfl; exact rfl) | (apply G1_loadB; exact T.p22; exact rfl; assumption; exact rfl; exact rfl) | (apply G1_pick_f; exact rfl; exact rfl; exact rfl) | (apply G1_len; exact T.s22; exact rfl; exact rfl)) | apply G_nil | apply Post_next | apply W_seq | apply W_region | (apply W_cond_false; exact rfl) | (apply G_off; exact rfl; exact rfl) | ((fail_if_success (apply G_on; exact rfl)); apply G_split_dec; exact rfl; exact rfl; all_goals (intro h; try (exfalso; omega))) | apply W_exit | apply W_ret | apply Post_then_exit | apply Post_block_exit)
        refine Post_ret Tryd.results13 ⟨_, _, rfl, rfl, rfl⟩ ?_
        exact ⟨by rw [hq]; rfl, (by repeat first | assumption | exact Ext.rfl' | apply Ext.drew | apply Ext.alloc | refine Ext.trans ?_ (by assumption))⟩
/-- what Right looks at first -/
structure Head (t : Rep) : Prop where
  lo : 0 ≤ t.kind
  hi : t.kind ≤ 5
  list : t.kind ≠ 5 → t.l.length = 0
  num : t.kind ≠ 2 → t.n = 0
  text : t.kind ≠ 0 → t.kind ≠ 1 → t.kind ≠ 3 → t.s = ⟨#[]⟩
theorem leaf_iff {t : Rep} : leafOk t = true ↔ Head t ∧ (t.kind < 2 → nobr t.s = true) := by
  unfold leafOk
  simp only [Bool.and_eq_true, Bool.or_eq_true, decide_eq_true_eq, List.isEmpty_iff]
  constructor
  · rintro ⟨⟨⟨⟨⟨h1, h2⟩, h3⟩, h4⟩, h5⟩, h6⟩
    refine ⟨⟨h1, h2, fun e => by rw [h3.resolve_left e]; rfl, fun e => h4.resolve_left e, fun e1 e2 e3 => ?_⟩, fun e => h6.resolve_left (by omega)⟩
    rcases h5 with ((h5 | h5) | h5) | h5
    · exact absurd h5 e1
    · exact absurd h5 e2
    · exact absurd h5 e3
    · exact h5
  · rintro ⟨⟨h1, h2, h3, h4, h5⟩, h6⟩
    refine ⟨⟨⟨⟨⟨h1, h2⟩, ?_⟩, ?_⟩, ?_⟩, ?_⟩
    · by_cases e : t.kind = 5
      · exact .inl e
      · exact .inr (List.eq_nil_of_length_eq_zero (h3 e))
    · by_cases e : t.kind = 2
      · exact .inl e
      · exact .inr (h4 e)
    · by_cases e : t.kind = 0 ∨ t.kind = 1 ∨ t.kind = 3
      · rcases e with e | e | e
        · exact .inl (.inl (.inl e))
        · exact .inl (.inl (.inr e))
        · exact .inl (.inr e)
      · exact .inr (h5 (by omega) (by omega) (by omega))
    · by_cases e : t.kind < 2
      · exact .inr (h6 e)
      · exact .inl (by omega)
theorem right_zero (t : Rep) : rightT 0 t = (leafOk t && decide (t.kind ≠ 5)) := rfl
theorem right_succ (d : Nat) (t : Rep) : rightT (d + 1) t = (leafOk t && t.l.all (rightT d)) := rfl
theorem right_no {d : Nat} {t : Rep} (h : leafOk t = false) : rightT d t = false := by
  cases d <;> simp [rightT, h]

theorem leaf_no {t : Rep} (h : ¬ Head t) : leafOk t = false := by
  cases e : leafOk t with
  | false => rfl
  | true => exact absurd (leaf_iff.1 e).1 h


theorem right_spec : ∀ (d e : Nat) {r : RawR} {t : Rep} {w : World}, d ≤ 20 → RepAt w.heap e r t →
    Ctr Tryd.prog 14 [.agg (eRep.enc r).toArray, .int .i64 (d : Int)] w (fun v w' => v = .bool (rightT d t) ∧ Ext w w') := by
  intro d
  induction d with
  | zero =>
    intro e r t w _ hr
    obtain ⟨e, rs, rfl, hk, hs, hn, hl, hsz, hfit, hL⟩ := hr.open
    have n1 := hL.sl.bound
    have hlen := hL.len
    simp only [maxLen] at hsz
    refine Ctr_of Tryd.func14 Tryd.ntmps14 rfl rfl rfl ?_
    repeat' (first | apply W_seq | apply W_region)
    apply G_on; exact rfl; apply G1_box; exact rfl; exact rfl; exact rfl; intro a1 w1 ha1 hA1 hx1 hs1
    replace hA1 : Blk w1.heap a1 24 [.int .i64 r.kind, .string r.s, .int .i64 r.n, .slice r.p r.len r.cap] := hA1
    rw [hk, hs, hn, hl] at hA1
    rcases Classical.em (Head t) with hh | hh
    rotate_left
    · repeat' (first | (refine W_cutR (id := 1) [(1, .int .i64 (0 : Int)), (2, .pointer (some (adr (bx a1) 0))), (55, .bool true)] (fun w' => w' = w1) ?_ ?_) | (refine Post_cut ⟨rfl, rfl, rfl, trivial⟩ rfl) | (apply G_on; exact rfl; first | ((first | apply G1_assign | apply G1_move); exact rfl; exact rfl) | (apply G1_fieldAddr; (first | exact T.f24_0 | exact T.f24_3 | exact T.f24_2 | exact T.f24_1); exact rfl; exact rfl) | (apply G1_loadB; (first | exact T.p3 | exact T.p22 | exact T.p9); exact rfl; assumption; exact rfl; exact rfl) | ((first | apply G1_lss | apply G1_gtr); exact rfl; exact rfl; exact rfl) | (apply G1_pick_t; exact rfl; exact rfl; exact rfl) | (apply G1_pick_f; exact rfl; exact rfl; exact rfl) | (apply G1_neq; exact rfl; exact rfl; exact rfl) | (apply G1_len; exact T.s22; exact rfl; exact rfl) | (apply G1_sneq; exact rfl; exact rfl; exact rfl)) | apply G_nil | apply Post_next | apply W_seq | apply W_region | (apply G_off; exact rfl; exact rfl) | ((fail_if_success (apply G_on; exact rfl)); apply G_split_dec; exact rfl; exact rfl; all_goals (intro h; try (exfalso; omega))))
      all_goals try first
        | exact absurd (⟨by omega, by omega, by intro _; omega, by intro _; omega, by intro _ _ _; omega⟩ : Head t) hh
        | (refine Post_cut ⟨rfl, rfl, ?_, trivial⟩ rfl
           show some (Value.bool (decide _)) = _
           have hns : ¬ t.s = ⟨#[]⟩ := fun he => hh ⟨by omega, by omega, by intro _; omega, by intro _; omega, fun _ _ _ => he⟩
           rw [decide_eq_true hns])
      intro w' e'; rw [e']; clear e' w'
      repeat' (first | (apply G_on; exact rfl; (apply G1_assign; exact rfl; exact rfl)) | apply G_nil | apply Post_next | apply W_seq | apply W_region | (apply W_cond_true; exact rfl) | apply W_ret | apply Post_then_ret)
      refine Post_ret Tryd.results14 ⟨_, _, rfl, rfl, rfl⟩ ?_
      exact ⟨by rw [right_no (leaf_no hh)]; rfl, (by repeat first | assumption | exact Ext.rfl' | apply Ext.drew | apply Ext.alloc | refine Ext.trans ?_ (by assumption))⟩
    have h1 := hh.lo
    have h2 := hh.hi
    have h3 := hh.list
    have h4 := hh.num
    repeat' (first | (refine W_cutR (id := 1) [(1, .int .i64 (0 : Int)), (2, .pointer (some (adr (bx a1) 0))), (55, .bool false)] (fun w' => w' = w1) ?_ ?_) | (refine Post_cut ⟨rfl, rfl, rfl, trivial⟩ rfl) | (apply G_on; exact rfl; first | ((first | apply G1_assign | apply G1_move); exact rfl; exact rfl) | (apply G1_fieldAddr; (first | exact T.f24_0 | exact T.f24_3 | exact T.f24_2 | exact T.f24_1); exact rfl; exact rfl) | (apply G1_loadB; (first | exact T.p3 | exact T.p22 | exact T.p9); exact rfl; assumption; exact rfl; exact rfl) | ((first | apply G1_lss | apply G1_gtr); exact rfl; exact rfl; exact rfl) | (apply G1_pick_t; exact rfl; exact rfl; exact rfl) | (apply G1_pick_f; exact rfl; exact rfl; exact rfl) | (apply G1_neq; exact rfl; exact rfl; exact rfl) | (apply G1_len; exact T.s22; exact rfl; exact rfl) | (apply G1_sneq; exact rfl; exact rfl; exact rfl)) | apply G_nil | apply Post_next | apply W_seq | apply W_region | (apply G_off; exact rfl; exact rfl) | ((fail_if_success (apply G_on; exact rfl)); apply G_split_dec; exact rfl; exact rfl; all_goals (intro h; try (exfalso; omega))))
    all_goals try
      refine Post_cut ⟨rfl, rfl, ?_, trivial⟩ rfl
      show some (Value.bool (decide _)) = _
      rw [decide_eq_false (fun h => h (hh.text (by omega) (by omega) (by omega)))]
    intro w' e'; rw [e']; clear e' w'
    repeat' (first | (apply G_on; exact rfl; (apply G1_assign; exact rfl; exact rfl)) | apply G_nil | apply Post_next | apply W_seq | apply W_region | (apply W_cond_false; exact rfl) | apply W_skip | apply W_block)
    refine W_loop (ι := Nat) (fun k => [(1, .int .i64 (0 : Int)), (2, .pointer (some (adr (bx a1) 0))), (5, .int .i64 (k : Int))])
      (fun k w' => Ext w w' ∧ Blk w'.heap a1 24 [.int .i64 t.kind, .string t.s, .int .i64 t.n, .slice r.p rs.length r.cap] ∧ k ≤ t.s.size ∧ (t.kind < 2 → ∀ j, j < k → bget t.s j ≠ 13 ∧ bget t.s j ≠ 10)) (fun k => t.s.size - k) 0 ⟨rfl, rfl, rfl, trivial⟩ ⟨hx1, hA1, Nat.zero_le _, fun _ j hj => by omega⟩ ?_
    rintro k w2 ⟨hx2, hA2, hk2, hb⟩
    rcases Classical.em (t.kind < 2 ∧ k < t.s.size) with hk3 | hk3
    · by_cases hbad : bget t.s k = 13 ∨ bget t.s k = 10
      · have hno : leafOk t = false := by
          cases e : leafOk t with
          | false => rfl
          | true =>
            have := (nobr_iff t.s).1 ((leaf_iff.1 e).2 hk3.1) k hk3.2
            rcases hbad with hb | hb
            · exact absurd hb this.1
            · exact absurd hb this.2
        have hbn : ((bget t.s ((k : Int).toNat)).toNat : Int) = 13 ∨ ((bget t.s ((k : Int).toNat)).toNat : Int) = 10 := by
          rw [Int.toNat_natCast]
          rcases hbad with hb | hb <;> rw [hb] <;> simp
        repeat' (first | (apply G_on; exact rfl; first | ((first | apply G1_assign | apply G1_move); exact rfl; exact rfl) | (apply G1_fieldAddr; (first | exact T.f24_0 | exact T.f24_1); exact rfl; exact rfl) | (apply G1_loadB; (first | exact T.p3 | exact T.p9); exact rfl; assumption; exact rfl; exact rfl) | ((first | apply G1_lss | apply G1_eql); exact rfl; exact rfl; exact rfl) | (apply G1_pick_t; exact rfl; exact rfl; exact rfl) | (apply G1_pick_f; exact rfl; exact rfl; exact rfl) | (apply G1_slen; exact T.str9; exact rfl; exact rfl) | (apply G1_sindex; exact T.str9; exact rfl; exact rfl; omega; omega; exact rfl)) | apply G_nil | apply Post_next | apply W_seq | apply W_region | (apply W_cond_true; exact rfl) | (apply W_cond_dec; exact rfl; all_goals (intro h; try (exfalso; omega))) | (apply G_off; exact rfl; exact rfl) | ((fail_if_success (apply G_on; exact rfl)); apply G_split_dec; exact rfl; exact rfl; all_goals (intro h; try (exfalso; omega))) | apply W_skip | apply W_ret | apply W_block | apply Post_then_ret | apply Post_block_ret)
        all_goals
          refine Post_ret Tryd.results14 ⟨_, _, rfl, rfl, rfl⟩ ?_
          exact ⟨by rw [right_no hno]; rfl, (by repeat first | assumption | exact Ext.rfl' | apply Ext.drew | apply Ext.alloc | refine Ext.trans ?_ (by assumption))⟩
      · have hbn : ¬ ((bget t.s ((k : Int).toNat)).toNat : Int) = 13 ∧ ¬ ((bget t.s ((k : Int).toNat)).toNat : Int) = 10 := by
          rw [Int.toNat_natCast]
          constructor
          · intro e; exact hbad (.inl (UInt8.toNat_inj.1 (by show (bget t.s k).toNat = 13; omega)))
          · intro e; exact hbad (.inr (UInt8.toNat_inj.1 (by show (bget t.s k).toNat = 10; omega)))
        repeat' (first | (apply G_on; exact rfl; first | ((first | apply G1_assign | apply G1_move); exact rfl; exact rfl) | (apply G1_fieldAddr; (first | exact T.f24_0 | exact T.f24_1); exact rfl; exact rfl) | (apply G1_loadB; (first | exact T.p3 | exact T.p9); exact rfl; assumption; exact rfl; exact rfl) | ((first | apply G1_lss | apply G1_eql); exact rfl; exact rfl; exact rfl) | (apply G1_pick_t; exact rfl; exact rfl; exact rfl) | (apply G1_pick_f; exact rfl; exact rfl; exact rfl) | (apply G1_slen; exact T.str9; exact rfl; exact rfl) | (apply G1_sindex; exact T.str9; exact rfl; exact rfl; omega; omega; exact rfl) | (apply G1_add; exact rfl; exact rfl; omega; omega; exact rfl)) | apply G_nil | apply Post_next | apply W_seq | apply W_region | (apply W_cond_dec; exact rfl; all_goals (intro h; try (exfalso; omega))) | ((fail_if_success (apply G_on; exact rfl)); apply G_split_dec; exact rfl; exact rfl; all_goals (intro h; try (exfalso; omega))) | apply W_skip | apply W_block | apply Post_block_normal)
        refine Post_round (k + 1) ⟨rfl, rfl, rfl, trivial⟩ ⟨(by repeat first | assumption | exact Ext.rfl' | apply Ext.drew | apply Ext.alloc | refine Ext.trans ?_ (by assumption)), hA2, by omega, fun hk j hj => ?_⟩ (by omega)
        by_cases e : j = k
        · subst e; exact ⟨fun e => hbad (.inl e), fun e => hbad (.inr e)⟩
        · exact hb hk j (by omega)
    have hleaf : leafOk t = true := leaf_iff.2 ⟨hh, fun hk => (nobr_iff t.s).2 (fun j hj => hb hk j (by omega))⟩
    have hL2 := hL.ext hx2
    have hsl := hL2.sl
    repeat' (first | (refine W_cutR (id := 4) [(1, .int .i64 (0 : Int)), (2, .pointer (some (adr (bx a1) 0))), (65, .bool false)] (fun w' => w' = w2) ?_ ?_) | (apply G_on; exact rfl; first | (apply G1_move; exact rfl; exact rfl) | (apply G1_fieldAddr; (first | exact T.f24_0 | exact T.f24_1); exact rfl; exact rfl) | (apply G1_loadB; (first | exact T.p3 | exact T.p9); exact rfl; assumption; exact rfl; exact rfl) | (apply G1_lss; exact rfl; exact rfl; exact rfl) | (apply G1_pick_t; exact rfl; exact rfl; exact rfl) | (apply G1_pick_f; exact rfl; exact rfl; exact rfl) | (apply G1_slen; exact T.str9; exact rfl; exact rfl)) | apply G_nil | apply W_seq | apply W_region | (refine Post_cut ⟨rfl, rfl, rfl, trivial⟩ rfl) | (apply G_off; exact rfl; exact rfl) | ((fail_if_success (apply G_on; exact rfl)); apply G_split_dec; exact rfl; exact rfl; all_goals (intro h; try (exfalso; omega))))
    all_goals try
      refine Post_cut ⟨rfl, rfl, ?_, trivial⟩ rfl
      show some (Value.bool (decide _)) = _
      rw [decide_eq_false (by omega)]
    intro w' e'; rw [e']; clear e' w'
    by_cases hk5 : t.kind = 5
    · repeat' (first | (apply G_on; exact rfl; first | ((first | apply G1_assign | apply G1_move); exact rfl; exact rfl) | (apply G1_fieldAddr; exact T.f24_0; exact rfl; exact rfl) | (apply G1_loadB; exact T.p3; exact rfl; assumption; exact rfl; exact rfl) | (apply G1_eql; exact rfl; exact rfl; exact rfl) | (apply G1_pick_t; exact rfl; exact rfl; exact rfl)) | apply G_nil | apply Post_next | apply W_seq | apply W_region | (apply W_cond_true; exact rfl) | (apply W_cond_false; exact rfl) | ((fail_if_success (apply G_on; exact rfl)); apply G_split_dec; exact rfl; exact rfl; all_goals (intro h; try (exfalso; omega))) | apply W_exit | apply W_ret | apply Post_then_ret | apply Post_then_exit | apply Post_block_exit)
      refine Post_ret Tryd.results14 ⟨_, _, rfl, rfl, rfl⟩ ?_
      exact ⟨by rw [right_zero, hk5]; simp; rfl, (by repeat first | assumption | exact Ext.rfl' | apply Ext.drew | apply Ext.alloc | refine Ext.trans ?_ (by assumption))⟩
    · have hl0 := h3 hk5
      repeat' (first | (apply G_on; exact rfl; first | ((first | apply G1_assign | apply G1_move); exact rfl; exact rfl) | (apply G1_fieldAddr; exact T.f24_0; exact rfl; exact rfl) | (apply G1_loadB; exact T.p3; exact rfl; assumption; exact rfl; exact rfl) | (apply G1_eql; exact rfl; exact rfl; exact rfl) | (apply G1_pick_f; exact rfl; exact rfl; exact rfl)) | apply G_nil | apply Post_next | apply W_seq | apply W_region | (apply W_cond_false; exact rfl) | (apply G_off; exact rfl; exact rfl) | ((fail_if_success (apply G_on; exact rfl)); apply G_split_dec; exact rfl; exact rfl; all_goals (intro h; try (exfalso; omega))) | apply W_skip | apply W_exit | apply W_block | apply Post_then_exit | apply Post_block_exit)
      refine W_loop (ι := Unit) (fun _ => [(2, .pointer (some (adr (bx a1) 0))), (6, .int .i64 0)]) (fun _ w' => w' = w2) (fun _ => 0) () ⟨rfl, rfl, trivial⟩ rfl ?_
      rintro _ _ rfl
      repeat' (first | (apply G_on; exact rfl; first | ((first | apply G1_assign | apply G1_move); exact rfl; exact rfl) | (apply G1_fieldAddr; exact T.f24_3; exact rfl; exact rfl) | (apply G1_loadB; exact T.p22; exact rfl; assumption; exact rfl; exact rfl) | (apply G1_lss; exact rfl; exact rfl; exact rfl) | (apply G1_len; exact T.s22; exact rfl; exact rfl)) | apply G_nil | apply Post_next | apply W_seq | apply W_region | (apply W_cond_dec; exact rfl; all_goals (intro h; try (exfalso; omega))) | apply W_exit | apply W_ret | apply Post_then_exit | apply Post_block_exit)
      refine Post_ret Tryd.results14 ⟨_, _, rfl, rfl, rfl⟩ ?_
      exact ⟨by rw [right_zero, hleaf, decide_eq_true hk5]; rfl, (by repeat first | assumption | exact Ext.rfl' | apply Ext.drew | apply Ext.alloc | refine Ext.trans ?_ (by assumption))⟩
  | succ d ih =>
    intro e r t w hd hr
    obtain ⟨e, rs, rfl, hk, hs, hn, hl, hsz, hfit, hL⟩ := hr.open
    have n1 := hL.sl.bound
    have hlen := hL.len
    simp only [maxLen] at hsz
    refine Ctr_of Tryd.func14 Tryd.ntmps14 rfl rfl rfl ?_
    repeat' (first | apply W_seq | apply W_region)
    apply G_on; exact rfl; apply G1_box; exact rfl; exact rfl; exact rfl; intro a1 w1 ha1 hA1 hx1 hs1
    replace hA1 : Blk w1.heap a1 24 [.int .i64 r.kind, .string r.s, .int .i64 r.n, .slice r.p r.len r.cap] := hA1
    rw [hk, hs, hn, hl] at hA1
    rcases Classical.em (Head t) with hh | hh
    rotate_left
    · repeat' (first | (refine W_cutR (id := 1) [(1, .int .i64 ((d : Int) + 1)), (2, .pointer (some (adr (bx a1) 0))), (55, .bool true)] (fun w' => w' = w1) ?_ ?_) | (refine Post_cut ⟨rfl, rfl, rfl, trivial⟩ rfl) | (apply G_on; exact rfl; first | ((first | apply G1_assign | apply G1_move); exact rfl; exact rfl) | (apply G1_fieldAddr; (first | exact T.f24_0 | exact T.f24_3 | exact T.f24_2 | exact T.f24_1); exact rfl; exact rfl) | (apply G1_loadB; (first | exact T.p3 | exact T.p22 | exact T.p9); exact rfl; assumption; exact rfl; exact rfl) | ((first | apply G1_lss | apply G1_gtr); exact rfl; exact rfl; exact rfl) | (apply G1_pick_t; exact rfl; exact rfl; exact rfl) | (apply G1_pick_f; exact rfl; exact rfl; exact rfl) | (apply G1_neq; exact rfl; exact rfl; exact rfl) | (apply G1_len; exact T.s22; exact rfl; exact rfl) | (apply G1_sneq; exact rfl; exact rfl; exact rfl)) | apply G_nil | apply Post_next | apply W_seq | apply W_region | (apply G_off; exact rfl; exact rfl) | ((fail_if_success (apply G_on; exact rfl)); apply G_split_dec; exact rfl; exact rfl; all_goals (intro h; try (exfalso; omega))))
      all_goals try first
        | exact absurd (⟨by omega, by omega, by intro _; omega, by intro _; omega, by intro _ _ _; omega⟩ : Head t) hh
        | (refine Post_cut ⟨rfl, rfl, ?_, trivial⟩ rfl
           show some (Value.bool (decide _)) = _
           have hns : ¬ t.s = ⟨#[]⟩ := fun he => hh ⟨by omega, by omega, by intro _; omega, by intro _; omega, fun _ _ _ => he⟩
           rw [decide_eq_true hns])
      intro w' e'; rw [e']; clear e' w'
      repeat' (first | (apply G_on; exact rfl; (apply G1_assign; exact rfl; exact rfl)) | apply G_nil | apply Post_next | apply W_seq | apply W_region | (apply W_cond_true; exact rfl) | apply W_ret | apply Post_then_ret)
      refine Post_ret Tryd.results14 ⟨_, _, rfl, rfl, rfl⟩ ?_
      exact ⟨by rw [right_no (leaf_no hh)]; rfl, (by repeat first | assumption | exact Ext.rfl' | apply Ext.drew | apply Ext.alloc | refine Ext.trans ?_ (by assumption))⟩
    have h1 := hh.lo
    have h2 := hh.hi
    have h3 := hh.list
    have h4 := hh.num
    repeat' (first | (refine W_cutR (id := 1) [(1, .int .i64 ((d : Int) + 1)), (2, .pointer (some (adr (bx a1) 0))), (55, .bool false)] (fun w' => w' = w1) ?_ ?_) | (refine Post_cut ⟨rfl, rfl, rfl, trivial⟩ rfl) | (apply G_on; exact rfl; first | ((first | apply G1_assign | apply G1_move); exact rfl; exact rfl) | (apply G1_fieldAddr; (first | exact T.f24_0 | exact T.f24_3 | exact T.f24_2 | exact T.f24_1); exact rfl; exact rfl) | (apply G1_loadB; (first | exact T.p3 | exact T.p22 | exact T.p9); exact rfl; assumption; exact rfl; exact rfl) | ((first | apply G1_lss | apply G1_gtr); exact rfl; exact rfl; exact rfl) | (apply G1_pick_t; exact rfl; exact rfl; exact rfl) | (apply G1_pick_f; exact rfl; exact rfl; exact rfl) | (apply G1_neq; exact rfl; exact rfl; exact rfl) | (apply G1_len; exact T.s22; exact rfl; exact rfl) | (apply G1_sneq; exact rfl; exact rfl; exact rfl)) | apply G_nil | apply Post_next | apply W_seq | apply W_region | (apply G_off; exact rfl; exact rfl) | ((fail_if_success (apply G_on; exact rfl)); apply G_split_dec; exact rfl; exact rfl; all_goals (intro h; try (exfalso; omega))))
    all_goals try
      refine Post_cut ⟨rfl, rfl, ?_, trivial⟩ rfl
      show some (Value.bool (decide _)) = _
      rw [decide_eq_false (fun h => h (hh.text (by omega) (by omega) (by omega)))]
    intro w' e'; rw [e']; clear e' w'
    repeat' (first | (apply G_on; exact rfl; (apply G1_assign; exact rfl; exact rfl)) | apply G_nil | apply Post_next | apply W_seq | apply W_region | (apply W_cond_false; exact rfl) | apply W_skip | apply W_block)
    refine W_loop (ι := Nat) (fun k => [(1, .int .i64 ((d : Int) + 1)), (2, .pointer (some (adr (bx a1) 0))), (5, .int .i64 (k : Int))])
      (fun k w' => Ext w w' ∧ Blk w'.heap a1 24 [.int .i64 t.kind, .string t.s, .int .i64 t.n, .slice r.p rs.length r.cap] ∧ k ≤ t.s.size ∧ (t.kind < 2 → ∀ j, j < k → bget t.s j ≠ 13 ∧ bget t.s j ≠ 10)) (fun k => t.s.size - k) 0 ⟨rfl, rfl, rfl, trivial⟩ ⟨hx1, hA1, Nat.zero_le _, fun _ j hj => by omega⟩ ?_
    rintro k w2 ⟨hx2, hA2, hk2, hb⟩
    rcases Classical.em (t.kind < 2 ∧ k < t.s.size) with hk3 | hk3
    · by_cases hbad : bget t.s k = 13 ∨ bget t.s k = 10
      · have hno : leafOk t = false := by
          cases e : leafOk t with
          | false => rfl
          | true =>
            have := (nobr_iff t.s).1 ((leaf_iff.1 e).2 hk3.1) k hk3.2
            rcases hbad with hb | hb
            · exact absurd hb this.1
            · exact absurd hb this.2
        have hbn : ((bget t.s ((k : Int).toNat)).toNat : Int) = 13 ∨ ((bget t.s ((k : Int).toNat)).toNat : Int) = 10 := by
          rw [Int.toNat_natCast]
          rcases hbad with hb | hb <;> rw [hb] <;> simp
        repeat' (first | (apply G_on; exact rfl; first | ((first | apply G1_assign | apply G1_move); exact rfl; exact rfl) | (apply G1_fieldAddr; (first | exact T.f24_0 | exact T.f24_1); exact rfl; exact rfl) | (apply G1_loadB; (first | exact T.p3 | exact T.p9); exact rfl; assumption; exact rfl; exact rfl) | ((first | apply G1_lss | apply G1_eql); exact rfl; exact rfl; exact rfl) | (apply G1_pick_t; exact rfl; exact rfl; exact rfl) | (apply G1_pick_f; exact rfl; exact rfl; exact rfl) | (apply G1_slen; exact T.str9; exact rfl; exact rfl) | (apply G1_sindex; exact T.str9; exact rfl; exact rfl; omega; omega; exact rfl)) | apply G_nil | apply Post_next | apply W_seq | apply W_region | (apply W_cond_true; exact rfl) | (apply W_cond_dec; exact rfl; all_goals (intro h; try (exfalso; omega))) | (apply G_off; exact rfl; exact rfl) | ((fail_if_success (apply G_on; exact rfl)); apply G_split_dec; exact rfl; exact rfl; all_goals (intro h; try (exfalso; omega))) | apply W_skip | apply W_ret | apply W_block | apply Post_then_ret | apply Post_block_ret)
        all_goals
          refine Post_ret Tryd.results14 ⟨_, _, rfl, rfl, rfl⟩ ?_
          exact ⟨by rw [right_no hno]; rfl, (by repeat first | assumption | exact Ext.rfl' | apply Ext.drew | apply Ext.alloc | refine Ext.trans ?_ (by assumption))⟩
      · have hbn : ¬ ((bget t.s ((k : Int).toNat)).toNat : Int) = 13 ∧ ¬ ((bget t.s ((k : Int).toNat)).toNat : Int) = 10 := by
          rw [Int.toNat_natCast]
          constructor
          · intro e; exact hbad (.inl (UInt8.toNat_inj.1 (by show (bget t.s k).toNat = 13; omega)))
          · intro e; exact hbad (.inr (UInt8.toNat_inj.1 (by show (bget t.s k).toNat = 10; omega)))
        repeat' (first | (apply G_on; exact rfl; first | ((first | apply G1_assign | apply G1_move); exact rfl; exact rfl) | (apply G1_fieldAddr; (first | exact T.f24_0 | exact T.f24_1); exact rfl; exact rfl) | (apply G1_loadB; (first | exact T.p3 | exact T.p9); exact rfl; assumption; exact rfl; exact rfl) | ((first | apply G1_lss | apply G1_eql); exact rfl; exact rfl; exact rfl) | (apply G1_pick_t; exact rfl; exact rfl; exact rfl) | (apply G1_pick_f; exact rfl; exact rfl; exact rfl) | (apply G1_slen; exact T.str9; exact rfl; exact rfl) | (apply G1_sindex; exact T.str9; exact rfl; exact rfl; omega; omega; exact rfl) | (apply G1_add; exact rfl; exact rfl; omega; omega; exact rfl)) | apply G_nil | apply Post_next | apply W_seq | apply W_region | (apply W_cond_dec; exact rfl; all_goals (intro h; try (exfalso; omega))) | ((fail_if_success (apply G_on; exact rfl)); apply G_split_dec; exact rfl; exact rfl; all_goals (intro h; try (exfalso; omega))) | apply W_skip | apply W_block | apply Post_block_normal)
        refine Post_round (k + 1) ⟨rfl, rfl, rfl, trivial⟩ ⟨(by repeat first | assumption | exact Ext.rfl' | apply Ext.drew | apply Ext.alloc | refine Ext.trans ?_ (by assumption)), hA2, by omega, fun hk j hj => ?_⟩ (by omega)
        by_cases e : j = k
        · subst e; exact ⟨fun e => hbad (.inl e), fun e => hbad (.inr e)⟩
        · exact hb hk j (by omega)
    have hleaf : leafOk t = true := leaf_iff.2 ⟨hh, fun hk => (nobr_iff t.s).2 (fun j hj => hb hk j (by omega))⟩
    have hL2 := hL.ext hx2
    have hsl := hL2.sl
    repeat' (first | (refine W_cutR (id := 4) [(1, .int .i64 ((d : Int) + 1)), (2, .pointer (some (adr (bx a1) 0))), (65, .bool false)] (fun w' => w' = w2) ?_ ?_) | (apply G_on; exact rfl; first | (apply G1_move; exact rfl; exact rfl) | (apply G1_fieldAddr; (first | exact T.f24_0 | exact T.f24_1); exact rfl; exact rfl) | (apply G1_loadB; (first | exact T.p3 | exact T.p9); exact rfl; assumption; exact rfl; exact rfl) | (apply G1_lss; exact rfl; exact rfl; exact rfl) | (apply G1_pick_t; exact rfl; exact rfl; exact rfl) | (apply G1_pick_f; exact rfl; exact rfl; exact rfl) | (apply G1_slen; exact T.str9; exact rfl; exact rfl)) | apply G_nil | apply W_seq | apply W_region | (refine Post_cut ⟨rfl, rfl, rfl, trivial⟩ rfl) | (apply G_off; exact rfl; exact rfl) | ((fail_if_success (apply G_on; exact rfl)); apply G_split_dec; exact rfl; exact rfl; all_goals (intro h; try (exfalso; omega))))
    all_goals try
      refine Post_cut ⟨rfl, rfl, ?_, trivial⟩ rfl
      show some (Value.bool (decide _)) = _
      rw [decide_eq_false (by omega)]
    intro w' e'; rw [e']; clear e' w'
    by_cases hk5 : t.kind = 5
    all_goals
      repeat' (first | (apply G_on; exact rfl; first | ((first | apply G1_assign | apply G1_move); exact rfl; exact rfl) | (apply G1_fieldAddr; exact T.f24_0; exact rfl; exact rfl) | (apply G1_loadB; exact T.p3; exact rfl; assumption; exact rfl; exact rfl) | (apply G1_eql; exact rfl; exact rfl; exact rfl) | (apply G1_pick_t; exact rfl; exact rfl; exact rfl) | (apply G1_pick_f; exact rfl; exact rfl; exact rfl)) | apply G_nil | apply Post_next | apply W_seq | apply W_region | (apply W_cond_false; exact rfl) | (apply G_off; exact rfl; exact rfl) | ((fail_if_success (apply G_on; exact rfl)); apply G_split_dec; exact rfl; exact rfl; all_goals (intro h; try (exfalso; omega))) | apply W_skip | apply W_exit | apply W_block | apply Post_then_exit | apply Post_block_exit)
      refine W_loop (ι := Nat) (fun k => [(1, .int .i64 ((d : Int) + 1)), (2, .pointer (some (adr (bx a1) 0))), (6, .int .i64 (k : Int))])
        (fun k w' => Ext w w' ∧ Ext w2 w' ∧ k ≤ rs.length ∧ (t.l.take k).all (rightT d) = true) (fun k => rs.length - k) 0 ⟨rfl, rfl, rfl, trivial⟩ ⟨(by repeat first | assumption | exact Ext.rfl' | apply Ext.drew | apply Ext.alloc | refine Ext.trans ?_ (by assumption)), (by repeat first | assumption | exact Ext.rfl' | apply Ext.drew | apply Ext.alloc | refine Ext.trans ?_ (by assumption)), Nat.zero_le _, rfl⟩ ?_
      rintro i w3 ⟨hx3, hx23, hi, hq⟩
      have hA3 := hA2.ext hx23
      have hL3 := hL2.ext hx23
      have hsl3 := hL3.sl
      by_cases hlt : i < rs.length
      · obtain ⟨r', hr'⟩ := get_some hlt
        obtain ⟨t', ht'⟩ := get_some (xs := t.l) (k := i) (by omega)
        have e1 : ((d : Int) + 1) - 1 = d := by omega
        have ih' : Ctr Tryd.prog 14 [.agg (eRep.enc r').toArray, .int .i64 ((d : Int) + 1 - 1)] w3 (fun v w' => v = .bool (rightT d t') ∧ Ext w3 w') := by
          rw [e1]; exact ih e (by omega) (hL3.get i r' t' hr' ht')
        have hts := take_snoc ht'
        cases hrt : rightT d t' with
        | true =>
          rw [hrt] at ih'
          repeat' (first | (apply G_on; exact rfl; first | ((first | apply G1_assign | apply G1_move); exact rfl; exact rfl) | (apply G1_call (f := 14); exact rfl; exact rfl; exact rfl; exact ih'; rintro _ w4 ⟨rfl, hx4⟩; refine ⟨(by first | exact .inl rfl | exact .inr (by assumption)), ?_⟩) | (apply G1_fieldAddr; exact T.f24_3; exact rfl; exact rfl) | (apply G1_loadB; exact T.p22; exact rfl; assumption; exact rfl; exact rfl) | (apply G1_lss; exact rfl; exact rfl; exact rfl) | (apply G1_len; exact T.s22; exact rfl; exact rfl) | (apply G1_add; exact rfl; exact rfl; omega; omega; exact rfl) | (apply G1_indexAddrN; exact T.s22; exact rfl; exact rfl; (first | assumption | exact Sl.ok (by assumption) | exact (Own.sl (by assumption)).ok); omega; exact rfl) | (apply G1_loadEl; exact T.a24; exact rfl; assumption; assumption; exact rfl; exact rfl) | (apply G1_sub; exact rfl; exact rfl; omega; omega; exact rfl) | (apply G1_not_t; exact rfl; exact rfl)) | apply G_nil | apply Post_next | apply W_seq | apply W_region | (apply W_cond_false; exact rfl) | (apply W_cond_dec; exact rfl; all_goals (intro h; try (exfalso; omega))) | apply W_skip | apply W_block | apply Post_block_normal)
          all_goals exact Post_round (i + 1) ⟨rfl, rfl, rfl, trivial⟩ ⟨(by repeat first | assumption | exact Ext.rfl' | apply Ext.drew | apply Ext.alloc | refine Ext.trans ?_ (by assumption)), (by repeat first | assumption | exact Ext.rfl' | apply Ext.drew | apply Ext.alloc | refine Ext.trans ?_ (by assumption)), by omega, by rw [hts, List.all_append, hq]; simp [hrt]⟩ (by omega)
        | false =>
          rw [hrt] at ih'
          repeat' (first | (apply G_on; exact rfl; first | ((first | apply G1_assign | apply G1_move); exact rfl; exact rfl) | (apply G1_call (f := 14); exact rfl; exact rfl; exact rfl; exact ih'; rintro _ w4 ⟨rfl, hx4⟩; refine ⟨(by first | exact .inl rfl | exact .inr (by assumption)), ?_⟩) | (apply G1_fieldAddr; exact T.f24_3; exact rfl; exact rfl) | (apply G1_loadB; exact T.p22; exact rfl; assumption; exact rfl; exact rfl) | (apply G1_lss; exact rfl; exact rfl; exact rfl) | (apply G1_len; exact T.s22; exact rfl; exact rfl) | (apply G1_indexAddrN; exact T.s22; exact rfl; exact rfl; (first | assumption | exact Sl.ok (by assumption) | exact (Own.sl (by assumption)).ok); omega; exact rfl) | (apply G1_loadEl; exact T.a24; exact rfl; assumption; assumption; exact rfl; exact rfl) | (apply G1_sub; exact rfl; exact rfl; omega; omega; exact rfl) | (apply G1_not_f; exact rfl; exact rfl)) | apply G_nil | apply Post_next | apply W_seq | apply W_region | (apply W_cond_true; exact rfl) | (apply W_cond_dec; exact rfl; all_goals (intro h; try (exfalso; omega))) | apply W_skip | apply W_ret | apply W_block | apply Post_then_ret | apply Post_block_ret)
          all_goals
            refine Post_ret Tryd.results14 ⟨_, _, rfl, rfl, rfl⟩ ?_
            refine ⟨?_, (by repeat first | assumption | exact Ext.rfl' | apply Ext.drew | apply Ext.alloc | refine Ext.trans ?_ (by assumption))⟩
            have : t.l.all (rightT d) = false := List.all_eq_false.2 ⟨t', List.mem_of_getElem? ht', by simp [hrt]⟩
            rw [right_succ, this]; simp; rfl
      · rw [List.take_of_length_le (by omega)] at hq
        repeat' (first | (apply G_on; exact rfl; first | ((first | apply G1_assign | apply G1_move); exact rfl; exact rfl) | (apply G1_fieldAddr; exact T.f24_3; exact rfl; exact rfl) | (apply G1_loadB; exact T.p22; exact rfl; assumption; exact rfl; exact rfl) | (apply G1_lss; exact rfl; exact rfl; exact rfl) | (apply G1_len; exact T.s22; exact rfl; exact rfl)) | apply G_nil | apply Post_next | apply W_seq | apply W_region | (apply W_cond_dec; exact rfl; all_goals (intro h; try (exfalso; omega))) | apply W_exit | apply W_ret | apply Post_then_exit | apply Post_block_exit)
        refine Post_ret Tryd.results14 ⟨_, _, rfl, rfl, rfl⟩ ?_
        exact ⟨by rw [right_succ, hleaf, hq]; rfl, (by repeat first | assumption | exact Ext.rfl' | apply Ext.drew | apply Ext.alloc | refine Ext.trans ?_ (by assumption))⟩

theorem refsame_spec : ∀ (d d' : Nat) {a b : RawR} {t u : Rep} {w : World}, RepAt w.heap d a t → RepAt w.heap d' b u →
    Ctr Tryd.prog 16 [.agg (eRep.enc a).toArray, .agg (eRep.enc b).toArray] w (fun v w' => ∃ r, v = .bool r ∧ (r = true ↔ t = u) ∧ Ext w w') := by
  intro d
  induction d with
  | zero => intro d' a b t u w h; exact h.elim
  | succ d ih =>
    intro d' a b t u w ha hb
    obtain ⟨d0, rs, e0, hk, hs, hn, hl, hsz, hfit, hL⟩ := ha.open
    obtain rfl : d = d0 := by omega
    obtain ⟨d1, qs, rfl, hk', hs', hn', hl', hsz', hfit', hM⟩ := hb.open
    have n1 := hL.sl.bound
    have n2 := hM.sl.bound
    have hlen := hL.len
    have hlen' := hM.len
    refine Ctr_of Tryd.func16 Tryd.ntmps16 rfl rfl rfl ?_
    repeat' (first | apply W_seq | apply W_region)
    apply G_on; exact rfl; apply G1_box; exact rfl; exact rfl; exact rfl; intro a1 w1 ha1 hA1 hx1 hs1
    replace hA1 : Blk w1.heap a1 24 [.int .i64 a.kind, .string a.s, .int .i64 a.n, .slice a.p a.len a.cap] := hA1
    rw [hk, hs, hn, hl] at hA1
    skip
    apply G_on; exact rfl; apply G1_box; exact rfl; exact rfl; exact rfl; intro a2 w2 ha2 hA2 hx2 hs2
    replace hA2 : Blk w2.heap a2 24 [.int .i64 b.kind, .string b.s, .int .i64 b.n, .slice b.p b.len b.cap] := hA2
    rw [hk', hs', hn', hl'] at hA2
    replace hA1 := hA1.ext hx2
    have hx02 := hx1.trans hx2
    by_cases hhead : t.kind = u.kind ∧ t.s = u.s ∧ t.n = u.n ∧ rs.length = qs.length
    · obtain ⟨h1, h2, h3, h4⟩ := hhead
      rw [← h1, ← h2, ← h3] at hA2
      repeat' (first | (apply G_on; exact rfl; first | ((first | apply G1_assign | apply G1_move); exact rfl; exact rfl) | (apply G1_fieldAddr; (first | exact T.f24_0 | exact T.f24_1 | exact T.f24_2 | exact T.f24_3); exact rfl; exact rfl) | (apply G1_loadB; (first | exact T.p3 | exact T.p9 | exact T.p22); exact rfl; assumption; exact rfl; exact rfl) | (apply G1_neq; exact rfl; exact rfl; exact rfl) | (apply G1_sneq; exact rfl; exact rfl; exact rfl) | (apply G1_pick_t; exact rfl; exact rfl; exact rfl) | (apply G1_pick_f; exact rfl; exact rfl; exact rfl) | (apply G1_len; exact T.s22; exact rfl; exact rfl)) | apply G_nil | apply Post_next | apply W_seq | apply W_region | (apply W_cond_true; exact rfl) | (apply W_cond_dec; exact rfl; all_goals (intro h; try (exfalso; omega))) | (apply G_off; exact rfl; exact rfl) | ((fail_if_success (apply G_on; exact rfl)); apply G_split_dec; exact rfl; exact rfl; all_goals (intro h; try (exfalso; omega))) | apply W_skip | apply W_ret | apply W_block | apply Post_then_ret)
      all_goals try contradiction
      refine W_loop (ι := Nat) (fun k => [(2, .pointer (some (adr (bx a1) 0))), (3, .pointer (some (adr (bx a2) 0))), (5, .int .i64 (k : Int))])
        (fun k w' => Ext w w' ∧ Ext w2 w' ∧ k ≤ rs.length ∧ t.l.take k = u.l.take k) (fun k => rs.length - k) 0 ⟨rfl, rfl, rfl, trivial⟩ ⟨(by repeat first | assumption | exact Ext.rfl' | apply Ext.drew | apply Ext.alloc | refine Ext.trans ?_ (by assumption)), (by repeat first | assumption | exact Ext.rfl' | apply Ext.drew | apply Ext.alloc | refine Ext.trans ?_ (by assumption)), Nat.zero_le _, rfl⟩ ?_
      rintro i w3 ⟨hx3, hx23, hi, hq⟩
      have hA13 := hA1.ext hx23
      have hA23 := hA2.ext hx23
      have hL3 := hL.ext hx3
      have hM3 := hM.ext hx3
      have hsl := hL3.sl
      have hsm := hM3.sl
      by_cases hlt : i < rs.length
      · obtain ⟨r', hr'⟩ := get_some hlt
        obtain ⟨t', ht'⟩ := get_some (xs := t.l) (k := i) (by omega)
        obtain ⟨q', hq'⟩ := get_some (xs := qs) (k := i) (by omega)
        obtain ⟨u', hu'⟩ := get_some (xs := u.l) (k := i) (by omega)
        have ih' := fun (v : World) (hv : v.heap = w3.heap) => ih d1 (w := v) (by rw [hv]; exact hL3.get i r' t' hr' ht') (by rw [hv]; exact hM3.get i q' u' hq' hu')
        repeat' (first | (apply G_on; exact rfl; first | ((first | apply G1_assign | apply G1_move); exact rfl; exact rfl) | (apply G1_call (f := 16); exact rfl; exact rfl; exact rfl; exact ih' _ rfl; rintro _ w4 ⟨rb, rfl, hrb, hx4⟩; refine ⟨(by first | exact .inl rfl | exact .inr (by assumption)), ?_⟩) | (apply G1_fieldAddr; exact T.f24_3; exact rfl; exact rfl) | (apply G1_loadB; exact T.p22; exact rfl; assumption; exact rfl; exact rfl) | (apply G1_len; exact T.s22; exact rfl; exact rfl) | (apply G1_lss; exact rfl; exact rfl; exact rfl) | (apply G1_indexAddrN; exact T.s22; exact rfl; exact rfl; (first | assumption | exact Sl.ok (by assumption) | exact (Own.sl (by assumption)).ok); omega; exact rfl) | (apply G1_loadEl; exact T.a24; exact rfl; assumption; assumption; exact rfl; exact rfl) | (apply G1_not; exact rfl; exact rfl) | (apply G1_add; exact rfl; exact rfl; omega; omega; exact rfl)) | apply G_nil | apply Post_next | apply W_seq | apply W_region | (apply W_cond_dec; exact rfl; all_goals (intro h; try (exfalso; omega))) | (apply W_cond; exact rfl; all_goals intro h) | refine W_drawn 1 [] [0,1,2,3,4,5,6,7,8,9,10,11] mixed (by decide +kernel) ?_ | apply W_skip | apply W_ret | apply W_block | apply Post_then_ret | apply Post_block_ret | apply Post_block_normal)
        · refine Post_ret Tryd.results16 ⟨_, _, rfl, rfl, rfl⟩ ?_
          refine ⟨false, rfl, ⟨fun e => by simp at e, fun e => ?_⟩, (by repeat first | assumption | exact Ext.rfl' | apply Ext.drew | apply Ext.alloc | refine Ext.trans ?_ (by assumption))⟩
          subst e
          rw [ht'] at hu'
          injection hu' with hu'
          rw [hrb.2 hu'] at h
          simp at h
        · refine Post_round (i + 1) ⟨rfl, rfl, rfl, trivial⟩ ⟨(by repeat first | assumption | exact Ext.rfl' | apply Ext.drew | apply Ext.alloc | refine Ext.trans ?_ (by assumption)), (by repeat first | assumption | exact Ext.rfl' | apply Ext.drew | apply Ext.alloc | refine Ext.trans ?_ (by assumption)), by omega, ?_⟩ (by omega)
          have : rb = true := by cases rb with | true => rfl | false => simp at h
          rw [take_snoc ht', take_snoc hu', hq, hrb.1 this]
      · repeat' (first | (apply G_on; exact rfl; first | ((first | apply G1_assign | apply G1_move); exact rfl; exact rfl) | (apply G1_fieldAddr; exact T.f24_3; exact rfl; exact rfl) | (apply G1_loadB; exact T.p22; exact rfl; assumption; exact rfl; exact rfl) | (apply G1_len; exact T.s22; exact rfl; exact rfl) | (apply G1_lss; exact rfl; exact rfl; exact rfl)) | apply G_nil | apply Post_next | apply W_seq | apply W_region | (apply W_cond_dec; exact rfl; all_goals (intro h; try (exfalso; omega))) | apply W_exit | apply W_ret | apply Post_then_exit | apply Post_block_exit)
        refine Post_ret Tryd.results16 ⟨_, _, rfl, rfl, rfl⟩ ?_
        rw [List.take_of_length_le (by omega), List.take_of_length_le (by omega)] at hq
        exact ⟨true, rfl, ⟨fun _ => Rep.ext' h1 h2 h3 hq, fun _ => rfl⟩, (by repeat first | assumption | exact Ext.rfl' | apply Ext.drew | apply Ext.alloc | refine Ext.trans ?_ (by assumption))⟩
    · repeat' (first | (apply G_on; exact rfl; first | ((first | apply G1_assign | apply G1_move); exact rfl; exact rfl) | (apply G1_fieldAddr; (first | exact T.f24_0 | exact T.f24_1 | exact T.f24_2 | exact T.f24_3); exact rfl; exact rfl) | (apply G1_loadB; (first | exact T.p3 | exact T.p9 | exact T.p22); exact rfl; assumption; exact rfl; exact rfl) | (apply G1_neq; exact rfl; exact rfl; exact rfl) | (apply G1_sneq; exact rfl; exact rfl; exact rfl) | (apply G1_pick_t; exact rfl; exact rfl; exact rfl) | (apply G1_pick_f; exact rfl; exact rfl; exact rfl) | (apply G1_len; exact T.s22; exact rfl; exact rfl)) | apply G_nil | apply Post_next | apply W_seq | apply W_region | (apply W_cond_true; exact rfl) | (apply W_cond_dec; exact rfl; all_goals (intro h; try (exfalso; omega))) | (apply G_off; exact rfl; exact rfl) | ((fail_if_success (apply G_on; exact rfl)); apply G_split_dec; exact rfl; exact rfl; all_goals (intro h; try (exfalso; omega))) | apply W_skip | apply W_ret | apply W_block | apply Post_then_ret)
      all_goals first
        | exact absurd ⟨by omega, Classical.not_not.1 (by assumption), by omega, by omega⟩ hhead
        | (refine Post_ret Tryd.results16 ⟨_, _, rfl, rfl, rfl⟩ ?_
           exact ⟨false, rfl, ⟨fun e => by simp at e, fun e => by subst e; exact absurd ⟨rfl, rfl, rfl, by omega⟩ hhead⟩, (by repeat first | assumption | exact Ext.rfl' | apply Ext.drew | apply Ext.alloc | refine Ext.trans ?_ (by assumption))⟩)
end Go.Proofs.YtikjnmpijflnaaaDoor

/- resp.right and resp.Right: the walks. -/
namespace Go.Proofs.YtikjnmpijflnaaaDoor
open Go.V
attribute [local irreducible] Blk Own hcell IntT SliceT PlainT AggT SizeT StrT FieldT ZeroT EqT ArrT
/-- no text is long, so deep -/
def smallT : Nat → Rep → Prop
  | 0, _ => True
  | d + 1, t => t.s.size ≤ 2000 ∧ ∀ x ∈ t.l, smallT d x
theorem small_of : ∀ (d : Nat) (t : Rep), sizeT d t < 100000 → smallT d t
  | 0, _, _ => trivial
  | d + 1, t, h => by
    unfold sizeT at h
    split at h
    · omega
    · rename_i h2
      refine ⟨by omega, fun x hx => small_of d x ?_⟩
      have key : ∀ (l : List Rep) (n : Int), 0 ≤ n → sizeL (sizeT d) l n < 100000 → n ≤ sizeL (sizeT d) l n ∧ ∀ x ∈ l, sizeT d x ≤ sizeL (sizeT d) l n := by
        intro l
        induction l with
        | nil => intro n _ _; exact ⟨Int.le_refl _, by simp⟩
        | cons y l ih =>
          intro n h0 hn
          unfold sizeL at hn ⊢
          split at hn
          · rename_i h3
            rw [if_pos h3]
            have hy := (sizeT_le d y).1
            obtain ⟨i1, i2⟩ := ih _ (by omega) hn
            refine ⟨by omega, fun x hx => ?_⟩
            rcases List.mem_cons.1 hx with rfl | hx
            · omega
            · exact i2 x hx
          · rename_i h3; exact absurd hn h3
      have := (key t.l 1 (by omega) h).2 x hx
      omega
theorem smallT.mono : ∀ {d e : Nat} {t : Rep}, smallT d t → e ≤ d → smallT e t
  | _, 0, _, _, _ => trivial
  | 0, e + 1, _, _, h => by omega
  | d + 1, e + 1, t, ⟨h1, h2⟩, h => ⟨h1, fun x hx => smallT.mono (h2 x hx) (by omega)⟩
theorem right_leafk {d : Nat} {t : Rep} (h : t.kind ≠ 5) : rightT d t = leafOk t := by
  cases hl : leafOk t with
  | false => exact right_no hl
  | true =>
    have h0 : t.l = [] := List.eq_nil_of_length_eq_zero ((leaf_iff.1 hl).1.list h)
    cases d with
    | zero => rw [right_zero, hl, decide_eq_true h]; rfl
    | succ d => rw [right_succ, hl, h0]; rfl
theorem leaf_val (t : Rep) (b : Bool) (h : b = true ↔ Head t ∧ (t.kind < 2 → nobr t.s = true)) : leafOk t = b := by
  rw [Bool.eq_iff_iff, leaf_iff, h]
theorem leaf_falsy (t : Rep) (h : (Head t ∧ (t.kind < 2 → nobr t.s = true)) → False) : leafOk t = false := by
  cases e : leafOk t with
  | false => rfl
  | true => exact (h (leaf_iff.1 e)).elim

theorem pright_spec : ∀ (d : Nat) {k : Int} {e : Nat} {r : RawR} {t : Rep} {w : World}, d ≤ 4 → k + d = 4 → smallT (d + 1) t → RepAt w.heap e r t →
    Ctr Tryd.prog 63 [.agg (eRep.enc r).toArray, .int .i64 k] w (fun v w' => v = .bool (rightT d t) ∧ Ext w w') := by
  intro d
  induction d with
  | zero =>
    intro k e r t w hd4 hkd hs0 hr
    obtain ⟨e, rs, rfl, hk, hs, hn, hl, hsz, hfit, hL⟩ := hr.open
    have n1 := hL.sl.bound
    have hlen := hL.len
    have hsm := hs0.1
    refine Ctr_of Tryd.func63 Tryd.ntmps63 rfl rfl rfl ?_
    repeat' (first | apply W_seq | apply W_region)
    apply G_on; exact rfl; apply G1_box; exact rfl; exact rfl; exact rfl; intro a1 w1 ha1 hA1 hx1 hs1
    replace hA1 : Blk w1.heap a1 24 [.int .i64 r.kind, .string r.s, .int .i64 r.n, .slice r.p r.len r.cap] := hA1
    rw [hk, hs, hn, hl] at hA1
    by_cases hk5 : t.kind = 5
    rotate_left
    · rw [right_leafk hk5]
      by_cases hk01 : t.kind = 0 ∨ t.kind = 1
      · by_cases hn0 : t.n = 0 ∧ rs.length = 0
        · rw [leaf_val t (nobr t.s) ⟨fun h => ⟨⟨by omega, by omega, by omega, by omega, by omega⟩, fun _ => h⟩, fun h => h.2 (by omega)⟩]
          repeat' (first | (apply G_on; exact rfl; first | ((first | apply G1_assign | apply G1_move); exact rfl; exact rfl) | (apply G1_call (f := 77); exact rfl; exact rfl; exact rfl; exact containsBr (by omega); rintro _ w2 ⟨rfl, hx2⟩; refine ⟨(by first | exact .inl rfl | exact .inr (by assumption)), ?_⟩) | (apply G1_fieldAddr; (first | exact T.f24_0 | exact T.f24_2 | exact T.f24_3 | exact T.f24_1); exact rfl; exact rfl) | (apply G1_loadB; (first | exact T.p3 | exact T.p22 | exact T.p9); exact rfl; assumption; exact rfl; exact rfl) | (apply G1_eql; exact rfl; exact rfl; exact rfl) | (apply G1_len; exact T.s22; exact rfl; exact rfl) | (apply G1_pick_t; exact rfl; exact rfl; exact rfl) | (apply G1_not; exact rfl; exact rfl)) | apply G_nil | apply Post_next | apply W_seq | apply W_region | (apply W_cond_dec; exact rfl; all_goals (intro h; try (exfalso; omega))) | ((fail_if_success (apply G_on; exact rfl)); apply G_split_dec; exact rfl; exact rfl; all_goals (intro h; try (exfalso; omega))) | apply W_skip | apply W_ret | apply W_block | apply Post_then_ret | apply Post_block_ret)
          all_goals
            refine Post_ret Tryd.results63 ⟨_, _, rfl, rfl, rfl⟩ ?_
            exact ⟨by show Value.bool (!(!nobr t.s)) = _; rw [Bool.not_not], (by repeat first | assumption | exact Ext.rfl' | apply Ext.drew | apply Ext.alloc | refine Ext.trans ?_ (by assumption))⟩
        · rw [leaf_falsy t (fun h => absurd ⟨h.1.num (by omega), by have := h.1.list (by omega); omega⟩ hn0)]
          repeat' (first | (apply G_on; exact rfl; first | ((first | apply G1_assign | apply G1_move); exact rfl; exact rfl) | (apply G1_fieldAddr; (first | exact T.f24_0 | exact T.f24_2 | exact T.f24_3); exact rfl; exact rfl) | (apply G1_loadB; (first | exact T.p3 | exact T.p22); exact rfl; assumption; exact rfl; exact rfl) | (apply G1_eql; exact rfl; exact rfl; exact rfl) | (apply G1_len; exact T.s22; exact rfl; exact rfl) | (apply G1_pick_t; exact rfl; exact rfl; exact rfl) | (apply G1_pick_f; exact rfl; exact rfl; exact rfl)) | apply G_nil | apply Post_next | apply W_seq | apply W_region | (apply W_cond_dec; exact rfl; all_goals (intro h; try (exfalso; omega))) | (apply G_off; exact rfl; exact rfl) | ((fail_if_success (apply G_on; exact rfl)); apply G_split_dec; exact rfl; exact rfl; all_goals (intro h; try (exfalso; omega))) | apply W_skip | apply W_ret | apply W_block | apply Post_then_ret | apply Post_block_ret)
          all_goals
            refine Post_ret Tryd.results63 ⟨_, _, rfl, rfl, rfl⟩ ?_
            exact ⟨rfl, (by repeat first | assumption | exact Ext.rfl' | apply Ext.drew | apply Ext.alloc | refine Ext.trans ?_ (by assumption))⟩
      by_cases hk2 : t.kind = 2
      · by_cases hse : t.s = ⟨#[]⟩
        · rw [leaf_val t (decide ((rs.length : Int) = 0)) ⟨fun h => ⟨⟨by omega, by omega, by have := of_decide_eq_true h; omega, by omega, fun _ _ _ => hse⟩, by omega⟩, fun h => decide_eq_true (by have := h.1.list (by omega); omega)⟩]
          repeat' (first | (apply G_on; exact rfl; first | ((first | apply G1_assign | apply G1_move); exact rfl; exact rfl) | (apply G1_fieldAddr; (first | exact T.f24_0 | exact T.f24_3 | exact T.f24_1); exact rfl; exact rfl) | (apply G1_loadB; (first | exact T.p3 | exact T.p22 | exact T.p9); exact rfl; assumption; exact rfl; exact rfl) | (apply G1_eql; exact rfl; exact rfl; exact rfl) | (apply G1_len; exact T.s22; exact rfl; exact rfl) | (apply G1_pick_t; exact rfl; exact rfl; exact rfl) | (apply G1_pick_f; exact rfl; exact rfl; exact rfl) | (apply G1_seql; exact rfl; exact rfl; exact rfl)) | apply G_nil | apply Post_next | apply W_seq | apply W_region | (apply W_cond_dec; exact rfl; all_goals (intro h; try (exfalso; omega))) | (apply G_off; exact rfl; exact rfl) | ((fail_if_success (apply G_on; exact rfl)); apply G_split_dec; exact rfl; exact rfl; all_goals (intro h; try (exfalso; omega))) | apply W_ret | apply W_block | apply Post_then_ret | apply Post_block_ret)
          all_goals try contradiction
          refine Post_ret Tryd.results63 ⟨_, _, rfl, rfl, rfl⟩ ?_
          exact ⟨rfl, (by repeat first | assumption | exact Ext.rfl' | apply Ext.drew | apply Ext.alloc | refine Ext.trans ?_ (by assumption))⟩
        · rw [leaf_falsy t (fun h => absurd (h.1.text (by omega) (by omega) (by omega)) hse)]
          repeat' (first | (apply G_on; exact rfl; first | ((first | apply G1_assign | apply G1_move); exact rfl; exact rfl) | (apply G1_fieldAddr; (first | exact T.f24_0 | exact T.f24_3 | exact T.f24_1); exact rfl; exact rfl) | (apply G1_loadB; (first | exact T.p3 | exact T.p22 | exact T.p9); exact rfl; assumption; exact rfl; exact rfl) | (apply G1_eql; exact rfl; exact rfl; exact rfl) | (apply G1_len; exact T.s22; exact rfl; exact rfl) | (apply G1_pick_t; exact rfl; exact rfl; exact rfl) | (apply G1_pick_f; exact rfl; exact rfl; exact rfl) | (apply G1_seql; exact rfl; exact rfl; exact rfl)) | apply G_nil | apply Post_next | apply W_seq | apply W_region | (apply W_cond_dec; exact rfl; all_goals (intro h; try (exfalso; omega))) | (apply G_off; exact rfl; exact rfl) | ((fail_if_success (apply G_on; exact rfl)); apply G_split_dec; exact rfl; exact rfl; all_goals (intro h; try (exfalso; omega))) | apply W_ret | apply W_block | apply Post_then_ret | apply Post_block_ret)
          all_goals try contradiction
          refine Post_ret Tryd.results63 ⟨_, _, rfl, rfl, rfl⟩ ?_
          exact ⟨rfl, (by repeat first | assumption | exact Ext.rfl' | apply Ext.drew | apply Ext.alloc | refine Ext.trans ?_ (by assumption))⟩
      by_cases hk3 : t.kind = 3
      · by_cases hn0 : t.n = 0
        · rw [leaf_val t (decide ((rs.length : Int) = 0)) ⟨fun h => ⟨⟨by omega, by omega, by have := of_decide_eq_true h; omega, by omega, by omega⟩, by omega⟩, fun h => decide_eq_true (by have := h.1.list (by omega); omega)⟩]
          repeat' (first | (apply G_on; exact rfl; first | ((first | apply G1_assign | apply G1_move); exact rfl; exact rfl) | (apply G1_fieldAddr; (first | exact T.f24_0 | exact T.f24_2 | exact T.f24_3); exact rfl; exact rfl) | (apply G1_loadB; (first | exact T.p3 | exact T.p22); exact rfl; assumption; exact rfl; exact rfl) | (apply G1_eql; exact rfl; exact rfl; exact rfl) | (apply G1_len; exact T.s22; exact rfl; exact rfl) | (apply G1_pick_t; exact rfl; exact rfl; exact rfl)) | apply G_nil | apply Post_next | apply W_seq | apply W_region | (apply W_cond_dec; exact rfl; all_goals (intro h; try (exfalso; omega))) | ((fail_if_success (apply G_on; exact rfl)); apply G_split_dec; exact rfl; exact rfl; all_goals (intro h; try (exfalso; omega))) | apply W_ret | apply W_block | apply Post_then_ret | apply Post_block_ret)
          refine Post_ret Tryd.results63 ⟨_, _, rfl, rfl, rfl⟩ ?_
          exact ⟨rfl, (by repeat first | assumption | exact Ext.rfl' | apply Ext.drew | apply Ext.alloc | refine Ext.trans ?_ (by assumption))⟩
        · rw [leaf_falsy t (fun h => absurd (h.1.num (by omega)) hn0)]
          repeat' (first | (apply G_on; exact rfl; first | ((first | apply G1_assign | apply G1_move); exact rfl; exact rfl) | (apply G1_fieldAddr; (first | exact T.f24_0 | exact T.f24_2); exact rfl; exact rfl) | (apply G1_loadB; exact T.p3; exact rfl; assumption; exact rfl; exact rfl) | (apply G1_eql; exact rfl; exact rfl; exact rfl) | (apply G1_pick_f; exact rfl; exact rfl; exact rfl)) | apply G_nil | apply Post_next | apply W_seq | apply W_region | (apply W_cond_dec; exact rfl; all_goals (intro h; try (exfalso; omega))) | (apply G_off; exact rfl; exact rfl) | ((fail_if_success (apply G_on; exact rfl)); apply G_split_dec; exact rfl; exact rfl; all_goals (intro h; try (exfalso; omega))) | apply W_ret | apply W_block | apply Post_then_ret | apply Post_block_ret)
          refine Post_ret Tryd.results63 ⟨_, _, rfl, rfl, rfl⟩ ?_
          exact ⟨rfl, (by repeat first | assumption | exact Ext.rfl' | apply Ext.drew | apply Ext.alloc | refine Ext.trans ?_ (by assumption))⟩
      by_cases hk4 : t.kind = 4
      · by_cases hse : t.s = ⟨#[]⟩
        · by_cases hn0 : t.n = 0
          · rw [leaf_val t (decide ((rs.length : Int) = 0)) ⟨fun h => ⟨⟨by omega, by omega, by have := of_decide_eq_true h; omega, by omega, fun _ _ _ => hse⟩, by omega⟩, fun h => decide_eq_true (by have := h.1.list (by omega); omega)⟩]
            repeat' (first | (apply G_on; exact rfl; first | ((first | apply G1_assign | apply G1_move); exact rfl; exact rfl) | (apply G1_fieldAddr; (first | exact T.f24_0 | exact T.f24_2 | exact T.f24_3 | exact T.f24_1); exact rfl; exact rfl) | (apply G1_loadB; (first | exact T.p3 | exact T.p22 | exact T.p9); exact rfl; assumption; exact rfl; exact rfl) | (apply G1_eql; exact rfl; exact rfl; exact rfl) | (apply G1_len; exact T.s22; exact rfl; exact rfl) | (apply G1_pick_t; exact rfl; exact rfl; exact rfl) | (apply G1_pick_f; exact rfl; exact rfl; exact rfl) | (apply G1_seql; exact rfl; exact rfl; exact rfl)) | apply G_nil | apply Post_next | apply W_seq | apply W_region | (apply W_cond_dec; exact rfl; all_goals (intro h; try (exfalso; omega))) | (apply G_off; exact rfl; exact rfl) | ((fail_if_success (apply G_on; exact rfl)); apply G_split_dec; exact rfl; exact rfl; all_goals (intro h; try (exfalso; omega))) | apply W_ret | apply W_block | apply Post_then_ret | apply Post_block_ret)
            all_goals try contradiction
            refine Post_ret Tryd.results63 ⟨_, _, rfl, rfl, rfl⟩ ?_
            exact ⟨rfl, (by repeat first | assumption | exact Ext.rfl' | apply Ext.drew | apply Ext.alloc | refine Ext.trans ?_ (by assumption))⟩
          · rw [leaf_falsy t (fun h => absurd (h.1.num (by omega)) hn0)]
            repeat' (first | (apply G_on; exact rfl; first | ((first | apply G1_assign | apply G1_move); exact rfl; exact rfl) | (apply G1_fieldAddr; (first | exact T.f24_0 | exact T.f24_2 | exact T.f24_1); exact rfl; exact rfl) | (apply G1_loadB; (first | exact T.p3 | exact T.p9); exact rfl; assumption; exact rfl; exact rfl) | (apply G1_eql; exact rfl; exact rfl; exact rfl) | (apply G1_pick_t; exact rfl; exact rfl; exact rfl) | (apply G1_pick_f; exact rfl; exact rfl; exact rfl) | (apply G1_seql; exact rfl; exact rfl; exact rfl)) | apply G_nil | apply Post_next | apply W_seq | apply W_region | (apply W_cond_dec; exact rfl; all_goals (intro h; try (exfalso; omega))) | (apply G_off; exact rfl; exact rfl) | ((fail_if_success (apply G_on; exact rfl)); apply G_split_dec; exact rfl; exact rfl; all_goals (intro h; try (exfalso; omega))) | apply W_ret | apply W_block | apply Post_then_ret | apply Post_block_ret)
            all_goals try contradiction
            refine Post_ret Tryd.results63 ⟨_, _, rfl, rfl, rfl⟩ ?_
            exact ⟨rfl, (by repeat first | assumption | exact Ext.rfl' | apply Ext.drew | apply Ext.alloc | refine Ext.trans ?_ (by assumption))⟩
        · rw [leaf_falsy t (fun h => absurd (h.1.text (by omega) (by omega) (by omega)) hse)]
          repeat' (first | (apply G_on; exact rfl; first | ((first | apply G1_assign | apply G1_move); exact rfl; exact rfl) | (apply G1_fieldAddr; (first | exact T.f24_0 | exact T.f24_2 | exact T.f24_3 | exact T.f24_1); exact rfl; exact rfl) | (apply G1_loadB; (first | exact T.p3 | exact T.p22 | exact T.p9); exact rfl; assumption; exact rfl; exact rfl) | (apply G1_eql; exact rfl; exact rfl; exact rfl) | (apply G1_len; exact T.s22; exact rfl; exact rfl) | (apply G1_pick_t; exact rfl; exact rfl; exact rfl) | (apply G1_pick_f; exact rfl; exact rfl; exact rfl) | (apply G1_seql; exact rfl; exact rfl; exact rfl)) | apply G_nil | apply Post_next | apply W_seq | apply W_region | (apply W_cond_dec; exact rfl; all_goals (intro h; try (exfalso; omega))) | (apply G_off; exact rfl; exact rfl) | ((fail_if_success (apply G_on; exact rfl)); apply G_split_dec; exact rfl; exact rfl; all_goals (intro h; try (exfalso; omega))) | apply W_ret | apply W_block | apply Post_then_ret | apply Post_block_ret)
          all_goals try contradiction
          refine Post_ret Tryd.results63 ⟨_, _, rfl, rfl, rfl⟩ ?_
          exact ⟨rfl, (by repeat first | assumption | exact Ext.rfl' | apply Ext.drew | apply Ext.alloc | refine Ext.trans ?_ (by assumption))⟩
      · rw [leaf_falsy t (fun h => by have := h.1.lo; have := h.1.hi; omega)]
        repeat' (first | (apply G_on; exact rfl; first | (apply G1_assign; exact rfl; exact rfl) | (apply G1_fieldAddr; exact T.f24_0; exact rfl; exact rfl) | (apply G1_loadB; exact T.p3; exact rfl; assumption; exact rfl; exact rfl) | (apply G1_eql; exact rfl; exact rfl; exact rfl)) | apply G_nil | apply Post_next | apply W_seq | apply W_region | (apply W_cond_dec; exact rfl; all_goals (intro h; try (exfalso; omega))) | apply W_skip | apply W_ret | apply W_block | apply Post_block_normal)
        refine Post_ret Tryd.results63 ⟨_, _, rfl, rfl, rfl⟩ ?_
        exact ⟨rfl, (by repeat first | assumption | exact Ext.rfl' | apply Ext.drew | apply Ext.alloc | refine Ext.trans ?_ (by assumption))⟩
    rw [right_zero, hk5]
    repeat' (first | (apply G_on; exact rfl; first | ((first | apply G1_assign | apply G1_move); exact rfl; exact rfl) | (apply G1_fieldAddr; (first | exact T.f24_0 | exact T.f24_2 | exact T.f24_1); exact rfl; exact rfl) | (apply G1_loadB; (first | exact T.p3 | exact T.p9); exact rfl; assumption; exact rfl; exact rfl) | (apply G1_eql; exact rfl; exact rfl; exact rfl) | (apply G1_pick_t; exact rfl; exact rfl; exact rfl) | (apply G1_pick_f; exact rfl; exact rfl; exact rfl) | (apply G1_sneq; exact rfl; exact rfl; exact rfl) | (apply G1_neq; exact rfl; exact rfl; exact rfl) | (apply G1_geq; exact rfl; exact rfl; exact rfl)) | apply G_nil | apply Post_next | apply W_seq | apply W_region | (apply W_cond_true; exact rfl) | (apply W_cond_dec; exact rfl; all_goals (intro h; try (exfalso; omega))) | (apply G_off; exact rfl; exact rfl) | ((fail_if_success (apply G_on; exact rfl)); apply G_split_dec; exact rfl; exact rfl; all_goals (intro h; try (exfalso; omega))) | apply W_ret | apply W_block | apply Post_then_ret | apply Post_block_ret)
    all_goals
      refine Post_ret Tryd.results63 ⟨_, _, rfl, rfl, rfl⟩ ?_
      exact ⟨by simp; rfl, (by repeat first | assumption | exact Ext.rfl' | apply Ext.drew | apply Ext.alloc | refine Ext.trans ?_ (by assumption))⟩
  | succ d ih =>
    intro k e r t w hd4 hkd hs0 hr
    obtain ⟨e, rs, rfl, hk, hs, hn, hl, hsz, hfit, hL⟩ := hr.open
    have n1 := hL.sl.bound
    have hlen := hL.len
    have hsm := hs0.1
    refine Ctr_of Tryd.func63 Tryd.ntmps63 rfl rfl rfl ?_
    repeat' (first | apply W_seq | apply W_region)
    apply G_on; exact rfl; apply G1_box; exact rfl; exact rfl; exact rfl; intro a1 w1 ha1 hA1 hx1 hs1
    replace hA1 : Blk w1.heap a1 24 [.int .i64 r.kind, .string r.s, .int .i64 r.n, .slice r.p r.len r.cap] := hA1
    rw [hk, hs, hn, hl] at hA1
    by_cases hk5 : t.kind = 5
    rotate_left
    · rw [right_leafk hk5]
      by_cases hk01 : t.kind = 0 ∨ t.kind = 1
      · by_cases hn0 : t.n = 0 ∧ rs.length = 0
        · rw [leaf_val t (nobr t.s) ⟨fun h => ⟨⟨by omega, by omega, by omega, by omega, by omega⟩, fun _ => h⟩, fun h => h.2 (by omega)⟩]
          repeat' (first | (apply G_on; exact rfl; first | ((first | apply G1_assign | apply G1_move); exact rfl; exact rfl) | (apply G1_call (f := 77); exact rfl; exact rfl; exact rfl; exact containsBr (by omega); rintro _ w2 ⟨rfl, hx2⟩; refine ⟨(by first | exact .inl rfl | exact .inr (by assumption)), ?_⟩) | (apply G1_fieldAddr; (first | exact T.f24_0 | exact T.f24_2 | exact T.f24_3 | exact T.f24_1); exact rfl; exact rfl) | (apply G1_loadB; (first | exact T.p3 | exact T.p22 | exact T.p9); exact rfl; assumption; exact rfl; exact rfl) | (apply G1_eql; exact rfl; exact rfl; exact rfl) | (apply G1_len; exact T.s22; exact rfl; exact rfl) | (apply G1_pick_t; exact rfl; exact rfl; exact rfl) | (apply G1_not; exact rfl; exact rfl)) | apply G_nil | apply Post_next | apply W_seq | apply W_region | (apply W_cond_dec; exact rfl; all_goals (intro h; try (exfalso; omega))) | ((fail_if_success (apply G_on; exact rfl)); apply G_split_dec; exact rfl; exact rfl; all_goals (intro h; try (exfalso; omega))) | apply W_skip | apply W_ret | apply W_block | apply Post_then_ret | apply Post_block_ret)
          all_goals
            refine Post_ret Tryd.results63 ⟨_, _, rfl, rfl, rfl⟩ ?_
            exact ⟨by show Value.bool (!(!nobr t.s)) = _; rw [Bool.not_not], (by repeat first | assumption | exact Ext.rfl' | apply Ext.drew | apply Ext.alloc | refine Ext.trans ?_ (by assumption))⟩
        · rw [leaf_falsy t (fun h => absurd ⟨h.1.num (by omega), by have := h.1.list (by omega); omega⟩ hn0)]
          repeat' (first | (apply G_on; exact rfl; first | ((first | apply G1_assign | apply G1_move); exact rfl; exact rfl) | (apply G1_fieldAddr; (first | exact T.f24_0 | exact T.f24_2 | exact T.f24_3); exact rfl; exact rfl) | (apply G1_loadB; (first | exact T.p3 | exact T.p22); exact rfl; assumption; exact rfl; exact rfl) | (apply G1_eql; exact rfl; exact rfl; exact rfl) | (apply G1_len; exact T.s22; exact rfl; exact rfl) | (apply G1_pick_t; exact rfl; exact rfl; exact rfl) | (apply G1_pick_f; exact rfl; exact rfl; exact rfl)) | apply G_nil | apply Post_next | apply W_seq | apply W_region | (apply W_cond_dec; exact rfl; all_goals (intro h; try (exfalso; omega))) | (apply G_off; exact rfl; exact rfl) | ((fail_if_success (apply G_on; exact rfl)); apply G_split_dec; exact rfl; exact rfl; all_goals (intro h; try (exfalso; omega))) | apply W_skip | apply W_ret | apply W_block | apply Post_then_ret | apply Post_block_ret)
          all_goals
            refine Post_ret Tryd.results63 ⟨_, _, rfl, rfl, rfl⟩ ?_
            exact ⟨rfl, (by repeat first | assumption | exact Ext.rfl' | apply Ext.drew | apply Ext.alloc | refine Ext.trans ?_ (by assumption))⟩
      by_cases hk2 : t.kind = 2
      · by_cases hse : t.s = ⟨#[]⟩
        · rw [leaf_val t (decide ((rs.length : Int) = 0)) ⟨fun h => ⟨⟨by omega, by omega, by have := of_decide_eq_true h; omega, by omega, fun _ _ _ => hse⟩, by omega⟩, fun h => decide_eq_true (by have := h.1.list (by omega); omega)⟩]
          repeat' (first | (apply G_on; exact rfl; first | ((first | apply G1_assign | apply G1_move); exact rfl; exact rfl) | (apply G1_fieldAddr; (first | exact T.f24_0 | exact T.f24_3 | exact T.f24_1); exact rfl; exact rfl) | (apply G1_loadB; (first | exact T.p3 | exact T.p22 | exact T.p9); exact rfl; assumption; exact rfl; exact rfl) | (apply G1_eql; exact rfl; exact rfl; exact rfl) | (apply G1_len; exact T.s22; exact rfl; exact rfl) | (apply G1_pick_t; exact rfl; exact rfl; exact rfl) | (apply G1_pick_f; exact rfl; exact rfl; exact rfl) | (apply G1_seql; exact rfl; exact rfl; exact rfl)) | apply G_nil | apply Post_next | apply W_seq | apply W_region | (apply W_cond_dec; exact rfl; all_goals (intro h; try (exfalso; omega))) | (apply G_off; exact rfl; exact rfl) | ((fail_if_success (apply G_on; exact rfl)); apply G_split_dec; exact rfl; exact rfl; all_goals (intro h; try (exfalso; omega))) | apply W_ret | apply W_block | apply Post_then_ret | apply Post_block_ret)
          all_goals try contradiction
          refine Post_ret Tryd.results63 ⟨_, _, rfl, rfl, rfl⟩ ?_
          exact ⟨rfl, (by repeat first | assumption | exact Ext.rfl' | apply Ext.drew | apply Ext.alloc | refine Ext.trans ?_ (by assumption))⟩
        · rw [leaf_falsy t (fun h => absurd (h.1.text (by omega) (by omega) (by omega)) hse)]
          repeat' (first | (apply G_on; exact rfl; first | ((first | apply G1_assign | apply G1_move); exact rfl; exact rfl) | (apply G1_fieldAddr; (first | exact T.f24_0 | exact T.f24_3 | exact T.f24_1); exact rfl; exact rfl) | (apply G1_loadB; (first | exact T.p3 | exact T.p22 | exact T.p9); exact rfl; assumption; exact rfl; exact rfl) | (apply G1_eql; exact rfl; exact rfl; exact rfl) | (apply G1_len; exact T.s22; exact rfl; exact rfl) | (apply G1_pick_t; exact rfl; exact rfl; exact rfl) | (apply G1_pick_f; exact rfl; exact rfl; exact rfl) | (apply G1_seql; exact rfl; exact rfl; exact rfl)) | apply G_nil | apply Post_next | apply W_seq | apply W_region | (apply W_cond_dec; exact rfl; all_goals (intro h; try (exfalso; omega))) | (apply G_off; exact rfl; exact rfl) | ((fail_if_success (apply G_on; exact rfl)); apply G_split_dec; exact rfl; exact rfl; all_goals (intro h; try (exfalso; omega))) | apply W_ret | apply W_block | apply Post_then_ret | apply Post_block_ret)
          all_goals try contradiction
          refine Post_ret Tryd.results63 ⟨_, _, rfl, rfl, rfl⟩ ?_
          exact ⟨rfl, (by repeat first | assumption | exact Ext.rfl' | apply Ext.drew | apply Ext.alloc | refine Ext.trans ?_ (by assumption))⟩
      by_cases hk3 : t.kind = 3
      · by_cases hn0 : t.n = 0
        · rw [leaf_val t (decide ((rs.length : Int) = 0)) ⟨fun h => ⟨⟨by omega, by omega, by have := of_decide_eq_true h; omega, by omega, by omega⟩, by omega⟩, fun h => decide_eq_true (by have := h.1.list (by omega); omega)⟩]
          repeat' (first | (apply G_on; exact rfl; first | ((first | apply G1_assign | apply G1_move); exact rfl; exact rfl) | (apply G1_fieldAddr; (first | exact T.f24_0 | exact T.f24_2 | exact T.f24_3); exact rfl; exact rfl) | (apply G1_loadB; (first | exact T.p3 | exact T.p22); exact rfl; assumption; exact rfl; exact rfl) | (apply G1_eql; exact rfl; exact rfl; exact rfl) | (apply G1_len; exact T.s22; exact rfl; exact rfl) | (apply G1_pick_t; exact rfl; exact rfl; exact rfl)) | apply G_nil | apply Post_next | apply W_seq | apply W_region | (apply W_cond_dec; exact rfl; all_goals (intro h; try (exfalso; omega))) | ((fail_if_success (apply G_on; exact rfl)); apply G_split_dec; exact rfl; exact rfl; all_goals (intro h; try (exfalso; omega))) | apply W_ret | apply W_block | apply Post_then_ret | apply Post_block_ret)
          refine Post_ret Tryd.results63 ⟨_, _, rfl, rfl, rfl⟩ ?_
          exact ⟨rfl, (by repeat first | assumption | exact Ext.rfl' | apply Ext.drew | apply Ext.alloc | refine Ext.trans ?_ (by assumption))⟩
        · rw [leaf_falsy t (fun h => absurd (h.1.num (by omega)) hn0)]
          repeat' (first | (apply G_on; exact rfl; first | ((first | apply G1_assign | apply G1_move); exact rfl; exact rfl) | (apply G1_fieldAddr; (first | exact T.f24_0 | exact T.f24_2); exact rfl; exact rfl) | (apply G1_loadB; exact T.p3; exact rfl; assumption; exact rfl; exact rfl) | (apply G1_eql; exact rfl; exact rfl; exact rfl) | (apply G1_pick_f; exact rfl; exact rfl; exact rfl)) | apply G_nil | apply Post_next | apply W_seq | apply W_region | (apply W_cond_dec; exact rfl; all_goals (intro h; try (exfalso; omega))) | (apply G_off; exact rfl; exact rfl) | ((fail_if_success (apply G_on; exact rfl)); apply G_split_dec; exact rfl; exact rfl; all_goals (intro h; try (exfalso; omega))) | apply W_ret | apply W_block | apply Post_then_ret | apply Post_block_ret)
          refine Post_ret Tryd.results63 ⟨_, _, rfl, rfl, rfl⟩ ?_
          exact ⟨rfl, (by repeat first | assumption | exact Ext.rfl' | apply Ext.drew | apply Ext.alloc | refine Ext.trans ?_ (by assumption))⟩
      by_cases hk4 : t.kind = 4
      · by_cases hse : t.s = ⟨#[]⟩
        · by_cases hn0 : t.n = 0
          · rw [leaf_val t (decide ((rs.length : Int) = 0)) ⟨fun h => ⟨⟨by omega, by omega, by have := of_decide_eq_true h; omega, by omega, fun _ _ _ => hse⟩, by omega⟩, fun h => decide_eq_true (by have := h.1.list (by omega); omega)⟩]
            repeat' (first | (apply G_on; exact rfl; first | ((first | apply G1_assign | apply G1_move); exact rfl; exact rfl) | (apply G1_fieldAddr; (first | exact T.f24_0 | exact T.f24_2 | exact T.f24_3 | exact T.f24_1); exact rfl; exact rfl) | (apply G1_loadB; (first | exact T.p3 | exact T.p22 | exact T.p9); exact rfl; assumption; exact rfl; exact rfl) | (apply G1_eql; exact rfl; exact rfl; exact rfl) | (apply G1_len; exact T.s22; exact rfl; exact rfl) | (apply G1_pick_t; exact rfl; exact rfl; exact rfl) | (apply G1_pick_f; exact rfl; exact rfl; exact rfl) | (apply G1_seql; exact rfl; exact rfl; exact rfl)) | apply G_nil | apply Post_next | apply W_seq | apply W_region | (apply W_cond_dec; exact rfl; all_goals (intro h; try (exfalso; omega))) | (apply G_off; exact rfl; exact rfl) | ((fail_if_success (apply G_on; exact rfl)); apply G_split_dec; exact rfl; exact rfl; all_goals (intro h; try (exfalso; omega))) | apply W_ret | apply W_block | apply Post_then_ret | apply Post_block_ret)
            all_goals try contradiction
            refine Post_ret Tryd.results63 ⟨_, _, rfl, rfl, rfl⟩ ?_
            exact ⟨rfl, (by repeat first | assumption | exact Ext.rfl' | apply Ext.drew | apply Ext.alloc | refine Ext.trans ?_ (by assumption))⟩
          · rw [leaf_falsy t (fun h => absurd (h.1.num (by omega)) hn0)]
            repeat' (first | (apply G_on; exact rfl; first | ((first | apply G1_assign | apply G1_move); exact rfl; exact rfl) | (apply G1_fieldAddr; (first | exact T.f24_0 | exact T.f24_2 | exact T.f24_1); exact rfl; exact rfl) | (apply G1_loadB; (first | exact T.p3 | exact T.p9); exact rfl; assumption; exact rfl; exact rfl) | (apply G1_eql; exact rfl; exact rfl; exact rfl) | (apply G1_pick_t; exact rfl; exact rfl; exact rfl) | (apply G1_pick_f; exact rfl; exact rfl; exact rfl) | (apply G1_seql; exact rfl; exact rfl; exact rfl)) | apply G_nil | apply Post_next | apply W_seq | apply W_region | (apply W_cond_dec; exact rfl; all_goals (intro h; try (exfalso; omega))) | (apply G_off; exact rfl; exact rfl) | ((fail_if_success (apply G_on; exact rfl)); apply G_split_dec; exact rfl; exact rfl; all_goals (intro h; try (exfalso; omega))) | apply W_ret | apply W_block | apply Post_then_ret | apply Post_block_ret)
            all_goals try contradiction
            refine Post_ret Tryd.results63 ⟨_, _, rfl, rfl, rfl⟩ ?_
            exact ⟨rfl, (by repeat first | assumption | exact Ext.rfl' | apply Ext.drew | apply Ext.alloc | refine Ext.trans ?_ (by assumption))⟩
        · rw [leaf_falsy t (fun h => absurd (h.1.text (by omega) (by omega) (by omega)) hse)]
          repeat' (first | (apply G_on; exact rfl; first | ((first | apply G1_assign | apply G1_move); exact rfl; exact rfl) | (apply G1_fieldAddr; (first | exact T.f24_0 | exact T.f24_2 | exact T.f24_3 | exact T.f24_1); exact rfl; exact rfl) | (apply G1_loadB; (first | exact T.p3 | exact T.p22 | exact T.p9); exact rfl; assumption; exact rfl; exact rfl) | (apply G1_eql; exact rfl; exact rfl; exact rfl) | (apply G1_len; exact T.s22; exact rfl; exact rfl) | (apply G1_pick_t; exact rfl; exact rfl; exact rfl) | (apply G1_pick_f; exact rfl; exact rfl; exact rfl) | (apply G1_seql; exact rfl; exact rfl; exact rfl)) | apply G_nil | apply Post_next | apply W_seq | apply W_region | (apply W_cond_dec; exact rfl; all_goals (intro h; try (exfalso; omega))) | (apply G_off; exact rfl; exact rfl) | ((fail_if_success (apply G_on; exact rfl)); apply G_split_dec; exact rfl; exact rfl; all_goals (intro h; try (exfalso; omega))) | apply W_ret | apply W_block | apply Post_then_ret | apply Post_block_ret)
          all_goals try contradiction
          refine Post_ret Tryd.results63 ⟨_, _, rfl, rfl, rfl⟩ ?_
          exact ⟨rfl, (by repeat first | assumption | exact Ext.rfl' | apply Ext.drew | apply Ext.alloc | refine Ext.trans ?_ (by assumption))⟩
      · rw [leaf_falsy t (fun h => by have := h.1.lo; have := h.1.hi; omega)]
        repeat' (first | (apply G_on; exact rfl; first | (apply G1_assign; exact rfl; exact rfl) | (apply G1_fieldAddr; exact T.f24_0; exact rfl; exact rfl) | (apply G1_loadB; exact T.p3; exact rfl; assumption; exact rfl; exact rfl) | (apply G1_eql; exact rfl; exact rfl; exact rfl)) | apply G_nil | apply Post_next | apply W_seq | apply W_region | (apply W_cond_dec; exact rfl; all_goals (intro h; try (exfalso; omega))) | apply W_skip | apply W_ret | apply W_block | apply Post_block_normal)
        refine Post_ret Tryd.results63 ⟨_, _, rfl, rfl, rfl⟩ ?_
        exact ⟨rfl, (by repeat first | assumption | exact Ext.rfl' | apply Ext.drew | apply Ext.alloc | refine Ext.trans ?_ (by assumption))⟩
    by_cases hh : t.s = ⟨#[]⟩ ∧ t.n = 0
    · obtain ⟨hse, hn0⟩ := hh
      have hleaf : leafOk t = true := leaf_iff.2 ⟨⟨by omega, by omega, by omega, by omega, fun _ _ _ => hse⟩, by omega⟩
      repeat' (first | (apply G_on; exact rfl; first | ((first | apply G1_assign | apply G1_move); exact rfl; exact rfl) | (apply G1_fieldAddr; (first | exact T.f24_0 | exact T.f24_2 | exact T.f24_3 | exact T.f24_1); exact rfl; exact rfl) | (apply G1_loadB; (first | exact T.p3 | exact T.p22 | exact T.p9); exact rfl; assumption; exact rfl; exact rfl) | (apply G1_eql; exact rfl; exact rfl; exact rfl) | (apply G1_len; exact T.s22; exact rfl; exact rfl) | (apply G1_pick_t; exact rfl; exact rfl; exact rfl) | (apply G1_pick_f; exact rfl; exact rfl; exact rfl) | (apply G1_sneq; exact rfl; exact rfl; exact rfl) | (apply G1_neq; exact rfl; exact rfl; exact rfl) | (apply G1_geq; exact rfl; exact rfl; exact rfl)) | apply G_nil | apply Post_next | apply W_seq | apply W_region | (apply W_cond_true; exact rfl) | (apply W_cond_dec; exact rfl; all_goals (intro h; try (exfalso; omega))) | (apply G_off; exact rfl; exact rfl) | ((fail_if_success (apply G_on; exact rfl)); apply G_split_dec; exact rfl; exact rfl; all_goals (intro h; try (exfalso; omega))) | apply W_skip | apply W_ret | apply W_block | apply Post_then_ret | apply Post_block_ret)
      all_goals try contradiction
      refine W_loop (ι := Nat) (fun i => [(1, .int .i64 k), (80, .slice r.p rs.length r.cap), (81, .int .i64 (rs.length : Int)), (82, .int .i64 (i : Int))])
        (fun i w' => Ext w w' ∧ i ≤ rs.length ∧ (t.l.take i).all (rightT d) = true) (fun i => rs.length - i) 0 ⟨rfl, rfl, rfl, rfl, trivial⟩ ⟨(by repeat first | assumption | exact Ext.rfl' | apply Ext.drew | apply Ext.alloc | refine Ext.trans ?_ (by assumption)), Nat.zero_le _, rfl⟩ ?_
      rintro i w3 ⟨hx3, hi, hq⟩
      have hL3 := hL.ext hx3
      have hsl3 := hL3.sl
      by_cases hlt : i < rs.length
      · obtain ⟨r', hr'⟩ := get_some hlt
        obtain ⟨t', ht'⟩ := get_some (xs := t.l) (k := i) (by omega)
        have hat := hL3.get i r' t' hr' ht'
        have hst := hs0.2 t' (List.mem_of_getElem? ht')
        have hts := take_snoc ht'
        repeat' (first | (apply G_on; exact rfl; first | (apply G1_lss; exact rfl; exact rfl; exact rfl) | (apply G1_indexAddrN; exact T.s22; exact rfl; exact rfl; (first | assumption | exact Sl.ok (by assumption) | exact (Own.sl (by assumption)).ok); omega; exact rfl) | (apply G1_loadEl; exact T.a24; exact rfl; assumption; assumption; exact rfl; exact rfl)) | apply G_nil | apply Post_next | apply W_seq | apply W_region | (apply W_cond_dec; exact rfl; all_goals (intro h; try (exfalso; omega))) | apply W_skip | apply W_block)
        apply G_on; exact rfl; apply G1_alloc; exact T.zero24; exact rfl; exact rfl; intro a4 w4 ha4 hA4 hx4 hs4
        replace hsl3 := hsl3.ext hx4
        skip
        apply G_on; exact rfl; apply G1_storeB; exact T.z24; exact rfl; exact rfl; exact hA4; exact rfl; exact rfl; (first | exact Nat.le_of_ble_eq_true rfl | (focus (simp [Value.cells]; done))); (first | exact Enc.one _ _ | (focus (simp [Value.oneCell']; done)) | (focus (simp [Value.cells, Value.oneCell']; done)) | exact Enc.oneAgg _ _); exact rfl; (first | exact .inl rfl | exact .inr (by simp [exempt])); exact rfl; intro w5 hA5 hg5 hs5
        replace hA5 : Blk w5.heap a4 24 (eRep.enc r') := hA5
        have hx35 : Ext w3 w5 := hx4.own hg5 (fun k hk => by injection hk; omega)
        replace hat := hat.ext hx35
        have hx5 := hx3.trans hx35
        repeat' (first | (apply G_on; exact rfl; first | (apply G1_move; exact rfl; exact rfl) | (apply G1_loadBAgg; exact T.a24; exact rfl; assumption; exact rfl; exact rfl) | (apply G1_add; exact rfl; exact rfl; omega; omega; exact rfl)) | apply G_nil | apply Post_next | apply W_seq | apply W_region)
        apply G_on; exact rfl; apply G1_call; exact rfl; exact rfl; exact rfl; exact ih (by omega) (by omega) hst hat; rintro _ w6 ⟨rfl, hx6⟩; refine ⟨(by first | exact .inl rfl | exact .inr (by assumption)), ?_⟩
        cases hrt : rightT d t' with
        | true =>
          repeat' (first | (apply G_on; exact rfl; first | (apply G1_move; exact rfl; exact rfl) | (apply G1_not_t; exact rfl; exact rfl) | (apply G1_add; exact rfl; exact rfl; omega; omega; exact rfl)) | apply G_nil | apply Post_next | apply W_region | (apply W_cond_false; exact rfl) | apply W_skip | apply Post_block_normal)
          exact Post_round (i + 1) ⟨rfl, rfl, rfl, rfl, trivial⟩ ⟨(by repeat first | assumption | exact Ext.rfl' | apply Ext.drew | apply Ext.alloc | refine Ext.trans ?_ (by assumption)), by omega, by rw [hts, List.all_append, hq]; simp [hrt]⟩ (by omega)
        | false =>
          repeat' (first | (apply G_on; exact rfl; first | (apply G1_assign; exact rfl; exact rfl) | (apply G1_not_f; exact rfl; exact rfl)) | apply G_nil | apply Post_next | apply W_seq | apply W_region | (apply W_cond_true; exact rfl) | apply W_ret | apply Post_then_ret | apply Post_block_ret)
          refine Post_ret Tryd.results63 ⟨_, _, rfl, rfl, rfl⟩ ?_
          refine ⟨?_, (by repeat first | assumption | exact Ext.rfl' | apply Ext.drew | apply Ext.alloc | refine Ext.trans ?_ (by assumption))⟩
          have : t.l.all (rightT d) = false := List.all_eq_false.2 ⟨t', List.mem_of_getElem? ht', by simp [hrt]⟩
          rw [right_succ, this]; simp; rfl
      · rw [List.take_of_length_le (by omega)] at hq
        repeat' (first | (apply G_on; exact rfl; first | (apply G1_assign; exact rfl; exact rfl) | (apply G1_lss; exact rfl; exact rfl; exact rfl)) | apply G_nil | apply Post_next | apply W_seq | apply W_region | (apply W_cond_dec; exact rfl; all_goals (intro h; try (exfalso; omega))) | apply W_exit | apply W_ret | apply Post_then_ret | apply Post_block_ret | apply Post_then_exit | apply Post_block_exit)
        refine Post_ret Tryd.results63 ⟨_, _, rfl, rfl, rfl⟩ ?_
        exact ⟨by rw [right_succ, hleaf, hq]; rfl, (by repeat first | assumption | exact Ext.rfl' | apply Ext.drew | apply Ext.alloc | refine Ext.trans ?_ (by assumption))⟩
    · have hleaf : leafOk t = false := by
        cases h : leafOk t with
        | false => rfl
        | true => exact absurd ⟨(leaf_iff.1 h).1.text (by omega) (by omega) (by omega), (leaf_iff.1 h).1.num (by omega)⟩ hh
      rw [right_no hleaf]
      repeat' (first | (apply G_on; exact rfl; first | ((first | apply G1_assign | apply G1_move); exact rfl; exact rfl) | (apply G1_fieldAddr; (first | exact T.f24_0 | exact T.f24_2 | exact T.f24_3 | exact T.f24_1); exact rfl; exact rfl) | (apply G1_loadB; (first | exact T.p3 | exact T.p22 | exact T.p9); exact rfl; assumption; exact rfl; exact rfl) | (apply G1_eql; exact rfl; exact rfl; exact rfl) | (apply G1_len; exact T.s22; exact rfl; exact rfl) | (apply G1_pick_t; exact rfl; exact rfl; exact rfl) | (apply G1_pick_f; exact rfl; exact rfl; exact rfl) | (apply G1_sneq; exact rfl; exact rfl; exact rfl) | (apply G1_neq; exact rfl; exact rfl; exact rfl) | (apply G1_geq; exact rfl; exact rfl; exact rfl)) | apply G_nil | apply Post_next | apply W_seq | apply W_region | (apply W_cond_true; exact rfl) | (apply W_cond_dec; exact rfl; all_goals (intro h; try (exfalso; omega))) | (apply G_off; exact rfl; exact rfl) | ((fail_if_success (apply G_on; exact rfl)); apply G_split_dec; exact rfl; exact rfl; all_goals (intro h; try (exfalso; omega))) | apply W_skip | apply W_ret | apply W_block | apply Post_then_ret | apply Post_block_ret)
      all_goals first
        | exact absurd ⟨Classical.not_not.1 (by assumption), by omega⟩ hh
        | (refine Post_ret Tryd.results63 ⟨_, _, rfl, rfl, rfl⟩ ?_
           exact ⟨rfl, (by repeat first | assumption | exact Ext.rfl' | apply Ext.drew | apply Ext.alloc | refine Ext.trans ?_ (by assumption))⟩)
theorem presp_spec {e : Nat} {r : RawR} {t : Rep} {w : World} (hs0 : smallT 5 t) (hr : RepAt w.heap e r t) :
    Ctr Tryd.prog 37 [.agg (eRep.enc r).toArray] w (fun v w' => v = .bool (rightT 4 t) ∧ Ext w w') := by
  refine Ctr_of Tryd.func37 Tryd.ntmps37 rfl rfl rfl ?_
  repeat' (first | apply W_seq | apply W_region)
  apply G_on; exact rfl; apply G1_box; exact rfl; exact rfl; exact rfl; intro a1 w1 ha1 hA1 hx1 hs1
  replace hA1 : Blk w1.heap a1 24 (eRep.enc r) := hA1
  replace hr := hr.ext hx1
  repeat' (first | (apply G_on; exact rfl; first | (apply G1_assign; exact rfl; exact rfl) | (apply G1_loadBAgg; exact T.a24; exact rfl; assumption; exact rfl; exact rfl)) | apply G_nil | apply Post_next | apply W_seq | apply W_region)
  apply G_on; exact rfl; apply G1_call; exact rfl; exact rfl; exact rfl; exact pright_spec 4 (by omega) (by omega) hs0 hr; rintro _ w2 ⟨rfl, hx2⟩; refine ⟨(by first | exact .inl rfl | exact .inr (by assumption)), ?_⟩
  repeat' (first | (apply G_on; exact rfl; (apply G1_assign; exact rfl; exact rfl)) | apply G_nil | apply Post_next | apply W_ret)
  refine Post_ret Tryd.results37 ⟨_, _, rfl, rfl, rfl⟩ ?_
  exact ⟨rfl, (by repeat first | assumption | exact Ext.rfl' | apply Ext.drew | apply Ext.alloc | refine Ext.trans ?_ (by assumption))⟩
end Go.Proofs.YtikjnmpijflnaaaDoor
