/- The document's Print and Parse. -/
import Derived.Test.YtikjnmpijflnaaaDoorVNumRead
import Derived.Test.YtikjnmpijflnaaaDoorVStrRule
namespace Go.V
section
variable {P : Program} {n : Nat} {ops : Array Oper} {dr : Nat × List Nat} {l : List Oper} {E : Env} {w : World} {K : Env → World → Prop}
variable {d : Option Nat} {ty : TypeId} {pos : String} {af : Array Edge} {g : Option (Nat × Bool)} {x y : Operand} {k k' : IntKind} {t t' u : TypeId} {i j r : Int}
theorem G1_addE (hx : E.look x = some (.int k i)) (hy : E.look y = some (.int k j)) (hr : k.wrap (i + j) = r) (hd : dstOk n d = true)
    (h : G P n ops dr l (E.put d (.int k r)) w K) : G1 P n ops dr ⟨d, .binOp .add t x y t', ty, pos, af, g⟩ l E w K := by subst hr; exact G1_addw hx hy hd h
theorem G1_mulE (hx : E.look x = some (.int k i)) (hy : E.look y = some (.int k j)) (hr : k.wrap (i * j) = r) (hd : dstOk n d = true)
    (h : G P n ops dr l (E.put d (.int k r)) w K) : G1 P n ops dr ⟨d, .binOp .mul t x y t', ty, pos, af, g⟩ l E w K := by subst hr; exact G1_mulw hx hy hd h
theorem G1_quoE (hx : E.look x = some (.int k i)) (hy : E.look y = some (.int k j)) (h0 : j ≠ 0) (hr : k.wrap (i.tdiv j) = r) (hd : dstOk n d = true)
    (h : G P n ops dr l (E.put d (.int k r)) w K) : G1 P n ops dr ⟨d, .binOp .quo t x y t', ty, pos, af, g⟩ l E w K := by subst hr; exact G1_quo hx hy h0 hd h
theorem G1_negE (hx : E.look x = some (.int k i)) (hr : k.wrap (0 - i) = r) (hd : dstOk n d = true)
    (h : G P n ops dr l (E.put d (.int k r)) w K) : G1 P n ops dr ⟨d, .unOp .neg t x, ty, pos, af, g⟩ l E w K := by subst hr; exact G1_neg hx hd h
end
end Go.V
namespace Go.Proofs.YtikjnmpijflnaaaDoor
open Go.V
attribute [local irreducible] Blk Own hcell IntT SliceT PlainT AggT SizeT StrT FieldT ZeroT EqT ArrT
theorem ba_list (a b : ByteArray) : (a ++ b).data.toList = a.data.toList ++ b.data.toList := by
  rw [ByteArray.data_append, Array.toList_append]
theorem ba_ext {a b : ByteArray} (h : a.data.toList = b.data.toList) : a = b := by
  cases a; cases b; simp at h; rw [h]
theorem mkStr_L (l : List UInt8) : (mkStr l).data.toList = l := by simp [mkStr]

theorem rprint_spec {n : Int} {w : World} (hn : fit64 n) : Ctr Tryd.prog 56 [.int .i64 n] w (fun r w' => r = .string (itoaB n) ∧ Ext w w') := by
  unfold fit64 at hn
  obtain ⟨u0, hu0⟩ : ∃ u : Nat, u = n.natAbs := ⟨_, rfl⟩
  refine Ctr_of Tryd.func56 Tryd.ntmps56 rfl rfl rfl ?_
  by_cases hneg : n < 0
  · have hw1 : IntKind.u64.wrap n = n + 18446744073709551616 := by simp only [IntKind.wrap_u64]; omega
    have hw2 : IntKind.u64.wrap (0 - (n + 18446744073709551616)) = (u0 : Int) := by simp only [IntKind.wrap_u64]; omega
    repeat' (first | (apply G_on; exact rfl; first | ((first | apply G1_assign | apply G1_move | apply G1_neg); exact rfl; exact rfl) | (apply G1_convE (j := n + 18446744073709551616); exact rfl; exact T.i3; exact T.i105; exact hw1; exact rfl) | (apply G1_lss; exact rfl; exact rfl; exact rfl)) | apply G_nil | apply Post_next | apply W_seq | apply W_region | (apply W_cond_dec; exact rfl; all_goals (intro h; try (exfalso; omega))) | apply W_block)
    refine W_loop (ι := Nat × ByteArray) (fun y => [(3, .int .u64 (y.1 : Int)), (4, .string ⟨#[45]⟩), (5, .string y.2)]) (fun y w' => Ext w w' ∧ y.1 ≤ u0 ∧ Lib.decDigits y.1 ++ y.2.data.toList = Lib.decDigits u0) (fun y => y.1) (u0, ⟨#[]⟩) ⟨(by first | exact congrArg (fun z => some (Value.int .u64 z)) hw2 | exact rfl), rfl, rfl, trivial⟩ ⟨(by repeat first | assumption | exact Ext.rfl' | apply Ext.drew | apply Ext.alloc | refine Ext.trans ?_ (by assumption)), Nat.le_refl _, List.append_nil _⟩ ?_
    rintro ⟨u, A⟩ w2 ⟨hx, hu, hdec⟩
    simp only at hu hdec
    have hA : A.size ≤ 19 := by
      have h1 := congrArg List.length hdec
      have h2 := nDigits_le 18 u0 (by omega)
      rw [List.length_append, Lib.decDigits_length, Lib.decDigits_length, Array.length_toList] at h1
      show A.data.size ≤ 19
      omega
    have hm1 : ∀ c, (mkStr [c]).size = 1 := fun _ => rfl
    have hm2 := hm1 (UInt8.ofNat (48 + u % 10))
    refine W_keep [(3, .int .u64 (u : Int)), (4, .string ⟨#[45]⟩), (5, .string A)] ⟨rfl, rfl, rfl, trivial⟩ ?_
    obtain ⟨c, hc⟩ : ∃ c : UInt8, c = UInt8.ofNat (48 + u % 10) := ⟨_, rfl⟩
    rw [← hc] at hm2
    have hct : c.toNat = 48 + u % 10 := by rw [hc, UInt8.toNat_ofNat']; omega
    have q1 : (u : Int).tmod 10 = ((u % 10 : Nat) : Int) := by rw [Int.tmod_eq_emod_of_nonneg (by omega)]; push_cast; rfl
    have q2 : IntKind.u64.wrap (48 + ((u % 10 : Nat) : Int)) = ((48 + u % 10 : Nat) : Int) := by simp only [IntKind.wrap_u64]; omega
    have q3 : IntKind.u8.wrap ((48 + u % 10 : Nat) : Int) = (c.toNat : Int) := by rw [hct]; exact wrap_u8 (by omega) (by omega)
    have q4 : IntKind.u64.wrap ((u : Int).tdiv 10) = ((u / 10 : Nat) : Int) := by rw [Int.tdiv_eq_ediv_of_nonneg (by omega)]; simp only [IntKind.wrap_u64]; omega
    have hms : (mkStr [c] ++ A).size = 1 + A.size := by rw [ByteArray.size_append, hm2]
    have hsg : ((⟨#[45]⟩ : ByteArray)).size ≤ 1 := by decide
    have hcl : (mkStr [c] ++ A).data.toList = c :: A.data.toList := by rw [ba_list, mkStr_L]; rfl
    repeat' (first | (apply G_on; exact rfl; first | ((first | apply G1_assign | apply G1_move); exact rfl; exact rfl) | (apply G1_remE (r := ((u % 10 : Nat) : Int)); exact rfl; exact rfl; decide; exact q1; exact rfl) | (apply G1_addE (r := ((48 + u % 10 : Nat) : Int)); exact rfl; exact rfl; exact q2; exact rfl) | (apply G1_convE (j := (c.toNat : Int)); exact rfl; exact T.i105; exact T.i5; exact q3; exact rfl) | (apply G1_build1 eByte c; exact T.s28; exact rfl; exact rfl; exact rfl; decide; exact rfl; exact rfl; intro p3 w3 hp3 hs3 _ hx3 hz3) | (apply G1_toString (bs := [c]); exact T.s28; exact T.i5; exact T.str9; exact rfl; exact hs3; exact rfl) | (apply G1_quoE (r := ((u / 10 : Nat) : Int)); exact rfl; exact rfl; decide; exact q4; exact rfl) | (apply G1_sadd; exact rfl; exact rfl; omega; exact rfl) | (apply G1_eql; exact rfl; exact rfl; exact rfl)) | apply G_nil | apply Post_next | apply W_seq | apply W_region | (apply W_cond_dec; exact rfl; all_goals (intro h; try (exfalso; omega))) | apply W_skip | apply W_ret | apply W_block | apply Post_then_ret | apply Post_block_ret | apply Post_block_normal)
    · have hu10 : u < 10 := by omega
      rw [Lib.decDigits_one hu10] at hdec
      have e0 : c :: A.data.toList = Lib.decDigits u0 := by rw [← hdec, hc, show u % 10 = u by omega]; rfl
      have e1 : (⟨#[45]⟩ : ByteArray) ++ (mkStr [c] ++ A) = itoaB n := by
        apply ba_ext
        rw [ba_list, hcl, itoaB_list, e0, hu0]
        unfold Lib.itoa
        rw [if_pos hneg]; rfl
      refine Post_ret Tryd.results56 ⟨_, _, rfl, rfl, rfl⟩ ?_
      exact ⟨congrArg Value.string e1, (by repeat first | assumption | exact Ext.rfl' | apply Ext.drew | apply Ext.alloc | refine Ext.trans ?_ (by assumption))⟩
    · have hu10 : ¬ u < 10 := by omega
      rw [Lib.decDigits, dif_neg hu10, List.append_assoc] at hdec
      exact Post_round (u / 10, mkStr [c] ++ A) ⟨rfl, rfl, rfl, trivial⟩ ⟨(by repeat first | assumption | exact Ext.rfl' | apply Ext.drew | apply Ext.alloc | refine Ext.trans ?_ (by assumption)), by simp only; omega, by simp only; rw [hcl, hc]; exact hdec⟩ (by simp only; omega)
  · have hw1 : IntKind.u64.wrap n = (u0 : Int) := by simp only [IntKind.wrap_u64]; omega
    have hw2 : (u0 : Int) = (u0 : Int) := rfl
    repeat' (first | (apply G_on; exact rfl; first | ((first | apply G1_assign | apply G1_move); exact rfl; exact rfl) | (apply G1_convE (j := (u0 : Int)); exact rfl; exact T.i3; exact T.i105; exact hw1; exact rfl) | (apply G1_lss; exact rfl; exact rfl; exact rfl)) | apply G_nil | apply Post_next | apply W_seq | apply W_region | (apply W_cond_dec; exact rfl; all_goals (intro h; try (exfalso; omega))) | apply W_skip | apply W_block)
    refine W_loop (ι := Nat × ByteArray) (fun y => [(3, .int .u64 (y.1 : Int)), (4, .string ⟨#[]⟩), (5, .string y.2)]) (fun y w' => Ext w w' ∧ y.1 ≤ u0 ∧ Lib.decDigits y.1 ++ y.2.data.toList = Lib.decDigits u0) (fun y => y.1) (u0, ⟨#[]⟩) ⟨(by first | exact congrArg (fun z => some (Value.int .u64 z)) hw2 | exact rfl), rfl, rfl, trivial⟩ ⟨(by repeat first | assumption | exact Ext.rfl' | apply Ext.drew | apply Ext.alloc | refine Ext.trans ?_ (by assumption)), Nat.le_refl _, List.append_nil _⟩ ?_
    rintro ⟨u, A⟩ w2 ⟨hx, hu, hdec⟩
    simp only at hu hdec
    have hA : A.size ≤ 19 := by
      have h1 := congrArg List.length hdec
      have h2 := nDigits_le 18 u0 (by omega)
      rw [List.length_append, Lib.decDigits_length, Lib.decDigits_length, Array.length_toList] at h1
      show A.data.size ≤ 19
      omega
    have hm1 : ∀ c, (mkStr [c]).size = 1 := fun _ => rfl
    have hm2 := hm1 (UInt8.ofNat (48 + u % 10))
    refine W_keep [(3, .int .u64 (u : Int)), (4, .string ⟨#[]⟩), (5, .string A)] ⟨rfl, rfl, rfl, trivial⟩ ?_
    obtain ⟨c, hc⟩ : ∃ c : UInt8, c = UInt8.ofNat (48 + u % 10) := ⟨_, rfl⟩
    rw [← hc] at hm2
    have hct : c.toNat = 48 + u % 10 := by rw [hc, UInt8.toNat_ofNat']; omega
    have q1 : (u : Int).tmod 10 = ((u % 10 : Nat) : Int) := by rw [Int.tmod_eq_emod_of_nonneg (by omega)]; push_cast; rfl
    have q2 : IntKind.u64.wrap (48 + ((u % 10 : Nat) : Int)) = ((48 + u % 10 : Nat) : Int) := by simp only [IntKind.wrap_u64]; omega
    have q3 : IntKind.u8.wrap ((48 + u % 10 : Nat) : Int) = (c.toNat : Int) := by rw [hct]; exact wrap_u8 (by omega) (by omega)
    have q4 : IntKind.u64.wrap ((u : Int).tdiv 10) = ((u / 10 : Nat) : Int) := by rw [Int.tdiv_eq_ediv_of_nonneg (by omega)]; simp only [IntKind.wrap_u64]; omega
    have hms : (mkStr [c] ++ A).size = 1 + A.size := by rw [ByteArray.size_append, hm2]
    have hsg : ((⟨#[]⟩ : ByteArray)).size ≤ 1 := by decide
    have hcl : (mkStr [c] ++ A).data.toList = c :: A.data.toList := by rw [ba_list, mkStr_L]; rfl
    repeat' (first | (apply G_on; exact rfl; first | ((first | apply G1_assign | apply G1_move); exact rfl; exact rfl) | (apply G1_remE (r := ((u % 10 : Nat) : Int)); exact rfl; exact rfl; decide; exact q1; exact rfl) | (apply G1_addE (r := ((48 + u % 10 : Nat) : Int)); exact rfl; exact rfl; exact q2; exact rfl) | (apply G1_convE (j := (c.toNat : Int)); exact rfl; exact T.i105; exact T.i5; exact q3; exact rfl) | (apply G1_build1 eByte c; exact T.s28; exact rfl; exact rfl; exact rfl; decide; exact rfl; exact rfl; intro p3 w3 hp3 hs3 _ hx3 hz3) | (apply G1_toString (bs := [c]); exact T.s28; exact T.i5; exact T.str9; exact rfl; exact hs3; exact rfl) | (apply G1_quoE (r := ((u / 10 : Nat) : Int)); exact rfl; exact rfl; decide; exact q4; exact rfl) | (apply G1_sadd; exact rfl; exact rfl; omega; exact rfl) | (apply G1_eql; exact rfl; exact rfl; exact rfl)) | apply G_nil | apply Post_next | apply W_seq | apply W_region | (apply W_cond_dec; exact rfl; all_goals (intro h; try (exfalso; omega))) | apply W_skip | apply W_ret | apply W_block | apply Post_then_ret | apply Post_block_ret | apply Post_block_normal)
    · have hu10 : u < 10 := by omega
      rw [Lib.decDigits_one hu10] at hdec
      have e0 : c :: A.data.toList = Lib.decDigits u0 := by rw [← hdec, hc, show u % 10 = u by omega]; rfl
      have e1 : (⟨#[]⟩ : ByteArray) ++ (mkStr [c] ++ A) = itoaB n := by
        apply ba_ext
        rw [ba_list, hcl, itoaB_list, e0, hu0]
        unfold Lib.itoa
        rw [if_neg hneg, show n.natAbs = n.toNat by omega]; rfl
      refine Post_ret Tryd.results56 ⟨_, _, rfl, rfl, rfl⟩ ?_
      exact ⟨congrArg Value.string e1, (by repeat first | assumption | exact Ext.rfl' | apply Ext.drew | apply Ext.alloc | refine Ext.trans ?_ (by assumption))⟩
    · have hu10 : ¬ u < 10 := by omega
      rw [Lib.decDigits, dif_neg hu10, List.append_assoc] at hdec
      exact Post_round (u / 10, mkStr [c] ++ A) ⟨rfl, rfl, rfl, trivial⟩ ⟨(by repeat first | assumption | exact Ext.rfl' | apply Ext.drew | apply Ext.alloc | refine Ext.trans ?_ (by assumption)), by simp only; omega, by simp only; rw [hcl, hc]; exact hdec⟩ (by simp only; omega)
end Go.Proofs.YtikjnmpijflnaaaDoor
