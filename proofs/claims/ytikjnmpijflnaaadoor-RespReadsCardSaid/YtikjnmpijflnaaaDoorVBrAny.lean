/- strings.ContainsAny where the ends of lines are looked for. -/
import Derived.Test.YtikjnmpijflnaaaDoorVIterStr
import Derived.Test.YtikjnmpijflnaaaDoorVPlain
import Derived.Test.YtikjnmpijflnaaaDoorVTypes
import Derived.Test.YtikjnmpijflnaaaDoorVShelf
import Derived.Test.YtikjnmpijflnaaaDoorVStr
import Derived.Test.YtikjnmpijflnaaaDoorVRepBase
import Derived.Laws.Externs
import Derived.Shelf.Strings.IndexAnyAll
namespace Go.V
open Go.RowKit
section
variable {P : Program} {n : Nat} {ops : Array Oper} {dr : Nat × List Nat} {l : List Oper} {E : Env} {w : World} {K : Env → World → Prop}
variable {d : Option Nat} {ty : TypeId} {pos : String} {af : Array Edge} {g : Option (Nat × Bool)} {x y : Operand} {i : Int}
/-- the library's search for a byte -/
theorem G1_indexByte {f : FuncId} {fn : Func} {s : ByteArray} {tys : Array TypeId} (hf : P.funcs[f]? = some fn) (hname : (fn.name == "runtime.NumGoroutine") = false) (hb : fn.body.isNone = true) (hn : Extern.findNext fn = none) (hfi : Extern.find fn = some Extern.BytealgIndexByte.indexByte)
    (hx : E.look x = some (.string s)) (hy : E.look y = some (.int .u8 i)) (he : effects P dr.1 ⟨d, .call ⟨.value (.func f), #[x, y], tys⟩, ty, pos, af, g⟩ = true) (hd : dstOk n d = true)
    (h : G P n ops dr l (E.put d (.int .i64 (firstIdx s i.toNat.toUInt8))) w K) : G1 P n ops dr ⟨d, .call ⟨.value (.func f), #[x, y], tys⟩, ty, pos, af, g⟩ l E w K := by
  have hr : (callFunc f #[.string s, .int .u8 i]).run P w = .ok (.value (.int .i64 (firstIdx s i.toNat.toUInt8))) w := by
    rw [run_callFunc_extern hf hname hb hn hfi, run_indexByte_string]
    rfl
  exact G1_eff _ w he hd (fun a ha => by
    have e0 : a.eval (.func f) = .func (.func f) #[] #[] := rfl
    simp [execOp, resolve, Deferred.ofValue, e0, invoke, ha.eval hx, ha.eval hy, hr]) (.inr ExtS.rfl') h
end
def brs : ByteArray := ⟨#[13, 10]⟩
def isBr (c : UInt8) : Bool := c == 13 || c == 10
theorem br_idx (c : UInt8) : decide (0 ≤ firstIdx brs c) = isBr c := by
  have key : ∀ n : Fin 256, decide (0 ≤ firstIdx brs (UInt8.ofNat n.val)) = isBr (UInt8.ofNat n.val) := by decide +kernel
  have h := key ⟨c.toNat, UInt8.toNat_lt c⟩
  simpa using h
theorem toUInt8_nat (c : UInt8) : ((c.toNat : Int)).toNat.toUInt8 = c := by simp
end Go.V
namespace Go.Proofs.YtikjnmpijflnaaaDoor
open Go.V
attribute [local irreducible] Blk Own hcell IntT SliceT PlainT AggT SizeT StrT FieldT ZeroT EqT ArrT
theorem ib0 : Extern.findNext Tryd.f69 = none := by kernel_rfl
theorem ib1 : Extern.find Tryd.f69 = some Extern.BytealgIndexByte.indexByte := by kernel_rfl
theorem lite_index {s : ByteArray} {i : Int} {w : World} : Ctr Tryd.prog 110 [.string s, .int .u8 i] w (fun v w' => v = .int .i64 (firstIdx s i.toNat.toUInt8) ∧ Ext w w') := by
  refine Ctr_of Tryd.func110 Tryd.ntmps110 rfl rfl rfl ?_
  repeat' (first | (apply G_on; exact rfl; first | ((first | apply G1_assign | apply G1_move); exact rfl; exact rfl) | (apply G1_indexByte; exact Tryd.func69; exact rfl; exact rfl; exact ib0; exact ib1; exact rfl; exact rfl; exact rfl; exact rfl)) | apply G_nil | apply Post_next | apply W_seq | apply W_region | apply W_ret)
  refine Post_ret Tryd.results110 ⟨_, _, rfl, rfl, rfl⟩ ?_
  exact ⟨rfl, (by repeat first | assumption | exact Ext.rfl' | apply Ext.drew | apply Ext.alloc | refine Ext.trans ?_ (by assumption))⟩
theorem str_index {s : ByteArray} {i : Int} {w : World} : Ctr Tryd.prog 117 [.string s, .int .u8 i] w (fun v w' => v = .int .i64 (firstIdx s i.toNat.toUInt8) ∧ Ext w w') := by
  refine Ctr_of Tryd.func117 Tryd.ntmps117 rfl rfl rfl ?_
  repeat' (first | (apply G_on; exact rfl; first | ((first | apply G1_assign | apply G1_move); exact rfl; exact rfl) | (apply G1_call (f := 110); exact rfl; exact rfl; exact rfl; exact lite_index; rintro _ w2 ⟨rfl, hx2⟩; refine ⟨(by first | exact .inl rfl | exact .inr (by assumption)), ?_⟩)) | apply G_nil | apply Post_next | apply W_seq | apply W_region | apply W_ret)
  refine Post_ret Tryd.results117 ⟨_, _, rfl, rfl, rfl⟩ ?_
  exact ⟨rfl, (by repeat first | assumption | exact Ext.rfl' | apply Ext.drew | apply Ext.alloc | refine Ext.trans ?_ (by assumption))⟩
theorem list_bget {s : ByteArray} {k : Nat} (h : k < s.size) : s.data.toList[k]? = some (bget s k) := by
  have h' : k < s.data.toList.length := by rw [Array.length_toList]; exact h
  have h2 : k < s.data.size := h
  rw [List.getElem?_eq_getElem h', bget_list, List.getD_eq_getElem?_getD, List.getElem?_eq_getElem h']
  rfl
theorem validRune {c : Int} {w : World} : Ctr Tryd.prog 82 [.int .i32 c] w (fun v w' => ∃ b, v = .bool b ∧ Ext w w') := by
  refine Ctr_of Tryd.func82 Tryd.ntmps82 rfl rfl rfl ?_
  repeat' (first | (apply G_on; exact rfl; first | ((first | apply G1_assign | apply G1_move); exact rfl; exact rfl) | ((first | apply G1_leq | apply G1_lss); exact rfl; exact rfl; exact rfl) | (apply G1_pick_t; exact rfl; exact rfl; exact rfl) | (apply G1_pick_f; exact rfl; exact rfl; exact rfl)) | apply G_nil | apply Post_next | apply W_seq | apply W_region | (apply W_cond_false; exact rfl) | (apply W_cond_dec; exact rfl; all_goals (intro h; try (exfalso; omega))) | (apply G_off; exact rfl; exact rfl) | ((fail_if_success (apply G_on; exact rfl)); apply G_split_dec; exact rfl; exact rfl; all_goals (intro h; try (exfalso; omega))) | apply W_skip | apply W_ret | apply W_block | apply Post_then_ret | apply Post_block_ret | apply Post_block_normal)
  all_goals
    refine Post_ret Tryd.results82 ⟨_, _, rfl, rfl, rfl⟩ ?_
    exact ⟨_, rfl, (by repeat first | assumption | exact Ext.rfl' | apply Ext.drew | apply Ext.alloc | refine Ext.trans ?_ (by assumption))⟩
theorem br_get {k : Nat} (h : k < 2) : 10 ≤ (bget brs k).toNat ∧ (bget brs k).toNat < 128 := by
  have key : ∀ n : Fin 2, 10 ≤ (bget brs n.val).toNat ∧ (bget brs n.val).toNat < 128 := by decide
  exact key ⟨k, h⟩
theorem br_dec {k : Nat} (h : k < brs.size) : Utf8.decode brs k = ((bget brs k).toNat, 1) := by
  rw [decode_ascii brs k h (by rw [← bget_idx h]; exact (br_get h).2), bget_idx h]
theorem br_size : brs.size = 2 := rfl
theorem br_rest {q : Nat} {x : UInt8} (hq : q < 2) (hx : 128 ≤ x.toNat) : firstIdx (brs.extract (q + 1) brs.size) x = -1 := by
  have key : ∀ (m : Fin 2) (n : Fin 128), firstIdx (brs.extract (m.val + 1) brs.size) (UInt8.ofNat (128 + n.val)) = -1 := by decide +kernel
  have h := key ⟨q, hq⟩ ⟨x.toNat - 128, by have := x.toNat_lt; omega⟩
  rw [show 128 + (x.toNat - 128) = x.toNat by omega, UInt8.ofNat_toNat] at h
  exact h
theorem rune_hi {c : Int} {w : World} (h1 : 128 ≤ c) (h2 : c ≤ 2147483647) : Ctr Tryd.prog 101 [.string brs, .int .i32 c] w (fun v w' => v = .int .i64 (-1) ∧ Ext w w') := by
  obtain ⟨e1, e2, e3⟩ := rune_facts c.toNat (by omega)
  rw [Int.toNat_of_nonneg (by omega)] at e1 e2 e3
  have hss := br_size
  refine Ctr_of Tryd.func101 Tryd.ntmps101 rfl rfl rfl ?_
  by_cases hc : c = 65533
  · repeat' (first | (apply G_on; exact rfl; first | ((first | apply G1_assign | apply G1_move); exact rfl; exact rfl) | ((first | apply G1_leq | apply G1_lss | apply G1_eql); exact rfl; exact rfl; exact rfl) | (apply G1_pick_t; exact rfl; exact rfl; exact rfl)) | apply G_nil | apply Post_next | apply W_seq | apply W_region | (apply W_cond_dec; exact rfl; all_goals (intro h; try (exfalso; omega))) | ((fail_if_success (apply G_on; exact rfl)); apply G_split_dec; exact rfl; exact rfl; all_goals (intro h; try (exfalso; omega))) | apply W_block)
    apply G_on; exact rfl
    apply G1_rangeS; exact T.str9; exact rfl; exact rfl; exact rfl
    intro w2 hi2 hx2 hz2
    repeat' (first | apply G_nil | apply Post_next | apply W_block)
    refine W_loop (ι := Nat) (fun k => [(175, .pointer (some ⟨w.heap.size, 0, none⟩))]) (fun k w' => Ext w w' ∧ Itr w' w.heap.size brs k ∧ k ≤ 2) (fun k => 2 - k) 0 ⟨rfl, trivial⟩ ⟨hx2, hi2, Nat.zero_le _⟩ ?_
    rintro k w3 ⟨hx3, hi3, hk⟩
    by_cases hlt : k < 2
    · have hd := br_dec (k := k) (by omega)
      have hb := br_get hlt
      repeat' (first | apply W_seq | apply W_region)
      apply G_on; exact rfl
      apply G1_nextS (s := brs) (m := k); exact rfl; exact hi3; omega; exact hd; exact rfl; exact rfl; exact rfl
      intro w4 hi4 hg4 hz4
      have hx4 : Ext w w4 := hx3.own hg4 (fun k hk => by injection hk with hk; omega)
      repeat' (first | (apply G_on; exact rfl; first | ((first | apply G1_assign | apply G1_move); exact rfl; exact rfl) | ((first | apply G1_eql | apply G1_extract); exact rfl; exact rfl; exact rfl)) | apply G_nil | apply Post_next | apply W_seq | apply W_region | (apply W_cond_true; exact rfl) | (apply W_cond_dec; exact rfl; all_goals (intro h; try (exfalso; omega))) | apply W_skip | apply W_block | apply Post_block_normal)
      all_goals exact Post_round (k + 1) ⟨rfl, trivial⟩ ⟨hx4, hi4, by omega⟩ (by omega)
    · repeat' (first | apply W_seq | apply W_region)
      apply G_on; exact rfl
      apply G1_nextE (s := brs) (m := k); exact rfl; exact hi3; omega; exact rfl; exact rfl; exact rfl
      repeat' (first | (apply G_on; exact rfl; first | (apply G1_assign; exact rfl; exact rfl) | (apply G1_extract; exact rfl; exact rfl; exact rfl)) | apply G_nil | apply Post_next | apply W_seq | apply W_region | (apply W_cond_false; exact rfl) | apply W_exit | apply W_ret | apply Post_block_ret | apply Post_then_exit | apply Post_block_exit)
      refine Post_ret Tryd.results101 ⟨_, _, rfl, rfl, rfl⟩ ?_
      exact ⟨rfl, (by repeat first | assumption | exact Ext.rfl' | apply Ext.drew | apply Ext.alloc | refine Ext.trans ?_ (by assumption))⟩
  · repeat' (first | (apply G_on; exact rfl; first | ((first | apply G1_assign | apply G1_move); exact rfl; exact rfl) | (apply G1_call (f := 82); exact rfl; exact rfl; exact rfl; exact validRune; rintro _ w2 ⟨b, rfl, hx2⟩; refine ⟨(by first | exact .inl rfl | exact .inr (by assumption)), ?_⟩) | (apply G1_runeStr; exact T.i21; exact T.str9; exact rfl; exact rfl) | ((first | apply G1_leq | apply G1_lss | apply G1_eql); exact rfl; exact rfl; exact rfl) | (apply G1_pick_t; exact rfl; exact rfl; exact rfl) | (apply G1_not; exact rfl; exact rfl) | (apply G1_slen; exact T.str9; exact rfl; exact rfl) | (apply G1_sub; exact rfl; exact rfl; omega; omega; exact rfl)) | apply G_nil | apply Post_next | apply W_seq | apply W_region | apply W_scope | (apply W_cond_dec; exact rfl; all_goals (intro h; try (exfalso; omega))) | (apply W_cond; exact rfl; all_goals intro h) | ((fail_if_success (apply G_on; exact rfl)); apply G_split_dec; exact rfl; exact rfl; all_goals (intro h; try (exfalso; omega))) | apply W_ret | apply W_block | apply Post_block_ret)
    · refine Post_ret Tryd.results101 ⟨_, _, rfl, rfl, rfl⟩ ?_
      exact ⟨rfl, (by repeat first | assumption | exact Ext.rfl' | apply Ext.drew | apply Ext.alloc | refine Ext.trans ?_ (by assumption))⟩
    · generalize Utf8.encode c = rs at e1 e2 e3 ⊢
      obtain ⟨q, hq⟩ : ∃ q, rs.size - 1 = q := ⟨_, rfl⟩
      rw [hq] at e3
      refine W_loop (ι := Unit) (fun _ => [(0, .string brs), (7, .string rs), (8, .int .i64 (q : Int)), (9, .int .i64 (q : Int))]) (fun _ w' => Ext w w') (fun _ => 0) () ⟨rfl, rfl, by show some (Value.int .i64 _) = _; congr 2; omega, by show some (Value.int .i64 _) = _; congr 2; omega, trivial⟩ (by repeat first | assumption | exact Ext.rfl' | apply Ext.drew | apply Ext.alloc | refine Ext.trans ?_ (by assumption)) ?_
      rintro _ w3 hx3
      by_cases hq2 : q < 2
      · have hsq := br_get (k := q) (by omega)
        have hrest := br_rest (q := q) (x := bget rs q) (by omega) e3
        have e5 : ((q : Int) + 1).toNat = q + 1 := by omega
        have hib : ∀ w, Ctr Tryd.prog 117 [.string (brs.extract ((q : Int) + 1).toNat brs.size), .int .u8 ((bget rs q).toNat : Int)] w (fun v w' => v = .int .i64 (-1) ∧ Ext w w') := fun w =>
          str_index.mono fun v w' ⟨a1, a2⟩ => ⟨by rw [a1, toUInt8_nat, e5, hrest], a2⟩
        repeat' (first | (apply G_on; exact rfl; first | ((first | apply G1_assign | apply G1_move); exact rfl; exact rfl) | (apply G1_sindexJ (q := q) (s := brs); exact T.str9; exact rfl; exact rfl; exact rfl; omega; exact rfl) | (apply G1_sindexJ (q := q) (s := rs); exact T.str9; exact rfl; exact rfl; exact rfl; omega; exact rfl) | (apply G1_ssliceLo; exact T.str9; exact rfl; exact rfl; omega; omega; exact rfl) | (apply G1_call (f := 117); exact rfl; exact rfl; exact rfl; exact hib _; rintro _ w4 ⟨rfl, hx4⟩; refine ⟨(by first | exact .inl rfl | exact .inr (by assumption)), ?_⟩) | ((first | apply G1_lss | apply G1_neq); exact rfl; exact rfl; exact rfl) | (apply G1_slen; exact T.str9; exact rfl; exact rfl) | (apply G1_add; exact rfl; exact rfl; omega; omega; exact rfl)) | apply G_nil | apply Post_next | apply W_seq | apply W_region | apply W_scope | apply Post_scope_ret | (apply W_cond_true; exact rfl) | (apply W_cond_dec; exact rfl; all_goals (intro h; try (exfalso; omega))) | refine W_drawn 1 [] [0,1,2,3,4,5,6] mixed (by decide +kernel) ?_ | refine W_drawn 1 [] [0,1,2,3,4,5,6,7,8] mixed (by decide +kernel) ?_ | apply W_skip | apply W_ret | apply W_block | apply Post_then_ret | apply Post_block_ret)
        refine Post_ret Tryd.results101 ⟨_, _, rfl, rfl, rfl⟩ ?_
        exact ⟨rfl, (by repeat first | assumption | exact Ext.rfl' | apply Ext.drew | apply Ext.alloc | refine Ext.trans ?_ (by assumption))⟩
      · repeat' (first | (apply G_on; exact rfl; first | ((first | apply G1_assign | apply G1_move); exact rfl; exact rfl) | (apply G1_lss; exact rfl; exact rfl; exact rfl) | (apply G1_slen; exact T.str9; exact rfl; exact rfl)) | apply G_nil | apply Post_next | apply W_seq | apply W_region | apply Post_scope_ret | (apply W_cond_dec; exact rfl; all_goals (intro h; try (exfalso; omega))) | apply W_exit | apply W_ret | apply Post_then_ret | apply Post_block_ret | apply Post_then_exit | apply Post_block_exit)
        all_goals try (exfalso; omega)
        refine Post_ret Tryd.results101 ⟨_, _, rfl, rfl, rfl⟩ ?_
        exact ⟨rfl, (by repeat first | assumption | exact Ext.rfl' | apply Ext.drew | apply Ext.alloc | refine Ext.trans ?_ (by assumption))⟩
theorem rune_lo {c : UInt8} {ci : Int} {w : World} (hci : ci = (c.toNat : Int)) (h1 : c.toNat < 128) : Ctr Tryd.prog 101 [.string brs, .int .i32 ci] w (fun v w' => v = .int .i64 (firstIdx brs c) ∧ Ext w w') := by
  have hib : ∀ w, Ctr Tryd.prog 117 [.string brs, .int .u8 ci] w (fun v w' => v = .int .i64 (firstIdx brs c) ∧ Ext w w') := fun w =>
    str_index.mono fun v w' ⟨a1, a2⟩ => ⟨by rw [a1, hci, toUInt8_nat], a2⟩
  refine Ctr_of Tryd.func101 Tryd.ntmps101 rfl rfl rfl ?_
  repeat' (first | (apply G_on; exact rfl; first | ((first | apply G1_assign | apply G1_move); exact rfl; exact rfl) | (apply G1_convu8; exact rfl; exact T.i21; exact T.i5; omega; omega; exact rfl) | (apply G1_call (f := 117); exact rfl; exact rfl; exact rfl; exact hib _; rintro _ w4 ⟨rfl, hx4⟩; refine ⟨(by first | exact .inl rfl | exact .inr (by assumption)), ?_⟩) | ((first | apply G1_leq | apply G1_lss); exact rfl; exact rfl; exact rfl) | (apply G1_pick_t; exact rfl; exact rfl; exact rfl)) | apply G_nil | apply Post_next | apply W_seq | apply W_region | (apply W_cond_dec; exact rfl; all_goals (intro h; try (exfalso; omega))) | ((fail_if_success (apply G_on; exact rfl)); apply G_split_dec; exact rfl; exact rfl; all_goals (intro h; try (exfalso; omega))) | apply W_ret | apply W_block | apply Post_block_ret)
  all_goals try (exfalso; omega)
  refine Post_ret Tryd.results101 ⟨_, _, rfl, rfl, rfl⟩ ?_
  exact ⟨rfl, (by repeat first | assumption | exact Ext.rfl' | apply Ext.drew | apply Ext.alloc | refine Ext.trans ?_ (by assumption))⟩
def hasBr (l : List UInt8) : Bool := l.any isBr
theorem br_lo {c : UInt8} (h : isBr c = true) : c.toNat < 128 := by
  have key : ∀ n : Fin 256, isBr (UInt8.ofNat n.val) = true → n.val < 128 := by decide +kernel
  exact key ⟨c.toNat, c.toNat_lt⟩ (by rw [UInt8.ofNat_toNat]; exact h)
theorem hasBr_ext {s : ByteArray} {m m' : Nat} (h0 : hasBr (s.data.toList.take m) = false) (hm : m ≤ m') (hno : ∀ j, m ≤ j → j < m' → isBr (bget s j) = false) (hs : m' ≤ s.size) : hasBr (s.data.toList.take m') = false := by
  have key : ∀ d, m + d ≤ m' → hasBr (s.data.toList.take (m + d)) = false := by
    intro d
    induction d with
    | zero => intro _; exact h0
    | succ d ih =>
      intro hd
      have h1 := ih (by omega)
      have h2 := list_bget (s := s) (k := m + d) (by omega)
      rw [show m + (d + 1) = (m + d) + 1 by omega, List.take_add_one, h2]
      unfold hasBr at h1 ⊢
      rw [List.any_append, h1]
      have := hno (m + d) (by omega) (by omega)
      simp [this]
  have := key (m' - m) (by omega)
  rwa [show m + (m' - m) = m' by omega] at this
theorem hasBr_yes {s : ByteArray} {m : Nat} (hm : m < s.size) (h : isBr (bget s m) = true) : hasBr s.data.toList = true := by
  unfold hasBr
  exact List.any_eq_true.2 ⟨bget s m, List.mem_of_getElem? (list_bget hm), h⟩
theorem any_short {s : ByteArray} {w : World} (hs : s.size ≤ 8) : Ctr Tryd.prog 89 [.string s, .string brs] w (fun v w' => ∃ r, v = .int .i64 r ∧ decide (0 ≤ r) = hasBr s.data.toList ∧ Ext w w') := by
  have hsl : s.data.toList.length = s.size := by rw [Array.length_toList]; rfl
  have hse : ¬ brs = ⟨#[]⟩ := by decide
  have hss := br_size
  have hsu : ∀ w, Ctr Tryd.prog 102 [.int .i64 (s.size : Int)] w (fun v w' => v = .bool false ∧ Ext w w') := fun w => by
    refine Ctr_of Tryd.func102 Tryd.ntmps102 rfl rfl rfl ?_
    repeat' (first | (apply G_on; exact rfl; first | ((first | apply G1_assign | apply G1_move); exact rfl; exact rfl) | (apply G1_gtr; exact rfl; exact rfl; exact rfl)) | apply G_nil | apply Post_next | apply W_seq | apply W_region | apply W_ret)
    refine Post_ret Tryd.results102 ⟨_, _, rfl, rfl, rfl⟩ ?_
    exact ⟨by show Value.bool (decide _) = _; congr 1; exact decide_eq_false (by omega), (by repeat first | assumption | exact Ext.rfl' | apply Ext.drew | apply Ext.alloc | refine Ext.trans ?_ (by assumption))⟩
  refine Ctr_of Tryd.func89 Tryd.ntmps89 rfl rfl rfl ?_
  repeat' (first | (apply G_on; exact rfl; first | ((first | apply G1_assign | apply G1_move); exact rfl; exact rfl) | (apply G1_call (f := 102); exact rfl; exact rfl; exact rfl; exact hsu _; rintro _ w1 ⟨rfl, hx1⟩; refine ⟨(by first | exact .inl rfl | exact .inr (by assumption)), ?_⟩) | (apply G1_seql; exact rfl; exact rfl; exact rfl) | (apply G1_slen; exact T.str9; exact rfl; exact rfl) | (apply G1_eql; exact rfl; exact rfl; exact rfl)) | apply G_nil | apply Post_next | apply W_seq | apply W_region | (apply W_cond_false; exact rfl) | apply W_skip)
  apply G_on; exact rfl
  apply G1_rangeS; exact T.str9; exact rfl; exact rfl; exact rfl
  intro w2 hi2 hx2 hz2
  replace hx2 : Ext w w2 := hx1.trans hx2
  have hz1 := hx1.size
  obtain ⟨kb, hkb⟩ : ∃ k, w1.heap.size = k := ⟨_, rfl⟩
  rw [hkb] at hi2 hz1 ⊢
  repeat' (first | apply G_nil | apply Post_next | apply W_block)
  refine W_loop (ι := Nat) (fun m => [(1, .string brs), (45, .pointer (some ⟨kb, 0, none⟩))]) (fun m w' => Ext w w' ∧ Itr w' kb s m ∧ m ≤ s.size ∧ hasBr (s.data.toList.take m) = false) (fun m => s.size - m) 0 ⟨rfl, rfl, trivial⟩ ⟨hx2, hi2, Nat.zero_le _, rfl⟩ ?_
  rintro m w3 ⟨hx3, hi3, hm, hno⟩
  by_cases hlt : m < s.size
  · obtain ⟨v, hv⟩ : ∃ v, Utf8.decode s m = v := ⟨_, rfl⟩
    by_cases hb : (bget s m).toNat < 128
    · have hd : v = ((bget s m).toNat, 1) := by rw [← hv, decode_ascii s m hlt (by rw [← bget_idx hlt]; exact hb), bget_idx hlt]
      obtain ⟨ci, hci⟩ : ∃ ci : Int, ci = ((bget s m).toNat : Int) := ⟨_, rfl⟩
      have hsg := br_idx (bget s m)
      repeat' (first | apply W_seq | apply W_region)
      apply G_on; exact rfl
      apply G1_nextS (s := s) (m := m); exact rfl; exact hi3; exact hlt; exact hv; exact rfl; exact rfl; exact rfl
      intro w4 hi4 hg4 hz4
      have hx4 : Ext w w4 := hx3.own hg4 (fun k hk => by injection hk with hk; omega)
      rw [hd] at hi4 ⊢
      simp only at hi4 ⊢
      rw [← hci]
      repeat' (first | (apply G_on; exact rfl; first | ((first | apply G1_assign | apply G1_move); exact rfl; exact rfl) | (apply G1_call (f := 101); exact rfl; exact rfl; exact rfl; exact rune_lo hci hb; rintro _ w5 ⟨rfl, hx5⟩; refine ⟨(by first | exact .inl rfl | exact .inr (by assumption)), ?_⟩) | ((first | apply G1_geq | apply G1_extract); exact rfl; exact rfl; exact rfl)) | apply G_nil | apply Post_next | apply W_seq | apply W_region | (apply W_cond_true; exact rfl) | (apply W_cond_dec; exact rfl; all_goals (intro h; try (exfalso; omega))) | apply W_skip | apply W_ret | apply W_block | apply Post_then_ret | apply Post_block_ret | apply Post_block_normal)
      · refine Post_ret Tryd.results89 ⟨_, _, rfl, rfl, rfl⟩ ?_
        refine ⟨m, rfl, ?_, (by repeat first | assumption | exact Ext.rfl' | apply Ext.drew | apply Ext.alloc | refine Ext.trans ?_ (by assumption))⟩
        rw [hasBr_yes hlt (by rw [← hsg]; exact decide_eq_true h)]
        exact decide_eq_true (by omega)
      · have hns : isBr (bget s m) = false := by rw [← hsg]; exact decide_eq_false h
        exact Post_round (m + 1) ⟨rfl, rfl, trivial⟩ ⟨(by repeat first | assumption | exact Ext.rfl' | apply Ext.drew | apply Ext.alloc | refine Ext.trans ?_ (by assumption)), hi4.ext (by assumption), by omega, hasBr_ext hno (by omega) (fun j h1 h2 => by rw [show j = m by omega]; exact hns) (by omega)⟩ (by omega)
    · obtain ⟨d1, d2, d3, d4, d5⟩ := decode_skip s m hlt (by omega)
      rw [hv] at d1 d2 d3 d4 d5
      obtain ⟨ci, hci⟩ : ∃ ci : Int, ci = (v.1 : Int) := ⟨_, rfl⟩
      repeat' (first | apply W_seq | apply W_region)
      apply G_on; exact rfl
      apply G1_nextS (s := s) (m := m); exact rfl; exact hi3; exact hlt; exact hv; exact rfl; exact rfl; exact rfl
      intro w4 hi4 hg4 hz4
      have hx4 : Ext w w4 := hx3.own hg4 (fun k hk => by injection hk with hk; omega)
      rw [← hci]
      repeat' (first | (apply G_on; exact rfl; first | ((first | apply G1_assign | apply G1_move); exact rfl; exact rfl) | (apply G1_call (f := 101); exact rfl; exact rfl; exact rfl; exact rune_hi (c := ci) (by omega) (by omega); rintro _ w5 ⟨rfl, hx5⟩; refine ⟨(by first | exact .inl rfl | exact .inr (by assumption)), ?_⟩) | ((first | apply G1_geq | apply G1_extract); exact rfl; exact rfl; exact rfl)) | apply G_nil | apply Post_next | apply W_seq | apply W_region | (apply W_cond_true; exact rfl) | (apply W_cond_false; exact rfl) | apply W_skip | apply W_block | apply Post_block_normal)
      exact Post_round (m + v.2) ⟨rfl, rfl, trivial⟩ ⟨(by repeat first | assumption | exact Ext.rfl' | apply Ext.drew | apply Ext.alloc | refine Ext.trans ?_ (by assumption)), hi4.ext (by assumption), d4, hasBr_ext hno (by omega) (fun j h1 h2 => by
        cases hc : isBr (bget s j) with
        | false => rfl
        | true => have h6 := br_lo hc; have h7 := d5 j h1 h2; omega) d4⟩ (by omega)
  · obtain rfl : m = s.size := by omega
    rw [List.take_of_length_le (by omega)] at hno
    repeat' (first | apply W_seq | apply W_region)
    apply G_on; exact rfl
    apply G1_nextE (s := s) (m := s.size); exact rfl; exact hi3; omega; exact rfl; exact rfl; exact rfl
    repeat' (first | (apply G_on; exact rfl; first | (apply G1_assign; exact rfl; exact rfl) | (apply G1_extract; exact rfl; exact rfl; exact rfl)) | apply G_nil | apply Post_next | apply W_seq | apply W_region | (apply W_cond_false; exact rfl) | apply W_exit | apply W_ret | apply Post_then_exit | apply Post_block_exit)
    refine Post_ret Tryd.results89 ⟨_, _, rfl, rfl, rfl⟩ ?_
    exact ⟨-1, rfl, by rw [hno]; rfl, (by repeat first | assumption | exact Ext.rfl' | apply Ext.drew | apply Ext.alloc | refine Ext.trans ?_ (by assumption))⟩
theorem any_br : ∀ l : List UInt8, decide (0 ≤ Lib.indexAny l brs.data.toList) = hasBr l
  | [] => by decide
  | b :: l => by
    have ih := any_br l
    have hc : brs.data.toList.contains b = isBr b := by
      show [(13 : UInt8), 10].contains b = _
      simp [isBr, Bool.or_assoc]; rfl
    have hg := Lib.indexAny_ge brs.data.toList l
    unfold Lib.indexAny
    rw [hc]
    have e : hasBr (b :: l) = (isBr b || hasBr l) := rfl
    rw [e]
    cases hb : isBr b with
    | true => simp
    | false =>
      rw [← ih]
      simp only [Bool.false_eq_true, if_false, Bool.false_or]
      by_cases h1 : Lib.indexAny l brs.data.toList = -1
      · rw [h1]; decide
      · rw [if_neg (by simpa using h1)]
        apply decide_eq_decide.2
        omega
theorem h116 : ((Tryd.prog).info? (Tryd.layIA_ren.t 116)).map (fun i => (i.zero, i.size)) = some (some (.agg (Array.replicate 256 (.bool false))), 256) := by kernel_rfl
theorem any_long {s : ByteArray} {w : World} (h8 : 8 < s.size) (hs : s.size ≤ 100000) : Ctr Tryd.prog 89 [.string s, .string brs] w (fun v w' => ∃ r, v = .int .i64 r ∧ decide (0 ≤ r) = hasBr s.data.toList ∧ Ext w w') := by
  unfold Ctr
  refine ⟨⟨Tryd.f89, Tryd.func89, by decide, rfl⟩, ?_⟩
  refine Calls.mono (Any.strings_IndexAny_long Tryd.layIA (zero_of_info h116).1 (zero_of_info h116).2 s brs w (by decide) h8 (by omega) (by decide) (fun j b hb => by
    have hlt : j < brs.size := by
      have := (List.getElem?_eq_some_iff.1 hb).1
      rw [Array.length_toList] at this; exact this
    have h2 := list_bget (s := brs) (k := j) hlt
    rw [h2] at hb
    injection hb with hb
    rw [← hb]
    exact (br_get hlt).2)) fun e w' ⟨he, hw⟩ => ⟨_, he, ⟨_, rfl, any_br _, ?_⟩⟩
  rw [hw]
  exact (Ext.alloc Ext.rfl' _).trans (Ext.alloc Ext.rfl' _)
theorem indexAny_spec {s : ByteArray} {w : World} (hs : s.size ≤ 100000) : Ctr Tryd.prog 89 [.string s, .string brs] w (fun v w' => ∃ r, v = .int .i64 r ∧ decide (0 ≤ r) = hasBr s.data.toList ∧ Ext w w') := by
  by_cases h8 : s.size ≤ 8
  · exact any_short h8
  · exact any_long (by omega) hs
theorem nobr_has (s : ByteArray) : hasBr s.data.toList = !nobr s := by
  unfold hasBr nobr
  rw [List.not_all_eq_any_not]
  congr 1
  funext b
  unfold isBr
  by_cases h1 : b = 13 <;> by_cases h2 : b = 10 <;> simp [h1, h2]
theorem containsBr {s : ByteArray} {w : World} (hs : s.size ≤ 100000) : Ctr Tryd.prog 77 [.string s, .string brs] w (fun v w' => v = .bool (!nobr s) ∧ Ext w w') := by
  refine Ctr_of Tryd.func77 Tryd.ntmps77 rfl rfl rfl ?_
  repeat' (first | (apply G_on; exact rfl; first | ((first | apply G1_assign | apply G1_move); exact rfl; exact rfl) | (apply G1_call (f := 89); exact rfl; exact rfl; exact rfl; exact indexAny_spec hs; rintro _ w1 ⟨r, rfl, hr, hx1⟩; refine ⟨(by first | exact .inl rfl | exact .inr (by assumption)), ?_⟩) | (apply G1_geq; exact rfl; exact rfl; exact rfl)) | apply G_nil | apply Post_next | apply W_seq | apply W_region | apply W_ret)
  refine Post_ret Tryd.results77 ⟨_, _, rfl, rfl, rfl⟩ ?_
  exact ⟨by rw [← nobr_has]; exact congrArg Value.bool hr, (by repeat first | assumption | exact Ext.rfl' | apply Ext.drew | apply Ext.alloc | refine Ext.trans ?_ (by assumption))⟩
end Go.Proofs.YtikjnmpijflnaaaDoor
