/- Layer 2: the walk of Quote. -/
import Derived.Test.YtbphlenpclnobaaVGlob1
import Derived.Laws.Externs
namespace Go.V
open Go.RowKit
section
variable {P : Program} {n : Nat} {ops : Array Oper} {dr : Nat × List Nat} {l : List Oper} {E : Env} {w : World} {K : Env → World → Prop}
variable {d : Option Nat} {ty : TypeId} {pos : String} {af : Array Edge} {g : Option (Nat × Bool)} {x y : Operand} {i : Int}
/-- the library's search for a byte -/
theorem G1_indexByte {f : FuncId} {fn : Func} {s : ByteArray} {tys : Array TypeId} (hf : P.funcs[f]? = some fn) (hname : (fn.name == "runtime.NumGoroutine") = false) (hb : fn.body.isNone = true) (hn : Extern.findNext fn = none) (hfi : Extern.find fn = some Extern.BytealgIndexByte.indexByte)
    (hx : E.look x = some (.string s)) (hy : E.look y = some (.int .u8 i)) (he : effects P dr.1 ⟨d, .call ⟨.value (.func f), #[x, y], tys⟩, ty, pos, af, g⟩ = true) (hd : dstOk n d = true)
    (h : G P n ops dr l (E.put d (.int .i64 (firstIdx s i.toNat.toUInt8))) w K) : G1 P n ops dr ⟨d, .call ⟨.value (.func f), #[x, y], tys⟩, ty, pos, af, g⟩ l E w K := by
  have hr : (callFunc f #[.string s, .int .u8 i]).run P w = .ok (.value (.int .i64 (firstIdx s i.toNat.toUInt8))) w := by
    rw [run_callFunc_extern hf hname hb hn hfi, run_indexByte_string]
    rfl
  exact G1_eff _ w he hd (fun a ha => by
    have e0 : a.eval (.func f) = .func (.func f) #[] #[] := rfl
    simp [execOp, resolve, Deferred.ofValue, e0, invoke, ha.eval hx, ha.eval hy, hr]) (.inr ExtS.rfl') h
end
def signs : ByteArray := ⟨#[42, 63, 91, 92]⟩
def isSign (c : UInt8) : Bool := c == 42 || c == 63 || c == 91 || c == 92
theorem sign_idx (c : UInt8) : decide (0 ≤ firstIdx signs c) = isSign c := by
  have key : ∀ n : Fin 256, decide (0 ≤ firstIdx signs (UInt8.ofNat n.val)) = isSign (UInt8.ofNat n.val) := by decide +kernel
  have h := key ⟨c.toNat, UInt8.toNat_lt c⟩
  simpa using h
def quoteL (l : List UInt8) : List UInt8 := l.flatMap fun c => if isSign c = true then [92, c] else [c]
theorem quoteL_len (l : List UInt8) : (quoteL l).length ≤ 2 * l.length := by
  induction l with
  | nil => simp [quoteL]
  | cons c l ih =>
    have e : quoteL (c :: l) = (if isSign c = true then [92, c] else [c]) ++ quoteL l := rfl
    rw [e, List.length_append, List.length_cons]
    split <;> simp <;> omega
theorem quoteL_snoc {l : List UInt8} {k : Nat} {c : UInt8} (h : l[k]? = some c) : quoteL (l.take (k + 1)) = quoteL (l.take k) ++ (if isSign c = true then [92, c] else [c]) := by
  rw [take_snoc h]; simp [quoteL]
theorem toUInt8_nat (c : UInt8) : ((c.toNat : Int)).toNat.toUInt8 = c := by simp
end Go.V
namespace Go.Proofs.Ytbphlenpclnobaa
open Go.V
attribute [local irreducible] Blk Own hcell IntT SliceT PlainT AggT SizeT StrT FieldT ZeroT EqT ArrT
theorem ib0 : Extern.findNext Try.f55 = none := by kernel_rfl
theorem ib1 : Extern.find Try.f55 = some Extern.BytealgIndexByte.indexByte := by kernel_rfl
theorem lite_index {s : ByteArray} {i : Int} {w : World} : Ctr Try.prog 38 [.string s, .int .u8 i] w (fun v w' => v = .int .i64 (firstIdx s i.toNat.toUInt8) ∧ Ext w w') := by
  refine Ctr_of Try.func38 Try.ntmps38 rfl rfl rfl ?_
  repeat' (first | (apply G_on; exact rfl; first | ((first | apply G1_assign | apply G1_move); exact rfl; exact rfl) | (apply G1_indexByte; exact Try.func55; exact rfl; exact rfl; exact ib0; exact ib1; exact rfl; exact rfl; exact rfl; exact rfl)) | apply G_nil | apply Post_next | apply W_seq | apply W_region | (apply W_cond_true; exact rfl) | (apply W_cond_false; exact rfl) | (apply W_cond_dec; exact rfl; all_goals (intro h; try (exfalso; omega))) | (apply W_cond; exact rfl; all_goals intro h) | (apply G_off; exact rfl; exact rfl) | ((fail_if_success (apply G_on; exact rfl)); apply G_split_dec; exact rfl; exact rfl; all_goals (intro h; try (exfalso; omega))) | ((fail_if_success (apply G_on; exact rfl)); apply G_split; exact rfl; exact rfl; all_goals intro h) | apply W_skip | apply W_exit | apply W_ret | apply W_block | apply Post_then_ret | apply Post_block_ret | apply Post_then_exit | apply Post_block_exit | (apply Post_block_other; exact rfl) | apply Post_block_normal)
  refine Post_ret Try.results38 ⟨_, _, rfl, rfl, rfl⟩ ?_
  exact ⟨rfl, (by repeat first | assumption | exact Ext.rfl' | apply Ext.drew | apply Ext.alloc | refine Ext.trans ?_ (by assumption))⟩
theorem str_index {s : ByteArray} {i : Int} {w : World} : Ctr Try.prog 27 [.string s, .int .u8 i] w (fun v w' => v = .int .i64 (firstIdx s i.toNat.toUInt8) ∧ Ext w w') := by
  refine Ctr_of Try.func27 Try.ntmps27 rfl rfl rfl ?_
  repeat' (first | (apply G_on; exact rfl; first | ((first | apply G1_assign | apply G1_move); exact rfl; exact rfl) | (apply G1_call (f := 38); exact rfl; exact rfl; exact rfl; exact lite_index; rintro _ w2 ⟨rfl, hx2⟩; refine ⟨(by first | exact .inl rfl | exact .inr (by assumption)), ?_⟩)) | apply G_nil | apply Post_next | apply W_seq | apply W_region | (apply W_cond_true; exact rfl) | (apply W_cond_false; exact rfl) | (apply W_cond_dec; exact rfl; all_goals (intro h; try (exfalso; omega))) | (apply W_cond; exact rfl; all_goals intro h) | (apply G_off; exact rfl; exact rfl) | ((fail_if_success (apply G_on; exact rfl)); apply G_split_dec; exact rfl; exact rfl; all_goals (intro h; try (exfalso; omega))) | ((fail_if_success (apply G_on; exact rfl)); apply G_split; exact rfl; exact rfl; all_goals intro h) | apply W_skip | apply W_exit | apply W_ret | apply W_block | apply Post_then_ret | apply Post_block_ret | apply Post_then_exit | apply Post_block_exit | (apply Post_block_other; exact rfl) | apply Post_block_normal)
  refine Post_ret Try.results27 ⟨_, _, rfl, rfl, rfl⟩ ?_
  exact ⟨rfl, (by repeat first | assumption | exact Ext.rfl' | apply Ext.drew | apply Ext.alloc | refine Ext.trans ?_ (by assumption))⟩

theorem quote_spec {s : ByteArray} {w : World} (hs : s.size ≤ 100000) : Ctr Try.prog 10 [.string s] w (fun v w' => v = .string (mkStr (quoteL s.data.toList)) ∧ Ext w w') := by
  obtain ⟨L, hL⟩ : ∃ L, L = s.data.toList := ⟨_, rfl⟩
  have hLl : L.length = s.size := by rw [hL, Array.length_toList]; rfl
  rw [← hL]
  refine Ctr_of Try.func10 Try.ntmps10 rfl rfl rfl ?_
  repeat' (first | (apply G_on; exact rfl; first | ((first | apply G1_assign | apply G1_move); exact rfl; exact rfl) | (apply G1_slen; exact T.str9; exact rfl; exact rfl) | ((first | apply G1_lss | apply G1_geq); exact rfl; exact rfl; exact rfl) | (apply G1_sindex; exact T.str9; exact rfl; exact rfl; omega; omega; exact rfl) | (apply G1_add; exact rfl; exact rfl; omega; omega; exact rfl)) | apply G_nil | apply Post_next | apply W_seq | apply W_region | (apply W_cond_true; exact rfl) | (apply W_cond_false; exact rfl) | (apply W_cond_dec; exact rfl; all_goals (intro h; try (exfalso; omega))) | (apply W_cond; exact rfl; all_goals intro h) | (apply G_off; exact rfl; exact rfl) | ((fail_if_success (apply G_on; exact rfl)); apply G_split_dec; exact rfl; exact rfl; all_goals (intro h; try (exfalso; omega))) | ((fail_if_success (apply G_on; exact rfl)); apply G_split; exact rfl; exact rfl; all_goals intro h) | apply W_skip | apply W_exit | apply W_ret | apply W_block | apply Post_then_ret | apply Post_block_ret | apply Post_then_exit | apply Post_block_exit | (apply Post_block_other; exact rfl) | apply Post_block_normal)
  apply G_on; exact rfl
  apply G1_make0 eByte; exact T.s63; exact rfl; exact rfl; exact rfl; omega; omega; omega; exact rfl; exact rfl
  intro p1 w1 ho1 hx1 hz1
  repeat' (first | (apply G_on; exact rfl; first | ((first | apply G1_assign | apply G1_move); exact rfl; exact rfl) | (apply G1_slen; exact T.str9; exact rfl; exact rfl) | ((first | apply G1_lss | apply G1_geq); exact rfl; exact rfl; exact rfl) | (apply G1_sindex; exact T.str9; exact rfl; exact rfl; omega; omega; exact rfl) | (apply G1_add; exact rfl; exact rfl; omega; omega; exact rfl)) | apply G_nil | apply Post_next | apply W_seq | apply W_region | (apply W_cond_true; exact rfl) | (apply W_cond_false; exact rfl) | (apply W_cond_dec; exact rfl; all_goals (intro h; try (exfalso; omega))) | (apply W_cond; exact rfl; all_goals intro h) | (apply G_off; exact rfl; exact rfl) | ((fail_if_success (apply G_on; exact rfl)); apply G_split_dec; exact rfl; exact rfl; all_goals (intro h; try (exfalso; omega))) | ((fail_if_success (apply G_on; exact rfl)); apply G_split; exact rfl; exact rfl; all_goals intro h) | apply W_skip | apply W_exit | apply W_ret | apply W_block | apply Post_then_ret | apply Post_block_ret | apply Post_then_exit | apply Post_block_exit | (apply Post_block_other; exact rfl) | apply Post_block_normal)
  refine W_loop (ι := Nat × Option Addr × Nat) (fun y => [(0, .string s), (3, .slice y.2.1 (quoteL (L.take y.1)).length y.2.2), (9, .int .i64 (s.size : Int)), (10, .int .i64 (y.1 : Int))])
    (fun y w' => Ext w w' ∧ y.1 ≤ s.size ∧ Own w' w.heap.size 5 eByte y.2.1 y.2.2 (quoteL (L.take y.1))) (fun y => s.size - y.1) (0, p1, (s.size : Int).toNat) ⟨rfl, rfl, rfl, rfl, trivial⟩ ⟨hx1, Nat.zero_le _, ho1⟩ ?_
  rintro ⟨k, q, d⟩ w2 ⟨hx, hk, hO⟩
  simp only at hk hO
  refine W_keep [(0, .string s), (3, .slice q (quoteL (L.take k)).length d), (9, .int .i64 (s.size : Int)), (10, .int .i64 (k : Int))] ⟨rfl, rfl, rfl, rfl, trivial⟩ ?_
  have hql := quoteL_len (L.take k)
  have htl : (L.take k).length ≤ s.size := by simp; omega
  have z2 := hx.size
  by_cases hlt : k < s.size
  · have hc := list_bget hlt
    rw [← hL] at hc
    have hsg := sign_idx (bget s k)
    have hix : ∀ w, Ctr Try.prog 27 [.string ⟨#[42, 63, 91, 92]⟩, .int .u8 ((bget s k).toNat : Int)] w (fun v w' => v = .int .i64 (firstIdx signs (bget s k)) ∧ Ext w w') := fun w => str_index.mono fun v w' ⟨h1, h2⟩ => ⟨by rw [h1, toUInt8_nat]; rfl, h2⟩
    cases hs2 : isSign (bget s k) with
    | true =>
      have hge : 0 ≤ firstIdx signs (bget s k) := of_decide_eq_true (by rw [hsg, hs2])
      have hq := quoteL_snoc hc
      rw [hs2, if_pos rfl] at hq
      repeat' (first | (apply G_on; exact rfl; first | ((first | apply G1_assign | apply G1_move); exact rfl; exact rfl) | (apply G1_sindexJ (q := k); exact T.str9; exact rfl; exact rfl; omega; omega; exact rfl) | (apply G1_call (f := 27); exact rfl; exact rfl; exact rfl; exact hix _; rintro _ w3 ⟨rfl, hx3⟩; refine ⟨(by first | exact .inl rfl | exact .inr (by assumption)), ?_⟩; (first | replace hO := hO.ext hx3 | replace hO := hO.ext ((Ext.drew Ext.rfl').trans hx3))) | (apply G1_slen; exact T.str9; exact rfl; exact rfl) | ((first | apply G1_lss | apply G1_geq); exact rfl; exact rfl; exact rfl) | (apply G1_sindex; exact T.str9; exact rfl; exact rfl; omega; omega; exact rfl) | (apply G1_add; exact rfl; exact rfl; omega; omega; exact rfl)) | apply G_nil | apply Post_next | apply W_seq | apply W_region | (apply W_cond_true; exact rfl) | (apply W_cond_false; exact rfl) | (apply W_cond_dec; exact rfl; all_goals (intro h; try (exfalso; omega))) | (apply W_cond; exact rfl; all_goals intro h) | (apply G_off; exact rfl; exact rfl) | ((fail_if_success (apply G_on; exact rfl)); apply G_split_dec; exact rfl; exact rfl; all_goals (intro h; try (exfalso; omega))) | ((fail_if_success (apply G_on; exact rfl)); apply G_split; exact rfl; exact rfl; all_goals intro h) | apply W_skip | apply W_exit | apply W_ret | apply W_block | apply Post_then_ret | apply Post_block_ret | apply Post_then_exit | apply Post_block_exit | (apply Post_block_other; exact rfl) | apply Post_block_normal)
      replace hx := hx.trans hx3
      apply G_on; exact rfl
      apply G1_build1 eByte 92; exact T.s63; exact rfl; exact rfl; exact rfl; decide; exact rfl; exact rfl
      intro p6 w6 hp6 hs6 _ hx6 hz6
      replace hO := hO.ext hx6
      replace hx := hx.trans hx6
      have z6 := hx.size
      repeat' (first | (apply G_on; exact rfl; first | ((first | apply G1_assign | apply G1_move); exact rfl; exact rfl) | (apply G1_sindexJ (q := k); exact T.str9; exact rfl; exact rfl; omega; omega; exact rfl) | (apply G1_appendA; exact T.s63; exact rfl; exact rfl; exact hO; exact hs6; exact rfl; omega; (simp only [List.length_append, List.length_cons, List.length_nil]; omega); (simp only [List.length_append, List.length_cons, List.length_nil]; omega); exact rfl; exact rfl; exact rfl; intro p7 c7 w7 ha7) | (apply G1_slen; exact T.str9; exact rfl; exact rfl) | ((first | apply G1_lss | apply G1_geq); exact rfl; exact rfl; exact rfl) | (apply G1_sindex; exact T.str9; exact rfl; exact rfl; omega; omega; exact rfl) | (apply G1_add; exact rfl; exact rfl; omega; omega; exact rfl)) | apply G_nil | apply Post_next | apply W_seq | apply W_region | (apply W_cond_true; exact rfl) | (apply W_cond_false; exact rfl) | (apply W_cond_dec; exact rfl; all_goals (intro h; try (exfalso; omega))) | (apply W_cond; exact rfl; all_goals intro h) | (apply G_off; exact rfl; exact rfl) | ((fail_if_success (apply G_on; exact rfl)); apply G_split_dec; exact rfl; exact rfl; all_goals (intro h; try (exfalso; omega))) | ((fail_if_success (apply G_on; exact rfl)); apply G_split; exact rfl; exact rfl; all_goals intro h) | apply W_skip | apply W_exit | apply W_ret | apply W_block | apply Post_then_ret | apply Post_block_ret | apply Post_then_exit | apply Post_block_exit | (apply Post_block_other; exact rfl) | apply Post_block_normal)
      replace hx : Ext w w7 := hx.app ha7 (fun k hk => (hO.ge k hk).1)
      replace hO := ha7.own
      apply G_on; exact rfl
      apply G1_build1 eByte (bget s k); exact T.s63; exact rfl; exact rfl; exact rfl; decide; exact rfl; exact rfl
      intro p6 w6 hp6 hs6 _ hx6 hz6
      replace hO := hO.ext hx6
      replace hx := hx.trans hx6
      have z6 := hx.size
      repeat' (first | (apply G_on; exact rfl; first | ((first | apply G1_assign | apply G1_move); exact rfl; exact rfl) | (apply G1_sindexJ (q := k); exact T.str9; exact rfl; exact rfl; omega; omega; exact rfl) | (apply G1_appendA; exact T.s63; exact rfl; exact rfl; exact hO; exact hs6; exact rfl; omega; (simp only [List.length_append, List.length_cons, List.length_nil]; omega); (simp only [List.length_append, List.length_cons, List.length_nil]; omega); exact rfl; exact rfl; exact rfl; intro p8 c7 w7 ha7) | (apply G1_slen; exact T.str9; exact rfl; exact rfl) | ((first | apply G1_lss | apply G1_geq); exact rfl; exact rfl; exact rfl) | (apply G1_sindex; exact T.str9; exact rfl; exact rfl; omega; omega; exact rfl) | (apply G1_add; exact rfl; exact rfl; omega; omega; exact rfl)) | apply G_nil | apply Post_next | apply W_seq | apply W_region | (apply W_cond_true; exact rfl) | (apply W_cond_false; exact rfl) | (apply W_cond_dec; exact rfl; all_goals (intro h; try (exfalso; omega))) | (apply W_cond; exact rfl; all_goals intro h) | (apply G_off; exact rfl; exact rfl) | ((fail_if_success (apply G_on; exact rfl)); apply G_split_dec; exact rfl; exact rfl; all_goals (intro h; try (exfalso; omega))) | ((fail_if_success (apply G_on; exact rfl)); apply G_split; exact rfl; exact rfl; all_goals intro h) | apply W_skip | apply W_exit | apply W_ret | apply W_block | apply Post_then_ret | apply Post_block_ret | apply Post_then_exit | apply Post_block_exit | (apply Post_block_other; exact rfl) | apply Post_block_normal)
      replace hx : Ext w w7 := hx.app ha7 (fun k hk => (hO.ge k hk).1)
      replace hO := ha7.own
      rw [List.append_assoc] at hO
      exact Post_round (k + 1, p8, c7) ⟨rfl, by simp only; rw [hq, List.append_assoc]; rfl, rfl, rfl, trivial⟩ ⟨hx, by simp only; omega, by simp only; rw [hq]; exact hO⟩ (by simp only; omega)
    | false =>
      have hge : ¬ 0 ≤ firstIdx signs (bget s k) := of_decide_eq_false (by rw [hsg, hs2])
      have hq := quoteL_snoc hc
      rw [hs2, if_neg (by simp)] at hq
      repeat' (first | (apply G_on; exact rfl; first | ((first | apply G1_assign | apply G1_move); exact rfl; exact rfl) | (apply G1_sindexJ (q := k); exact T.str9; exact rfl; exact rfl; omega; omega; exact rfl) | (apply G1_call (f := 27); exact rfl; exact rfl; exact rfl; exact hix _; rintro _ w3 ⟨rfl, hx3⟩; refine ⟨(by first | exact .inl rfl | exact .inr (by assumption)), ?_⟩; (first | replace hO := hO.ext hx3 | replace hO := hO.ext ((Ext.drew Ext.rfl').trans hx3))) | (apply G1_slen; exact T.str9; exact rfl; exact rfl) | ((first | apply G1_lss | apply G1_geq); exact rfl; exact rfl; exact rfl) | (apply G1_sindex; exact T.str9; exact rfl; exact rfl; omega; omega; exact rfl) | (apply G1_add; exact rfl; exact rfl; omega; omega; exact rfl)) | apply G_nil | apply Post_next | apply W_seq | apply W_region | (apply W_cond_true; exact rfl) | (apply W_cond_false; exact rfl) | (apply W_cond_dec; exact rfl; all_goals (intro h; try (exfalso; omega))) | (apply W_cond; exact rfl; all_goals intro h) | (apply G_off; exact rfl; exact rfl) | ((fail_if_success (apply G_on; exact rfl)); apply G_split_dec; exact rfl; exact rfl; all_goals (intro h; try (exfalso; omega))) | ((fail_if_success (apply G_on; exact rfl)); apply G_split; exact rfl; exact rfl; all_goals intro h) | apply W_skip | apply W_exit | apply W_ret | apply W_block | apply Post_then_ret | apply Post_block_ret | apply Post_then_exit | apply Post_block_exit | (apply Post_block_other; exact rfl) | apply Post_block_normal)
      replace hx := hx.trans hx3
      apply G_on; exact rfl
      apply G1_build1 eByte (bget s k); exact T.s63; exact rfl; exact rfl; exact rfl; decide; exact rfl; exact rfl
      intro p6 w6 hp6 hs6 _ hx6 hz6
      replace hO := hO.ext hx6
      replace hx := hx.trans hx6
      have z6 := hx.size
      repeat' (first | (apply G_on; exact rfl; first | ((first | apply G1_assign | apply G1_move); exact rfl; exact rfl) | (apply G1_sindexJ (q := k); exact T.str9; exact rfl; exact rfl; omega; omega; exact rfl) | (apply G1_appendA; exact T.s63; exact rfl; exact rfl; exact hO; exact hs6; exact rfl; omega; (simp only [List.length_append, List.length_cons, List.length_nil]; omega); (simp only [List.length_append, List.length_cons, List.length_nil]; omega); exact rfl; exact rfl; exact rfl; intro p8 c7 w7 ha7) | (apply G1_slen; exact T.str9; exact rfl; exact rfl) | ((first | apply G1_lss | apply G1_geq); exact rfl; exact rfl; exact rfl) | (apply G1_sindex; exact T.str9; exact rfl; exact rfl; omega; omega; exact rfl) | (apply G1_add; exact rfl; exact rfl; omega; omega; exact rfl)) | apply G_nil | apply Post_next | apply W_seq | apply W_region | (apply W_cond_true; exact rfl) | (apply W_cond_false; exact rfl) | (apply W_cond_dec; exact rfl; all_goals (intro h; try (exfalso; omega))) | (apply W_cond; exact rfl; all_goals intro h) | (apply G_off; exact rfl; exact rfl) | ((fail_if_success (apply G_on; exact rfl)); apply G_split_dec; exact rfl; exact rfl; all_goals (intro h; try (exfalso; omega))) | ((fail_if_success (apply G_on; exact rfl)); apply G_split; exact rfl; exact rfl; all_goals intro h) | apply W_skip | apply W_exit | apply W_ret | apply W_block | apply Post_then_ret | apply Post_block_ret | apply Post_then_exit | apply Post_block_exit | (apply Post_block_other; exact rfl) | apply Post_block_normal)
      replace hx : Ext w w7 := hx.app ha7 (fun k hk => (hO.ge k hk).1)
      replace hO := ha7.own
      exact Post_round (k + 1, p8, c7) ⟨rfl, by simp only; rw [hq]; rfl, rfl, rfl, trivial⟩ ⟨hx, by simp only; omega, by simp only; rw [hq]; exact hO⟩ (by simp only; omega)
  · have hke : L.take k = L := List.take_of_length_le (by omega)
    rw [hke] at hO ⊢
    have hS := hO.sl
    repeat' (first | (apply G_on; exact rfl; first | ((first | apply G1_assign | apply G1_move); exact rfl; exact rfl) | (apply G1_toString; exact T.s63; exact T.i5; exact T.str9; exact rfl; exact hS; exact rfl) | (apply G1_slen; exact T.str9; exact rfl; exact rfl) | ((first | apply G1_lss | apply G1_geq); exact rfl; exact rfl; exact rfl) | (apply G1_sindex; exact T.str9; exact rfl; exact rfl; omega; omega; exact rfl) | (apply G1_add; exact rfl; exact rfl; omega; omega; exact rfl)) | apply G_nil | apply Post_next | apply W_seq | apply W_region | (apply W_cond_true; exact rfl) | (apply W_cond_false; exact rfl) | (apply W_cond_dec; exact rfl; all_goals (intro h; try (exfalso; omega))) | (apply W_cond; exact rfl; all_goals intro h) | (apply G_off; exact rfl; exact rfl) | ((fail_if_success (apply G_on; exact rfl)); apply G_split_dec; exact rfl; exact rfl; all_goals (intro h; try (exfalso; omega))) | ((fail_if_success (apply G_on; exact rfl)); apply G_split; exact rfl; exact rfl; all_goals intro h) | apply W_skip | apply W_exit | apply W_ret | apply W_block | apply Post_then_ret | apply Post_block_ret | apply Post_then_exit | apply Post_block_exit | (apply Post_block_other; exact rfl) | apply Post_block_normal)
    refine Post_ret Try.results10 ⟨_, _, rfl, rfl, rfl⟩ ?_
    exact ⟨rfl, hx⟩
end Go.Proofs.Ytbphlenpclnobaa
