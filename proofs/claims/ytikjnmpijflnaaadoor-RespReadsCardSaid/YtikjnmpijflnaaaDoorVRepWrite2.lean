/- resp.Write: the walk. -/
import Derived.Test.YtikjnmpijflnaaaDoorVRepWrite
namespace Go.Proofs.YtikjnmpijflnaaaDoor
open Go.V
attribute [local irreducible] Blk Own hcell IntT SliceT PlainT AggT SizeT StrT FieldT ZeroT EqT ArrT
theorem zrL : ZeroT Tryd.prog 64 .nilFunc := ZeroT.of (by kernel_rfl)
theorem zrP : ZeroT Tryd.prog 65 .nilFunc := ZeroT.of (by kernel_rfl)
theorem szL : SizeT Tryd.prog 64 1 := SizeT.of (by kernel_rfl)
theorem szP : SizeT Tryd.prog 65 1 := SizeT.of (by kernel_rfl)
/-- what is written of those that are right -/
def wR (ts : List Rep) : List UInt8 := ts.flatMap (fun t => if rightT 4 t = true then wT 4 t else [])
theorem wR_snoc {ts : List Rep} {i : Nat} {t : Rep} (h : ts[i]? = some t) : wR (ts.take (i + 1)) = wR (ts.take i) ++ (if rightT 4 t = true then wT 4 t else []) := by
  unfold wR
  rw [take_snoc h, List.flatMap_append]
  simp
theorem write_spec {e : Nat} {p : Option Addr} {c : Nat} {rs : List RawR} {ts : List Rep} {w : World} (hC : RepsAt w.heap e p c rs ts) (hsm : ∀ t ∈ ts, smallT 5 t) (hN : (wR ts).length ≤ 1000000000) (hT : Pow w) :
    Ctr Tryd.prog 15 [.slice p rs.length c] w (fun v w' => ∃ p' c', v = .slice p' (wR ts).length c' ∧ Sl w'.heap eByte p' c' (wR ts) ∧ Ext w w') := by
  have n1 := hC.sl.bound
  have hll := hC.len
  refine Ctr_of Tryd.func15 Tryd.ntmps15 rfl rfl rfl ?_
  repeat' (first | (apply G_on; exact rfl; (apply G1_assign; exact rfl; exact rfl)) | apply G_nil | apply Post_next | apply W_seq | apply W_region)
  apply G_on; exact rfl; apply G1_alloc; exact T.zero28; exact rfl; exact rfl; intro a1 w1 ha1 hA1 hx1 hs1
  replace hA1 : Blk w1.heap a1 28 [.slice none 0 0] := hA1
  repeat' (first | (apply G_on; exact rfl; (apply G1_makeFunc; exact rfl; exact rfl)) | apply G_nil | apply Post_next | apply W_seq | apply W_region)
  apply G_on; exact rfl; apply G1_alloc; exact zrL; exact rfl; exact rfl; intro a2 w2 ha2 hA2 hx2 hs2
  replace hA1 := hA1.ext hx2
  skip
  apply G_on; exact rfl; apply G1_storeB; exact szL; exact rfl; exact rfl; exact hA2; exact rfl; exact rfl; exact Nat.le_of_ble_eq_true rfl; (focus (simp [Value.cells, Value.oneCell'])); exact rfl; exact .inl rfl; exact rfl; intro w3 hA3 hg3 hs3
  replace hA3 : Blk w3.heap a2 64 [.func (.func 38) #[] #[.pointer (some (adr (bx a1) 0))]] := hA3
  replace hA1 := hA1.grown hg3 (fun e => by injection e; omega)
  have hx3 : Ext w w3 := (hx1.trans hx2).own hg3 (fun k hk => by injection hk; omega)
  repeat' (first | apply G_nil | apply Post_next | apply W_seq | apply W_region)
  apply G_on; exact rfl; apply G1_alloc; exact zrP; exact rfl; exact rfl; intro a4 w4 ha4 hA4 hx4 hs4
  replace hA1 := hA1.ext hx4
  replace hA3 := hA3.ext hx4
  repeat' (first | (apply G_on; exact rfl; (apply G1_makeFunc; exact rfl; exact rfl)) | apply G_nil | apply Post_next | apply W_seq | apply W_region)
  apply G_on; exact rfl; apply G1_storeB; exact szP; exact rfl; exact rfl; exact hA4; exact rfl; exact rfl; exact Nat.le_of_ble_eq_true rfl; (focus (simp [Value.cells, Value.oneCell'])); exact rfl; exact .inl rfl; exact rfl; intro w5 hA5 hg5 hs5
  replace hA5 : Blk w5.heap a4 65 [.func (.func 39) #[] #[.pointer (some (adr (bx a2) 0)), .pointer (some (adr (bx a1) 0)), .pointer (some (adr (bx a4) 0))]] := hA5
  replace hA1 := hA1.grown hg5 (fun e => by injection e; omega)
  replace hA3 := hA3.grown hg5 (fun e => by injection e; omega)
  have hx5 : Ext w w5 := (hx3.trans hx4).own hg5 (fun k hk => by injection hk; omega)
  have h5 : PutSt w w5 w5.heap.size a1 a2 a4 64 65 none 0 [] := ⟨hx5, hA1, hA3, hA5, Own.nil _ _ _ _, by omega, by omega, by omega, by omega, by omega, by omega, Nat.le_refl _⟩
  repeat' (first | (apply G_on; exact rfl; first | (apply G1_move; exact rfl; exact rfl) | (apply G1_len; exact T.s22; exact rfl; exact rfl)) | apply G_nil | apply Post_next | apply W_seq | apply W_region | apply W_block)
  refine W_loop (ι := Nat × Option Addr × Nat) (fun y => [(3, .pointer (some (adr (bx a1) 0))), (5, .pointer (some (adr (bx a4) 0))), (10, .slice p rs.length c), (11, .int .i64 (rs.length : Int)), (12, .int .i64 (y.1 : Int))])
    (fun y w' => PutSt w w' w5.heap.size a1 a2 a4 64 65 y.2.1 y.2.2 (wR (ts.take y.1)) ∧ y.1 ≤ rs.length) (fun y => rs.length - y.1) (0, none, 0) ⟨rfl, rfl, rfl, rfl, rfl, trivial⟩ ⟨h5, Nat.zero_le _⟩ ?_
  rintro ⟨i, p6, c6⟩ w6 ⟨h6, hi⟩
  simp only at h6 hi
  refine W_keep [(3, .pointer (some (adr (bx a1) 0))), (5, .pointer (some (adr (bx a4) 0))), (10, .slice p rs.length c), (11, .int .i64 (rs.length : Int)), (12, .int .i64 (i : Int))] ⟨rfl, rfl, rfl, rfl, rfl, trivial⟩ ?_
  have hC6 := hC.ext h6.ext
  have hsl6 := hC6.sl
  by_cases hlt : i < rs.length
  · obtain ⟨r', hr'⟩ := get_some hlt
    obtain ⟨t', ht'⟩ := get_some (xs := ts) (k := i) (by omega)
    have hst := hsm t' (List.mem_of_getElem? ht')
    have hsn := wR_snoc ht'
    have hle := flat_take_le (fun t => if rightT 4 t = true then wT 4 t else []) ts (i + 1)
    have hle2 : (wR (ts.take (i + 1))).length ≤ (wR ts).length := hle
    repeat' (first | (apply G_on; exact rfl; first | (apply G1_lss; exact rfl; exact rfl; exact rfl) | (apply G1_indexAddrN; exact T.s22; exact rfl; exact rfl; (first | assumption | exact Sl.ok (by assumption) | exact (Own.sl (by assumption)).ok); omega; exact rfl) | (apply G1_loadEl; exact T.a24; exact rfl; assumption; assumption; exact rfl; exact rfl)) | apply G_nil | apply Post_next | apply W_seq | apply W_region | (apply W_cond_dec; exact rfl; all_goals (intro h; try (exfalso; omega))) | apply W_skip | apply W_block)
    apply G_on; exact rfl; apply G1_alloc; exact T.zero24; exact rfl; exact rfl; intro a7 w7 ha7 hA7 hx7 hs7
    replace hsl6 := hsl6.ext hx7
    skip
    apply G_on; exact rfl; apply G1_storeB; exact T.z24; exact rfl; exact rfl; exact hA7; exact rfl; exact rfl; (first | exact Nat.le_of_ble_eq_true rfl | (focus (simp [Value.cells]; done))); (first | exact Enc.one _ _ | (focus (simp [Value.oneCell']; done)) | (focus (simp [Value.cells, Value.oneCell']; done)) | exact Enc.oneAgg _ _); exact rfl; (first | exact .inl rfl | exact .inr (by simp [exempt])); exact rfl; intro w8 hA8 hg8 hs8
    replace hA8 : Blk w8.heap a7 24 (eRep.enc r') := hA8
    have hx68 : Ext w6 w8 := hx7.own hg8 (fun k hk => by injection hk; omega)
    have h8 := h6.xt hx68
    have hat := (hC6.get i r' t' hr' ht').ext hx68
    repeat' (first | (apply G_on; exact rfl; (apply G1_loadBAgg; exact T.a24; exact rfl; assumption; exact rfl; exact rfl)) | apply G_nil | apply Post_next | apply W_seq | apply W_region)
    apply G_on; exact rfl; apply G1_call; exact rfl; exact rfl; exact rfl; exact presp_spec hst hat; rintro _ w9 ⟨rfl, hx9⟩; refine ⟨(by first | exact .inl rfl | exact .inr (by assumption)), ?_⟩
    replace hA8 := hA8.ext hx9
    have h9 := h8.xt hx9
    have hpt := h9.put
    cases hrt : rightT 4 t' with
    | true =>
      rw [hrt, if_pos rfl] at hsn
      rw [hsn, List.length_append] at hle2
      repeat' (first | (apply G_on; exact rfl; first | (apply G1_loadB; exact plP; exact rfl; exact hpt; exact rfl; exact rfl) | (apply G1_loadBAgg; exact T.a24; exact rfl; assumption; exact rfl; exact rfl)) | apply G_nil | apply Post_next | apply W_region | (apply W_cond_true; exact rfl))
      apply G_on; exact rfl; apply G1_callv; exact rfl; exact rfl; exact rfl; exact rfl; exact put_spec hT 4 hrt (hC.get i r' t' hr' ht') h9 (by omega); rintro _ w10 ⟨rfl, p10, c10, h10⟩; refine ⟨(by first | exact .inl rfl | exact .inr (by assumption)), ?_⟩
      repeat' (first | (apply G_on; exact rfl; first | (apply G1_move; exact rfl; exact rfl) | (apply G1_add; exact rfl; exact rfl; omega; omega; exact rfl)) | apply G_nil | apply Post_next | apply W_region | apply Post_block_normal)
      exact Post_round (i + 1, p10, c10) ⟨rfl, rfl, rfl, rfl, rfl, trivial⟩ ⟨by simp only; rw [hsn]; exact h10, by simp only; omega⟩ (by simp only; omega)
    | false =>
      rw [hrt, if_neg (by simp), List.append_nil] at hsn
      repeat' (first | (apply G_on; exact rfl; first | (apply G1_move; exact rfl; exact rfl) | (apply G1_add; exact rfl; exact rfl; omega; omega; exact rfl)) | apply G_nil | apply Post_next | apply W_region | (apply W_cond_false; exact rfl) | apply W_skip | apply Post_block_normal)
      exact Post_round (i + 1, p6, c6) ⟨rfl, rfl, rfl, rfl, rfl, trivial⟩ ⟨by simp only; rw [hsn]; exact h9, by simp only; omega⟩ (by simp only; omega)
  · rw [List.take_of_length_le (by omega)] at h6
    have hb := h6.box
    repeat' (first | (apply G_on; exact rfl; first | (apply G1_assign; exact rfl; exact rfl) | (apply G1_lss; exact rfl; exact rfl; exact rfl) | (apply G1_loadB; exact T.p28; exact rfl; assumption; exact rfl; exact rfl)) | apply G_nil | apply Post_next | apply W_seq | apply W_region | (apply W_cond_dec; exact rfl; all_goals (intro h; try (exfalso; omega))) | apply W_exit | apply W_ret | apply Post_then_exit | apply Post_block_exit)
    refine Post_ret Tryd.results15 ⟨_, _, rfl, rfl, rfl⟩ ?_
    exact ⟨p6, c6, rfl, h6.own.sl, h6.ext⟩
end Go.Proofs.YtikjnmpijflnaaaDoor
