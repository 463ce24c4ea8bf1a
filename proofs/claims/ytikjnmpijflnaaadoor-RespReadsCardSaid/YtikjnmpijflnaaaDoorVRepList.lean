/- The constructors of replies; List, of replies without lists. -/
import Derived.Test.YtikjnmpijflnaaaDoorVRepBase
import Derived.Test.YtikjnmpijflnaaaDoorVRows2
namespace Go.V
def leafR (k : Int) (s : ByteArray) (n : Int) : RawR := ⟨k, s, n, none, 0, 0⟩
def clrR (r : RawR) : RawR := ⟨r.kind, r.s, r.n, none, 0, 0⟩
/-- a level of List's, its trail being empty -/
def eLev : Enc (Option Addr × Nat × Nat) := ⟨5, fun r => [.slice r.1 r.2.1 r.2.2, .int .i64 0, .int .i64 0, .slice none 0 0, .slice none 0 0], fun _ => rfl, fun _ v hv => by simp at hv; rcases hv with rfl | rfl | rfl | rfl | rfl <;> rfl, by decide⟩
end Go.V
namespace Go.Proofs.YtikjnmpijflnaaaDoor
open Go.V
attribute [local irreducible] Blk Own hcell IntT SliceT PlainT AggT SizeT StrT FieldT ZeroT EqT ArrT
theorem bldKS (k : Int) (s : ByteArray) (w : World) : (Instr.build 24 [(0, Value.int .i64 k), (1, Value.string s)].toArray).run Tryd.prog w = .ok (.agg (eRep.enc (leafR k s 0)).toArray) w := by kernel_rfl
theorem bldKN (k : Int) (n : Int) (w : World) : (Instr.build 24 [(0, Value.int .i64 k), (2, Value.int .i64 n)].toArray).run Tryd.prog w = .ok (.agg (eRep.enc (leafR k ⟨#[]⟩ n)).toArray) w := by kernel_rfl
theorem bldK (k : Int) (w : World) : (Instr.build 24 [(0, Value.int .i64 k)].toArray).run Tryd.prog w = .ok (.agg (eRep.enc (leafR k ⟨#[]⟩ 0)).toArray) w := by kernel_rfl
theorem bldKL (k : Int) (p : Option Addr) (l c : Nat) (w : World) : (Instr.build 24 [(0, Value.int .i64 k), (3, Value.slice p l c)].toArray).run Tryd.prog w = .ok (.agg (eRep.enc ⟨k, ⟨#[]⟩, 0, p, l, c⟩).toArray) w := by kernel_rfl
theorem bldLev (p : Option Addr) (l c : Nat) (w : World) : (Instr.build 70 [(0, Value.slice p l c)].toArray).run Tryd.prog w = .ok (.agg (eLev.enc (p, l, c)).toArray) w := by kernel_rfl

theorem mk_text {s : ByteArray} {w : World} : Ctr Tryd.prog 19 [.string s] w (fun v w' => v = .agg (eRep.enc (leafR 0 s 0)).toArray ∧ Ext w w') := by
  refine Ctr_of Tryd.func19 Tryd.ntmps19 rfl rfl rfl ?_
  repeat' (first | apply W_seq | apply W_region)
  apply G_on; exact rfl; apply G1_alloc; exact T.zero24; exact rfl; exact rfl; intro a1 w1 ha1 hA1 hx1 hs1
  repeat' (first | (apply G_on; exact rfl; first | (apply G1_move; exact rfl; exact rfl) | (apply G1_build (.agg (eRep.enc (leafR 0 s 0)).toArray); exact rfl; exact bldKS _ _; exact rfl)) | apply G_nil | apply Post_next | apply W_seq | apply W_region)
  apply G_on; exact rfl; apply G1_storeB; exact T.z24; exact rfl; exact rfl; exact hA1; exact rfl; exact rfl; (first | exact Nat.le_of_ble_eq_true rfl | (focus (simp [Value.cells]; done))); (first | exact Enc.one _ _ | (focus (simp [Value.oneCell']; done)) | (focus (simp [Value.cells, Value.oneCell']; done)) | exact Enc.oneAgg _ _); exact rfl; (first | exact .inl rfl | exact .inr (by simp [exempt])); exact rfl; intro w2 hA2 hg2 hs2
  replace hA2 : Blk w2.heap a1 24 (eRep.enc (leafR 0 s 0)) := hA2
  have hx2 : Ext w w2 := hx1.own hg2 (fun k hk => by injection hk; omega)
  repeat' (first | apply G_nil | apply Post_next | apply W_ret)
  refine Post_ret Tryd.results19 ⟨_, _, _, rfl, rfl, run_loadVar_box T.a24 (by assumption) rfl, rfl⟩ ?_
  exact ⟨rfl, (by repeat first | assumption | exact Ext.rfl' | apply Ext.drew | apply Ext.alloc | refine Ext.trans ?_ (by assumption))⟩
theorem mk_wrong {s : ByteArray} {w : World} : Ctr Tryd.prog 20 [.string s] w (fun v w' => v = .agg (eRep.enc (leafR 1 s 0)).toArray ∧ Ext w w') := by
  refine Ctr_of Tryd.func20 Tryd.ntmps20 rfl rfl rfl ?_
  repeat' (first | apply W_seq | apply W_region)
  apply G_on; exact rfl; apply G1_alloc; exact T.zero24; exact rfl; exact rfl; intro a1 w1 ha1 hA1 hx1 hs1
  repeat' (first | (apply G_on; exact rfl; first | (apply G1_move; exact rfl; exact rfl) | (apply G1_build (.agg (eRep.enc (leafR 1 s 0)).toArray); exact rfl; exact bldKS _ _; exact rfl)) | apply G_nil | apply Post_next | apply W_seq | apply W_region)
  apply G_on; exact rfl; apply G1_storeB; exact T.z24; exact rfl; exact rfl; exact hA1; exact rfl; exact rfl; (first | exact Nat.le_of_ble_eq_true rfl | (focus (simp [Value.cells]; done))); (first | exact Enc.one _ _ | (focus (simp [Value.oneCell']; done)) | (focus (simp [Value.cells, Value.oneCell']; done)) | exact Enc.oneAgg _ _); exact rfl; (first | exact .inl rfl | exact .inr (by simp [exempt])); exact rfl; intro w2 hA2 hg2 hs2
  replace hA2 : Blk w2.heap a1 24 (eRep.enc (leafR 1 s 0)) := hA2
  have hx2 : Ext w w2 := hx1.own hg2 (fun k hk => by injection hk; omega)
  repeat' (first | apply G_nil | apply Post_next | apply W_ret)
  refine Post_ret Tryd.results20 ⟨_, _, _, rfl, rfl, run_loadVar_box T.a24 (by assumption) rfl, rfl⟩ ?_
  exact ⟨rfl, (by repeat first | assumption | exact Ext.rfl' | apply Ext.drew | apply Ext.alloc | refine Ext.trans ?_ (by assumption))⟩
theorem mk_int {n : Int} {w : World} : Ctr Tryd.prog 21 [.int .i64 n] w (fun v w' => v = .agg (eRep.enc (leafR 2 ⟨#[]⟩ n)).toArray ∧ Ext w w') := by
  refine Ctr_of Tryd.func21 Tryd.ntmps21 rfl rfl rfl ?_
  repeat' (first | apply W_seq | apply W_region)
  apply G_on; exact rfl; apply G1_alloc; exact T.zero24; exact rfl; exact rfl; intro a1 w1 ha1 hA1 hx1 hs1
  repeat' (first | (apply G_on; exact rfl; first | (apply G1_move; exact rfl; exact rfl) | (apply G1_build (.agg (eRep.enc (leafR 2 ⟨#[]⟩ n)).toArray); exact rfl; exact bldKN _ _; exact rfl)) | apply G_nil | apply Post_next | apply W_seq | apply W_region)
  apply G_on; exact rfl; apply G1_storeB; exact T.z24; exact rfl; exact rfl; exact hA1; exact rfl; exact rfl; (first | exact Nat.le_of_ble_eq_true rfl | (focus (simp [Value.cells]; done))); (first | exact Enc.one _ _ | (focus (simp [Value.oneCell']; done)) | (focus (simp [Value.cells, Value.oneCell']; done)) | exact Enc.oneAgg _ _); exact rfl; (first | exact .inl rfl | exact .inr (by simp [exempt])); exact rfl; intro w2 hA2 hg2 hs2
  replace hA2 : Blk w2.heap a1 24 (eRep.enc (leafR 2 ⟨#[]⟩ n)) := hA2
  have hx2 : Ext w w2 := hx1.own hg2 (fun k hk => by injection hk; omega)
  repeat' (first | apply G_nil | apply Post_next | apply W_ret)
  refine Post_ret Tryd.results21 ⟨_, _, _, rfl, rfl, run_loadVar_box T.a24 (by assumption) rfl, rfl⟩ ?_
  exact ⟨rfl, (by repeat first | assumption | exact Ext.rfl' | apply Ext.drew | apply Ext.alloc | refine Ext.trans ?_ (by assumption))⟩
theorem mk_str {s : ByteArray} {w : World} : Ctr Tryd.prog 22 [.string s] w (fun v w' => v = .agg (eRep.enc (leafR 3 s 0)).toArray ∧ Ext w w') := by
  refine Ctr_of Tryd.func22 Tryd.ntmps22 rfl rfl rfl ?_
  repeat' (first | apply W_seq | apply W_region)
  apply G_on; exact rfl; apply G1_alloc; exact T.zero24; exact rfl; exact rfl; intro a1 w1 ha1 hA1 hx1 hs1
  repeat' (first | (apply G_on; exact rfl; first | (apply G1_move; exact rfl; exact rfl) | (apply G1_build (.agg (eRep.enc (leafR 3 s 0)).toArray); exact rfl; exact bldKS _ _; exact rfl)) | apply G_nil | apply Post_next | apply W_seq | apply W_region)
  apply G_on; exact rfl; apply G1_storeB; exact T.z24; exact rfl; exact rfl; exact hA1; exact rfl; exact rfl; (first | exact Nat.le_of_ble_eq_true rfl | (focus (simp [Value.cells]; done))); (first | exact Enc.one _ _ | (focus (simp [Value.oneCell']; done)) | (focus (simp [Value.cells, Value.oneCell']; done)) | exact Enc.oneAgg _ _); exact rfl; (first | exact .inl rfl | exact .inr (by simp [exempt])); exact rfl; intro w2 hA2 hg2 hs2
  replace hA2 : Blk w2.heap a1 24 (eRep.enc (leafR 3 s 0)) := hA2
  have hx2 : Ext w w2 := hx1.own hg2 (fun k hk => by injection hk; omega)
  repeat' (first | apply G_nil | apply Post_next | apply W_ret)
  refine Post_ret Tryd.results22 ⟨_, _, _, rfl, rfl, run_loadVar_box T.a24 (by assumption) rfl, rfl⟩ ?_
  exact ⟨rfl, (by repeat first | assumption | exact Ext.rfl' | apply Ext.drew | apply Ext.alloc | refine Ext.trans ?_ (by assumption))⟩
theorem mk_none {w : World} : Ctr Tryd.prog 23 [] w (fun v w' => v = .agg (eRep.enc (leafR 4 ⟨#[]⟩ 0)).toArray ∧ Ext w w') := by
  refine Ctr_of Tryd.func23 Tryd.ntmps23 rfl rfl rfl ?_
  repeat' (first | apply W_seq | apply W_region)
  apply G_on; exact rfl; apply G1_alloc; exact T.zero24; exact rfl; exact rfl; intro a1 w1 ha1 hA1 hx1 hs1
  repeat' (first | (apply G_on; exact rfl; (apply G1_build (.agg (eRep.enc (leafR 4 ⟨#[]⟩ 0)).toArray); exact rfl; exact bldK _; exact rfl)) | apply G_nil | apply Post_next | apply W_seq | apply W_region)
  apply G_on; exact rfl; apply G1_storeB; exact T.z24; exact rfl; exact rfl; exact hA1; exact rfl; exact rfl; (first | exact Nat.le_of_ble_eq_true rfl | (focus (simp [Value.cells]; done))); (first | exact Enc.one _ _ | (focus (simp [Value.oneCell']; done)) | (focus (simp [Value.cells, Value.oneCell']; done)) | exact Enc.oneAgg _ _); exact rfl; (first | exact .inl rfl | exact .inr (by simp [exempt])); exact rfl; intro w2 hA2 hg2 hs2
  replace hA2 : Blk w2.heap a1 24 (eRep.enc (leafR 4 ⟨#[]⟩ 0)) := hA2
  have hx2 : Ext w w2 := hx1.own hg2 (fun k hk => by injection hk; omega)
  repeat' (first | apply G_nil | apply Post_next | apply W_ret)
  refine Post_ret Tryd.results23 ⟨_, _, _, rfl, rfl, run_loadVar_box T.a24 (by assumption) rfl, rfl⟩ ?_
  exact ⟨rfl, (by repeat first | assumption | exact Ext.rfl' | apply Ext.drew | apply Ext.alloc | refine Ext.trans ?_ (by assumption))⟩
theorem clone_reps {p : Option Addr} {c : Nat} {xs : List RawR} {w : World} (hx : Sl w.heap eRep p c xs) (hb : xs.length ≤ 1000000) :
    Ctr Tryd.prog 41 [.slice p xs.length c] w (fun v w' => ∃ p' c', v = .slice p' xs.length c' ∧ Own w' w.heap.size 24 eRep p' c' xs ∧ Ext w w') := by
  refine Ctr_of Tryd.func41 Tryd.ntmps41 rfl rfl rfl ?_
  repeat' (first | (apply G_on; exact rfl; first | ((first | apply G1_assign | apply G1_move); exact rfl; exact rfl) | (apply G1_nileql; exact T.s22; exact rfl; exact rfl; exact rfl)) | apply G_nil | apply Post_next | apply W_seq | apply W_region | (apply W_cond; exact rfl; all_goals intro h) | apply W_skip | apply W_ret | apply Post_then_ret)
  · refine Post_ret Tryd.results41 ⟨_, _, rfl, rfl, rfl⟩ ?_
    have hn : p = none := by simpa using h
    have h1 := hx.ok.nul hn
    have h2 := hx.ok.le
    obtain rfl : xs = [] := List.eq_nil_of_length_eq_zero (by omega)
    exact ⟨none, 0, rfl, Own.nil _ _ _ _, (by repeat first | assumption | exact Ext.rfl' | apply Ext.drew | apply Ext.alloc | refine Ext.trans ?_ (by assumption))⟩
  · apply G_on; exact rfl
    apply G1_build0 eRep; exact T.s22; exact rfl; exact rfl
    intro p1 w1 ho hx1 hs1
    have hsl := hx.ext hx1
    repeat' (first | (apply G_on; exact rfl; first | ((first | apply G1_assign | apply G1_move); exact rfl; exact rfl) | (apply G1_append; exact T.s22; exact rfl; exact rfl; exact ho; exact hsl; exact rfl; omega; (simp; omega); (simp; omega); exact rfl; exact rfl; exact rfl; intro p2 c2 w2 ho2 hg2 hn2)) | apply G_nil | apply Post_next | apply W_ret)
    refine Post_ret Tryd.results41 ⟨_, _, rfl, rfl, rfl⟩ ?_
    exact ⟨p2, c2, rfl, ho2, Ext.own hx1 hg2 (fun k hk => (ho.ge k hk).1)⟩

theorem enter_leaf {p : Option Addr} {c : Nat} {w : World} :
    Ctr Tryd.prog 42 [.agg #[.int .i64 0, .int .i64 0, .slice none 0 0, .slice none 0 0], .slice p 0 c, .slice p 0 c] w (fun v w' => v = .tuple #[.agg #[.int .i64 0, .int .i64 0, .slice none 0 0, .slice none 0 0], .bool false] ∧ Ext w w') := by
  refine Ctr_of Tryd.func42 Tryd.ntmps42 rfl rfl rfl ?_
  repeat' (first | apply W_seq | apply W_region)
  apply G_on; exact rfl; apply G1_box; exact rfl; exact rfl; exact rfl; intro a1 w1 ha1 hA1 hx1 hs1
  replace hA1 : Blk w1.heap a1 68 [.int .i64 0, .int .i64 0, .slice none 0 0, .slice none 0 0] := hA1
  skip
  apply G_on; exact rfl; apply G1_alloc; exact T.zero68; exact rfl; exact rfl; intro a2 w2 ha2 hA2 hx2 hs2
  replace hA1 := hA1.ext hx2
  repeat' (first | (apply G_on; exact rfl; first | ((first | apply G1_assign | apply G1_move); exact rfl; exact rfl) | (apply G1_len; exact T.s22; exact rfl; exact rfl) | (apply G1_eql; exact rfl; exact rfl; exact rfl) | (apply G1_pick_t; exact rfl; exact rfl; exact rfl) | (apply G1_loadBAgg; exact T.a68; exact rfl; assumption; exact rfl; exact rfl)) | apply G_nil | apply Post_next | apply W_seq | apply W_region | (apply W_cond_true; exact rfl) | (apply G_off; exact rfl; exact rfl))
  apply G_on; exact rfl; apply G1_storeB; exact T.z68; exact rfl; exact rfl; exact hA2; exact rfl; exact rfl; (first | exact Nat.le_of_ble_eq_true rfl | (focus (simp [Value.cells]; done))); (first | exact Enc.one _ _ | (focus (simp [Value.oneCell']; done)) | (focus (simp [Value.cells, Value.oneCell']; done)) | exact Enc.oneAgg _ _); exact rfl; (first | exact .inl rfl | exact .inr (by simp [exempt])); exact rfl; intro w3 hA3 hg3 hs3
  replace hA3 : Blk w3.heap a2 68 [.int .i64 0, .int .i64 0, .slice none 0 0, .slice none 0 0] := hA3
  have hx3 : Ext w w3 := (hx1.trans hx2).own hg3 (fun k hk => by injection hk; omega)
  repeat' (first | (apply G_on; exact rfl; (apply G1_assign; exact rfl; exact rfl)) | apply G_nil | apply Post_next | apply W_ret | apply Post_then_ret)
  refine Post_ret Tryd.results42 ⟨_, _, _, rfl, rfl, run_loadVar_box T.a68 (by assumption) rfl, _, _, rfl, rfl, rfl⟩ ?_
  exact ⟨rfl, (by repeat first | assumption | exact Ext.rfl' | apply Ext.drew | apply Ext.alloc | refine Ext.trans ?_ (by assumption))⟩

theorem list_leaf {p : Option Addr} {c : Nat} {rs : List RawR} {w : World} (hC : Sl w.heap eRep p c rs) (h0 : ∀ r ∈ rs, r.len = 0) (hl : rs.length ≤ 100) :
    Ctr Tryd.prog 18 [.slice p rs.length c] w (fun v w' => ∃ p' c', v = .agg (eRep.enc ⟨5, ⟨#[]⟩, 0, p', rs.length, c'⟩).toArray ∧ Sl w'.heap eRep p' c' (rs.map clrR) ∧ Ext w w') := by
  refine Ctr_of Tryd.func18 Tryd.ntmps18 rfl rfl rfl ?_
  repeat' (first | apply W_seq | apply W_region)
  apply G_on; exact rfl; apply G1_alloc; exact T.zero24; exact rfl; exact rfl; intro a2 w1 ha2 hA2 hx1 hs1
  replace hC := hC.ext hx1
  repeat' (first | (apply G_on; exact rfl; (apply G1_move; exact rfl; exact rfl)) | apply G_nil | apply Post_next | apply W_seq | apply W_region)
  apply G_on; exact rfl; apply G1_call; exact rfl; exact rfl; exact rfl; exact clone_reps hC (by omega); rintro _ w2 ⟨p', c', rfl, hO, hx2⟩; refine ⟨(by first | exact .inl rfl | exact .inr (by assumption)), ?_⟩
  replace hA2 := hA2.ext hx2
  have z12 := hx2.size
  replace hx2 := hx1.trans hx2
  have hOlt : ∀ k, blk p' = some k → w1.heap.size ≤ k ∧ k < w2.heap.size := hO.ge
  have z2 := hx2.size
  repeat' (apply G_on; exact rfl; (apply G1_build (.agg (eRep.enc ⟨5, ⟨#[]⟩, 0, p', rs.length, c'⟩).toArray); exact rfl; exact bldKL _ _ _ _; exact rfl))
  apply G_on; exact rfl; apply G1_alloc; exact T.zero24; exact rfl; exact rfl; intro a3 w3 ha3 hA3 hx3 hs3
  replace hA2 := hA2.ext hx3
  replace hO := hO.ext hx3
  skip
  apply G_on; exact rfl; apply G1_storeB; exact T.z24; exact rfl; exact rfl; exact hA3; exact rfl; exact rfl; (first | exact Nat.le_of_ble_eq_true rfl | (focus (simp [Value.cells]; done))); (first | exact Enc.one _ _ | (focus (simp [Value.oneCell']; done)) | (focus (simp [Value.cells, Value.oneCell']; done)) | exact Enc.oneAgg _ _); exact rfl; (first | exact .inl rfl | exact .inr (by simp [exempt])); exact rfl; intro w4 hA4 hg4 hs4
  replace hA4 : Blk w4.heap a3 24 [.int .i64 5, .string ⟨#[]⟩, .int .i64 0, .slice p' rs.length c'] := hA4
  replace hA2 := hA2.grown hg4 (fun e => by injection e; omega)
  replace hO := hO.kept hg4 (fun a ha e => by injection e with e; have := hOlt a.block (by rw [ha]; rfl); omega)
  have hx4 : Ext w w4 := (hx2.trans hx3).own hg4 (fun k hk => by injection hk; omega)
  repeat' (first | (apply G_on; exact rfl; first | (apply G1_build (.agg (eLev.enc (p', rs.length, c')).toArray); exact rfl; exact bldLev _ _ _; exact rfl) | (apply G1_fieldAddr; exact T.f24_3; exact rfl; exact rfl) | (apply G1_loadB; exact T.p22; exact rfl; assumption; exact rfl; exact rfl)) | apply G_nil | apply Post_next | apply W_seq | apply W_region)
  apply G_on; exact rfl
  apply G1_build1 eLev (p', rs.length, c'); exact T.s71; exact rfl; exact rfl; exact rfl; decide; exact rfl; exact rfl
  intro p5 w5 hp5 hS5 _ hx5 hz5
  replace hA2 := hA2.ext hx5
  replace hA4 := hA4.ext hx5
  replace hO := hO.ext hx5
  replace hx5 := hx4.trans hx5
  repeat' (first | (apply G_on; exact rfl; (apply G1_assign; exact rfl; exact rfl)) | apply G_nil | apply Post_next | apply W_seq | apply W_block)
  have hOlt5 : ∀ k, blk p' = some k → w1.heap.size ≤ k ∧ k < w2.heap.size := hOlt
  refine W_loop (ι := Nat × Option Addr × Nat) (fun y => [(2, .pointer (some (adr (bx a2) 0))), (3, .pointer (some (adr (bx a3) 0))), (4, .slice y.2.1 (1 - y.1) y.2.2)])
    (fun y w' => Ext w w' ∧ w5.heap.size ≤ w'.heap.size ∧ Blk w'.heap a2 24 [.int .i64 0, .string ⟨#[]⟩, .int .i64 0, .slice none 0 0] ∧ Blk w'.heap a3 24 [.int .i64 5, .string ⟨#[]⟩, .int .i64 0, .slice p' rs.length c'] ∧
      Own w' w1.heap.size 24 eRep p' c' (if y.1 = 0 then rs else rs.map clrR) ∧ (y.1 = 0 → Sl w'.heap eLev y.2.1 y.2.2 [(p', rs.length, c')]) ∧ y.1 ≤ 1) (fun y => 1 - y.1) (0, p5, 1) ⟨rfl, rfl, rfl, trivial⟩ ⟨hx5, Nat.le_refl _, hA2, hA4, hO, fun _ => hS5, Nat.zero_le _⟩ ?_
  clear hA2 hA4 hO hS5
  rintro ⟨k, q6, d6⟩ w6 ⟨hx6, hz6, hA2, hA3', hO, hS, hk⟩
  simp only at hO hS hk
  rcases (show k = 0 ∨ k = 1 by omega) with rfl | rfl
  · replace hS := hS rfl
    rw [if_pos rfl] at hO
    refine W_keep [(2, .pointer (some (adr (bx a2) 0))), (3, .pointer (some (adr (bx a3) 0))), (4, .slice q6 ([(p', rs.length, c')] : List (Option Addr × Nat × Nat)).length d6)] ⟨rfl, rfl, rfl, trivial⟩ ?_
    have hok6 := hS.ok
    have hle6 := hok6.le
    have hl6 : ((([(p', rs.length, c')] : List (Option Addr × Nat × Nat)).length : Nat) : Int) - 1 = ((0 : Nat) : Int) := by simp
    have hg0 : ([(p', rs.length, c')] : List (Option Addr × Nat × Nat))[0]? = some (p', rs.length, c') := rfl
    have hl7 : ([(p', rs.length, c')] : List (Option Addr × Nat × Nat)).length = 1 := rfl
    repeat' (first | (apply G_on; exact rfl; first | (apply G1_move; exact rfl; exact rfl) | (apply G1_indexAddrJ (q := 0); exact T.s71; exact rfl; exact rfl; exact hl6; exact hok6; omega; exact rfl) | (apply G1_len; exact T.s71; exact rfl; exact rfl) | (apply G1_gtr; exact rfl; exact rfl; exact rfl) | (apply G1_sub; exact rfl; exact rfl; omega; omega; exact rfl) | (apply G1_loadEl; exact T.a70; exact rfl; assumption; assumption; exact rfl; exact rfl)) | apply G_nil | apply Post_next | apply W_seq | apply W_region | (apply W_cond_true; exact rfl) | apply W_skip | apply W_block)
    apply G_on; exact rfl; apply G1_alloc; exact T.zero70; exact rfl; exact rfl; intro a7 w7 ha7 hA7 hx7 hs7
    replace hS := hS.ext hx7
    replace hok6 := hS.ok
    replace hA2 := hA2.ext hx7
    replace hA3' := hA3'.ext hx7
    replace hO := hO.ext hx7
    skip
    apply G_on; exact rfl; apply G1_storeB; exact T.z70; exact rfl; exact rfl; exact hA7; exact rfl; exact rfl; (first | exact Nat.le_of_ble_eq_true rfl | (focus (simp [Value.cells]; done))); (first | exact Enc.one _ _ | (focus (simp [Value.oneCell']; done)) | (focus (simp [Value.cells, Value.oneCell']; done)) | exact Enc.oneAgg _ _); exact rfl; (first | exact .inl rfl | exact .inr (by simp [exempt])); exact rfl; intro w8 hA8 hg8 hs8
    replace hA8 : Blk w8.heap a7 70 [.slice p' rs.length c', .int .i64 0, .int .i64 0, .slice none 0 0, .slice none 0 0] := hA8
    have z56 := hz5
    have hx68 : Ext w6 w8 := hx7.own hg8 (fun k hk => by injection hk; omega)
    replace hA2 := hA2.grown hg8 (fun e => by injection e; omega)
    replace hA3' := hA3'.grown hg8 (fun e => by injection e; omega)
    replace hO := hO.kept hg8 (fun a ha e => by injection e with e; have := hOlt a.block (by rw [ha]; rfl); omega)
    have hx8 := hx6.trans hx68
    have z68 := hx68.size
    repeat' (first | (apply G_on; exact rfl; first | ((first | apply G1_move | apply G1_assign); exact rfl; exact rfl) | (apply G1_sliceHiJ (q := 0); exact T.s71; exact rfl; exact rfl; exact hl6; omega; exact rfl) | (apply G1_fieldAddr; exact T.f70_0; exact rfl; exact rfl) | (apply G1_loadB; exact T.p22; exact rfl; assumption; exact rfl; exact rfl) | (apply G1_len; (first | exact T.s71 | exact T.s22); exact rfl; exact rfl) | (apply G1_sub; exact rfl; exact rfl; omega; omega; exact rfl)) | apply G_nil | apply Post_next | apply W_seq | apply W_region | apply W_block)
    refine W_loop (ι := Nat) (fun i => [(2, .pointer (some (adr (bx a2) 0))), (3, .pointer (some (adr (bx a3) 0))), (4, .slice q6 0 d6), (5, .pointer (some (adr (bx a7) 0))), (32, .slice p' rs.length c'), (33, .int .i64 (rs.length : Int)), (34, .int .i64 (i : Int))])
      (fun i w' => Ext w w' ∧ w8.heap.size ≤ w'.heap.size ∧ Blk w'.heap a2 24 [.int .i64 0, .string ⟨#[]⟩, .int .i64 0, .slice none 0 0] ∧ Blk w'.heap a3 24 [.int .i64 5, .string ⟨#[]⟩, .int .i64 0, .slice p' rs.length c'] ∧
        Blk w'.heap a7 70 [.slice p' rs.length c', .int .i64 0, .int .i64 0, .slice none 0 0, .slice none 0 0] ∧ Own w' w1.heap.size 24 eRep p' c' ((rs.take i).map clrR ++ rs.drop i) ∧ i ≤ rs.length) (fun i => rs.length - i) 0 ⟨rfl, rfl, rfl, rfl, rfl, rfl, rfl, trivial⟩ ⟨hx8, Nat.le_refl _, hA2, hA3', hA8, by simpa using hO, Nat.zero_le _⟩ ?_
    clear hA2 hA3' hA8 hO
    rintro i w9 ⟨hx9, hz9, hA2, hA3', hA8, hO, hi⟩
    by_cases hlt : i < rs.length
    · obtain ⟨r', hr'⟩ := get_some hlt
      have hr0 := h0 r' (List.mem_of_getElem? hr')
      have hyl : ((rs.take i).map clrR ++ rs.drop i).length = rs.length := by simp; omega
      have hyi : ((rs.take i).map clrR ++ rs.drop i)[i]? = some r' := by
        rw [List.getElem?_append_right (by simp; omega)]
        simp [hr', show i - min i rs.length = 0 by omega]
      have hset : ((rs.take i).map clrR ++ rs.drop i).set i (clrR r') = (rs.take (i + 1)).map clrR ++ rs.drop (i + 1) := by
        have hd : rs.drop i = r' :: rs.drop (i + 1) := by
          rw [List.drop_eq_getElem_cons hlt]
          rw [List.getElem?_eq_getElem hlt] at hr'
          injection hr' with hr'
          rw [hr']
        rw [take_snoc hr', List.map_append, hd, List.set_append_right _ _ (by simp; omega)]
        simp [show i - min i rs.length = 0 by omega]
      have hs9 := hO.sl
      have hok9 : Okp p' rs.length c' := by rw [← hyl]; exact hs9.ok
      repeat' (first | (apply G_on; exact rfl; first | (apply G1_move; exact rfl; exact rfl) | (apply G1_lss; exact rfl; exact rfl; exact rfl) | (apply G1_loadEl; exact T.a24; exact rfl; assumption; assumption; exact rfl; exact rfl) | (apply G1_indexAddrN; exact T.s22; exact rfl; exact rfl; (first | assumption | exact Sl.ok (by assumption) | exact (Own.sl (by assumption)).ok); omega; exact rfl)) | apply G_nil | apply Post_next | apply W_seq | apply W_region | (apply W_cond_dec; exact rfl; all_goals (intro h; try (exfalso; omega))) | apply W_skip | apply W_block)
      apply G_on; exact rfl; apply G1_alloc; exact T.zero24; exact rfl; exact rfl; intro a10 w10 ha10 hA10 hx10 hs10
      replace hs9 := hs9.ext hx10
      repeat' (apply G_on; exact rfl; (apply G1_assign; exact rfl; exact rfl))
      apply G_on; exact rfl; apply G1_storeB; exact T.z24; exact rfl; exact rfl; exact hA10; exact rfl; exact rfl; (first | exact Nat.le_of_ble_eq_true rfl | (focus (simp [Value.cells]; done))); (first | exact Enc.one _ _ | (focus (simp [Value.oneCell']; done)) | (focus (simp [Value.cells, Value.oneCell']; done)) | exact Enc.oneAgg _ _); exact rfl; (first | exact .inl rfl | exact .inr (by simp [exempt])); exact rfl; intro w11 hA11 hg11 hs11
      replace hA11 : Blk w11.heap a10 24 [.int .i64 r'.kind, .string r'.s, .int .i64 r'.n, .slice r'.p r'.len r'.cap] := hA11
      rw [hr0] at hA11
      have hx911 : Ext w9 w11 := hx10.own hg11 (fun k hk => by injection hk; omega)
      replace hA2 := hA2.ext hx911
      replace hA3' := hA3'.ext hx911
      replace hA8 := hA8.ext hx911
      replace hO := hO.ext hx911
      have hx11 := hx9.trans hx911
      have z11 := hx911.size
      repeat' (first | (apply G_on; exact rfl; first | (apply G1_move; exact rfl; exact rfl) | (apply G1_fieldAddr; (first | exact T.f24_3 | exact T.f70_0); exact rfl; exact rfl) | (apply G1_loadB; exact T.p22; exact rfl; assumption; exact rfl; exact rfl) | (apply G1_indexAddrN; exact T.s22; exact rfl; exact rfl; (first | assumption | exact Sl.ok (by assumption) | exact (Own.sl (by assumption)).ok); omega; exact rfl)) | apply G_nil | apply Post_next | apply W_seq | apply W_region)
      apply G_on; exact rfl
      apply G1_storeEl (off := 3) (q := i) (clrR r'); exact T.z22; exact rfl; exact rfl; exact hO; exact hyi; exact rfl; exact rfl; decide; exact rfl; exact rfl; (have := hx1.size; have := hx11.size; omega); exact rfl; exact rfl; exact rfl
      intro w12 ha12 hs12
      have hgO : ∀ k, blk p' = some k → w1.heap.size ≤ k ∧ k < w2.heap.size := hOlt
      replace hO := ha12.own
      rw [hset] at hO
      replace hA2 := hA2.grown ha12.grown (fun e => by have := hgO a2 e; omega)
      replace hA3' := hA3'.grown ha12.grown (fun e => by have := hgO a3 e; omega)
      replace hA8 := hA8.grown ha12.grown (fun e => by have := hgO a7 e; omega)
      replace hA11 := hA11.grown ha12.grown (fun e => by have := hgO a10 e; omega)
      have hx12 : Ext w w12 := hx11.app ha12 (fun k hk => by have := hgO k hk; have := hx1.size; omega)
      repeat' (first | (apply G_on; exact rfl; first | (apply G1_fieldAddr; (first | exact T.f24_3 | exact T.f70_1); exact rfl; exact rfl) | (apply G1_loadB; exact T.p22; exact rfl; assumption; exact rfl; exact rfl) | (apply G1_loadBSub; exact T.a68; exact rfl; assumption; exact rfl; exact rfl; exact rfl)) | apply G_nil | apply Post_next | apply W_seq | apply W_region)
      apply G_on; exact rfl; apply G1_call; exact rfl; exact rfl; exact rfl; exact enter_leaf; rintro _ w13 ⟨rfl, hx13⟩; refine ⟨(by first | exact .inl rfl | exact .inr (by assumption)), ?_⟩
      replace hO := hO.ext hx13
      replace hA2 := hA2.ext hx13
      replace hA3' := hA3'.ext hx13
      replace hA8 := hA8.ext hx13
      have z13 := hx13.size
      repeat' (apply G_on; exact rfl; first | (apply G1_move; exact rfl; exact rfl) | (apply G1_extract; exact rfl; exact rfl; exact rfl))
      apply G_on; exact rfl; apply G1_alloc; exact T.zero68; exact rfl; exact rfl; intro a14 w14 ha14 hA14 hx14 hs14
      replace hO := hO.ext hx14
      replace hA2 := hA2.ext hx14
      replace hA3' := hA3'.ext hx14
      replace hA8 := hA8.ext hx14
      skip
      apply G_on; exact rfl; apply G1_storeB; exact T.z68; exact rfl; exact rfl; exact hA14; exact rfl; exact rfl; (first | exact Nat.le_of_ble_eq_true rfl | (focus (simp [Value.cells]; done))); (first | exact Enc.one _ _ | (focus (simp [Value.oneCell']; done)) | (focus (simp [Value.cells, Value.oneCell']; done)) | exact Enc.oneAgg _ _); exact rfl; (first | exact .inl rfl | exact .inr (by simp [exempt])); exact rfl; intro w15 hA15 hg15 hs15
      have hx15 : Ext w13 w15 := hx14.own hg15 (fun k hk => by injection hk; omega)
      replace hA2 := hA2.grown hg15 (fun e => by injection e; omega)
      replace hA3' := hA3'.grown hg15 (fun e => by injection e; omega)
      replace hA8 := hA8.grown hg15 (fun e => by injection e; omega)
      replace hO := hO.kept hg15 (fun a ha e => by injection e with e; have := hgO a.block (by rw [ha]; rfl); omega)
      repeat' (first | (apply G_on; exact rfl; first | ((first | apply G1_move | apply G1_assign); exact rfl; exact rfl) | (apply G1_add; exact rfl; exact rfl; omega; omega; exact rfl)) | apply G_nil | apply Post_next | apply W_seq | apply W_region | (apply W_cond_false; exact rfl) | apply W_skip | apply Post_block_normal)
      exact Post_round (i + 1) ⟨rfl, rfl, rfl, rfl, rfl, rfl, rfl, trivial⟩ ⟨(hx12.trans hx13).trans hx15, by have := hx15.size; omega, hA2, hA3', hA8, hO, by omega⟩ (by omega)
    · rw [List.take_of_length_le (by omega), List.drop_of_length_le (by omega), List.append_nil] at hO
      repeat' (first | (apply G_on; exact rfl; (apply G1_lss; exact rfl; exact rfl; exact rfl)) | apply G_nil | apply Post_next | apply W_seq | apply W_region | (apply W_cond_dec; exact rfl; all_goals (intro h; try (exfalso; omega))) | apply W_exit | apply Post_then_exit | apply Post_block_exit | apply Post_block_normal)
      exact Post_round (1, q6, d6) ⟨rfl, rfl, rfl, trivial⟩ ⟨hx9, by omega, hA2, hA3', by rw [if_neg (by simp)]; exact hO, fun e => by simp at e, Nat.le_refl _⟩ (by simp)
  · refine W_keep [(2, .pointer (some (adr (bx a2) 0))), (3, .pointer (some (adr (bx a3) 0))), (4, .slice q6 0 d6)] ⟨rfl, rfl, rfl, trivial⟩ ?_
    rw [if_neg (by omega)] at hO
    repeat' (first | (apply G_on; exact rfl; first | (apply G1_move; exact rfl; exact rfl) | (apply G1_len; exact T.s71; exact rfl; exact rfl) | (apply G1_gtr; exact rfl; exact rfl; exact rfl) | (apply G1_loadBAgg; exact T.a24; exact rfl; assumption; exact rfl; exact rfl)) | apply G_nil | apply Post_next | apply W_seq | apply W_region | (apply W_cond_false; exact rfl) | apply W_exit | apply Post_then_exit | apply Post_block_exit)
    apply G_on; exact rfl; apply G1_storeB; exact T.z24; exact rfl; exact rfl; exact hA2; exact rfl; exact rfl; (first | exact Nat.le_of_ble_eq_true rfl | (focus (simp [Value.cells]; done))); (first | exact Enc.one _ _ | (focus (simp [Value.oneCell']; done)) | (focus (simp [Value.cells, Value.oneCell']; done)) | exact Enc.oneAgg _ _); exact rfl; (first | exact .inl rfl | exact .inr (by simp [exempt])); exact rfl; intro w7 hA7 hg7 hs7
    replace hA7 : Blk w7.heap a2 24 [.int .i64 5, .string ⟨#[]⟩, .int .i64 0, .slice p' rs.length c'] := hA7
    replace hA3' := hA3'.grown hg7 (fun e => by injection e; omega)
    have hO7 := hO.kept hg7 (fun a ha e => by injection e with e; have := hOlt a.block (by rw [ha]; rfl); omega)
    have hx7 : Ext w w7 := hx6.own hg7 (fun k hk => by injection hk; omega)
    repeat' (first | apply G_nil | apply Post_next | apply W_ret)
    refine Post_ret Tryd.results18 ⟨_, _, _, rfl, rfl, run_loadVar_box T.a24 (by assumption) rfl, rfl⟩ ?_
    have hsl := hO7.sl
    exact ⟨p', c', rfl, hsl, (by repeat first | assumption | exact Ext.rfl' | apply Ext.drew | apply Ext.alloc | refine Ext.trans ?_ (by assumption))⟩
end Go.Proofs.YtikjnmpijflnaaaDoor
