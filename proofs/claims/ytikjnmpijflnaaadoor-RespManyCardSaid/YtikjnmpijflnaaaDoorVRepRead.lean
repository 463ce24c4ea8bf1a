/- resp.Read: the walk. -/
import Derived.Test.YtikjnmpijflnaaaDoorVRepTake
import Derived.Test.YtikjnmpijflnaaaDoorVBitOps
namespace Go.Proofs.YtikjnmpijflnaaaDoor
open Go.V
attribute [local irreducible] Blk Own hcell IntT SliceT PlainT AggT SizeT StrT FieldT ZeroT EqT ArrT
theorem zrF : ZeroT Tryd.prog 92 .nilFunc := ZeroT.of (by kernel_rfl)
theorem szF : SizeT Tryd.prog 92 1 := SizeT.of (by kernel_rfl)
/-- what resp.Read answers -/
def ReadR (w : World) (bs : List UInt8) (v : Value) (w' : World) : Prop :=
  Ext w w' ∧ ((∃ t j r, rdT 4 bs = some (t, j) ∧ v = .tuple #[.agg (eRep.enc r).toArray, .int .i64 (j : Int), .bool true] ∧ RepAt (veil (fun q => q < w.heap.size) w'.heap) 5 r t) ∨
  (rdT 4 bs = none ∧ v = .tuple #[.agg (eRep.enc zRep).toArray, .int .i64 0, .bool false]))
set_option maxHeartbeats 2000000 in
theorem read_spec {p : Option Addr} {c : Nat} {bs : List UInt8} {w : World} (hC : Sl w.heap eByte p c bs) (hb : bs.length ≤ 1000000000) (hU : Utf w) (hT : Pow w) (hE : Errs w) :
    Ctr Tryd.prog 33 [.slice p bs.length c] w (ReadR w bs) := by
  refine Ctr_of Tryd.func33 Tryd.ntmps33 rfl rfl rfl ?_
  repeat' (first | apply W_seq | apply W_region)
  apply G_on; exact rfl; apply G1_box; exact rfl; exact rfl; exact rfl; intro a1 w1 ha1 hA1 hx1 hs1
  replace hA1 : Blk w1.heap a1 28 [.slice p bs.length c] := hA1
  skip
  apply G_on; exact rfl; apply G1_alloc; exact T.zero24; exact rfl; exact rfl; intro a2 w2 ha2 hA2 hx2 hs2
  replace hA1 := hA1.ext hx2
  replace hA2 : Blk w2.heap a2 24 (eRep.enc zRep) := hA2
  repeat' (first | (apply G_on; exact rfl; (apply G1_assign; exact rfl; exact rfl)) | apply G_nil | apply Post_next | apply W_seq | apply W_region)
  apply G_on; exact rfl; apply G1_alloc; exact T.zero3; exact rfl; exact rfl; intro a3 w3 ha3 hA3 hx3 hs3
  replace hA1 := hA1.ext hx3
  replace hA2 := hA2.ext hx3
  skip
  apply G_on; exact rfl; apply G1_storeB; exact T.z3; exact rfl; exact rfl; exact hA3; exact rfl; exact rfl; (first | exact Nat.le_of_ble_eq_true rfl | (focus (simp [Value.cells]; done))); (first | exact Enc.one _ _ | (focus (simp [Value.oneCell']; done)) | (focus (simp [Value.cells, Value.oneCell']; done)) | exact Enc.oneAgg _ _); exact rfl; (first | exact .inl rfl | exact .inr (by simp [exempt])); exact rfl; intro w4 hA4 hg4 hs4
  replace hA4 : Blk w4.heap a3 3 [.int .i64 ((0 : Nat) : Int)] := hA4
  replace hA1 := hA1.grown hg4 (fun e => by injection e; omega)
  replace hA2 := hA2.grown hg4 (fun e => by injection e; omega)
  have hx4 : Ext w w4 := ((hx1.trans hx2).trans hx3).own hg4 (fun k hk => by injection hk; omega)
  repeat' (first | apply G_nil | apply Post_next | apply W_seq | apply W_region)
  apply G_on; exact rfl; apply G1_alloc; exact zrF; exact rfl; exact rfl; intro a5 w5 ha5 hA5 hx5 hs5
  replace hA1 := hA1.ext hx5
  replace hA2 := hA2.ext hx5
  replace hA4 := hA4.ext hx5
  repeat' (first | (apply G_on; exact rfl; (apply G1_makeFunc; exact rfl; exact rfl)) | apply G_nil | apply Post_next | apply W_seq | apply W_region)
  apply G_on; exact rfl; apply G1_storeB; exact szF; exact rfl; exact rfl; exact hA5; exact rfl; exact rfl; exact Nat.le_of_ble_eq_true rfl; (focus (simp [Value.cells, Value.oneCell'])); exact rfl; exact .inl rfl; exact rfl; intro w6 hA6 hg6 hs6
  replace hA6 : Blk w6.heap a5 92 [.func (.func 57) #[] #[.pointer (some (adr (bx a1) 0)), .pointer (some (adr (bx a3) 0)), .pointer (some (adr (bx a5) 0))]] := hA6
  replace hA1 := hA1.grown hg6 (fun e => by injection e; omega)
  replace hA2 := hA2.grown hg6 (fun e => by injection e; omega)
  replace hA4 := hA4.grown hg6 (fun e => by injection e; omega)
  have hx6 : Ext w w6 := (hx4.trans hx5).own hg6 (fun k hk => by injection hk; omega)
  have st : TakeSt w w6 a1 a3 a5 92 p c bs 0 := ⟨hx6, hA1, hA4, hA6, hC, by omega, by omega, by omega⟩
  have htk := take_spec hU hT hE 4 (Nat.zero_le _) hb st (Nat.le_refl _)
  rw [show (4 : Int) - ((4 : Nat) : Int) = 0 from rfl] at htk
  repeat' (first | (apply G_on; exact rfl; (apply G1_loadB; exact plF; exact rfl; exact hA6; exact rfl; exact rfl)) | apply G_nil | apply Post_next | apply W_seq | apply W_region)
  apply G_on; exact rfl; apply G1_callv; exact rfl; exact rfl; exact rfl; exact rfl; exact htk; rintro v w7 hv; refine ⟨(by first | exact .inl rfl | exact .inr (by assumption)), ?_⟩
  unfold TakeR at hv
  rw [List.drop_zero] at hv
  rcases hv with ⟨t, j, r, hr1, rfl, hr2, hr3, hr4⟩ | ⟨hr1, r, k9, rfl, hr3, hr4⟩
  · replace hA2 := hr4.blk hA2 (exempt1 (by omega))
    have z7 := hr4.size
    have hx7 : Ext w w7 := hr3.ext
    have hp7 := hr3.pos
    repeat' (apply G_on; exact rfl; first | (apply G1_move; exact rfl; exact rfl) | (apply G1_extract; exact rfl; exact rfl; exact rfl))
    apply G_on; exact rfl; apply G1_alloc; exact T.zero24; exact rfl; exact rfl; intro a8 w8 ha8 hA8 hx8 hs8
    skip
    apply G_on; exact rfl; apply G1_storeB; exact T.z24; exact rfl; exact rfl; exact hA8; exact rfl; exact rfl; (first | exact Nat.le_of_ble_eq_true rfl | (focus (simp [Value.cells]; done))); (first | exact Enc.one _ _ | (focus (simp [Value.oneCell']; done)) | (focus (simp [Value.cells, Value.oneCell']; done)) | exact Enc.oneAgg _ _); exact rfl; (first | exact .inl rfl | exact .inr (by simp [exempt])); exact rfl; intro w9 hA9 hg9 hs9
    replace hA9 : Blk w9.heap a8 24 (eRep.enc r) := hA9
    have hx79 : Ext w7 w9 := hx8.own hg9 (fun k hk => by injection hk; omega)
    replace hA2 := hA2.ext hx79
    replace hp7 := hp7.ext hx79
    have hxA : exempt [a2] a8 = false := exempt1 (by omega)
    have hxP : exempt [a2] a3 = false := exempt1 (by omega)
    repeat' (first | (apply G_on; exact rfl; first | ((first | apply G1_assign | apply G1_move); exact rfl; exact rfl) | (apply G1_not_t; exact rfl; exact rfl)) | apply G_nil | apply Post_next | apply W_seq | apply W_region | (apply W_cond_false; exact rfl) | apply W_skip)
    refine W_drawn 3 [a2] [0,1,2,3,4] mixed (by decide +kernel) ?_
    repeat' (apply G_on; exact rfl; first | (apply G1_loadBAggS; exact T.a24; exact rfl; exact hA9; exact rfl; exact hxA; exact rfl) | (apply G1_loadBS; exact T.p3; exact rfl; exact hp7; exact rfl; exact hxP; exact rfl))
    apply G_on; exact rfl; apply G1_storeB; exact T.z24; exact rfl; exact rfl; exact hA2; exact rfl; exact rfl; (first | exact Nat.le_of_ble_eq_true rfl | (focus (simp [Value.cells]; done))); (first | exact Enc.one _ _ | (focus (simp [Value.oneCell']; done)) | (focus (simp [Value.cells, Value.oneCell']; done)) | exact Enc.oneAgg _ _); exact rfl; (first | exact .inl rfl | exact .inr (by simp [exempt])); exact rfl; intro wf hAf hgf hsf
    replace hAf : Blk wf.heap a2 24 (eRep.enc r) := hAf
    have hxf : Ext w wf := (hx7.trans hx79).drew.own hgf (fun k hk => by injection hk; omega)
    repeat' (first | (apply G_on; exact rfl; (apply G1_assign; exact rfl; exact rfl)) | apply G_nil | apply Post_next | apply W_ret)
    refine Post_ret Tryd.results33 ⟨_, _, _, rfl, rfl, run_loadVar_box T.a24 (by assumption) rfl, _, _, rfl, rfl, _, _, rfl, rfl, rfl⟩ ?_
    refine ⟨hxf, .inl ⟨t, j, r, hr1, by rw [Nat.zero_add]; rfl, ?_⟩⟩
    have zw6 := hx6.size
    refine hr2.hide (fun b hb hbl => ⟨fun h => hb (by omega), ?_⟩)
    exact (hgf.block b (show b < w9.heap.size by have := hx79.size; omega) (fun e => by injection e; omega)).trans (hx79.block b hbl)
  · replace hA2 := hr4.blk hA2 (exempt1 (by omega))
    have z7 := hr4.size
    have hx7 : Ext w w7 := hr3.ext
    repeat' (apply G_on; exact rfl; first | (apply G1_move; exact rfl; exact rfl) | (apply G1_extract; exact rfl; exact rfl; exact rfl))
    apply G_on; exact rfl; apply G1_alloc; exact T.zero24; exact rfl; exact rfl; intro a8 w8 ha8 hA8 hx8 hs8
    skip
    apply G_on; exact rfl; apply G1_storeB; exact T.z24; exact rfl; exact rfl; exact hA8; exact rfl; exact rfl; (first | exact Nat.le_of_ble_eq_true rfl | (focus (simp [Value.cells]; done))); (first | exact Enc.one _ _ | (focus (simp [Value.oneCell']; done)) | (focus (simp [Value.cells, Value.oneCell']; done)) | exact Enc.oneAgg _ _); exact rfl; (first | exact .inl rfl | exact .inr (by simp [exempt])); exact rfl; intro w9 hA9 hg9 hs9
    have hx79 : Ext w7 w9 := hx8.own hg9 (fun k hk => by injection hk; omega)
    replace hA2 := hA2.ext hx79
    repeat' (first | (apply G_on; exact rfl; first | ((first | apply G1_assign | apply G1_move); exact rfl; exact rfl) | (apply G1_build (.agg (eRep.enc zRep).toArray); exact rfl; exact bldZ; exact rfl) | (apply G1_not_f; exact rfl; exact rfl)) | apply G_nil | apply Post_next | apply W_seq | apply W_region | (apply W_cond_true; exact rfl))
    apply G_on; exact rfl; apply G1_storeB; exact T.z24; exact rfl; exact rfl; exact hA2; exact rfl; exact rfl; (first | exact Nat.le_of_ble_eq_true rfl | (focus (simp [Value.cells]; done))); (first | exact Enc.one _ _ | (focus (simp [Value.oneCell']; done)) | (focus (simp [Value.cells, Value.oneCell']; done)) | exact Enc.oneAgg _ _); exact rfl; (first | exact .inl rfl | exact .inr (by simp [exempt])); exact rfl; intro wf hAf hgf hsf
    replace hAf : Blk wf.heap a2 24 (eRep.enc zRep) := hAf
    have hxf : Ext w wf := (hx7.trans hx79).own hgf (fun k hk => by injection hk; omega)
    repeat' (first | (apply G_on; exact rfl; (apply G1_assign; exact rfl; exact rfl)) | apply G_nil | apply Post_next | apply W_ret | apply Post_then_ret)
    refine Post_ret Tryd.results33 ⟨_, _, _, rfl, rfl, run_loadVar_box T.a24 (by assumption) rfl, _, _, rfl, rfl, _, _, rfl, rfl, rfl⟩ ?_
    exact ⟨hxf, .inr ⟨hr1, rfl⟩⟩
end Go.Proofs.YtikjnmpijflnaaaDoor
