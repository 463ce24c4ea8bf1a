/- bytes.IndexAny at the ends of lines: its set of signs. -/
import Derived.Test.YtikjnmpijflnaaaDoorVBytesCut
import Derived.Test.YtikjnmpijflnaaaDoorVBrAny
import Derived.Test.YtikjnmpijflnaaaDoorVArr
namespace Go.Proofs.YtikjnmpijflnaaaDoor
open Go.V
attribute [local irreducible] Blk Own hcell IntT SliceT PlainT AggT SizeT StrT FieldT ZeroT EqT ArrT
/-- the set's cells after k of the two signs -/
def setC (k : Nat) : List Value := (List.range 256).map (fun i => Value.bool ((decide (i = 13) && decide (0 < k)) || (decide (i = 10) && decide (1 < k))))
theorem zrSet : ZeroT Tryd.prog 109 (.agg (setC 0).toArray) := ZeroT.of (by kernel_rfl)
theorem should_spec {n : Int} {w : World} : Ctr Tryd.prog 71 [.int .i64 n] w (fun v w' => v = .bool (decide (8 < n)) ∧ Ext w w') := by
  refine Ctr_of Tryd.func71 Tryd.ntmps71 rfl rfl rfl ?_
  repeat' (first | (apply G_on; exact rfl; first | ((first | apply G1_assign | apply G1_move); exact rfl; exact rfl) | (apply G1_gtr; exact rfl; exact rfl; exact rfl)) | apply G_nil | apply Post_next | apply W_seq | apply W_region | apply W_ret)
  refine Post_ret Tryd.results71 ⟨_, _, rfl, rfl, rfl⟩ ?_
  exact ⟨rfl, (by repeat first | assumption | exact Ext.rfl' | apply Ext.drew | apply Ext.alloc | refine Ext.trans ?_ (by assumption))⟩
set_option maxRecDepth 100000 in
theorem mkset_spec {w : World} : Ctr Tryd.prog 72 [.string brs] w (fun v w' => v = .tuple #[.agg (setC 2).toArray, .bool true] ∧ Ext w w') := by
  have hss := br_size
  refine Ctr_of Tryd.func72 Tryd.ntmps72 rfl rfl rfl ?_
  repeat' (first | apply W_seq | apply W_region)
  apply G_on; exact rfl; apply G1_alloc; exact zrSet; exact rfl; exact rfl; intro a1 w1 ha1 hA1 hx1 hs1
  replace hA1 : Blk w1.heap a1 109 (setC 0) := hA1
  repeat' (first | (apply G_on; exact rfl; (apply G1_assign; exact rfl; exact rfl)) | apply G_nil | apply Post_next | apply W_seq | apply W_region | apply W_block)
  refine W_loop (ι := Nat) (fun k => [(0, .string brs), (2, .pointer (some (adr (bx a1) 0))), (4, .int .i64 (k : Int))]) (fun k w' => Ext w w' ∧ Blk w'.heap a1 109 (setC k) ∧ k ≤ 2) (fun k => 2 - k) 0 ⟨rfl, rfl, rfl, trivial⟩ ⟨hx1, hA1, Nat.zero_le _⟩ ?_
  clear hA1 hx1
  rintro k w2 ⟨hx2, hA2, hk⟩
  have setB : ∀ (j : Nat) (H : Array Obj) (cs : List Value), cs = setC j → Blk H a1 109 cs → Blk H a1 109 (setC j) := fun j H cs h hb => h ▸ hb
  rcases (show k = 0 ∨ k = 1 ∨ k = 2 by omega) with rfl | rfl | rfl
  · have hb0 : (bget brs 0).toNat = 13 := by decide
    repeat' (first | (apply G_on; exact rfl; first | ((first | apply G1_assign | apply G1_move); exact rfl; exact rfl) | (apply G1_sindexJ (q := 0) (s := brs); exact T.str9; exact rfl; exact rfl; exact rfl; omega; exact rfl) | (apply G1_slen; exact T.str9; exact rfl; exact rfl) | ((first | apply G1_lss | apply G1_geq); exact rfl; exact rfl; exact rfl) | (apply G1_indexArr; exact T.ar109; exact rfl; exact rfl; omega; omega; exact rfl)) | apply G_nil | apply Post_next | apply W_seq | apply W_region | (apply W_cond_true; exact rfl) | (apply W_cond_false; exact rfl) | apply W_skip | apply W_block)
    apply G_on; exact rfl
    apply G1_storeB (m := 13); exact T.z4; exact rfl; exact rfl; exact hA2; exact rfl; exact rfl; (simp [setC]); (simp [Value.cells, Value.oneCell']); exact rfl; exact .inl rfl; exact rfl
    intro w3 hA3 hg3 hs3
    replace hA3 := setB 1 _ _ (by kernel_rfl) hA3
    repeat' (first | (apply G_on; exact rfl; first | ((first | apply G1_assign | apply G1_move); exact rfl; exact rfl) | (apply G1_add; exact rfl; exact rfl; omega; omega; exact rfl)) | apply G_nil | apply Post_next | apply W_region | apply Post_block_normal)
    exact Post_round 1 ⟨rfl, rfl, rfl, trivial⟩ ⟨hx2.own hg3 (fun k hk => by injection hk; omega), hA3, by omega⟩ (by omega)
  · have hb0 : (bget brs 1).toNat = 10 := by decide
    repeat' (first | (apply G_on; exact rfl; first | ((first | apply G1_assign | apply G1_move); exact rfl; exact rfl) | (apply G1_sindexJ (q := 1) (s := brs); exact T.str9; exact rfl; exact rfl; exact rfl; omega; exact rfl) | (apply G1_slen; exact T.str9; exact rfl; exact rfl) | ((first | apply G1_lss | apply G1_geq); exact rfl; exact rfl; exact rfl) | (apply G1_indexArr; exact T.ar109; exact rfl; exact rfl; omega; omega; exact rfl)) | apply G_nil | apply Post_next | apply W_seq | apply W_region | (apply W_cond_true; exact rfl) | (apply W_cond_false; exact rfl) | apply W_skip | apply W_block)
    apply G_on; exact rfl
    apply G1_storeB (m := 10); exact T.z4; exact rfl; exact rfl; exact hA2; exact rfl; exact rfl; (simp [setC]); (simp [Value.cells, Value.oneCell']); exact rfl; exact .inl rfl; exact rfl
    intro w3 hA3 hg3 hs3
    replace hA3 := setB 2 _ _ (by kernel_rfl) hA3
    repeat' (first | (apply G_on; exact rfl; first | ((first | apply G1_assign | apply G1_move); exact rfl; exact rfl) | (apply G1_add; exact rfl; exact rfl; omega; omega; exact rfl)) | apply G_nil | apply Post_next | apply W_region | apply Post_block_normal)
    exact Post_round 2 ⟨rfl, rfl, rfl, trivial⟩ ⟨hx2.own hg3 (fun k hk => by injection hk; omega), hA3, by omega⟩ (by omega)
  · repeat' (first | (apply G_on; exact rfl; first | (apply G1_move; exact rfl; exact rfl) | (apply G1_slen; exact T.str9; exact rfl; exact rfl) | (apply G1_lss; exact rfl; exact rfl; exact rfl) | (apply G1_loadBAgg; exact T.a109; exact rfl; assumption; exact rfl; exact rfl)) | apply G_nil | apply Post_next | apply W_seq | apply W_region | (apply W_cond_false; exact rfl) | apply W_exit | apply Post_then_exit | apply Post_block_exit)
    apply G_on; exact rfl
    apply G1_storeB (m := 0) (vs := setC 2); exact T.z109; exact rfl; exact rfl; exact hA2; exact rfl; (simp [setC]); (simp [setC]); (intro v hv; simp only [setC, List.mem_map] at hv; obtain ⟨i, _, rfl⟩ := hv; rfl); exact rfl; exact .inl rfl; exact rfl
    intro w3 hA3 hg3 hs3
    replace hA3 := setB 2 _ _ (by kernel_rfl) hA3
    have hx3 : Ext w w3 := hx2.own hg3 (fun k hk => by injection hk; omega)
    repeat' (first | (apply G_on; exact rfl; (apply G1_assign; exact rfl; exact rfl)) | apply G_nil | apply Post_next | apply W_ret)
    refine Post_ret Tryd.results72 ⟨_, _, _, rfl, rfl, run_loadVar_box T.a109 (by assumption) rfl, _, _, rfl, rfl, rfl⟩ ?_
    exact ⟨rfl, (by repeat first | assumption | exact Ext.rfl' | apply Ext.drew | apply Ext.alloc | refine Ext.trans ?_ (by assumption))⟩
theorem contains_spec {a k : Nat} {c : UInt8} {w : World} (hA : Blk w.heap a 109 (setC k)) :
    Ctr Tryd.prog 73 [.pointer (some (adr (bx a) 0)), .int .u8 (c.toNat : Int)] w (fun v w' => v = .bool ((decide (c.toNat = 13) && decide (0 < k)) || (decide (c.toNat = 10) && decide (1 < k))) ∧ Ext w w') := by
  have hlt := c.toNat_lt
  have hcell : (setC k)[c.toNat]? = some (.bool ((decide (c.toNat = 13) && decide (0 < k)) || (decide (c.toNat = 10) && decide (1 < k)))) := by
    unfold setC
    rw [List.getElem?_map, List.getElem?_range (by omega)]
    rfl
  refine Ctr_of Tryd.func73 Tryd.ntmps73 rfl rfl rfl ?_
  repeat' (first | (apply G_on; exact rfl; first | ((first | apply G1_assign | apply G1_move | apply G1_nilCheck); exact rfl; exact rfl) | (apply G1_loadB; exact T.p4; exact rfl; exact hA; (simp only [Nat.zero_add, Nat.mul_one, Int.toNat_natCast]; exact hcell); exact rfl) | (apply G1_indexArr; exact T.ar109; exact rfl; exact rfl; omega; omega; exact rfl)) | apply G_nil | apply Post_next | apply W_seq | apply W_region | apply W_ret)
  refine Post_ret Tryd.results73 ⟨_, _, rfl, rfl, rfl⟩ ?_
  exact ⟨rfl, (by repeat first | assumption | exact Ext.rfl' | apply Ext.drew | apply Ext.alloc | refine Ext.trans ?_ (by assumption))⟩
end Go.Proofs.YtikjnmpijflnaaaDoor
