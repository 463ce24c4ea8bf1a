/- bytes.Equal, bytes.HasPrefix, resp.cut: the walks. -/
import Derived.Test.YtikjnmpijflnaaaDoorVRepBase
import Derived.Test.YtikjnmpijflnaaaDoorVStr
import Derived.Test.YtikjnmpijflnaaaDoorVRows2
import Derived.Lib.SlBytesConst
namespace Go.V
section
variable {P : Program} {n : Nat} {ops : Array Oper} {dr : Nat × List Nat} {l : List Oper} {E : Env} {w : World} {K : Env → World → Prop}
variable {d : Option Nat} {ty : TypeId} {pos : String} {af : Array Edge} {g : Option (Nat × Bool)} {x : Operand} {t e : Nat}
/-- a literal's row of bytes, marked as a string's -/
theorem G1_convMark {gb N c : Nat} {cs : List Value} {bs : List UInt8} (ht : P.underlying t = some (.slice e)) (hk : P.underlying e = some (.int .u8)) (hx : E.look x = some (.slice (bx gb) N c)) (hb : Blk w.heap gb e cs) (hs : Sl w.heap eByte (bx gb) c bs)
    (he : effects P dr.1 ⟨d, .convert t t x, ty, pos, af, g⟩ = true) (hw : writes dr.1 ⟨d, .convert t t x, ty, pos, af, g⟩ = true) (hd : dstOk n d = true)
    (h : ∀ w', Sl w'.heap eByte (bx gb) c bs → w.grownBy w' (some gb) → w'.heap.size = w.heap.size → G P n ops dr l (E.put d (.slice (bx gb) N c)) w' K) : G1 P n ops dr ⟨d, .convert t t x, ty, pos, af, g⟩ l E w K := by
  have hb' := hb
  unfold Blk at hb'
  have hsh : w.shape? gb = some (e, cs.length) := by
    unfold World.shape?
    rw [hb']
    simp
  have hrun : (convert t t (.slice (bx gb) N c)).run P w = .ok (.slice (bx gb) N c) (w.freeze ⟨gb, cs.length, none⟩ 1) := by
    simp [convert, run_underlying ht, run_underlying hk, markStringish, hsh]
  have hfz : (w.freeze ⟨gb, cs.length, none⟩ 1).heap = w.heap.modify gb (fun
      | .cells c elem (lo, hi) => .cells c elem (if lo == hi then (cs.length, cs.length + 1) else (min lo cs.length, max hi (cs.length + 1)))
      | o => o) := by
    unfold World.freeze
    rw [if_neg (by decide)]
    rfl
  have hcell : ∀ a, hcell (w.freeze ⟨gb, cs.length, none⟩ 1).heap a = hcell w.heap a := by
    intro a
    unfold Go.V.hcell
    rw [hfz, Array.getElem?_modify]
    by_cases hg : gb = a.block
    · subst hg
      rw [if_pos rfl, hb']
      rfl
    · rw [if_neg hg]
  refine G1_eff _ _ he hd (fun a ha => by simp only [execOp, ha.eval hx, Sem.run_bind, hrun]; rfl) (.inl hw) (h _ ?_ ?_ ?_)
  · exact ⟨hs.ok, fun i y hi k v hv => by rw [hcell]; exact hs.cell i y hi k v hv⟩
  · refine ⟨?_, ?_, ?_, ?_, fun k hk hne => ?_⟩
    · unfold World.freeze; rw [if_neg (by decide)]
    · unfold World.freeze; rw [if_neg (by decide)]
    · unfold World.freeze; rw [if_neg (by decide)]
    · rw [hfz]; simp
    · rw [hfz, Array.getElem?_modify, if_neg (fun e => hne (by rw [e]))]
  · rw [hfz]; simp
end
end Go.V
namespace Go.Proofs.YtikjnmpijflnaaaDoor
open Go.V
attribute [local irreducible] Blk Own hcell IntT SliceT PlainT AggT SizeT StrT FieldT ZeroT EqT ArrT
theorem bytes_equal {p q : Option Addr} {c d : Nat} {xs ys : List UInt8} {w : World} (hx : Sl w.heap eByte p c xs) (hy : Sl w.heap eByte q d ys) :
    Ctr Tryd.prog 81 [.slice p xs.length c, .slice q ys.length d] w (fun v w' => v = .bool (decide (xs = ys)) ∧ Ext w w') := by
  refine Ctr_of Tryd.func81 Tryd.ntmps81 rfl rfl rfl ?_
  repeat' (first | (apply G_on; exact rfl; first | ((first | apply G1_assign | apply G1_move); exact rfl; exact rfl) | (apply G1_toString; exact T.s28; exact T.i5; exact T.str9; exact rfl; (first | exact hx | exact hy); exact rfl) | (apply G1_seql; exact rfl; exact rfl; exact rfl)) | apply G_nil | apply Post_next | apply W_seq | apply W_region | apply W_ret)
  refine Post_ret Tryd.results81 ⟨_, _, rfl, rfl, rfl⟩ ?_
  refine ⟨?_, (by repeat first | assumption | exact Ext.rfl' | apply Ext.drew | apply Ext.alloc | refine Ext.trans ?_ (by assumption))⟩
  show Value.bool (decide _) = _
  congr 1
  rw [decide_eq_decide]
  exact mkStr_inj
theorem bytes_prefix {p q : Option Addr} {c d : Nat} {xs ys : List UInt8} {w : World} (hx : Sl w.heap eByte p c xs) (hy : Sl w.heap eByte q d ys) :
    Ctr Tryd.prog 68 [.slice p xs.length c, .slice q ys.length d] w (fun v w' => v = .bool (decide (ys.length ≤ xs.length ∧ xs.take ys.length = ys)) ∧ Ext w w') := by
  have hok := hx.ok
  have hle := hok.le
  refine Ctr_of Tryd.func68 Tryd.ntmps68 rfl rfl rfl ?_
  by_cases hl : ys.length ≤ xs.length
  · have ht := hx.take ys.length
    have htl : (xs.take ys.length).length = ys.length := by simp; omega
    have heq := fun (v : World) (h1 : Sl v.heap eByte p c (xs.take ys.length)) (h2 : Sl v.heap eByte q d ys) => bytes_equal (w := v) h1 h2
    simp only [htl] at heq
    repeat' (first | (apply G_on; exact rfl; first | ((first | apply G1_assign | apply G1_move); exact rfl; exact rfl) | (apply G1_sliceHiJ (q := ys.length); exact T.s28; exact rfl; exact rfl; exact rfl; omega; exact rfl) | (apply G1_call (f := 81); exact rfl; exact rfl; exact rfl; exact heq _ ht hy; rintro _ w2 ⟨rfl, hx2⟩; refine ⟨(by first | exact .inl rfl | exact .inr (by assumption)), ?_⟩) | (apply G1_len; exact T.s28; exact rfl; exact rfl) | (apply G1_geq; exact rfl; exact rfl; exact rfl) | (apply G1_pick_t; exact rfl; exact rfl; exact rfl)) | apply G_nil | apply Post_next | apply W_seq | apply W_region | ((fail_if_success (apply G_on; exact rfl)); apply G_split_dec; exact rfl; exact rfl; all_goals (intro h; try (exfalso; omega))) | apply W_ret)
    refine Post_ret Tryd.results68 ⟨_, _, rfl, rfl, rfl⟩ ?_
    refine ⟨?_, (by repeat first | assumption | exact Ext.rfl' | apply Ext.drew | apply Ext.alloc | refine Ext.trans ?_ (by assumption))⟩
    show Value.bool (decide _) = _
    congr 1
    rw [decide_eq_decide]
    exact ⟨fun h => ⟨hl, h⟩, fun h => h.2⟩
  · repeat' (first | (apply G_on; exact rfl; first | ((first | apply G1_assign | apply G1_move); exact rfl; exact rfl) | (apply G1_len; exact T.s28; exact rfl; exact rfl) | (apply G1_geq; exact rfl; exact rfl; exact rfl) | (apply G1_pick_f; exact rfl; exact rfl; exact rfl)) | apply G_nil | apply Post_next | apply W_seq | apply W_region | (apply G_off; exact rfl; exact rfl) | ((fail_if_success (apply G_on; exact rfl)); apply G_split_dec; exact rfl; exact rfl; all_goals (intro h; try (exfalso; omega))) | apply W_ret)
    refine Post_ret Tryd.results68 ⟨_, _, rfl, rfl, rfl⟩ ?_
    exact ⟨by rw [decide_eq_false (fun h => hl h.1)]; rfl, (by repeat first | assumption | exact Ext.rfl' | apply Ext.drew | apply Ext.alloc | refine Ext.trans ?_ (by assumption))⟩
theorem cut_no {p : Option Addr} {c : Nat} {bs : List UInt8} {n : Int} {w : World} (hC : Sl w.heap eByte p c bs) (h : ¬ (0 ≤ n ∧ n ≤ bs.length)) :
    Ctr Tryd.prog 58 [.slice p bs.length c, .int .i64 n] w (fun v w' => v = .tuple #[.string ⟨#[]⟩, .bool false] ∧ Ext w w') := by
  have n1 := hC.bound
  refine Ctr_of Tryd.func58 Tryd.ntmps58 rfl rfl rfl ?_
  repeat' (first | (apply G_on; exact rfl; first | ((first | apply G1_assign | apply G1_move); exact rfl; exact rfl) | ((first | apply G1_lss | apply G1_gtr); exact rfl; exact rfl; exact rfl) | (apply G1_len; exact T.s28; exact rfl; exact rfl) | (apply G1_pick_t; exact rfl; exact rfl; exact rfl) | (apply G1_pick_f; exact rfl; exact rfl; exact rfl)) | apply G_nil | apply Post_next | apply W_seq | apply W_region | (apply W_cond_true; exact rfl) | (apply G_off; exact rfl; exact rfl) | ((fail_if_success (apply G_on; exact rfl)); apply G_split_dec; exact rfl; exact rfl; all_goals (intro h; try (exfalso; omega))) | apply W_ret | apply Post_then_ret)
  all_goals
    refine Post_ret Tryd.results58 ⟨_, _, rfl, rfl, _, _, rfl, rfl, rfl⟩ ?_
    exact ⟨rfl, (by repeat first | assumption | exact Ext.rfl' | apply Ext.drew | apply Ext.alloc | refine Ext.trans ?_ (by assumption))⟩
theorem cut_spec {p : Option Addr} {c k : Nat} {bs : List UInt8} {w : World} (hC : Sl w.heap eByte p c bs) (hk : k ≤ bs.length) :
    Ctr Tryd.prog 58 [.slice p bs.length c, .int .i64 (k : Int)] w (fun v w' => v = (if (bs.drop k).take 2 = [13, 10] then .tuple #[.string (mkStr (bs.take k)), .bool true] else .tuple #[.string ⟨#[]⟩, .bool false]) ∧ Ext w w') := by
  have n1 := hC.bound
  have hok := hC.ok
  have hle := hok.le
  refine Ctr_of Tryd.func58 Tryd.ntmps58 rfl rfl rfl ?_
  repeat' (first | (apply G_on; exact rfl; first | ((first | apply G1_assign | apply G1_move); exact rfl; exact rfl) | (apply G1_sliceLoJ (q := k); exact T.s28; exact rfl; exact rfl; exact rfl; exact hok; omega; exact rfl) | ((first | apply G1_lss | apply G1_gtr); exact rfl; exact rfl; exact rfl) | (apply G1_len; exact T.s28; exact rfl; exact rfl) | (apply G1_pick_f; exact rfl; exact rfl; exact rfl)) | apply G_nil | apply Post_next | apply W_seq | apply W_region | ((fail_if_success (apply G_on; exact rfl)); apply G_split_dec; exact rfl; exact rfl; all_goals (intro h; try (exfalso; omega))))
  apply G_on; exact rfl
  apply G1_buildN eByte [13, 10]; exact T.s28; exact rfl; exact rfl; exact rfl; exact rfl; exact rfl; exact Nat.succ_pos _; exact Nat.le_of_ble_eq_true rfl; exact rfl; exact rfl
  intro p1 w1 ho1 hx1 hz1
  obtain ⟨gb, cur, hp1, hgb, hB, hcl, hcm, _, htk⟩ := ho1.toBlk (ho1.some_of_pos (by simp))
  subst hp1
  have hs1 := ho1.sl
  skip
  apply G_on; exact rfl
  apply G1_convMark; exact Tryd.underlying28; exact Tryd.underlying5; exact rfl; exact hB; exact hs1; exact rfl; exact rfl; exact rfl
  intro w2 hs2 hg2 hz2
  have hx2 : Ext w w2 := hx1.own hg2 (fun k hk => by injection hk; omega)
  have hC2 := hC.ext hx2
  have hd := hC2.drop (l := k) (by omega)
  have hp := fun v (h1 : Sl v.heap eByte (subp p c k 1) (c - k) (bs.drop k)) (h2 : Sl v.heap eByte (bx gb) 2 [13, 10]) => bytes_prefix (w := v) h1 h2
  simp only [List.length_drop] at hp
  have hC3 := hC2.take k
  have htk2 : (bs.take k).length = k := by simp; omega
  by_cases hcr : (bs.drop k).take 2 = [13, 10]
  · have hl2 : 2 ≤ bs.length - k := by
      have := congrArg List.length hcr
      simp at this
      omega
    have hb : decide (([13, 10] : List UInt8).length ≤ bs.length - k ∧ (bs.drop k).take ([13, 10] : List UInt8).length = [13, 10]) = true := decide_eq_true ⟨hl2, hcr⟩
    rw [hb] at hp
    rw [if_pos hcr]
    apply G_on; exact rfl; apply G1_call; exact rfl; exact rfl; exact rfl; exact hp _ hd hs2; rintro _ w3 ⟨rfl, hx3⟩; refine ⟨(by first | exact .inl rfl | exact .inr (by assumption)), ?_⟩
    have hC4 := hC3.ext hx3
    repeat' (first | (apply G_on; exact rfl; first | ((first | apply G1_assign | apply G1_move); exact rfl; exact rfl) | (apply G1_sliceHiJ (q := k); exact T.s28; exact rfl; exact rfl; exact rfl; omega; exact rfl) | (apply G1_toString (bs := bs.take k); exact T.s28; exact T.i5; exact T.str9; (rw [htk2]; exact rfl); exact hC4; exact rfl) | (apply G1_pick_f; exact rfl; exact rfl; exact rfl) | (apply G1_not_t; exact rfl; exact rfl)) | apply G_nil | apply Post_next | apply W_seq | apply W_region | (apply W_cond_false; exact rfl) | apply W_skip | apply W_ret)
    refine Post_ret Tryd.results58 ⟨_, _, rfl, rfl, _, _, rfl, rfl, rfl⟩ ?_
    exact ⟨rfl, (by repeat first | assumption | exact Ext.rfl' | apply Ext.drew | apply Ext.alloc | refine Ext.trans ?_ (by assumption))⟩
  · have hb : decide (([13, 10] : List UInt8).length ≤ bs.length - k ∧ (bs.drop k).take ([13, 10] : List UInt8).length = [13, 10]) = false := decide_eq_false (fun h => hcr h.2)
    rw [hb] at hp
    rw [if_neg hcr]
    apply G_on; exact rfl; apply G1_call; exact rfl; exact rfl; exact rfl; exact hp _ hd hs2; rintro _ w3 ⟨rfl, hx3⟩; refine ⟨(by first | exact .inl rfl | exact .inr (by assumption)), ?_⟩
    repeat' (first | (apply G_on; exact rfl; first | (apply G1_assign; exact rfl; exact rfl) | (apply G1_pick_f; exact rfl; exact rfl; exact rfl) | (apply G1_not_f; exact rfl; exact rfl)) | apply G_nil | apply Post_next | apply W_seq | apply W_region | (apply W_cond_true; exact rfl) | apply W_ret | apply Post_then_ret)
    refine Post_ret Tryd.results58 ⟨_, _, rfl, rfl, _, _, rfl, rfl, rfl⟩ ?_
    exact ⟨rfl, (by repeat first | assumption | exact Ext.rfl' | apply Ext.drew | apply Ext.alloc | refine Ext.trans ?_ (by assumption))⟩
end Go.Proofs.YtikjnmpijflnaaaDoor
