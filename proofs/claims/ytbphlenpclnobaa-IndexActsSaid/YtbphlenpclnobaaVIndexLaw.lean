/- Chapter 16: chain, the awakening. -/
import Derived.Test.YtbphlenpclnobaaVIndexKeys
import Derived.Test.YtbphlenpclnobaaVEqStr
namespace Go.V
section
variable {P : Program} {n : Nat} {ops : Array Oper} {dr : Nat × List Nat} {l : List Oper} {E : Env} {w : World} {K : Env → World → Prop}
variable {d : Option Nat} {ty : TypeId} {pos : String} {af : Array Edge} {g : Option (Nat × Bool)} {x y : Operand} {t t' u : TypeId} {a : Addr}
theorem run_equal_pnil (hu : P.underlying t = some (.pointer u)) (w : World) : (Op.equal t (.pointer (some a)) (.pointer none)).run P w = .ok false w := by
  have key : ∀ d, (Op.equalIn (d + 1) t (.pointer (some a)) (.pointer none)).run P w = .ok false w := by
    intro d
    rw [Op.equalIn.eq_def]
    simp [run_underlying hu]
  exact key _
theorem G1_pnileql (hu : P.underlying t = some (.pointer u)) (hx : E.look x = some (.pointer (some a))) (hy : E.look y = some (.pointer none)) (hd : dstOk n d = true) (h : G P n ops dr l (E.put d (.bool false)) w K) : G1 P n ops dr ⟨d, .binOp .eql t x y t', ty, pos, af, g⟩ l E w K :=
  G1_quiet _ hd (fun a ha w' _ => by simp [execOp, ha.eval hx, ha.eval hy, eqGuard, binOp, run_equal_pnil hu]) h
end
def xS : ByteArray := ⟨#[120]⟩
def ver16 (st : Int) : Ver := ⟨st, false, 0, ⟨3, ⟨#[]⟩, [], [xS], []⟩⟩
theorem small16 (st : Int) : True := trivial
end Go.V
namespace Go.Proofs.Ytbphlenpclnobaa
open Go.V
attribute [local irreducible] Blk Own hcell IntT SliceT PlainT AggT SizeT StrT FieldT ZeroT EqT ArrT
theorem smallv (st : Int) : small_vs [ver16 st] := ⟨by simp, fun v hv => by simp at hv; subst hv; simp [ver16]⟩
def raw16 (st : Int) (p : Option Addr) : RawVer := ⟨st, false, 0, ⟨3, ⟨#[]⟩, none, 0, 0, p, 1, 1, none, 0, 0⟩⟩
theorem bld_v16 (p : Option Addr) (w : World) : (Instr.build 48 [(0, Value.int .i64 3), (3, Value.slice p 1 1)].toArray).run Try.prog w = .ok (.agg #[.int .i64 3, .string ⟨#[]⟩, .slice none 0 0, .slice p 1 1, .slice none 0 0]) w := by kernel_rfl
theorem bld_ver16 (st : Int) (p : Option Addr) (w : World) : (Instr.build 50 [(0, Value.int .i64 st), (3, Value.agg #[.int .i64 3, .string ⟨#[]⟩, .slice none 0 0, .slice p 1 1, .slice none 0 0])].toArray).run Try.prog w = .ok (.agg (eVer.enc (raw16 st p)).toArray) w := by kernel_rfl
theorem chain16 {st : Int} {w : World} : Ctr Try.prog 14 [.int .i64 st] w (fun v w' => ∃ p q, v = .slice p 1 1 ∧ ChainF w' (fun k => w.heap.size ≤ k ∧ k < w'.heap.size) p 1 [raw16 st q] [ver16 st] ∧ Ext w w') := by
  refine Ctr_of Try.func14 Try.ntmps14 rfl rfl rfl ?_
  repeat' (first | (apply G_on; exact rfl; first | ((first | apply G1_assign | apply G1_move); exact rfl; exact rfl)) | apply G_nil | apply Post_next | apply W_seq | apply W_region | (apply W_cond_true; exact rfl) | (apply W_cond_false; exact rfl) | (apply W_cond_dec; exact rfl; all_goals (intro h; try (exfalso; omega))) | (apply W_cond; exact rfl; all_goals intro h) | (apply G_off; exact rfl; exact rfl) | ((fail_if_success (apply G_on; exact rfl)); apply G_split_dec; exact rfl; exact rfl; all_goals (intro h; try (exfalso; omega))) | ((fail_if_success (apply G_on; exact rfl)); apply G_split; exact rfl; exact rfl; all_goals intro h) | apply W_skip | apply W_exit | apply W_ret | apply W_block | apply Post_then_ret | apply Post_block_ret | apply Post_then_exit | apply Post_block_exit | (apply Post_block_other; exact rfl) | apply Post_block_normal)
  apply G_on; exact rfl
  apply G1_build1 eStr xS; exact T.s26; exact rfl; exact rfl; exact rfl; decide; exact rfl; exact rfl
  intro p1 w1 hp1 hs1 hV1 hx1 hz1
  repeat' (first | (apply G_on; exact rfl; first | ((first | apply G1_assign | apply G1_move); exact rfl; exact rfl)) | apply G_nil | apply Post_next | apply W_seq | apply W_region | (apply W_cond_true; exact rfl) | (apply W_cond_false; exact rfl) | (apply W_cond_dec; exact rfl; all_goals (intro h; try (exfalso; omega))) | (apply W_cond; exact rfl; all_goals intro h) | (apply G_off; exact rfl; exact rfl) | ((fail_if_success (apply G_on; exact rfl)); apply G_split_dec; exact rfl; exact rfl; all_goals (intro h; try (exfalso; omega))) | ((fail_if_success (apply G_on; exact rfl)); apply G_split; exact rfl; exact rfl; all_goals intro h) | apply W_skip | apply W_exit | apply W_ret | apply W_block | apply Post_then_ret | apply Post_block_ret | apply Post_then_exit | apply Post_block_exit | (apply Post_block_other; exact rfl) | apply Post_block_normal)
  apply G_on; exact rfl
  apply G1_build; exact rfl; exact bld_v16 p1; exact rfl
  repeat' (first | (apply G_on; exact rfl; first | ((first | apply G1_assign | apply G1_move); exact rfl; exact rfl)) | apply G_nil | apply Post_next | apply W_seq | apply W_region | (apply W_cond_true; exact rfl) | (apply W_cond_false; exact rfl) | (apply W_cond_dec; exact rfl; all_goals (intro h; try (exfalso; omega))) | (apply W_cond; exact rfl; all_goals intro h) | (apply G_off; exact rfl; exact rfl) | ((fail_if_success (apply G_on; exact rfl)); apply G_split_dec; exact rfl; exact rfl; all_goals (intro h; try (exfalso; omega))) | ((fail_if_success (apply G_on; exact rfl)); apply G_split; exact rfl; exact rfl; all_goals intro h) | apply W_skip | apply W_exit | apply W_ret | apply W_block | apply Post_then_ret | apply Post_block_ret | apply Post_then_exit | apply Post_block_exit | (apply Post_block_other; exact rfl) | apply Post_block_normal)
  apply G_on; exact rfl
  apply G1_build; exact rfl; exact bld_ver16 st p1; exact rfl
  repeat' (first | (apply G_on; exact rfl; first | ((first | apply G1_assign | apply G1_move); exact rfl; exact rfl)) | apply G_nil | apply Post_next | apply W_seq | apply W_region | (apply W_cond_true; exact rfl) | (apply W_cond_false; exact rfl) | (apply W_cond_dec; exact rfl; all_goals (intro h; try (exfalso; omega))) | (apply W_cond; exact rfl; all_goals intro h) | (apply G_off; exact rfl; exact rfl) | ((fail_if_success (apply G_on; exact rfl)); apply G_split_dec; exact rfl; exact rfl; all_goals (intro h; try (exfalso; omega))) | ((fail_if_success (apply G_on; exact rfl)); apply G_split; exact rfl; exact rfl; all_goals intro h) | apply W_skip | apply W_exit | apply W_ret | apply W_block | apply Post_then_ret | apply Post_block_ret | apply Post_then_exit | apply Post_block_exit | (apply Post_block_other; exact rfl) | apply Post_block_normal)
  obtain ⟨r, hr⟩ : ∃ r, raw16 st p1 = r := ⟨_, rfl⟩
  rw [hr]
  apply G_on; exact rfl
  apply G1_build1 eVer r; exact T.s30; exact rfl; exact rfl; exact rfl; decide; exact rfl; exact rfl
  intro p2 w2 hp2 hs2 hV2 hx2 hz2
  repeat' (first | (apply G_on; exact rfl; first | ((first | apply G1_assign | apply G1_move); exact rfl; exact rfl)) | apply G_nil | apply Post_next | apply W_seq | apply W_region | (apply W_cond_true; exact rfl) | (apply W_cond_false; exact rfl) | (apply W_cond_dec; exact rfl; all_goals (intro h; try (exfalso; omega))) | (apply W_cond; exact rfl; all_goals intro h) | (apply G_off; exact rfl; exact rfl) | ((fail_if_success (apply G_on; exact rfl)); apply G_split_dec; exact rfl; exact rfl; all_goals (intro h; try (exfalso; omega))) | ((fail_if_success (apply G_on; exact rfl)); apply G_split; exact rfl; exact rfl; all_goals intro h) | apply W_skip | apply W_exit | apply W_ret | apply W_block | apply Post_then_ret | apply Post_block_ret | apply Post_then_exit | apply Post_block_exit | (apply Post_block_other; exact rfl) | apply Post_block_normal)
  refine Post_ret Try.results14 ⟨_, _, rfl, rfl, rfl⟩ ?_
  subst hr
  have o1 : Go.V.Own w2 0 9 eStr p1 1 [xS] := by
    rw [hp1]; exact Own.ofBlk (Nat.zero_le _) (hV1.ext hx2) rfl (by decide) (by simp) (List.take_of_length_le (by simp [eStr]))
  have o2 : Go.V.Own w2 0 50 eVer p2 1 [raw16 st p1] := by
    rw [hp2]; exact Own.ofBlk (Nat.zero_le _) hV2 rfl (by decide) (by simp) (List.take_of_length_le (by simp [eVer]))
  refine ⟨p2, p1, rfl, ⟨o2, fun k hk => ?_, rfl, fun i r v h1 h2 => ?_⟩, hx1.trans hx2⟩
  · rw [hp2] at hk; simp [blk] at hk; constructor <;> omega
  · have hi : i = 0 := by have := get_lt h1; simp at this; omega
    subst hi
    simp at h1 h2
    subst h1 h2
    refine ⟨rfl, rfl, rfl, rfl, rfl, rfl, rfl, rfl, Own.nil _ _ _ _, o1, Own.nil _ _ _ _, fun k hk => ?_⟩
    rcases hk with hk | hk | hk
    · simp [raw16, blk] at hk
    · rw [show (raw16 st p1).raw.p2 = p1 from rfl, hp1] at hk; simp [blk] at hk; constructor <;> omega
    · simp [raw16, blk] at hk
theorem words_y {p q : Option Addr} {c d : Nat} {xs : List ByteArray} {w : World} (hx : Sl w.heap eStr p c xs) (hy : Sl w.heap eStr q d xs) : Ctr Try.prog 16 [.slice p xs.length c, .slice q xs.length d] w (fun v w' => v = .bool true ∧ Ext w w') :=
  (same_words hx hy).mono fun v w' ⟨hv, hx⟩ => ⟨by rw [hv]; simp, hx⟩
/-- the index as the laws have it -/
def Ix (w : World) (ix : Nat) (F : Nat → Prop) (L : List KV) : Prop := ∃ pb cb bl, IxAt w ix F pb cb bl ∧ cont bl = L ∧ SortedK L
theorem Ix.ext {w w' : World} {ix : Nat} {F : Nat → Prop} {L : List KV} (h : Ix w ix F L) (hx : Ext w w') : Ix w' ix F L := by
  obtain ⟨pb, cb, bl, h1, h2, h3⟩ := h; exact ⟨pb, cb, bl, h1.ext hx, h2, h3⟩
theorem Ix.lt {w : World} {ix : Nat} {F : Nat → Prop} {L : List KV} (h : Ix w ix F L) : ix < w.heap.size := by
  obtain ⟨pb, cb, bl, h1, h2, h3⟩ := h; exact h1.box.lt
theorem ix_new {w : World} : Ctr Try.prog 12 [] w (fun v w' => ∃ ix, v = .pointer (some (adr (bx ix) 0)) ∧ ix = w.heap.size ∧ Ix w' ix (fun _ => False) [] ∧ Ext w w') :=
  idx_new.mono fun v w' ⟨ix, h1, h2, h3, h4⟩ => ⟨ix, h1, h2, ⟨none, 0, [], h3, rfl, List.Pairwise.nil⟩, h4⟩
theorem ix_set {w : World} {ix : Nat} {F : Nat → Prop} {L : List KV} {key : ByteArray} {p : Option Addr} {c n : Nat} {rs : List RawVer} {vs : List Ver} (hI : Ix w ix F L) (hn : L.length ≤ 900) (hC : ChainAt w.heap p c rs vs) (hsm : small_vs vs) (hnl : vs.length = n) :
    Ctr Try.prog 13 [.pointer (some (adr (bx ix) 0)), .string key, .slice p n c] w (fun _ w' => ∃ F', Ix w' ix F' (setL L key vs) ∧ (∀ k, F' k → F k ∨ w.heap.size ≤ k) ∧ ChgT ix w w') := by
  obtain ⟨pb, cb, bl, h1, rfl, h3⟩ := hI
  exact (idx_set h1 h3 hn hC hsm hnl).mono fun v w' ⟨F', pb', cb', bl', g1, g2, g3, g4⟩ => ⟨F', ⟨pb', cb', bl', g1, g2, setL_sorted h3⟩, g3, g4⟩
theorem ix_keys {w : World} {ix : Nat} {F : Nat → Prop} {L : List KV} {key : ByteArray} {most : Int} (hI : Ix w ix F L) (hn : L.length ≤ 900) :
    Ctr Try.prog 15 [.pointer (some (adr (bx ix) 0)), .string key, .int .i64 most] w (fun v w' => ∃ p' c', v = .slice p' (fromK L key most).length c' ∧ Go.V.Own w' w.heap.size 9 eStr p' c' (fromK L key most) ∧ Ext w w') := by
  obtain ⟨pb, cb, bl, h1, rfl, h3⟩ := hI
  exact idx_keys h1 h3 hn
theorem ix_len' {w : World} {ix : Nat} {F : Nat → Prop} {L : List KV} (hI : Ix w ix F L) :
    Ctr Try.prog 19 [.pointer (some (adr (bx ix) 0))] w (fun v w' => v = .int .i64 (L.length : Int) ∧ Ext w w') := by
  obtain ⟨pb, cb, bl, h1, rfl, h3⟩ := hI
  refine (idx_len h1).mono fun v w' ⟨h, hx⟩ => ⟨by rw [h]; unfold cont; rw [List.length_map], hx⟩
def a16 : ByteArray := ⟨#[97]⟩
def b16 : ByteArray := ⟨#[98]⟩
def c16 : ByteArray := ⟨#[99]⟩
theorem nilChain {H : Array Obj} : ChainAt H none 0 [] [] := ⟨Sl.nil, rfl, fun i r v h => by simp at h⟩
theorem setL_nil_ne {L : List KV} {key : ByteArray} {v : Ver} {vs : List Ver} : setL L key (v :: vs) = L.filter (fun x => blt x.1 key) ++ [(key, v :: vs)] ++ L.filter (fun x => blt key x.1) := by
  unfold setL; rw [if_neg (by simp)]
theorem setL_del {L : List KV} {key : ByteArray} : setL L key [] = L.filter (fun x => blt x.1 key) ++ L.filter (fun x => blt key x.1) := by
  unfold setL; rw [if_pos rfl, List.append_nil]
theorem ex16 : fromK (setL (setL (setL (setL [] b16 [ver16 1]) a16 [ver16 2]) c16 [ver16 3]) b16 []) ⟨#[]⟩ 0 = [a16, c16] ∧ (setL (setL (setL (setL [] b16 [ver16 1]) a16 [ver16 2]) c16 [ver16 3]) b16 []).length = 2 := by
  have h1 : blt b16 a16 = false := by decide +kernel
  have h2 : blt a16 b16 = true := by decide +kernel
  have h3 : blt a16 c16 = true := by decide +kernel
  have h4 : blt b16 c16 = true := by decide +kernel
  have h5 : blt c16 a16 = false := by decide +kernel
  have h6 : blt c16 b16 = false := by decide +kernel
  have h7 : ∀ s, blt s s = false := blt_irrefl
  have h8 : blt a16 ⟨#[]⟩ = false := by decide +kernel
  have h9 : blt c16 ⟨#[]⟩ = false := by decide +kernel
  simp [setL_nil_ne, setL_del, fromK, h1, h2, h3, h4, h5, h6, h7, h8, h9]
theorem awake16 {w : World} : Ctr Try.prog 11 [] w (fun v w' => v = .bool true ∧ Ext w w') := by
  refine Ctr_of Try.func11 Try.ntmps11 rfl rfl rfl ?_
  repeat' (first | (apply G_on; exact rfl; first | ((first | apply G1_assign | apply G1_move); exact rfl; exact rfl) | (apply G1_eql; exact rfl; exact rfl; exact rfl) | (apply G1_pick_t; exact rfl; exact rfl; exact rfl) | (apply G1_pick_f; exact rfl; exact rfl; exact rfl)) | apply G_nil | apply Post_next | apply W_seq | apply W_region | (apply W_cond_true; exact rfl) | (apply W_cond_false; exact rfl) | (apply W_cond_dec; exact rfl; all_goals (intro h; try (exfalso; omega))) | (apply W_cond; exact rfl; all_goals intro h) | (apply G_off; exact rfl; exact rfl) | ((fail_if_success (apply G_on; exact rfl)); apply G_split_dec; exact rfl; exact rfl; all_goals (intro h; try (exfalso; omega))) | ((fail_if_success (apply G_on; exact rfl)); apply G_split; exact rfl; exact rfl; all_goals intro h) | apply W_skip | apply W_exit | apply W_ret | apply W_block | apply Post_then_ret | apply Post_block_ret | apply Post_then_exit | apply Post_block_exit | (apply Post_block_other; exact rfl) | apply Post_block_normal)
  apply G_on; exact rfl; apply G1_call; exact rfl; exact rfl; exact rfl; exact ix_new; rintro _ w1 ⟨ix, rfl, hix, hI1, hx1⟩; refine ⟨(by first | exact .inl rfl | exact .inr (by assumption)), ?_⟩
  repeat' (first | (apply G_on; exact rfl; first | ((first | apply G1_assign | apply G1_move); exact rfl; exact rfl) | (apply G1_pnileql; exact Try.underlying27; exact rfl; exact rfl; exact rfl) | (apply G1_eql; exact rfl; exact rfl; exact rfl) | (apply G1_pick_t; exact rfl; exact rfl; exact rfl) | (apply G1_pick_f; exact rfl; exact rfl; exact rfl)) | apply G_nil | apply Post_next | apply W_seq | apply W_region | (apply W_cond_true; exact rfl) | (apply W_cond_false; exact rfl) | (apply W_cond_dec; exact rfl; all_goals (intro h; try (exfalso; omega))) | (apply W_cond; exact rfl; all_goals intro h) | (apply G_off; exact rfl; exact rfl) | ((fail_if_success (apply G_on; exact rfl)); apply G_split_dec; exact rfl; exact rfl; all_goals (intro h; try (exfalso; omega))) | ((fail_if_success (apply G_on; exact rfl)); apply G_split; exact rfl; exact rfl; all_goals intro h) | apply W_skip | apply W_exit | apply W_ret | apply W_block | apply Post_then_ret | apply Post_block_ret | apply Post_then_exit | apply Post_block_exit | (apply Post_block_other; exact rfl) | apply Post_block_normal)
  apply G_on; exact rfl; apply G1_call; exact rfl; exact rfl; exact rfl; exact chain16; rintro _ w2 ⟨p2, q2, rfl, hc2, hx2⟩; refine ⟨(by first | exact .inl rfl | exact .inr (by assumption)), ?_⟩
  repeat' (first | (apply G_on; exact rfl; first | ((first | apply G1_assign | apply G1_move); exact rfl; exact rfl) | (apply G1_eql; exact rfl; exact rfl; exact rfl) | (apply G1_pick_t; exact rfl; exact rfl; exact rfl) | (apply G1_pick_f; exact rfl; exact rfl; exact rfl)) | apply G_nil | apply Post_next | apply W_seq | apply W_region | (apply W_cond_true; exact rfl) | (apply W_cond_false; exact rfl) | (apply W_cond_dec; exact rfl; all_goals (intro h; try (exfalso; omega))) | (apply W_cond; exact rfl; all_goals intro h) | (apply G_off; exact rfl; exact rfl) | ((fail_if_success (apply G_on; exact rfl)); apply G_split_dec; exact rfl; exact rfl; all_goals (intro h; try (exfalso; omega))) | ((fail_if_success (apply G_on; exact rfl)); apply G_split; exact rfl; exact rfl; all_goals intro h) | apply W_skip | apply W_exit | apply W_ret | apply W_block | apply Post_then_ret | apply Post_block_ret | apply Post_then_exit | apply Post_block_exit | (apply Post_block_other; exact rfl) | apply Post_block_normal)
  apply G_on; exact rfl; apply G1_call; exact rfl; exact rfl; exact rfl; exact ix_set (key := b16) (hI1.ext hx2) (by simp) hc2.at (smallv 1) rfl; rintro v3 w3 ⟨F3, hI3, _, hg3⟩; refine ⟨(by first | exact .inl rfl | exact .inr (by assumption)), ?_⟩
  have hx03 : Ext w w3 := hg3.low (hx1.trans hx2) (by omega)
  repeat' (first | (apply G_on; exact rfl; first | ((first | apply G1_assign | apply G1_move); exact rfl; exact rfl) | (apply G1_eql; exact rfl; exact rfl; exact rfl) | (apply G1_pick_t; exact rfl; exact rfl; exact rfl) | (apply G1_pick_f; exact rfl; exact rfl; exact rfl)) | apply G_nil | apply Post_next | apply W_seq | apply W_region | (apply W_cond_true; exact rfl) | (apply W_cond_false; exact rfl) | (apply W_cond_dec; exact rfl; all_goals (intro h; try (exfalso; omega))) | (apply W_cond; exact rfl; all_goals intro h) | (apply G_off; exact rfl; exact rfl) | ((fail_if_success (apply G_on; exact rfl)); apply G_split_dec; exact rfl; exact rfl; all_goals (intro h; try (exfalso; omega))) | ((fail_if_success (apply G_on; exact rfl)); apply G_split; exact rfl; exact rfl; all_goals intro h) | apply W_skip | apply W_exit | apply W_ret | apply W_block | apply Post_then_ret | apply Post_block_ret | apply Post_then_exit | apply Post_block_exit | (apply Post_block_other; exact rfl) | apply Post_block_normal)
  apply G_on; exact rfl; apply G1_call; exact rfl; exact rfl; exact rfl; exact chain16; rintro _ w4 ⟨p4, q4, rfl, hc4, hx4⟩; refine ⟨(by first | exact .inl rfl | exact .inr (by assumption)), ?_⟩
  repeat' (first | (apply G_on; exact rfl; first | ((first | apply G1_assign | apply G1_move); exact rfl; exact rfl) | (apply G1_eql; exact rfl; exact rfl; exact rfl) | (apply G1_pick_t; exact rfl; exact rfl; exact rfl) | (apply G1_pick_f; exact rfl; exact rfl; exact rfl)) | apply G_nil | apply Post_next | apply W_seq | apply W_region | (apply W_cond_true; exact rfl) | (apply W_cond_false; exact rfl) | (apply W_cond_dec; exact rfl; all_goals (intro h; try (exfalso; omega))) | (apply W_cond; exact rfl; all_goals intro h) | (apply G_off; exact rfl; exact rfl) | ((fail_if_success (apply G_on; exact rfl)); apply G_split_dec; exact rfl; exact rfl; all_goals (intro h; try (exfalso; omega))) | ((fail_if_success (apply G_on; exact rfl)); apply G_split; exact rfl; exact rfl; all_goals intro h) | apply W_skip | apply W_exit | apply W_ret | apply W_block | apply Post_then_ret | apply Post_block_ret | apply Post_then_exit | apply Post_block_exit | (apply Post_block_other; exact rfl) | apply Post_block_normal)
  apply G_on; exact rfl; apply G1_call; exact rfl; exact rfl; exact rfl; exact ix_set (key := a16) (hI3.ext hx4) (by have := setL_len (L := []) (key := b16) (vs := [ver16 1]); simp at this; omega) hc4.at (smallv 2) rfl; rintro v5 w5 ⟨F5, hI5, _, hg5⟩; refine ⟨(by first | exact .inl rfl | exact .inr (by assumption)), ?_⟩
  have hx05 : Ext w w5 := hg5.low (hx03.trans hx4) (by omega)
  have l1 := setL_len (L := []) (key := b16) (vs := [ver16 1])
  have l2 := setL_len (L := setL [] b16 [ver16 1]) (key := a16) (vs := [ver16 2])
  have l3 := setL_len (L := setL (setL [] b16 [ver16 1]) a16 [ver16 2]) (key := c16) (vs := [ver16 3])
  simp only [List.length_nil] at l1
  repeat' (first | (apply G_on; exact rfl; first | ((first | apply G1_assign | apply G1_move); exact rfl; exact rfl) | (apply G1_eql; exact rfl; exact rfl; exact rfl) | (apply G1_pick_t; exact rfl; exact rfl; exact rfl) | (apply G1_pick_f; exact rfl; exact rfl; exact rfl)) | apply G_nil | apply Post_next | apply W_seq | apply W_region | (apply W_cond_true; exact rfl) | (apply W_cond_false; exact rfl) | (apply W_cond_dec; exact rfl; all_goals (intro h; try (exfalso; omega))) | (apply W_cond; exact rfl; all_goals intro h) | (apply G_off; exact rfl; exact rfl) | ((fail_if_success (apply G_on; exact rfl)); apply G_split_dec; exact rfl; exact rfl; all_goals (intro h; try (exfalso; omega))) | ((fail_if_success (apply G_on; exact rfl)); apply G_split; exact rfl; exact rfl; all_goals intro h) | apply W_skip | apply W_exit | apply W_ret | apply W_block | apply Post_then_ret | apply Post_block_ret | apply Post_then_exit | apply Post_block_exit | (apply Post_block_other; exact rfl) | apply Post_block_normal)
  apply G_on; exact rfl; apply G1_call; exact rfl; exact rfl; exact rfl; exact chain16; rintro _ w6 ⟨p6, q6, rfl, hc6, hx6⟩; refine ⟨(by first | exact .inl rfl | exact .inr (by assumption)), ?_⟩
  repeat' (first | (apply G_on; exact rfl; first | ((first | apply G1_assign | apply G1_move); exact rfl; exact rfl) | (apply G1_eql; exact rfl; exact rfl; exact rfl) | (apply G1_pick_t; exact rfl; exact rfl; exact rfl) | (apply G1_pick_f; exact rfl; exact rfl; exact rfl)) | apply G_nil | apply Post_next | apply W_seq | apply W_region | (apply W_cond_true; exact rfl) | (apply W_cond_false; exact rfl) | (apply W_cond_dec; exact rfl; all_goals (intro h; try (exfalso; omega))) | (apply W_cond; exact rfl; all_goals intro h) | (apply G_off; exact rfl; exact rfl) | ((fail_if_success (apply G_on; exact rfl)); apply G_split_dec; exact rfl; exact rfl; all_goals (intro h; try (exfalso; omega))) | ((fail_if_success (apply G_on; exact rfl)); apply G_split; exact rfl; exact rfl; all_goals intro h) | apply W_skip | apply W_exit | apply W_ret | apply W_block | apply Post_then_ret | apply Post_block_ret | apply Post_then_exit | apply Post_block_exit | (apply Post_block_other; exact rfl) | apply Post_block_normal)
  apply G_on; exact rfl; apply G1_call; exact rfl; exact rfl; exact rfl; exact ix_set (key := c16) (hI5.ext hx6) (by omega) hc6.at (smallv 3) rfl; rintro v7 w7 ⟨F7, hI7, _, hg7⟩; refine ⟨(by first | exact .inl rfl | exact .inr (by assumption)), ?_⟩
  have hx07 : Ext w w7 := hg7.low (hx05.trans hx6) (by omega)
  repeat' (first | (apply G_on; exact rfl; first | ((first | apply G1_assign | apply G1_move); exact rfl; exact rfl) | (apply G1_eql; exact rfl; exact rfl; exact rfl) | (apply G1_pick_t; exact rfl; exact rfl; exact rfl) | (apply G1_pick_f; exact rfl; exact rfl; exact rfl)) | apply G_nil | apply Post_next | apply W_seq | apply W_region | (apply W_cond_true; exact rfl) | (apply W_cond_false; exact rfl) | (apply W_cond_dec; exact rfl; all_goals (intro h; try (exfalso; omega))) | (apply W_cond; exact rfl; all_goals intro h) | (apply G_off; exact rfl; exact rfl) | ((fail_if_success (apply G_on; exact rfl)); apply G_split_dec; exact rfl; exact rfl; all_goals (intro h; try (exfalso; omega))) | ((fail_if_success (apply G_on; exact rfl)); apply G_split; exact rfl; exact rfl; all_goals intro h) | apply W_skip | apply W_exit | apply W_ret | apply W_block | apply Post_then_ret | apply Post_block_ret | apply Post_then_exit | apply Post_block_exit | (apply Post_block_other; exact rfl) | apply Post_block_normal)
  apply G_on; exact rfl; apply G1_call; exact rfl; exact rfl; exact rfl; exact ix_set (key := b16) hI7 (by omega) nilChain (vs := []) ⟨by simp, fun v hv => by cases hv⟩ rfl; rintro v8 w8 ⟨F8, hI8, _, hg8⟩; refine ⟨(by first | exact .inl rfl | exact .inr (by assumption)), ?_⟩
  have hx08 : Ext w w8 := hg8.low hx07 (by omega)
  have l4 := setL_len (L := setL (setL (setL [] b16 [ver16 1]) a16 [ver16 2]) c16 [ver16 3]) (key := b16) (vs := [])
  repeat' (first | (apply G_on; exact rfl; first | ((first | apply G1_assign | apply G1_move); exact rfl; exact rfl) | (apply G1_eql; exact rfl; exact rfl; exact rfl) | (apply G1_pick_t; exact rfl; exact rfl; exact rfl) | (apply G1_pick_f; exact rfl; exact rfl; exact rfl)) | apply G_nil | apply Post_next | apply W_seq | apply W_region | (apply W_cond_true; exact rfl) | (apply W_cond_false; exact rfl) | (apply W_cond_dec; exact rfl; all_goals (intro h; try (exfalso; omega))) | (apply W_cond; exact rfl; all_goals intro h) | (apply G_off; exact rfl; exact rfl) | ((fail_if_success (apply G_on; exact rfl)); apply G_split_dec; exact rfl; exact rfl; all_goals (intro h; try (exfalso; omega))) | ((fail_if_success (apply G_on; exact rfl)); apply G_split; exact rfl; exact rfl; all_goals intro h) | apply W_skip | apply W_exit | apply W_ret | apply W_block | apply Post_then_ret | apply Post_block_ret | apply Post_then_exit | apply Post_block_exit | (apply Post_block_other; exact rfl) | apply Post_block_normal)
  apply G_on; exact rfl; apply G1_call; exact rfl; exact rfl; exact rfl; exact ix_keys (key := ⟨#[]⟩) (most := 0) hI8 (by omega); rintro _ w9 ⟨p9, c9, rfl, ho9, hx9⟩; refine ⟨(by first | exact .inl rfl | exact .inr (by assumption)), ?_⟩
  rw [ex16.1] at ho9 ⊢
  repeat' (first | (apply G_on; exact rfl; first | ((first | apply G1_assign | apply G1_move); exact rfl; exact rfl) | (apply G1_eql; exact rfl; exact rfl; exact rfl) | (apply G1_pick_t; exact rfl; exact rfl; exact rfl) | (apply G1_pick_f; exact rfl; exact rfl; exact rfl)) | apply G_nil | apply Post_next | apply W_seq | apply W_region | (apply W_cond_true; exact rfl) | (apply W_cond_false; exact rfl) | (apply W_cond_dec; exact rfl; all_goals (intro h; try (exfalso; omega))) | (apply W_cond; exact rfl; all_goals intro h) | (apply G_off; exact rfl; exact rfl) | ((fail_if_success (apply G_on; exact rfl)); apply G_split_dec; exact rfl; exact rfl; all_goals (intro h; try (exfalso; omega))) | ((fail_if_success (apply G_on; exact rfl)); apply G_split; exact rfl; exact rfl; all_goals intro h) | apply W_skip | apply W_exit | apply W_ret | apply W_block | apply Post_then_ret | apply Post_block_ret | apply Post_then_exit | apply Post_block_exit | (apply Post_block_other; exact rfl) | apply Post_block_normal)
  apply G_on; exact rfl
  apply G1_buildN eStr [a16, c16]; exact T.s26; exact rfl; exact rfl; exact rfl; exact rfl; exact rfl; exact Nat.succ_pos _; exact Nat.le_of_ble_eq_true rfl; exact rfl; exact rfl
  intro pa wa hoa hxa hza
  have h9 : Sl wa.heap eStr p9 c9 [a16, c16] := ho9.sl.ext hxa
  repeat' (first | (apply G_on; exact rfl; first | ((first | apply G1_assign | apply G1_move); exact rfl; exact rfl) | (apply G1_eql; exact rfl; exact rfl; exact rfl) | (apply G1_pick_t; exact rfl; exact rfl; exact rfl) | (apply G1_pick_f; exact rfl; exact rfl; exact rfl)) | apply G_nil | apply Post_next | apply W_seq | apply W_region | (apply W_cond_true; exact rfl) | (apply W_cond_false; exact rfl) | (apply W_cond_dec; exact rfl; all_goals (intro h; try (exfalso; omega))) | (apply W_cond; exact rfl; all_goals intro h) | (apply G_off; exact rfl; exact rfl) | ((fail_if_success (apply G_on; exact rfl)); apply G_split_dec; exact rfl; exact rfl; all_goals (intro h; try (exfalso; omega))) | ((fail_if_success (apply G_on; exact rfl)); apply G_split; exact rfl; exact rfl; all_goals intro h) | apply W_skip | apply W_exit | apply W_ret | apply W_block | apply Post_then_ret | apply Post_block_ret | apply Post_then_exit | apply Post_block_exit | (apply Post_block_other; exact rfl) | apply Post_block_normal)
  apply G_on; exact rfl; apply G1_call; exact rfl; exact rfl; exact rfl; exact words_y (xs := [a16, c16]) h9 hoa.sl; rintro _ wb ⟨rfl, hxb⟩; refine ⟨(by first | exact .inl rfl | exact .inr (by assumption)), ?_⟩
  repeat' (first | (apply G_on; exact rfl; first | ((first | apply G1_assign | apply G1_move); exact rfl; exact rfl) | (apply G1_eql; exact rfl; exact rfl; exact rfl) | (apply G1_pick_t; exact rfl; exact rfl; exact rfl) | (apply G1_pick_f; exact rfl; exact rfl; exact rfl)) | apply G_nil | apply Post_next | apply W_seq | apply W_region | (apply W_cond_true; exact rfl) | (apply W_cond_false; exact rfl) | (apply W_cond_dec; exact rfl; all_goals (intro h; try (exfalso; omega))) | (apply W_cond; exact rfl; all_goals intro h) | (apply G_off; exact rfl; exact rfl) | ((fail_if_success (apply G_on; exact rfl)); apply G_split_dec; exact rfl; exact rfl; all_goals (intro h; try (exfalso; omega))) | ((fail_if_success (apply G_on; exact rfl)); apply G_split; exact rfl; exact rfl; all_goals intro h) | apply W_skip | apply W_exit | apply W_ret | apply W_block | apply Post_then_ret | apply Post_block_ret | apply Post_then_exit | apply Post_block_exit | (apply Post_block_other; exact rfl) | apply Post_block_normal)
  apply G_on; exact rfl; apply G1_call; exact rfl; exact rfl; exact rfl; exact ix_len' (((hI8.ext hx9).ext hxa).ext hxb); rintro _ wc ⟨rfl, hxc⟩; refine ⟨(by first | exact .inl rfl | exact .inr (by assumption)), ?_⟩
  rw [ex16.2]
  repeat' (first | (apply G_on; exact rfl; first | ((first | apply G1_assign | apply G1_move); exact rfl; exact rfl) | (apply G1_eql; exact rfl; exact rfl; exact rfl) | (apply G1_pick_t; exact rfl; exact rfl; exact rfl) | (apply G1_pick_f; exact rfl; exact rfl; exact rfl)) | apply G_nil | apply Post_next | apply W_seq | apply W_region | (apply W_cond_true; exact rfl) | (apply W_cond_false; exact rfl) | (apply W_cond_dec; exact rfl; all_goals (intro h; try (exfalso; omega))) | (apply W_cond; exact rfl; all_goals intro h) | (apply G_off; exact rfl; exact rfl) | ((fail_if_success (apply G_on; exact rfl)); apply G_split_dec; exact rfl; exact rfl; all_goals (intro h; try (exfalso; omega))) | ((fail_if_success (apply G_on; exact rfl)); apply G_split; exact rfl; exact rfl; all_goals intro h) | apply W_skip | apply W_exit | apply W_ret | apply W_block | apply Post_then_ret | apply Post_block_ret | apply Post_then_exit | apply Post_block_exit | (apply Post_block_other; exact rfl) | apply Post_block_normal)
  refine Post_ret Try.results11 ⟨_, _, rfl, rfl, rfl⟩ ?_
  exact ⟨rfl, (((hx08.trans hx9).trans hxa).trans hxb).trans hxc⟩
end Go.Proofs.Ytbphlenpclnobaa
