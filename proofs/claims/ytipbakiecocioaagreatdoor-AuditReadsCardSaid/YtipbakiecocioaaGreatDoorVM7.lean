/- Texts of this proof laid together: RepRead, RefRd, RefRead, AudReps. -/
import Derived.Test.YtipbakiecocioaaGreatDoorVM6
/- resp.Read: the walk. -/
namespace Go.Proofs.YtipbakiecocioaaGreatDoor
open Go.V
attribute [local irreducible] Blk Own hcell IntT SliceT PlainT AggT SizeT StrT FieldT ZeroT EqT ArrT
theorem zrF : ZeroT Tryz.prog 97 .nilFunc := ZeroT.of (by kernel_rfl)
theorem szF : SizeT Tryz.prog 97 1 := SizeT.of (by kernel_rfl)
/-- what resp.Read answers -/
def ReadR (w : World) (bs : List UInt8) (v : Value) (w' : World) : Prop :=
  Ext w w' ∧ ((∃ t j r, rdT 4 bs = some (t, j) ∧ v = .tuple #[.agg (eRep.enc r).toArray, .int .i64 (j : Int), .bool true] ∧ RepAt (veil (fun q => q < w.heap.size) w'.heap) 5 r t) ∨
  (rdT 4 bs = none ∧ v = .tuple #[.agg (eRep.enc zRep).toArray, .int .i64 0, .bool false]))
set_option maxHeartbeats 2000000 in
theorem read_spec {p : Option Addr} {c : Nat} {bs : List UInt8} {w : World} (hC : Sl w.heap eByte p c bs) (hb : bs.length ≤ 1000000000) (hU : Utf w) (hT : Pow w) (hE : Errs w) :
    Ctr Tryz.prog 15 [.slice p bs.length c] w (ReadR w bs) := by
  refine Ctr_of Tryz.func15 Tryz.ntmps15 rfl rfl rfl ?_
  repeat' (first | apply W_seq | apply W_region)
  apply G_on; exact rfl; apply G1_box; exact rfl; exact rfl; exact rfl; intro a1 w1 ha1 hA1 hx1 hs1
  replace hA1 : Blk w1.heap a1 22 [.slice p bs.length c] := hA1
  skip
  apply G_on; exact rfl; apply G1_alloc; exact T.zero31; exact rfl; exact rfl; intro a2 w2 ha2 hA2 hx2 hs2
  replace hA1 := hA1.ext hx2
  replace hA2 : Blk w2.heap a2 31 (eRep.enc zRep) := hA2
  repeat' (first | (apply G_on; exact rfl; (apply G1_assign; exact rfl; exact rfl)) | apply G_nil | apply Post_next | apply W_seq | apply W_region)
  apply G_on; exact rfl; apply G1_alloc; exact T.zero3; exact rfl; exact rfl; intro a3 w3 ha3 hA3 hx3 hs3
  replace hA1 := hA1.ext hx3
  replace hA2 := hA2.ext hx3
  skip
  apply G_on; exact rfl; apply G1_storeB; exact T.z3; exact rfl; exact rfl; exact hA3; exact rfl; exact rfl; (first | exact Nat.le_of_ble_eq_true rfl | (focus (simp [Value.cells]; done))); (first | exact Enc.one _ _ | (focus (simp [Value.oneCell']; done)) | (focus (simp [Value.cells, Value.oneCell']; done)) | exact Enc.oneAgg _ _); exact rfl; (first | exact .inl rfl | exact .inr (by simp [exempt])); exact rfl; intro w4 hA4 hg4 hs4
  replace hA4 : Blk w4.heap a3 3 [.int .i64 ((0 : Nat) : Int)] := hA4
  replace hA1 := hA1.grown hg4 (fun e => by injection e; omega)
  replace hA2 := hA2.grown hg4 (fun e => by injection e; omega)
  have hx4 : Ext w w4 := ((hx1.trans hx2).trans hx3).own hg4 (fun k hk => by injection hk; omega)
  repeat' (first | apply G_nil | apply Post_next | apply W_seq | apply W_region)
  apply G_on; exact rfl; apply G1_alloc; exact zrF; exact rfl; exact rfl; intro a5 w5 ha5 hA5 hx5 hs5
  replace hA1 := hA1.ext hx5
  replace hA2 := hA2.ext hx5
  replace hA4 := hA4.ext hx5
  repeat' (first | (apply G_on; exact rfl; (apply G1_makeFunc; exact rfl; exact rfl)) | apply G_nil | apply Post_next | apply W_seq | apply W_region)
  apply G_on; exact rfl; apply G1_storeB; exact szF; exact rfl; exact rfl; exact hA5; exact rfl; exact rfl; exact Nat.le_of_ble_eq_true rfl; (focus (simp [Value.cells, Value.oneCell'])); exact rfl; exact .inl rfl; exact rfl; intro w6 hA6 hg6 hs6
  replace hA6 : Blk w6.heap a5 97 [.func (.func 39) #[] #[.pointer (some (adr (bx a1) 0)), .pointer (some (adr (bx a3) 0)), .pointer (some (adr (bx a5) 0))]] := hA6
  replace hA1 := hA1.grown hg6 (fun e => by injection e; omega)
  replace hA2 := hA2.grown hg6 (fun e => by injection e; omega)
  replace hA4 := hA4.grown hg6 (fun e => by injection e; omega)
  have hx6 : Ext w w6 := (hx4.trans hx5).own hg6 (fun k hk => by injection hk; omega)
  have st : TakeSt w w6 a1 a3 a5 97 p c bs 0 := ⟨hx6, hA1, hA4, hA6, hC, by omega, by omega, by omega⟩
  have htk := take_spec hU hT hE 4 (Nat.zero_le _) hb st (Nat.le_refl _)
  rw [show (4 : Int) - ((4 : Nat) : Int) = 0 from rfl] at htk
  repeat' (first | (apply G_on; exact rfl; (apply G1_loadB; exact plF; exact rfl; exact hA6; exact rfl; exact rfl)) | apply G_nil | apply Post_next | apply W_seq | apply W_region)
  apply G_on; exact rfl; apply G1_callv; exact rfl; exact rfl; exact rfl; exact rfl; exact htk; rintro v w7 hv; refine ⟨(by first | exact .inl rfl | exact .inr (by assumption)), ?_⟩
  unfold TakeR at hv
  rw [List.drop_zero] at hv
  rcases hv with ⟨t, j, r, hr1, rfl, hr2, hr3, hr4⟩ | ⟨hr1, r, k9, rfl, hr3, hr4⟩
  · replace hA2 := hr4.blk hA2 (exempt1 (by omega))
    have z7 := hr4.size
    have hx7 : Ext w w7 := hr3.ext
    have hp7 := hr3.pos
    repeat' (apply G_on; exact rfl; first | (apply G1_move; exact rfl; exact rfl) | (apply G1_extract; exact rfl; exact rfl; exact rfl))
    apply G_on; exact rfl; apply G1_alloc; exact T.zero31; exact rfl; exact rfl; intro a8 w8 ha8 hA8 hx8 hs8
    skip
    apply G_on; exact rfl; apply G1_storeB; exact T.z31; exact rfl; exact rfl; exact hA8; exact rfl; exact rfl; (first | exact Nat.le_of_ble_eq_true rfl | (focus (simp [Value.cells]; done))); (first | exact Enc.one _ _ | (focus (simp [Value.oneCell']; done)) | (focus (simp [Value.cells, Value.oneCell']; done)) | exact Enc.oneAgg _ _); exact rfl; (first | exact .inl rfl | exact .inr (by simp [exempt])); exact rfl; intro w9 hA9 hg9 hs9
    replace hA9 : Blk w9.heap a8 31 (eRep.enc r) := hA9
    have hx79 : Ext w7 w9 := hx8.own hg9 (fun k hk => by injection hk; omega)
    replace hA2 := hA2.ext hx79
    replace hp7 := hp7.ext hx79
    have hxA : exempt [a2] a8 = false := exempt1 (by omega)
    have hxP : exempt [a2] a3 = false := exempt1 (by omega)
    repeat' (first | (apply G_on; exact rfl; first | ((first | apply G1_assign | apply G1_move); exact rfl; exact rfl) | (apply G1_not_t; exact rfl; exact rfl)) | apply G_nil | apply Post_next | apply W_seq | apply W_region | (apply W_cond_false; exact rfl) | apply W_skip)
    refine W_drawn 3 [a2] [0,1,2,3,4] mixed (by decide +kernel) ?_
    repeat' (apply G_on; exact rfl; first | (apply G1_loadBAggS; exact T.a31; exact rfl; exact hA9; exact rfl; exact hxA; exact rfl) | (apply G1_loadBS; exact T.p3; exact rfl; exact hp7; exact rfl; exact hxP; exact rfl))
    apply G_on; exact rfl; apply G1_storeB; exact T.z31; exact rfl; exact rfl; exact hA2; exact rfl; exact rfl; (first | exact Nat.le_of_ble_eq_true rfl | (focus (simp [Value.cells]; done))); (first | exact Enc.one _ _ | (focus (simp [Value.oneCell']; done)) | (focus (simp [Value.cells, Value.oneCell']; done)) | exact Enc.oneAgg _ _); exact rfl; (first | exact .inl rfl | exact .inr (by simp [exempt])); exact rfl; intro wf hAf hgf hsf
    replace hAf : Blk wf.heap a2 31 (eRep.enc r) := hAf
    have hxf : Ext w wf := (hx7.trans hx79).drew.own hgf (fun k hk => by injection hk; omega)
    repeat' (first | (apply G_on; exact rfl; (apply G1_assign; exact rfl; exact rfl)) | apply G_nil | apply Post_next | apply W_ret)
    refine Post_ret Tryz.results15 ⟨_, _, _, rfl, rfl, run_loadVar_box T.a31 (by assumption) rfl, _, _, rfl, rfl, _, _, rfl, rfl, rfl⟩ ?_
    refine ⟨hxf, .inl ⟨t, j, r, hr1, by rw [Nat.zero_add]; rfl, ?_⟩⟩
    have zw6 := hx6.size
    refine hr2.hide (fun b hb hbl => ⟨fun h => hb (by omega), ?_⟩)
    exact (hgf.block b (show b < w9.heap.size by have := hx79.size; omega) (fun e => by injection e; omega)).trans (hx79.block b hbl)
  · replace hA2 := hr4.blk hA2 (exempt1 (by omega))
    have z7 := hr4.size
    have hx7 : Ext w w7 := hr3.ext
    repeat' (apply G_on; exact rfl; first | (apply G1_move; exact rfl; exact rfl) | (apply G1_extract; exact rfl; exact rfl; exact rfl))
    apply G_on; exact rfl; apply G1_alloc; exact T.zero31; exact rfl; exact rfl; intro a8 w8 ha8 hA8 hx8 hs8
    skip
    apply G_on; exact rfl; apply G1_storeB; exact T.z31; exact rfl; exact rfl; exact hA8; exact rfl; exact rfl; (first | exact Nat.le_of_ble_eq_true rfl | (focus (simp [Value.cells]; done))); (first | exact Enc.one _ _ | (focus (simp [Value.oneCell']; done)) | (focus (simp [Value.cells, Value.oneCell']; done)) | exact Enc.oneAgg _ _); exact rfl; (first | exact .inl rfl | exact .inr (by simp [exempt])); exact rfl; intro w9 hA9 hg9 hs9
    have hx79 : Ext w7 w9 := hx8.own hg9 (fun k hk => by injection hk; omega)
    replace hA2 := hA2.ext hx79
    repeat' (first | (apply G_on; exact rfl; first | ((first | apply G1_assign | apply G1_move); exact rfl; exact rfl) | (apply G1_build (.agg (eRep.enc zRep).toArray); exact rfl; exact bldZ; exact rfl) | (apply G1_not_f; exact rfl; exact rfl)) | apply G_nil | apply Post_next | apply W_seq | apply W_region | (apply W_cond_true; exact rfl))
    apply G_on; exact rfl; apply G1_storeB; exact T.z31; exact rfl; exact rfl; exact hA2; exact rfl; exact rfl; (first | exact Nat.le_of_ble_eq_true rfl | (focus (simp [Value.cells]; done))); (first | exact Enc.one _ _ | (focus (simp [Value.oneCell']; done)) | (focus (simp [Value.cells, Value.oneCell']; done)) | exact Enc.oneAgg _ _); exact rfl; (first | exact .inl rfl | exact .inr (by simp [exempt])); exact rfl; intro wf hAf hgf hsf
    replace hAf : Blk wf.heap a2 31 (eRep.enc zRep) := hAf
    have hxf : Ext w wf := (hx7.trans hx79).own hgf (fun k hk => by injection hk; omega)
    repeat' (first | (apply G_on; exact rfl; (apply G1_assign; exact rfl; exact rfl)) | apply G_nil | apply Post_next | apply W_ret | apply Post_then_ret)
    refine Post_ret Tryz.results15 ⟨_, _, _, rfl, rfl, run_loadVar_box T.a31 (by assumption) rfl, _, _, rfl, rfl, _, _, rfl, rfl, rfl⟩ ?_
    exact ⟨hxf, .inr ⟨hr1, rfl⟩⟩
end Go.Proofs.YtipbakiecocioaaGreatDoor

/- Where the document looks for the end of a line, and where the program does; in plain Lean. -/
namespace Go.Proofs.YtipbakiecocioaaGreatDoor
open Go.V
attribute [local irreducible] Blk Own hcell IntT SliceT PlainT AggT SizeT StrT FieldT ZeroT EqT ArrT
/-- the place of the first 13 10, or the last place -/
def crAt : List UInt8 → Nat
  | b :: c :: l => if b = 13 ∧ c = 10 then 0 else crAt (c :: l) + 1
  | _ => 0
theorem crAt_short {cs : List UInt8} (h : cs.length ≤ 1) : crAt cs = 0 := by
  match cs, h with
  | [], _ => rfl
  | [_], _ => rfl
  | _ :: _ :: _, h => simp at h
theorem crAt_yes {cs : List UInt8} (h : cs.take 2 = [13, 10]) : crAt cs = 0 := by
  match cs, h with
  | [], h => simp at h
  | [_], h => simp at h
  | b :: c :: l, h =>
    simp only [List.take_succ_cons, List.take_zero, List.cons.injEq, and_true] at h
    unfold crAt
    rw [if_pos h]
theorem crAt_no {b c : UInt8} {l : List UInt8} (h : ¬ (b = 13 ∧ c = 10)) : crAt (b :: c :: l) = crAt (c :: l) + 1 := by
  conv => lhs; unfold crAt
  rw [if_neg h]
theorem cr_line2 : ∀ {cs : List UInt8}, (cs.drop (brAt cs)).take 2 = [13, 10] → crAt cs = brAt cs
  | [], h => by simp [brAt] at h
  | b :: l, h => by
    by_cases hb : isBr b = true
    · have e : brAt (b :: l) = 0 := if_pos hb
      rw [e] at h ⊢
      exact crAt_yes h
    · have e : brAt (b :: l) = brAt l + 1 := if_neg hb
      rw [e] at h ⊢
      rw [List.drop_succ_cons] at h
      have ih := cr_line2 h
      match l, h with
      | [], h => simp at h
      | c :: l, h =>
        rw [crAt_no (fun hh => hb (by rw [hh.1]; decide)), ih]
theorem head_nofind {cs : List UInt8} (h : cs.length ≤ crAt cs + 1 ∨ crAt cs = 0) : rdHead cs = .none := by
  by_cases hl : (cs.drop (brAt cs)).take 2 = [13, 10]
  · have h1 := cr_line2 hl
    have h2 := brAt_two hl
    exact rdHead_no (.inl (by omega))
  · exact rdHead_no (.inr hl)
/-- a line in which no end of a line stands -/
def Plain (m : UInt8) (s : List UInt8) : Prop := isBr m = false ∧ ∀ b ∈ s, isBr b = false
theorem head_find {cs : List UInt8} {m : UInt8} {s r : List UInt8} (hc : cs = (m :: s) ++ 13 :: 10 :: r) (he : crAt cs = s.length + 1) : (Plain m s → rdHead cs = rdLine m s r (s.length + 3)) ∧ (¬ Plain m s → rdHead cs = .none) := by
  constructor
  · intro hp
    have e : cs = (m :: (s ++ crlf)) ++ r := by rw [hc]; simp [crlf]
    rw [e]
    exact rdHead_at hp.1 hp.2
  · intro hn
    have hlt : ¬ s.length + 1 ≤ brAt cs := fun hle => hn (by
      have h1 := brAt_no cs _ hle
      have h2 : cs.take (s.length + 1) = m :: s := by rw [hc]; exact List.take_left' rfl
      rw [h2] at h1
      exact ⟨h1 m (by simp), fun b hb => h1 b (List.mem_cons_of_mem _ hb)⟩)
    refine rdHead_no (.inr fun hl => ?_)
    have := cr_line2 hl
    omega
theorem head_none {cs : List UInt8} {m : UInt8} {s r : List UInt8} (hc : cs = (m :: s) ++ 13 :: 10 :: r) (he : crAt cs = s.length + 1) (h : Plain m s → rdLine m s r (s.length + 3) = .none) : rdHead cs = .none := by
  by_cases hp : Plain m s
  · rw [(head_find hc he).1 hp, h hp]
  · exact (head_find hc he).2 hp
theorem plain_num {m : UInt8} {s : List UInt8} {n : Int} (hm : isBr m = false) (h : IsNum (mkStr s) n) : Plain m s := by
  refine ⟨hm, fun b hb => ?_⟩
  have e : s = Lib.itoa n := by
    have h1 := congrArg (fun x : ByteArray => x.data.toList) h.2
    simp only [itoaB_list] at h1
    rw [h1]
    unfold mkStr
    simp
  rw [e] at hb
  exact itoa_nobr n b hb
theorem plain_nobr {m : UInt8} {s : List UInt8} (hm : isBr m = false) : Plain m s ↔ nobr (mkStr s) = true := by
  have e : (mkStr s).data.toList = s := by unfold mkStr; simp
  constructor
  · intro h
    unfold nobr
    rw [e, List.all_eq_true]
    intro b hb
    have := h.2 b hb
    unfold isBr at this
    simp only [Bool.or_eq_false_iff, beq_eq_false_iff_ne] at this
    simp [this.1, this.2]
  · intro h
    exact ⟨hm, fun b hb => nobr_isBr h b (by rw [e]; exact hb)⟩
theorem num_m1 {s : List UInt8} (n : Int) (h : IsNum (mkStr s) n) : mkStr s = ⟨#[45, 49]⟩ ↔ n = -1 := by
  have e : itoaB (-1) = ⟨#[45, 49]⟩ := by decide +kernel
  constructor
  · intro h1
    exact isNum_inj h ⟨by unfold fit64; omega, by rw [h1, e]⟩
  · intro h1
    rw [← h.2, h1, e]
theorem num_m1' {s : List UInt8} (h : mkStr s = ⟨#[45, 49]⟩) : IsNum (mkStr s) (-1) := ⟨by unfold fit64; omega, by rw [h]; decide +kernel⟩
end Go.Proofs.YtipbakiecocioaaGreatDoor

/- The document's Read: the walk. -/
namespace Go.V
section
variable {P : Program} {n : Nat} {ops : Array Oper} {dr : Nat × List Nat} {l : List Oper} {E : Env} {w : World} {K : Env → World → Prop}
variable {d : Option Nat} {ty : TypeId} {pos : String} {af : Array Edge} {g : Option (Nat × Bool)} {x y : Operand} {s s' : ByteArray} {t t' : TypeId}
theorem G1_seqlF (hx : E.look x = some (.string s)) (hy : E.look y = some (.string s')) (hne : ¬ s = s') (hd : dstOk n d = true) (h : G P n ops dr l (E.put d (.bool false)) w K) : G1 P n ops dr ⟨d, .binOp .eql t x y t', ty, pos, af, g⟩ l E w K :=
  G1_seql hx hy hd (by rw [decide_eq_false hne]; exact h)
theorem G1_seqlT (hx : E.look x = some (.string s)) (hy : E.look y = some (.string s')) (he : s = s') (hd : dstOk n d = true) (h : G P n ops dr l (E.put d (.bool true)) w K) : G1 P n ops dr ⟨d, .binOp .eql t x y t', ty, pos, af, g⟩ l E w K :=
  G1_seql hx hy hd (by rw [decide_eq_true he]; exact h)
end
end Go.V
namespace Go.Proofs.YtipbakiecocioaaGreatDoor
open Go.V
attribute [local irreducible] Blk Own hcell IntT SliceT PlainT AggT SizeT StrT FieldT ZeroT EqT ArrT
/-- what the document's Read answers -/
def RefR (w : World) (d : Nat) (bs : List UInt8) (k : Nat) (v : Value) (w' : World) : Prop :=
  Ext w w' ∧ ((∃ t j r, rdT d (bs.drop k) = some (t, j) ∧ v = .tuple #[.agg (eRep.enc r).toArray, .int .i64 ((k + j : Nat) : Int)] ∧ RepAt (veil (fun q => q < w.heap.size) w'.heap) (d + 1) r t) ∨
  (rdT d (bs.drop k) = none ∧ v = .tuple #[.agg (eRep.enc zRep).toArray, .int .i64 (-1)]))






theorem right01 (s : ByteArray) : rightT 0 (.mk 0 s 0 []) = nobr s ∧ rightT 0 (.mk 1 s 0 []) = nobr s := by
  constructor <;> simp [rightT, leafOk, Rep.kind, Rep.s, Rep.n, Rep.l]



set_option maxHeartbeats 8000000 in
theorem refRead_spec : ∀ (d : Nat) {w : World} {k : Nat} {p : Option Addr} {c : Nat} {bs : List UInt8}, k ≤ bs.length → bs.length ≤ 1000000000 → d ≤ 4 → Sl w.heap eByte p c bs →
    Ctr Tryz.prog 16 [.slice p bs.length c, .int .i64 (k : Int), .int .i64 (d : Int)] w (RefR w d bs k) := by
  intro d
  induction d with
  | zero =>
    intro w k p c bs hk hbs hd4 hC
    have hok := hC.ok
    have hle := hok.le
    have n1 := hC.bound
    obtain ⟨cs, hcs⟩ : ∃ cs, bs.drop k = cs := ⟨_, rfl⟩
    have hcl : cs.length = bs.length - k := by rw [← hcs, List.length_drop]
    have hcap : bs.length ≤ maxLen := Nat.le_trans hle hok.cap
    have hget : ∀ j, cs[j]? = bs[k + j]? := fun j => by rw [← hcs, List.getElem?_drop]
    refine Ctr_of Tryz.func16 Tryz.ntmps16 rfl rfl rfl ?_
    repeat' (first | apply W_seq | apply W_region)
    apply G_on; exact rfl; apply G1_alloc; exact T.zero31; exact rfl; exact rfl; intro a6 w1 ha6 hA6 hx1 hs1
    replace hA6 : Blk w1.heap a6 31 (eRep.enc zRep) := hA6
    repeat' (first | (apply G_on; exact rfl; ((first | apply G1_assign | apply G1_move); exact rfl; exact rfl)) | apply G_nil | apply Post_next | apply W_seq | apply W_region | apply W_block)
    refine W_loop (ι := Nat) (fun q => [(0, .slice p bs.length c), (1, .int .i64 (k : Int)), (2, .int .i64 ((0 : Nat) : Int)), (6, .pointer (some (adr (bx a6) 0))), (8, .int .i64 ((k + q : Nat) : Int))])
      (fun q w' => Ext w1 w' ∧ crAt cs = q + crAt (cs.drop q) ∧ q ≤ cs.length) (fun q => cs.length - q) 0 ⟨rfl, rfl, rfl, rfl, rfl, trivial⟩ ⟨(by repeat first | assumption | exact Ext.rfl' | apply Ext.drew | apply Ext.alloc | refine Ext.trans ?_ (by assumption)), by simp, Nat.zero_le _⟩ ?_
    rintro q w2 ⟨hx2, hcr, hq⟩
    have hA2 := hA6.ext hx2
    have hx02 : Ext w w2 := hx1.trans hx2
    have hC2 := hC.ext hx02
    have hz2 := hx02.size
    have l6 := hA6.lt
    refine W_keep [(0, .slice p bs.length c), (1, .int .i64 (k : Int)), (2, .int .i64 ((0 : Nat) : Int)), (6, .pointer (some (adr (bx a6) 0))), (8, .int .i64 ((k + q : Nat) : Int))] ⟨rfl, rfl, rfl, rfl, rfl, trivial⟩ ?_
    obtain ⟨e, he⟩ : ∃ e, e = k + q := ⟨_, rfl⟩
    rw [← he]
    by_cases hf : e + 1 < bs.length
    rotate_left
    · have hno : rdHead cs = .none := head_nofind (.inl (by
        rw [crAt_short (cs := cs.drop q) (by rw [List.length_drop]; omega)] at hcr
        omega))
      repeat' (first | (apply G_on; exact rfl; first | (apply G1_move; exact rfl; exact rfl) | (apply G1_build (.agg (eRep.enc zRep).toArray); exact rfl; exact bldZ; exact rfl) | (apply G1_add; exact rfl; exact rfl; omega; omega; exact rfl) | (apply G1_len; exact T.s22; exact rfl; exact rfl) | ((first | apply G1_lss | apply G1_geq); exact rfl; exact rfl; exact rfl) | (apply G1_pick_t; exact rfl; exact rfl; exact rfl) | (apply G1_pick_f; exact rfl; exact rfl; exact rfl)) | apply G_nil | apply Post_next | apply W_seq | apply W_region | (apply W_cond_true; exact rfl) | (apply W_cond_false; exact rfl) | (apply G_off; exact rfl; exact rfl) | ((fail_if_success (apply G_on; exact rfl)); apply G_split_dec; exact rfl; exact rfl; all_goals (intro h; try (exfalso; omega))) | apply W_exit | apply Post_then_exit | apply Post_block_exit)
      apply G_on; exact rfl; apply G1_storeB; exact T.z31; exact rfl; exact rfl; exact hA2; exact rfl; exact rfl; (first | exact Nat.le_of_ble_eq_true rfl | (focus (simp [Value.cells]; done))); (first | exact Enc.one _ _ | (focus (simp [Value.oneCell']; done)) | (focus (simp [Value.cells, Value.oneCell']; done)) | exact Enc.oneAgg _ _); exact rfl; (first | exact .inl rfl | exact .inr (by simp [exempt])); exact rfl; intro wf hAf hgf hsf
      replace hAf : Blk wf.heap a6 31 (eRep.enc zRep) := hAf
      have xf : Ext w wf := (show Ext w w2 from (by repeat first | assumption | exact Ext.rfl' | apply Ext.drew | apply Ext.alloc | refine Ext.trans ?_ (by assumption))).own hgf (fun q hq => by injection hq with hq; omega)
      repeat' (first | (apply G_on; exact rfl; (apply G1_assign; exact rfl; exact rfl)) | apply G_nil | apply Post_next | apply W_ret | apply Post_then_ret)
      refine Post_ret Tryz.results16 ⟨_, _, _, rfl, rfl, run_loadVar_box T.a31 (by assumption) rfl, _, _, rfl, rfl, rfl⟩ ?_
      refine ⟨xf, .inr ⟨?_, rfl⟩⟩
      rw [hcs]
      exact rdT_none hno
    obtain ⟨x, hx⟩ := get_some (xs := bs) (k := e) (by omega)
    obtain ⟨y, hy⟩ := get_some (xs := bs) (k := e + 1) hf
    have hcx : cs[q]? = some x := by rw [hget, ← he]; exact hx
    have hcy : cs[q + 1]? = some y := by rw [hget, show k + (q + 1) = e + 1 by omega]; exact hy
    have hdq : cs.drop q = x :: y :: cs.drop (q + 2) := by rw [drop_at hcx, drop_at hcy]
    rw [hdq] at hcr
    by_cases hpr : x = 13 ∧ y = 10
    rotate_left
    · rw [crAt_no hpr] at hcr
      by_cases hx13 : x = 13
      · have hy10 : ¬ (y.toNat : Int) = 10 := u8_ne (c := 10) (fun h => hpr ⟨hx13, h⟩)
        have hxi : (x.toNat : Int) = 13 := by rw [hx13]; rfl
        repeat' (first | (apply G_on; exact rfl; first | ((first | apply G1_assign | apply G1_move); exact rfl; exact rfl) | (apply G1_indexAddrJ (q := e); exact T.s22; exact rfl; exact rfl; (first | exact rfl | omega); exact hok; omega; exact rfl) | (apply G1_loadEl1 (q := e) (e := eByte); exact T.p5; exact rfl; exact hC2; exact hx; exact rfl; exact rfl; exact rfl) | (apply G1_indexAddrJ (q := e + 1); exact T.s22; exact rfl; exact rfl; (first | exact rfl | omega); exact hok; omega; exact rfl) | (apply G1_loadEl1 (q := e + 1) (e := eByte); exact T.p5; exact rfl; exact hC2; exact hy; exact rfl; exact rfl; exact rfl) | (apply G1_add; exact rfl; exact rfl; omega; omega; exact rfl) | (apply G1_len; exact T.s22; exact rfl; exact rfl) | ((first | apply G1_lss | apply G1_neq); exact rfl; exact rfl; exact rfl) | (apply G1_pick_t; exact rfl; exact rfl; exact rfl) | (apply G1_pick_f; exact rfl; exact rfl; exact rfl)) | apply G_nil | apply Post_next | apply W_seq | apply W_region | (apply W_cond_dec; exact rfl; all_goals (intro h; try (exfalso; omega))) | ((fail_if_success (apply G_on; exact rfl)); apply G_split_dec; exact rfl; exact rfl; all_goals (intro h; try (exfalso; omega))) | apply W_skip | apply W_block | apply Post_block_normal)
        all_goals try (exfalso; omega)
        all_goals exact Post_round (q + 1) ⟨rfl, rfl, rfl, rfl, (by show some (Value.int .i64 _) = some (Value.int .i64 _); congr 2; omega), trivial⟩ ⟨(by repeat first | assumption | exact Ext.rfl' | apply Ext.drew | apply Ext.alloc | refine Ext.trans ?_ (by assumption)), by rw [drop_at hcy]; show crAt cs = q + 1 + crAt (y :: cs.drop (q + 2)); omega, by omega⟩ (by omega)
      · have hxi : ¬ (x.toNat : Int) = 13 := u8_ne (c := 13) hx13
        repeat' (first | (apply G_on; exact rfl; first | ((first | apply G1_assign | apply G1_move); exact rfl; exact rfl) | (apply G1_indexAddrJ (q := e); exact T.s22; exact rfl; exact rfl; (first | exact rfl | omega); exact hok; omega; exact rfl) | (apply G1_loadEl1 (q := e) (e := eByte); exact T.p5; exact rfl; exact hC2; exact hx; exact rfl; exact rfl; exact rfl) | (apply G1_add; exact rfl; exact rfl; omega; omega; exact rfl) | (apply G1_len; exact T.s22; exact rfl; exact rfl) | ((first | apply G1_lss | apply G1_neq); exact rfl; exact rfl; exact rfl) | (apply G1_pick_t; exact rfl; exact rfl; exact rfl)) | apply G_nil | apply Post_next | apply W_seq | apply W_region | (apply W_cond_true; exact rfl) | (apply G_off; exact rfl; exact rfl) | ((fail_if_success (apply G_on; exact rfl)); apply G_split_dec; exact rfl; exact rfl; all_goals (intro h; try (exfalso; omega))) | apply W_skip | apply W_block | apply Post_block_normal)
        all_goals try (exfalso; omega)
        all_goals exact Post_round (q + 1) ⟨rfl, rfl, rfl, rfl, (by show some (Value.int .i64 _) = some (Value.int .i64 _); congr 2; omega), trivial⟩ ⟨(by repeat first | assumption | exact Ext.rfl' | apply Ext.drew | apply Ext.alloc | refine Ext.trans ?_ (by assumption)), by rw [drop_at hcy]; show crAt cs = q + 1 + crAt (y :: cs.drop (q + 2)); omega, by omega⟩ (by omega)
    have hxi : (x.toNat : Int) = 13 := by rw [hpr.1]; rfl
    have hyi : (y.toNat : Int) = 10 := by rw [hpr.2]; rfl
    have hcr0 : crAt (x :: y :: cs.drop (q + 2)) = 0 := crAt_yes (by rw [hpr.1, hpr.2]; rfl)
    rw [hcr0, Nat.add_zero] at hcr
    by_cases hq0 : q = 0
    · have hno : rdHead cs = .none := head_nofind (.inr (by omega))
      repeat' (first | (apply G_on; exact rfl; first | (apply G1_move; exact rfl; exact rfl) | (apply G1_indexAddrJ (q := e); exact T.s22; exact rfl; exact rfl; (first | exact rfl | omega); exact hok; omega; exact rfl) | (apply G1_loadEl1 (q := e) (e := eByte); exact T.p5; exact rfl; exact hC2; exact hx; exact rfl; exact rfl; exact rfl) | (apply G1_indexAddrJ (q := e + 1); exact T.s22; exact rfl; exact rfl; (first | exact rfl | omega); exact hok; omega; exact rfl) | (apply G1_loadEl1 (q := e + 1) (e := eByte); exact T.p5; exact rfl; exact hC2; exact hy; exact rfl; exact rfl; exact rfl) | (apply G1_build (.agg (eRep.enc zRep).toArray); exact rfl; exact bldZ; exact rfl) | (apply G1_add; exact rfl; exact rfl; omega; omega; exact rfl) | (apply G1_len; exact T.s22; exact rfl; exact rfl) | ((first | apply G1_lss | apply G1_neq | apply G1_geq); exact rfl; exact rfl; exact rfl) | (apply G1_pick_t; exact rfl; exact rfl; exact rfl) | (apply G1_pick_f; exact rfl; exact rfl; exact rfl) | (apply G1_eql; exact rfl; exact rfl; exact rfl)) | apply G_nil | apply Post_next | apply W_seq | apply W_region | (apply W_cond_dec; exact rfl; all_goals (intro h; try (exfalso; omega))) | ((fail_if_success (apply G_on; exact rfl)); apply G_split_dec; exact rfl; exact rfl; all_goals (intro h; try (exfalso; omega))) | apply W_exit | apply Post_then_exit | apply Post_block_exit)
      all_goals try (exfalso; omega)
      apply G_on; exact rfl; apply G1_storeB; exact T.z31; exact rfl; exact rfl; exact hA2; exact rfl; exact rfl; (first | exact Nat.le_of_ble_eq_true rfl | (focus (simp [Value.cells]; done))); (first | exact Enc.one _ _ | (focus (simp [Value.oneCell']; done)) | (focus (simp [Value.cells, Value.oneCell']; done)) | exact Enc.oneAgg _ _); exact rfl; (first | exact .inl rfl | exact .inr (by simp [exempt])); exact rfl; intro wf hAf hgf hsf
      replace hAf : Blk wf.heap a6 31 (eRep.enc zRep) := hAf
      have xf : Ext w wf := (show Ext w w2 from (by repeat first | assumption | exact Ext.rfl' | apply Ext.drew | apply Ext.alloc | refine Ext.trans ?_ (by assumption))).own hgf (fun q hq => by injection hq with hq; omega)
      repeat' (first | (apply G_on; exact rfl; (apply G1_assign; exact rfl; exact rfl)) | apply G_nil | apply Post_next | apply W_ret | apply Post_then_ret)
      refine Post_ret Tryz.results16 ⟨_, _, _, rfl, rfl, run_loadVar_box T.a31 (by assumption) rfl, _, _, rfl, rfl, rfl⟩ ?_
      refine ⟨xf, .inr ⟨?_, rfl⟩⟩
      rw [hcs]
      exact rdT_none hno
    obtain ⟨m, s, hms⟩ : ∃ m s, cs.take q = m :: s := by
      cases e1 : cs.take q with
      | nil => have := congrArg List.length e1; rw [List.length_take, List.length_nil] at this; omega
      | cons m s => exact ⟨m, s, rfl⟩
    have hsl : s.length + 1 = q := by
      have := congrArg List.length hms
      rw [List.length_take, List.length_cons] at this
      omega
    obtain ⟨k1, hk1⟩ : ∃ k1, k1 = k + (s.length + 3) := ⟨_, rfl⟩
    have hk1e : k1 = e + 2 := by omega
    have hdk1 : bs.drop k1 = cs.drop (q + 2) := by
      have e1 : k1 = k + (q + 2) := by omega
      rw [e1, ← List.drop_drop, hcs]
    have hcd : cs = (m :: s) ++ 13 :: 10 :: bs.drop k1 := by
      rw [← hms, hdk1, ← hpr.1]
      conv => lhs; rw [← List.take_append_drop q cs, hdq]
      rw [hpr.2]
    have hce : crAt cs = s.length + 1 := by omega
    have hms2 : (mkStr (m :: s)).size = s.length + 1 := by rw [mkStr_size]; rfl
    have hss : (mkStr s).size = s.length := mkStr_size s
    have hm : bs[k]? = some m := by
      have h1 : (cs.take q)[0]? = some m := by rw [hms]; rfl
      rw [List.getElem?_take, if_pos (by omega), hget, Nat.add_zero] at h1
      exact h1
    have hS : Sl w2.heap eByte (subp p c (k + 1) 1) (c - (k + 1)) s := by
      have h1 := (hC2.drop (l := k + 1) (by omega)).take (q - 1)
      have h2 : (bs.drop (k + 1)).take (q - 1) = s := by
        have h3 := congrArg (List.drop 1) hms
        rw [List.drop_take, ← hcs, List.drop_drop, List.drop_succ_cons, List.drop_zero] at h3
        exact h3
      rw [h2] at h1
      exact h1
    have hL : (bs.drop k1).length = bs.length - k1 := by simp
    have hU4 : ∀ w', Ext w2 w' → Sl w'.heap eByte (subp p c (k + 1) 1) (c - (k + 1)) s := fun w' h => hS.ext h
    have hpar : ∃ n b, ∀ w', Ctr Tryz.prog 48 [.string (mkStr s)] w' (fun r w'' => r = .tuple #[.int .i64 n, .bool b] ∧ Ext w' w'') := by
      by_cases hn : ∃ n, IsNum (mkStr s) n
      · obtain ⟨n, hn⟩ := hn
        exact ⟨n, true, fun w' => rparse_yes hn⟩
      · exact ⟨0, false, fun w' => rparse_no (fun n h => hn ⟨n, h⟩)⟩
    have hrt : ∀ (kd : Int) (w' : World), kd = 0 ∨ kd = 1 → Ctr Tryz.prog 49 [.agg (eRep.enc (leafR kd (mkStr s) 0)).toArray, .int .i64 0] w' (fun v w'' => v = .bool (nobr (mkStr s)) ∧ Ext w' w'') := fun kd w' hkd => by
      have h0 := right_spec 0 1 (w := w') (Nat.zero_le _) (leaf_at (H := w'.heap) (d := 0) (kd := kd) (s := mkStr s) (n := 0) (by omega) fit0)
      rcases hkd with rfl | rfl
      · rw [(right01 _).1] at h0; exact h0
      · rw [(right01 _).2] at h0; exact h0
    by_cases m0 : m = 43
    · have hmm : (m.toNat : Int) = 43 := by rw [m0]; rfl
      obtain ⟨pn, pb, hpar⟩ := hpar
      repeat' (first | (apply G_on; exact rfl; first | ((first | apply G1_assign | apply G1_move); exact rfl; exact rfl) | (apply G1_indexAddrJ (q := e); exact T.s22; exact rfl; exact rfl; (first | exact rfl | omega); exact hok; omega; exact rfl) | (apply G1_loadEl1 (q := e) (e := eByte); exact T.p5; exact rfl; exact hC2; exact hx; exact rfl; exact rfl; exact rfl) | (apply G1_indexAddrJ (q := e + 1); exact T.s22; exact rfl; exact rfl; (first | exact rfl | omega); exact hok; omega; exact rfl) | (apply G1_loadEl1 (q := e + 1) (e := eByte); exact T.p5; exact rfl; exact hC2; exact hy; exact rfl; exact rfl; exact rfl) | (apply G1_sliceBothJ (q := k + 1) (r := e); exact T.s22; exact rfl; exact rfl; exact rfl; omega; exact rfl; omega; omega; exact rfl) | (apply G1_toStringL (bs := s); exact T.s22; exact T.i5; exact T.str9; exact rfl; omega; exact hS; exact rfl) | (apply G1_call (f := 48); exact rfl; exact rfl; exact rfl; exact (hpar _); rintro _ w3 ⟨rfl, hx3⟩; refine ⟨(by first | exact .inl rfl | exact .inr (by assumption)), ?_⟩; (first | replace hA2 := hA2.ext hx3 | replace hA2 := hA2.ext ((Ext.drew Ext.rfl').trans hx3))) | (apply G1_indexAddrJ (q := k); exact T.s22; exact rfl; exact rfl; (first | exact rfl | omega); exact hok; omega; exact rfl) | (apply G1_loadEl1 (q := k) (e := eByte); exact T.p5; exact rfl; exact (hC2.ext (by repeat first | assumption | exact Ext.rfl' | apply Ext.drew | apply Ext.alloc | refine Ext.trans ?_ (by assumption))); exact hm; exact rfl; exact rfl; exact rfl) | (apply G1_build (.agg (eRep.enc (leafR 0 (mkStr s) 0)).toArray); exact rfl; exact bldKS _ _; exact rfl) | (apply G1_add; exact rfl; exact rfl; omega; omega; exact rfl) | (apply G1_len; exact T.s22; exact rfl; exact rfl) | ((first | apply G1_lss | apply G1_neq | apply G1_geq | apply G1_extract); exact rfl; exact rfl; exact rfl) | (apply G1_pick_t; exact rfl; exact rfl; exact rfl) | (apply G1_pick_f; exact rfl; exact rfl; exact rfl) | (apply G1_eql; exact rfl; exact rfl; exact rfl)) | apply G_nil | apply Post_next | apply W_seq | apply W_region | (apply W_cond_dec; exact rfl; all_goals (intro h; try (exfalso; omega))) | ((fail_if_success (apply G_on; exact rfl)); apply G_split_dec; exact rfl; exact rfl; all_goals (intro h; try (exfalso; omega))) | apply W_skip | apply W_exit | apply W_block | apply Post_then_exit | apply Post_block_exit)
      have l63 := hA2.lt
      apply G_on; exact rfl; apply G1_alloc; exact T.zero31; exact rfl; exact rfl; intro a13 w4 ha13 hA13 hx4 hs4
      replace hA2 := hA2.ext hx4
      skip
      apply G_on; exact rfl; apply G1_storeB; exact T.z31; exact rfl; exact rfl; exact hA13; exact rfl; exact rfl; (first | exact Nat.le_of_ble_eq_true rfl | (focus (simp [Value.cells]; done))); (first | exact Enc.one _ _ | (focus (simp [Value.oneCell']; done)) | (focus (simp [Value.cells, Value.oneCell']; done)) | exact Enc.oneAgg _ _); exact rfl; (first | exact .inl rfl | exact .inr (by simp [exempt])); exact rfl; intro w5 hA5 hg5 hs5
      replace hA5 : Blk w5.heap a13 31 (eRep.enc (leafR 0 (mkStr s) 0)) := hA5
      have hx25 : Ext w2 w5 := (show Ext w2 w4 from (by repeat first | assumption | exact Ext.rfl' | apply Ext.drew | apply Ext.alloc | refine Ext.trans ?_ (by assumption))).own hg5 (fun q hq => by injection hq with hq; have := hx3.size; omega)
      replace hA2 := hA2.grown hg5 (fun e => by injection e; omega)
      cases hnb : nobr (mkStr s) with
      | true =>
        have hrr := fun w' => hrt 0 w' (.inl rfl)
        rw [hnb] at hrr
        repeat' (first | (apply G_on; exact rfl; first | (apply G1_move; exact rfl; exact rfl) | (apply G1_indexAddrJ (q := k); exact T.s22; exact rfl; exact rfl; (first | exact rfl | omega); exact hok; omega; exact rfl) | (apply G1_loadEl1 (q := k) (e := eByte); exact T.p5; exact rfl; exact (hC2.ext (by repeat first | assumption | exact Ext.rfl' | apply Ext.drew | apply Ext.alloc | refine Ext.trans ?_ (by assumption))); exact hm; exact rfl; exact rfl; exact rfl) | (apply G1_call (f := 49); exact rfl; exact rfl; exact rfl; exact hrr _; rintro _ w6 ⟨rfl, hx6⟩; refine ⟨(by first | exact .inl rfl | exact .inr (by assumption)), ?_⟩; (first | replace hA2 := hA2.ext hx6 | replace hA2 := hA2.ext ((Ext.drew Ext.rfl').trans hx6)); (first | replace hA5 := hA5.ext hx6 | replace hA5 := hA5.ext ((Ext.drew Ext.rfl').trans hx6))) | (apply G1_eql; exact rfl; exact rfl; exact rfl) | (apply G1_loadBAgg; exact T.a31; exact rfl; assumption; exact rfl; exact rfl) | (apply G1_not_t; exact rfl; exact rfl)) | apply G_nil | apply Post_next | apply W_seq | apply W_region | (apply W_cond_false; exact rfl) | (apply W_cond_dec; exact rfl; all_goals (intro h; try (exfalso; omega))) | apply W_skip)
        apply G_on; exact rfl; apply G1_storeB; exact T.z31; exact rfl; exact rfl; exact hA2; exact rfl; exact rfl; (first | exact Nat.le_of_ble_eq_true rfl | (focus (simp [Value.cells]; done))); (first | exact Enc.one _ _ | (focus (simp [Value.oneCell']; done)) | (focus (simp [Value.cells, Value.oneCell']; done)) | exact Enc.oneAgg _ _); exact rfl; (first | exact .inl rfl | exact .inr (by simp [exempt])); exact rfl; intro wf hAf hgf hsf
        replace hAf : Blk wf.heap a6 31 (eRep.enc (leafR 0 (mkStr s) 0)) := hAf
        have xf : Ext w wf := (show Ext w w6 from (by repeat first | assumption | exact Ext.rfl' | apply Ext.drew | apply Ext.alloc | refine Ext.trans ?_ (by assumption))).own hgf (fun q hq => by injection hq with hq; omega)
        repeat' (first | (apply G_on; exact rfl; (apply G1_assign; exact rfl; exact rfl)) | apply G_nil | apply Post_next | apply W_ret | apply Post_then_ret | apply Post_block_ret)
        refine Post_ret Tryz.results16 ⟨_, _, _, rfl, rfl, run_loadVar_box T.a31 (by assumption) rfl, _, _, rfl, rfl, rfl⟩ ?_
        refine ⟨xf, .inl ⟨.mk 0 (mkStr s) 0 [], s.length + 3, leafR 0 (mkStr s) 0, ?_, (by rw [← hk1, hk1e]; rfl), leaf_at (by omega) fit0⟩⟩
        rw [hcs]
        exact rdT_leaf (((head_find hcd hce).1 ((plain_nobr (by rw [m0]; decide)).2 hnb)).trans (by unfold rdLine; rw [if_pos m0]))
      | false =>
        have hrr := fun w' => hrt 0 w' (.inl rfl)
        rw [hnb] at hrr
        repeat' (first | (apply G_on; exact rfl; first | (apply G1_move; exact rfl; exact rfl) | (apply G1_indexAddrJ (q := k); exact T.s22; exact rfl; exact rfl; (first | exact rfl | omega); exact hok; omega; exact rfl) | (apply G1_loadEl1 (q := k) (e := eByte); exact T.p5; exact rfl; exact (hC2.ext (by repeat first | assumption | exact Ext.rfl' | apply Ext.drew | apply Ext.alloc | refine Ext.trans ?_ (by assumption))); exact hm; exact rfl; exact rfl; exact rfl) | (apply G1_call (f := 49); exact rfl; exact rfl; exact rfl; exact hrr _; rintro _ w6 ⟨rfl, hx6⟩; refine ⟨(by first | exact .inl rfl | exact .inr (by assumption)), ?_⟩; (first | replace hA2 := hA2.ext hx6 | replace hA2 := hA2.ext ((Ext.drew Ext.rfl').trans hx6)); (first | replace hA5 := hA5.ext hx6 | replace hA5 := hA5.ext ((Ext.drew Ext.rfl').trans hx6))) | (apply G1_build (.agg (eRep.enc zRep).toArray); exact rfl; exact bldZ; exact rfl) | (apply G1_eql; exact rfl; exact rfl; exact rfl) | (apply G1_loadBAgg; exact T.a31; exact rfl; assumption; exact rfl; exact rfl) | (apply G1_not_f; exact rfl; exact rfl)) | apply G_nil | apply Post_next | apply W_seq | apply W_region | (apply W_cond_true; exact rfl) | (apply W_cond_dec; exact rfl; all_goals (intro h; try (exfalso; omega))) | apply W_skip)
        apply G_on; exact rfl; apply G1_storeB; exact T.z31; exact rfl; exact rfl; exact hA2; exact rfl; exact rfl; (first | exact Nat.le_of_ble_eq_true rfl | (focus (simp [Value.cells]; done))); (first | exact Enc.one _ _ | (focus (simp [Value.oneCell']; done)) | (focus (simp [Value.cells, Value.oneCell']; done)) | exact Enc.oneAgg _ _); exact rfl; (first | exact .inl rfl | exact .inr (by simp [exempt])); exact rfl; intro wf hAf hgf hsf
        replace hAf : Blk wf.heap a6 31 (eRep.enc zRep) := hAf
        have xf : Ext w wf := (show Ext w w6 from (by repeat first | assumption | exact Ext.rfl' | apply Ext.drew | apply Ext.alloc | refine Ext.trans ?_ (by assumption))).own hgf (fun q hq => by injection hq with hq; omega)
        repeat' (first | (apply G_on; exact rfl; (apply G1_assign; exact rfl; exact rfl)) | apply G_nil | apply Post_next | apply W_ret | apply Post_then_ret | apply Post_block_ret)
        refine Post_ret Tryz.results16 ⟨_, _, _, rfl, rfl, run_loadVar_box T.a31 (by assumption) rfl, _, _, rfl, rfl, rfl⟩ ?_
        refine ⟨xf, .inr ⟨?_, rfl⟩⟩
        rw [hcs]
        exact rdT_none ((head_find hcd hce).2 (fun h => by rw [(plain_nobr (by rw [m0]; decide)).1 h] at hnb; cases hnb))
    have hm0 : ¬ (m.toNat : Int) = 43 := u8_ne m0
    by_cases m1 : m = 45
    · have hmm : (m.toNat : Int) = 45 := by rw [m1]; rfl
      obtain ⟨pn, pb, hpar⟩ := hpar
      repeat' (first | (apply G_on; exact rfl; first | ((first | apply G1_assign | apply G1_move); exact rfl; exact rfl) | (apply G1_indexAddrJ (q := e); exact T.s22; exact rfl; exact rfl; (first | exact rfl | omega); exact hok; omega; exact rfl) | (apply G1_loadEl1 (q := e) (e := eByte); exact T.p5; exact rfl; exact hC2; exact hx; exact rfl; exact rfl; exact rfl) | (apply G1_indexAddrJ (q := e + 1); exact T.s22; exact rfl; exact rfl; (first | exact rfl | omega); exact hok; omega; exact rfl) | (apply G1_loadEl1 (q := e + 1) (e := eByte); exact T.p5; exact rfl; exact hC2; exact hy; exact rfl; exact rfl; exact rfl) | (apply G1_sliceBothJ (q := k + 1) (r := e); exact T.s22; exact rfl; exact rfl; exact rfl; omega; exact rfl; omega; omega; exact rfl) | (apply G1_toStringL (bs := s); exact T.s22; exact T.i5; exact T.str9; exact rfl; omega; exact hS; exact rfl) | (apply G1_call (f := 48); exact rfl; exact rfl; exact rfl; exact (hpar _); rintro _ w3 ⟨rfl, hx3⟩; refine ⟨(by first | exact .inl rfl | exact .inr (by assumption)), ?_⟩; (first | replace hA2 := hA2.ext hx3 | replace hA2 := hA2.ext ((Ext.drew Ext.rfl').trans hx3))) | (apply G1_indexAddrJ (q := k); exact T.s22; exact rfl; exact rfl; (first | exact rfl | omega); exact hok; omega; exact rfl) | (apply G1_loadEl1 (q := k) (e := eByte); exact T.p5; exact rfl; exact (hC2.ext (by repeat first | assumption | exact Ext.rfl' | apply Ext.drew | apply Ext.alloc | refine Ext.trans ?_ (by assumption))); exact hm; exact rfl; exact rfl; exact rfl) | (apply G1_build (.agg (eRep.enc (leafR 0 (mkStr s) 0)).toArray); exact rfl; exact bldKS _ _; exact rfl) | (apply G1_add; exact rfl; exact rfl; omega; omega; exact rfl) | (apply G1_len; exact T.s22; exact rfl; exact rfl) | ((first | apply G1_lss | apply G1_neq | apply G1_geq | apply G1_extract); exact rfl; exact rfl; exact rfl) | (apply G1_pick_t; exact rfl; exact rfl; exact rfl) | (apply G1_pick_f; exact rfl; exact rfl; exact rfl) | (apply G1_eql; exact rfl; exact rfl; exact rfl)) | apply G_nil | apply Post_next | apply W_seq | apply W_region | (apply W_cond_dec; exact rfl; all_goals (intro h; try (exfalso; omega))) | ((fail_if_success (apply G_on; exact rfl)); apply G_split_dec; exact rfl; exact rfl; all_goals (intro h; try (exfalso; omega))) | apply W_skip | apply W_exit | apply W_block | apply Post_then_exit | apply Post_block_exit)
      have l63 := hA2.lt
      apply G_on; exact rfl; apply G1_alloc; exact T.zero31; exact rfl; exact rfl; intro a13 w4 ha13 hA13 hx4 hs4
      replace hA2 := hA2.ext hx4
      skip
      apply G_on; exact rfl; apply G1_storeB; exact T.z31; exact rfl; exact rfl; exact hA13; exact rfl; exact rfl; (first | exact Nat.le_of_ble_eq_true rfl | (focus (simp [Value.cells]; done))); (first | exact Enc.one _ _ | (focus (simp [Value.oneCell']; done)) | (focus (simp [Value.cells, Value.oneCell']; done)) | exact Enc.oneAgg _ _); exact rfl; (first | exact .inl rfl | exact .inr (by simp [exempt])); exact rfl; intro w5 hA5 hg5 hs5
      replace hA5 : Blk w5.heap a13 31 (eRep.enc (leafR 0 (mkStr s) 0)) := hA5
      have hx25 : Ext w2 w5 := (show Ext w2 w4 from (by repeat first | assumption | exact Ext.rfl' | apply Ext.drew | apply Ext.alloc | refine Ext.trans ?_ (by assumption))).own hg5 (fun q hq => by injection hq with hq; have := hx3.size; omega)
      replace hA2 := hA2.grown hg5 (fun e => by injection e; omega)
      repeat' (first | (apply G_on; exact rfl; first | (apply G1_move; exact rfl; exact rfl) | (apply G1_indexAddrJ (q := k); exact T.s22; exact rfl; exact rfl; (first | exact rfl | omega); exact hok; omega; exact rfl) | (apply G1_loadEl1 (q := k) (e := eByte); exact T.p5; exact rfl; exact (hC2.ext (by repeat first | assumption | exact Ext.rfl' | apply Ext.drew | apply Ext.alloc | refine Ext.trans ?_ (by assumption))); exact hm; exact rfl; exact rfl; exact rfl) | (apply G1_eql; exact rfl; exact rfl; exact rfl) | (apply G1_fieldAddr; exact T.f31_0; exact rfl; exact rfl)) | apply G_nil | apply Post_next | apply W_seq | apply W_region | (apply W_cond_dec; exact rfl; all_goals (intro h; try (exfalso; omega))))
      apply G_on; exact rfl; apply G1_storeB; exact T.z3; exact rfl; exact rfl; exact hA5; exact rfl; exact rfl; (first | exact Nat.le_of_ble_eq_true rfl | (focus (simp [Value.cells]; done))); (first | exact Enc.one _ _ | (focus (simp [Value.oneCell']; done)) | (focus (simp [Value.cells, Value.oneCell']; done)) | exact Enc.oneAgg _ _); exact rfl; (first | exact .inl rfl | exact .inr (by simp [exempt])); exact rfl; intro w7 hA7 hg7 hs7
      replace hA7 : Blk w7.heap a13 31 (eRep.enc (leafR 1 (mkStr s) 0)) := hA7
      replace hx25 : Ext w2 w7 := hx25.own hg7 (fun q hq => by injection hq with hq; have := hx3.size; omega)
      replace hA2 := hA2.grown hg7 (fun e => by injection e; omega)
      cases hnb : nobr (mkStr s) with
      | true =>
        have hrr := fun w' => hrt 1 w' (.inr rfl)
        rw [hnb] at hrr
        repeat' (first | (apply G_on; exact rfl; first | (apply G1_move; exact rfl; exact rfl) | (apply G1_call (f := 49); exact rfl; exact rfl; exact rfl; exact hrr _; rintro _ w6 ⟨rfl, hx6⟩; refine ⟨(by first | exact .inl rfl | exact .inr (by assumption)), ?_⟩; (first | replace hA2 := hA2.ext hx6 | replace hA2 := hA2.ext ((Ext.drew Ext.rfl').trans hx6)); (first | replace hA7 := hA7.ext hx6 | replace hA7 := hA7.ext ((Ext.drew Ext.rfl').trans hx6))) | (apply G1_loadBAgg; exact T.a31; exact rfl; assumption; exact rfl; exact rfl) | (apply G1_not_t; exact rfl; exact rfl)) | apply G_nil | apply Post_next | apply W_seq | apply W_region | (apply W_cond_false; exact rfl) | apply W_skip)
        apply G_on; exact rfl; apply G1_storeB; exact T.z31; exact rfl; exact rfl; exact hA2; exact rfl; exact rfl; (first | exact Nat.le_of_ble_eq_true rfl | (focus (simp [Value.cells]; done))); (first | exact Enc.one _ _ | (focus (simp [Value.oneCell']; done)) | (focus (simp [Value.cells, Value.oneCell']; done)) | exact Enc.oneAgg _ _); exact rfl; (first | exact .inl rfl | exact .inr (by simp [exempt])); exact rfl; intro wf hAf hgf hsf
        replace hAf : Blk wf.heap a6 31 (eRep.enc (leafR 1 (mkStr s) 0)) := hAf
        have xf : Ext w wf := (show Ext w w6 from (by repeat first | assumption | exact Ext.rfl' | apply Ext.drew | apply Ext.alloc | refine Ext.trans ?_ (by assumption))).own hgf (fun q hq => by injection hq with hq; omega)
        repeat' (first | (apply G_on; exact rfl; (apply G1_assign; exact rfl; exact rfl)) | apply G_nil | apply Post_next | apply W_ret | apply Post_then_ret | apply Post_block_ret)
        refine Post_ret Tryz.results16 ⟨_, _, _, rfl, rfl, run_loadVar_box T.a31 (by assumption) rfl, _, _, rfl, rfl, rfl⟩ ?_
        refine ⟨xf, .inl ⟨.mk 1 (mkStr s) 0 [], s.length + 3, leafR 1 (mkStr s) 0, ?_, (by rw [← hk1, hk1e]; rfl), leaf_at (by omega) fit0⟩⟩
        rw [hcs]
        exact rdT_leaf (((head_find hcd hce).1 ((plain_nobr (by rw [m1]; decide)).2 hnb)).trans (by unfold rdLine; rw [if_neg m0, if_pos m1]))
      | false =>
        have hrr := fun w' => hrt 1 w' (.inr rfl)
        rw [hnb] at hrr
        repeat' (first | (apply G_on; exact rfl; first | (apply G1_call (f := 49); exact rfl; exact rfl; exact rfl; exact hrr _; rintro _ w6 ⟨rfl, hx6⟩; refine ⟨(by first | exact .inl rfl | exact .inr (by assumption)), ?_⟩; (first | replace hA2 := hA2.ext hx6 | replace hA2 := hA2.ext ((Ext.drew Ext.rfl').trans hx6)); (first | replace hA7 := hA7.ext hx6 | replace hA7 := hA7.ext ((Ext.drew Ext.rfl').trans hx6))) | (apply G1_build (.agg (eRep.enc zRep).toArray); exact rfl; exact bldZ; exact rfl) | (apply G1_loadBAgg; exact T.a31; exact rfl; assumption; exact rfl; exact rfl) | (apply G1_not_f; exact rfl; exact rfl)) | apply G_nil | apply Post_next | apply W_seq | apply W_region | (apply W_cond_true; exact rfl))
        apply G_on; exact rfl; apply G1_storeB; exact T.z31; exact rfl; exact rfl; exact hA2; exact rfl; exact rfl; (first | exact Nat.le_of_ble_eq_true rfl | (focus (simp [Value.cells]; done))); (first | exact Enc.one _ _ | (focus (simp [Value.oneCell']; done)) | (focus (simp [Value.cells, Value.oneCell']; done)) | exact Enc.oneAgg _ _); exact rfl; (first | exact .inl rfl | exact .inr (by simp [exempt])); exact rfl; intro wf hAf hgf hsf
        replace hAf : Blk wf.heap a6 31 (eRep.enc zRep) := hAf
        have xf : Ext w wf := (show Ext w w6 from (by repeat first | assumption | exact Ext.rfl' | apply Ext.drew | apply Ext.alloc | refine Ext.trans ?_ (by assumption))).own hgf (fun q hq => by injection hq with hq; omega)
        repeat' (first | (apply G_on; exact rfl; (apply G1_assign; exact rfl; exact rfl)) | apply G_nil | apply Post_next | apply W_ret | apply Post_then_ret | apply Post_block_ret)
        refine Post_ret Tryz.results16 ⟨_, _, _, rfl, rfl, run_loadVar_box T.a31 (by assumption) rfl, _, _, rfl, rfl, rfl⟩ ?_
        refine ⟨xf, .inr ⟨?_, rfl⟩⟩
        rw [hcs]
        exact rdT_none ((head_find hcd hce).2 (fun h => by rw [(plain_nobr (by rw [m1]; decide)).1 h] at hnb; cases hnb))
    have hm1 : ¬ (m.toNat : Int) = 45 := u8_ne m1
    clear hpar hrt
    by_cases hnn : ∃ n, IsNum (mkStr s) n
    rotate_left
    · have hnn' : ∀ n, ¬ IsNum (mkStr s) n := fun n hn => hnn ⟨n, hn⟩
      have hno : rdHead cs = .none := head_none hcd hce (fun _ => by unfold rdLine; rw [if_neg m0, if_neg m1, numOf_none hnn'])
      have hnm : ¬ mkStr s = ⟨#[45, 49]⟩ := fun h => hnn' _ (num_m1' h)
      repeat' (first | (apply G_on; exact rfl; first | ((first | apply G1_assign | apply G1_move); exact rfl; exact rfl) | (apply G1_indexAddrJ (q := e); exact T.s22; exact rfl; exact rfl; (first | exact rfl | omega); exact hok; omega; exact rfl) | (apply G1_loadEl1 (q := e) (e := eByte); exact T.p5; exact rfl; exact hC2; exact hx; exact rfl; exact rfl; exact rfl) | (apply G1_indexAddrJ (q := e + 1); exact T.s22; exact rfl; exact rfl; (first | exact rfl | omega); exact hok; omega; exact rfl) | (apply G1_loadEl1 (q := e + 1) (e := eByte); exact T.p5; exact rfl; exact hC2; exact hy; exact rfl; exact rfl; exact rfl) | (apply G1_sliceBothJ (q := k + 1) (r := e); exact T.s22; exact rfl; exact rfl; exact rfl; omega; exact rfl; omega; omega; exact rfl) | (apply G1_toStringL (bs := s); exact T.s22; exact T.i5; exact T.str9; exact rfl; omega; exact hS; exact rfl) | (apply G1_call (f := 48); exact rfl; exact rfl; exact rfl; exact (rparse_no hnn'); rintro _ w3 ⟨rfl, hx3⟩; refine ⟨(by first | exact .inl rfl | exact .inr (by assumption)), ?_⟩; (first | replace hA2 := hA2.ext hx3 | replace hA2 := hA2.ext ((Ext.drew Ext.rfl').trans hx3))) | (apply G1_indexAddrJ (q := k); exact T.s22; exact rfl; exact rfl; (first | exact rfl | omega); exact hok; omega; exact rfl) | (apply G1_loadEl1 (q := k) (e := eByte); exact T.p5; exact rfl; exact (hC2.ext (by repeat first | assumption | exact Ext.rfl' | apply Ext.drew | apply Ext.alloc | refine Ext.trans ?_ (by assumption))); exact hm; exact rfl; exact rfl; exact rfl) | (apply G1_build (.agg (eRep.enc zRep).toArray); exact rfl; exact bldZ; exact rfl) | (apply G1_seqlF; exact rfl; exact rfl; exact hnm; exact rfl) | (apply G1_add; exact rfl; exact rfl; omega; omega; exact rfl) | (apply G1_len; exact T.s22; exact rfl; exact rfl) | ((first | apply G1_lss | apply G1_neq | apply G1_geq | apply G1_extract); exact rfl; exact rfl; exact rfl) | (apply G1_pick_t; exact rfl; exact rfl; exact rfl) | (apply G1_pick_f; exact rfl; exact rfl; exact rfl) | (apply G1_eql; exact rfl; exact rfl; exact rfl) | (apply G1_not_f; exact rfl; exact rfl)) | apply G_nil | apply Post_next | apply W_seq | apply W_region | (apply W_cond_true; exact rfl) | (apply W_cond_false; exact rfl) | (apply W_cond_dec; exact rfl; all_goals (intro h; try (exfalso; omega))) | (apply G_off; exact rfl; exact rfl) | ((fail_if_success (apply G_on; exact rfl)); apply G_split_dec; exact rfl; exact rfl; all_goals (intro h; try (exfalso; omega))) | apply W_skip | apply W_exit | apply W_block | apply Post_then_exit | apply Post_block_exit | apply Post_block_normal)
      all_goals
        apply G_on; exact rfl; apply G1_storeB; exact T.z31; exact rfl; exact rfl; exact hA2; exact rfl; exact rfl; (first | exact Nat.le_of_ble_eq_true rfl | (focus (simp [Value.cells]; done))); (first | exact Enc.one _ _ | (focus (simp [Value.oneCell']; done)) | (focus (simp [Value.cells, Value.oneCell']; done)) | exact Enc.oneAgg _ _); exact rfl; (first | exact .inl rfl | exact .inr (by simp [exempt])); exact rfl; intro wf hAf hgf hsf
        replace hAf : Blk wf.heap a6 31 (eRep.enc zRep) := hAf
        have xf : Ext w wf := (show Ext w w3 from (by repeat first | assumption | exact Ext.rfl' | apply Ext.drew | apply Ext.alloc | refine Ext.trans ?_ (by assumption))).own hgf (fun q hq => by injection hq with hq; omega)
        repeat' (first | (apply G_on; exact rfl; (apply G1_assign; exact rfl; exact rfl)) | apply G_nil | apply Post_next | apply W_ret | apply Post_then_ret | apply Post_block_ret)
        refine Post_ret Tryz.results16 ⟨_, _, _, rfl, rfl, run_loadVar_box T.a31 (by assumption) rfl, _, _, rfl, rfl, rfl⟩ ?_
        refine ⟨xf, .inr ⟨?_, rfl⟩⟩
        rw [hcs]
        exact rdT_none hno
    obtain ⟨n, hIs⟩ := hnn
    have hfn := hIs.1
    unfold fit64 at hfn
    have hnum := numOf_some hIs
    have hm1n := num_m1 n hIs
    by_cases m2 : m = 58
    · have hmm : (m.toNat : Int) = 58 := by rw [m2]; rfl
      have hpl : Plain m s := plain_num (by rw [m2]; decide) hIs
      repeat' (first | (apply G_on; exact rfl; first | ((first | apply G1_assign | apply G1_move); exact rfl; exact rfl) | (apply G1_indexAddrJ (q := e); exact T.s22; exact rfl; exact rfl; (first | exact rfl | omega); exact hok; omega; exact rfl) | (apply G1_loadEl1 (q := e) (e := eByte); exact T.p5; exact rfl; exact hC2; exact hx; exact rfl; exact rfl; exact rfl) | (apply G1_indexAddrJ (q := e + 1); exact T.s22; exact rfl; exact rfl; (first | exact rfl | omega); exact hok; omega; exact rfl) | (apply G1_loadEl1 (q := e + 1) (e := eByte); exact T.p5; exact rfl; exact hC2; exact hy; exact rfl; exact rfl; exact rfl) | (apply G1_sliceBothJ (q := k + 1) (r := e); exact T.s22; exact rfl; exact rfl; exact rfl; omega; exact rfl; omega; omega; exact rfl) | (apply G1_toStringL (bs := s); exact T.s22; exact T.i5; exact T.str9; exact rfl; omega; exact hS; exact rfl) | (apply G1_call (f := 48); exact rfl; exact rfl; exact rfl; exact (rparse_yes hIs); rintro _ w3 ⟨rfl, hx3⟩; refine ⟨(by first | exact .inl rfl | exact .inr (by assumption)), ?_⟩; (first | replace hA2 := hA2.ext hx3 | replace hA2 := hA2.ext ((Ext.drew Ext.rfl').trans hx3))) | (apply G1_indexAddrJ (q := k); exact T.s22; exact rfl; exact rfl; (first | exact rfl | omega); exact hok; omega; exact rfl) | (apply G1_loadEl1 (q := k) (e := eByte); exact T.p5; exact rfl; exact (hC2.ext (by repeat first | assumption | exact Ext.rfl' | apply Ext.drew | apply Ext.alloc | refine Ext.trans ?_ (by assumption))); exact hm; exact rfl; exact rfl; exact rfl) | (apply G1_build (.agg (eRep.enc (leafR 2 ⟨#[]⟩ n)).toArray); exact rfl; exact bldKN _ _; exact rfl) | (apply G1_add; exact rfl; exact rfl; omega; omega; exact rfl) | (apply G1_len; exact T.s22; exact rfl; exact rfl) | ((first | apply G1_lss | apply G1_neq | apply G1_geq | apply G1_extract); exact rfl; exact rfl; exact rfl) | (apply G1_pick_t; exact rfl; exact rfl; exact rfl) | (apply G1_pick_f; exact rfl; exact rfl; exact rfl) | (apply G1_eql; exact rfl; exact rfl; exact rfl)) | apply G_nil | apply Post_next | apply W_seq | apply W_region | (apply W_cond_true; exact rfl) | (apply W_cond_dec; exact rfl; all_goals (intro h; try (exfalso; omega))) | ((fail_if_success (apply G_on; exact rfl)); apply G_split_dec; exact rfl; exact rfl; all_goals (intro h; try (exfalso; omega))) | apply W_skip | apply W_exit | apply W_block | apply Post_then_exit | apply Post_block_exit)
      apply G_on; exact rfl; apply G1_storeB; exact T.z31; exact rfl; exact rfl; exact hA2; exact rfl; exact rfl; (first | exact Nat.le_of_ble_eq_true rfl | (focus (simp [Value.cells]; done))); (first | exact Enc.one _ _ | (focus (simp [Value.oneCell']; done)) | (focus (simp [Value.cells, Value.oneCell']; done)) | exact Enc.oneAgg _ _); exact rfl; (first | exact .inl rfl | exact .inr (by simp [exempt])); exact rfl; intro wf hAf hgf hsf
      replace hAf : Blk wf.heap a6 31 (eRep.enc (leafR 2 ⟨#[]⟩ n)) := hAf
      have xf : Ext w wf := (show Ext w w3 from (by repeat first | assumption | exact Ext.rfl' | apply Ext.drew | apply Ext.alloc | refine Ext.trans ?_ (by assumption))).own hgf (fun q hq => by injection hq with hq; omega)
      repeat' (first | (apply G_on; exact rfl; (apply G1_assign; exact rfl; exact rfl)) | apply G_nil | apply Post_next | apply W_ret | apply Post_then_ret | apply Post_block_ret)
      refine Post_ret Tryz.results16 ⟨_, _, _, rfl, rfl, run_loadVar_box T.a31 (by assumption) rfl, _, _, rfl, rfl, rfl⟩ ?_
      refine ⟨xf, .inl ⟨.mk 2 ⟨#[]⟩ n [], s.length + 3, leafR 2 ⟨#[]⟩ n, ?_, (by rw [← hk1, hk1e]; rfl), leaf_at nil_size hfn⟩⟩
      rw [hcs]
      exact rdT_leaf (((head_find hcd hce).1 hpl).trans (by unfold rdLine; rw [if_neg m0, if_neg m1, hnum]; simp only; rw [if_pos m2]))
    have hm2 : ¬ (m.toNat : Int) = 58 := u8_ne m2
    by_cases m3 : m = 36
    · have hmm : (m.toNat : Int) = 36 := by rw [m3]; rfl
      have hpl : Plain m s := plain_num (by rw [m3]; decide) hIs
      have hrd := (head_find hcd hce).1 hpl
      by_cases hn1 : n = -1
      · have hm1y := hm1n.2 hn1
        repeat' (first | (apply G_on; exact rfl; first | ((first | apply G1_assign | apply G1_move); exact rfl; exact rfl) | (apply G1_indexAddrJ (q := e); exact T.s22; exact rfl; exact rfl; (first | exact rfl | omega); exact hok; omega; exact rfl) | (apply G1_loadEl1 (q := e) (e := eByte); exact T.p5; exact rfl; exact hC2; exact hx; exact rfl; exact rfl; exact rfl) | (apply G1_indexAddrJ (q := e + 1); exact T.s22; exact rfl; exact rfl; (first | exact rfl | omega); exact hok; omega; exact rfl) | (apply G1_loadEl1 (q := e + 1) (e := eByte); exact T.p5; exact rfl; exact hC2; exact hy; exact rfl; exact rfl; exact rfl) | (apply G1_sliceBothJ (q := k + 1) (r := e); exact T.s22; exact rfl; exact rfl; exact rfl; omega; exact rfl; omega; omega; exact rfl) | (apply G1_toStringL (bs := s); exact T.s22; exact T.i5; exact T.str9; exact rfl; omega; exact hS; exact rfl) | (apply G1_call (f := 48); exact rfl; exact rfl; exact rfl; exact (rparse_yes hIs); rintro _ w3 ⟨rfl, hx3⟩; refine ⟨(by first | exact .inl rfl | exact .inr (by assumption)), ?_⟩; (first | replace hA2 := hA2.ext hx3 | replace hA2 := hA2.ext ((Ext.drew Ext.rfl').trans hx3))) | (apply G1_indexAddrJ (q := k); exact T.s22; exact rfl; exact rfl; (first | exact rfl | omega); exact hok; omega; exact rfl) | (apply G1_loadEl1 (q := k) (e := eByte); exact T.p5; exact rfl; exact (hC2.ext (by repeat first | assumption | exact Ext.rfl' | apply Ext.drew | apply Ext.alloc | refine Ext.trans ?_ (by assumption))); exact hm; exact rfl; exact rfl; exact rfl) | (apply G1_build (.agg (eRep.enc (leafR 4 ⟨#[]⟩ 0)).toArray); exact rfl; exact bldK _; exact rfl) | (apply G1_seqlT; exact rfl; exact rfl; exact hm1y; exact rfl) | (apply G1_add; exact rfl; exact rfl; omega; omega; exact rfl) | (apply G1_len; exact T.s22; exact rfl; exact rfl) | ((first | apply G1_lss | apply G1_neq | apply G1_geq | apply G1_extract); exact rfl; exact rfl; exact rfl) | (apply G1_pick_t; exact rfl; exact rfl; exact rfl) | (apply G1_pick_f; exact rfl; exact rfl; exact rfl) | (apply G1_eql; exact rfl; exact rfl; exact rfl)) | apply G_nil | apply Post_next | apply W_seq | apply W_region | (apply W_cond_true; exact rfl) | (apply W_cond_dec; exact rfl; all_goals (intro h; try (exfalso; omega))) | ((fail_if_success (apply G_on; exact rfl)); apply G_split_dec; exact rfl; exact rfl; all_goals (intro h; try (exfalso; omega))) | apply W_skip | apply W_exit | apply W_block | apply Post_then_exit | apply Post_block_exit)
        apply G_on; exact rfl; apply G1_storeB; exact T.z31; exact rfl; exact rfl; exact hA2; exact rfl; exact rfl; (first | exact Nat.le_of_ble_eq_true rfl | (focus (simp [Value.cells]; done))); (first | exact Enc.one _ _ | (focus (simp [Value.oneCell']; done)) | (focus (simp [Value.cells, Value.oneCell']; done)) | exact Enc.oneAgg _ _); exact rfl; (first | exact .inl rfl | exact .inr (by simp [exempt])); exact rfl; intro wf hAf hgf hsf
        replace hAf : Blk wf.heap a6 31 (eRep.enc (leafR 4 ⟨#[]⟩ 0)) := hAf
        have xf : Ext w wf := (show Ext w w3 from (by repeat first | assumption | exact Ext.rfl' | apply Ext.drew | apply Ext.alloc | refine Ext.trans ?_ (by assumption))).own hgf (fun q hq => by injection hq with hq; omega)
        repeat' (first | (apply G_on; exact rfl; (apply G1_assign; exact rfl; exact rfl)) | apply G_nil | apply Post_next | apply W_ret | apply Post_then_ret | apply Post_block_ret)
        refine Post_ret Tryz.results16 ⟨_, _, _, rfl, rfl, run_loadVar_box T.a31 (by assumption) rfl, _, _, rfl, rfl, rfl⟩ ?_
        refine ⟨xf, .inl ⟨.mk 4 ⟨#[]⟩ 0 [], s.length + 3, leafR 4 ⟨#[]⟩ 0, ?_, (by rw [← hk1, hk1e]; rfl), leaf_at nil_size fit0⟩⟩
        rw [hcs]
        exact rdT_leaf (hrd.trans (by unfold rdLine; rw [if_neg m0, if_neg m1, hnum]; simp only; rw [if_neg m2, if_pos m3, if_pos hn1]))
      · have hm1x : ¬ mkStr s = ⟨#[45, 49]⟩ := fun h => hn1 (hm1n.1 h)
        have hbad : ¬ (0 ≤ n ∧ n ≤ ((bs.drop k1).length : Int) ∧ ((bs.drop k1).drop n.toNat).take 2 = [13, 10]) → rdHead cs = .none := fun h => hrd.trans (by unfold rdLine; rw [if_neg m0, if_neg m1, hnum]; simp only; rw [if_neg m2, if_pos m3, if_neg hn1, if_neg h])
        by_cases hin : 0 ≤ n ∧ n ≤ (bs.length : Int) ∧ (k1 : Int) + n + 2 ≤ bs.length
        rotate_left
        · have hno : rdHead cs = .none := hbad (fun h => hin (by
            have h1 := congrArg List.length h.2.2
            simp only [List.length_take, List.length_drop, List.length_cons, List.length_nil] at h1
            omega))
          repeat' (first | (apply G_on; exact rfl; first | ((first | apply G1_assign | apply G1_move); exact rfl; exact rfl) | (apply G1_indexAddrJ (q := e); exact T.s22; exact rfl; exact rfl; (first | exact rfl | omega); exact hok; omega; exact rfl) | (apply G1_loadEl1 (q := e) (e := eByte); exact T.p5; exact rfl; exact hC2; exact hx; exact rfl; exact rfl; exact rfl) | (apply G1_indexAddrJ (q := e + 1); exact T.s22; exact rfl; exact rfl; (first | exact rfl | omega); exact hok; omega; exact rfl) | (apply G1_loadEl1 (q := e + 1) (e := eByte); exact T.p5; exact rfl; exact hC2; exact hy; exact rfl; exact rfl; exact rfl) | (apply G1_sliceBothJ (q := k + 1) (r := e); exact T.s22; exact rfl; exact rfl; exact rfl; omega; exact rfl; omega; omega; exact rfl) | (apply G1_toStringL (bs := s); exact T.s22; exact T.i5; exact T.str9; exact rfl; omega; exact hS; exact rfl) | (apply G1_call (f := 48); exact rfl; exact rfl; exact rfl; exact (rparse_yes hIs); rintro _ w3 ⟨rfl, hx3⟩; refine ⟨(by first | exact .inl rfl | exact .inr (by assumption)), ?_⟩; (first | replace hA2 := hA2.ext hx3 | replace hA2 := hA2.ext ((Ext.drew Ext.rfl').trans hx3))) | (apply G1_indexAddrJ (q := k); exact T.s22; exact rfl; exact rfl; (first | exact rfl | omega); exact hok; omega; exact rfl) | (apply G1_loadEl1 (q := k) (e := eByte); exact T.p5; exact rfl; exact (hC2.ext (by repeat first | assumption | exact Ext.rfl' | apply Ext.drew | apply Ext.alloc | refine Ext.trans ?_ (by assumption))); exact hm; exact rfl; exact rfl; exact rfl) | (apply G1_build (.agg (eRep.enc zRep).toArray); exact rfl; exact bldZ; exact rfl) | (apply G1_seqlF; exact rfl; exact rfl; exact hm1x; exact rfl) | (apply G1_add; exact rfl; exact rfl; omega; omega; exact rfl) | (apply G1_len; exact T.s22; exact rfl; exact rfl) | ((first | apply G1_lss | apply G1_neq | apply G1_geq | apply G1_extract | apply G1_gtr); exact rfl; exact rfl; exact rfl) | (apply G1_pick_t; exact rfl; exact rfl; exact rfl) | (apply G1_pick_f; exact rfl; exact rfl; exact rfl) | (apply G1_eql; exact rfl; exact rfl; exact rfl) | (apply G1_not_t; exact rfl; exact rfl)) | apply G_nil | apply Post_next | apply W_seq | apply W_region | (apply W_cond_true; exact rfl) | (apply W_cond_false; exact rfl) | (apply W_cond_dec; exact rfl; all_goals (intro h; try (exfalso; omega))) | (apply G_off; exact rfl; exact rfl) | ((fail_if_success (apply G_on; exact rfl)); apply G_split_dec; exact rfl; exact rfl; all_goals (intro h; try (exfalso; omega))) | apply W_skip | apply W_exit | apply W_block | apply Post_then_exit | apply Post_block_exit)
          all_goals try (exfalso; omega)
          all_goals
            apply G_on; exact rfl; apply G1_storeB; exact T.z31; exact rfl; exact rfl; exact hA2; exact rfl; exact rfl; (first | exact Nat.le_of_ble_eq_true rfl | (focus (simp [Value.cells]; done))); (first | exact Enc.one _ _ | (focus (simp [Value.oneCell']; done)) | (focus (simp [Value.cells, Value.oneCell']; done)) | exact Enc.oneAgg _ _); exact rfl; (first | exact .inl rfl | exact .inr (by simp [exempt])); exact rfl; intro wf hAf hgf hsf
            replace hAf : Blk wf.heap a6 31 (eRep.enc zRep) := hAf
            have xf : Ext w wf := (show Ext w w3 from (by repeat first | assumption | exact Ext.rfl' | apply Ext.drew | apply Ext.alloc | refine Ext.trans ?_ (by assumption))).own hgf (fun q hq => by injection hq with hq; omega)
            repeat' (first | (apply G_on; exact rfl; (apply G1_assign; exact rfl; exact rfl)) | apply G_nil | apply Post_next | apply W_ret | apply Post_then_ret | apply Post_block_ret)
            refine Post_ret Tryz.results16 ⟨_, _, _, rfl, rfl, run_loadVar_box T.a31 (by assumption) rfl, _, _, rfl, rfl, rfl⟩ ?_
            refine ⟨xf, .inr ⟨?_, rfl⟩⟩
            rw [hcs]
            exact rdT_none hno
        obtain ⟨u, hu⟩ : ∃ u : Nat, n = (u : Int) := ⟨n.toNat, by omega⟩
        subst hu
        obtain ⟨x2, hx2'⟩ := get_some (xs := bs) (k := k1 + u) (by omega)
        obtain ⟨y2, hy2'⟩ := get_some (xs := bs) (k := k1 + u + 1) (by omega)
        have hdu : ((bs.drop k1).drop ((u : Int)).toNat).take 2 = [x2, y2] := by
          rw [Int.toNat_natCast, List.drop_drop, drop_at hx2', drop_at hy2']; rfl
        by_cases hp2 : x2 = 13 ∧ y2 = 10
        · have hx2i : (x2.toNat : Int) = 13 := by rw [hp2.1]; rfl
          have hy2i : (y2.toNat : Int) = 10 := by rw [hp2.2]; rfl
          have hok2 : 0 ≤ (u : Int) ∧ (u : Int) ≤ ((bs.drop k1).length : Int) ∧ ((bs.drop k1).drop ((u : Int)).toNat).take 2 = [13, 10] := ⟨by omega, by omega, by rw [hdu, hp2.1, hp2.2]⟩
          have hS2 : Sl w2.heap eByte (subp p c k1 1) (c - k1) ((bs.drop k1).take u) := (hC2.drop (l := k1) (by omega)).take u
          have hsz : (mkStr ((bs.drop k1).take u)).size = u := by rw [mkStr_size, List.length_take]; omega
          repeat' (first | (apply G_on; exact rfl; first | ((first | apply G1_assign | apply G1_move); exact rfl; exact rfl) | (apply G1_indexAddrJ (q := e); exact T.s22; exact rfl; exact rfl; (first | exact rfl | omega); exact hok; omega; exact rfl) | (apply G1_loadEl1 (q := e) (e := eByte); exact T.p5; exact rfl; exact hC2; exact hx; exact rfl; exact rfl; exact rfl) | (apply G1_indexAddrJ (q := e + 1); exact T.s22; exact rfl; exact rfl; (first | exact rfl | omega); exact hok; omega; exact rfl) | (apply G1_loadEl1 (q := e + 1) (e := eByte); exact T.p5; exact rfl; exact hC2; exact hy; exact rfl; exact rfl; exact rfl) | (apply G1_sliceBothJ (q := k + 1) (r := e); exact T.s22; exact rfl; exact rfl; exact rfl; omega; exact rfl; omega; omega; exact rfl) | (apply G1_toStringL (bs := s); exact T.s22; exact T.i5; exact T.str9; exact rfl; omega; exact hS; exact rfl) | (apply G1_call (f := 48); exact rfl; exact rfl; exact rfl; exact (rparse_yes hIs); rintro _ w3 ⟨rfl, hx3⟩; refine ⟨(by first | exact .inl rfl | exact .inr (by assumption)), ?_⟩; (first | replace hA2 := hA2.ext hx3 | replace hA2 := hA2.ext ((Ext.drew Ext.rfl').trans hx3))) | (apply G1_indexAddrJ (q := k); exact T.s22; exact rfl; exact rfl; (first | exact rfl | omega); exact hok; omega; exact rfl) | (apply G1_loadEl1 (q := k) (e := eByte); exact T.p5; exact rfl; exact (hC2.ext (by repeat first | assumption | exact Ext.rfl' | apply Ext.drew | apply Ext.alloc | refine Ext.trans ?_ (by assumption))); exact hm; exact rfl; exact rfl; exact rfl) | (apply G1_indexAddrJ (q := k1 + u); exact T.s22; exact rfl; exact rfl; (first | exact rfl | omega); exact hok; omega; exact rfl) | (apply G1_loadEl1 (q := k1 + u) (e := eByte); exact T.p5; exact rfl; exact (hC2.ext (by repeat first | assumption | exact Ext.rfl' | apply Ext.drew | apply Ext.alloc | refine Ext.trans ?_ (by assumption))); exact hx2'; exact rfl; exact rfl; exact rfl) | (apply G1_indexAddrJ (q := k1 + u + 1); exact T.s22; exact rfl; exact rfl; (first | exact rfl | omega); exact hok; omega; exact rfl) | (apply G1_loadEl1 (q := k1 + u + 1) (e := eByte); exact T.p5; exact rfl; exact (hC2.ext (by repeat first | assumption | exact Ext.rfl' | apply Ext.drew | apply Ext.alloc | refine Ext.trans ?_ (by assumption))); exact hy2'; exact rfl; exact rfl; exact rfl) | (apply G1_sliceBothJ (q := k1) (r := k1 + u); exact T.s22; exact rfl; exact rfl; exact rfl; omega; omega; omega; omega; exact rfl) | (apply G1_toStringL (bs := (bs.drop k1).take u); exact T.s22; exact T.i5; exact T.str9; exact rfl; (rw [List.length_take]; omega); exact hS2.ext (by repeat first | assumption | exact Ext.rfl' | apply Ext.drew | apply Ext.alloc | refine Ext.trans ?_ (by assumption)); exact rfl) | (apply G1_build (.agg (eRep.enc (leafR 3 (mkStr ((bs.drop k1).take u)) 0)).toArray); exact rfl; exact bldKS _ _; exact rfl) | (apply G1_seqlF; exact rfl; exact rfl; exact hm1x; exact rfl) | (apply G1_add; exact rfl; exact rfl; omega; omega; exact rfl) | (apply G1_len; exact T.s22; exact rfl; exact rfl) | ((first | apply G1_lss | apply G1_neq | apply G1_geq | apply G1_extract | apply G1_gtr); exact rfl; exact rfl; exact rfl) | (apply G1_pick_t; exact rfl; exact rfl; exact rfl) | (apply G1_pick_f; exact rfl; exact rfl; exact rfl) | (apply G1_eql; exact rfl; exact rfl; exact rfl) | (apply G1_not_t; exact rfl; exact rfl)) | apply G_nil | apply Post_next | apply W_seq | apply W_region | (apply W_cond_false; exact rfl) | (apply W_cond_dec; exact rfl; all_goals (intro h; try (exfalso; omega))) | ((fail_if_success (apply G_on; exact rfl)); apply G_split_dec; exact rfl; exact rfl; all_goals (intro h; try (exfalso; omega))) | apply W_skip | apply W_exit | apply W_block | apply Post_then_exit | apply Post_block_exit)
          all_goals try (exfalso; omega)
          apply G_on; exact rfl; apply G1_storeB; exact T.z31; exact rfl; exact rfl; exact hA2; exact rfl; exact rfl; (first | exact Nat.le_of_ble_eq_true rfl | (focus (simp [Value.cells]; done))); (first | exact Enc.one _ _ | (focus (simp [Value.oneCell']; done)) | (focus (simp [Value.cells, Value.oneCell']; done)) | exact Enc.oneAgg _ _); exact rfl; (first | exact .inl rfl | exact .inr (by simp [exempt])); exact rfl; intro wf hAf hgf hsf
          replace hAf : Blk wf.heap a6 31 (eRep.enc (leafR 3 (mkStr ((bs.drop k1).take u)) 0)) := hAf
          have xf : Ext w wf := (show Ext w w3 from (by repeat first | assumption | exact Ext.rfl' | apply Ext.drew | apply Ext.alloc | refine Ext.trans ?_ (by assumption))).own hgf (fun q hq => by injection hq with hq; omega)
          repeat' (first | (apply G_on; exact rfl; (apply G1_assign; exact rfl; exact rfl)) | apply G_nil | apply Post_next | apply W_ret | apply Post_then_ret | apply Post_block_ret)
          refine Post_ret Tryz.results16 ⟨_, _, _, rfl, rfl, run_loadVar_box T.a31 (by assumption) rfl, _, _, rfl, rfl, rfl⟩ ?_
          refine ⟨xf, .inl ⟨.mk 3 (mkStr ((bs.drop k1).take u)) 0 [], s.length + 3 + u + 2, leafR 3 (mkStr ((bs.drop k1).take u)) 0, ?_, ?_, leaf_at (by omega) fit0⟩⟩
          · rw [hcs]
            exact rdT_leaf (hrd.trans (by unfold rdLine; rw [if_neg m0, if_neg m1, hnum]; simp only; rw [if_neg m2, if_pos m3, if_neg hn1, if_pos hok2, Int.toNat_natCast]))
          · rw [show ((k + (s.length + 3 + u + 2) : Nat) : Int) = (e : Int) + 2 + (u : Int) + 2 by omega]
            rfl
        · have hno : rdHead cs = .none := hbad (fun h => hp2 (by
            rw [hdu] at h
            simp only [List.cons.injEq, and_true] at h
            exact h.2.2))
          have hxy : ¬ (x2.toNat : Int) = 13 ∨ ¬ (y2.toNat : Int) = 10 := by
            by_cases h1 : x2 = 13
            · exact .inr (u8_ne (c := 10) (fun h2 => hp2 ⟨h1, h2⟩))
            · exact .inl (u8_ne (c := 13) h1)
          repeat' (first | (apply G_on; exact rfl; first | ((first | apply G1_assign | apply G1_move); exact rfl; exact rfl) | (apply G1_indexAddrJ (q := e); exact T.s22; exact rfl; exact rfl; (first | exact rfl | omega); exact hok; omega; exact rfl) | (apply G1_loadEl1 (q := e) (e := eByte); exact T.p5; exact rfl; exact hC2; exact hx; exact rfl; exact rfl; exact rfl) | (apply G1_indexAddrJ (q := e + 1); exact T.s22; exact rfl; exact rfl; (first | exact rfl | omega); exact hok; omega; exact rfl) | (apply G1_loadEl1 (q := e + 1) (e := eByte); exact T.p5; exact rfl; exact hC2; exact hy; exact rfl; exact rfl; exact rfl) | (apply G1_sliceBothJ (q := k + 1) (r := e); exact T.s22; exact rfl; exact rfl; exact rfl; omega; exact rfl; omega; omega; exact rfl) | (apply G1_toStringL (bs := s); exact T.s22; exact T.i5; exact T.str9; exact rfl; omega; exact hS; exact rfl) | (apply G1_call (f := 48); exact rfl; exact rfl; exact rfl; exact (rparse_yes hIs); rintro _ w3 ⟨rfl, hx3⟩; refine ⟨(by first | exact .inl rfl | exact .inr (by assumption)), ?_⟩; (first | replace hA2 := hA2.ext hx3 | replace hA2 := hA2.ext ((Ext.drew Ext.rfl').trans hx3))) | (apply G1_indexAddrJ (q := k); exact T.s22; exact rfl; exact rfl; (first | exact rfl | omega); exact hok; omega; exact rfl) | (apply G1_loadEl1 (q := k) (e := eByte); exact T.p5; exact rfl; exact (hC2.ext (by repeat first | assumption | exact Ext.rfl' | apply Ext.drew | apply Ext.alloc | refine Ext.trans ?_ (by assumption))); exact hm; exact rfl; exact rfl; exact rfl) | (apply G1_indexAddrJ (q := k1 + u); exact T.s22; exact rfl; exact rfl; (first | exact rfl | omega); exact hok; omega; exact rfl) | (apply G1_loadEl1 (q := k1 + u) (e := eByte); exact T.p5; exact rfl; exact (hC2.ext (by repeat first | assumption | exact Ext.rfl' | apply Ext.drew | apply Ext.alloc | refine Ext.trans ?_ (by assumption))); exact hx2'; exact rfl; exact rfl; exact rfl) | (apply G1_indexAddrJ (q := k1 + u + 1); exact T.s22; exact rfl; exact rfl; (first | exact rfl | omega); exact hok; omega; exact rfl) | (apply G1_loadEl1 (q := k1 + u + 1) (e := eByte); exact T.p5; exact rfl; exact (hC2.ext (by repeat first | assumption | exact Ext.rfl' | apply Ext.drew | apply Ext.alloc | refine Ext.trans ?_ (by assumption))); exact hy2'; exact rfl; exact rfl; exact rfl) | (apply G1_build (.agg (eRep.enc zRep).toArray); exact rfl; exact bldZ; exact rfl) | (apply G1_seqlF; exact rfl; exact rfl; exact hm1x; exact rfl) | (apply G1_add; exact rfl; exact rfl; omega; omega; exact rfl) | (apply G1_len; exact T.s22; exact rfl; exact rfl) | ((first | apply G1_lss | apply G1_neq | apply G1_geq | apply G1_extract | apply G1_gtr); exact rfl; exact rfl; exact rfl) | (apply G1_pick_t; exact rfl; exact rfl; exact rfl) | (apply G1_pick_f; exact rfl; exact rfl; exact rfl) | (apply G1_eql; exact rfl; exact rfl; exact rfl) | (apply G1_not_t; exact rfl; exact rfl)) | apply G_nil | apply Post_next | apply W_seq | apply W_region | (apply W_cond_true; exact rfl) | (apply W_cond_false; exact rfl) | (apply W_cond_dec; exact rfl; all_goals (intro h; try (exfalso; omega))) | (apply G_off; exact rfl; exact rfl) | ((fail_if_success (apply G_on; exact rfl)); apply G_split_dec; exact rfl; exact rfl; all_goals (intro h; try (exfalso; omega))) | apply W_skip | apply W_exit | apply W_block | apply Post_then_exit | apply Post_block_exit)
          all_goals try (exfalso; omega)
          all_goals
            apply G_on; exact rfl; apply G1_storeB; exact T.z31; exact rfl; exact rfl; exact hA2; exact rfl; exact rfl; (first | exact Nat.le_of_ble_eq_true rfl | (focus (simp [Value.cells]; done))); (first | exact Enc.one _ _ | (focus (simp [Value.oneCell']; done)) | (focus (simp [Value.cells, Value.oneCell']; done)) | exact Enc.oneAgg _ _); exact rfl; (first | exact .inl rfl | exact .inr (by simp [exempt])); exact rfl; intro wf hAf hgf hsf
            replace hAf : Blk wf.heap a6 31 (eRep.enc zRep) := hAf
            have xf : Ext w wf := (show Ext w w3 from (by repeat first | assumption | exact Ext.rfl' | apply Ext.drew | apply Ext.alloc | refine Ext.trans ?_ (by assumption))).own hgf (fun q hq => by injection hq with hq; omega)
            repeat' (first | (apply G_on; exact rfl; (apply G1_assign; exact rfl; exact rfl)) | apply G_nil | apply Post_next | apply W_ret | apply Post_then_ret | apply Post_block_ret)
            refine Post_ret Tryz.results16 ⟨_, _, _, rfl, rfl, run_loadVar_box T.a31 (by assumption) rfl, _, _, rfl, rfl, rfl⟩ ?_
            refine ⟨xf, .inr ⟨?_, rfl⟩⟩
            rw [hcs]
            exact rdT_none hno
    have hm3 : ¬ (m.toNat : Int) = 36 := u8_ne m3
    by_cases m4 : m = 42
    rotate_left
    · have hm4 : ¬ (m.toNat : Int) = 42 := u8_ne m4
      have hno : rdHead cs = .none := head_none hcd hce (fun _ => by unfold rdLine; rw [if_neg m0, if_neg m1, hnum]; simp only; rw [if_neg m2, if_neg m3, if_neg (fun h => m4 h.1)])
      repeat' (first | (apply G_on; exact rfl; first | ((first | apply G1_assign | apply G1_move); exact rfl; exact rfl) | (apply G1_indexAddrJ (q := e); exact T.s22; exact rfl; exact rfl; (first | exact rfl | omega); exact hok; omega; exact rfl) | (apply G1_loadEl1 (q := e) (e := eByte); exact T.p5; exact rfl; exact hC2; exact hx; exact rfl; exact rfl; exact rfl) | (apply G1_indexAddrJ (q := e + 1); exact T.s22; exact rfl; exact rfl; (first | exact rfl | omega); exact hok; omega; exact rfl) | (apply G1_loadEl1 (q := e + 1) (e := eByte); exact T.p5; exact rfl; exact hC2; exact hy; exact rfl; exact rfl; exact rfl) | (apply G1_sliceBothJ (q := k + 1) (r := e); exact T.s22; exact rfl; exact rfl; exact rfl; omega; exact rfl; omega; omega; exact rfl) | (apply G1_toStringL (bs := s); exact T.s22; exact T.i5; exact T.str9; exact rfl; omega; exact hS; exact rfl) | (apply G1_call (f := 48); exact rfl; exact rfl; exact rfl; exact (rparse_yes hIs); rintro _ w3 ⟨rfl, hx3⟩; refine ⟨(by first | exact .inl rfl | exact .inr (by assumption)), ?_⟩; (first | replace hA2 := hA2.ext hx3 | replace hA2 := hA2.ext ((Ext.drew Ext.rfl').trans hx3))) | (apply G1_indexAddrJ (q := k); exact T.s22; exact rfl; exact rfl; (first | exact rfl | omega); exact hok; omega; exact rfl) | (apply G1_loadEl1 (q := k) (e := eByte); exact T.p5; exact rfl; exact (hC2.ext (by repeat first | assumption | exact Ext.rfl' | apply Ext.drew | apply Ext.alloc | refine Ext.trans ?_ (by assumption))); exact hm; exact rfl; exact rfl; exact rfl) | (apply G1_build (.agg (eRep.enc zRep).toArray); exact rfl; exact bldZ; exact rfl) | (apply G1_add; exact rfl; exact rfl; omega; omega; exact rfl) | (apply G1_len; exact T.s22; exact rfl; exact rfl) | ((first | apply G1_lss | apply G1_neq | apply G1_geq | apply G1_extract); exact rfl; exact rfl; exact rfl) | (apply G1_pick_t; exact rfl; exact rfl; exact rfl) | (apply G1_pick_f; exact rfl; exact rfl; exact rfl) | (apply G1_eql; exact rfl; exact rfl; exact rfl)) | apply G_nil | apply Post_next | apply W_seq | apply W_region | (apply W_cond_dec; exact rfl; all_goals (intro h; try (exfalso; omega))) | ((fail_if_success (apply G_on; exact rfl)); apply G_split_dec; exact rfl; exact rfl; all_goals (intro h; try (exfalso; omega))) | apply W_skip | apply W_exit | apply W_block | apply Post_then_exit | apply Post_block_exit | apply Post_block_normal)
      apply G_on; exact rfl; apply G1_storeB; exact T.z31; exact rfl; exact rfl; exact hA2; exact rfl; exact rfl; (first | exact Nat.le_of_ble_eq_true rfl | (focus (simp [Value.cells]; done))); (first | exact Enc.one _ _ | (focus (simp [Value.oneCell']; done)) | (focus (simp [Value.cells, Value.oneCell']; done)) | exact Enc.oneAgg _ _); exact rfl; (first | exact .inl rfl | exact .inr (by simp [exempt])); exact rfl; intro wf hAf hgf hsf
      replace hAf : Blk wf.heap a6 31 (eRep.enc zRep) := hAf
      have xf : Ext w wf := (show Ext w w3 from (by repeat first | assumption | exact Ext.rfl' | apply Ext.drew | apply Ext.alloc | refine Ext.trans ?_ (by assumption))).own hgf (fun q hq => by injection hq with hq; omega)
      repeat' (first | (apply G_on; exact rfl; (apply G1_assign; exact rfl; exact rfl)) | apply G_nil | apply Post_next | apply W_ret)
      refine Post_ret Tryz.results16 ⟨_, _, _, rfl, rfl, run_loadVar_box T.a31 (by assumption) rfl, _, _, rfl, rfl, rfl⟩ ?_
      refine ⟨xf, .inr ⟨?_, rfl⟩⟩
      rw [hcs]
      exact rdT_none hno
    have hmm : (m.toNat : Int) = 42 := by rw [m4]; rfl
    have hpl : Plain m s := plain_num (by rw [m4]; decide) hIs
    have hrd := (head_find hcd hce).1 hpl
    by_cases hn0 : 0 ≤ n
    rotate_left
    · have hno : rdHead cs = .none := hrd.trans (by unfold rdLine; rw [if_neg m0, if_neg m1, hnum]; simp only; rw [if_neg m2, if_neg m3, if_neg (fun h => hn0 h.2)])
      repeat' (first | (apply G_on; exact rfl; first | ((first | apply G1_assign | apply G1_move); exact rfl; exact rfl) | (apply G1_indexAddrJ (q := e); exact T.s22; exact rfl; exact rfl; (first | exact rfl | omega); exact hok; omega; exact rfl) | (apply G1_loadEl1 (q := e) (e := eByte); exact T.p5; exact rfl; exact hC2; exact hx; exact rfl; exact rfl; exact rfl) | (apply G1_indexAddrJ (q := e + 1); exact T.s22; exact rfl; exact rfl; (first | exact rfl | omega); exact hok; omega; exact rfl) | (apply G1_loadEl1 (q := e + 1) (e := eByte); exact T.p5; exact rfl; exact hC2; exact hy; exact rfl; exact rfl; exact rfl) | (apply G1_sliceBothJ (q := k + 1) (r := e); exact T.s22; exact rfl; exact rfl; exact rfl; omega; exact rfl; omega; omega; exact rfl) | (apply G1_toStringL (bs := s); exact T.s22; exact T.i5; exact T.str9; exact rfl; omega; exact hS; exact rfl) | (apply G1_call (f := 48); exact rfl; exact rfl; exact rfl; exact (rparse_yes hIs); rintro _ w3 ⟨rfl, hx3⟩; refine ⟨(by first | exact .inl rfl | exact .inr (by assumption)), ?_⟩; (first | replace hA2 := hA2.ext hx3 | replace hA2 := hA2.ext ((Ext.drew Ext.rfl').trans hx3))) | (apply G1_indexAddrJ (q := k); exact T.s22; exact rfl; exact rfl; (first | exact rfl | omega); exact hok; omega; exact rfl) | (apply G1_loadEl1 (q := k) (e := eByte); exact T.p5; exact rfl; exact (hC2.ext (by repeat first | assumption | exact Ext.rfl' | apply Ext.drew | apply Ext.alloc | refine Ext.trans ?_ (by assumption))); exact hm; exact rfl; exact rfl; exact rfl) | (apply G1_build (.agg (eRep.enc zRep).toArray); exact rfl; exact bldZ; exact rfl) | (apply G1_add; exact rfl; exact rfl; omega; omega; exact rfl) | (apply G1_len; exact T.s22; exact rfl; exact rfl) | ((first | apply G1_lss | apply G1_neq | apply G1_geq | apply G1_extract); exact rfl; exact rfl; exact rfl) | (apply G1_pick_t; exact rfl; exact rfl; exact rfl) | (apply G1_pick_f; exact rfl; exact rfl; exact rfl) | (apply G1_eql; exact rfl; exact rfl; exact rfl) | (apply G1_not_t; exact rfl; exact rfl)) | apply G_nil | apply Post_next | apply W_seq | apply W_region | (apply W_cond_true; exact rfl) | (apply W_cond_dec; exact rfl; all_goals (intro h; try (exfalso; omega))) | (apply G_off; exact rfl; exact rfl) | ((fail_if_success (apply G_on; exact rfl)); apply G_split_dec; exact rfl; exact rfl; all_goals (intro h; try (exfalso; omega))) | apply W_skip | apply W_exit | apply W_block | apply Post_then_exit | apply Post_block_exit)
      all_goals
        apply G_on; exact rfl; apply G1_storeB; exact T.z31; exact rfl; exact rfl; exact hA2; exact rfl; exact rfl; (first | exact Nat.le_of_ble_eq_true rfl | (focus (simp [Value.cells]; done))); (first | exact Enc.one _ _ | (focus (simp [Value.oneCell']; done)) | (focus (simp [Value.cells, Value.oneCell']; done)) | exact Enc.oneAgg _ _); exact rfl; (first | exact .inl rfl | exact .inr (by simp [exempt])); exact rfl; intro wf hAf hgf hsf
        replace hAf : Blk wf.heap a6 31 (eRep.enc zRep) := hAf
        have xf : Ext w wf := (show Ext w w3 from (by repeat first | assumption | exact Ext.rfl' | apply Ext.drew | apply Ext.alloc | refine Ext.trans ?_ (by assumption))).own hgf (fun q hq => by injection hq with hq; omega)
        repeat' (first | (apply G_on; exact rfl; (apply G1_assign; exact rfl; exact rfl)) | apply G_nil | apply Post_next | apply W_ret | apply Post_then_ret | apply Post_block_ret)
        refine Post_ret Tryz.results16 ⟨_, _, _, rfl, rfl, run_loadVar_box T.a31 (by assumption) rfl, _, _, rfl, rfl, rfl⟩ ?_
        refine ⟨xf, .inr ⟨?_, rfl⟩⟩
        rw [hcs]
        exact rdT_none hno
    have hrl : rdHead cs = .list n.toNat (s.length + 3) := hrd.trans (by unfold rdLine; rw [if_neg m0, if_neg m1, hnum]; simp only; rw [if_neg m2, if_neg m3, if_pos ⟨m4, hn0⟩])
    repeat' (first | (apply G_on; exact rfl; first | ((first | apply G1_assign | apply G1_move); exact rfl; exact rfl) | (apply G1_indexAddrJ (q := e); exact T.s22; exact rfl; exact rfl; (first | exact rfl | omega); exact hok; omega; exact rfl) | (apply G1_loadEl1 (q := e) (e := eByte); exact T.p5; exact rfl; exact hC2; exact hx; exact rfl; exact rfl; exact rfl) | (apply G1_indexAddrJ (q := e + 1); exact T.s22; exact rfl; exact rfl; (first | exact rfl | omega); exact hok; omega; exact rfl) | (apply G1_loadEl1 (q := e + 1) (e := eByte); exact T.p5; exact rfl; exact hC2; exact hy; exact rfl; exact rfl; exact rfl) | (apply G1_sliceBothJ (q := k + 1) (r := e); exact T.s22; exact rfl; exact rfl; exact rfl; omega; exact rfl; omega; omega; exact rfl) | (apply G1_toStringL (bs := s); exact T.s22; exact T.i5; exact T.str9; exact rfl; omega; exact hS; exact rfl) | (apply G1_call (f := 48); exact rfl; exact rfl; exact rfl; exact (rparse_yes hIs); rintro _ w3 ⟨rfl, hx3⟩; refine ⟨(by first | exact .inl rfl | exact .inr (by assumption)), ?_⟩; (first | replace hA2 := hA2.ext hx3 | replace hA2 := hA2.ext ((Ext.drew Ext.rfl').trans hx3))) | (apply G1_indexAddrJ (q := k); exact T.s22; exact rfl; exact rfl; (first | exact rfl | omega); exact hok; omega; exact rfl) | (apply G1_loadEl1 (q := k) (e := eByte); exact T.p5; exact rfl; exact (hC2.ext (by repeat first | assumption | exact Ext.rfl' | apply Ext.drew | apply Ext.alloc | refine Ext.trans ?_ (by assumption))); exact hm; exact rfl; exact rfl; exact rfl) | (apply G1_build (.agg (eRep.enc zRep).toArray); exact rfl; exact bldZ; exact rfl) | (apply G1_add; exact rfl; exact rfl; omega; omega; exact rfl) | (apply G1_len; exact T.s22; exact rfl; exact rfl) | ((first | apply G1_lss | apply G1_neq | apply G1_geq | apply G1_extract | apply G1_gtr); exact rfl; exact rfl; exact rfl) | (apply G1_pick_t; exact rfl; exact rfl; exact rfl) | (apply G1_pick_f; exact rfl; exact rfl; exact rfl) | (apply G1_eql; exact rfl; exact rfl; exact rfl) | (apply G1_not_t; exact rfl; exact rfl)) | apply G_nil | apply Post_next | apply W_seq | apply W_region | (apply W_cond_true; exact rfl) | (apply W_cond_dec; exact rfl; all_goals (intro h; try (exfalso; omega))) | (apply G_off; exact rfl; exact rfl) | ((fail_if_success (apply G_on; exact rfl)); apply G_split_dec; exact rfl; exact rfl; all_goals (intro h; try (exfalso; omega))) | apply W_skip | apply W_exit | apply W_block | apply Post_then_exit | apply Post_block_exit)
    all_goals try (exfalso; omega)
    all_goals
      apply G_on; exact rfl; apply G1_storeB; exact T.z31; exact rfl; exact rfl; exact hA2; exact rfl; exact rfl; (first | exact Nat.le_of_ble_eq_true rfl | (focus (simp [Value.cells]; done))); (first | exact Enc.one _ _ | (focus (simp [Value.oneCell']; done)) | (focus (simp [Value.cells, Value.oneCell']; done)) | exact Enc.oneAgg _ _); exact rfl; (first | exact .inl rfl | exact .inr (by simp [exempt])); exact rfl; intro wf hAf hgf hsf
      replace hAf : Blk wf.heap a6 31 (eRep.enc zRep) := hAf
      have xf : Ext w wf := (show Ext w w3 from (by repeat first | assumption | exact Ext.rfl' | apply Ext.drew | apply Ext.alloc | refine Ext.trans ?_ (by assumption))).own hgf (fun q hq => by injection hq with hq; omega)
      repeat' (first | (apply G_on; exact rfl; (apply G1_assign; exact rfl; exact rfl)) | apply G_nil | apply Post_next | apply W_ret | apply Post_then_ret | apply Post_block_ret)
      refine Post_ret Tryz.results16 ⟨_, _, _, rfl, rfl, run_loadVar_box T.a31 (by assumption) rfl, _, _, rfl, rfl, rfl⟩ ?_
      refine ⟨xf, .inr ⟨?_, rfl⟩⟩
      rw [hcs]
      exact rdT_list0 hrl
  | succ d ih =>
    intro w k p c bs hk hbs hd4 hC
    have hok := hC.ok
    have hle := hok.le
    have n1 := hC.bound
    obtain ⟨cs, hcs⟩ : ∃ cs, bs.drop k = cs := ⟨_, rfl⟩
    have hcl : cs.length = bs.length - k := by rw [← hcs, List.length_drop]
    have hcap : bs.length ≤ maxLen := Nat.le_trans hle hok.cap
    have hget : ∀ j, cs[j]? = bs[k + j]? := fun j => by rw [← hcs, List.getElem?_drop]
    refine Ctr_of Tryz.func16 Tryz.ntmps16 rfl rfl rfl ?_
    repeat' (first | apply W_seq | apply W_region)
    apply G_on; exact rfl; apply G1_alloc; exact T.zero31; exact rfl; exact rfl; intro a6 w1 ha6 hA6 hx1 hs1
    replace hA6 : Blk w1.heap a6 31 (eRep.enc zRep) := hA6
    repeat' (first | (apply G_on; exact rfl; ((first | apply G1_assign | apply G1_move); exact rfl; exact rfl)) | apply G_nil | apply Post_next | apply W_seq | apply W_region | apply W_block)
    refine W_loop (ι := Nat) (fun q => [(0, .slice p bs.length c), (1, .int .i64 (k : Int)), (2, .int .i64 ((d + 1 : Nat) : Int)), (6, .pointer (some (adr (bx a6) 0))), (8, .int .i64 ((k + q : Nat) : Int))])
      (fun q w' => Ext w1 w' ∧ crAt cs = q + crAt (cs.drop q) ∧ q ≤ cs.length) (fun q => cs.length - q) 0 ⟨rfl, rfl, rfl, rfl, rfl, trivial⟩ ⟨(by repeat first | assumption | exact Ext.rfl' | apply Ext.drew | apply Ext.alloc | refine Ext.trans ?_ (by assumption)), by simp, Nat.zero_le _⟩ ?_
    rintro q w2 ⟨hx2, hcr, hq⟩
    have hA2 := hA6.ext hx2
    have hx02 : Ext w w2 := hx1.trans hx2
    have hC2 := hC.ext hx02
    have hz2 := hx02.size
    have l6 := hA6.lt
    refine W_keep [(0, .slice p bs.length c), (1, .int .i64 (k : Int)), (2, .int .i64 ((d + 1 : Nat) : Int)), (6, .pointer (some (adr (bx a6) 0))), (8, .int .i64 ((k + q : Nat) : Int))] ⟨rfl, rfl, rfl, rfl, rfl, trivial⟩ ?_
    obtain ⟨e, he⟩ : ∃ e, e = k + q := ⟨_, rfl⟩
    rw [← he]
    by_cases hf : e + 1 < bs.length
    rotate_left
    · have hno : rdHead cs = .none := head_nofind (.inl (by
        rw [crAt_short (cs := cs.drop q) (by rw [List.length_drop]; omega)] at hcr
        omega))
      repeat' (first | (apply G_on; exact rfl; first | (apply G1_move; exact rfl; exact rfl) | (apply G1_build (.agg (eRep.enc zRep).toArray); exact rfl; exact bldZ; exact rfl) | (apply G1_add; exact rfl; exact rfl; omega; omega; exact rfl) | (apply G1_len; exact T.s22; exact rfl; exact rfl) | ((first | apply G1_lss | apply G1_geq); exact rfl; exact rfl; exact rfl) | (apply G1_pick_t; exact rfl; exact rfl; exact rfl) | (apply G1_pick_f; exact rfl; exact rfl; exact rfl)) | apply G_nil | apply Post_next | apply W_seq | apply W_region | (apply W_cond_true; exact rfl) | (apply W_cond_false; exact rfl) | (apply G_off; exact rfl; exact rfl) | ((fail_if_success (apply G_on; exact rfl)); apply G_split_dec; exact rfl; exact rfl; all_goals (intro h; try (exfalso; omega))) | apply W_exit | apply Post_then_exit | apply Post_block_exit)
      apply G_on; exact rfl; apply G1_storeB; exact T.z31; exact rfl; exact rfl; exact hA2; exact rfl; exact rfl; (first | exact Nat.le_of_ble_eq_true rfl | (focus (simp [Value.cells]; done))); (first | exact Enc.one _ _ | (focus (simp [Value.oneCell']; done)) | (focus (simp [Value.cells, Value.oneCell']; done)) | exact Enc.oneAgg _ _); exact rfl; (first | exact .inl rfl | exact .inr (by simp [exempt])); exact rfl; intro wf hAf hgf hsf
      replace hAf : Blk wf.heap a6 31 (eRep.enc zRep) := hAf
      have xf : Ext w wf := (show Ext w w2 from (by repeat first | assumption | exact Ext.rfl' | apply Ext.drew | apply Ext.alloc | refine Ext.trans ?_ (by assumption))).own hgf (fun q hq => by injection hq with hq; omega)
      repeat' (first | (apply G_on; exact rfl; (apply G1_assign; exact rfl; exact rfl)) | apply G_nil | apply Post_next | apply W_ret | apply Post_then_ret)
      refine Post_ret Tryz.results16 ⟨_, _, _, rfl, rfl, run_loadVar_box T.a31 (by assumption) rfl, _, _, rfl, rfl, rfl⟩ ?_
      refine ⟨xf, .inr ⟨?_, rfl⟩⟩
      rw [hcs]
      exact rdT_none hno
    obtain ⟨x, hx⟩ := get_some (xs := bs) (k := e) (by omega)
    obtain ⟨y, hy⟩ := get_some (xs := bs) (k := e + 1) hf
    have hcx : cs[q]? = some x := by rw [hget, ← he]; exact hx
    have hcy : cs[q + 1]? = some y := by rw [hget, show k + (q + 1) = e + 1 by omega]; exact hy
    have hdq : cs.drop q = x :: y :: cs.drop (q + 2) := by rw [drop_at hcx, drop_at hcy]
    rw [hdq] at hcr
    by_cases hpr : x = 13 ∧ y = 10
    rotate_left
    · rw [crAt_no hpr] at hcr
      by_cases hx13 : x = 13
      · have hy10 : ¬ (y.toNat : Int) = 10 := u8_ne (c := 10) (fun h => hpr ⟨hx13, h⟩)
        have hxi : (x.toNat : Int) = 13 := by rw [hx13]; rfl
        repeat' (first | (apply G_on; exact rfl; first | ((first | apply G1_assign | apply G1_move); exact rfl; exact rfl) | (apply G1_indexAddrJ (q := e); exact T.s22; exact rfl; exact rfl; (first | exact rfl | omega); exact hok; omega; exact rfl) | (apply G1_loadEl1 (q := e) (e := eByte); exact T.p5; exact rfl; exact hC2; exact hx; exact rfl; exact rfl; exact rfl) | (apply G1_indexAddrJ (q := e + 1); exact T.s22; exact rfl; exact rfl; (first | exact rfl | omega); exact hok; omega; exact rfl) | (apply G1_loadEl1 (q := e + 1) (e := eByte); exact T.p5; exact rfl; exact hC2; exact hy; exact rfl; exact rfl; exact rfl) | (apply G1_add; exact rfl; exact rfl; omega; omega; exact rfl) | (apply G1_len; exact T.s22; exact rfl; exact rfl) | ((first | apply G1_lss | apply G1_neq); exact rfl; exact rfl; exact rfl) | (apply G1_pick_t; exact rfl; exact rfl; exact rfl) | (apply G1_pick_f; exact rfl; exact rfl; exact rfl)) | apply G_nil | apply Post_next | apply W_seq | apply W_region | (apply W_cond_dec; exact rfl; all_goals (intro h; try (exfalso; omega))) | ((fail_if_success (apply G_on; exact rfl)); apply G_split_dec; exact rfl; exact rfl; all_goals (intro h; try (exfalso; omega))) | apply W_skip | apply W_block | apply Post_block_normal)
        all_goals try (exfalso; omega)
        all_goals exact Post_round (q + 1) ⟨rfl, rfl, rfl, rfl, (by show some (Value.int .i64 _) = some (Value.int .i64 _); congr 2; omega), trivial⟩ ⟨(by repeat first | assumption | exact Ext.rfl' | apply Ext.drew | apply Ext.alloc | refine Ext.trans ?_ (by assumption)), by rw [drop_at hcy]; show crAt cs = q + 1 + crAt (y :: cs.drop (q + 2)); omega, by omega⟩ (by omega)
      · have hxi : ¬ (x.toNat : Int) = 13 := u8_ne (c := 13) hx13
        repeat' (first | (apply G_on; exact rfl; first | ((first | apply G1_assign | apply G1_move); exact rfl; exact rfl) | (apply G1_indexAddrJ (q := e); exact T.s22; exact rfl; exact rfl; (first | exact rfl | omega); exact hok; omega; exact rfl) | (apply G1_loadEl1 (q := e) (e := eByte); exact T.p5; exact rfl; exact hC2; exact hx; exact rfl; exact rfl; exact rfl) | (apply G1_add; exact rfl; exact rfl; omega; omega; exact rfl) | (apply G1_len; exact T.s22; exact rfl; exact rfl) | ((first | apply G1_lss | apply G1_neq); exact rfl; exact rfl; exact rfl) | (apply G1_pick_t; exact rfl; exact rfl; exact rfl)) | apply G_nil | apply Post_next | apply W_seq | apply W_region | (apply W_cond_true; exact rfl) | (apply G_off; exact rfl; exact rfl) | ((fail_if_success (apply G_on; exact rfl)); apply G_split_dec; exact rfl; exact rfl; all_goals (intro h; try (exfalso; omega))) | apply W_skip | apply W_block | apply Post_block_normal)
        all_goals try (exfalso; omega)
        all_goals exact Post_round (q + 1) ⟨rfl, rfl, rfl, rfl, (by show some (Value.int .i64 _) = some (Value.int .i64 _); congr 2; omega), trivial⟩ ⟨(by repeat first | assumption | exact Ext.rfl' | apply Ext.drew | apply Ext.alloc | refine Ext.trans ?_ (by assumption)), by rw [drop_at hcy]; show crAt cs = q + 1 + crAt (y :: cs.drop (q + 2)); omega, by omega⟩ (by omega)
    have hxi : (x.toNat : Int) = 13 := by rw [hpr.1]; rfl
    have hyi : (y.toNat : Int) = 10 := by rw [hpr.2]; rfl
    have hcr0 : crAt (x :: y :: cs.drop (q + 2)) = 0 := crAt_yes (by rw [hpr.1, hpr.2]; rfl)
    rw [hcr0, Nat.add_zero] at hcr
    by_cases hq0 : q = 0
    · have hno : rdHead cs = .none := head_nofind (.inr (by omega))
      repeat' (first | (apply G_on; exact rfl; first | (apply G1_move; exact rfl; exact rfl) | (apply G1_indexAddrJ (q := e); exact T.s22; exact rfl; exact rfl; (first | exact rfl | omega); exact hok; omega; exact rfl) | (apply G1_loadEl1 (q := e) (e := eByte); exact T.p5; exact rfl; exact hC2; exact hx; exact rfl; exact rfl; exact rfl) | (apply G1_indexAddrJ (q := e + 1); exact T.s22; exact rfl; exact rfl; (first | exact rfl | omega); exact hok; omega; exact rfl) | (apply G1_loadEl1 (q := e + 1) (e := eByte); exact T.p5; exact rfl; exact hC2; exact hy; exact rfl; exact rfl; exact rfl) | (apply G1_build (.agg (eRep.enc zRep).toArray); exact rfl; exact bldZ; exact rfl) | (apply G1_add; exact rfl; exact rfl; omega; omega; exact rfl) | (apply G1_len; exact T.s22; exact rfl; exact rfl) | ((first | apply G1_lss | apply G1_neq | apply G1_geq); exact rfl; exact rfl; exact rfl) | (apply G1_pick_t; exact rfl; exact rfl; exact rfl) | (apply G1_pick_f; exact rfl; exact rfl; exact rfl) | (apply G1_eql; exact rfl; exact rfl; exact rfl)) | apply G_nil | apply Post_next | apply W_seq | apply W_region | (apply W_cond_dec; exact rfl; all_goals (intro h; try (exfalso; omega))) | ((fail_if_success (apply G_on; exact rfl)); apply G_split_dec; exact rfl; exact rfl; all_goals (intro h; try (exfalso; omega))) | apply W_exit | apply Post_then_exit | apply Post_block_exit)
      all_goals try (exfalso; omega)
      apply G_on; exact rfl; apply G1_storeB; exact T.z31; exact rfl; exact rfl; exact hA2; exact rfl; exact rfl; (first | exact Nat.le_of_ble_eq_true rfl | (focus (simp [Value.cells]; done))); (first | exact Enc.one _ _ | (focus (simp [Value.oneCell']; done)) | (focus (simp [Value.cells, Value.oneCell']; done)) | exact Enc.oneAgg _ _); exact rfl; (first | exact .inl rfl | exact .inr (by simp [exempt])); exact rfl; intro wf hAf hgf hsf
      replace hAf : Blk wf.heap a6 31 (eRep.enc zRep) := hAf
      have xf : Ext w wf := (show Ext w w2 from (by repeat first | assumption | exact Ext.rfl' | apply Ext.drew | apply Ext.alloc | refine Ext.trans ?_ (by assumption))).own hgf (fun q hq => by injection hq with hq; omega)
      repeat' (first | (apply G_on; exact rfl; (apply G1_assign; exact rfl; exact rfl)) | apply G_nil | apply Post_next | apply W_ret | apply Post_then_ret)
      refine Post_ret Tryz.results16 ⟨_, _, _, rfl, rfl, run_loadVar_box T.a31 (by assumption) rfl, _, _, rfl, rfl, rfl⟩ ?_
      refine ⟨xf, .inr ⟨?_, rfl⟩⟩
      rw [hcs]
      exact rdT_none hno
    obtain ⟨m, s, hms⟩ : ∃ m s, cs.take q = m :: s := by
      cases e1 : cs.take q with
      | nil => have := congrArg List.length e1; rw [List.length_take, List.length_nil] at this; omega
      | cons m s => exact ⟨m, s, rfl⟩
    have hsl : s.length + 1 = q := by
      have := congrArg List.length hms
      rw [List.length_take, List.length_cons] at this
      omega
    obtain ⟨k1, hk1⟩ : ∃ k1, k1 = k + (s.length + 3) := ⟨_, rfl⟩
    have hk1e : k1 = e + 2 := by omega
    have hdk1 : bs.drop k1 = cs.drop (q + 2) := by
      have e1 : k1 = k + (q + 2) := by omega
      rw [e1, ← List.drop_drop, hcs]
    have hcd : cs = (m :: s) ++ 13 :: 10 :: bs.drop k1 := by
      rw [← hms, hdk1, ← hpr.1]
      conv => lhs; rw [← List.take_append_drop q cs, hdq]
      rw [hpr.2]
    have hce : crAt cs = s.length + 1 := by omega
    have hms2 : (mkStr (m :: s)).size = s.length + 1 := by rw [mkStr_size]; rfl
    have hss : (mkStr s).size = s.length := mkStr_size s
    have hm : bs[k]? = some m := by
      have h1 : (cs.take q)[0]? = some m := by rw [hms]; rfl
      rw [List.getElem?_take, if_pos (by omega), hget, Nat.add_zero] at h1
      exact h1
    have hS : Sl w2.heap eByte (subp p c (k + 1) 1) (c - (k + 1)) s := by
      have h1 := (hC2.drop (l := k + 1) (by omega)).take (q - 1)
      have h2 : (bs.drop (k + 1)).take (q - 1) = s := by
        have h3 := congrArg (List.drop 1) hms
        rw [List.drop_take, ← hcs, List.drop_drop, List.drop_succ_cons, List.drop_zero] at h3
        exact h3
      rw [h2] at h1
      exact h1
    have hL : (bs.drop k1).length = bs.length - k1 := by simp
    have hU4 : ∀ w', Ext w2 w' → Sl w'.heap eByte (subp p c (k + 1) 1) (c - (k + 1)) s := fun w' h => hS.ext h
    have hpar : ∃ n b, ∀ w', Ctr Tryz.prog 48 [.string (mkStr s)] w' (fun r w'' => r = .tuple #[.int .i64 n, .bool b] ∧ Ext w' w'') := by
      by_cases hn : ∃ n, IsNum (mkStr s) n
      · obtain ⟨n, hn⟩ := hn
        exact ⟨n, true, fun w' => rparse_yes hn⟩
      · exact ⟨0, false, fun w' => rparse_no (fun n h => hn ⟨n, h⟩)⟩
    have hrt : ∀ (kd : Int) (w' : World), kd = 0 ∨ kd = 1 → Ctr Tryz.prog 49 [.agg (eRep.enc (leafR kd (mkStr s) 0)).toArray, .int .i64 0] w' (fun v w'' => v = .bool (nobr (mkStr s)) ∧ Ext w' w'') := fun kd w' hkd => by
      have h0 := right_spec 0 1 (w := w') (Nat.zero_le _) (leaf_at (H := w'.heap) (d := 0) (kd := kd) (s := mkStr s) (n := 0) (by omega) fit0)
      rcases hkd with rfl | rfl
      · rw [(right01 _).1] at h0; exact h0
      · rw [(right01 _).2] at h0; exact h0
    by_cases m0 : m = 43
    · have hmm : (m.toNat : Int) = 43 := by rw [m0]; rfl
      obtain ⟨pn, pb, hpar⟩ := hpar
      repeat' (first | (apply G_on; exact rfl; first | ((first | apply G1_assign | apply G1_move); exact rfl; exact rfl) | (apply G1_indexAddrJ (q := e); exact T.s22; exact rfl; exact rfl; (first | exact rfl | omega); exact hok; omega; exact rfl) | (apply G1_loadEl1 (q := e) (e := eByte); exact T.p5; exact rfl; exact hC2; exact hx; exact rfl; exact rfl; exact rfl) | (apply G1_indexAddrJ (q := e + 1); exact T.s22; exact rfl; exact rfl; (first | exact rfl | omega); exact hok; omega; exact rfl) | (apply G1_loadEl1 (q := e + 1) (e := eByte); exact T.p5; exact rfl; exact hC2; exact hy; exact rfl; exact rfl; exact rfl) | (apply G1_sliceBothJ (q := k + 1) (r := e); exact T.s22; exact rfl; exact rfl; exact rfl; omega; exact rfl; omega; omega; exact rfl) | (apply G1_toStringL (bs := s); exact T.s22; exact T.i5; exact T.str9; exact rfl; omega; exact hS; exact rfl) | (apply G1_call (f := 48); exact rfl; exact rfl; exact rfl; exact (hpar _); rintro _ w3 ⟨rfl, hx3⟩; refine ⟨(by first | exact .inl rfl | exact .inr (by assumption)), ?_⟩; (first | replace hA2 := hA2.ext hx3 | replace hA2 := hA2.ext ((Ext.drew Ext.rfl').trans hx3))) | (apply G1_indexAddrJ (q := k); exact T.s22; exact rfl; exact rfl; (first | exact rfl | omega); exact hok; omega; exact rfl) | (apply G1_loadEl1 (q := k) (e := eByte); exact T.p5; exact rfl; exact (hC2.ext (by repeat first | assumption | exact Ext.rfl' | apply Ext.drew | apply Ext.alloc | refine Ext.trans ?_ (by assumption))); exact hm; exact rfl; exact rfl; exact rfl) | (apply G1_build (.agg (eRep.enc (leafR 0 (mkStr s) 0)).toArray); exact rfl; exact bldKS _ _; exact rfl) | (apply G1_add; exact rfl; exact rfl; omega; omega; exact rfl) | (apply G1_len; exact T.s22; exact rfl; exact rfl) | ((first | apply G1_lss | apply G1_neq | apply G1_geq | apply G1_extract); exact rfl; exact rfl; exact rfl) | (apply G1_pick_t; exact rfl; exact rfl; exact rfl) | (apply G1_pick_f; exact rfl; exact rfl; exact rfl) | (apply G1_eql; exact rfl; exact rfl; exact rfl)) | apply G_nil | apply Post_next | apply W_seq | apply W_region | (apply W_cond_dec; exact rfl; all_goals (intro h; try (exfalso; omega))) | ((fail_if_success (apply G_on; exact rfl)); apply G_split_dec; exact rfl; exact rfl; all_goals (intro h; try (exfalso; omega))) | apply W_skip | apply W_exit | apply W_block | apply Post_then_exit | apply Post_block_exit)
      have l63 := hA2.lt
      apply G_on; exact rfl; apply G1_alloc; exact T.zero31; exact rfl; exact rfl; intro a13 w4 ha13 hA13 hx4 hs4
      replace hA2 := hA2.ext hx4
      skip
      apply G_on; exact rfl; apply G1_storeB; exact T.z31; exact rfl; exact rfl; exact hA13; exact rfl; exact rfl; (first | exact Nat.le_of_ble_eq_true rfl | (focus (simp [Value.cells]; done))); (first | exact Enc.one _ _ | (focus (simp [Value.oneCell']; done)) | (focus (simp [Value.cells, Value.oneCell']; done)) | exact Enc.oneAgg _ _); exact rfl; (first | exact .inl rfl | exact .inr (by simp [exempt])); exact rfl; intro w5 hA5 hg5 hs5
      replace hA5 : Blk w5.heap a13 31 (eRep.enc (leafR 0 (mkStr s) 0)) := hA5
      have hx25 : Ext w2 w5 := (show Ext w2 w4 from (by repeat first | assumption | exact Ext.rfl' | apply Ext.drew | apply Ext.alloc | refine Ext.trans ?_ (by assumption))).own hg5 (fun q hq => by injection hq with hq; have := hx3.size; omega)
      replace hA2 := hA2.grown hg5 (fun e => by injection e; omega)
      cases hnb : nobr (mkStr s) with
      | true =>
        have hrr := fun w' => hrt 0 w' (.inl rfl)
        rw [hnb] at hrr
        repeat' (first | (apply G_on; exact rfl; first | (apply G1_move; exact rfl; exact rfl) | (apply G1_indexAddrJ (q := k); exact T.s22; exact rfl; exact rfl; (first | exact rfl | omega); exact hok; omega; exact rfl) | (apply G1_loadEl1 (q := k) (e := eByte); exact T.p5; exact rfl; exact (hC2.ext (by repeat first | assumption | exact Ext.rfl' | apply Ext.drew | apply Ext.alloc | refine Ext.trans ?_ (by assumption))); exact hm; exact rfl; exact rfl; exact rfl) | (apply G1_call (f := 49); exact rfl; exact rfl; exact rfl; exact hrr _; rintro _ w6 ⟨rfl, hx6⟩; refine ⟨(by first | exact .inl rfl | exact .inr (by assumption)), ?_⟩; (first | replace hA2 := hA2.ext hx6 | replace hA2 := hA2.ext ((Ext.drew Ext.rfl').trans hx6)); (first | replace hA5 := hA5.ext hx6 | replace hA5 := hA5.ext ((Ext.drew Ext.rfl').trans hx6))) | (apply G1_eql; exact rfl; exact rfl; exact rfl) | (apply G1_loadBAgg; exact T.a31; exact rfl; assumption; exact rfl; exact rfl) | (apply G1_not_t; exact rfl; exact rfl)) | apply G_nil | apply Post_next | apply W_seq | apply W_region | (apply W_cond_false; exact rfl) | (apply W_cond_dec; exact rfl; all_goals (intro h; try (exfalso; omega))) | apply W_skip)
        apply G_on; exact rfl; apply G1_storeB; exact T.z31; exact rfl; exact rfl; exact hA2; exact rfl; exact rfl; (first | exact Nat.le_of_ble_eq_true rfl | (focus (simp [Value.cells]; done))); (first | exact Enc.one _ _ | (focus (simp [Value.oneCell']; done)) | (focus (simp [Value.cells, Value.oneCell']; done)) | exact Enc.oneAgg _ _); exact rfl; (first | exact .inl rfl | exact .inr (by simp [exempt])); exact rfl; intro wf hAf hgf hsf
        replace hAf : Blk wf.heap a6 31 (eRep.enc (leafR 0 (mkStr s) 0)) := hAf
        have xf : Ext w wf := (show Ext w w6 from (by repeat first | assumption | exact Ext.rfl' | apply Ext.drew | apply Ext.alloc | refine Ext.trans ?_ (by assumption))).own hgf (fun q hq => by injection hq with hq; omega)
        repeat' (first | (apply G_on; exact rfl; (apply G1_assign; exact rfl; exact rfl)) | apply G_nil | apply Post_next | apply W_ret | apply Post_then_ret | apply Post_block_ret)
        refine Post_ret Tryz.results16 ⟨_, _, _, rfl, rfl, run_loadVar_box T.a31 (by assumption) rfl, _, _, rfl, rfl, rfl⟩ ?_
        refine ⟨xf, .inl ⟨.mk 0 (mkStr s) 0 [], s.length + 3, leafR 0 (mkStr s) 0, ?_, (by rw [← hk1, hk1e]; rfl), leaf_at (by omega) fit0⟩⟩
        rw [hcs]
        exact rdT_leaf (((head_find hcd hce).1 ((plain_nobr (by rw [m0]; decide)).2 hnb)).trans (by unfold rdLine; rw [if_pos m0]))
      | false =>
        have hrr := fun w' => hrt 0 w' (.inl rfl)
        rw [hnb] at hrr
        repeat' (first | (apply G_on; exact rfl; first | (apply G1_move; exact rfl; exact rfl) | (apply G1_indexAddrJ (q := k); exact T.s22; exact rfl; exact rfl; (first | exact rfl | omega); exact hok; omega; exact rfl) | (apply G1_loadEl1 (q := k) (e := eByte); exact T.p5; exact rfl; exact (hC2.ext (by repeat first | assumption | exact Ext.rfl' | apply Ext.drew | apply Ext.alloc | refine Ext.trans ?_ (by assumption))); exact hm; exact rfl; exact rfl; exact rfl) | (apply G1_call (f := 49); exact rfl; exact rfl; exact rfl; exact hrr _; rintro _ w6 ⟨rfl, hx6⟩; refine ⟨(by first | exact .inl rfl | exact .inr (by assumption)), ?_⟩; (first | replace hA2 := hA2.ext hx6 | replace hA2 := hA2.ext ((Ext.drew Ext.rfl').trans hx6)); (first | replace hA5 := hA5.ext hx6 | replace hA5 := hA5.ext ((Ext.drew Ext.rfl').trans hx6))) | (apply G1_build (.agg (eRep.enc zRep).toArray); exact rfl; exact bldZ; exact rfl) | (apply G1_eql; exact rfl; exact rfl; exact rfl) | (apply G1_loadBAgg; exact T.a31; exact rfl; assumption; exact rfl; exact rfl) | (apply G1_not_f; exact rfl; exact rfl)) | apply G_nil | apply Post_next | apply W_seq | apply W_region | (apply W_cond_true; exact rfl) | (apply W_cond_dec; exact rfl; all_goals (intro h; try (exfalso; omega))) | apply W_skip)
        apply G_on; exact rfl; apply G1_storeB; exact T.z31; exact rfl; exact rfl; exact hA2; exact rfl; exact rfl; (first | exact Nat.le_of_ble_eq_true rfl | (focus (simp [Value.cells]; done))); (first | exact Enc.one _ _ | (focus (simp [Value.oneCell']; done)) | (focus (simp [Value.cells, Value.oneCell']; done)) | exact Enc.oneAgg _ _); exact rfl; (first | exact .inl rfl | exact .inr (by simp [exempt])); exact rfl; intro wf hAf hgf hsf
        replace hAf : Blk wf.heap a6 31 (eRep.enc zRep) := hAf
        have xf : Ext w wf := (show Ext w w6 from (by repeat first | assumption | exact Ext.rfl' | apply Ext.drew | apply Ext.alloc | refine Ext.trans ?_ (by assumption))).own hgf (fun q hq => by injection hq with hq; omega)
        repeat' (first | (apply G_on; exact rfl; (apply G1_assign; exact rfl; exact rfl)) | apply G_nil | apply Post_next | apply W_ret | apply Post_then_ret | apply Post_block_ret)
        refine Post_ret Tryz.results16 ⟨_, _, _, rfl, rfl, run_loadVar_box T.a31 (by assumption) rfl, _, _, rfl, rfl, rfl⟩ ?_
        refine ⟨xf, .inr ⟨?_, rfl⟩⟩
        rw [hcs]
        exact rdT_none ((head_find hcd hce).2 (fun h => by rw [(plain_nobr (by rw [m0]; decide)).1 h] at hnb; cases hnb))
    have hm0 : ¬ (m.toNat : Int) = 43 := u8_ne m0
    by_cases m1 : m = 45
    · have hmm : (m.toNat : Int) = 45 := by rw [m1]; rfl
      obtain ⟨pn, pb, hpar⟩ := hpar
      repeat' (first | (apply G_on; exact rfl; first | ((first | apply G1_assign | apply G1_move); exact rfl; exact rfl) | (apply G1_indexAddrJ (q := e); exact T.s22; exact rfl; exact rfl; (first | exact rfl | omega); exact hok; omega; exact rfl) | (apply G1_loadEl1 (q := e) (e := eByte); exact T.p5; exact rfl; exact hC2; exact hx; exact rfl; exact rfl; exact rfl) | (apply G1_indexAddrJ (q := e + 1); exact T.s22; exact rfl; exact rfl; (first | exact rfl | omega); exact hok; omega; exact rfl) | (apply G1_loadEl1 (q := e + 1) (e := eByte); exact T.p5; exact rfl; exact hC2; exact hy; exact rfl; exact rfl; exact rfl) | (apply G1_sliceBothJ (q := k + 1) (r := e); exact T.s22; exact rfl; exact rfl; exact rfl; omega; exact rfl; omega; omega; exact rfl) | (apply G1_toStringL (bs := s); exact T.s22; exact T.i5; exact T.str9; exact rfl; omega; exact hS; exact rfl) | (apply G1_call (f := 48); exact rfl; exact rfl; exact rfl; exact (hpar _); rintro _ w3 ⟨rfl, hx3⟩; refine ⟨(by first | exact .inl rfl | exact .inr (by assumption)), ?_⟩; (first | replace hA2 := hA2.ext hx3 | replace hA2 := hA2.ext ((Ext.drew Ext.rfl').trans hx3))) | (apply G1_indexAddrJ (q := k); exact T.s22; exact rfl; exact rfl; (first | exact rfl | omega); exact hok; omega; exact rfl) | (apply G1_loadEl1 (q := k) (e := eByte); exact T.p5; exact rfl; exact (hC2.ext (by repeat first | assumption | exact Ext.rfl' | apply Ext.drew | apply Ext.alloc | refine Ext.trans ?_ (by assumption))); exact hm; exact rfl; exact rfl; exact rfl) | (apply G1_build (.agg (eRep.enc (leafR 0 (mkStr s) 0)).toArray); exact rfl; exact bldKS _ _; exact rfl) | (apply G1_add; exact rfl; exact rfl; omega; omega; exact rfl) | (apply G1_len; exact T.s22; exact rfl; exact rfl) | ((first | apply G1_lss | apply G1_neq | apply G1_geq | apply G1_extract); exact rfl; exact rfl; exact rfl) | (apply G1_pick_t; exact rfl; exact rfl; exact rfl) | (apply G1_pick_f; exact rfl; exact rfl; exact rfl) | (apply G1_eql; exact rfl; exact rfl; exact rfl)) | apply G_nil | apply Post_next | apply W_seq | apply W_region | (apply W_cond_dec; exact rfl; all_goals (intro h; try (exfalso; omega))) | ((fail_if_success (apply G_on; exact rfl)); apply G_split_dec; exact rfl; exact rfl; all_goals (intro h; try (exfalso; omega))) | apply W_skip | apply W_exit | apply W_block | apply Post_then_exit | apply Post_block_exit)
      have l63 := hA2.lt
      apply G_on; exact rfl; apply G1_alloc; exact T.zero31; exact rfl; exact rfl; intro a13 w4 ha13 hA13 hx4 hs4
      replace hA2 := hA2.ext hx4
      skip
      apply G_on; exact rfl; apply G1_storeB; exact T.z31; exact rfl; exact rfl; exact hA13; exact rfl; exact rfl; (first | exact Nat.le_of_ble_eq_true rfl | (focus (simp [Value.cells]; done))); (first | exact Enc.one _ _ | (focus (simp [Value.oneCell']; done)) | (focus (simp [Value.cells, Value.oneCell']; done)) | exact Enc.oneAgg _ _); exact rfl; (first | exact .inl rfl | exact .inr (by simp [exempt])); exact rfl; intro w5 hA5 hg5 hs5
      replace hA5 : Blk w5.heap a13 31 (eRep.enc (leafR 0 (mkStr s) 0)) := hA5
      have hx25 : Ext w2 w5 := (show Ext w2 w4 from (by repeat first | assumption | exact Ext.rfl' | apply Ext.drew | apply Ext.alloc | refine Ext.trans ?_ (by assumption))).own hg5 (fun q hq => by injection hq with hq; have := hx3.size; omega)
      replace hA2 := hA2.grown hg5 (fun e => by injection e; omega)
      repeat' (first | (apply G_on; exact rfl; first | (apply G1_move; exact rfl; exact rfl) | (apply G1_indexAddrJ (q := k); exact T.s22; exact rfl; exact rfl; (first | exact rfl | omega); exact hok; omega; exact rfl) | (apply G1_loadEl1 (q := k) (e := eByte); exact T.p5; exact rfl; exact (hC2.ext (by repeat first | assumption | exact Ext.rfl' | apply Ext.drew | apply Ext.alloc | refine Ext.trans ?_ (by assumption))); exact hm; exact rfl; exact rfl; exact rfl) | (apply G1_eql; exact rfl; exact rfl; exact rfl) | (apply G1_fieldAddr; exact T.f31_0; exact rfl; exact rfl)) | apply G_nil | apply Post_next | apply W_seq | apply W_region | (apply W_cond_dec; exact rfl; all_goals (intro h; try (exfalso; omega))))
      apply G_on; exact rfl; apply G1_storeB; exact T.z3; exact rfl; exact rfl; exact hA5; exact rfl; exact rfl; (first | exact Nat.le_of_ble_eq_true rfl | (focus (simp [Value.cells]; done))); (first | exact Enc.one _ _ | (focus (simp [Value.oneCell']; done)) | (focus (simp [Value.cells, Value.oneCell']; done)) | exact Enc.oneAgg _ _); exact rfl; (first | exact .inl rfl | exact .inr (by simp [exempt])); exact rfl; intro w7 hA7 hg7 hs7
      replace hA7 : Blk w7.heap a13 31 (eRep.enc (leafR 1 (mkStr s) 0)) := hA7
      replace hx25 : Ext w2 w7 := hx25.own hg7 (fun q hq => by injection hq with hq; have := hx3.size; omega)
      replace hA2 := hA2.grown hg7 (fun e => by injection e; omega)
      cases hnb : nobr (mkStr s) with
      | true =>
        have hrr := fun w' => hrt 1 w' (.inr rfl)
        rw [hnb] at hrr
        repeat' (first | (apply G_on; exact rfl; first | (apply G1_move; exact rfl; exact rfl) | (apply G1_call (f := 49); exact rfl; exact rfl; exact rfl; exact hrr _; rintro _ w6 ⟨rfl, hx6⟩; refine ⟨(by first | exact .inl rfl | exact .inr (by assumption)), ?_⟩; (first | replace hA2 := hA2.ext hx6 | replace hA2 := hA2.ext ((Ext.drew Ext.rfl').trans hx6)); (first | replace hA7 := hA7.ext hx6 | replace hA7 := hA7.ext ((Ext.drew Ext.rfl').trans hx6))) | (apply G1_loadBAgg; exact T.a31; exact rfl; assumption; exact rfl; exact rfl) | (apply G1_not_t; exact rfl; exact rfl)) | apply G_nil | apply Post_next | apply W_seq | apply W_region | (apply W_cond_false; exact rfl) | apply W_skip)
        apply G_on; exact rfl; apply G1_storeB; exact T.z31; exact rfl; exact rfl; exact hA2; exact rfl; exact rfl; (first | exact Nat.le_of_ble_eq_true rfl | (focus (simp [Value.cells]; done))); (first | exact Enc.one _ _ | (focus (simp [Value.oneCell']; done)) | (focus (simp [Value.cells, Value.oneCell']; done)) | exact Enc.oneAgg _ _); exact rfl; (first | exact .inl rfl | exact .inr (by simp [exempt])); exact rfl; intro wf hAf hgf hsf
        replace hAf : Blk wf.heap a6 31 (eRep.enc (leafR 1 (mkStr s) 0)) := hAf
        have xf : Ext w wf := (show Ext w w6 from (by repeat first | assumption | exact Ext.rfl' | apply Ext.drew | apply Ext.alloc | refine Ext.trans ?_ (by assumption))).own hgf (fun q hq => by injection hq with hq; omega)
        repeat' (first | (apply G_on; exact rfl; (apply G1_assign; exact rfl; exact rfl)) | apply G_nil | apply Post_next | apply W_ret | apply Post_then_ret | apply Post_block_ret)
        refine Post_ret Tryz.results16 ⟨_, _, _, rfl, rfl, run_loadVar_box T.a31 (by assumption) rfl, _, _, rfl, rfl, rfl⟩ ?_
        refine ⟨xf, .inl ⟨.mk 1 (mkStr s) 0 [], s.length + 3, leafR 1 (mkStr s) 0, ?_, (by rw [← hk1, hk1e]; rfl), leaf_at (by omega) fit0⟩⟩
        rw [hcs]
        exact rdT_leaf (((head_find hcd hce).1 ((plain_nobr (by rw [m1]; decide)).2 hnb)).trans (by unfold rdLine; rw [if_neg m0, if_pos m1]))
      | false =>
        have hrr := fun w' => hrt 1 w' (.inr rfl)
        rw [hnb] at hrr
        repeat' (first | (apply G_on; exact rfl; first | (apply G1_call (f := 49); exact rfl; exact rfl; exact rfl; exact hrr _; rintro _ w6 ⟨rfl, hx6⟩; refine ⟨(by first | exact .inl rfl | exact .inr (by assumption)), ?_⟩; (first | replace hA2 := hA2.ext hx6 | replace hA2 := hA2.ext ((Ext.drew Ext.rfl').trans hx6)); (first | replace hA7 := hA7.ext hx6 | replace hA7 := hA7.ext ((Ext.drew Ext.rfl').trans hx6))) | (apply G1_build (.agg (eRep.enc zRep).toArray); exact rfl; exact bldZ; exact rfl) | (apply G1_loadBAgg; exact T.a31; exact rfl; assumption; exact rfl; exact rfl) | (apply G1_not_f; exact rfl; exact rfl)) | apply G_nil | apply Post_next | apply W_seq | apply W_region | (apply W_cond_true; exact rfl))
        apply G_on; exact rfl; apply G1_storeB; exact T.z31; exact rfl; exact rfl; exact hA2; exact rfl; exact rfl; (first | exact Nat.le_of_ble_eq_true rfl | (focus (simp [Value.cells]; done))); (first | exact Enc.one _ _ | (focus (simp [Value.oneCell']; done)) | (focus (simp [Value.cells, Value.oneCell']; done)) | exact Enc.oneAgg _ _); exact rfl; (first | exact .inl rfl | exact .inr (by simp [exempt])); exact rfl; intro wf hAf hgf hsf
        replace hAf : Blk wf.heap a6 31 (eRep.enc zRep) := hAf
        have xf : Ext w wf := (show Ext w w6 from (by repeat first | assumption | exact Ext.rfl' | apply Ext.drew | apply Ext.alloc | refine Ext.trans ?_ (by assumption))).own hgf (fun q hq => by injection hq with hq; omega)
        repeat' (first | (apply G_on; exact rfl; (apply G1_assign; exact rfl; exact rfl)) | apply G_nil | apply Post_next | apply W_ret | apply Post_then_ret | apply Post_block_ret)
        refine Post_ret Tryz.results16 ⟨_, _, _, rfl, rfl, run_loadVar_box T.a31 (by assumption) rfl, _, _, rfl, rfl, rfl⟩ ?_
        refine ⟨xf, .inr ⟨?_, rfl⟩⟩
        rw [hcs]
        exact rdT_none ((head_find hcd hce).2 (fun h => by rw [(plain_nobr (by rw [m1]; decide)).1 h] at hnb; cases hnb))
    have hm1 : ¬ (m.toNat : Int) = 45 := u8_ne m1
    clear hpar hrt
    by_cases hnn : ∃ n, IsNum (mkStr s) n
    rotate_left
    · have hnn' : ∀ n, ¬ IsNum (mkStr s) n := fun n hn => hnn ⟨n, hn⟩
      have hno : rdHead cs = .none := head_none hcd hce (fun _ => by unfold rdLine; rw [if_neg m0, if_neg m1, numOf_none hnn'])
      have hnm : ¬ mkStr s = ⟨#[45, 49]⟩ := fun h => hnn' _ (num_m1' h)
      repeat' (first | (apply G_on; exact rfl; first | ((first | apply G1_assign | apply G1_move); exact rfl; exact rfl) | (apply G1_indexAddrJ (q := e); exact T.s22; exact rfl; exact rfl; (first | exact rfl | omega); exact hok; omega; exact rfl) | (apply G1_loadEl1 (q := e) (e := eByte); exact T.p5; exact rfl; exact hC2; exact hx; exact rfl; exact rfl; exact rfl) | (apply G1_indexAddrJ (q := e + 1); exact T.s22; exact rfl; exact rfl; (first | exact rfl | omega); exact hok; omega; exact rfl) | (apply G1_loadEl1 (q := e + 1) (e := eByte); exact T.p5; exact rfl; exact hC2; exact hy; exact rfl; exact rfl; exact rfl) | (apply G1_sliceBothJ (q := k + 1) (r := e); exact T.s22; exact rfl; exact rfl; exact rfl; omega; exact rfl; omega; omega; exact rfl) | (apply G1_toStringL (bs := s); exact T.s22; exact T.i5; exact T.str9; exact rfl; omega; exact hS; exact rfl) | (apply G1_call (f := 48); exact rfl; exact rfl; exact rfl; exact (rparse_no hnn'); rintro _ w3 ⟨rfl, hx3⟩; refine ⟨(by first | exact .inl rfl | exact .inr (by assumption)), ?_⟩; (first | replace hA2 := hA2.ext hx3 | replace hA2 := hA2.ext ((Ext.drew Ext.rfl').trans hx3))) | (apply G1_indexAddrJ (q := k); exact T.s22; exact rfl; exact rfl; (first | exact rfl | omega); exact hok; omega; exact rfl) | (apply G1_loadEl1 (q := k) (e := eByte); exact T.p5; exact rfl; exact (hC2.ext (by repeat first | assumption | exact Ext.rfl' | apply Ext.drew | apply Ext.alloc | refine Ext.trans ?_ (by assumption))); exact hm; exact rfl; exact rfl; exact rfl) | (apply G1_build (.agg (eRep.enc zRep).toArray); exact rfl; exact bldZ; exact rfl) | (apply G1_seqlF; exact rfl; exact rfl; exact hnm; exact rfl) | (apply G1_add; exact rfl; exact rfl; omega; omega; exact rfl) | (apply G1_len; exact T.s22; exact rfl; exact rfl) | ((first | apply G1_lss | apply G1_neq | apply G1_geq | apply G1_extract); exact rfl; exact rfl; exact rfl) | (apply G1_pick_t; exact rfl; exact rfl; exact rfl) | (apply G1_pick_f; exact rfl; exact rfl; exact rfl) | (apply G1_eql; exact rfl; exact rfl; exact rfl) | (apply G1_not_f; exact rfl; exact rfl)) | apply G_nil | apply Post_next | apply W_seq | apply W_region | (apply W_cond_true; exact rfl) | (apply W_cond_false; exact rfl) | (apply W_cond_dec; exact rfl; all_goals (intro h; try (exfalso; omega))) | (apply G_off; exact rfl; exact rfl) | ((fail_if_success (apply G_on; exact rfl)); apply G_split_dec; exact rfl; exact rfl; all_goals (intro h; try (exfalso; omega))) | apply W_skip | apply W_exit | apply W_block | apply Post_then_exit | apply Post_block_exit | apply Post_block_normal)
      all_goals
        apply G_on; exact rfl; apply G1_storeB; exact T.z31; exact rfl; exact rfl; exact hA2; exact rfl; exact rfl; (first | exact Nat.le_of_ble_eq_true rfl | (focus (simp [Value.cells]; done))); (first | exact Enc.one _ _ | (focus (simp [Value.oneCell']; done)) | (focus (simp [Value.cells, Value.oneCell']; done)) | exact Enc.oneAgg _ _); exact rfl; (first | exact .inl rfl | exact .inr (by simp [exempt])); exact rfl; intro wf hAf hgf hsf
        replace hAf : Blk wf.heap a6 31 (eRep.enc zRep) := hAf
        have xf : Ext w wf := (show Ext w w3 from (by repeat first | assumption | exact Ext.rfl' | apply Ext.drew | apply Ext.alloc | refine Ext.trans ?_ (by assumption))).own hgf (fun q hq => by injection hq with hq; omega)
        repeat' (first | (apply G_on; exact rfl; (apply G1_assign; exact rfl; exact rfl)) | apply G_nil | apply Post_next | apply W_ret | apply Post_then_ret | apply Post_block_ret)
        refine Post_ret Tryz.results16 ⟨_, _, _, rfl, rfl, run_loadVar_box T.a31 (by assumption) rfl, _, _, rfl, rfl, rfl⟩ ?_
        refine ⟨xf, .inr ⟨?_, rfl⟩⟩
        rw [hcs]
        exact rdT_none hno
    obtain ⟨n, hIs⟩ := hnn
    have hfn := hIs.1
    unfold fit64 at hfn
    have hnum := numOf_some hIs
    have hm1n := num_m1 n hIs
    by_cases m2 : m = 58
    · have hmm : (m.toNat : Int) = 58 := by rw [m2]; rfl
      have hpl : Plain m s := plain_num (by rw [m2]; decide) hIs
      repeat' (first | (apply G_on; exact rfl; first | ((first | apply G1_assign | apply G1_move); exact rfl; exact rfl) | (apply G1_indexAddrJ (q := e); exact T.s22; exact rfl; exact rfl; (first | exact rfl | omega); exact hok; omega; exact rfl) | (apply G1_loadEl1 (q := e) (e := eByte); exact T.p5; exact rfl; exact hC2; exact hx; exact rfl; exact rfl; exact rfl) | (apply G1_indexAddrJ (q := e + 1); exact T.s22; exact rfl; exact rfl; (first | exact rfl | omega); exact hok; omega; exact rfl) | (apply G1_loadEl1 (q := e + 1) (e := eByte); exact T.p5; exact rfl; exact hC2; exact hy; exact rfl; exact rfl; exact rfl) | (apply G1_sliceBothJ (q := k + 1) (r := e); exact T.s22; exact rfl; exact rfl; exact rfl; omega; exact rfl; omega; omega; exact rfl) | (apply G1_toStringL (bs := s); exact T.s22; exact T.i5; exact T.str9; exact rfl; omega; exact hS; exact rfl) | (apply G1_call (f := 48); exact rfl; exact rfl; exact rfl; exact (rparse_yes hIs); rintro _ w3 ⟨rfl, hx3⟩; refine ⟨(by first | exact .inl rfl | exact .inr (by assumption)), ?_⟩; (first | replace hA2 := hA2.ext hx3 | replace hA2 := hA2.ext ((Ext.drew Ext.rfl').trans hx3))) | (apply G1_indexAddrJ (q := k); exact T.s22; exact rfl; exact rfl; (first | exact rfl | omega); exact hok; omega; exact rfl) | (apply G1_loadEl1 (q := k) (e := eByte); exact T.p5; exact rfl; exact (hC2.ext (by repeat first | assumption | exact Ext.rfl' | apply Ext.drew | apply Ext.alloc | refine Ext.trans ?_ (by assumption))); exact hm; exact rfl; exact rfl; exact rfl) | (apply G1_build (.agg (eRep.enc (leafR 2 ⟨#[]⟩ n)).toArray); exact rfl; exact bldKN _ _; exact rfl) | (apply G1_add; exact rfl; exact rfl; omega; omega; exact rfl) | (apply G1_len; exact T.s22; exact rfl; exact rfl) | ((first | apply G1_lss | apply G1_neq | apply G1_geq | apply G1_extract); exact rfl; exact rfl; exact rfl) | (apply G1_pick_t; exact rfl; exact rfl; exact rfl) | (apply G1_pick_f; exact rfl; exact rfl; exact rfl) | (apply G1_eql; exact rfl; exact rfl; exact rfl)) | apply G_nil | apply Post_next | apply W_seq | apply W_region | (apply W_cond_true; exact rfl) | (apply W_cond_dec; exact rfl; all_goals (intro h; try (exfalso; omega))) | ((fail_if_success (apply G_on; exact rfl)); apply G_split_dec; exact rfl; exact rfl; all_goals (intro h; try (exfalso; omega))) | apply W_skip | apply W_exit | apply W_block | apply Post_then_exit | apply Post_block_exit)
      apply G_on; exact rfl; apply G1_storeB; exact T.z31; exact rfl; exact rfl; exact hA2; exact rfl; exact rfl; (first | exact Nat.le_of_ble_eq_true rfl | (focus (simp [Value.cells]; done))); (first | exact Enc.one _ _ | (focus (simp [Value.oneCell']; done)) | (focus (simp [Value.cells, Value.oneCell']; done)) | exact Enc.oneAgg _ _); exact rfl; (first | exact .inl rfl | exact .inr (by simp [exempt])); exact rfl; intro wf hAf hgf hsf
      replace hAf : Blk wf.heap a6 31 (eRep.enc (leafR 2 ⟨#[]⟩ n)) := hAf
      have xf : Ext w wf := (show Ext w w3 from (by repeat first | assumption | exact Ext.rfl' | apply Ext.drew | apply Ext.alloc | refine Ext.trans ?_ (by assumption))).own hgf (fun q hq => by injection hq with hq; omega)
      repeat' (first | (apply G_on; exact rfl; (apply G1_assign; exact rfl; exact rfl)) | apply G_nil | apply Post_next | apply W_ret | apply Post_then_ret | apply Post_block_ret)
      refine Post_ret Tryz.results16 ⟨_, _, _, rfl, rfl, run_loadVar_box T.a31 (by assumption) rfl, _, _, rfl, rfl, rfl⟩ ?_
      refine ⟨xf, .inl ⟨.mk 2 ⟨#[]⟩ n [], s.length + 3, leafR 2 ⟨#[]⟩ n, ?_, (by rw [← hk1, hk1e]; rfl), leaf_at nil_size hfn⟩⟩
      rw [hcs]
      exact rdT_leaf (((head_find hcd hce).1 hpl).trans (by unfold rdLine; rw [if_neg m0, if_neg m1, hnum]; simp only; rw [if_pos m2]))
    have hm2 : ¬ (m.toNat : Int) = 58 := u8_ne m2
    by_cases m3 : m = 36
    · have hmm : (m.toNat : Int) = 36 := by rw [m3]; rfl
      have hpl : Plain m s := plain_num (by rw [m3]; decide) hIs
      have hrd := (head_find hcd hce).1 hpl
      by_cases hn1 : n = -1
      · have hm1y := hm1n.2 hn1
        repeat' (first | (apply G_on; exact rfl; first | ((first | apply G1_assign | apply G1_move); exact rfl; exact rfl) | (apply G1_indexAddrJ (q := e); exact T.s22; exact rfl; exact rfl; (first | exact rfl | omega); exact hok; omega; exact rfl) | (apply G1_loadEl1 (q := e) (e := eByte); exact T.p5; exact rfl; exact hC2; exact hx; exact rfl; exact rfl; exact rfl) | (apply G1_indexAddrJ (q := e + 1); exact T.s22; exact rfl; exact rfl; (first | exact rfl | omega); exact hok; omega; exact rfl) | (apply G1_loadEl1 (q := e + 1) (e := eByte); exact T.p5; exact rfl; exact hC2; exact hy; exact rfl; exact rfl; exact rfl) | (apply G1_sliceBothJ (q := k + 1) (r := e); exact T.s22; exact rfl; exact rfl; exact rfl; omega; exact rfl; omega; omega; exact rfl) | (apply G1_toStringL (bs := s); exact T.s22; exact T.i5; exact T.str9; exact rfl; omega; exact hS; exact rfl) | (apply G1_call (f := 48); exact rfl; exact rfl; exact rfl; exact (rparse_yes hIs); rintro _ w3 ⟨rfl, hx3⟩; refine ⟨(by first | exact .inl rfl | exact .inr (by assumption)), ?_⟩; (first | replace hA2 := hA2.ext hx3 | replace hA2 := hA2.ext ((Ext.drew Ext.rfl').trans hx3))) | (apply G1_indexAddrJ (q := k); exact T.s22; exact rfl; exact rfl; (first | exact rfl | omega); exact hok; omega; exact rfl) | (apply G1_loadEl1 (q := k) (e := eByte); exact T.p5; exact rfl; exact (hC2.ext (by repeat first | assumption | exact Ext.rfl' | apply Ext.drew | apply Ext.alloc | refine Ext.trans ?_ (by assumption))); exact hm; exact rfl; exact rfl; exact rfl) | (apply G1_build (.agg (eRep.enc (leafR 4 ⟨#[]⟩ 0)).toArray); exact rfl; exact bldK _; exact rfl) | (apply G1_seqlT; exact rfl; exact rfl; exact hm1y; exact rfl) | (apply G1_add; exact rfl; exact rfl; omega; omega; exact rfl) | (apply G1_len; exact T.s22; exact rfl; exact rfl) | ((first | apply G1_lss | apply G1_neq | apply G1_geq | apply G1_extract); exact rfl; exact rfl; exact rfl) | (apply G1_pick_t; exact rfl; exact rfl; exact rfl) | (apply G1_pick_f; exact rfl; exact rfl; exact rfl) | (apply G1_eql; exact rfl; exact rfl; exact rfl)) | apply G_nil | apply Post_next | apply W_seq | apply W_region | (apply W_cond_true; exact rfl) | (apply W_cond_dec; exact rfl; all_goals (intro h; try (exfalso; omega))) | ((fail_if_success (apply G_on; exact rfl)); apply G_split_dec; exact rfl; exact rfl; all_goals (intro h; try (exfalso; omega))) | apply W_skip | apply W_exit | apply W_block | apply Post_then_exit | apply Post_block_exit)
        apply G_on; exact rfl; apply G1_storeB; exact T.z31; exact rfl; exact rfl; exact hA2; exact rfl; exact rfl; (first | exact Nat.le_of_ble_eq_true rfl | (focus (simp [Value.cells]; done))); (first | exact Enc.one _ _ | (focus (simp [Value.oneCell']; done)) | (focus (simp [Value.cells, Value.oneCell']; done)) | exact Enc.oneAgg _ _); exact rfl; (first | exact .inl rfl | exact .inr (by simp [exempt])); exact rfl; intro wf hAf hgf hsf
        replace hAf : Blk wf.heap a6 31 (eRep.enc (leafR 4 ⟨#[]⟩ 0)) := hAf
        have xf : Ext w wf := (show Ext w w3 from (by repeat first | assumption | exact Ext.rfl' | apply Ext.drew | apply Ext.alloc | refine Ext.trans ?_ (by assumption))).own hgf (fun q hq => by injection hq with hq; omega)
        repeat' (first | (apply G_on; exact rfl; (apply G1_assign; exact rfl; exact rfl)) | apply G_nil | apply Post_next | apply W_ret | apply Post_then_ret | apply Post_block_ret)
        refine Post_ret Tryz.results16 ⟨_, _, _, rfl, rfl, run_loadVar_box T.a31 (by assumption) rfl, _, _, rfl, rfl, rfl⟩ ?_
        refine ⟨xf, .inl ⟨.mk 4 ⟨#[]⟩ 0 [], s.length + 3, leafR 4 ⟨#[]⟩ 0, ?_, (by rw [← hk1, hk1e]; rfl), leaf_at nil_size fit0⟩⟩
        rw [hcs]
        exact rdT_leaf (hrd.trans (by unfold rdLine; rw [if_neg m0, if_neg m1, hnum]; simp only; rw [if_neg m2, if_pos m3, if_pos hn1]))
      · have hm1x : ¬ mkStr s = ⟨#[45, 49]⟩ := fun h => hn1 (hm1n.1 h)
        have hbad : ¬ (0 ≤ n ∧ n ≤ ((bs.drop k1).length : Int) ∧ ((bs.drop k1).drop n.toNat).take 2 = [13, 10]) → rdHead cs = .none := fun h => hrd.trans (by unfold rdLine; rw [if_neg m0, if_neg m1, hnum]; simp only; rw [if_neg m2, if_pos m3, if_neg hn1, if_neg h])
        by_cases hin : 0 ≤ n ∧ n ≤ (bs.length : Int) ∧ (k1 : Int) + n + 2 ≤ bs.length
        rotate_left
        · have hno : rdHead cs = .none := hbad (fun h => hin (by
            have h1 := congrArg List.length h.2.2
            simp only [List.length_take, List.length_drop, List.length_cons, List.length_nil] at h1
            omega))
          repeat' (first | (apply G_on; exact rfl; first | ((first | apply G1_assign | apply G1_move); exact rfl; exact rfl) | (apply G1_indexAddrJ (q := e); exact T.s22; exact rfl; exact rfl; (first | exact rfl | omega); exact hok; omega; exact rfl) | (apply G1_loadEl1 (q := e) (e := eByte); exact T.p5; exact rfl; exact hC2; exact hx; exact rfl; exact rfl; exact rfl) | (apply G1_indexAddrJ (q := e + 1); exact T.s22; exact rfl; exact rfl; (first | exact rfl | omega); exact hok; omega; exact rfl) | (apply G1_loadEl1 (q := e + 1) (e := eByte); exact T.p5; exact rfl; exact hC2; exact hy; exact rfl; exact rfl; exact rfl) | (apply G1_sliceBothJ (q := k + 1) (r := e); exact T.s22; exact rfl; exact rfl; exact rfl; omega; exact rfl; omega; omega; exact rfl) | (apply G1_toStringL (bs := s); exact T.s22; exact T.i5; exact T.str9; exact rfl; omega; exact hS; exact rfl) | (apply G1_call (f := 48); exact rfl; exact rfl; exact rfl; exact (rparse_yes hIs); rintro _ w3 ⟨rfl, hx3⟩; refine ⟨(by first | exact .inl rfl | exact .inr (by assumption)), ?_⟩; (first | replace hA2 := hA2.ext hx3 | replace hA2 := hA2.ext ((Ext.drew Ext.rfl').trans hx3))) | (apply G1_indexAddrJ (q := k); exact T.s22; exact rfl; exact rfl; (first | exact rfl | omega); exact hok; omega; exact rfl) | (apply G1_loadEl1 (q := k) (e := eByte); exact T.p5; exact rfl; exact (hC2.ext (by repeat first | assumption | exact Ext.rfl' | apply Ext.drew | apply Ext.alloc | refine Ext.trans ?_ (by assumption))); exact hm; exact rfl; exact rfl; exact rfl) | (apply G1_build (.agg (eRep.enc zRep).toArray); exact rfl; exact bldZ; exact rfl) | (apply G1_seqlF; exact rfl; exact rfl; exact hm1x; exact rfl) | (apply G1_add; exact rfl; exact rfl; omega; omega; exact rfl) | (apply G1_len; exact T.s22; exact rfl; exact rfl) | ((first | apply G1_lss | apply G1_neq | apply G1_geq | apply G1_extract | apply G1_gtr); exact rfl; exact rfl; exact rfl) | (apply G1_pick_t; exact rfl; exact rfl; exact rfl) | (apply G1_pick_f; exact rfl; exact rfl; exact rfl) | (apply G1_eql; exact rfl; exact rfl; exact rfl) | (apply G1_not_t; exact rfl; exact rfl)) | apply G_nil | apply Post_next | apply W_seq | apply W_region | (apply W_cond_true; exact rfl) | (apply W_cond_false; exact rfl) | (apply W_cond_dec; exact rfl; all_goals (intro h; try (exfalso; omega))) | (apply G_off; exact rfl; exact rfl) | ((fail_if_success (apply G_on; exact rfl)); apply G_split_dec; exact rfl; exact rfl; all_goals (intro h; try (exfalso; omega))) | apply W_skip | apply W_exit | apply W_block | apply Post_then_exit | apply Post_block_exit)
          all_goals try (exfalso; omega)
          all_goals
            apply G_on; exact rfl; apply G1_storeB; exact T.z31; exact rfl; exact rfl; exact hA2; exact rfl; exact rfl; (first | exact Nat.le_of_ble_eq_true rfl | (focus (simp [Value.cells]; done))); (first | exact Enc.one _ _ | (focus (simp [Value.oneCell']; done)) | (focus (simp [Value.cells, Value.oneCell']; done)) | exact Enc.oneAgg _ _); exact rfl; (first | exact .inl rfl | exact .inr (by simp [exempt])); exact rfl; intro wf hAf hgf hsf
            replace hAf : Blk wf.heap a6 31 (eRep.enc zRep) := hAf
            have xf : Ext w wf := (show Ext w w3 from (by repeat first | assumption | exact Ext.rfl' | apply Ext.drew | apply Ext.alloc | refine Ext.trans ?_ (by assumption))).own hgf (fun q hq => by injection hq with hq; omega)
            repeat' (first | (apply G_on; exact rfl; (apply G1_assign; exact rfl; exact rfl)) | apply G_nil | apply Post_next | apply W_ret | apply Post_then_ret | apply Post_block_ret)
            refine Post_ret Tryz.results16 ⟨_, _, _, rfl, rfl, run_loadVar_box T.a31 (by assumption) rfl, _, _, rfl, rfl, rfl⟩ ?_
            refine ⟨xf, .inr ⟨?_, rfl⟩⟩
            rw [hcs]
            exact rdT_none hno
        obtain ⟨u, hu⟩ : ∃ u : Nat, n = (u : Int) := ⟨n.toNat, by omega⟩
        subst hu
        obtain ⟨x2, hx2'⟩ := get_some (xs := bs) (k := k1 + u) (by omega)
        obtain ⟨y2, hy2'⟩ := get_some (xs := bs) (k := k1 + u + 1) (by omega)
        have hdu : ((bs.drop k1).drop ((u : Int)).toNat).take 2 = [x2, y2] := by
          rw [Int.toNat_natCast, List.drop_drop, drop_at hx2', drop_at hy2']; rfl
        by_cases hp2 : x2 = 13 ∧ y2 = 10
        · have hx2i : (x2.toNat : Int) = 13 := by rw [hp2.1]; rfl
          have hy2i : (y2.toNat : Int) = 10 := by rw [hp2.2]; rfl
          have hok2 : 0 ≤ (u : Int) ∧ (u : Int) ≤ ((bs.drop k1).length : Int) ∧ ((bs.drop k1).drop ((u : Int)).toNat).take 2 = [13, 10] := ⟨by omega, by omega, by rw [hdu, hp2.1, hp2.2]⟩
          have hS2 : Sl w2.heap eByte (subp p c k1 1) (c - k1) ((bs.drop k1).take u) := (hC2.drop (l := k1) (by omega)).take u
          have hsz : (mkStr ((bs.drop k1).take u)).size = u := by rw [mkStr_size, List.length_take]; omega
          repeat' (first | (apply G_on; exact rfl; first | ((first | apply G1_assign | apply G1_move); exact rfl; exact rfl) | (apply G1_indexAddrJ (q := e); exact T.s22; exact rfl; exact rfl; (first | exact rfl | omega); exact hok; omega; exact rfl) | (apply G1_loadEl1 (q := e) (e := eByte); exact T.p5; exact rfl; exact hC2; exact hx; exact rfl; exact rfl; exact rfl) | (apply G1_indexAddrJ (q := e + 1); exact T.s22; exact rfl; exact rfl; (first | exact rfl | omega); exact hok; omega; exact rfl) | (apply G1_loadEl1 (q := e + 1) (e := eByte); exact T.p5; exact rfl; exact hC2; exact hy; exact rfl; exact rfl; exact rfl) | (apply G1_sliceBothJ (q := k + 1) (r := e); exact T.s22; exact rfl; exact rfl; exact rfl; omega; exact rfl; omega; omega; exact rfl) | (apply G1_toStringL (bs := s); exact T.s22; exact T.i5; exact T.str9; exact rfl; omega; exact hS; exact rfl) | (apply G1_call (f := 48); exact rfl; exact rfl; exact rfl; exact (rparse_yes hIs); rintro _ w3 ⟨rfl, hx3⟩; refine ⟨(by first | exact .inl rfl | exact .inr (by assumption)), ?_⟩; (first | replace hA2 := hA2.ext hx3 | replace hA2 := hA2.ext ((Ext.drew Ext.rfl').trans hx3))) | (apply G1_indexAddrJ (q := k); exact T.s22; exact rfl; exact rfl; (first | exact rfl | omega); exact hok; omega; exact rfl) | (apply G1_loadEl1 (q := k) (e := eByte); exact T.p5; exact rfl; exact (hC2.ext (by repeat first | assumption | exact Ext.rfl' | apply Ext.drew | apply Ext.alloc | refine Ext.trans ?_ (by assumption))); exact hm; exact rfl; exact rfl; exact rfl) | (apply G1_indexAddrJ (q := k1 + u); exact T.s22; exact rfl; exact rfl; (first | exact rfl | omega); exact hok; omega; exact rfl) | (apply G1_loadEl1 (q := k1 + u) (e := eByte); exact T.p5; exact rfl; exact (hC2.ext (by repeat first | assumption | exact Ext.rfl' | apply Ext.drew | apply Ext.alloc | refine Ext.trans ?_ (by assumption))); exact hx2'; exact rfl; exact rfl; exact rfl) | (apply G1_indexAddrJ (q := k1 + u + 1); exact T.s22; exact rfl; exact rfl; (first | exact rfl | omega); exact hok; omega; exact rfl) | (apply G1_loadEl1 (q := k1 + u + 1) (e := eByte); exact T.p5; exact rfl; exact (hC2.ext (by repeat first | assumption | exact Ext.rfl' | apply Ext.drew | apply Ext.alloc | refine Ext.trans ?_ (by assumption))); exact hy2'; exact rfl; exact rfl; exact rfl) | (apply G1_sliceBothJ (q := k1) (r := k1 + u); exact T.s22; exact rfl; exact rfl; exact rfl; omega; omega; omega; omega; exact rfl) | (apply G1_toStringL (bs := (bs.drop k1).take u); exact T.s22; exact T.i5; exact T.str9; exact rfl; (rw [List.length_take]; omega); exact hS2.ext (by repeat first | assumption | exact Ext.rfl' | apply Ext.drew | apply Ext.alloc | refine Ext.trans ?_ (by assumption)); exact rfl) | (apply G1_build (.agg (eRep.enc (leafR 3 (mkStr ((bs.drop k1).take u)) 0)).toArray); exact rfl; exact bldKS _ _; exact rfl) | (apply G1_seqlF; exact rfl; exact rfl; exact hm1x; exact rfl) | (apply G1_add; exact rfl; exact rfl; omega; omega; exact rfl) | (apply G1_len; exact T.s22; exact rfl; exact rfl) | ((first | apply G1_lss | apply G1_neq | apply G1_geq | apply G1_extract | apply G1_gtr); exact rfl; exact rfl; exact rfl) | (apply G1_pick_t; exact rfl; exact rfl; exact rfl) | (apply G1_pick_f; exact rfl; exact rfl; exact rfl) | (apply G1_eql; exact rfl; exact rfl; exact rfl) | (apply G1_not_t; exact rfl; exact rfl)) | apply G_nil | apply Post_next | apply W_seq | apply W_region | (apply W_cond_false; exact rfl) | (apply W_cond_dec; exact rfl; all_goals (intro h; try (exfalso; omega))) | ((fail_if_success (apply G_on; exact rfl)); apply G_split_dec; exact rfl; exact rfl; all_goals (intro h; try (exfalso; omega))) | apply W_skip | apply W_exit | apply W_block | apply Post_then_exit | apply Post_block_exit)
          all_goals try (exfalso; omega)
          apply G_on; exact rfl; apply G1_storeB; exact T.z31; exact rfl; exact rfl; exact hA2; exact rfl; exact rfl; (first | exact Nat.le_of_ble_eq_true rfl | (focus (simp [Value.cells]; done))); (first | exact Enc.one _ _ | (focus (simp [Value.oneCell']; done)) | (focus (simp [Value.cells, Value.oneCell']; done)) | exact Enc.oneAgg _ _); exact rfl; (first | exact .inl rfl | exact .inr (by simp [exempt])); exact rfl; intro wf hAf hgf hsf
          replace hAf : Blk wf.heap a6 31 (eRep.enc (leafR 3 (mkStr ((bs.drop k1).take u)) 0)) := hAf
          have xf : Ext w wf := (show Ext w w3 from (by repeat first | assumption | exact Ext.rfl' | apply Ext.drew | apply Ext.alloc | refine Ext.trans ?_ (by assumption))).own hgf (fun q hq => by injection hq with hq; omega)
          repeat' (first | (apply G_on; exact rfl; (apply G1_assign; exact rfl; exact rfl)) | apply G_nil | apply Post_next | apply W_ret | apply Post_then_ret | apply Post_block_ret)
          refine Post_ret Tryz.results16 ⟨_, _, _, rfl, rfl, run_loadVar_box T.a31 (by assumption) rfl, _, _, rfl, rfl, rfl⟩ ?_
          refine ⟨xf, .inl ⟨.mk 3 (mkStr ((bs.drop k1).take u)) 0 [], s.length + 3 + u + 2, leafR 3 (mkStr ((bs.drop k1).take u)) 0, ?_, ?_, leaf_at (by omega) fit0⟩⟩
          · rw [hcs]
            exact rdT_leaf (hrd.trans (by unfold rdLine; rw [if_neg m0, if_neg m1, hnum]; simp only; rw [if_neg m2, if_pos m3, if_neg hn1, if_pos hok2, Int.toNat_natCast]))
          · rw [show ((k + (s.length + 3 + u + 2) : Nat) : Int) = (e : Int) + 2 + (u : Int) + 2 by omega]
            rfl
        · have hno : rdHead cs = .none := hbad (fun h => hp2 (by
            rw [hdu] at h
            simp only [List.cons.injEq, and_true] at h
            exact h.2.2))
          have hxy : ¬ (x2.toNat : Int) = 13 ∨ ¬ (y2.toNat : Int) = 10 := by
            by_cases h1 : x2 = 13
            · exact .inr (u8_ne (c := 10) (fun h2 => hp2 ⟨h1, h2⟩))
            · exact .inl (u8_ne (c := 13) h1)
          repeat' (first | (apply G_on; exact rfl; first | ((first | apply G1_assign | apply G1_move); exact rfl; exact rfl) | (apply G1_indexAddrJ (q := e); exact T.s22; exact rfl; exact rfl; (first | exact rfl | omega); exact hok; omega; exact rfl) | (apply G1_loadEl1 (q := e) (e := eByte); exact T.p5; exact rfl; exact hC2; exact hx; exact rfl; exact rfl; exact rfl) | (apply G1_indexAddrJ (q := e + 1); exact T.s22; exact rfl; exact rfl; (first | exact rfl | omega); exact hok; omega; exact rfl) | (apply G1_loadEl1 (q := e + 1) (e := eByte); exact T.p5; exact rfl; exact hC2; exact hy; exact rfl; exact rfl; exact rfl) | (apply G1_sliceBothJ (q := k + 1) (r := e); exact T.s22; exact rfl; exact rfl; exact rfl; omega; exact rfl; omega; omega; exact rfl) | (apply G1_toStringL (bs := s); exact T.s22; exact T.i5; exact T.str9; exact rfl; omega; exact hS; exact rfl) | (apply G1_call (f := 48); exact rfl; exact rfl; exact rfl; exact (rparse_yes hIs); rintro _ w3 ⟨rfl, hx3⟩; refine ⟨(by first | exact .inl rfl | exact .inr (by assumption)), ?_⟩; (first | replace hA2 := hA2.ext hx3 | replace hA2 := hA2.ext ((Ext.drew Ext.rfl').trans hx3))) | (apply G1_indexAddrJ (q := k); exact T.s22; exact rfl; exact rfl; (first | exact rfl | omega); exact hok; omega; exact rfl) | (apply G1_loadEl1 (q := k) (e := eByte); exact T.p5; exact rfl; exact (hC2.ext (by repeat first | assumption | exact Ext.rfl' | apply Ext.drew | apply Ext.alloc | refine Ext.trans ?_ (by assumption))); exact hm; exact rfl; exact rfl; exact rfl) | (apply G1_indexAddrJ (q := k1 + u); exact T.s22; exact rfl; exact rfl; (first | exact rfl | omega); exact hok; omega; exact rfl) | (apply G1_loadEl1 (q := k1 + u) (e := eByte); exact T.p5; exact rfl; exact (hC2.ext (by repeat first | assumption | exact Ext.rfl' | apply Ext.drew | apply Ext.alloc | refine Ext.trans ?_ (by assumption))); exact hx2'; exact rfl; exact rfl; exact rfl) | (apply G1_indexAddrJ (q := k1 + u + 1); exact T.s22; exact rfl; exact rfl; (first | exact rfl | omega); exact hok; omega; exact rfl) | (apply G1_loadEl1 (q := k1 + u + 1) (e := eByte); exact T.p5; exact rfl; exact (hC2.ext (by repeat first | assumption | exact Ext.rfl' | apply Ext.drew | apply Ext.alloc | refine Ext.trans ?_ (by assumption))); exact hy2'; exact rfl; exact rfl; exact rfl) | (apply G1_build (.agg (eRep.enc zRep).toArray); exact rfl; exact bldZ; exact rfl) | (apply G1_seqlF; exact rfl; exact rfl; exact hm1x; exact rfl) | (apply G1_add; exact rfl; exact rfl; omega; omega; exact rfl) | (apply G1_len; exact T.s22; exact rfl; exact rfl) | ((first | apply G1_lss | apply G1_neq | apply G1_geq | apply G1_extract | apply G1_gtr); exact rfl; exact rfl; exact rfl) | (apply G1_pick_t; exact rfl; exact rfl; exact rfl) | (apply G1_pick_f; exact rfl; exact rfl; exact rfl) | (apply G1_eql; exact rfl; exact rfl; exact rfl) | (apply G1_not_t; exact rfl; exact rfl)) | apply G_nil | apply Post_next | apply W_seq | apply W_region | (apply W_cond_true; exact rfl) | (apply W_cond_false; exact rfl) | (apply W_cond_dec; exact rfl; all_goals (intro h; try (exfalso; omega))) | (apply G_off; exact rfl; exact rfl) | ((fail_if_success (apply G_on; exact rfl)); apply G_split_dec; exact rfl; exact rfl; all_goals (intro h; try (exfalso; omega))) | apply W_skip | apply W_exit | apply W_block | apply Post_then_exit | apply Post_block_exit)
          all_goals try (exfalso; omega)
          all_goals
            apply G_on; exact rfl; apply G1_storeB; exact T.z31; exact rfl; exact rfl; exact hA2; exact rfl; exact rfl; (first | exact Nat.le_of_ble_eq_true rfl | (focus (simp [Value.cells]; done))); (first | exact Enc.one _ _ | (focus (simp [Value.oneCell']; done)) | (focus (simp [Value.cells, Value.oneCell']; done)) | exact Enc.oneAgg _ _); exact rfl; (first | exact .inl rfl | exact .inr (by simp [exempt])); exact rfl; intro wf hAf hgf hsf
            replace hAf : Blk wf.heap a6 31 (eRep.enc zRep) := hAf
            have xf : Ext w wf := (show Ext w w3 from (by repeat first | assumption | exact Ext.rfl' | apply Ext.drew | apply Ext.alloc | refine Ext.trans ?_ (by assumption))).own hgf (fun q hq => by injection hq with hq; omega)
            repeat' (first | (apply G_on; exact rfl; (apply G1_assign; exact rfl; exact rfl)) | apply G_nil | apply Post_next | apply W_ret | apply Post_then_ret | apply Post_block_ret)
            refine Post_ret Tryz.results16 ⟨_, _, _, rfl, rfl, run_loadVar_box T.a31 (by assumption) rfl, _, _, rfl, rfl, rfl⟩ ?_
            refine ⟨xf, .inr ⟨?_, rfl⟩⟩
            rw [hcs]
            exact rdT_none hno
    have hm3 : ¬ (m.toNat : Int) = 36 := u8_ne m3
    by_cases m4 : m = 42
    rotate_left
    · have hm4 : ¬ (m.toNat : Int) = 42 := u8_ne m4
      have hno : rdHead cs = .none := head_none hcd hce (fun _ => by unfold rdLine; rw [if_neg m0, if_neg m1, hnum]; simp only; rw [if_neg m2, if_neg m3, if_neg (fun h => m4 h.1)])
      repeat' (first | (apply G_on; exact rfl; first | ((first | apply G1_assign | apply G1_move); exact rfl; exact rfl) | (apply G1_indexAddrJ (q := e); exact T.s22; exact rfl; exact rfl; (first | exact rfl | omega); exact hok; omega; exact rfl) | (apply G1_loadEl1 (q := e) (e := eByte); exact T.p5; exact rfl; exact hC2; exact hx; exact rfl; exact rfl; exact rfl) | (apply G1_indexAddrJ (q := e + 1); exact T.s22; exact rfl; exact rfl; (first | exact rfl | omega); exact hok; omega; exact rfl) | (apply G1_loadEl1 (q := e + 1) (e := eByte); exact T.p5; exact rfl; exact hC2; exact hy; exact rfl; exact rfl; exact rfl) | (apply G1_sliceBothJ (q := k + 1) (r := e); exact T.s22; exact rfl; exact rfl; exact rfl; omega; exact rfl; omega; omega; exact rfl) | (apply G1_toStringL (bs := s); exact T.s22; exact T.i5; exact T.str9; exact rfl; omega; exact hS; exact rfl) | (apply G1_call (f := 48); exact rfl; exact rfl; exact rfl; exact (rparse_yes hIs); rintro _ w3 ⟨rfl, hx3⟩; refine ⟨(by first | exact .inl rfl | exact .inr (by assumption)), ?_⟩; (first | replace hA2 := hA2.ext hx3 | replace hA2 := hA2.ext ((Ext.drew Ext.rfl').trans hx3))) | (apply G1_indexAddrJ (q := k); exact T.s22; exact rfl; exact rfl; (first | exact rfl | omega); exact hok; omega; exact rfl) | (apply G1_loadEl1 (q := k) (e := eByte); exact T.p5; exact rfl; exact (hC2.ext (by repeat first | assumption | exact Ext.rfl' | apply Ext.drew | apply Ext.alloc | refine Ext.trans ?_ (by assumption))); exact hm; exact rfl; exact rfl; exact rfl) | (apply G1_build (.agg (eRep.enc zRep).toArray); exact rfl; exact bldZ; exact rfl) | (apply G1_add; exact rfl; exact rfl; omega; omega; exact rfl) | (apply G1_len; exact T.s22; exact rfl; exact rfl) | ((first | apply G1_lss | apply G1_neq | apply G1_geq | apply G1_extract); exact rfl; exact rfl; exact rfl) | (apply G1_pick_t; exact rfl; exact rfl; exact rfl) | (apply G1_pick_f; exact rfl; exact rfl; exact rfl) | (apply G1_eql; exact rfl; exact rfl; exact rfl)) | apply G_nil | apply Post_next | apply W_seq | apply W_region | (apply W_cond_dec; exact rfl; all_goals (intro h; try (exfalso; omega))) | ((fail_if_success (apply G_on; exact rfl)); apply G_split_dec; exact rfl; exact rfl; all_goals (intro h; try (exfalso; omega))) | apply W_skip | apply W_exit | apply W_block | apply Post_then_exit | apply Post_block_exit | apply Post_block_normal)
      apply G_on; exact rfl; apply G1_storeB; exact T.z31; exact rfl; exact rfl; exact hA2; exact rfl; exact rfl; (first | exact Nat.le_of_ble_eq_true rfl | (focus (simp [Value.cells]; done))); (first | exact Enc.one _ _ | (focus (simp [Value.oneCell']; done)) | (focus (simp [Value.cells, Value.oneCell']; done)) | exact Enc.oneAgg _ _); exact rfl; (first | exact .inl rfl | exact .inr (by simp [exempt])); exact rfl; intro wf hAf hgf hsf
      replace hAf : Blk wf.heap a6 31 (eRep.enc zRep) := hAf
      have xf : Ext w wf := (show Ext w w3 from (by repeat first | assumption | exact Ext.rfl' | apply Ext.drew | apply Ext.alloc | refine Ext.trans ?_ (by assumption))).own hgf (fun q hq => by injection hq with hq; omega)
      repeat' (first | (apply G_on; exact rfl; (apply G1_assign; exact rfl; exact rfl)) | apply G_nil | apply Post_next | apply W_ret)
      refine Post_ret Tryz.results16 ⟨_, _, _, rfl, rfl, run_loadVar_box T.a31 (by assumption) rfl, _, _, rfl, rfl, rfl⟩ ?_
      refine ⟨xf, .inr ⟨?_, rfl⟩⟩
      rw [hcs]
      exact rdT_none hno
    have hmm : (m.toNat : Int) = 42 := by rw [m4]; rfl
    have hpl : Plain m s := plain_num (by rw [m4]; decide) hIs
    have hrd := (head_find hcd hce).1 hpl
    by_cases hn0 : 0 ≤ n
    rotate_left
    · have hno : rdHead cs = .none := hrd.trans (by unfold rdLine; rw [if_neg m0, if_neg m1, hnum]; simp only; rw [if_neg m2, if_neg m3, if_neg (fun h => hn0 h.2)])
      repeat' (first | (apply G_on; exact rfl; first | ((first | apply G1_assign | apply G1_move); exact rfl; exact rfl) | (apply G1_indexAddrJ (q := e); exact T.s22; exact rfl; exact rfl; (first | exact rfl | omega); exact hok; omega; exact rfl) | (apply G1_loadEl1 (q := e) (e := eByte); exact T.p5; exact rfl; exact hC2; exact hx; exact rfl; exact rfl; exact rfl) | (apply G1_indexAddrJ (q := e + 1); exact T.s22; exact rfl; exact rfl; (first | exact rfl | omega); exact hok; omega; exact rfl) | (apply G1_loadEl1 (q := e + 1) (e := eByte); exact T.p5; exact rfl; exact hC2; exact hy; exact rfl; exact rfl; exact rfl) | (apply G1_sliceBothJ (q := k + 1) (r := e); exact T.s22; exact rfl; exact rfl; exact rfl; omega; exact rfl; omega; omega; exact rfl) | (apply G1_toStringL (bs := s); exact T.s22; exact T.i5; exact T.str9; exact rfl; omega; exact hS; exact rfl) | (apply G1_call (f := 48); exact rfl; exact rfl; exact rfl; exact (rparse_yes hIs); rintro _ w3 ⟨rfl, hx3⟩; refine ⟨(by first | exact .inl rfl | exact .inr (by assumption)), ?_⟩; (first | replace hA2 := hA2.ext hx3 | replace hA2 := hA2.ext ((Ext.drew Ext.rfl').trans hx3))) | (apply G1_indexAddrJ (q := k); exact T.s22; exact rfl; exact rfl; (first | exact rfl | omega); exact hok; omega; exact rfl) | (apply G1_loadEl1 (q := k) (e := eByte); exact T.p5; exact rfl; exact (hC2.ext (by repeat first | assumption | exact Ext.rfl' | apply Ext.drew | apply Ext.alloc | refine Ext.trans ?_ (by assumption))); exact hm; exact rfl; exact rfl; exact rfl) | (apply G1_build (.agg (eRep.enc zRep).toArray); exact rfl; exact bldZ; exact rfl) | (apply G1_add; exact rfl; exact rfl; omega; omega; exact rfl) | (apply G1_len; exact T.s22; exact rfl; exact rfl) | ((first | apply G1_lss | apply G1_neq | apply G1_geq | apply G1_extract); exact rfl; exact rfl; exact rfl) | (apply G1_pick_t; exact rfl; exact rfl; exact rfl) | (apply G1_pick_f; exact rfl; exact rfl; exact rfl) | (apply G1_eql; exact rfl; exact rfl; exact rfl) | (apply G1_not_t; exact rfl; exact rfl)) | apply G_nil | apply Post_next | apply W_seq | apply W_region | (apply W_cond_true; exact rfl) | (apply W_cond_dec; exact rfl; all_goals (intro h; try (exfalso; omega))) | (apply G_off; exact rfl; exact rfl) | ((fail_if_success (apply G_on; exact rfl)); apply G_split_dec; exact rfl; exact rfl; all_goals (intro h; try (exfalso; omega))) | apply W_skip | apply W_exit | apply W_block | apply Post_then_exit | apply Post_block_exit)
      all_goals
        apply G_on; exact rfl; apply G1_storeB; exact T.z31; exact rfl; exact rfl; exact hA2; exact rfl; exact rfl; (first | exact Nat.le_of_ble_eq_true rfl | (focus (simp [Value.cells]; done))); (first | exact Enc.one _ _ | (focus (simp [Value.oneCell']; done)) | (focus (simp [Value.cells, Value.oneCell']; done)) | exact Enc.oneAgg _ _); exact rfl; (first | exact .inl rfl | exact .inr (by simp [exempt])); exact rfl; intro wf hAf hgf hsf
        replace hAf : Blk wf.heap a6 31 (eRep.enc zRep) := hAf
        have xf : Ext w wf := (show Ext w w3 from (by repeat first | assumption | exact Ext.rfl' | apply Ext.drew | apply Ext.alloc | refine Ext.trans ?_ (by assumption))).own hgf (fun q hq => by injection hq with hq; omega)
        repeat' (first | (apply G_on; exact rfl; (apply G1_assign; exact rfl; exact rfl)) | apply G_nil | apply Post_next | apply W_ret | apply Post_then_ret | apply Post_block_ret)
        refine Post_ret Tryz.results16 ⟨_, _, _, rfl, rfl, run_loadVar_box T.a31 (by assumption) rfl, _, _, rfl, rfl, rfl⟩ ?_
        refine ⟨xf, .inr ⟨?_, rfl⟩⟩
        rw [hcs]
        exact rdT_none hno
    have hrl : rdHead cs = .list n.toNat (s.length + 3) := hrd.trans (by unfold rdLine; rw [if_neg m0, if_neg m1, hnum]; simp only; rw [if_neg m2, if_neg m3, if_pos ⟨m4, hn0⟩])
    by_cases hnl : n ≤ (bs.length : Int)
    rotate_left
    · repeat' (first | (apply G_on; exact rfl; first | ((first | apply G1_assign | apply G1_move); exact rfl; exact rfl) | (apply G1_indexAddrJ (q := e); exact T.s22; exact rfl; exact rfl; (first | exact rfl | omega); exact hok; omega; exact rfl) | (apply G1_loadEl1 (q := e) (e := eByte); exact T.p5; exact rfl; exact hC2; exact hx; exact rfl; exact rfl; exact rfl) | (apply G1_indexAddrJ (q := e + 1); exact T.s22; exact rfl; exact rfl; (first | exact rfl | omega); exact hok; omega; exact rfl) | (apply G1_loadEl1 (q := e + 1) (e := eByte); exact T.p5; exact rfl; exact hC2; exact hy; exact rfl; exact rfl; exact rfl) | (apply G1_sliceBothJ (q := k + 1) (r := e); exact T.s22; exact rfl; exact rfl; exact rfl; omega; exact rfl; omega; omega; exact rfl) | (apply G1_toStringL (bs := s); exact T.s22; exact T.i5; exact T.str9; exact rfl; omega; exact hS; exact rfl) | (apply G1_call (f := 48); exact rfl; exact rfl; exact rfl; exact (rparse_yes hIs); rintro _ w3 ⟨rfl, hx3⟩; refine ⟨(by first | exact .inl rfl | exact .inr (by assumption)), ?_⟩; (first | replace hA2 := hA2.ext hx3 | replace hA2 := hA2.ext ((Ext.drew Ext.rfl').trans hx3))) | (apply G1_indexAddrJ (q := k); exact T.s22; exact rfl; exact rfl; (first | exact rfl | omega); exact hok; omega; exact rfl) | (apply G1_loadEl1 (q := k) (e := eByte); exact T.p5; exact rfl; exact (hC2.ext (by repeat first | assumption | exact Ext.rfl' | apply Ext.drew | apply Ext.alloc | refine Ext.trans ?_ (by assumption))); exact hm; exact rfl; exact rfl; exact rfl) | (apply G1_build (.agg (eRep.enc zRep).toArray); exact rfl; exact bldZ; exact rfl) | (apply G1_add; exact rfl; exact rfl; omega; omega; exact rfl) | (apply G1_len; exact T.s22; exact rfl; exact rfl) | ((first | apply G1_lss | apply G1_neq | apply G1_geq | apply G1_extract | apply G1_gtr); exact rfl; exact rfl; exact rfl) | (apply G1_pick_t; exact rfl; exact rfl; exact rfl) | (apply G1_pick_f; exact rfl; exact rfl; exact rfl) | (apply G1_eql; exact rfl; exact rfl; exact rfl) | (apply G1_not_t; exact rfl; exact rfl)) | apply G_nil | apply Post_next | apply W_seq | apply W_region | (apply W_cond_true; exact rfl) | (apply W_cond_dec; exact rfl; all_goals (intro h; try (exfalso; omega))) | (apply G_off; exact rfl; exact rfl) | ((fail_if_success (apply G_on; exact rfl)); apply G_split_dec; exact rfl; exact rfl; all_goals (intro h; try (exfalso; omega))) | apply W_skip | apply W_exit | apply W_block | apply Post_then_exit | apply Post_block_exit)
      all_goals try (exfalso; omega)
      all_goals
        apply G_on; exact rfl; apply G1_storeB; exact T.z31; exact rfl; exact rfl; exact hA2; exact rfl; exact rfl; (first | exact Nat.le_of_ble_eq_true rfl | (focus (simp [Value.cells]; done))); (first | exact Enc.one _ _ | (focus (simp [Value.oneCell']; done)) | (focus (simp [Value.cells, Value.oneCell']; done)) | exact Enc.oneAgg _ _); exact rfl; (first | exact .inl rfl | exact .inr (by simp [exempt])); exact rfl; intro wf hAf hgf hsf
        replace hAf : Blk wf.heap a6 31 (eRep.enc zRep) := hAf
        have xf : Ext w wf := (show Ext w w3 from (by repeat first | assumption | exact Ext.rfl' | apply Ext.drew | apply Ext.alloc | refine Ext.trans ?_ (by assumption))).own hgf (fun q hq => by injection hq with hq; omega)
        repeat' (first | (apply G_on; exact rfl; (apply G1_assign; exact rfl; exact rfl)) | apply G_nil | apply Post_next | apply W_ret | apply Post_then_ret | apply Post_block_ret)
        refine Post_ret Tryz.results16 ⟨_, _, _, rfl, rfl, run_loadVar_box T.a31 (by assumption) rfl, _, _, rfl, rfl, rfl⟩ ?_
        refine ⟨xf, .inr ⟨?_, rfl⟩⟩
        rw [hcs]
        rw [rdT_list hrl]
        cases e1 : rdL (rdT d) n.toNat (cs.drop (s.length + 3)) with
        | none => rfl
        | some z =>
          have h1 := rdL_len (rdT_len d) _ _ z.1 z.2 e1
          rw [List.length_drop] at h1
          omega
    repeat' (first | (apply G_on; exact rfl; first | ((first | apply G1_assign | apply G1_move); exact rfl; exact rfl) | (apply G1_indexAddrJ (q := e); exact T.s22; exact rfl; exact rfl; (first | exact rfl | omega); exact hok; omega; exact rfl) | (apply G1_loadEl1 (q := e) (e := eByte); exact T.p5; exact rfl; exact hC2; exact hx; exact rfl; exact rfl; exact rfl) | (apply G1_indexAddrJ (q := e + 1); exact T.s22; exact rfl; exact rfl; (first | exact rfl | omega); exact hok; omega; exact rfl) | (apply G1_loadEl1 (q := e + 1) (e := eByte); exact T.p5; exact rfl; exact hC2; exact hy; exact rfl; exact rfl; exact rfl) | (apply G1_sliceBothJ (q := k + 1) (r := e); exact T.s22; exact rfl; exact rfl; exact rfl; omega; exact rfl; omega; omega; exact rfl) | (apply G1_toStringL (bs := s); exact T.s22; exact T.i5; exact T.str9; exact rfl; omega; exact hS; exact rfl) | (apply G1_call (f := 48); exact rfl; exact rfl; exact rfl; exact (rparse_yes hIs); rintro _ w3 ⟨rfl, hx3⟩; refine ⟨(by first | exact .inl rfl | exact .inr (by assumption)), ?_⟩; (first | replace hA2 := hA2.ext hx3 | replace hA2 := hA2.ext ((Ext.drew Ext.rfl').trans hx3))) | (apply G1_indexAddrJ (q := k); exact T.s22; exact rfl; exact rfl; (first | exact rfl | omega); exact hok; omega; exact rfl) | (apply G1_loadEl1 (q := k) (e := eByte); exact T.p5; exact rfl; exact (hC2.ext (by repeat first | assumption | exact Ext.rfl' | apply Ext.drew | apply Ext.alloc | refine Ext.trans ?_ (by assumption))); exact hm; exact rfl; exact rfl; exact rfl) | (apply G1_build (.agg (eRep.enc (leafR 5 ⟨#[]⟩ 0)).toArray); exact rfl; exact bldK _; exact rfl) | (apply G1_add; exact rfl; exact rfl; omega; omega; exact rfl) | (apply G1_len; exact T.s22; exact rfl; exact rfl) | ((first | apply G1_lss | apply G1_neq | apply G1_geq | apply G1_extract | apply G1_gtr); exact rfl; exact rfl; exact rfl) | (apply G1_pick_t; exact rfl; exact rfl; exact rfl) | (apply G1_pick_f; exact rfl; exact rfl; exact rfl) | (apply G1_eql; exact rfl; exact rfl; exact rfl) | (apply G1_not_t; exact rfl; exact rfl)) | apply G_nil | apply Post_next | apply W_seq | apply W_region | (apply W_cond_false; exact rfl) | (apply W_cond_dec; exact rfl; all_goals (intro h; try (exfalso; omega))) | ((fail_if_success (apply G_on; exact rfl)); apply G_split_dec; exact rfl; exact rfl; all_goals (intro h; try (exfalso; omega))) | apply W_skip | apply W_exit | apply W_block | apply Post_then_exit | apply Post_block_exit)
    all_goals try (exfalso; omega)
    have la6 := hA2.lt
    apply G_on; exact rfl; apply G1_alloc; exact T.zero31; exact rfl; exact rfl; intro a14 w6 ha14 hA14 hx6 hs6
    replace hA2 := hA2.ext hx6
    skip
    apply G_on; exact rfl; apply G1_storeB; exact T.z31; exact rfl; exact rfl; exact hA14; exact rfl; exact rfl; (first | exact Nat.le_of_ble_eq_true rfl | (focus (simp [Value.cells]; done))); (first | exact Enc.one _ _ | (focus (simp [Value.oneCell']; done)) | (focus (simp [Value.cells, Value.oneCell']; done)) | exact Enc.oneAgg _ _); exact rfl; (first | exact .inl rfl | exact .inr (by simp [exempt])); exact rfl; intro w7 hA7 hg7 hs7
    replace hA7 : Blk w7.heap a14 31 [.int .i64 5, .string ⟨#[]⟩, .int .i64 0, .slice none 0 0] := hA7
    replace hA2 := hA2.grown hg7 (fun e => by injection e; omega)
    have hz3 := hx3.size
    have hx7 : Ext w w7 := (show Ext w w6 from (by repeat first | assumption | exact Ext.rfl' | apply Ext.drew | apply Ext.alloc | refine Ext.trans ?_ (by assumption))).own hg7 (fun q hq => by injection hq with hq; omega)
    have hBw : w.heap.size ≤ w7.heap.size := hx7.size
    have hB5 := hA2.lt
    have hB14 := hA7.lt
    repeat' (first | (apply G_on; exact rfl; (apply G1_assign; exact rfl; exact rfl)) | apply G_nil | apply Post_next | apply W_seq | apply W_region | apply W_block)
    refine W_loop (ι := Nat × Nat × Option Addr × Nat × List RawR × List Rep) (fun y => [(0, .slice p bs.length c), (2, .int .i64 ((d + 1 : Nat) : Int)), (6, .pointer (some (adr (bx a6) 0))), (10, .int .i64 ((k1 + y.2.1 : Nat) : Int)), (11, .int .i64 n), (14, .pointer (some (adr (bx a14) 0))), (15, .int .i64 (y.1 : Int))])
      (fun y w' => Ext w w' ∧ Blk w'.heap a6 31 (eRep.enc zRep) ∧ Blk w'.heap a14 31 [.int .i64 5, .string ⟨#[]⟩, .int .i64 0, .slice y.2.2.1 y.2.2.2.2.1.length y.2.2.2.1] ∧
        Own w' w7.heap.size 31 eRep y.2.2.1 y.2.2.2.1 y.2.2.2.2.1 ∧ y.2.2.2.2.1.length = y.2.2.2.2.2.length ∧
        (∀ (q : Nat) r t, y.2.2.2.2.1[q]? = some r → y.2.2.2.2.2[q]? = some t → RepAt (veil (fun b => b < w7.heap.size ∨ blk y.2.2.1 = some b) w'.heap) (d + 1) r t) ∧
        rdL (rdT d) y.1 (bs.drop k1) = some (y.2.2.2.2.2, y.2.1) ∧ y.1 ≤ n.toNat ∧ w7.heap.size ≤ w'.heap.size) (fun y => n.toNat - y.1) (0, 0, none, 0, [], [])
      ⟨rfl, rfl, rfl, (by show some (Value.int .i64 _) = some (Value.int .i64 ((k1 + 0 : Nat) : Int)); congr 2; omega), rfl, rfl, rfl, trivial⟩
      ⟨hx7, hA2, hA7, Own.nil _ _ _ _, rfl, fun q r t hq => by simp at hq, rfl, Nat.zero_le _, Nat.le_refl _⟩ ?_
    clear hA2 hA7 hx7
    rintro ⟨i, j, pl, cl, rs, ts⟩ w8 ⟨hx8, hA6', hA14, hO, hrt, hEl, hrdl, hin, hB8⟩
    simp only at hA14 hO hrt hEl hrdl hin
    refine W_keep [(0, .slice p bs.length c), (2, .int .i64 ((d + 1 : Nat) : Int)), (6, .pointer (some (adr (bx a6) 0))), (10, .int .i64 ((k1 + j : Nat) : Int)), (11, .int .i64 n), (14, .pointer (some (adr (bx a14) 0))), (15, .int .i64 (i : Int))] ⟨rfl, rfl, rfl, rfl, rfl, rfl, rfl, trivial⟩ ?_
    obtain ⟨hti, h3i, hjl⟩ := rdL_len (rdT_len d) _ _ _ _ hrdl
    rw [hL] at hjl
    have hge := hO.ge
    have hC8 := hC.ext hx8
    have e5 : cs.drop (s.length + 3) = bs.drop k1 := by rw [hdk1, ← hsl]
    by_cases hlt : (i : Int) < n
    · have ihc := ih (w := w8) (k := k1 + j) (by omega) hbs (by omega) hC8
      have e4 : ((d + 1 : Nat) : Int) - 1 = (d : Int) := by push_cast; omega
      rw [← e4] at ihc
      repeat' (first | (apply G_on; exact rfl; first | (apply G1_move; exact rfl; exact rfl) | (apply G1_call (f := 16); exact rfl; exact rfl; exact rfl; exact ihc; intro v w9 hv; refine ⟨(by first | exact .inl rfl | exact .inr hv.1), ?_⟩) | ((first | apply G1_lss | apply G1_extract); exact rfl; exact rfl; exact rfl) | (apply G1_sub; exact rfl; exact rfl; omega; omega; exact rfl)) | apply G_nil | apply Post_next | apply W_seq | apply W_region | (apply W_cond_dec; exact rfl; all_goals (intro h; try (exfalso; omega))) | apply W_skip | apply W_block)
      unfold RefR at hv
      obtain ⟨hr4, ⟨t, j2, r, hr1, rfl, hr2⟩ | ⟨hr1, rfl⟩⟩ := hv
      · have hlen2 := rdT_len _ _ _ _ hr1
        simp only [List.length_drop] at hlen2
        have hx9 := hx8.trans hr4
        have z9 := hr4.size
        replace hA6' := hA6'.ext hr4
        replace hA14 := hA14.ext hr4
        replace hO := hO.ext hr4
        repeat' (apply G_on; exact rfl; (apply G1_extract; exact rfl; exact rfl; exact rfl))
        apply G_on; exact rfl; apply G1_alloc; exact T.zero31; exact rfl; exact rfl; intro a15 w10 ha15 hA15 hx10 hs10
        skip
        apply G_on; exact rfl; apply G1_storeB; exact T.z31; exact rfl; exact rfl; exact hA15; exact rfl; exact rfl; (first | exact Nat.le_of_ble_eq_true rfl | (focus (simp [Value.cells]; done))); (first | exact Enc.one _ _ | (focus (simp [Value.oneCell']; done)) | (focus (simp [Value.cells, Value.oneCell']; done)) | exact Enc.oneAgg _ _); exact rfl; (first | exact .inl rfl | exact .inr (by simp [exempt])); exact rfl; intro w11 hA11 hg11 hs11
        replace hA11 : Blk w11.heap a15 31 (eRep.enc r) := hA11
        have hx911 : Ext w9 w11 := hx10.own hg11 (fun q hq => by injection hq; omega)
        replace hA6' := hA6'.ext hx911
        replace hA14 := hA14.ext hx911
        replace hO := hO.ext hx911
        repeat' (first | (apply G_on; exact rfl; first | ((first | apply G1_assign | apply G1_move); exact rfl; exact rfl) | (apply G1_lss; exact rfl; exact rfl; exact rfl) | (apply G1_loadB; exact T.p26; exact rfl; assumption; exact rfl; exact rfl) | (apply G1_fieldAddr; exact T.f31_3; exact rfl; exact rfl) | (apply G1_loadBAgg; exact T.a31; exact rfl; assumption; exact rfl; exact rfl)) | apply G_nil | apply Post_next | apply W_seq | apply W_region | (apply W_cond_false; exact rfl) | apply W_skip)
        apply G_on; exact rfl
        apply G1_build1 eRep r; exact T.s26; exact rfl; exact rfl; exact rfl; decide; exact rfl; exact rfl
        intro p12 w12 hp12 hs12 _ hx12 hz12
        replace hA6' := hA6'.ext hx12
        replace hA14 := hA14.ext hx12
        replace hO := hO.ext hx12
        have hx012 : Ext w w12 := (hx9.trans hx911).trans hx12
        have z12 := hx911.size
        repeat' (apply G_on; exact rfl; first | (apply G1_appendA; exact T.s26; exact rfl; exact rfl; exact hO; exact hs12; exact rfl; omega; (simp only [List.length_cons, List.length_nil]; omega); (simp only [List.length_cons, List.length_nil]; omega); exact rfl; exact rfl; exact rfl; intro p13 c13 w13 ha13) | (apply G1_fieldAddr; exact T.f31_3; exact rfl; exact rfl))
        have z13 := ha13.grown.size
        have hx013 : Ext w w13 := hx012.own ha13.grown (fun q hq => by have := hge q hq; omega)
        replace hA6' := hA6'.grown ha13.grown (fun e => by have := hge _ e; omega)
        replace hA14 := hA14.grown ha13.grown (fun e => by have := hge _ e; omega)
        apply G_on; exact rfl; apply G1_storeB; exact T.z26; exact rfl; exact rfl; exact hA14; exact rfl; exact rfl; (first | exact Nat.le_of_ble_eq_true rfl | (focus (simp [Value.cells]; done))); (first | exact Enc.one _ _ | (focus (simp [Value.oneCell']; done)) | (focus (simp [Value.cells, Value.oneCell']; done)) | exact Enc.oneAgg _ _); exact rfl; (first | exact .inl rfl | exact .inr (by simp [exempt])); exact rfl; intro w14 hA14' hg14 hs14
        replace hA14' : Blk w14.heap a14 31 [.int .i64 5, .string ⟨#[]⟩, .int .i64 0, .slice p13 (rs ++ [r]).length c13] := hA14'
        have hx014 : Ext w w14 := hx013.own hg14 (fun q hq => by injection hq with hq; omega)
        replace hA6' := hA6'.grown hg14 (fun e => by injection e; omega)
        have hO14 := ha13.own.kept hg14 (fun a' ha' e => by injection e with e; have := ha13.own.ge a'.block (by rw [ha']; rfl); omega)
        have hnew : ∀ b, b < w9.heap.size → blk pl ≠ some b → blk p13 ≠ some b := fun b hb hne e => by
          have hnp := ha13.new
          unfold NewP at hnp
          rcases hnp with h | h
          · exact hne (by rw [← h]; exact e)
          · have := h b e; have := hx12.size; omega
        have hblk : ∀ b, b < w9.heap.size → w7.heap.size ≤ b → blk pl ≠ some b → w14.heap[b]? = w9.heap[b]? := fun b hb hb2 hne => by
          rw [hg14.block b (by omega) (fun e => by injection e; omega), ha13.grown.block b (by have := hx12.size; omega) (fun e => hne e.symm), hx12.block b (by omega), hx911.block b hb]
        repeat' (first | (apply G_on; exact rfl; first | ((first | apply G1_assign | apply G1_move); exact rfl; exact rfl) | (apply G1_add; exact rfl; exact rfl; omega; omega; exact rfl)) | apply G_nil | apply Post_next | apply W_region | apply Post_block_normal)
        refine Post_round (i + 1, j + j2, p13, c13, rs ++ [r], ts ++ [t]) ⟨rfl, rfl, rfl, (by show some (Value.int .i64 _) = some (Value.int .i64 ((k1 + (j + j2) : Nat) : Int)); rw [← Nat.add_assoc]), rfl, rfl, rfl, trivial⟩ ⟨hx014, hA6', hA14', hO14, by simp [hrt], ?_, ?_, by simp only; omega, by omega⟩ (by simp only; omega)
        · intro q r' t' hr' ht'
          simp only at hr' ht' ⊢
          by_cases hq : q < rs.length
          · rw [List.getElem?_append_left hq] at hr'
            rw [List.getElem?_append_left (by omega)] at ht'
            refine (hEl q r' t' hr' ht').hide (fun b hb hbl => ?_)
            have hb1 : ¬ b < w7.heap.size := fun h => hb (.inl h)
            have hb2 : blk pl ≠ some b := fun h => hb (.inr h)
            refine ⟨fun h => h.elim hb1 (hnew b (by omega) hb2), ?_⟩
            rw [hblk b (by omega) (by omega) hb2, hr4.block b hbl]
          · have e1 := get_lt hr'
            rw [List.length_append, List.length_singleton] at e1
            obtain rfl : q = rs.length := by omega
            rw [List.getElem?_append_right (Nat.le_refl _), Nat.sub_self] at hr'
            rw [List.getElem?_append_right (by omega), hrt, Nat.sub_self] at ht'
            obtain rfl : r = r' := by simpa using hr'
            obtain rfl : t = t' := by simpa using ht'
            refine hr2.hide (fun b hb hbl => ?_)
            have hb2 : blk pl ≠ some b := fun h => by have := hge b h; omega
            exact ⟨fun h => h.elim (by omega) (hnew b hbl hb2), hblk b hbl (by omega) hb2⟩
        · simp only
          rw [rdL_snoc, hrdl]
          simp only [Option.bind_some, List.drop_drop, hr1, Option.map_some]
      · have hx9 := hx8.trans hr4
        have z9 := hr4.size
        replace hA6' := hA6'.ext hr4
        repeat' (apply G_on; exact rfl; (apply G1_extract; exact rfl; exact rfl; exact rfl))
        apply G_on; exact rfl; apply G1_alloc; exact T.zero31; exact rfl; exact rfl; intro a15 w10 ha15 hA15 hx10 hs10
        skip
        apply G_on; exact rfl; apply G1_storeB; exact T.z31; exact rfl; exact rfl; exact hA15; exact rfl; exact rfl; (first | exact Nat.le_of_ble_eq_true rfl | (focus (simp [Value.cells]; done))); (first | exact Enc.one _ _ | (focus (simp [Value.oneCell']; done)) | (focus (simp [Value.cells, Value.oneCell']; done)) | exact Enc.oneAgg _ _); exact rfl; (first | exact .inl rfl | exact .inr (by simp [exempt])); exact rfl; intro w11 hA11 hg11 hs11
        have hx911 : Ext w9 w11 := hx10.own hg11 (fun q hq => by injection hq; omega)
        replace hA6' := hA6'.ext hx911
        have hx11 := hx9.trans hx911
        repeat' (first | (apply G_on; exact rfl; first | ((first | apply G1_assign | apply G1_move); exact rfl; exact rfl) | (apply G1_build (.agg (eRep.enc zRep).toArray); exact rfl; exact bldZ; exact rfl) | (apply G1_lss; exact rfl; exact rfl; exact rfl)) | apply G_nil | apply Post_next | apply W_seq | apply W_region | (apply W_cond_true; exact rfl))
        apply G_on; exact rfl; apply G1_storeB; exact T.z31; exact rfl; exact rfl; exact hA6'; exact rfl; exact rfl; (first | exact Nat.le_of_ble_eq_true rfl | (focus (simp [Value.cells]; done))); (first | exact Enc.one _ _ | (focus (simp [Value.oneCell']; done)) | (focus (simp [Value.cells, Value.oneCell']; done)) | exact Enc.oneAgg _ _); exact rfl; (first | exact .inl rfl | exact .inr (by simp [exempt])); exact rfl; intro wf hAf hgf hsf
        replace hAf : Blk wf.heap a6 31 (eRep.enc zRep) := hAf
        have xf : Ext w wf := (show Ext w w11 from (by repeat first | assumption | exact Ext.rfl' | apply Ext.drew | apply Ext.alloc | refine Ext.trans ?_ (by assumption))).own hgf (fun q hq => by injection hq with hq; omega)
        repeat' (first | (apply G_on; exact rfl; (apply G1_assign; exact rfl; exact rfl)) | apply G_nil | apply Post_next | apply W_ret | apply Post_then_ret | apply Post_block_ret)
        refine Post_ret Tryz.results16 ⟨_, _, _, rfl, rfl, run_loadVar_box T.a31 (by assumption) rfl, _, _, rfl, rfl, rfl⟩ ?_
        refine ⟨xf, .inr ⟨?_, rfl⟩⟩
        rw [hcs]
        rw [rdT_list hrl, e5, rdL_stop (n := i + 1) (by omega) (by
          rw [rdL_snoc, hrdl]
          simp only [Option.bind_some, List.drop_drop, hr1, Option.map_none])]
        rfl
    · have hi : i = n.toNat := by omega
      subst hi
      repeat' (first | (apply G_on; exact rfl; first | (apply G1_move; exact rfl; exact rfl) | (apply G1_lss; exact rfl; exact rfl; exact rfl) | (apply G1_loadBAgg; exact T.a31; exact rfl; assumption; exact rfl; exact rfl)) | apply G_nil | apply Post_next | apply W_seq | apply W_region | (apply W_cond_dec; exact rfl; all_goals (intro h; try (exfalso; omega))) | apply W_exit | apply Post_then_exit | apply Post_block_exit)
      apply G_on; exact rfl; apply G1_storeB; exact T.z31; exact rfl; exact rfl; exact hA6'; exact rfl; exact rfl; (first | exact Nat.le_of_ble_eq_true rfl | (focus (simp [Value.cells]; done))); (first | exact Enc.one _ _ | (focus (simp [Value.oneCell']; done)) | (focus (simp [Value.cells, Value.oneCell']; done)) | exact Enc.oneAgg _ _); exact rfl; (first | exact .inl rfl | exact .inr (by simp [exempt])); exact rfl; intro wf hAf hgf hsf
      replace hAf : Blk wf.heap a6 31 (eRep.enc ⟨5, ⟨#[]⟩, 0, pl, rs.length, cl⟩) := hAf
      have xf : Ext w wf := hx8.own hgf (fun q hq => by injection hq with hq; omega)
      have hOf := hO.kept hgf (fun a' ha' e => by injection e with e; have := hge a'.block (by rw [ha']; rfl); omega)
      repeat' (first | (apply G_on; exact rfl; (apply G1_assign; exact rfl; exact rfl)) | apply G_nil | apply Post_next | apply W_ret | apply Post_then_ret | apply Post_block_ret)
      refine Post_ret Tryz.results16 ⟨_, _, _, rfl, rfl, run_loadVar_box T.a31 (by assumption) rfl, _, _, rfl, rfl, rfl⟩ ?_
      refine ⟨xf, .inl ⟨.mk 5 ⟨#[]⟩ 0 ts, s.length + 3 + j, ⟨5, ⟨#[]⟩, 0, pl, rs.length, cl⟩, ?_, ?_, ⟨rfl, rfl, rfl, hrt, nil_size, fit0, rs, hOf.hidden (fun q hq hlt => ?_), hrt, fun q r t hr ht => (hEl q r t hr ht).hide (fun b hb hbl => ⟨fun h => hb (.inl (by omega)), ?_⟩)⟩⟩⟩
      · rw [hcs, rdT_list hrl, e5, hrdl]
        rfl
      · rw [show k + (s.length + 3 + j) = k1 + j by omega]
        rfl
      · have := hge q hq; omega
      · exact hgf.block b hbl (fun e => by injection e with e; exact hb (.inl (by omega)))
end Go.Proofs.YtipbakiecocioaaGreatDoor

/- Audit: the replies with which bytes begin; the walks. -/
namespace Go.Proofs.YtipbakiecocioaaGreatDoor
open Go.V
attribute [local irreducible] Blk Own hcell IntT SliceT PlainT AggT SizeT StrT FieldT ZeroT EqT ArrT
noncomputable def repsN : Nat → List UInt8 → List Rep × Nat
  | 0, _ => ([], 0)
  | n + 1, bs => match rdT 4 bs with
    | none => ([], 0)
    | some (t, j) => (t :: (repsN n (bs.drop j)).1, j + (repsN n (bs.drop j)).2)
noncomputable def repsP (bs : List UInt8) : List Rep × Nat := repsN (bs.length + 1) bs
theorem repsN_fuel : ∀ (n m : Nat) (bs : List UInt8), bs.length < n → bs.length < m → repsN n bs = repsN m bs
  | 0, _, _, h, _ => by omega
  | _ + 1, 0, _, _, h => by omega
  | n + 1, m + 1, bs, h1, h2 => by
    unfold repsN
    cases h : rdT 4 bs with
    | none => rfl
    | some x =>
      obtain ⟨t, j⟩ := x
      have hj := rdT_len _ _ _ _ h
      simp only
      rw [repsN_fuel n m (bs.drop j) (by rw [List.length_drop]; omega) (by rw [List.length_drop]; omega)]
theorem repsP_none {bs : List UInt8} (h : rdT 4 bs = none) : repsP bs = ([], 0) := by
  unfold repsP repsN
  rw [h]
theorem repsP_some {bs : List UInt8} {t : Rep} {j : Nat} (h : rdT 4 bs = some (t, j)) : repsP bs = (t :: (repsP (bs.drop j)).1, j + (repsP (bs.drop j)).2) := by
  have hj := rdT_len _ _ _ _ h
  conv => lhs; unfold repsP repsN
  rw [h]
  simp only
  rw [repsN_fuel bs.length ((bs.drop j).length + 1) (bs.drop j) (by rw [List.length_drop]; omega) (by omega)]
  rfl
/-- replies that lie in new rows -/
structure NewReps (w w' : World) (p : Option Addr) (c : Nat) (rs : List RawR) (ts : List Rep) : Prop where
  ext : Ext w w'
  own : Own w' w.heap.size 31 eRep p c rs
  len : rs.length = ts.length
  at_ : ∀ (i : Nat) r t, rs[i]? = some r → ts[i]? = some t → RepAt (veil (fun b => b < w.heap.size ∨ blk p = some b) w'.heap) 5 r t
theorem NewReps.nil {w : World} : NewReps w w none 0 [] [] := ⟨Ext.rfl', Own.nil _ _ _ _, rfl, fun i r t h => by simp at h⟩
theorem NewReps.xt {w w1 w2 : World} {p : Option Addr} {c : Nat} {rs : List RawR} {ts : List Rep} (h : NewReps w w1 p c rs ts) (hx : Ext w1 w2) : NewReps w w2 p c rs ts :=
  ⟨h.ext.trans hx, h.own.ext hx, h.len, fun i r t hr ht => (h.at_ i r t hr ht).hide (fun b hb hl => ⟨hb, hx.block b hl⟩)⟩
theorem NewReps.push {w w1 w2 w3 : World} {p p' : Option Addr} {c c' : Nat} {rs : List RawR} {ts : List Rep} {r : RawR} {t : Rep} {S : Nat} (h : NewReps w w1 p c rs ts) (hx : Ext w1 w2) (hS : w1.heap.size ≤ S) (hr : RepAt (veil (fun q => q < S) w2.heap) 5 r t)
    (ha : App w2 w3 w.heap.size 31 eRep p p' c' (rs ++ [r])) : NewReps w w3 p' c' (rs ++ [r]) (ts ++ [t]) := by
  have hge := h.own.ge
  have hz := hx.size
  have hz0 := h.ext.size
  have hnp := ha.new
  unfold NewP at hnp
  have hp' : ∀ b, b < w2.heap.size → blk p ≠ some b → blk p' ≠ some b := fun b hb hne e => by
    rcases hnp with hnp | hnp
    · exact hne (by rw [← hnp]; exact e)
    · have := hnp b e; omega
  refine ⟨(h.ext.trans hx).app ha (fun k hk => (hge k hk).1), ha.own, by simp [h.len], fun i r' t' hr' ht' => ?_⟩
  by_cases hi : i < rs.length
  · rw [List.getElem?_append_left hi] at hr'
    rw [List.getElem?_append_left (by rw [← h.len]; exact hi)] at ht'
    refine (h.at_ i r' t' hr' ht').hide (fun b hb hl => ?_)
    have h1 : blk p ≠ some b := fun e => hb (.inr e)
    refine ⟨fun e => e.elim (fun e => hb (.inl e)) (hp' b (by omega) h1), ?_⟩
    rw [ha.grown.block b (by omega) (fun e => h1 e.symm), hx.block b hl]
  · have e1 := get_lt hr'
    rw [List.length_append, List.length_singleton] at e1
    obtain rfl : i = rs.length := by omega
    rw [List.getElem?_append_right (Nat.le_refl _), Nat.sub_self] at hr'
    rw [List.getElem?_append_right (by rw [h.len]; exact Nat.le_refl _), h.len, Nat.sub_self] at ht'
    obtain rfl : r = r' := by simpa using hr'
    obtain rfl : t = t' := by simpa using ht'
    refine hr.hide (fun b hb hl => ?_)
    have h1 : blk p ≠ some b := fun e => by have := (hge b e).2; omega
    exact ⟨fun e => e.elim (fun e => by omega) (hp' b hl h1), ha.grown.block b hl (fun e => h1 e.symm)⟩
set_option maxHeartbeats 2000000 in
theorem replies_spec {p : Option Addr} {c : Nat} {bs : List UInt8} {w : World} (hC : Sl w.heap eByte p c bs) (hb : bs.length ≤ 1000000) (hU : Utf w) (hT : Pow w) (hE : Errs w) :
    Ctr Tryz.prog 6 [.slice p bs.length c] w (fun v w' => ∃ q d rs, v = .tuple #[.slice q rs.length d, .int .i64 ((repsP bs).2 : Int)] ∧ NewReps w w' q d rs (repsP bs).1 ∧ rs.length ≤ bs.length) := by
  have hok := hC.ok
  have hle := hok.le
  refine Ctr_of Tryz.func6 Tryz.ntmps6 rfl rfl rfl ?_
  repeat' (first | (apply G_on; exact rfl; (apply G1_assign; exact rfl; exact rfl)) | apply G_nil | apply Post_next | apply W_seq | apply W_region | apply W_block)
  refine W_loop (ι := Nat × List Rep × Option Addr × Nat × List RawR) (fun y => [(0, .slice p bs.length c), (4, .slice y.2.2.1 y.2.2.2.2.length y.2.2.2.1), (5, .int .i64 (y.1 : Int))])
    (fun y w' => y.1 ≤ bs.length ∧ NewReps w w' y.2.2.1 y.2.2.2.1 y.2.2.2.2 y.2.1 ∧ y.2.2.2.2.length ≤ y.1 ∧ repsP bs = (y.2.1 ++ (repsP (bs.drop y.1)).1, y.1 + (repsP (bs.drop y.1)).2)) (fun y => bs.length - y.1) (0, [], none, 0, []) ⟨rfl, rfl, rfl, trivial⟩
    ⟨Nat.zero_le _, NewReps.nil.xt (by repeat first | assumption | exact Ext.rfl' | apply Ext.drew | apply Ext.alloc | refine Ext.trans ?_ (by assumption)), Nat.le_refl _, by simp⟩ ?_
  rintro ⟨k, ts, q, d, rs⟩ w2 ⟨hk, hN, hrl, hR⟩
  simp only at hk hN hrl hR
  refine W_keep [(0, .slice p bs.length c), (4, .slice q rs.length d), (5, .int .i64 (k : Int))] ⟨rfl, rfl, rfl, trivial⟩ ?_
  have hx2 := hN.ext
  have hge := hN.own.ge
  have hz2 := hx2.size
  have hdl : (bs.drop k).length = bs.length - k := List.length_drop
  have hread := read_spec (((hC.ext hx2).drop (l := k) (by omega))) (by omega) (hU.ext hx2) (TabIs.ext hT hx2) (hE.ext hx2)
  rw [hdl] at hread
  repeat' (first | (apply G_on; exact rfl; first | (apply G1_move; exact rfl; exact rfl) | (apply G1_sliceLoJ (q := k); exact T.s22; exact rfl; exact rfl; exact rfl; exact hok; omega; exact rfl)) | apply W_seq | apply W_region | apply W_block)
  apply G_on; exact rfl; apply G1_call (f := 15); exact rfl; exact rfl; exact rfl; exact hread; intro v w3 hv; refine ⟨.inl rfl, ?_⟩
  obtain ⟨hx3, hv⟩ := hv
  rcases hv with ⟨t, j, r, hr1, rfl, hr2⟩ | ⟨hr1, rfl⟩
  · have hj := rdT_len _ _ _ _ hr1
    rw [repsP_some hr1, List.drop_drop] at hR
    repeat' (apply G_on; exact rfl; first | (apply G1_move; exact rfl; exact rfl) | (apply G1_extract; exact rfl; exact rfl; exact rfl))
    apply G_on; exact rfl; apply G1_alloc; exact T.zero31; exact rfl; exact rfl; intro a4 w4 ha4 hA4 hx4 hs4
    skip
    apply G_on; exact rfl; apply G1_storeB; exact T.z31; exact rfl; exact rfl; exact hA4; exact rfl; exact rfl; (first | exact Nat.le_of_ble_eq_true rfl | (focus (simp [Value.cells]; done))); (first | exact Enc.one _ _ | (focus (simp [Value.oneCell']; done)) | (focus (simp [Value.cells, Value.oneCell']; done)) | exact Enc.oneAgg _ _); exact rfl; (first | exact .inl rfl | exact .inr (by simp [exempt])); exact rfl; intro w5 hA5 hg5 hs5
    replace hA5 : Blk w5.heap a4 31 (eRep.enc r) := hA5
    have hx35 : Ext w3 w5 := hx4.own hg5 (fun k hk => by injection hk with hk; omega)
    have hx25 := hx3.trans hx35
    repeat' (first | (apply G_on; exact rfl; first | ((first | apply G1_assign | apply G1_move); exact rfl; exact rfl) | (apply G1_not_t; exact rfl; exact rfl) | (apply G1_loadBAgg; exact T.a31; exact rfl; assumption; exact rfl; exact rfl)) | apply G_nil | apply Post_next | apply W_seq | apply W_region | (apply W_cond_false; exact rfl) | apply W_skip)
    all_goals try (exfalso; omega)
    apply G_on; exact rfl
    apply G1_build1 eRep r; exact T.s26; exact rfl; exact rfl; exact rfl; decide; exact rfl; exact rfl
    intro p6 w6 hp6 hs6 _ hx6 hz6
    have hx26 := hx25.trans hx6
    have hz26 := hx26.size
    have hN6 := hN.xt hx26
    repeat' (first | (apply G_on; exact rfl; first | ((first | apply G1_assign | apply G1_move); exact rfl; exact rfl) | (apply G1_appendA; exact T.s26; exact rfl; exact rfl; exact hN6.own; exact hs6; exact rfl; omega; (simp only [List.length_cons, List.length_nil]; omega); (simp only [List.length_cons, List.length_nil]; omega); exact rfl; exact rfl; exact rfl; intro p7 c7 w7 ha7) | (apply G1_add; exact rfl; exact rfl; omega; omega; exact rfl)) | apply G_nil | apply Post_next | apply W_region | apply Post_block_normal)
    have hr6 : RepAt (veil (fun q => q < w2.heap.size) w6.heap) 5 r t := hr2.hide (fun b hb hl => ⟨hb, (hx35.trans hx6).block b hl⟩)
    have hN7 := hN.push hx26 (Nat.le_refl _) hr6 ha7
    exact Post_round (k + j, ts ++ [t], p7, c7, rs ++ [r]) ⟨rfl, rfl, rfl, trivial⟩ ⟨by simp only; omega, hN7, by simp only [List.length_append, List.length_singleton]; omega, by simp only; rw [hR]; simp [Nat.add_assoc]⟩ (by simp only; omega)
  · rw [repsP_none hr1] at hR
    simp only [List.append_nil, Nat.add_zero] at hR
    repeat' (apply G_on; exact rfl; first | (apply G1_move; exact rfl; exact rfl) | (apply G1_extract; exact rfl; exact rfl; exact rfl))
    apply G_on; exact rfl; apply G1_alloc; exact T.zero31; exact rfl; exact rfl; intro a4 w4 ha4 hA4 hx4 hs4
    skip
    apply G_on; exact rfl; apply G1_storeB; exact T.z31; exact rfl; exact rfl; exact hA4; exact rfl; exact rfl; (first | exact Nat.le_of_ble_eq_true rfl | (focus (simp [Value.cells]; done))); (first | exact Enc.one _ _ | (focus (simp [Value.oneCell']; done)) | (focus (simp [Value.cells, Value.oneCell']; done)) | exact Enc.oneAgg _ _); exact rfl; (first | exact .inl rfl | exact .inr (by simp [exempt])); exact rfl; intro w5 hA5 hg5 hs5
    have hx35 : Ext w3 w5 := hx4.own hg5 (fun k hk => by injection hk with hk; omega)
    have hx25 := hx3.trans hx35
    repeat' (first | (apply G_on; exact rfl; first | ((first | apply G1_assign | apply G1_move); exact rfl; exact rfl) | (apply G1_not_f; exact rfl; exact rfl)) | apply G_nil | apply Post_next | apply W_seq | apply W_region | (apply W_cond_true; exact rfl) | apply W_ret | apply Post_then_ret | apply Post_block_ret)
    refine Post_ret Tryz.results6 ⟨_, _, rfl, rfl, _, _, rfl, rfl, rfl⟩ ?_
    rw [hR]
    exact ⟨q, d, rs, rfl, hN.xt hx25, by omega⟩
set_option maxHeartbeats 2000000 in
theorem rreplies_spec {p : Option Addr} {c : Nat} {bs : List UInt8} {w : World} (hC : Sl w.heap eByte p c bs) (hb : bs.length ≤ 1000000) :
    Ctr Tryz.prog 7 [.slice p bs.length c] w (fun v w' => ∃ q d rs, v = .tuple #[.slice q rs.length d, .int .i64 ((repsP bs).2 : Int)] ∧ NewReps w w' q d rs (repsP bs).1 ∧ rs.length ≤ bs.length) := by
  have hok := hC.ok
  have hle := hok.le
  refine Ctr_of Tryz.func7 Tryz.ntmps7 rfl rfl rfl ?_
  repeat' (first | (apply G_on; exact rfl; (apply G1_assign; exact rfl; exact rfl)) | apply G_nil | apply Post_next | apply W_seq | apply W_region | apply W_block)
  refine W_loop (ι := Nat × List Rep × Option Addr × Nat × List RawR) (fun y => [(0, .slice p bs.length c), (4, .slice y.2.2.1 y.2.2.2.2.length y.2.2.2.1), (5, .int .i64 (y.1 : Int))])
    (fun y w' => y.1 ≤ bs.length ∧ NewReps w w' y.2.2.1 y.2.2.2.1 y.2.2.2.2 y.2.1 ∧ y.2.2.2.2.length ≤ y.1 ∧ repsP bs = (y.2.1 ++ (repsP (bs.drop y.1)).1, y.1 + (repsP (bs.drop y.1)).2)) (fun y => bs.length - y.1) (0, [], none, 0, []) ⟨rfl, rfl, rfl, trivial⟩
    ⟨Nat.zero_le _, NewReps.nil.xt (by repeat first | assumption | exact Ext.rfl' | apply Ext.drew | apply Ext.alloc | refine Ext.trans ?_ (by assumption)), Nat.le_refl _, by simp⟩ ?_
  rintro ⟨k, ts, q, d, rs⟩ w2 ⟨hk, hN, hrl, hR⟩
  simp only at hk hN hrl hR
  refine W_keep [(0, .slice p bs.length c), (4, .slice q rs.length d), (5, .int .i64 (k : Int))] ⟨rfl, rfl, rfl, trivial⟩ ?_
  have hx2 := hN.ext
  have hge := hN.own.ge
  have hz2 := hx2.size
  by_cases hlt : k < bs.length
  rotate_left
  · have hno : rdT 4 (bs.drop k) = none := by
      cases h : rdT 4 (bs.drop k) with
      | none => rfl
      | some x =>
        have := rdT_len _ _ x.1 x.2 h
        rw [List.length_drop] at this
        omega
    rw [repsP_none hno] at hR
    simp only [List.append_nil, Nat.add_zero] at hR
    repeat' (first | (apply G_on; exact rfl; first | ((first | apply G1_assign | apply G1_move); exact rfl; exact rfl) | (apply G1_len; exact T.s22; exact rfl; exact rfl) | (apply G1_lss; exact rfl; exact rfl; exact rfl)) | apply G_nil | apply Post_next | apply W_seq | apply W_region | (apply W_cond_dec; exact rfl; all_goals (intro h; try (exfalso; omega))) | apply W_exit | apply W_ret | apply Post_then_exit | apply Post_block_exit)
    all_goals try (exfalso; omega)
    refine Post_ret Tryz.results7 ⟨_, _, rfl, rfl, _, _, rfl, rfl, rfl⟩ ?_
    rw [hR]
    exact ⟨q, d, rs, rfl, hN.xt (by repeat first | assumption | exact Ext.rfl' | apply Ext.drew | apply Ext.alloc | refine Ext.trans ?_ (by assumption)), by omega⟩
  have href := refRead_spec 4 (w := w2) (k := k) (by omega) (by omega) (Nat.le_refl _) (hC.ext hx2)
  rw [show ((4 : Nat) : Int) = 4 from rfl] at href
  repeat' (first | (apply G_on; exact rfl; first | (apply G1_move; exact rfl; exact rfl) | (apply G1_len; exact T.s22; exact rfl; exact rfl) | (apply G1_lss; exact rfl; exact rfl; exact rfl)) | apply G_nil | apply Post_next | apply W_seq | apply W_region | (apply W_cond_dec; exact rfl; all_goals (intro h; try (exfalso; omega))) | apply W_skip | apply W_block)
  all_goals try (exfalso; omega)
  apply G_on; exact rfl; apply G1_call (f := 16); exact rfl; exact rfl; exact rfl; exact href; intro v w3 hv; refine ⟨.inl rfl, ?_⟩
  obtain ⟨hx3, hv⟩ := hv
  rcases hv with ⟨t, j, r, hr1, rfl, hr2⟩ | ⟨hr1, rfl⟩
  · have hj := rdT_len _ _ _ _ hr1
    rw [List.length_drop] at hj
    rw [repsP_some hr1, List.drop_drop] at hR
    repeat' (apply G_on; exact rfl; first | (apply G1_move; exact rfl; exact rfl) | (apply G1_extract; exact rfl; exact rfl; exact rfl))
    apply G_on; exact rfl; apply G1_alloc; exact T.zero31; exact rfl; exact rfl; intro a4 w4 ha4 hA4 hx4 hs4
    skip
    apply G_on; exact rfl; apply G1_storeB; exact T.z31; exact rfl; exact rfl; exact hA4; exact rfl; exact rfl; (first | exact Nat.le_of_ble_eq_true rfl | (focus (simp [Value.cells]; done))); (first | exact Enc.one _ _ | (focus (simp [Value.oneCell']; done)) | (focus (simp [Value.cells, Value.oneCell']; done)) | exact Enc.oneAgg _ _); exact rfl; (first | exact .inl rfl | exact .inr (by simp [exempt])); exact rfl; intro w5 hA5 hg5 hs5
    replace hA5 : Blk w5.heap a4 31 (eRep.enc r) := hA5
    have hx35 : Ext w3 w5 := hx4.own hg5 (fun k hk => by injection hk with hk; omega)
    have hx25 := hx3.trans hx35
    repeat' (first | (apply G_on; exact rfl; first | ((first | apply G1_assign | apply G1_move); exact rfl; exact rfl) | (apply G1_lss; exact rfl; exact rfl; exact rfl) | (apply G1_loadBAgg; exact T.a31; exact rfl; assumption; exact rfl; exact rfl)) | apply G_nil | apply Post_next | apply W_seq | apply W_region | (apply W_cond_false; exact rfl) | apply W_skip)
    all_goals try (exfalso; omega)
    apply G_on; exact rfl
    apply G1_build1 eRep r; exact T.s26; exact rfl; exact rfl; exact rfl; decide; exact rfl; exact rfl
    intro p6 w6 hp6 hs6 _ hx6 hz6
    have hx26 := hx25.trans hx6
    have hz26 := hx26.size
    have hN6 := hN.xt hx26
    repeat' (first | (apply G_on; exact rfl; first | ((first | apply G1_assign | apply G1_move); exact rfl; exact rfl) | (apply G1_appendA; exact T.s26; exact rfl; exact rfl; exact hN6.own; exact hs6; exact rfl; omega; (simp only [List.length_cons, List.length_nil]; omega); (simp only [List.length_cons, List.length_nil]; omega); exact rfl; exact rfl; exact rfl; intro p7 c7 w7 ha7)) | apply G_nil | apply Post_next | apply W_region | apply Post_block_normal)
    have hr6 : RepAt (veil (fun q => q < w2.heap.size) w6.heap) 5 r t := hr2.hide (fun b hb hl => ⟨hb, (hx35.trans hx6).block b hl⟩)
    have hN7 := hN.push hx26 (Nat.le_refl _) hr6 ha7
    exact Post_round (k + j, ts ++ [t], p7, c7, rs ++ [r]) ⟨rfl, rfl, rfl, trivial⟩ ⟨by simp only; omega, hN7, by simp only [List.length_append, List.length_singleton]; omega, by simp only; rw [hR]; simp [Nat.add_assoc]⟩ (by simp only; omega)
  · rw [repsP_none hr1] at hR
    simp only [List.append_nil, Nat.add_zero] at hR
    repeat' (apply G_on; exact rfl; first | (apply G1_move; exact rfl; exact rfl) | (apply G1_extract; exact rfl; exact rfl; exact rfl))
    apply G_on; exact rfl; apply G1_alloc; exact T.zero31; exact rfl; exact rfl; intro a4 w4 ha4 hA4 hx4 hs4
    skip
    apply G_on; exact rfl; apply G1_storeB; exact T.z31; exact rfl; exact rfl; exact hA4; exact rfl; exact rfl; (first | exact Nat.le_of_ble_eq_true rfl | (focus (simp [Value.cells]; done))); (first | exact Enc.one _ _ | (focus (simp [Value.oneCell']; done)) | (focus (simp [Value.cells, Value.oneCell']; done)) | exact Enc.oneAgg _ _); exact rfl; (first | exact .inl rfl | exact .inr (by simp [exempt])); exact rfl; intro w5 hA5 hg5 hs5
    have hx35 : Ext w3 w5 := hx4.own hg5 (fun k hk => by injection hk with hk; omega)
    have hx25 := hx3.trans hx35
    repeat' (first | (apply G_on; exact rfl; first | ((first | apply G1_assign | apply G1_move); exact rfl; exact rfl) | (apply G1_lss; exact rfl; exact rfl; exact rfl)) | apply G_nil | apply Post_next | apply W_seq | apply W_region | (apply W_cond_true; exact rfl) | apply W_exit | apply W_ret | apply Post_then_exit | apply Post_block_exit | (apply Post_block_other; exact rfl))
    all_goals try (exfalso; omega)
    refine Post_ret Tryz.results7 ⟨_, _, rfl, rfl, _, _, rfl, rfl, rfl⟩ ?_
    rw [hR]
    exact ⟨q, d, rs, rfl, hN.xt hx25, by omega⟩
end Go.Proofs.YtipbakiecocioaaGreatDoor
