/- Texts of this proof laid together: BrAny, BytesAny, NumOrd, RepPlain, NumFit, NumRead, RepRd, BytesIndex, StrBase, StrRule, NumParse, LaidRead, Vals, Maps, MapAny, AudSer1, AudSer2, AudSer3, AudSer4, AudSer5. -/
import Derived.Test.YtipbakiecocioaaGreatDoorVM1
import Derived.Laws.Externs
import Derived.Shelf.Strings.IndexAnyAll
import Derived.Lib.ItoaNum
import Derived.Lib.ParseIntB
import Derived.Shelf.Spec.DecodeRune
import Derived.Shelf.Strconv.ErrVarParseInt
import Derived.Test.YtipbakiecocioaaGreatDoorCards
import Derived.Test.YtipbakiecocioaaGreatDoorTie
import Derived.WalkKit
import Derived.ProofKit
import Derived.OpenShut
import Derived.Deep.DeepHandedRow
import Derived.Lib.LaidTab
import Derived.LaidSub
import Derived.SevenTiedAt
import Derived.Stop.LaidErr
import Derived.Lib.LaidU8T
import Derived.PinnedBridge
import Derived.Shelf.Vars
import Derived.Maps.OwnSet
import Derived.StringKeys
import Derived.Maps.Range
/- strings.ContainsAny where the ends of lines are looked for. -/

namespace Go.V
open Go.RowKit
section
variable {P : Program} {n : Nat} {ops : Array Oper} {dr : Nat × List Nat} {l : List Oper} {E : Env} {w : World} {K : Env → World → Prop}
variable {d : Option Nat} {ty : TypeId} {pos : String} {af : Array Edge} {g : Option (Nat × Bool)} {x y : Operand} {i : Int}
/-- the library's search for a byte -/
theorem G1_indexByte {f : FuncId} {fn : Func} {s : ByteArray} {tys : Array TypeId} (hf : P.funcs[f]? = some fn) (hname : (fn.name == "runtime.NumGoroutine") = false) (hb : fn.body.isNone = true) (hn : Extern.findNext fn = none) (hfi : Extern.find fn = some Extern.BytealgIndexByte.indexByte)
    (hx : E.look x = some (.string s)) (hy : E.look y = some (.int .u8 i)) (he : effects P dr.1 ⟨d, .call ⟨.value (.func f), #[x, y], tys⟩, ty, pos, af, g⟩ = true) (hd : dstOk n d = true)
    (h : G P n ops dr l (E.put d (.int .i64 (firstIdx s i.toNat.toUInt8))) w K) : G1 P n ops dr ⟨d, .call ⟨.value (.func f), #[x, y], tys⟩, ty, pos, af, g⟩ l E w K := by
  have hr : (callFunc f #[.string s, .int .u8 i]).run P w = .ok (.value (.int .i64 (firstIdx s i.toNat.toUInt8))) w := by
    rw [run_callFunc_extern hf hname hb hn hfi, run_indexByte_string]
    rfl
  exact G1_eff _ w he hd (fun a ha => by
    have e0 : a.eval (.func f) = .func (.func f) #[] #[] := rfl
    simp [execOp, resolve, Deferred.ofValue, e0, invoke, ha.eval hx, ha.eval hy, hr]) (.inr ExtS.rfl') h
end
def brs : ByteArray := ⟨#[13, 10]⟩
def isBr (c : UInt8) : Bool := c == 13 || c == 10
theorem br_idx (c : UInt8) : decide (0 ≤ firstIdx brs c) = isBr c := by
  have key : ∀ n : Fin 256, decide (0 ≤ firstIdx brs (UInt8.ofNat n.val)) = isBr (UInt8.ofNat n.val) := by decide +kernel
  have h := key ⟨c.toNat, UInt8.toNat_lt c⟩
  simpa using h
theorem toUInt8_nat (c : UInt8) : ((c.toNat : Int)).toNat.toUInt8 = c := by simp
end Go.V
namespace Go.Proofs.YtipbakiecocioaaGreatDoor
open Go.V
attribute [local irreducible] Blk Own hcell IntT SliceT PlainT AggT SizeT StrT FieldT ZeroT EqT ArrT
theorem ib0 : Extern.findNext Tryz.f74 = none := by kernel_rfl
theorem ib1 : Extern.find Tryz.f74 = some Extern.BytealgIndexByte.indexByte := by kernel_rfl
theorem br_get {k : Nat} (h : k < 2) : 10 ≤ (bget brs k).toNat ∧ (bget brs k).toNat < 128 := by
  have key : ∀ n : Fin 2, 10 ≤ (bget brs n.val).toNat ∧ (bget brs n.val).toNat < 128 := by decide
  exact key ⟨k, h⟩
theorem br_dec {k : Nat} (h : k < brs.size) : Utf8.decode brs k = ((bget brs k).toNat, 1) := by
  rw [decode_ascii brs k h (by rw [← bget_idx h]; exact (br_get h).2), bget_idx h]
theorem br_size : brs.size = 2 := rfl
theorem br_lo {c : UInt8} (h : isBr c = true) : c.toNat < 128 := by
  have key : ∀ n : Fin 256, isBr (UInt8.ofNat n.val) = true → n.val < 128 := by decide +kernel
  exact key ⟨c.toNat, c.toNat_lt⟩ (by rw [UInt8.ofNat_toNat]; exact h)
end Go.Proofs.YtipbakiecocioaaGreatDoor

/- bytes.IndexAny at the ends of lines: its set of signs. -/

namespace Go.Proofs.YtipbakiecocioaaGreatDoor
open Go.V
attribute [local irreducible] Blk Own hcell IntT SliceT PlainT AggT SizeT StrT FieldT ZeroT EqT ArrT
/-- the set's cells after k of the two signs -/
def setC (k : Nat) : List Value := (List.range 256).map (fun i => Value.bool ((decide (i = 13) && decide (0 < k)) || (decide (i = 10) && decide (1 < k))))
theorem zrSet : ZeroT Tryz.prog 140 (.agg (setC 0).toArray) := ZeroT.of (by kernel_rfl)
theorem should_spec {n : Int} {w : World} : Ctr Tryz.prog 76 [.int .i64 n] w (fun v w' => v = .bool (decide (8 < n)) ∧ Ext w w') := by
  refine Ctr_of Tryz.func76 Tryz.ntmps76 rfl rfl rfl ?_
  repeat' (first | (apply G_on; exact rfl; first | ((first | apply G1_assign | apply G1_move); exact rfl; exact rfl) | (apply G1_gtr; exact rfl; exact rfl; exact rfl)) | apply G_nil | apply Post_next | apply W_seq | apply W_region | apply W_ret)
  refine Post_ret Tryz.results76 ⟨_, _, rfl, rfl, rfl⟩ ?_
  exact ⟨rfl, (by repeat first | assumption | exact Ext.rfl' | apply Ext.drew | apply Ext.alloc | refine Ext.trans ?_ (by assumption))⟩
set_option maxRecDepth 100000 in
theorem mkset_spec {w : World} : Ctr Tryz.prog 77 [.string brs] w (fun v w' => v = .tuple #[.agg (setC 2).toArray, .bool true] ∧ Ext w w') := by
  have hss := br_size
  refine Ctr_of Tryz.func77 Tryz.ntmps77 rfl rfl rfl ?_
  repeat' (first | apply W_seq | apply W_region)
  apply G_on; exact rfl; apply G1_alloc; exact zrSet; exact rfl; exact rfl; intro a1 w1 ha1 hA1 hx1 hs1
  replace hA1 : Blk w1.heap a1 140 (setC 0) := hA1
  repeat' (first | (apply G_on; exact rfl; (apply G1_assign; exact rfl; exact rfl)) | apply G_nil | apply Post_next | apply W_seq | apply W_region | apply W_block)
  refine W_loop (ι := Nat) (fun k => [(0, .string brs), (2, .pointer (some (adr (bx a1) 0))), (4, .int .i64 (k : Int))]) (fun k w' => Ext w w' ∧ Blk w'.heap a1 140 (setC k) ∧ k ≤ 2) (fun k => 2 - k) 0 ⟨rfl, rfl, rfl, trivial⟩ ⟨hx1, hA1, Nat.zero_le _⟩ ?_
  clear hA1 hx1
  rintro k w2 ⟨hx2, hA2, hk⟩
  have setB : ∀ (j : Nat) (H : Array Obj) (cs : List Value), cs = setC j → Blk H a1 140 cs → Blk H a1 140 (setC j) := fun j H cs h hb => h ▸ hb
  rcases (show k = 0 ∨ k = 1 ∨ k = 2 by omega) with rfl | rfl | rfl
  · have hb0 : (bget brs 0).toNat = 13 := by decide
    repeat' (first | (apply G_on; exact rfl; first | ((first | apply G1_assign | apply G1_move); exact rfl; exact rfl) | (apply G1_sindexJ (q := 0) (s := brs); exact T.str9; exact rfl; exact rfl; exact rfl; omega; exact rfl) | (apply G1_slen; exact T.str9; exact rfl; exact rfl) | ((first | apply G1_lss | apply G1_geq); exact rfl; exact rfl; exact rfl) | (apply G1_indexArr; exact T.ar140; exact rfl; exact rfl; omega; omega; exact rfl)) | apply G_nil | apply Post_next | apply W_seq | apply W_region | (apply W_cond_true; exact rfl) | (apply W_cond_false; exact rfl) | apply W_skip | apply W_block)
    apply G_on; exact rfl
    apply G1_storeB (m := 13); exact T.z4; exact rfl; exact rfl; exact hA2; exact rfl; exact rfl; (simp [setC]); (simp [Value.cells, Value.oneCell']); exact rfl; exact .inl rfl; exact rfl
    intro w3 hA3 hg3 hs3
    replace hA3 := setB 1 _ _ (by kernel_rfl) hA3
    repeat' (first | (apply G_on; exact rfl; first | ((first | apply G1_assign | apply G1_move); exact rfl; exact rfl) | (apply G1_add; exact rfl; exact rfl; omega; omega; exact rfl)) | apply G_nil | apply Post_next | apply W_region | apply Post_block_normal)
    exact Post_round 1 ⟨rfl, rfl, rfl, trivial⟩ ⟨hx2.own hg3 (fun k hk => by injection hk; omega), hA3, by omega⟩ (by omega)
  · have hb0 : (bget brs 1).toNat = 10 := by decide
    repeat' (first | (apply G_on; exact rfl; first | ((first | apply G1_assign | apply G1_move); exact rfl; exact rfl) | (apply G1_sindexJ (q := 1) (s := brs); exact T.str9; exact rfl; exact rfl; exact rfl; omega; exact rfl) | (apply G1_slen; exact T.str9; exact rfl; exact rfl) | ((first | apply G1_lss | apply G1_geq); exact rfl; exact rfl; exact rfl) | (apply G1_indexArr; exact T.ar140; exact rfl; exact rfl; omega; omega; exact rfl)) | apply G_nil | apply Post_next | apply W_seq | apply W_region | (apply W_cond_true; exact rfl) | (apply W_cond_false; exact rfl) | apply W_skip | apply W_block)
    apply G_on; exact rfl
    apply G1_storeB (m := 10); exact T.z4; exact rfl; exact rfl; exact hA2; exact rfl; exact rfl; (simp [setC]); (simp [Value.cells, Value.oneCell']); exact rfl; exact .inl rfl; exact rfl
    intro w3 hA3 hg3 hs3
    replace hA3 := setB 2 _ _ (by kernel_rfl) hA3
    repeat' (first | (apply G_on; exact rfl; first | ((first | apply G1_assign | apply G1_move); exact rfl; exact rfl) | (apply G1_add; exact rfl; exact rfl; omega; omega; exact rfl)) | apply G_nil | apply Post_next | apply W_region | apply Post_block_normal)
    exact Post_round 2 ⟨rfl, rfl, rfl, trivial⟩ ⟨hx2.own hg3 (fun k hk => by injection hk; omega), hA3, by omega⟩ (by omega)
  · repeat' (first | (apply G_on; exact rfl; first | (apply G1_move; exact rfl; exact rfl) | (apply G1_slen; exact T.str9; exact rfl; exact rfl) | (apply G1_lss; exact rfl; exact rfl; exact rfl) | (apply G1_loadBAgg; exact T.a140; exact rfl; assumption; exact rfl; exact rfl)) | apply G_nil | apply Post_next | apply W_seq | apply W_region | (apply W_cond_false; exact rfl) | apply W_exit | apply Post_then_exit | apply Post_block_exit)
    apply G_on; exact rfl
    apply G1_storeB (m := 0) (vs := setC 2); exact T.z140; exact rfl; exact rfl; exact hA2; exact rfl; (simp [setC]); (simp [setC]); (intro v hv; simp only [setC, List.mem_map] at hv; obtain ⟨i, _, rfl⟩ := hv; rfl); exact rfl; exact .inl rfl; exact rfl
    intro w3 hA3 hg3 hs3
    replace hA3 := setB 2 _ _ (by kernel_rfl) hA3
    have hx3 : Ext w w3 := hx2.own hg3 (fun k hk => by injection hk; omega)
    repeat' (first | (apply G_on; exact rfl; (apply G1_assign; exact rfl; exact rfl)) | apply G_nil | apply Post_next | apply W_ret)
    refine Post_ret Tryz.results77 ⟨_, _, _, rfl, rfl, run_loadVar_box T.a140 (by assumption) rfl, _, _, rfl, rfl, rfl⟩ ?_
    exact ⟨rfl, (by repeat first | assumption | exact Ext.rfl' | apply Ext.drew | apply Ext.alloc | refine Ext.trans ?_ (by assumption))⟩
theorem contains_spec {a k : Nat} {c : UInt8} {w : World} (hA : Blk w.heap a 140 (setC k)) :
    Ctr Tryz.prog 78 [.pointer (some (adr (bx a) 0)), .int .u8 (c.toNat : Int)] w (fun v w' => v = .bool ((decide (c.toNat = 13) && decide (0 < k)) || (decide (c.toNat = 10) && decide (1 < k))) ∧ Ext w w') := by
  have hlt := c.toNat_lt
  have hcell : (setC k)[c.toNat]? = some (.bool ((decide (c.toNat = 13) && decide (0 < k)) || (decide (c.toNat = 10) && decide (1 < k)))) := by
    unfold setC
    rw [List.getElem?_map, List.getElem?_range (by omega)]
    rfl
  refine Ctr_of Tryz.func78 Tryz.ntmps78 rfl rfl rfl ?_
  repeat' (first | (apply G_on; exact rfl; first | ((first | apply G1_assign | apply G1_move | apply G1_nilCheck); exact rfl; exact rfl) | (apply G1_loadB; exact T.p4; exact rfl; exact hA; (simp only [Nat.zero_add, Nat.mul_one, Int.toNat_natCast]; exact hcell); exact rfl) | (apply G1_indexArr; exact T.ar140; exact rfl; exact rfl; omega; omega; exact rfl)) | apply G_nil | apply Post_next | apply W_seq | apply W_region | apply W_ret)
  refine Post_ret Tryz.results78 ⟨_, _, rfl, rfl, rfl⟩ ?_
  exact ⟨rfl, (by repeat first | assumption | exact Ext.rfl' | apply Ext.drew | apply Ext.alloc | refine Ext.trans ?_ (by assumption))⟩
end Go.Proofs.YtipbakiecocioaaGreatDoor

/- The order of decimal forms, in plain Lean. -/

namespace Go.Proofs.YtipbakiecocioaaGreatDoor
open Go.V
attribute [local irreducible] Blk Own hcell IntT SliceT PlainT AggT SizeT StrT FieldT ZeroT EqT ArrT
theorem less_app : ∀ (xs ys : List UInt8) (c d : UInt8), xs.length = ys.length → Op.bytesLess (xs ++ [c]) (ys ++ [d]) = (Op.bytesLess xs ys || (decide (xs = ys) && decide (c < d)))
  | [], [], c, d, _ => by simp [Op.bytesLess]
  | x :: xs, y :: ys, c, d, h => by
    have ih := less_app xs ys c d (by simpa using h)
    simp only [List.cons_append, Op.bytesLess, ih]
    by_cases hlt : x < y
    · simp [hlt]
    · by_cases hgt : y < x
      · have hne : x ≠ y := by intro he; subst he; exact absurd hgt hlt
        have hb : (x == y) = false := by simp [hne]
        simp [hlt, hne, hb]
      · have he : x = y := UInt8.le_antisymm (UInt8.not_lt.1 hgt) (UInt8.not_lt.1 hlt)
        subst he
        simp
  | [], y :: ys, c, d, h => by cases h
  | x :: xs, [], c, d, h => by cases h
theorem digit_lt {a b : Nat} (ha : a < 10) (hb : b < 10) : (UInt8.ofNat (48 + a) < UInt8.ofNat (48 + b)) ↔ a < b := by
  rw [UInt8.lt_iff_toNat_lt]
  rw [UInt8.toNat_ofNat', UInt8.toNat_ofNat']
  omega
theorem dec_ge (u : Nat) : ∀ c ∈ Lib.decDigits u, 48 ≤ c.toNat := by
  induction u using Nat.strongRecOn with
  | _ u ih =>
    rw [Lib.decDigits]
    split
    · intro c hc
      simp only [List.mem_singleton] at hc
      rw [hc, UInt8.toNat_ofNat']
      omega
    · intro c hc
      rcases List.mem_append.1 hc with hc | hc
      · exact ih (u / 10) (by omega) c hc
      · simp only [List.mem_singleton] at hc
        rw [hc, UInt8.toNat_ofNat']
        omega
theorem dec_less (u : Nat) : ∀ v, Lib.nDigits u = Lib.nDigits v → Op.bytesLess (Lib.decDigits u) (Lib.decDigits v) = decide (u < v) ∧ (Lib.decDigits u = Lib.decDigits v ↔ u = v) := by
  induction u using Nat.strongRecOn with
  | _ u ih =>
    intro v hn
    by_cases hu : u < 10
    · have hv : v < 10 := by
        apply Decidable.byContradiction; intro hv
        rw [Lib.nDigits_small hu, Lib.nDigits_big hv] at hn
        have := Lib.nDigits_pos (v / 10)
        omega
      have hd := digit_lt hu hv
      have hd2 := digit_lt hv hu
      rw [Lib.decDigits_one hu, Lib.decDigits_one hv]
      refine ⟨?_, ?_⟩
      · rw [show ([UInt8.ofNat (48 + u)] : List UInt8) = [] ++ [UInt8.ofNat (48 + u)] from rfl, show ([UInt8.ofNat (48 + v)] : List UInt8) = [] ++ [UInt8.ofNat (48 + v)] from rfl, less_app [] [] _ _ rfl]
        rw [show decide (UInt8.ofNat (48 + u) < UInt8.ofNat (48 + v)) = decide (u < v) from decide_eq_decide.2 hd]
        simp [Op.bytesLess]
      · constructor
        · intro he
          injection he with he _
          rw [he] at hd hd2
          have h1 : ¬ u < v := fun h => UInt8.lt_irrefl _ (hd.2 h)
          have h2 : ¬ v < u := fun h => UInt8.lt_irrefl _ (hd2.2 h)
          omega
        · intro he; rw [he]
    · have hv : ¬ v < 10 := by
        intro hv
        rw [Lib.nDigits_small hv, Lib.nDigits_big hu] at hn
        have := Lib.nDigits_pos (u / 10)
        omega
      rw [Lib.nDigits_big hu, Lib.nDigits_big hv] at hn
      obtain ⟨ih1, ih2⟩ := ih (u / 10) (by omega) (v / 10) (by omega)
      have hlen : (Lib.decDigits (u / 10)).length = (Lib.decDigits (v / 10)).length := by rw [Lib.decDigits_length, Lib.decDigits_length]; omega
      have hd := digit_lt (a := u % 10) (b := v % 10) (by omega) (by omega)
      have hd2 := digit_lt (a := v % 10) (b := u % 10) (by omega) (by omega)
      rw [Lib.decDigits, dif_neg hu, Lib.decDigits.eq_1 v, dif_neg hv]
      refine ⟨?_, ?_⟩
      · rw [less_app _ _ _ _ hlen, ih1]
        rw [show decide (UInt8.ofNat (48 + u % 10) < UInt8.ofNat (48 + v % 10)) = decide (u % 10 < v % 10) from decide_eq_decide.2 hd,
          show decide (Lib.decDigits (u / 10) = Lib.decDigits (v / 10)) = decide (u / 10 = v / 10) from decide_eq_decide.2 ih2, ← Bool.decide_and, ← Bool.decide_or]
        apply decide_eq_decide.2
        omega
      · constructor
        · intro he
          obtain ⟨e1, e2⟩ := List.append_inj he hlen
          injection e2 with e2 _
          rw [e2] at hd hd2
          have h1 : ¬ u % 10 < v % 10 := fun h => UInt8.lt_irrefl _ (hd.2 h)
          have h2 : ¬ v % 10 < u % 10 := fun h => UInt8.lt_irrefl _ (hd2.2 h)
          have := ih2.1 e1
          omega
        · intro he; rw [he]
theorem dec_inj {u v : Nat} (he : Lib.decDigits u = Lib.decDigits v) : u = v :=
  (dec_less u v (by rw [← Lib.decDigits_length, ← Lib.decDigits_length, he])).2.1 he
theorem dec_ne (u : Nat) (xs : List UInt8) : Lib.decDigits u ≠ 45 :: xs := by
  intro he
  have := dec_ge u 45 (by rw [he]; simp)
  simp at this
theorem itoa_inj {a b : Int} (he : Lib.itoa a = Lib.itoa b) : a = b := by
  unfold Lib.itoa at he
  split at he <;> split at he
  · injection he with _ he
    have := dec_inj he
    omega
  · exact absurd he.symm (dec_ne _ _)
  · exact absurd he (dec_ne _ _)
  · have := dec_inj he
    omega
end Go.Proofs.YtipbakiecocioaaGreatDoor

/- Replies: how they are written; unlike ones are written unlike; in plain Lean. -/

namespace Go.Proofs.YtipbakiecocioaaGreatDoor
open Go.V
attribute [local irreducible] Blk Own hcell IntT SliceT PlainT AggT SizeT StrT FieldT ZeroT EqT ArrT
def crlf : List UInt8 := [13, 10]
def wHead (t : Rep) : List UInt8 :=
  if t.kind = 0 then 43 :: (t.s.data.toList ++ crlf)
  else if t.kind = 1 then 45 :: (t.s.data.toList ++ crlf)
  else if t.kind = 2 then 58 :: (Lib.itoa t.n ++ crlf)
  else if t.kind = 3 then 36 :: (Lib.itoa t.s.size ++ crlf ++ (t.s.data.toList ++ crlf))
  else if t.kind = 4 then 36 :: ([45, 49] ++ crlf)
  else 42 :: (Lib.itoa t.l.length ++ crlf)
/-- what is written of a reply, so deep -/
def wT : Nat → Rep → List UInt8
  | 0, t => wHead t
  | d + 1, t => wHead t ++ (if t.kind = 5 then t.l.flatMap (wT d) else [])
structure Leaf (t : Rep) : Prop where
  lo : 0 ≤ t.kind
  hi : t.kind ≤ 5
  list : t.kind ≠ 5 → t.l = []
  num : t.kind ≠ 2 → t.n = 0
  text : t.kind = 2 ∨ t.kind = 4 ∨ t.kind = 5 → t.s = ⟨#[]⟩
  line : t.kind = 0 ∨ t.kind = 1 → nobr t.s = true
theorem leaf_of {t : Rep} (h : leafOk t = true) : Leaf t := by
  unfold leafOk at h
  simp only [Bool.and_eq_true, Bool.or_eq_true, decide_eq_true_eq, List.isEmpty_iff] at h
  obtain ⟨⟨⟨⟨⟨h1, h2⟩, h3⟩, h4⟩, h5⟩, h6⟩ := h
  refine ⟨h1, h2, fun e => h3.resolve_left e, fun e => h4.resolve_left e, fun e => ?_, fun e => ?_⟩
  · rcases h5 with ((h5 | h5) | h5) | h5
    · omega
    · omega
    · omega
    · exact h5
  · rcases h6 with h6 | h6
    · omega
    · exact h6
theorem right_leaf {d : Nat} {t : Rep} (h : rightT d t = true) : Leaf t := by
  cases d <;> simp only [rightT, Bool.and_eq_true] at h <;> exact leaf_of h.1
end Go.Proofs.YtipbakiecocioaaGreatDoor

/- Numbers that fit, sums, spans: in plain Lean. -/

namespace Go.V
def fit64 (n : Int) : Prop := -9223372036854775808 ≤ n ∧ n ≤ 9223372036854775807
instance (n : Int) : Decidable (fit64 n) := inferInstanceAs (Decidable (_ ∧ _))
end Go.V

/- Decimal forms read back, in plain Lean. -/

namespace Go.Proofs.YtipbakiecocioaaGreatDoor
open Go.V
attribute [local irreducible] Blk Own hcell IntT SliceT PlainT AggT SizeT StrT FieldT ZeroT EqT ArrT
def valN (acc : Nat) (l : List UInt8) : Nat := l.foldl (fun a c => a * 10 + (c.toNat - 48)) acc
theorem valN_cons (acc : Nat) (c : UInt8) (l : List UInt8) : valN acc (c :: l) = valN (acc * 10 + (c.toNat - 48)) l := by unfold valN; rw [List.foldl_cons]
theorem valN_snoc (acc : Nat) (l : List UInt8) (c : UInt8) : valN acc (l ++ [c]) = valN acc l * 10 + (c.toNat - 48) := by unfold valN; rw [List.foldl_append, List.foldl_cons, List.foldl_nil]
theorem valN_ge : ∀ (l : List UInt8) (acc : Nat), acc ≤ valN acc l
  | [], acc => Nat.le_refl _
  | c :: l, acc => by rw [valN_cons]; have := valN_ge l (acc * 10 + (c.toNat - 48)); omega
theorem parseM_ok : ∀ (l : List UInt8) (acc : Nat), (∀ c ∈ l, 48 ≤ c.toNat ∧ c.toNat ≤ 57) → valN acc l ≤ 18446744073709551615 → Lib.parseUintM (2 ^ 64 - 1) acc l = .ok (valN acc l)
  | [], acc, _, _ => rfl
  | c :: l, acc, hd, hv => by
    have hc := hd c (by simp)
    have hg := valN_ge l (acc * 10 + (c.toNat - 48))
    rw [valN_cons] at hv ⊢
    rw [Lib.parseUintM, if_pos hc, if_neg (by omega), if_neg (by omega), parseM_ok l _ (fun d h => hd d (by simp [h])) hv]
theorem dec_le (u : Nat) : ∀ c ∈ Lib.decDigits u, c.toNat ≤ 57 := by
  induction u using Nat.strongRecOn with
  | _ u ih =>
    rw [Lib.decDigits]
    split
    · intro c hc
      simp only [List.mem_singleton] at hc
      rw [hc, UInt8.toNat_ofNat']
      omega
    · intro c hc
      rcases List.mem_append.1 hc with hc | hc
      · exact ih (u / 10) (by omega) c hc
      · simp only [List.mem_singleton] at hc
        rw [hc, UInt8.toNat_ofNat']
        omega
theorem val_dec (u : Nat) : valN 0 (Lib.decDigits u) = u := by
  induction u using Nat.strongRecOn with
  | _ u ih =>
    rw [Lib.decDigits]
    split
    · show 0 * 10 + ((UInt8.ofNat (48 + u)).toNat - 48) = u
      rw [UInt8.toNat_ofNat']
      omega
    · rw [valN_snoc, ih (u / 10) (by omega), UInt8.toNat_ofNat']
      omega
theorem dec_cons (u : Nat) : ∃ c l, Lib.decDigits u = c :: l ∧ 48 ≤ c.toNat := by
  cases h : Lib.decDigits u with
  | nil =>
    have := Lib.decDigits_length u
    rw [h] at this
    have h2 := Lib.nDigits_pos u
    simp at this; omega
  | cons c l => exact ⟨c, l, rfl, dec_ge u c (by rw [h]; simp)⟩
theorem uint_dec {u : Nat} (h : u ≤ 18446744073709551615) : Lib.parseUintB 64 (Lib.decDigits u) = .ok u := by
  obtain ⟨c, l, hc, _⟩ := dec_cons u
  unfold Lib.parseUintB
  rw [if_neg (by rw [hc]; simp), parseM_ok _ 0 (fun c hc => ⟨dec_ge u c hc, dec_le u c hc⟩) (by rw [val_dec]; exact h), val_dec]
theorem parse_itoa {n : Int} (h : fit64 n) : Lib.parseIntB 64 (Lib.itoa n) = .ok n := by
  unfold fit64 at h
  unfold Lib.itoa
  by_cases hn : n < 0
  · rw [if_pos hn]
    unfold Lib.parseIntB
    simp only
    rw [if_pos (.inr (by decide)), uint_dec (by omega)]
    simp only
    have h45 : (45 : UInt8).toNat = 45 := by decide
    rw [if_neg (by rw [h45]; simp), if_neg (by omega), if_pos h45]
    congr 1; omega
  · rw [if_neg hn]
    obtain ⟨c, l, hc, hc48⟩ := dec_cons n.toNat
    have hu := uint_dec (u := n.toNat) (by omega)
    rw [hc] at hu ⊢
    unfold Lib.parseIntB
    simp only
    rw [if_neg (by omega), hu]
    simp only
    rw [if_neg (by omega), if_neg (by omega), if_neg (by omega)]
    congr 1; omega
theorem parse_fit {l : List UInt8} {v : Int} (h : Lib.parseIntB 64 l = .ok v) : fit64 v := by
  unfold Lib.parseIntB at h
  cases l with
  | nil => cases h
  | cons c r =>
    simp only at h
    generalize Lib.parseUintB 64 _ = q at h
    rcases q with u | _ | _
    · simp only at h
      split at h
      · cases h
      · split at h
        · cases h
        · injection h with h
          unfold fit64
          split at h <;> omega
    · cases h
    · cases h
theorem nDigits_le : ∀ (k u : Nat), u < 10 ^ (k + 1) → Lib.nDigits u ≤ k + 1
  | 0, u, h => by rw [Lib.nDigits_small (by simpa using h)]; exact Nat.le_refl _
  | k + 1, u, h => by
    by_cases h10 : u < 10
    · rw [Lib.nDigits_small h10]; omega
    · rw [Lib.nDigits_big h10]
      have := nDigits_le k (u / 10) (by rw [Nat.pow_succ] at h; omega)
      omega
theorem itoa_size {n : Int} (h : fit64 n) : (itoaB n).size ≤ 20 := by
  unfold fit64 at h
  have e : (itoaB n).size = (Lib.itoa n).length := by
    show (Lib.itoa n).toArray.size = _
    simp
  rw [e]
  unfold Lib.itoa
  split
  · have := nDigits_le 18 n.natAbs (by omega)
    rw [List.length_cons, Lib.decDigits_length]; omega
  · have := nDigits_le 18 n.toNat (by omega)
    rw [Lib.decDigits_length]; omega
/-- the number of which s is the form -/
def IsNum (s : ByteArray) (n : Int) : Prop := fit64 n ∧ itoaB n = s
theorem itoaB_list (n : Int) : (itoaB n).data.toList = Lib.itoa n := by show (Lib.itoa n).toArray.toList = _; simp
end Go.Proofs.YtipbakiecocioaaGreatDoor

/- Replies read out of bytes; what is written of a right one is read as it; in plain Lean. -/

namespace Go.Proofs.YtipbakiecocioaaGreatDoor
open Go.V
attribute [local irreducible] Blk Own hcell IntT SliceT PlainT AggT SizeT StrT FieldT ZeroT EqT ArrT
/-- the place of the first end-of-line sign; the length, where there is none -/
def brAt : List UInt8 → Nat
  | [] => 0
  | b :: l => if isBr b = true then 0 else brAt l + 1
theorem brAt_app : ∀ (a : List UInt8) (c : UInt8) (r : List UInt8), (∀ b ∈ a, isBr b = false) → isBr c = true → brAt (a ++ c :: r) = a.length
  | [], c, r, _, hc => by simp [brAt, hc]
  | b :: a, c, r, ha, hc => by
    have h1 := ha b (by simp)
    have h2 := brAt_app a c r (fun x hx => ha x (List.mem_cons_of_mem _ hx)) hc
    simp only [List.cons_append, brAt, h1, h2, List.length_cons]
    simp
theorem brAt_is : ∀ (l : List UInt8), brAt l < l.length → ∃ c, l[brAt l]? = some c ∧ isBr c = true
  | [], h => by simp at h
  | c :: l, h => by
    unfold brAt at h ⊢
    split
    · rename_i hc; exact ⟨c, rfl, hc⟩
    · rename_i hc
      rw [if_neg hc, List.length_cons] at h
      obtain ⟨x, h1, h2⟩ := brAt_is l (by omega)
      exact ⟨x, by simpa using h1, h2⟩
open Classical in
noncomputable def numOf (s : List UInt8) : Option Int := if h : ∃ n, IsNum (mkStr s) n then some h.choose else none
theorem isNum_inj {s : ByteArray} {m n : Int} (h : IsNum s m) (k : IsNum s n) : m = n := by
  have e := h.2.trans k.2.symm
  have e2 := congrArg (fun b : ByteArray => b.data.toList) e
  simp only [itoaB_list] at e2
  exact itoa_inj e2
theorem numOf_some {s : List UInt8} {n : Int} (h : IsNum (mkStr s) n) : numOf s = some n := by
  have hx : ∃ n, IsNum (mkStr s) n := ⟨n, h⟩
  unfold numOf
  rw [dif_pos hx]
  exact congrArg some (isNum_inj hx.choose_spec h)
theorem numOf_none {s : List UInt8} (h : ∀ n, ¬ IsNum (mkStr s) n) : numOf s = none := by
  unfold numOf
  rw [dif_neg (fun ⟨n, hn⟩ => h n hn)]
inductive Hd where
  | none
  | leaf (t : Rep) (k : Nat)
  | list (n k : Nat)
/-- what a line with the mark m and the text s says; r is behind it, k the length of it with its end -/
noncomputable def rdLine (m : UInt8) (s r : List UInt8) (k : Nat) : Hd :=
  if m = 43 then .leaf (.mk 0 (mkStr s) 0 []) k
  else if m = 45 then .leaf (.mk 1 (mkStr s) 0 []) k
  else match numOf s with
    | none => .none
    | some n =>
      if m = 58 then .leaf (.mk 2 ⟨#[]⟩ n []) k
      else if m = 36 then
        if n = -1 then .leaf (.mk 4 ⟨#[]⟩ 0 []) k
        else if 0 ≤ n ∧ n ≤ (r.length : Int) ∧ (r.drop n.toNat).take 2 = [13, 10] then .leaf (.mk 3 (mkStr (r.take n.toNat)) 0 []) (k + n.toNat + 2)
        else .none
      else if m = 42 ∧ 0 ≤ n then .list n.toNat k
      else .none
noncomputable def rdHead (bs : List UInt8) : Hd :=
  match bs.take (brAt bs) with
  | [] => .none
  | m :: s => if (bs.drop (brAt bs)).take 2 = [13, 10] then rdLine m s (bs.drop (brAt bs + 2)) (brAt bs + 2) else .none
def rdL (f : List UInt8 → Option (Rep × Nat)) : Nat → List UInt8 → Option (List Rep × Nat)
  | 0, _ => some ([], 0)
  | n + 1, bs => match f bs with
    | none => none
    | some (t, k) => match rdL f n (bs.drop k) with
      | none => none
      | some (l, j) => some (t :: l, k + j)
/-- the reply with which bytes begin, with at most so many arrays within one another, and its length -/
noncomputable def rdT : Nat → List UInt8 → Option (Rep × Nat)
  | 0, bs => match rdHead bs with
    | .leaf t k => some (t, k)
    | _ => none
  | d + 1, bs => match rdHead bs with
    | .leaf t k => some (t, k)
    | .list n k => match rdL (rdT d) n (bs.drop k) with
      | some (l, j) => some (.mk 5 ⟨#[]⟩ 0 l, k + j)
      | none => none
    | .none => none
theorem rdT_leaf {d k : Nat} {bs : List UInt8} {t : Rep} (h : rdHead bs = .leaf t k) : rdT d bs = some (t, k) := by
  cases d <;> simp [rdT, h]
theorem rdT_none {d : Nat} {bs : List UInt8} (h : rdHead bs = .none) : rdT d bs = none := by
  cases d <;> simp [rdT, h]
theorem rdT_list0 {n k : Nat} {bs : List UInt8} (h : rdHead bs = .list n k) : rdT 0 bs = none := by
  simp [rdT, h]
theorem rdT_list {d n k : Nat} {bs : List UInt8} (h : rdHead bs = .list n k) : rdT (d + 1) bs = (rdL (rdT d) n (bs.drop k)).map (fun x => (.mk 5 ⟨#[]⟩ 0 x.1, k + x.2)) := by
  simp only [rdT, h]
  cases rdL (rdT d) n (bs.drop k) with
  | none => rfl
  | some x => rfl
theorem rdHead_no {bs : List UInt8} (h : brAt bs = 0 ∨ ¬ (bs.drop (brAt bs)).take 2 = [13, 10]) : rdHead bs = .none := by
  unfold rdHead
  split
  · rfl
  · rename_i m s e
    rcases h with h | h
    · rw [h] at e; simp at e
    · rw [if_neg h]
theorem rdHead_line {bs : List UInt8} {m : UInt8} {s : List UInt8} (h1 : bs.take (brAt bs) = m :: s) (h2 : (bs.drop (brAt bs)).take 2 = [13, 10]) : rdHead bs = rdLine m s (bs.drop (brAt bs + 2)) (brAt bs + 2) := by
  unfold rdHead
  rw [h1]
  simp only
  rw [if_pos h2]
/-- a whole line -/
theorem rdHead_at {m : UInt8} {s r : List UInt8} (hm : isBr m = false) (hs : ∀ b ∈ s, isBr b = false) : rdHead ((m :: (s ++ crlf)) ++ r) = rdLine m s r (s.length + 3) := by
  have e : (m :: (s ++ crlf)) ++ r = (m :: s) ++ 13 :: (10 :: r) := by simp [crlf]
  have hb : brAt ((m :: (s ++ crlf)) ++ r) = s.length + 1 := by
    rw [e, brAt_app _ _ _ (fun b hb => by
      rcases List.mem_cons.1 hb with rfl | hb
      · exact hm
      · exact hs b hb) (by decide)]
    rfl
  have e1 : ((m :: (s ++ crlf)) ++ r).take (s.length + 1) = m :: s := by rw [e]; exact List.take_left' rfl
  have e2 : ((m :: (s ++ crlf)) ++ r).drop (s.length + 1) = 13 :: 10 :: r := by rw [e]; exact List.drop_left' rfl
  have e3 : ((m :: (s ++ crlf)) ++ r).drop (s.length + 1 + 2) = r := by rw [← List.drop_drop, e2]; rfl
  rw [rdHead_line (m := m) (s := s) (by rw [hb, e1]) (by rw [hb, e2]; rfl), hb, e3]
/-- the reply takes at least three bytes, and they are there -/
theorem brAt_two {bs : List UInt8} (h : (bs.drop (brAt bs)).take 2 = [13, 10]) : brAt bs + 2 ≤ bs.length := by
  have := congrArg List.length h
  simp at this
  omega
theorem rdHead_len {bs : List UInt8} : (∀ t k, rdHead bs = .leaf t k → 3 ≤ k ∧ k ≤ bs.length) ∧ (∀ n k, rdHead bs = .list n k → 3 ≤ k ∧ k ≤ bs.length) := by
  by_cases h0 : brAt bs = 0 ∨ ¬ (bs.drop (brAt bs)).take 2 = [13, 10]
  · rw [rdHead_no h0]
    exact ⟨fun t k h => (by cases h), fun n k h => (by cases h)⟩
  · have h1 : brAt bs ≠ 0 := fun e => h0 (.inl e)
    have h2 : (bs.drop (brAt bs)).take 2 = [13, 10] := Classical.byContradiction fun e => h0 (.inr e)
    have h3 := brAt_two h2
    obtain ⟨m, s, hms⟩ : ∃ m s, bs.take (brAt bs) = m :: s := by
      cases e : bs.take (brAt bs) with
      | nil => have := congrArg List.length e; rw [List.length_take, List.length_nil] at this; omega
      | cons m s => exact ⟨m, s, rfl⟩
    rw [rdHead_line hms h2]
    unfold rdLine
    have hl : (bs.drop (brAt bs + 2)).length = bs.length - (brAt bs + 2) := by simp
    constructor
    · intro t k h
      split at h
      · cases h; omega
      split at h
      · cases h; omega
      split at h
      · cases h
      rename_i n _
      split at h
      · cases h; omega
      split at h
      · split at h
        · cases h; omega
        · split at h
          · rename_i h5
            have h6 := congrArg List.length h5.2.2
            simp only [List.length_take, List.length_drop, List.length_cons, List.length_nil] at h6
            cases h
            omega
          · cases h
      · split at h <;> cases h
    · intro n k h
      split at h
      · cases h
      split at h
      · cases h
      split at h
      · cases h
      split at h
      · cases h
      split at h
      · split at h
        · cases h
        · split at h <;> cases h
      · split at h
        · cases h; omega
        · cases h
theorem rdL_len {f : List UInt8 → Option (Rep × Nat)} (hf : ∀ bs t k, f bs = some (t, k) → 3 ≤ k ∧ k ≤ bs.length) : ∀ (n : Nat) (bs : List UInt8) (l : List Rep) (j : Nat), rdL f n bs = some (l, j) → l.length = n ∧ 3 * n ≤ j ∧ j ≤ bs.length
  | 0, bs, l, j, h => by
    simp only [rdL, Option.some.injEq, Prod.mk.injEq] at h
    obtain ⟨rfl, rfl⟩ := h
    simp
  | n + 1, bs, l, j, h => by
    unfold rdL at h
    split at h
    · cases h
    rename_i t k e
    split at h
    · cases h
    rename_i l' j' e'
    cases h
    obtain ⟨h1, h2⟩ := hf _ _ _ e
    obtain ⟨h3, h4, h5⟩ := rdL_len hf n _ _ _ e'
    simp only [List.length_drop] at h5
    simp only [List.length_cons]
    omega
theorem rdT_len : ∀ (d : Nat) (bs : List UInt8) (t : Rep) (k : Nat), rdT d bs = some (t, k) → 3 ≤ k ∧ k ≤ bs.length
  | 0, bs, t, k, h => by
    cases e : rdHead bs with
    | none => rw [rdT_none e] at h; cases h
    | leaf t' k' => rw [rdT_leaf e] at h; cases h; exact rdHead_len.1 _ _ e
    | list n k' => rw [rdT_list0 e] at h; cases h
  | d + 1, bs, t, k, h => by
    cases e : rdHead bs with
    | none => rw [rdT_none e] at h; cases h
    | leaf t' k' => rw [rdT_leaf e] at h; cases h; exact rdHead_len.1 _ _ e
    | list n k' =>
      rw [rdT_list e] at h
      have h1 := rdHead_len.2 _ _ e
      cases e2 : rdL (rdT d) n (bs.drop k') with
      | none => rw [e2] at h; cases h
      | some x =>
        rw [e2] at h
        cases h
        have h2 := rdL_len (rdT_len d) n _ x.1 x.2 e2
        simp only [List.length_drop] at h2
        omega
theorem rdL_snoc {f : List UInt8 → Option (Rep × Nat)} : ∀ (n : Nat) (bs : List UInt8), rdL f (n + 1) bs = (rdL f n bs).bind (fun x => (f (bs.drop x.2)).map (fun y => (x.1 ++ [y.1], x.2 + y.2)))
  | 0, bs => by
    simp only [rdL, Option.bind_some, List.drop_zero, List.nil_append]
    cases f bs with
    | none => rfl
    | some y => simp
  | n + 1, bs => by
    unfold rdL
    cases e : f bs with
    | none => rfl
    | some y =>
      obtain ⟨t, k⟩ := y
      simp only
      rw [rdL_snoc n (bs.drop k)]
      cases e2 : rdL f n (bs.drop k) with
      | none => rfl
      | some x =>
        obtain ⟨l, j⟩ := x
        simp only [Option.bind_some, List.drop_drop]
        cases e3 : f (bs.drop (k + j)) with
        | none => rfl
        | some z => simp [Nat.add_assoc]
/-- once none, always none -/
theorem rdL_stop {f : List UInt8 → Option (Rep × Nat)} {bs : List UInt8} : ∀ {n m : Nat}, n ≤ m → rdL f n bs = none → rdL f m bs = none := by
  intro n m h
  induction h with
  | refl => exact id
  | step _ ih => intro h0; rw [rdL_snoc, ih h0]; rfl
end Go.Proofs.YtipbakiecocioaaGreatDoor

/- bytes.IndexAny at the ends of lines: the walk. -/

namespace Go.V
open Go.RowKit
theorem enc_size (c : Nat) (hv : Utf8.valid (c : Int) = true) : (Utf8.encode (c : Int)).size = if c < 0x80 then 1 else if c < 0x800 then 2 else if c < 0x10000 then 3 else 4 := by
  unfold Utf8.encode
  simp only [hv, if_true, Int.toNat_natCast]
  split
  · rfl
  · split
    · rfl
    · split <;> rfl
/-- a rune that is read is written as long as it was -/
theorem enc_width (s : ByteArray) (i : Nat) (h : i < s.size) (hb : 128 ≤ (bget s i).toNat) (hr : (Utf8.decode s i).1 ≠ 65533) : (Utf8.encode ((Utf8.decode s i).1 : Int)).size = (Utf8.decode s i).2 := by
  have h0 : (s.get! i).toNat = (bget s i).toNat := by rw [bget_get' h]
  have hn : ¬ (s.get! i).toNat < 128 := by omega
  have vd : ∀ c : Nat, c < 0xD800 → Utf8.valid (c : Int) = true := fun c hc => by
    unfold Utf8.valid
    simp only [Bool.or_eq_true, Bool.and_eq_true, decide_eq_true_eq]
    omega
  generalize hd : Utf8.decode s i = d at hr ⊢
  simp only [Utf8.decode, Nat.add_zero, hn, if_false] at hd
  split at hd
  · rename_i q1
    split at hd
    · rename_i q2
      subst hd
      simp only [Bool.and_eq_true, beq_iff_eq] at q1
      rw [enc_size _ (vd _ (by omega)), if_neg (by omega), if_pos (by omega)]
    · subst hd; exact absurd rfl hr
  · split at hd
    · rename_i q2
      split at hd
      · rename_i q3
        subst hd
        simp only [Bool.and_eq_true, beq_iff_eq, decide_eq_true_eq] at q2 q3
        rw [enc_size _ q3.2, if_neg (by omega), if_neg (by omega), if_pos (by omega)]
      · subst hd; exact absurd rfl hr
    · split at hd
      · rename_i q3
        split at hd
        · rename_i q4
          subst hd
          simp only [Bool.and_eq_true, beq_iff_eq, decide_eq_true_eq] at q3 q4
          rw [enc_size _ q4.2, if_neg (by omega), if_neg (by omega), if_neg (by omega)]
        · subst hd; exact absurd rfl hr
      · subst hd; exact absurd rfl hr
section
variable {P : Program} {n : Nat} {ops : Array Oper} {dr : Nat × List Nat} {l : List Oper} {E : Env} {w : World} {K : Env → World → Prop}
variable {d : Option Nat} {ty : TypeId} {pos : String} {af : Array Edge} {g : Option (Nat × Bool)} {x y : Operand} {i : Int}
/-- a longer text is not found in a shorter one -/
theorem run_indexS (P : Program) (a b : ByteArray) {m : Int} {gm : Nat} (w : World) (hg : P.globals.findIdx? (·.name == "internal/bytealg.MaxLen") = some gm) (hm : hcell w.heap ⟨gm, 0, none⟩ = some (.int .i64 m)) (h1 : 2 ≤ b.size) (h2 : (b.size : Int) ≤ m) (h3 : a.size < b.size) (h4 : a.size < 1000) :
    (Extern.BytealgIndex.index #[.string a, .string b]).run P w = .ok (.int .i64 (-1)) w := by
  have hml : (Extern.BytealgIndex.maxLen).run P w = .ok m w := by
    unfold Extern.BytealgIndex.maxLen
    simp [globalAddr, hg, load, Sem.run, cell_eq, hm, asInt, asIntOf]
  have hr : a.size + 1 - b.size = 0 := by omega
  change Sem.run P (bind (Extern.Bytes.bytesOf (.string a)) _) w = _
  have ea : (Extern.Bytes.bytesOf (.string a)).run P w = .ok a w := rfl
  have eb : (Extern.Bytes.bytesOf (.string b)).run P w = .ok b w := rfl
  rw [Sem.run_bind, ea, Result.andThen_ok]
  change Sem.run P (bind (Extern.Bytes.bytesOf (.string b)) _) w = _
  rw [Sem.run_bind, eb, Result.andThen_ok]
  rw [Sem.run_bind, hml, Result.andThen_ok]
  have e1 : (decide (b.size < 2) || decide ((b.size : Int) > m)) = false := by
    simp only [Bool.or_eq_false_iff, decide_eq_false_iff_not]; omega
  rw [if_neg (by rw [e1]; decide)]
  simp only [Sem.run_bind, Sem.run_pure, Result.andThen_ok]
  rw [if_neg (by omega), hr]
  rfl
theorem G1_indexS {f : FuncId} {fn : Func} {a b : ByteArray} {m : Int} {gm : Nat} {tys : Array TypeId} (hf : P.funcs[f]? = some fn) (hname : (fn.name == "runtime.NumGoroutine") = false) (hb : fn.body.isNone = true) (hn : Extern.findNext fn = none) (hfi : Extern.find fn = some Extern.BytealgIndex.index)
    (hx : E.look x = some (.string a)) (hy : E.look y = some (.string b)) (hg : P.globals.findIdx? (·.name == "internal/bytealg.MaxLen") = some gm) (hm : hcell w.heap ⟨gm, 0, none⟩ = some (.int .i64 m)) (h1 : 2 ≤ b.size) (h2 : (b.size : Int) ≤ m) (h3 : a.size < b.size) (h4 : a.size < 1000) (he : effects P dr.1 ⟨d, .call ⟨.value (.func f), #[x, y], tys⟩, ty, pos, af, g⟩ = true) (hd : dstOk n d = true)
    (h : G P n ops dr l (E.put d (.int .i64 (-1))) w K) : G1 P n ops dr ⟨d, .call ⟨.value (.func f), #[x, y], tys⟩, ty, pos, af, g⟩ l E w K := by
  have hr : (callFunc f #[.string a, .string b]).run P w = .ok (.value (.int .i64 (-1))) w := by
    rw [run_callFunc_extern hf hname hb hn hfi, run_indexS P a b w hg hm h1 h2 h3 h4]
    rfl
  exact G1_eff _ w he hd (fun a ha => by
    have e0 : a.eval (.func f) = .func (.func f) #[] #[] := rfl
    simp [execOp, resolve, Deferred.ofValue, e0, invoke, ha.eval hx, ha.eval hy, hr]) (.inr ExtS.rfl') h
end
end Go.V
namespace Go.Proofs.YtipbakiecocioaaGreatDoor
open Go.V
attribute [local irreducible] Blk Own hcell IntT SliceT PlainT AggT SizeT StrT FieldT ZeroT EqT ArrT
/-- the library's tables of runes, and a number in the variable MaxLen -/
structure Utf (w : World) : Prop where
  tabs : Lib.Utf8Tabs (Tryz.layDR_ren.g 2) (Tryz.layDR_ren.g 3) w
  most : ∃ m : Int, hcell w.heap ⟨0, 0, none⟩ = some (.int .i64 m)
theorem Utf.ext {w w' : World} (h : Utf w) (hx : Ext w w') : Utf w' := ⟨Utf8Tabs_below h.tabs hx, h.most.imp fun _ hm => hx.cell hm⟩
theorem gMax : Tryz.prog.globals.findIdx? (·.name == "internal/bytealg.MaxLen") = some 0 := by kernel_rfl
theorem is0 : Extern.findNext Tryz.f80 = none := by kernel_rfl
theorem is1 : Extern.find Tryz.f80 = some Extern.BytealgIndex.index := by kernel_rfl
theorem wrap_i32_u8 (x : UInt8) : IntKind.i32.wrap (x.toNat : Int) = (x.toNat : Int) := by
  have := x.toNat_lt
  simp only [IntKind.wrap_i32]; omega
theorem decodeRune_spec {p : Option Addr} {c : Nat} {xs : List UInt8} {w : World} (hs : Sl w.heap eByte p c xs) (h0 : xs ≠ []) (hU : Utf w) :
    Ctr Tryz.prog 79 [.slice p xs.length c] w (fun v w' => v = .tuple #[.int .i32 (Utf8.decode (mkStr xs) 0).1, .int .i64 (Utf8.decode (mkStr xs) 0).2] ∧ Ext w w') := by
  have hl : 0 < xs.length := List.length_pos_iff.2 h0
  have hle := hs.ok.le
  obtain ⟨a, rfl⟩ : ∃ a, p = some a := by
    cases p with
    | none => have := hs.ok.nul rfl; omega
    | some a => exact ⟨a, rfl⟩
  have hsp := hs.ok.spot a rfl (by omega)
  obtain ⟨b, off, sp⟩ := a
  simp only at hsp
  subst hsp
  have hsz : (mkStr xs).size = xs.length := mkStr_size xs
  have key := Any7.utf8_DecodeRune Tryz.layDR (mkStr xs) b off c w hU.tabs (fun j hj => by
    rw [hsz] at hj
    obtain ⟨x, hx⟩ := get_some hj
    have h1 := hs.cell j x hx 0 (.int .u8 (x.toNat : Int)) rfl
    have h2 : ((mkStr xs).get! j) = x := by
      rw [bget_get' (by rw [hsz]; exact hj), bget_list]
      have : (mkStr xs).data.toList = xs := by unfold mkStr; simp
      rw [this, List.getD_eq_getElem?_getD, hx]
      rfl
    rw [h2]
    have e : adr (some ⟨b, off, none⟩) (j * eByte.sz + 0) = ⟨b, off + j, none⟩ := by
      simp [adr, Addr.add, eByte]
    rw [e] at h1
    rw [cell_eq]
    exact h1)
  unfold Ctr
  refine ⟨⟨Tryz.f79, Tryz.func79, by decide, rfl⟩, ?_⟩
  rw [hsz] at key
  refine Calls.mono key fun e w' ⟨he, hw⟩ => ⟨_, he, ?_, hw⟩
  unfold Lib.decodeGo
  rw [if_neg (by omega)]
theorem drop_at {α : Type} {xs : List α} {k : Nat} {x : α} (h : xs[k]? = some x) : xs.drop k = x :: xs.drop (k + 1) := by
  rw [List.drop_eq_getElem_cons (get_lt h)]
  rw [List.getElem?_eq_getElem (get_lt h)] at h
  injection h with h
  rw [h]
/-- where the first end-of-line sign is, or -1 -/
def brI (bs : List UInt8) : Int := if brAt bs < bs.length then (brAt bs : Int) else -1
theorem brI_at {bs : List UInt8} {k : Nat} {x : UInt8} (hk : bs[k]? = some x) (hx : isBr x = true) (hn : ∀ b ∈ bs.take k, isBr b = false) : brI bs = (k : Int) := by
  have hlt := get_lt hk
  have e : bs = bs.take k ++ x :: bs.drop (k + 1) := by
    rw [← drop_at hk, List.take_append_drop]
  have hb : brAt bs = k := by
    rw [e, brAt_app _ _ _ hn hx, List.length_take]
    omega
  unfold brI
  rw [hb, if_pos hlt]
theorem brI_no {bs : List UInt8} (hn : ∀ b ∈ bs, isBr b = false) : brI bs = -1 := by
  have hb : ¬ brAt bs < bs.length := fun h => by
    obtain ⟨c, h1, h2⟩ := brAt_is bs h
    rw [hn c (List.mem_of_getElem? h1)] at h2
    cases h2
  unfold brI
  rw [if_neg hb]
theorem no_snoc {bs : List UInt8} {k : Nat} {x : UInt8} (hk : bs[k]? = some x) (hx : isBr x = false) (hn : ∀ b ∈ bs.take k, isBr b = false) : ∀ b ∈ bs.take (k + 1), isBr b = false := by
  intro b hb
  rw [take_snoc hk] at hb
  rcases List.mem_append.1 hb with hb | hb
  · exact hn b hb
  · rw [List.mem_singleton.1 hb]; exact hx
theorem isBr_hi {x : UInt8} (h : 128 ≤ x.toNat) : isBr x = false := by
  cases e : isBr x with
  | false => rfl
  | true => have := br_lo e; omega
theorem isBr_of (x : UInt8) : isBr x = ((decide (x.toNat = 13) && decide (0 < 2)) || (decide (x.toNat = 10) && decide (1 < 2))) := by
  have key : ∀ n : Fin 256, isBr (UInt8.ofNat n.val) = ((decide ((UInt8.ofNat n.val).toNat = 13) && decide (0 < 2)) || (decide ((UInt8.ofNat n.val).toNat = 10) && decide (1 < 2))) := by decide +kernel
  have h := key ⟨x.toNat, UInt8.toNat_lt x⟩
  simpa using h

set_option maxRecDepth 100000 in
theorem bytesIndex_spec {p : Option Addr} {c : Nat} {bs : List UInt8} {w : World} (hC : Sl w.heap eByte p c bs) (hU : Utf w) :
    Ctr Tryz.prog 41 [.slice p bs.length c, .string brs] w (fun v w' => v = .int .i64 (brI bs) ∧ Ext w w') := by
  have hse : ¬ brs = ⟨#[]⟩ := by decide
  have hss := br_size
  have n1 := hC.bound
  have hok := hC.ok
  refine Ctr_of Tryz.func41 Tryz.ntmps41 rfl rfl rfl ?_
  rcases (show bs.length = 0 ∨ bs.length = 1 ∨ (2 ≤ bs.length ∧ bs.length ≤ 8) ∨ 8 < bs.length by omega) with h0 | h1 | h2 | h8
  · obtain rfl := List.eq_nil_of_length_eq_zero h0
    have hsu : ∀ w, Ctr Tryz.prog 76 [.int .i64 (([] : List UInt8).length : Int)] w (fun v w' => v = .bool false ∧ Ext w w') := fun w => should_spec.mono fun v w' ⟨a1, a2⟩ => ⟨a1, a2⟩
    repeat' (first | (apply G_on; exact rfl; first | ((first | apply G1_assign | apply G1_move); exact rfl; exact rfl) | (apply G1_call (f := 76); exact rfl; exact rfl; exact rfl; exact hsu _; rintro _ w1 ⟨rfl, hx1⟩; refine ⟨(by first | exact .inl rfl | exact .inr (by assumption)), ?_⟩) | (apply G1_seql; exact rfl; exact rfl; exact rfl) | (apply G1_len; exact T.s22; exact rfl; exact rfl) | (apply G1_eql; exact rfl; exact rfl; exact rfl) | (apply G1_slen; exact T.str9; exact rfl; exact rfl)) | apply G_nil | apply Post_next | apply W_seq | apply W_region | (apply W_cond_false; exact rfl) | apply W_skip | apply W_block)
    refine W_loop (ι := Unit) (fun _ => [(0, .slice p ([] : List UInt8).length c), (12, .int .i64 0)]) (fun _ w' => Ext w w') (fun _ => 0) () ⟨rfl, rfl, trivial⟩ (by repeat first | assumption | exact Ext.rfl' | apply Ext.drew | apply Ext.alloc | refine Ext.trans ?_ (by assumption)) ?_
    rintro _ w3 hx3
    repeat' (first | (apply G_on; exact rfl; first | ((first | apply G1_assign | apply G1_move); exact rfl; exact rfl) | (apply G1_len; exact T.s22; exact rfl; exact rfl) | (apply G1_lss; exact rfl; exact rfl; exact rfl)) | apply G_nil | apply Post_next | apply W_seq | apply W_region | (apply W_cond_false; exact rfl) | apply W_exit | apply W_ret | apply Post_then_exit | apply Post_block_exit)
    refine Post_ret Tryz.results41 ⟨_, _, rfl, rfl, rfl⟩ ?_
    exact ⟨rfl, (by repeat first | assumption | exact Ext.rfl' | apply Ext.drew | apply Ext.alloc | refine Ext.trans ?_ (by assumption))⟩
  · obtain ⟨x, rfl⟩ : ∃ x, bs = [x] := by
      cases bs with
      | nil => cases h1
      | cons x l => cases l with
        | nil => exact ⟨x, rfl⟩
        | cons y l => simp at h1
    have hq : [x][0]? = some x := rfl
    have hxl := x.toNat_lt
    have hsg := br_idx x
    by_cases hb : x.toNat < 128
    · repeat' (first | (apply G_on; exact rfl; first | ((first | apply G1_assign | apply G1_move); exact rfl; exact rfl) | (apply G1_convE (j := (x.toNat : Int)); exact rfl; exact T.i5; exact T.i21; exact wrap_i32_u8 x; exact rfl) | (apply G1_indexByte; exact Tryz.func74; exact rfl; exact rfl; exact ib0; exact ib1; exact rfl; exact rfl; exact rfl; exact rfl) | (apply G1_seql; exact rfl; exact rfl; exact rfl) | (apply G1_len; exact T.s22; exact rfl; exact rfl) | (apply G1_eql; exact rfl; exact rfl; exact rfl) | (apply G1_indexAddr; exact T.s22; exact rfl; exact rfl; (first | assumption | exact Sl.ok (by assumption) | exact (Own.sl (by assumption)).ok); omega; omega; exact rfl) | (apply G1_loadEl1; exact T.p5; exact rfl; assumption; assumption; exact rfl; exact rfl; exact rfl) | (apply G1_geq; exact rfl; exact rfl; exact rfl)) | apply G_nil | apply Post_next | apply W_seq | apply W_region | (apply W_cond_true; exact rfl) | (apply W_cond_false; exact rfl) | (apply W_cond_dec; exact rfl; all_goals (intro h; try (exfalso; omega))) | apply W_skip | apply W_ret | apply Post_then_ret)
      · refine Post_ret Tryz.results41 ⟨_, _, rfl, rfl, rfl⟩ ?_
        rw [toUInt8_nat] at h
        exact ⟨by rw [brI_at (k := 0) hq (by rw [← hsg]; exact decide_eq_true h) (by simp)]; rfl, (by repeat first | assumption | exact Ext.rfl' | apply Ext.drew | apply Ext.alloc | refine Ext.trans ?_ (by assumption))⟩
      · refine Post_ret Tryz.results41 ⟨_, _, rfl, rfl, rfl⟩ ?_
        rw [toUInt8_nat] at h
        have hno : isBr x = false := by rw [← hsg]; exact decide_eq_false h
        exact ⟨by rw [brI_no (by intro b hb; rw [List.mem_singleton.1 hb]; exact hno)]; rfl, (by repeat first | assumption | exact Ext.rfl' | apply Ext.drew | apply Ext.alloc | refine Ext.trans ?_ (by assumption))⟩
    · have hno := isBr_hi (x := x) (by omega)
      repeat' (first | (apply G_on; exact rfl; first | ((first | apply G1_assign | apply G1_move); exact rfl; exact rfl) | (apply G1_convE (j := (x.toNat : Int)); exact rfl; exact T.i5; exact T.i21; exact wrap_i32_u8 x; exact rfl) | (apply G1_seql; exact rfl; exact rfl; exact rfl) | (apply G1_len; exact T.s22; exact rfl; exact rfl) | (apply G1_eql; exact rfl; exact rfl; exact rfl) | (apply G1_indexAddr; exact T.s22; exact rfl; exact rfl; (first | assumption | exact Sl.ok (by assumption) | exact (Own.sl (by assumption)).ok); omega; omega; exact rfl) | (apply G1_loadEl1; exact T.p5; exact rfl; assumption; assumption; exact rfl; exact rfl; exact rfl) | (apply G1_geq; exact rfl; exact rfl; exact rfl)) | apply G_nil | apply Post_next | apply W_seq | apply W_region | (apply W_cond_true; exact rfl) | (apply W_cond_false; exact rfl) | (apply W_cond_dec; exact rfl; all_goals (intro h; try (exfalso; omega))) | apply W_skip)
      apply G_on; exact rfl
      apply G1_rangeS; exact T.str9; exact rfl; exact rfl; exact rfl
      intro wi hii hxi hzi
      obtain ⟨kb, hkb⟩ : ∃ k, w.heap.size = k := ⟨_, rfl⟩
      rw [hkb] at hii ⊢
      have hkw : w.heap.size ≤ kb := by have := (show Ext w w from (by repeat first | assumption | exact Ext.rfl' | apply Ext.drew | apply Ext.alloc | refine Ext.trans ?_ (by assumption))).size; omega
      replace hxi : Ext w wi := (show Ext w w from (by repeat first | assumption | exact Ext.rfl' | apply Ext.drew | apply Ext.alloc | refine Ext.trans ?_ (by assumption))).trans hxi
      repeat' (first | apply G_nil | apply Post_next | apply W_block)
      refine W_loop (ι := Nat) (fun _ => [(28, .pointer (some ⟨kb, 0, none⟩))]) (fun k w' => Ext w w' ∧ Itr w' kb brs k ∧ k ≤ 2) (fun k => 2 - k) 0 ⟨rfl, trivial⟩ ⟨hxi, hii, Nat.zero_le _⟩ ?_
      clear hii hxi hzi
      rintro kk wj ⟨hxj, hij, hkk⟩
      by_cases hlk : kk < 2
      · have hdk := br_dec (k := kk) (by omega)
        have hbk := br_get hlk
        repeat' (first | apply W_seq | apply W_region)
        apply G_on; exact rfl
        apply G1_nextS (s := brs) (m := kk); exact rfl; exact hij; omega; exact hdk; exact rfl; exact rfl; exact rfl
        intro wk hik hgk hzk
        have hxk : Ext w wk := hxj.own hgk (fun k hk => by injection hk with hk; omega)
        repeat' (first | (apply G_on; exact rfl; first | ((first | apply G1_assign | apply G1_move); exact rfl; exact rfl) | (apply G1_eql; exact rfl; exact rfl; exact rfl) | (apply G1_extract; exact rfl; exact rfl; exact rfl)) | apply G_nil | apply Post_next | apply W_seq | apply W_region | (apply W_cond_true; exact rfl) | (apply W_cond_dec; exact rfl; all_goals (intro h; try (exfalso; omega))) | apply W_skip | apply W_block | apply Post_block_normal)
        all_goals exact Post_round (kk + 1) ⟨rfl, trivial⟩ ⟨hxk, hik, by omega⟩ (by omega)
      · repeat' (first | apply W_seq | apply W_region)
        apply G_on; exact rfl
        apply G1_nextE (s := brs) (m := kk); exact rfl; exact hij; omega; exact rfl; exact rfl; exact rfl
        repeat' (first | (apply G_on; exact rfl; first | (apply G1_assign; exact rfl; exact rfl) | (apply G1_extract; exact rfl; exact rfl; exact rfl)) | apply G_nil | apply Post_next | apply W_seq | apply W_region | (apply W_cond_false; exact rfl) | apply W_exit | apply W_ret | apply Post_then_ret | apply Post_then_exit | apply Post_block_exit)
        refine Post_ret Tryz.results41 ⟨_, _, rfl, rfl, rfl⟩ ?_
        exact ⟨by rw [brI_no (by intro b hb; rw [List.mem_singleton.1 hb]; exact hno)]; rfl, (by repeat first | assumption | exact Ext.rfl' | apply Ext.drew | apply Ext.alloc | refine Ext.trans ?_ (by assumption))⟩
  · have hsu : ∀ w, Ctr Tryz.prog 76 [.int .i64 (bs.length : Int)] w (fun v w' => v = .bool false ∧ Ext w w') := fun w => should_spec.mono fun v w' ⟨a1, a2⟩ => ⟨by rw [a1, decide_eq_false (by omega)], a2⟩
    repeat' (first | (apply G_on; exact rfl; first | ((first | apply G1_assign | apply G1_move); exact rfl; exact rfl) | (apply G1_call (f := 76); exact rfl; exact rfl; exact rfl; exact hsu _; rintro _ w1 ⟨rfl, hx1⟩; refine ⟨(by first | exact .inl rfl | exact .inr (by assumption)), ?_⟩) | (apply G1_seql; exact rfl; exact rfl; exact rfl) | (apply G1_len; exact T.s22; exact rfl; exact rfl) | (apply G1_eql; exact rfl; exact rfl; exact rfl) | (apply G1_slen; exact T.str9; exact rfl; exact rfl)) | apply G_nil | apply Post_next | apply W_seq | apply W_region | (apply W_cond_false; exact rfl) | (apply W_cond_dec; exact rfl; all_goals (intro h; try (exfalso; omega))) | apply W_skip | apply W_block)
    refine W_loop (ι := Nat) (fun k => [(0, .slice p bs.length c), (1, .string brs), (12, .int .i64 (k : Int))]) (fun k w' => Ext w w' ∧ k ≤ bs.length ∧ ∀ b ∈ bs.take k, isBr b = false) (fun k => bs.length - k) 0 ⟨rfl, rfl, rfl, trivial⟩ ⟨(by repeat first | assumption | exact Ext.rfl' | apply Ext.drew | apply Ext.alloc | refine Ext.trans ?_ (by assumption)), Nat.zero_le _, by simp⟩ ?_
    clear hx1 w1
    rintro k w1 ⟨hx1, hk, hn⟩
    have hC1 := hC.ext hx1
    have hU1 := hU.ext hx1
    by_cases hlt : k < bs.length
    · obtain ⟨x, hq⟩ := get_some hlt
      have hxl := x.toNat_lt
      have hsg := br_idx x
      by_cases hb : x.toNat < 128
      · repeat' (first | (apply G_on; exact rfl; first | ((first | apply G1_assign | apply G1_move); exact rfl; exact rfl) | (apply G1_convE (j := (x.toNat : Int)); exact rfl; exact T.i5; exact T.i21; exact wrap_i32_u8 x; exact rfl) | (apply G1_indexByte; exact Tryz.func74; exact rfl; exact rfl; exact ib0; exact ib1; exact rfl; exact rfl; exact rfl; exact rfl) | (apply G1_len; exact T.s22; exact rfl; exact rfl) | (apply G1_indexAddrN; exact T.s22; exact rfl; exact rfl; (first | assumption | exact Sl.ok (by assumption) | exact (Own.sl (by assumption)).ok); omega; exact rfl) | (apply G1_loadEl1; exact T.p5; exact rfl; assumption; assumption; exact rfl; exact rfl; exact rfl) | ((first | apply G1_geq | apply G1_lss); exact rfl; exact rfl; exact rfl) | (apply G1_add; exact rfl; exact rfl; omega; omega; exact rfl)) | apply G_nil | apply Post_next | apply W_seq | apply W_region | (apply W_cond_dec; exact rfl; all_goals (intro h; try (exfalso; omega))) | apply W_skip | apply W_exit | apply W_ret | apply W_block | apply Post_then_ret | apply Post_block_ret | apply Post_then_exit | apply Post_block_exit)
        · refine Post_ret Tryz.results41 ⟨_, _, rfl, rfl, rfl⟩ ?_
          rw [toUInt8_nat] at h
          exact ⟨by rw [brI_at hq (by rw [← hsg]; exact decide_eq_true h) hn]; rfl, (by repeat first | assumption | exact Ext.rfl' | apply Ext.drew | apply Ext.alloc | refine Ext.trans ?_ (by assumption))⟩
        · rw [toUInt8_nat] at h
          have hno : isBr x = false := by rw [← hsg]; exact decide_eq_false h
          exact Post_round (k + 1) ⟨rfl, rfl, rfl, trivial⟩ ⟨(by repeat first | assumption | exact Ext.rfl' | apply Ext.drew | apply Ext.alloc | refine Ext.trans ?_ (by assumption)), by omega, no_snoc hq hno hn⟩ (by omega)
      · obtain ⟨s, hs⟩ : ∃ s, mkStr (bs.drop k) = s := ⟨_, rfl⟩
        have hssz : s.size = bs.length - k := by rw [← hs, mkStr_size, List.length_drop]
        have hsl : s.data.toList = bs.drop k := by rw [← hs]; unfold mkStr; simp
        have hsg2 : ∀ j, bget s j = (bs.drop k).getD j 0 := fun j => by rw [bget_list, hsl]
        have hb0 : 128 ≤ (bget s 0).toNat := by
          rw [hsg2, List.getD_eq_getElem?_getD, List.getElem?_drop, Nat.add_zero, hq]
          show 128 ≤ x.toNat
          omega
        obtain ⟨d1, d2, d3, d4, d5⟩ := decode_skip s 0 (by omega) hb0
        have hew := enc_width s 0 (by omega) hb0
        have hd := hC1.drop (l := k) (by have := hok.le; omega)
        have hdr := fun w2 (hx : Ext w1 w2) => decodeRune_spec (hd.ext hx) (by intro e; have := congrArg List.length e; simp at this; omega) (hU1.ext hx)
        rw [hs] at hdr
        simp only [List.length_drop] at hdr
        obtain ⟨v, hv⟩ : ∃ v, Utf8.decode s 0 = v := ⟨_, rfl⟩
        rw [hv] at d1 d2 d3 d4 d5 hew hdr
        obtain ⟨rf1, rf2, rf3⟩ := rune_facts v.1 d1
        have hno2 : ∀ b ∈ bs.take (k + v.2), isBr b = false := by
          intro b hb
          obtain ⟨j, hj⟩ := List.getElem?_of_mem hb
          have hjl := get_lt hj
          rw [List.length_take] at hjl
          rw [List.getElem?_take] at hj
          rw [if_pos (by omega)] at hj
          by_cases hjk : j < k
          · exact hn b (List.mem_of_getElem? (show (bs.take k)[j]? = some b by rw [List.getElem?_take, if_pos hjk]; exact hj))
          · have := d5 (j - k) (by omega) (by omega)
            rw [hsg2, List.getD_eq_getElem?_getD, List.getElem?_drop, show k + (j - k) = j by omega, hj] at this
            exact isBr_hi this
        have hns : ¬ brs = Utf8.encode (v.1 : Int) := fun e => by
          rw [← e] at rf3
          revert rf3
          decide
        obtain ⟨mx, hmx⟩ := hU1.most
        obtain ⟨rI, hrI⟩ : ∃ r : Int, r = (v.1 : Int) := ⟨_, rfl⟩
        obtain ⟨wI, hwI⟩ : ∃ r : Int, r = (v.2 : Int) := ⟨_, rfl⟩
        rw [← hrI] at hns hew rf1 rf2
        simp only [← hrI, ← hwI] at hdr
        have hew2 : ¬ rI = 65533 → (Utf8.encode rI).size = v.2 := fun e => hew (by omega)
        clear hew
        repeat' (first | (apply G_on; exact rfl; first | ((first | apply G1_assign | apply G1_move); exact rfl; exact rfl) | (apply G1_convE (j := (x.toNat : Int)); exact rfl; exact T.i5; exact T.i21; exact wrap_i32_u8 x; exact rfl) | (apply G1_sliceLoJ (q := k); exact T.s22; exact rfl; exact rfl; exact rfl; exact hok; omega; exact rfl) | (apply G1_call (f := 79); exact rfl; exact rfl; exact rfl; exact hdr _ (by repeat first | assumption | exact Ext.rfl' | apply Ext.drew | apply Ext.alloc | refine Ext.trans ?_ (by assumption)); rintro _ w2 ⟨rfl, hx2⟩; refine ⟨(by first | exact .inl rfl | exact .inr (by assumption)), ?_⟩) | (apply G1_runeStr; exact T.i21; exact T.str9; exact rfl; exact rfl) | (apply G1_load (p := some ⟨0, 0, none⟩) (m := 0); exact T.p3; exact rfl; exact Ext.cell (by repeat first | assumption | exact Ext.rfl' | apply Ext.drew | apply Ext.alloc | refine Ext.trans ?_ (by assumption)) hmx; exact rfl) | (apply G1_indexS (a := brs) (b := Utf8.encode rI) (m := mx); exact Tryz.func80; exact rfl; exact rfl; exact is0; exact is1; exact rfl; exact rfl; exact gMax; exact Ext.cell (by repeat first | assumption | exact Ext.rfl' | apply Ext.drew | apply Ext.alloc | refine Ext.trans ?_ (by assumption)) hmx; exact rf1; (have := hew2 (by assumption); omega); (have := hew2 (by assumption); omega); omega; exact rfl; exact rfl) | (apply G1_seql; exact rfl; exact rfl; exact rfl) | (apply G1_len; exact T.s22; exact rfl; exact rfl) | (apply G1_eql; exact rfl; exact rfl; exact rfl) | (apply G1_indexAddrN; exact T.s22; exact rfl; exact rfl; (first | assumption | exact Sl.ok (by assumption) | exact (Own.sl (by assumption)).ok); omega; exact rfl) | (apply G1_loadEl1; exact T.p5; exact rfl; assumption; assumption; exact rfl; exact rfl; exact rfl) | ((first | apply G1_geq | apply G1_extract | apply G1_lss | apply G1_neq); exact rfl; exact rfl; exact rfl) | (apply G1_slen; exact T.str9; exact rfl; exact rfl) | (apply G1_add; exact rfl; exact rfl; omega; omega; exact rfl)) | apply G_nil | apply Post_next | apply W_seq | apply W_region | (apply W_cond_false; exact rfl) | (apply W_cond_dec; exact rfl; all_goals (intro h; try (exfalso; omega))) | apply W_skip | apply W_exit | apply W_ret | apply W_block | apply Post_then_ret | apply Post_block_ret | apply Post_then_exit | apply Post_block_exit)
        · exact absurd (by assumption) hns
        · exact Post_round (k + v.2) ⟨rfl, rfl, by show some (Value.int .i64 _) = some (Value.int .i64 _); congr 2; omega, trivial⟩ ⟨(by repeat first | assumption | exact Ext.rfl' | apply Ext.drew | apply Ext.alloc | refine Ext.trans ?_ (by assumption)), by omega, hno2⟩ (by omega)
        · exact Post_round (k + v.2) ⟨rfl, rfl, by show some (Value.int .i64 _) = some (Value.int .i64 _); congr 2; omega, trivial⟩ ⟨(by repeat first | assumption | exact Ext.rfl' | apply Ext.drew | apply Ext.alloc | refine Ext.trans ?_ (by assumption)), by omega, hno2⟩ (by omega)
        · apply G_on; exact rfl
          apply G1_rangeS; exact T.str9; exact rfl; exact rfl; exact rfl
          intro wi hii hxi hzi
          obtain ⟨kb, hkb⟩ : ∃ k, w2.heap.size = k := ⟨_, rfl⟩
          rw [hkb] at hii ⊢
          have hkw : w.heap.size ≤ kb := by have := (show Ext w w2 from (by repeat first | assumption | exact Ext.rfl' | apply Ext.drew | apply Ext.alloc | refine Ext.trans ?_ (by assumption))).size; omega
          replace hxi : Ext w wi := (show Ext w w2 from (by repeat first | assumption | exact Ext.rfl' | apply Ext.drew | apply Ext.alloc | refine Ext.trans ?_ (by assumption))).trans hxi
          repeat' (first | apply G_nil | apply Post_next | apply W_block)
          refine W_loop (ι := Nat) (fun _ => [(0, .slice p bs.length c), (1, .string brs), (11, .int .i64 wI), (12, .int .i64 (k : Int)), (13, .int .i32 rI), (121, .pointer (some ⟨kb, 0, none⟩))]) (fun k w' => Ext w w' ∧ Itr w' kb brs k ∧ k ≤ 2) (fun k => 2 - k) 0 ⟨rfl, rfl, rfl, rfl, rfl, rfl, trivial⟩ ⟨hxi, hii, Nat.zero_le _⟩ ?_
          clear hii hxi hzi
          rintro kk wj ⟨hxj, hij, hkk⟩
          by_cases hlk : kk < 2
          · have hdk := br_dec (k := kk) (by omega)
            have hbk := br_get hlk
            repeat' (first | apply W_seq | apply W_region)
            apply G_on; exact rfl
            apply G1_nextS (s := brs) (m := kk); exact rfl; exact hij; omega; exact hdk; exact rfl; exact rfl; exact rfl
            intro wk hik hgk hzk
            have hxk : Ext w wk := hxj.own hgk (fun k hk => by injection hk with hk; omega)
            repeat' (first | (apply G_on; exact rfl; first | ((first | apply G1_assign | apply G1_move); exact rfl; exact rfl) | (apply G1_eql; exact rfl; exact rfl; exact rfl) | (apply G1_extract; exact rfl; exact rfl; exact rfl)) | apply G_nil | apply Post_next | apply W_seq | apply W_region | (apply W_cond_true; exact rfl) | (apply W_cond_dec; exact rfl; all_goals (intro h; try (exfalso; omega))) | apply W_skip | apply W_block | apply Post_block_normal)
            all_goals exact Post_round (kk + 1) ⟨rfl, rfl, rfl, rfl, rfl, rfl, trivial⟩ ⟨hxk, hik, by omega⟩ (by omega)
          · repeat' (first | apply W_seq | apply W_region)
            apply G_on; exact rfl
            apply G1_nextE (s := brs) (m := kk); exact rfl; exact hij; omega; exact rfl; exact rfl; exact rfl
            repeat' (first | (apply G_on; exact rfl; first | ((first | apply G1_assign | apply G1_move); exact rfl; exact rfl) | (apply G1_extract; exact rfl; exact rfl; exact rfl) | (apply G1_add; exact rfl; exact rfl; omega; omega; exact rfl)) | apply G_nil | apply Post_next | apply W_seq | apply W_region | (apply W_cond_false; exact rfl) | apply W_exit | apply Post_then_exit | apply Post_block_exit | apply Post_block_normal)
            exact Post_round (k + v.2) ⟨rfl, rfl, by show some (Value.int .i64 _) = some (Value.int .i64 _); congr 2; omega, trivial⟩ ⟨(by repeat first | assumption | exact Ext.rfl' | apply Ext.drew | apply Ext.alloc | refine Ext.trans ?_ (by assumption)), by omega, hno2⟩ (by omega)
        · apply G_on; exact rfl
          apply G1_rangeS; exact T.str9; exact rfl; exact rfl; exact rfl
          intro wi hii hxi hzi
          obtain ⟨kb, hkb⟩ : ∃ k, w2.heap.size = k := ⟨_, rfl⟩
          rw [hkb] at hii ⊢
          have hkw : w.heap.size ≤ kb := by have := (show Ext w w2 from (by repeat first | assumption | exact Ext.rfl' | apply Ext.drew | apply Ext.alloc | refine Ext.trans ?_ (by assumption))).size; omega
          replace hxi : Ext w wi := (show Ext w w2 from (by repeat first | assumption | exact Ext.rfl' | apply Ext.drew | apply Ext.alloc | refine Ext.trans ?_ (by assumption))).trans hxi
          repeat' (first | apply G_nil | apply Post_next | apply W_block)
          refine W_loop (ι := Nat) (fun _ => [(0, .slice p bs.length c), (1, .string brs), (11, .int .i64 wI), (12, .int .i64 (k : Int)), (13, .int .i32 rI), (121, .pointer (some ⟨kb, 0, none⟩))]) (fun k w' => Ext w w' ∧ Itr w' kb brs k ∧ k ≤ 2) (fun k => 2 - k) 0 ⟨rfl, rfl, rfl, rfl, rfl, rfl, trivial⟩ ⟨hxi, hii, Nat.zero_le _⟩ ?_
          clear hii hxi hzi
          rintro kk wj ⟨hxj, hij, hkk⟩
          by_cases hlk : kk < 2
          · have hdk := br_dec (k := kk) (by omega)
            have hbk := br_get hlk
            repeat' (first | apply W_seq | apply W_region)
            apply G_on; exact rfl
            apply G1_nextS (s := brs) (m := kk); exact rfl; exact hij; omega; exact hdk; exact rfl; exact rfl; exact rfl
            intro wk hik hgk hzk
            have hxk : Ext w wk := hxj.own hgk (fun k hk => by injection hk with hk; omega)
            repeat' (first | (apply G_on; exact rfl; first | ((first | apply G1_assign | apply G1_move); exact rfl; exact rfl) | (apply G1_eql; exact rfl; exact rfl; exact rfl) | (apply G1_extract; exact rfl; exact rfl; exact rfl)) | apply G_nil | apply Post_next | apply W_seq | apply W_region | (apply W_cond_true; exact rfl) | (apply W_cond_dec; exact rfl; all_goals (intro h; try (exfalso; omega))) | apply W_skip | apply W_block | apply Post_block_normal)
            all_goals exact Post_round (kk + 1) ⟨rfl, rfl, rfl, rfl, rfl, rfl, trivial⟩ ⟨hxk, hik, by omega⟩ (by omega)
          · repeat' (first | apply W_seq | apply W_region)
            apply G_on; exact rfl
            apply G1_nextE (s := brs) (m := kk); exact rfl; exact hij; omega; exact rfl; exact rfl; exact rfl
            repeat' (first | (apply G_on; exact rfl; first | ((first | apply G1_assign | apply G1_move); exact rfl; exact rfl) | (apply G1_extract; exact rfl; exact rfl; exact rfl) | (apply G1_add; exact rfl; exact rfl; omega; omega; exact rfl)) | apply G_nil | apply Post_next | apply W_seq | apply W_region | (apply W_cond_false; exact rfl) | apply W_exit | apply Post_then_exit | apply Post_block_exit | apply Post_block_normal)
            exact Post_round (k + v.2) ⟨rfl, rfl, by show some (Value.int .i64 _) = some (Value.int .i64 _); congr 2; omega, trivial⟩ ⟨(by repeat first | assumption | exact Ext.rfl' | apply Ext.drew | apply Ext.alloc | refine Ext.trans ?_ (by assumption)), by omega, hno2⟩ (by omega)
    · have hk' : k = bs.length := by omega
      subst hk'
      rw [List.take_of_length_le (Nat.le_refl _)] at hn
      repeat' (first | (apply G_on; exact rfl; first | ((first | apply G1_assign | apply G1_move); exact rfl; exact rfl) | (apply G1_len; exact T.s22; exact rfl; exact rfl) | (apply G1_lss; exact rfl; exact rfl; exact rfl)) | apply G_nil | apply Post_next | apply W_seq | apply W_region | (apply W_cond_dec; exact rfl; all_goals (intro h; try (exfalso; omega))) | apply W_exit | apply W_ret | apply Post_then_exit | apply Post_block_exit)
      refine Post_ret Tryz.results41 ⟨_, _, rfl, rfl, rfl⟩ ?_
      exact ⟨by rw [brI_no hn]; rfl, (by repeat first | assumption | exact Ext.rfl' | apply Ext.drew | apply Ext.alloc | refine Ext.trans ?_ (by assumption))⟩
  · have hsu : ∀ w, Ctr Tryz.prog 76 [.int .i64 (bs.length : Int)] w (fun v w' => v = .bool true ∧ Ext w w') := fun w => should_spec.mono fun v w' ⟨a1, a2⟩ => ⟨by rw [a1, decide_eq_true (by omega)], a2⟩
    repeat' (first | (apply G_on; exact rfl; first | ((first | apply G1_assign | apply G1_move); exact rfl; exact rfl) | (apply G1_call (f := 76); exact rfl; exact rfl; exact rfl; exact hsu _; rintro _ w1 ⟨rfl, hx1⟩; refine ⟨(by first | exact .inl rfl | exact .inr (by assumption)), ?_⟩) | (apply G1_call (f := 77); exact rfl; exact rfl; exact rfl; exact mkset_spec; rintro _ w2 ⟨rfl, hx2⟩; refine ⟨(by first | exact .inl rfl | exact .inr (by assumption)), ?_⟩) | (apply G1_seql; exact rfl; exact rfl; exact rfl) | (apply G1_len; exact T.s22; exact rfl; exact rfl) | (apply G1_eql; exact rfl; exact rfl; exact rfl) | (apply G1_extract; exact rfl; exact rfl; exact rfl) | (apply G1_slen; exact T.str9; exact rfl; exact rfl)) | apply G_nil | apply Post_next | apply W_seq | apply W_region | (apply W_cond_true; exact rfl) | (apply W_cond_false; exact rfl) | (apply W_cond_dec; exact rfl; all_goals (intro h; try (exfalso; omega))) | apply W_skip)
    apply G_on; exact rfl; apply G1_alloc; exact zrSet; exact rfl; exact rfl; intro a3 w3 ha3 hA3 hx3 hs3
    replace hA3 : Blk w3.heap a3 140 (setC 0) := hA3
    skip
    apply G_on; exact rfl
    apply G1_storeB (m := 0) (vs := setC 2); exact T.z140; exact rfl; exact rfl; exact hA3; exact rfl; (simp [setC]); (simp [setC]); (intro v hv; simp only [setC, List.mem_map] at hv; obtain ⟨i, _, rfl⟩ := hv; rfl); exact rfl; exact .inl rfl; exact rfl
    intro w4 hA4 hg4 hs4
    replace hA4 : Blk w4.heap a3 140 (setC 2) := (by kernel_rfl : ((setC 0).take 0 ++ setC 2 ++ (setC 0).drop (0 + (setC 2).length)) = setC 2) ▸ hA4
    have hx4 : Ext w w4 := ((hx1.trans hx2).trans hx3).own hg4 (fun k hk => by injection hk; have := (hx1.trans hx2).size; omega)
    repeat' (first | (apply G_on; exact rfl; first | ((first | apply G1_assign | apply G1_move); exact rfl; exact rfl) | (apply G1_len; exact T.s22; exact rfl; exact rfl)) | apply G_nil | apply Post_next | apply W_seq | apply W_region | (apply W_cond_true; exact rfl) | apply W_block)
    refine W_loop (ι := Nat) (fun k => [(7, .pointer (some (adr (bx a3) 0))), (60, .slice p bs.length c), (61, .int .i64 (bs.length : Int)), (62, .int .i64 (k : Int))]) (fun k w' => Ext w4 w' ∧ k ≤ bs.length ∧ ∀ b ∈ bs.take k, isBr b = false) (fun k => bs.length - k) 0 ⟨rfl, rfl, rfl, rfl, trivial⟩ ⟨(by repeat first | assumption | exact Ext.rfl' | apply Ext.drew | apply Ext.alloc | refine Ext.trans ?_ (by assumption)), Nat.zero_le _, by simp⟩ ?_
    rintro k w5 ⟨hx5, hk, hn⟩
    have hx05 := hx4.trans hx5
    have hC5 := hC.ext hx05
    have hA5 := hA4.ext hx5
    by_cases hlt : k < bs.length
    · obtain ⟨x, hq⟩ := get_some hlt
      have hib := isBr_of x
      repeat' (first | (apply G_on; exact rfl; first | ((first | apply G1_assign | apply G1_move); exact rfl; exact rfl) | (apply G1_call (f := 78); exact rfl; exact rfl; exact rfl; exact contains_spec (k := 2) (c := x) hA5; rintro _ w6 ⟨rfl, hx6⟩; refine ⟨(by first | exact .inl rfl | exact .inr (by assumption)), ?_⟩) | (apply G1_indexAddrN; exact T.s22; exact rfl; exact rfl; (first | assumption | exact Sl.ok (by assumption) | exact (Own.sl (by assumption)).ok); omega; exact rfl) | (apply G1_loadEl1; exact T.p5; exact rfl; assumption; assumption; exact rfl; exact rfl; exact rfl) | (apply G1_lss; exact rfl; exact rfl; exact rfl) | (apply G1_add; exact rfl; exact rfl; omega; omega; exact rfl)) | apply G_nil | apply Post_next | apply W_seq | apply W_region | (apply W_cond_dec; exact rfl; all_goals (intro h; try (exfalso; omega))) | (apply W_cond; exact rfl; all_goals intro h) | apply W_skip | apply W_ret | apply W_block | apply Post_then_ret | apply Post_block_ret | apply Post_block_normal)
      · refine Post_ret Tryz.results41 ⟨_, _, rfl, rfl, rfl⟩ ?_
        exact ⟨by rw [brI_at hq (by rw [hib]; exact h) hn]; rfl, (by repeat first | assumption | exact Ext.rfl' | apply Ext.drew | apply Ext.alloc | refine Ext.trans ?_ (by assumption))⟩
      · exact Post_round (k + 1) ⟨rfl, rfl, rfl, rfl, trivial⟩ ⟨(by repeat first | assumption | exact Ext.rfl' | apply Ext.drew | apply Ext.alloc | refine Ext.trans ?_ (by assumption)), by omega, no_snoc hq (by rw [hib]; exact h) hn⟩ (by omega)
    · have hk' : k = bs.length := by omega
      subst hk'
      rw [List.take_of_length_le (Nat.le_refl _)] at hn
      repeat' (first | (apply G_on; exact rfl; first | (apply G1_assign; exact rfl; exact rfl) | (apply G1_lss; exact rfl; exact rfl; exact rfl)) | apply G_nil | apply Post_next | apply W_seq | apply W_region | (apply W_cond_dec; exact rfl; all_goals (intro h; try (exfalso; omega))) | apply W_exit | apply W_ret | apply Post_then_ret | apply Post_then_exit | apply Post_block_exit)
      refine Post_ret Tryz.results41 ⟨_, _, rfl, rfl, rfl⟩ ?_
      exact ⟨by rw [brI_no hn]; rfl, (by repeat first | assumption | exact Ext.rfl' | apply Ext.drew | apply Ext.alloc | refine Ext.trans ?_ (by assumption))⟩
end Go.Proofs.YtipbakiecocioaaGreatDoor

/- Rules for bytes: a string copied into a row of bytes; bits of bytes. -/

namespace Go.V
open Go.RowKit
/-- xs with bs in the place of as many from o on -/
def over (xs : List UInt8) (o : Nat) (bs : List UInt8) : List UInt8 := xs.take o ++ bs ++ xs.drop (o + bs.length)
section
variable {P : Program} {n : Nat} {ops : Array Oper} {dr : Nat × List Nat} {l : List Oper} {E : Env} {w : World} {K : Env → World → Prop}
variable {d : Option Nat} {ty : TypeId} {pos : String} {af : Array Edge} {g : Option (Nat × Bool)} {x y : Operand} {k k' : IntKind} {t t' u : TypeId} {a b by_ : Nat} {i j : Int} {p : Option Addr} {c : Nat}
end
end Go.V

/- Rules for numbers that are divided, bytes made strings, rows made. -/

namespace Go.V
section
variable {P : Program} {n : Nat} {ops : Array Oper} {dr : Nat × List Nat} {l : List Oper} {E : Env} {w : World} {K : Env → World → Prop}
variable {d : Option Nat} {ty : TypeId} {pos : String} {af : Array Edge} {g : Option (Nat × Bool)} {x y : Operand} {k k' : IntKind} {t t' u : TypeId} {a b by_ : Nat} {i j : Int} {p : Option Addr} {c : Nat}
theorem G1_toStringL {bs : List UInt8} {dq : Nat} {m : Nat} (hu : SliceT P t u 1 by_) (hi : IntT P u .u8) (hk : StrT P t') (hx : E.look x = some (.slice p m c)) (hm : m = bs.length) (hs : Sl w.heap eByte p c bs) (hd : dstOk n d = true)
    (h : G P n ops (dq, []) l (E.put d (.string (mkStr bs))) w K) : G1 P n ops (dq, []) ⟨d, .convert t t' x, ty, pos, af, g⟩ l E w K := by
  subst hm; exact G1_toString hu hi hk hx hs hd h
end
end Go.V

/- num.Parse at every string; the document's Print and Parse. -/

namespace Go.Proofs.YtipbakiecocioaaGreatDoor
open Go.V
attribute [local irreducible] Blk Own hcell IntT SliceT PlainT AggT SizeT StrT FieldT ZeroT EqT ArrT
def Errs (w : World) : Prop := ∃ t1 p1 t2 p2, w.var? Tryz.prog "strconv.ErrSyntax" = some #[.iface t1 p1] ∧ w.var? Tryz.prog "strconv.ErrRange" = some #[.iface t2 p2]
theorem Errs.ext {w w' : World} (h : Errs w) (hx : Ext w w') : Errs w' := by
  obtain ⟨t1, p1, t2, p2, h1, h2⟩ := h
  exact ⟨t1, p1, t2, p2, var_ext h1 hx, var_ext h2 hx⟩
theorem pi_bad {s : ByteArray} {w : World} (hs : s.size ≤ 1000000) (hno : ∀ v, Lib.parseIntB 64 s.data.toList ≠ .ok v) (hE : Errs w) : Ctr Tryz.prog 81 [.string s, .int .i64 10, .int .i64 64] w (fun r w' => ∃ v t p, r = .tuple #[.int .i64 v, .iface t p] ∧ Ext w w') := by
  obtain ⟨t1, p1, t2, p2, h1, h2⟩ := hE
  unfold Ctr
  refine ⟨⟨Tryz.f81, Tryz.func81, by decide, rfl⟩, ?_⟩
  rcases hp : Lib.parseIntB 64 s.data.toList with v | _ | _
  · exact absurd hp (hno v)
  · exact Calls.mono (Any.strconv_ParseInt_10_at64_syntax_var Tryz.layPI s (by omega) hp t1 p1 w h1) fun e w' ⟨N, he, _, _, hb⟩ => ⟨_, he, ⟨_, _, _, rfl, hb⟩⟩
  · exact Calls.mono (Any.strconv_ParseInt_10_at64_range_var Tryz.layPI s (by omega) hp t2 p2 w h2) fun e w' ⟨N, he, _, _, hb⟩ => ⟨_, he, ⟨_, _, _, rfl, hb⟩⟩
theorem nparse_yes {s : ByteArray} {n : Int} {w : World} (h : IsNum s n) (hT : Pow w) : Ctr Tryz.prog 44 [.string s] w (fun r w' => r = .tuple #[.int .i64 n, .bool true] ∧ Ext w w') := by
  obtain ⟨hf, rfl⟩ := h
  exact parse_ok (itoa_size hf) (by rw [itoaB_list]; exact parse_itoa hf) hf.1 hf.2 rfl hT
theorem nparse_nb {s : ByteArray} {w : World} (hno : ∀ n, ¬ IsNum s n) (hT : Pow w) (hE : Errs w) : Ctr Tryz.prog 44 [.string s] w (fun r w' => r = .tuple #[.int .i64 0, .bool false] ∧ Ext w w') := by
  refine Ctr_of Tryz.func44 Tryz.ntmps44 rfl rfl rfl ?_
  by_cases hok : ∃ v, Lib.parseIntB 64 s.data.toList = .ok v
  · obtain ⟨v, hp⟩ := hok
    have hfv := parse_fit hp
    have hne : ¬ itoaB v = s := fun he => hno v ⟨hfv, he⟩
    repeat' (first | (apply G_on; exact rfl; first | ((first | apply G1_assign | apply G1_move); exact rfl; exact rfl) | (apply G1_call (f := 81); exact rfl; exact rfl; exact rfl; exact pi_ok (by omega) hp; rintro _ w2 ⟨rfl, hx2⟩; refine ⟨(by first | exact .inl rfl | exact .inr (by assumption)), ?_⟩) | (apply G1_errNil; exact Tryz.underlying147; exact rfl; exact rfl) | (apply G1_call (f := 82); exact rfl; exact rfl; exact rfl; exact print_spec hfv.1 hfv.2 (TabIs.ext hT hx2); rintro _ w3 ⟨rfl, hx3⟩; refine ⟨(by first | exact .inl rfl | exact .inr (by assumption)), ?_⟩) | (apply G1_slen; exact T.str9; exact rfl; exact rfl) | ((first | apply G1_gtr | apply G1_extract | apply G1_sneq); exact rfl; exact rfl; exact rfl)) | apply G_nil | apply Post_next | apply W_seq | apply W_region | (apply W_cond_true; exact rfl) | (apply W_cond_false; exact rfl) | (apply W_cond_dec; exact rfl; all_goals (intro h; try (exfalso; omega))) | (apply W_cond; exact rfl; all_goals intro h) | (apply G_off; exact rfl; exact rfl) | ((fail_if_success (apply G_on; exact rfl)); apply G_split_dec; exact rfl; exact rfl; all_goals (intro h; try (exfalso; omega))) | ((fail_if_success (apply G_on; exact rfl)); apply G_split; exact rfl; exact rfl; all_goals intro h) | apply W_skip | apply W_exit | apply W_ret | apply W_block | apply Post_then_ret | apply Post_block_ret | apply Post_then_exit | apply Post_block_exit | (apply Post_block_other; exact rfl) | apply Post_block_normal)
    all_goals try (exfalso; exact hne (by first | assumption | simpa using h); done)
    all_goals
      refine Post_ret Tryz.results44 ⟨_, _, rfl, rfl, _, _, rfl, rfl, rfl⟩ ?_
      exact ⟨rfl, (by repeat first | assumption | exact Ext.rfl' | apply Ext.drew | apply Ext.alloc | refine Ext.trans ?_ (by assumption))⟩
  · have hb : ∀ v, Lib.parseIntB 64 s.data.toList ≠ .ok v := fun v hv => hok ⟨v, hv⟩
    repeat' (first | (apply G_on; exact rfl; first | ((first | apply G1_assign | apply G1_move); exact rfl; exact rfl) | (apply G1_call (f := 81); exact rfl; exact rfl; exact rfl; exact pi_bad (by omega) hb hE; rintro _ w2 ⟨v, t, p, rfl, hx2⟩; refine ⟨(by first | exact .inl rfl | exact .inr (by assumption)), ?_⟩) | (apply G1_errNot; exact Tryz.underlying147; exact rfl; exact rfl) | (apply G1_slen; exact T.str9; exact rfl; exact rfl) | ((first | apply G1_gtr | apply G1_extract | apply G1_sneq); exact rfl; exact rfl; exact rfl)) | apply G_nil | apply Post_next | apply W_seq | apply W_region | (apply W_cond_true; exact rfl) | (apply W_cond_false; exact rfl) | (apply W_cond_dec; exact rfl; all_goals (intro h; try (exfalso; omega))) | (apply W_cond; exact rfl; all_goals intro h) | (apply G_off; exact rfl; exact rfl) | ((fail_if_success (apply G_on; exact rfl)); apply G_split_dec; exact rfl; exact rfl; all_goals (intro h; try (exfalso; omega))) | ((fail_if_success (apply G_on; exact rfl)); apply G_split; exact rfl; exact rfl; all_goals intro h) | apply W_skip | apply W_exit | apply W_ret | apply W_block | apply Post_then_ret | apply Post_block_ret | apply Post_then_exit | apply Post_block_exit | (apply Post_block_other; exact rfl) | apply Post_block_normal)
    all_goals
      refine Post_ret Tryz.results44 ⟨_, _, rfl, rfl, _, _, rfl, rfl, rfl⟩ ?_
      exact ⟨rfl, (by repeat first | assumption | exact Ext.rfl' | apply Ext.drew | apply Ext.alloc | refine Ext.trans ?_ (by assumption))⟩
end Go.Proofs.YtipbakiecocioaaGreatDoor

/- The package-level variables that the reading laws' rows list: what they give a walk, and a world that holds them. -/

namespace Go.Proofs.YtipbakiecocioaaGreatDoor
open Go.V Go.ChangeShapes Go.WideShapes Go.ChangeAt Go.RowKit
theorem own : ownKnob Tryz.prog.godebug = none := by kernel_rfl
theorem laidOut : laidOutB Tryz.prog = true := by kernel_rfl
theorem gPow : Tryz.prog.globalNamed "internal/strconv.uint64pow10" = some 5 := by kernel_rfl
theorem gPowType : (Tryz.prog.globals[5]?).map (·.type) = some 211 := by kernel_rfl
theorem cellsPow : Tryz.prog.cellsOf 211 = 20 := by kernel_rfl
theorem cellsU64 : Tryz.prog.cellsOf 151 = 1 := by kernel_rfl
/-- the list that all rows of this seat bear -/
abbrev laidAll : List (String × DataW Unit) := [("math/bits.deBruijn32tab", Rows.laid_math_bits_deBruijn32tab), ("math/bits.deBruijn64tab", Rows.laid_math_bits_deBruijn64tab), ("internal/strconv.uint64pow10", Rows.laid_internal_strconv_uint64pow10), ("unicode/utf8.acceptRanges", Rows.laid_unicode_utf8_acceptRanges), ("strconv.ErrRange", Rows.laid_strconv_ErrRange), ("strconv.ErrSyntax", Rows.laid_strconv_ErrSyntax), ("unicode/utf8.first", Rows.laid_unicode_utf8_first)]
theorem met_of {W : World} (h : laidMetH Tryz.prog laidAll W) : laidMet Tryz.prog laidAll W := h
theorem pow_of {W : World} (h : laidMetH Tryz.prog laidAll W) : Pow W := by
  have h1 := laidMet.filter (fun x => x.1 == "internal/strconv.uint64pow10") (met_of h)
  exact Lib.tabIs_of_head (k := .u64) (zs := Lib.pow10Tab) (rest := []) gPow gPowType Tryz.underlying211 Tryz.underlying151 cellsU64 cellsPow h1
theorem gES : Tryz.prog.globalNamed "strconv.ErrSyntax" = some 3 := by kernel_rfl
theorem gEST : (Tryz.prog.globals[3]?).map (·.type) = some 147 := by kernel_rfl
theorem gER : Tryz.prog.globalNamed "strconv.ErrRange" = some 4 := by kernel_rfl
theorem gERT : (Tryz.prog.globals[4]?).map (·.type) = some 147 := by kernel_rfl
theorem cellsES : Tryz.prog.cellsOf 209 = 1 := by kernel_rfl
theorem cellsStr : Tryz.prog.cellsOf 9 = 1 := by kernel_rfl
theorem star : "*" ++ "errors.errorString" = "*errors.errorString" := by decide
theorem rowES (u : TypeId) (h : Tryz.prog.typeName? 3 u = some "*errors.errorString") : u = 207 :=
  typeName_ptr_named (nm := "errors.errorString") (by rw [star]; kernel_rfl) (by kernel_rfl) (by decide) u (by rw [star]; exact h)
theorem errs_of {W : World} (h : laidMetH Tryz.prog laidAll W) : Errs W := by
  have h1 := laidMet.filter (fun x => x.1 == "strconv.ErrSyntax") (met_of h)
  have h2 := laidMet.filter (fun x => x.1 == "strconv.ErrRange") (met_of h)
  obtain ⟨a1, s1, hv1, -, -, -⟩ := laid_sentinel h1 gES gEST Tryz.underlying147 rowES Tryz.underlying207 Tryz.underlying209 rfl rfl Tryz.underlying9 cellsES cellsStr
  obtain ⟨a2, s2, hv2, -, -, -⟩ := laid_sentinel h2 gER gERT Tryz.underlying147 rowES Tryz.underlying207 Tryz.underlying209 rfl rfl Tryz.underlying9 cellsES cellsStr
  exact ⟨_, _, _, _, hv1, hv2⟩
def ren8 : Go.Shelf.Ren := ⟨fun n => n, fun | 5 => 5 | 119 => 187 | 138 => 189 | 139 => 190 | n => n, fun | 3 => 1 | 4 => 2 | n => n⟩
theorem u8t : U8Types Tryz.prog ren8 := ⟨Tryz.underlying5, Tryz.underlying187, Tryz.underlying189, Tryz.underlying190⟩
theorem u8x : U8Extra Tryz.prog ren8 := ⟨by kernel_rfl, by kernel_rfl, by kernel_rfl, by kernel_rfl, by kernel_rfl, by kernel_rfl, by kernel_rfl⟩
theorem accept_eq : (Rows.laid_unicode_utf8_acceptRanges : DataW Unit) = Lib.acceptData := by kernel_rfl
theorem utf_of {W : World} (h : laidMetH Tryz.prog laidAll W) (hS : W.ShapedOpen Tryz.prog) : Utf W := by
  have hm := met_of h
  have h3 := Lib.laidMet.reads hm (.tail _ (.tail _ (.tail _ (.tail _ (.tail _ (.tail _ (.head _)))))))
  have h4 := Lib.laidMet.reads hm (.tail _ (.tail _ (.tail _ (.head _))))
  rw [show Rows.laid_unicode_utf8_first = Lib.firstData from Pinned.utf8First_eq] at h3
  rw [accept_eq] at h4
  exact ⟨utf8Tabs_of_readsT u8t u8x h3 h4, cell_of_shapedOpen_int (P := Tryz.prog) (g := 0) (t := 3) (zero := #[.int .i64 0]) hS (of_decide_eq_true (by kernel_rfl)) (by kernel_rfl) rfl (by kernel_rfl) (by kernel_rfl) Tryz.underlying3⟩
def setc (cs : Array Value) : Obj → Obj
  | .cells _ t frozen => .cells cs t frozen
  | o => o
def tab32 : Array Value := #[.int .u8 0, .int .u8 1, .int .u8 28, .int .u8 2, .int .u8 29, .int .u8 14, .int .u8 24, .int .u8 3, .int .u8 30, .int .u8 22, .int .u8 20, .int .u8 15, .int .u8 25, .int .u8 17, .int .u8 4, .int .u8 8, .int .u8 31, .int .u8 27, .int .u8 13, .int .u8 23, .int .u8 21, .int .u8 19, .int .u8 16, .int .u8 7, .int .u8 26, .int .u8 12, .int .u8 18, .int .u8 6, .int .u8 11, .int .u8 5, .int .u8 10, .int .u8 9]
def tab64 : Array Value := #[.int .u8 0, .int .u8 1, .int .u8 56, .int .u8 2, .int .u8 57, .int .u8 49, .int .u8 28, .int .u8 3, .int .u8 61, .int .u8 58, .int .u8 42, .int .u8 50, .int .u8 38, .int .u8 29, .int .u8 17, .int .u8 4, .int .u8 62, .int .u8 47, .int .u8 59, .int .u8 36, .int .u8 45, .int .u8 43, .int .u8 51, .int .u8 22, .int .u8 53, .int .u8 39, .int .u8 33, .int .u8 30, .int .u8 24, .int .u8 18, .int .u8 12, .int .u8 5, .int .u8 63, .int .u8 55, .int .u8 48, .int .u8 27, .int .u8 60, .int .u8 41, .int .u8 37, .int .u8 16, .int .u8 46, .int .u8 35, .int .u8 44, .int .u8 21, .int .u8 52, .int .u8 32, .int .u8 23, .int .u8 11, .int .u8 54, .int .u8 26, .int .u8 40, .int .u8 15, .int .u8 34, .int .u8 20, .int .u8 31, .int .u8 10, .int .u8 25, .int .u8 14, .int .u8 19, .int .u8 9, .int .u8 13, .int .u8 8, .int .u8 7, .int .u8 6]
def setAt (hp : Array Obj) (n : Nat) (cs : Array Value) : Array Obj := hp.modify n (setc cs)
def heap0 (hp : Array Obj) : Array Obj :=
  let h1 := setAt hp 5 (Lib.pow10Tab.map (Value.int .u64)).toArray
  let h2 := setAt h1 6 tab32
  let h3 := setAt h2 7 tab64
  let h4 := setAt h3 4 #[.iface 207 (.pointer (some ⟨hp.size, 0, none⟩))]
  let h5 := setAt h4 3 #[.iface 207 (.pointer (some ⟨hp.size + 1, 0, none⟩))]
  let h6 := setAt h5 1 ((List.range 256).map fun c => Value.int .u8 (Lib.firstT c)).toArray
  let h7 := setAt h6 2 ((List.range 16).flatMap fun i => [Value.int .u8 (Lib.accLo i), Value.int .u8 (Lib.accHi i)]).toArray
  (h7.push (.cells #[.string ⟨#[118, 97, 108, 117, 101, 32, 111, 117, 116, 32, 111, 102, 32, 114, 97, 110, 103, 101]⟩] 209)).push
    (.cells #[.string ⟨#[105, 110, 118, 97, 108, 105, 100, 32, 115, 121, 110, 116, 97, 120]⟩] 209)
noncomputable def laidWorld (os : Os) : World :=
  { World.holding Tryz.prog os ⟨#[], #[], []⟩ with heap := heap0 (World.holding Tryz.prog os ⟨#[], #[], []⟩).heap }
end Go.Proofs.YtipbakiecocioaaGreatDoor

/- Values as plain data: what makes them right. -/

namespace Go.V

structure Val where
  kind : Int
  text : ByteArray
  ps : List (ByteArray × ByteArray)
  ts : List ByteArray
  zs : List (Int × ByteArray)

/-- a value as it lies in memory -/
structure RawV where
  kind : Int
  text : ByteArray
  p1 : Option Addr
  n1 : Nat
  c1 : Nat
  p2 : Option Addr
  n2 : Nat
  c2 : Nat
  p3 : Option Addr
  n3 : Nat
  c3 : Nat
def eRaw : Enc RawV := ⟨5, fun r => [.int .i64 r.kind, .string r.text, .slice r.p1 r.n1 r.c1, .slice r.p2 r.n2 r.c2, .slice r.p3 r.n3 r.c3], fun _ => rfl,
  fun _ v hv => by simp at hv; rcases hv with rfl | rfl | rfl | rfl | rfl <;> rfl, by decide⟩

/-- the cells r read as the value v -/
structure Rv (H : Array Obj) (r : RawV) (v : Val) : Prop where
  kind : r.kind = v.kind
  text : r.text = v.text
  n1 : r.n1 = v.ps.length
  n2 : r.n2 = v.ts.length
  n3 : r.n3 = v.zs.length
  s1 : Sl H ePair r.p1 r.c1 v.ps
  s2 : Sl H eStr r.p2 r.c2 v.ts
  s3 : Sl H eMem r.p3 r.c3 v.zs

theorem Rv.ext {w w' : World} {r : RawV} {v : Val} (h : Rv w.heap r v) (hx : Ext w w') : Rv w'.heap r v := ⟨h.kind, h.text, h.n1, h.n2, h.n3, h.s1.ext hx, h.s2.ext hx, h.s3.ext hx⟩
theorem Rv.enc {H : Array Obj} {r : RawV} {v : Val} (h : Rv H r v) : eRaw.enc r = [.int .i64 v.kind, .string v.text, .slice r.p1 v.ps.length r.c1, .slice r.p2 v.ts.length r.c2, .slice r.p3 v.zs.length r.c3] := by
  simp [eRaw, h.kind, h.text, h.n1, h.n2, h.n3]

def stepP (ps : List (ByteArray × ByteArray)) (i : Nat) : Prop := ∀ x, ps[i]? = some x → x.1.size ≤ 4096 ∧ x.2.size ≤ 4096 ∧ (0 < i → ∀ y, ps[i - 1]? = some y → blt y.1 x.1 = true)
def before (a b : Int × ByteArray) : Prop := a.1 < b.1 ∨ a.1 = b.1 ∧ blt a.2 b.2 = true
end Go.V

/- Maps with strings for keys, as far as their keys go. -/

namespace Go.V
open Go.RowKit

/-- block b is a map of strings; has: which are its keys; n: how many; m: a bound -/
def KeySet (P : Program) (w : World) (k e b : Nat) (has : ByteArray → Prop) (n m : Nat) : Prop :=
  ∃ D : DataW Unit, w.ownsMap P k (plainElem P e) b m D ∧ Maps.size D = n ∧ ∀ s : ByteArray, s.size ≤ maxLen → (Maps.has D (.string s.data.toList) = true ↔ has s)

section
variable {P : Program} {w w' : World} {k e b n m t : Nat} {has : ByteArray → Prop}

theorem KeySet.lt (h : KeySet P w k e b has n m) : b < w.heap.size := by
  obtain ⟨D, h1, _⟩ := h; exact h1.lt
theorem KeySet.kept (h : KeySet P w k e b has n m) {row : Option Nat} (hg : w.grownBy w' row) (hne : row ≠ some b) : KeySet P w' k e b has n m := by
  obtain ⟨D, h1, h2⟩ := h; exact ⟨D, h1.kept hg (fun e => hne e.symm), h2⟩
theorem KeySet.ext (h : KeySet P w k e b has n m) (hx : Ext w w') : KeySet P w' k e b has n m := h.kept (hx.grown none) (by simp)
theorem KeySet.made (w : World) (P : Program) (k e : Nat) : KeySet P (w.alloc (.map #[] 0)) k e w.heap.size (fun _ => False) 0 0 :=
  ⟨.map [], World.ownsMap_made w P k _, rfl, fun s _ => by simp [Maps.has]⟩
theorem KeySet.put (h : KeySet P w k e b has n m) (hk : P.underlying k = some .string) {v : Value} {d : DataW Unit} (hv : plainElem P e v = some (d, [])) (ht : P.underlying t = some (.map k e)) (hm : m < maxLen) {s : ByteArray} (hs : s.size ≤ maxLen) :
    ∃ w' n', (Instr.mapUpdate t (.map (some b)) (.string s) v).run P w = .ok () w' ∧ KeySet P w' k e b (fun u => u = s ∨ has u) n' (m + 1) ∧ w.grownBy w' (some b) ∧ (has s → n' = n) ∧ (¬ has s → n' = n + 1) := by
  obtain ⟨D, h1, h2, h3⟩ := h
  have K := Maps.string_keyed hk
  have hkey := Go.WideMaps.keyOf_string_mk (P := P) (k := k) hk hs
  obtain ⟨w', hr, ho, hg⟩ := h1.update K ht hm hkey hv
  have hlit := K.key hkey
  have htidy := h1.tidy K
  have hmap := h1.isMap
  refine ⟨w', Maps.size (D.put (.string s.data.toList) d), hr, ⟨_, ho, rfl, fun u hu => ?_⟩, hg, fun hh => ?_, fun hh => ?_⟩
  · by_cases e' : u = s
    · subst e'; simp [Maps.has_put_same hmap hlit]
    · have hne : (Lit.string u.data.toList) ≠ .string s.data.toList := by
        intro e2; injection e2 with e2
        exact e' (by cases u; cases s; simp_all)
      rw [Maps.has_put_other hne, h3 u hu]
      simp [e']
  all_goals
    obtain ⟨es, rfl, hp⟩ := htidy
    have hst := Maps.length_strike (k := .string s.data.toList) es hp
    have hsz : Maps.size ((DataW.map es).put (.string s.data.toList) d) = (es.filter fun p => !p.1.sameKey (.string s.data.toList)).length + 1 := by
      show (DataW.insert _ _).length = _
      rw [length_insert]
    rw [hsz]
    have hz : es.length = n := h2
    have hq := h3 s hs
    simp only [Maps.has] at hq
  · rw [if_pos (hq.2 hh)] at hst; omega
  · rw [if_neg (fun e2 => hh (hq.1 e2))] at hst; omega

end
section
variable {P : Program} {n : Nat} {ops : Array Oper} {dr : Nat × List Nat} {dq : Nat} {l : List Oper} {E : Env} {w : World} {K : Env → World → Prop}
variable {d : Option Nat} {ty : TypeId} {pos : String} {af : Array Edge} {g : Option (Nat × Bool)} {x y z : Operand} {k k' : IntKind} {i j : Int} {t kt et b cnt m : Nat} {v v' : Value} {has : ByteArray → Prop}

end
attribute [irreducible] KeySet
end Go.V

/- Maps of any kind: what they hold, value by value; the steps of a walk at them. -/

namespace Go.V
open Go.RowKit
/-- an element as it stands -/
def hElem (v : Value) : Option (DataW Value × List MemPlace) := some (.held v, [])
/-- block b is a map with keys of type k that holds f; m: a bound of its size -/
def MapV (P : Program) (w : World) (k b : Nat) (f : Lit → Option Value) (m : Nat) : Prop :=
  ∃ D : DataW Value, w.ownsMap P k hElem b m D ∧ ∀ kl, Maps.has D kl = (f kl).isSome ∧ ∀ v, f kl = some v → ∀ zd, D.atKey kl zd = .held v
open Classical in
noncomputable def putV (f : Lit → Option Value) (s : Lit) (v : Value) : Lit → Option Value := fun u => if u = s then some v else f u
section
variable {P : Program} {w w' : World} {k e b n m t : Nat} {f : Lit → Option Value}
theorem MapV.lt (h : MapV P w k b f m) : b < w.heap.size := by
  obtain ⟨D, h1, _⟩ := h; exact h1.lt
theorem MapV.kept (h : MapV P w k b f m) {row : Option Nat} (hg : w.grownBy w' row) (hne : row ≠ some b) : MapV P w' k b f m := by
  obtain ⟨D, h1, h2⟩ := h; exact ⟨D, h1.kept hg (fun e => hne e.symm), h2⟩
theorem MapV.ext (h : MapV P w k b f m) (hx : Ext w w') : MapV P w' k b f m := h.kept (hx.grown none) (by simp)
theorem MapV.made (w : World) (P : Program) (k : Nat) : MapV P (w.alloc (.map #[] 0)) k w.heap.size (fun _ => none) 0 :=
  ⟨.map [], World.ownsMap_made w P k _, fun s => ⟨by simp [Maps.has], fun c hc => by cases hc⟩⟩
theorem MapV.put (h : MapV P w k b f m) (K : Maps.Keyed P k) (ht : P.underlying t = some (.map k e)) (hm : m < maxLen) {key : Value} {kl : Lit} (hkey : keyOf P k key = some kl) (v : Value) :
    ∃ w', (Instr.mapUpdate t (.map (some b)) key v).run P w = .ok () w' ∧ MapV P w' k b (putV f kl v) (m + 1) ∧ w.grownBy w' (some b) := by
  obtain ⟨D, h1, h2⟩ := h
  obtain ⟨w', hr, ho, hg⟩ := h1.update K ht hm hkey (show hElem v = some (.held v, []) from rfl)
  have hlit := K.key hkey
  have hmap := h1.isMap
  refine ⟨w', hr, ⟨_, ho, fun u => ?_⟩, hg⟩
  unfold putV
  by_cases e' : u = kl
  · subst e'
    rw [if_pos rfl]
    refine ⟨by simp [Maps.has_put_same hmap hlit], fun c' hc' zd => ?_⟩
    injection hc' with hc'
    rw [← hc']
    exact Maps.atKey_put_same hmap hlit _ _
  · rw [if_neg e', Maps.has_put_other e']
    refine ⟨(h2 u).1, fun c' hc' zd => ?_⟩
    rw [Maps.atKey_put_other e']
    exact (h2 u).2 c' hc' zd
theorem MapV.at_ {D : DataW Value} (h2 : ∀ kl, Maps.has D kl = (f kl).isSome ∧ ∀ v, f kl = some v → ∀ zd, D.atKey kl zd = .held v) {kl : Lit} {v z : Value} (h : D.atKey kl (.held z) = .held v) : v = (f kl).getD z := by
  cases hf : f kl with
  | some c0 =>
    have := (h2 kl).2 c0 hf (.held z)
    rw [this] at h
    injection h with h
    exact h.symm
  | none =>
    have hno : Maps.has D kl = false := by rw [(h2 kl).1, hf]; rfl
    rw [Maps.atKey_of_not_has hno] at h
    injection h with h
    exact h.symm
theorem MapV.look (h : MapV P w k b f m) (K : Maps.Keyed P k) (ht : P.underlying t = some (.map k e)) {z : Value} (hz : ZeroT P e z) {key : Value} {kl : Lit} (hkey : keyOf P k key = some kl) :
    (Instr.lookup t (.map (some b)) key false).run P w = .ok ((f kl).getD z) w ∧ (Instr.lookup t (.map (some b)) key true).run P w = .ok (.tuple #[(f kl).getD z, .bool (f kl).isSome]) w := by
  obtain ⟨D, h1, h2⟩ := h
  constructor
  · obtain ⟨v, ps, hrun, hv⟩ := h1.lookup K ht (run_zero hz w) (show hElem z = some (.held z, []) from rfl) hkey
    injection hv with hv; injection hv with hv _
    rw [hrun, MapV.at_ h2 hv.symm]
  · obtain ⟨v, ps, hrun, hv⟩ := h1.look_ok K ht (run_zero hz w) (show hElem z = some (.held z, []) from rfl) hkey
    injection hv with hv; injection hv with hv _
    rw [hrun, MapV.at_ h2 hv.symm, (h2 kl).1]
/-- a range over the map: left: what is still to come -/
def MapVR (P : Program) (w : World) (k b r : Nat) (f : Lit → Option Value) (left : Lit → Bool) (cnt m : Nat) : Prop :=
  ∃ D : DataW Value, w.ranges P k hElem b r m D left cnt ∧ ∀ kl, Maps.has D kl = (f kl).isSome ∧ ∀ v, f kl = some v → ∀ zd, D.atKey kl zd = .held v
theorem MapVR.kept {left : Lit → Bool} {cnt r : Nat} (h : MapVR P w k b r f left cnt m) {row : Option Nat} (hg : w.grownBy w' row) (hb : row ≠ some b) (hr : row ≠ some r) : MapVR P w' k b r f left cnt m := by
  obtain ⟨D, h1, h2⟩ := h; exact ⟨D, h1.kept hg (fun e => hb e.symm) (fun e => hr e.symm), h2⟩
theorem MapVR.ext {left : Lit → Bool} {cnt r : Nat} (h : MapVR P w k b r f left cnt m) (hx : Ext w w') : MapVR P w' k b r f left cnt m := h.kept (hx.grown none) (by simp) (by simp)
theorem MapVR.lt {left : Lit → Bool} {cnt r : Nat} (h : MapVR P w k b r f left cnt m) : b < w.heap.size ∧ r < w.heap.size := by
  obtain ⟨D, h1, h2⟩ := h; exact ⟨h1.owns.lt, h1.lt⟩
theorem MapV.range (h : MapV P w k b f m) (K : Maps.Keyed P k) (ht : P.underlying t = some (.map k e)) :
    ∃ w' cnt, (Instr.range t (.map (some b))).run P w = .ok (.pointer (some ⟨w.heap.size, 0, none⟩)) w' ∧ MapVR P w' k b w.heap.size f (fun s => (f s).isSome) cnt m ∧ Ext w w' ∧ w'.heap.size = w.heap.size + 1 := by
  obtain ⟨D, h1, h2⟩ := h
  obtain ⟨w', hr, ho, hg, hz⟩ := h1.range K ht
  have e1 : (Maps.has D) = (fun s => (f s).isSome) := by funext s; exact (h2 s).1
  rw [e1] at ho
  exact ⟨w', _, hr, ⟨D, ho, h2⟩, Ext.of_grown hg, hz⟩
theorem MapVR.next {left : Lit → Bool} {cnt r : Nat} (h : MapVR P w k b r f left cnt m) (K : Maps.Keyed P k) (ty : TypeId) :
    ((∀ kl, left kl = false) ∧ (Instr.next (.pointer (some ⟨r, 0, none⟩)) false ty).run P w = .ok (.tuple #[.bool false]) w) ∨
    ∃ key kl v w' cnt', keyOf P k key = some kl ∧ left kl = true ∧ f kl = some v ∧ (Instr.next (.pointer (some ⟨r, 0, none⟩)) false ty).run P w = .ok (.tuple #[.bool true, key, v]) w' ∧
      MapVR P w' k b r f (fun u => left u && !u.sameKey kl) cnt' m ∧ cnt' < cnt ∧ w.grownBy w' (some r) ∧ w'.heap.size = w.heap.size ∧ (Instr.entry (.pointer (some ⟨r, 0, none⟩))).run P w' = .ok (.tuple #[key, v]) w' := by
  obtain ⟨D, h1, h2⟩ := h
  rcases h1.next K ty with ⟨_, g2, g3⟩ | ⟨key, v, kl, y, w', cnt', g1, g2, g3, g4, g5, g6, g7, g8, g9, g10⟩
  · exact .inl ⟨g2, g3⟩
  · have g3' : y = (.held v, []) := by
      have : some y = some (.held v, []) := g3.symm
      injection this
    subst g3'
    have hfc : f kl = some v := by
      have hhas : Maps.has D kl = true := by
        cases hh : Maps.has D kl with
        | true => rfl
        | false =>
          have e1 := g4 .nil
          rw [Maps.atKey_of_not_has hh] at e1
          cases e1
      obtain ⟨c0, hc0⟩ := Option.isSome_iff_exists.1 ((h2 kl).1.symm.trans hhas)
      have e2 := (h2 kl).2 c0 hc0 .nil
      rw [g4 .nil] at e2
      injection e2 with e2
      rw [hc0, e2]
    exact .inr ⟨key, kl, v, w', cnt', g1, g2, hfc, g5, ⟨D, g6, h2⟩, g7, g8, g9, g10⟩
end
section
variable {P : Program} {n : Nat} {ops : Array Oper} {dr : Nat × List Nat} {dq : Nat} {l : List Oper} {E : Env} {w : World} {K : Env → World → Prop}
variable {d : Option Nat} {ty : TypeId} {pos : String} {af : Array Edge} {g : Option (Nat × Bool)} {x y z : Operand} {t kt et b m r : Nat} {f : Lit → Option Value} {key v zv : Value} {kl : Lit}
theorem G1_makeMapV (ht : P.underlying t = some (.map kt et)) (he : effects P dr.1 ⟨d, .makeMap t none, ty, pos, af, g⟩ = true) (hd : dstOk n d = true)
    (h : ∀ b w', b = w.heap.size → MapV P w' kt b (fun _ => none) 0 → Ext w w' → w'.heap.size = w.heap.size + 1 → G P n ops dr l (E.put d (.map (some b))) w' K) : G1 P n ops dr ⟨d, .makeMap t none, ty, pos, af, g⟩ l E w K :=
  G1_eff _ (w.alloc (.map #[] 0)) he hd (fun a ha => by simp [execOp, Instr.makeMap, run_underlying ht, newObj, Sem.run]) (.inr (Ext.alloc Ext.rfl' _).toS)
    (h w.heap.size _ rfl (MapV.made w P kt) (Ext.alloc Ext.rfl' _) (by simp))
theorem G1_lookV (ht : P.underlying t = some (.map kt et)) (Kk : Maps.Keyed P kt) (hz : ZeroT P et zv) (hx : E.look x = some (.map (some b))) (hy : E.look y = some key) (hkey : keyOf P kt key = some kl)
    (ho : MapV P w kt b f m) (hd : dstOk n d = true) (h : G P n ops (dq, []) l (E.put d ((f kl).getD zv)) w K) : G1 P n ops (dq, []) ⟨d, .lookup t x y false, ty, pos, af, g⟩ l E w K :=
  G1_quiet _ hd (fun a ha w' hw => by
    have hx' := ho.ext (rd_ext hw (by simp [readsM]))
    have := (hx'.look Kk ht hz hkey).1
    simp [execOp, ha.eval hx, ha.eval hy, this]) h
theorem G1_lookV2 (ht : P.underlying t = some (.map kt et)) (Kk : Maps.Keyed P kt) (hz : ZeroT P et zv) (hx : E.look x = some (.map (some b))) (hy : E.look y = some key) (hkey : keyOf P kt key = some kl)
    (ho : MapV P w kt b f m) (hd : dstOk n d = true) (h : G P n ops (dq, []) l (E.put d (.tuple #[(f kl).getD zv, .bool (f kl).isSome])) w K) : G1 P n ops (dq, []) ⟨d, .lookup t x y true, ty, pos, af, g⟩ l E w K :=
  G1_quiet _ hd (fun a ha w' hw => by
    have hx' := ho.ext (rd_ext hw (by simp [readsM]))
    have := (hx'.look Kk ht hz hkey).2
    simp [execOp, ha.eval hx, ha.eval hy, this]) h
theorem G1_lookV2e {o : Option Value} (hv : f kl = o) (ht : P.underlying t = some (.map kt et)) (Kk : Maps.Keyed P kt) (hz : ZeroT P et zv) (hx : E.look x = some (.map (some b))) (hy : E.look y = some key) (hkey : keyOf P kt key = some kl)
    (ho : MapV P w kt b f m) (hd : dstOk n d = true) (h : G P n ops (dq, []) l (E.put d (.tuple #[o.getD zv, .bool o.isSome])) w K) : G1 P n ops (dq, []) ⟨d, .lookup t x y true, ty, pos, af, g⟩ l E w K :=
  G1_lookV2 ht Kk hz hx hy hkey ho hd (by rw [hv]; exact h)
theorem G1_putV (ht : P.underlying t = some (.map kt et)) (Kk : Maps.Keyed P kt) (hx : E.look x = some (.map (some b))) (hy : E.look y = some key) (hz : E.look z = some v) (hkey : keyOf P kt key = some kl) (hm : m < maxLen) (ho : MapV P w kt b f m)
    (he : effects P dr.1 ⟨d, .mapUpdate t x y z, ty, pos, af, g⟩ = true) (hw : writes dr.1 ⟨d, .mapUpdate t x y z, ty, pos, af, g⟩ = true) (hd : dstOk n d = true)
    (h : ∀ w', MapV P w' kt b (putV f kl v) (m + 1) → w.grownBy w' (some b) → G P n ops dr l (E.put d undef) w' K) : G1 P n ops dr ⟨d, .mapUpdate t x y z, ty, pos, af, g⟩ l E w K := by
  obtain ⟨w', hr, h1, h2⟩ := ho.put Kk ht hm hkey v
  exact G1_skip w' he hd (fun a ha => by simp [execOp, ha.eval hx, ha.eval hy, ha.eval hz, hr]) (.inl hw) (h w' h1 h2)
theorem G1_rangeV (ht : P.underlying t = some (.map kt et)) (Kk : Maps.Keyed P kt) (hx : E.look x = some (.map (some b))) (ho : MapV P w kt b f m)
    (he : effects P dr.1 ⟨d, .range t x, ty, pos, af, g⟩ = true) (hd : dstOk n d = true)
    (h : ∀ w' cnt, MapVR P w' kt b w.heap.size f (fun s => (f s).isSome) cnt m → Ext w w' → w'.heap.size = w.heap.size + 1 → G P n ops dr l (E.put d (.pointer (some ⟨w.heap.size, 0, none⟩))) w' K) : G1 P n ops dr ⟨d, .range t x, ty, pos, af, g⟩ l E w K := by
  obtain ⟨w', cnt, hr, h1, h2, h3⟩ := ho.range Kk ht
  exact G1_eff _ w' he hd (fun a ha => by simp [execOp, ha.eval hx, hr]) (.inr h2.toS) (h w' cnt h1 h2 h3)
theorem G1_nextV {left : Lit → Bool} {cnt : Nat} (Kk : Maps.Keyed P kt) (hx : E.look x = some (.pointer (some ⟨r, 0, none⟩))) (ho : MapVR P w kt b r f left cnt m)
    (he : effects P dr.1 ⟨d, .next x false, ty, pos, af, g⟩ = true) (hw : writes dr.1 ⟨d, .next x false, ty, pos, af, g⟩ = true) (hd : dstOk n d = true)
    (h0 : (∀ kl, left kl = false) → G P n ops dr l (E.put d (.tuple #[.bool false])) w K)
    (h1 : ∀ (key : Value) (kl : Lit) (v : Value) (w' : World) (cnt' : Nat), keyOf P kt key = some kl → left kl = true → f kl = some v → MapVR P w' kt b r f (fun u => left u && !u.sameKey kl) cnt' m → cnt' < cnt → w.grownBy w' (some r) → w'.heap.size = w.heap.size →
      (Instr.entry (.pointer (some ⟨r, 0, none⟩))).run P w' = .ok (.tuple #[key, v]) w' → G P n ops dr l (E.put d (.tuple #[.bool true, key, v])) w' K) :
    G1 P n ops dr ⟨d, .next x false, ty, pos, af, g⟩ l E w K := by
  rcases ho.next Kk ty with ⟨g1, g2⟩ | ⟨key, kl, v, w', cnt', g1, g2, g3, g5, g6, g7, g8, g9, g10⟩
  · exact G1_eff _ w he hd (fun a ha => by simp [execOp, ha.eval hx, g2]) (.inr ExtS.rfl') (h0 g1)
  · exact G1_eff _ w' he hd (fun a ha => by simp [execOp, ha.eval hx, g5]) (.inl hw) (h1 key kl v w' cnt' g1 g2 g3 g6 g7 g8 g9 g10)
theorem G1_entryV {v : Value} (hx : E.look x = some (.pointer (some ⟨r, 0, none⟩))) (hr : (Instr.entry (.pointer (some ⟨r, 0, none⟩))).run P w = .ok v w) (he : effects P dr.1 ⟨d, .entry x, ty, pos, af, g⟩ = true) (hd : dstOk n d = true)
    (h : G P n ops dr l (E.put d v) w K) : G1 P n ops dr ⟨d, .entry x, ty, pos, af, g⟩ l E w K :=
  G1_eff _ w he hd (fun a ha => by simp [execOp, ha.eval hx, hr]) (.inr ExtS.rfl') h
end
end Go.V

/- Audit: histories in memory; what a transaction writes. -/

namespace Go.V
open Go.RowKit
/-- an operation -/
structure OpD where
  w : Bool
  k : ByteArray
  t : ByteArray
  h : Bool
def eOp : Enc OpD := ⟨4, fun o => [.bool o.w, .string o.k, .string o.t, .bool o.h], fun _ => rfl, fun _ v hv => by simp at hv; rcases hv with rfl | rfl | rfl | rfl <;> rfl, by decide⟩
/-- a transaction as it lies in a slice -/
structure RawH where
  ses : Int
  start : Int
  com : Int
  p : Option Addr
  n : Nat
  c : Nat
def eHist : Enc RawH := ⟨4, fun r => [.int .i64 r.ses, .int .i64 r.start, .int .i64 r.com, .slice r.p r.n r.c], fun _ => rfl, fun _ v hv => by simp at hv; rcases hv with rfl | rfl | rfl | rfl <;> rfl, by decide⟩
/-- what a commit wrote to a key -/
structure WrD where
  com : Int
  h : Bool
  t : ByteArray
def eWr : Enc WrD := ⟨3, fun r => [.int .i64 r.com, .bool r.h, .string r.t], fun _ => rfl, fun _ v hv => by simp at hv; rcases hv with rfl | rfl | rfl <;> rfl, by decide⟩
def eRes : Enc (Bool × ByteArray) := ⟨2, fun r => [.bool r.1, .string r.2], fun _ => rfl, fun _ v hv => by simp at hv; rcases hv with rfl | rfl <;> rfl, by decide⟩
abbrev resV (h : Bool) (t : ByteArray) : Value := .agg (eRes.enc (h, t)).toArray
def sK : ByteArray := ⟨#[107]⟩
abbrev kLit : Lit := .string sK.data.toList
/-- one of the law's transactions: what its first reading has; what it writes -/
structure TxD where
  rt : ByteArray
  rh : Bool
  t : ByteArray
def opsOf (x : TxD) : List OpD := [⟨false, sK, x.rt, x.rh⟩, ⟨true, sK, x.t, true⟩, ⟨false, sK, x.t, true⟩]
structure HistAt (H : Array Obj) (i : Nat) (r : RawH) (x : TxD) : Prop where
  ses : r.ses = ((i % 3 : Nat) : Int)
  start : r.start = (i : Int)
  com : r.com = (i : Int) + 1
  n : r.n = 3
  ops : Sl H eOp r.p r.c (opsOf x)
structure HistsAt (H : Array Obj) (p : Option Addr) (c : Nat) (rs : List RawH) (xs : List TxD) : Prop where
  sl : Sl H eHist p c rs
  len : rs.length = xs.length
  get : ∀ (i : Nat) r x, rs[i]? = some r → xs[i]? = some x → HistAt H i r x
theorem HistAt.ext {w w' : World} {i : Nat} {r : RawH} {x : TxD} (h : HistAt w.heap i r x) (hx : Ext w w') : HistAt w'.heap i r x := ⟨h.ses, h.start, h.com, h.n, h.ops.ext hx⟩
theorem HistsAt.ext {w w' : World} {p : Option Addr} {c : Nat} {rs : List RawH} {xs : List TxD} (h : HistsAt w.heap p c rs xs) (hx : Ext w w') : HistsAt w'.heap p c rs xs := ⟨h.sl.ext hx, h.len, fun i r x hr hc => (h.get i r x hr hc).ext hx⟩
/-- a map that has one key at most -/
noncomputable def oneF (o : Option Value) : Lit → Option Value := fun u => open Classical in if u = kLit then o else none
theorem oneF_at (o : Option Value) : oneF o kLit = o := if_pos rfl
theorem oneF_none : oneF none = fun _ => none := by
  funext u
  unfold oneF
  split <;> rfl
theorem oneF_put (o : Option Value) (v : Value) : putV (oneF o) kLit v = oneF (some v) := by
  funext u
  unfold putV oneF
  split <;> rfl
theorem none_put (v : Value) : putV (fun _ => none) kLit v = oneF (some v) := by rw [← oneF_none, oneF_put]
end Go.V
namespace Go.Proofs.YtipbakiecocioaaGreatDoor
open Go.V
attribute [local irreducible] Blk Own hcell IntT SliceT PlainT AggT SizeT StrT FieldT ZeroT EqT ArrT
theorem keyK : keyOf Tryz.prog 9 (.string sK) = some kLit := Go.WideMaps.keyOf_string_mk (by kernel_rfl) (by decide)
theorem kStr : Maps.Keyed Tryz.prog 9 := Maps.string_keyed (by kernel_rfl)
theorem bldRes (h : Bool) (t : ByteArray) (w : World) : (Instr.build 85 [(0, Value.bool h), (1, Value.string t)].toArray).run Tryz.prog w = .ok (resV h t) w := by kernel_rfl
theorem eqgRes : Tryz.prog.eqGuardType Tryz.prog.depth 85 = false := by kernel_rfl
theorem eq_res (h h' : Bool) (t t' : ByteArray) : EqT Tryz.prog 85 (resV h t) (resV h' t') ((h == h') && decide (t = t')) :=
  EqT.two (P := Tryz.prog) (a1 := .bool h) (a2 := .string t) (b1 := .bool h') (b2 := .string t') Tryz.underlying85 (by kernel_rfl) (by decide) (by decide) rfl rfl T.p4 T.p9 (fun w d => eqIn_bool Tryz.underlying4 _ _ w d) (fun w d => eqIn_str T.str9 _ _ w d)
theorem of_spec (o : OpD) (w : World) : Ctr Tryz.prog 35 [.agg (eOp.enc o).toArray] w (fun v w' => v = resV o.h o.t ∧ Ext w w') := by
  refine Ctr_of Tryz.func35 Tryz.ntmps35 rfl rfl rfl ?_
  repeat' (first | apply W_seq | apply W_region)
  apply G_on; exact rfl; apply G1_box; exact rfl; exact rfl; exact rfl; intro a1 w1 ha1 hA1 hx1 hs1
  replace hA1 : Blk w1.heap a1 40 (eOp.enc o) := hA1
  skip
  apply G_on; exact rfl; apply G1_alloc; exact T.zero85; exact rfl; exact rfl; intro a2 w2 ha2 hA2 hx2 hs2
  replace hA1 := hA1.ext hx2
  repeat' (first | (apply G_on; exact rfl; first | (apply G1_fieldAddr; (first | exact T.f40_3 | exact T.f40_2); exact rfl; exact rfl) | (apply G1_build (resV o.h o.t); exact rfl; exact bldRes _ _; exact rfl) | (apply G1_loadB; (first | exact T.p4 | exact T.p9); exact rfl; assumption; exact rfl; exact rfl)) | apply G_nil | apply Post_next | apply W_seq | apply W_region)
  apply G_on; exact rfl; apply G1_storeB; exact T.z85; exact rfl; exact rfl; exact hA2; exact rfl; exact rfl; (first | exact Nat.le_of_ble_eq_true rfl | (focus (simp [Value.cells]; done))); (first | exact Enc.one _ _ | (focus (simp [Value.oneCell']; done)) | (focus (simp [Value.cells, Value.oneCell']; done)) | exact Enc.oneAgg _ _); exact rfl; (first | exact .inl rfl | exact .inr (by simp [exempt])); exact rfl; intro w3 hA3 hg3 hs3
  replace hA3 : Blk w3.heap a2 85 [.bool o.h, .string o.t] := hA3
  repeat' (first | apply G_nil | apply Post_next | apply W_ret)
  refine Post_ret Tryz.results35 ⟨_, _, _, rfl, rfl, run_loadVar_box T.a85 (by assumption) rfl, rfl⟩ ?_
  exact ⟨rfl, (hx1.trans hx2).own hg3 (fun k hk => by injection hk; omega)⟩
/-- what operations write -/
noncomputable def wrF (f : Lit → Option Value) : List OpD → (Lit → Option Value)
  | [] => f
  | o :: l => wrF (if o.w = true then putV f (.string o.k.data.toList) (resV o.h o.t) else f) l
theorem wrF_step (f : Lit → Option Value) (l : List OpD) (i : Nat) (o : OpD) (h : l[i]? = some o) : wrF f (l.take (i + 1)) = if o.w = true then putV (wrF f (l.take i)) (.string o.k.data.toList) (resV o.h o.t) else wrF f (l.take i) := by
  have app : ∀ (l m : List OpD) f, wrF f (l ++ m) = wrF (wrF f l) m := by
    intro l
    induction l with
    | nil => intro m f; rfl
    | cons a l ih => intro m f; exact ih m _
  have e : l.take (i + 1) = l.take i ++ [o] := by
    rw [List.take_add_one, h]; rfl
  rw [e, app]
  rfl
theorem wrF_ops (x : TxD) : wrF (fun _ => none) (opsOf x) = oneF (some (resV true x.t)) := by
  show putV (fun _ => none) kLit (resV true x.t) = _
  exact none_put _
theorem wrF_key {o : OpD} (h : o.k.size ≤ maxLen) : keyOf Tryz.prog 9 (.string o.k) = some (.string o.k.data.toList) := Go.WideMaps.keyOf_string_mk (by kernel_rfl) h
theorem writes_spec {p : Option Addr} {c : Nat} {ses st com : Int} {os : List OpD} {w : World} (hO : Sl w.heap eOp p c os) (hk : ∀ o ∈ os, o.k.size ≤ maxLen) (hl : os.length ≤ 1000) :
    Ctr Tryz.prog 29 [.agg #[.int .i64 ses, .int .i64 st, .int .i64 com, .slice p os.length c]] w (fun v w' => ∃ b m, v = .map (some b) ∧ m ≤ 1000 ∧ w.heap.size ≤ b ∧ MapV Tryz.prog w' 9 b (wrF (fun _ => none) os) m ∧ Ext w w') := by
  have hok := hO.ok
  have n1 := hO.bound
  refine Ctr_of Tryz.func29 Tryz.ntmps29 rfl rfl rfl ?_
  repeat' (first | apply W_seq | apply W_region)
  apply G_on; exact rfl; apply G1_box; exact rfl; exact rfl; exact rfl; intro a1 w1 ha1 hA1 hx1 hs1
  replace hA1 : Blk w1.heap a1 43 [.int .i64 ses, .int .i64 st, .int .i64 com, .slice p os.length c] := hA1
  repeat' (first | (apply G_on; exact rfl; (apply G1_assign; exact rfl; exact rfl)) | apply G_nil | apply Post_next | apply W_seq | apply W_region)
  apply G_on; exact rfl
  apply G1_makeMapV; exact Tryz.underlying82; exact rfl; exact rfl
  intro b w2 hb hM hx2 hs2
  replace hA1 := hA1.ext hx2
  have hx02 : Ext w w2 := hx1.trans hx2
  have hz1 := hx1.size
  repeat' (first | (apply G_on; exact rfl; first | ((first | apply G1_assign | apply G1_move); exact rfl; exact rfl) | (apply G1_fieldAddr; exact T.f43_3; exact rfl; exact rfl) | (apply G1_loadB; exact T.p41; exact rfl; assumption; exact rfl; exact rfl) | (apply G1_len; exact T.s41; exact rfl; exact rfl)) | apply G_nil | apply Post_next | apply W_seq | apply W_region | apply W_block)
  refine W_loop (ι := Nat) (fun y => [(3, .map (some b)), (8, .slice p os.length c), (9, .int .i64 (os.length : Int)), (10, .int .i64 (y : Int))])
    (fun y w' => y ≤ os.length ∧ (∃ m, m ≤ y ∧ MapV Tryz.prog w' 9 b (wrF (fun _ => none) (os.take y)) m) ∧ Ext w w') (fun y => os.length - y) 0 ⟨rfl, rfl, rfl, rfl, trivial⟩ ⟨Nat.zero_le _, ⟨0, Nat.le_refl _, hM⟩, hx02⟩ ?_
  clear hM hA1
  rintro i w3 ⟨hi, ⟨m, hm, hM⟩, hx3⟩
  refine W_keep [(3, .map (some b)), (8, .slice p os.length c), (9, .int .i64 (os.length : Int)), (10, .int .i64 (i : Int))] ⟨rfl, rfl, rfl, rfl, trivial⟩ ?_
  by_cases hlt : i < os.length
  rotate_left
  · have e1 : os.take i = os := List.take_of_length_le (by omega)
    rw [e1] at hM
    repeat' (first | (apply G_on; exact rfl; first | ((first | apply G1_assign | apply G1_move); exact rfl; exact rfl) | (apply G1_lss; exact rfl; exact rfl; exact rfl)) | apply G_nil | apply Post_next | apply W_seq | apply W_region | (apply W_cond_dec; exact rfl; all_goals (intro h; try (exfalso; omega))) | apply W_exit | apply W_ret | apply Post_then_exit | apply Post_block_exit)
    all_goals try (exfalso; omega)
    refine Post_ret Tryz.results29 ⟨_, _, rfl, rfl, rfl⟩ ?_
    exact ⟨b, m, rfl, by omega, by omega, hM, (by repeat first | assumption | exact Ext.rfl' | apply Ext.drew | apply Ext.alloc | refine Ext.trans ?_ (by assumption))⟩
  obtain ⟨o, ho⟩ := get_some hlt
  have hS3 := hO.ext hx3
  have hbl := hM.lt
  have hok1 := hk o (List.mem_of_getElem? ho)
  repeat' (first | (apply G_on; exact rfl; first | (apply G1_lss; exact rfl; exact rfl; exact rfl) | (apply G1_indexAddrN; exact T.s41; exact rfl; exact rfl; (first | assumption | exact Sl.ok (by assumption) | exact (Own.sl (by assumption)).ok); omega; exact rfl) | (apply G1_loadEl; exact T.a40; exact rfl; assumption; assumption; exact rfl; exact rfl)) | apply G_nil | apply Post_next | apply W_seq | apply W_region | (apply W_cond_dec; exact rfl; all_goals (intro h; try (exfalso; omega))) | apply W_skip | apply W_block)
  all_goals try (exfalso; omega)
  apply G_on; exact rfl; apply G1_alloc; exact T.zero40; exact rfl; exact rfl; intro a5 w5 ha5 hA5 hx5 hs5
  replace hS3 := hS3.ext hx5
  replace hM := hM.ext hx5
  skip
  apply G_on; exact rfl; apply G1_storeB; exact T.z40; exact rfl; exact rfl; exact hA5; exact rfl; exact rfl; (first | exact Nat.le_of_ble_eq_true rfl | (focus (simp [Value.cells]; done))); (first | exact Enc.one _ _ | (focus (simp [Value.oneCell']; done)) | (focus (simp [Value.cells, Value.oneCell']; done)) | exact Enc.oneAgg _ _); exact rfl; (first | exact .inl rfl | exact .inr (by simp [exempt])); exact rfl; intro w6 hA6 hg6 hs6
  replace hA6 : Blk w6.heap a5 40 (eOp.enc o) := hA6
  replace hM := hM.kept hg6 (fun e => by injection e; omega)
  have hx36 : Ext w3 w6 := hx5.own hg6 (fun k hk => by injection hk; omega)
  have hx06 : Ext w w6 := hx3.trans hx36
  have hof := fun w' => of_spec o w'
  have hkey := wrF_key hok1
  have hst := wrF_step (fun _ => none) os i o ho
  have f0 : (eOp.enc o)[0]? = some (.bool o.w) := rfl
  have hMx := fun (w' : World) (hx : Ext w6 w') => hM.ext hx
  repeat' (first | (apply G_on; exact rfl; first | (apply G1_move; exact rfl; exact rfl) | (apply G1_call (f := 35); exact rfl; exact rfl; exact rfl; exact hof _; rintro _ w7 ⟨rfl, hx7⟩; refine ⟨(by first | exact .inl rfl | exact .inr (by assumption)), ?_⟩; (first | replace hA6 := hA6.ext hx7 | replace hA6 := hA6.ext ((Ext.drew Ext.rfl').trans hx7))) | (apply G1_putV (m := m); exact Tryz.underlying82; exact kStr; exact rfl; exact rfl; exact rfl; exact hkey; exact Nat.lt_of_le_of_lt (m := 1000) (by omega) (by decide); exact hMx _ (by repeat first | assumption | exact Ext.rfl' | apply Ext.drew | apply Ext.alloc | refine Ext.trans ?_ (by assumption)); exact rfl; exact rfl; exact rfl; intro w8 hM8 hg8) | (apply G1_fieldAddr; (first | exact T.f40_0 | exact T.f40_1); exact rfl; exact rfl) | (apply G1_loadB; (first | exact T.p4 | exact T.p9); exact rfl; assumption; exact rfl; exact rfl) | (apply G1_loadBAgg; exact T.a40; exact rfl; assumption; exact rfl; exact rfl) | (apply G1_add; exact rfl; exact rfl; omega; omega; exact rfl)) | apply G_nil | apply Post_next | apply W_seq | apply W_region | (apply W_cond; exact rfl; all_goals intro h) | refine W_drawn 1 [] [0,1,2,3,4,5] mixed (by decide +kernel) ?_ | apply W_skip | apply Post_block_normal)
  · rw [if_pos h] at hst
    have hx67 : Ext w6 w7 := (by repeat first | assumption | exact Ext.rfl' | apply Ext.drew | apply Ext.alloc | refine Ext.trans ?_ (by assumption))
    have hx78 : Ext w w8 := (hx06.trans hx67).own hg8 (fun k hk => by injection hk with hk; omega)
    rw [← hst] at hM8
    exact Post_round (i + 1) ⟨rfl, rfl, rfl, rfl, trivial⟩ ⟨hlt, ⟨m + 1, by omega, hM8⟩, hx78⟩ (by omega)
  · rw [if_neg (by rw [h]; decide)] at hst
    rw [← hst] at hM
    exact Post_round (i + 1) ⟨rfl, rfl, rfl, rfl, trivial⟩ ⟨hlt, ⟨m, by omega, hM.ext (by repeat first | assumption | exact Ext.rfl' | apply Ext.drew | apply Ext.alloc | refine Ext.trans ?_ (by assumption))⟩, (by repeat first | assumption | exact Ext.rfl' | apply Ext.drew | apply Ext.alloc | refine Ext.trans ?_ (by assumption))⟩ (by omega)
end Go.Proofs.YtipbakiecocioaaGreatDoor

/- Audit: the committed transactions, in order. -/

namespace Go.V
/-- 0, 1, .. -/
def numsI (n : Nat) : List Int := (List.range n).map (fun k : Nat => (k : Int))
theorem numsI_len (n : Nat) : (numsI n).length = n := by simp [numsI]
theorem numsI_get {n i : Nat} (h : i < n) : (numsI n)[i]? = some (i : Int) := by simp [numsI, h]
theorem numsI_snoc (n : Nat) : numsI (n + 1) = numsI n ++ [(n : Int)] := by simp [numsI, List.range_succ]
def cmp3 (a b : Int) : Int := if a < b then -1 else if b < a then 1 else 0
end Go.V
namespace Go.Proofs.YtipbakiecocioaaGreatDoor
open Go.V
attribute [local irreducible] Blk Own hcell IntT SliceT PlainT AggT SizeT StrT FieldT ZeroT EqT ArrT
theorem nan30 {a : Int} {w : World} : Ctr Tryz.prog 90 [.int .i64 a] w (fun v w' => v = .bool false ∧ Ext w w') := by
  refine Ctr_of Tryz.func90 Tryz.ntmps90 rfl rfl rfl ?_
  repeat' (first | (apply G_on; exact rfl; first | ((first | apply G1_assign | apply G1_move); exact rfl; exact rfl) | (apply G1_neq; exact rfl; exact rfl; exact rfl)) | apply G_nil | apply Post_next | apply W_seq | apply W_region | apply W_ret)
  refine Post_ret Tryz.results90 ⟨_, _, rfl, rfl, rfl⟩ ?_
  exact ⟨by show Value.bool _ = _; congr 1; simp, (by repeat first | assumption | exact Ext.rfl' | apply Ext.drew | apply Ext.alloc | refine Ext.trans ?_ (by assumption))⟩
theorem cmp30 {a b : Int} {w : World} : Ctr Tryz.prog 66 [.int .i64 a, .int .i64 b] w (fun v w' => v = .int .i64 (cmp3 a b) ∧ Ext w w') := by
  refine Ctr_of Tryz.func66 Tryz.ntmps66 rfl rfl rfl ?_
  repeat' (first | (apply G_on; exact rfl; first | ((first | apply G1_assign | apply G1_move); exact rfl; exact rfl) | (apply G1_call (f := 90); exact rfl; exact rfl; exact rfl; exact nan30; rintro _ w2 ⟨rfl, hx2⟩; refine ⟨(by first | exact .inl rfl | exact .inr (by assumption)), ?_⟩) | ((first | apply G1_lss | apply G1_gtr); exact rfl; exact rfl; exact rfl)) | apply G_nil | apply Post_next | apply W_seq | apply W_region | (apply W_cond_false; exact rfl) | (apply W_cond_dec; exact rfl; all_goals (intro h; try (exfalso; omega))) | apply W_skip | apply W_ret | apply Post_then_ret)
  all_goals
    refine Post_ret Tryz.results66 ⟨_, _, rfl, rfl, rfl⟩ ?_
    refine ⟨?_, (by repeat first | assumption | exact Ext.rfl' | apply Ext.drew | apply Ext.alloc | refine Ext.trans ?_ (by assumption))⟩
    show Value.int .i64 _ = _
    congr 1
    unfold cmp3
    simp [*]
theorem com1_spec {a1 : Nat} {p : Option Addr} {c : Nat} {rs : List RawH} {xs : List TxD} {i j : Nat} {w : World} (hA : Blk w.heap a1 38 [.slice p rs.length c]) (hH : HistsAt w.heap p c rs xs) (hi : i < rs.length) (hj : j < rs.length) :
    Ctr Tryz.prog 65 [.int .i64 (i : Int), .int .i64 (j : Int), .pointer (some (adr (bx a1) 0))] w (fun v w' => v = .int .i64 (cmp3 (i : Int) (j : Int)) ∧ Ext w w') := by
  have hok := hH.sl.ok
  have hlen := hH.len
  have hbd := hH.sl.bound
  obtain ⟨r, hr⟩ := get_some hi
  obtain ⟨s, hs⟩ := get_some hj
  obtain ⟨x, hx⟩ := get_some (xs := xs) (k := i) (by omega)
  obtain ⟨y, hy⟩ := get_some (xs := xs) (k := j) (by omega)
  have e1 := (hH.get i r x hr hx).com
  have e2 := (hH.get j s y hs hy).com
  have f1 : (eHist.enc r)[2]? = some (.int .i64 ((i : Int) + 1)) := by rw [← e1]; rfl
  have f2 : (eHist.enc s)[2]? = some (.int .i64 ((j : Int) + 1)) := by rw [← e2]; rfl
  have hcc := fun w' => @cmp30 ((i : Int) + 1) ((j : Int) + 1) w'
  have hc3 : cmp3 ((i : Int) + 1) ((j : Int) + 1) = cmp3 (i : Int) (j : Int) := by unfold cmp3; split <;> split <;> (try omega) <;> (try split) <;> omega
  simp only [hc3] at hcc
  refine Ctr_of Tryz.func65 Tryz.ntmps65 rfl rfl rfl ?_
  repeat' (first | (apply G_on; exact rfl; first | ((first | apply G1_assign | apply G1_move); exact rfl; exact rfl) | (apply G1_indexAddrJ (q := i); exact T.s38; exact rfl; exact rfl; exact rfl; exact hok; omega; exact rfl) | (apply G1_indexAddrJ (q := j); exact T.s38; exact rfl; exact rfl; exact rfl; exact hok; omega; exact rfl) | (apply G1_loadB; exact T.p38; exact rfl; exact hA.ext (by repeat first | assumption | exact Ext.rfl' | apply Ext.drew | apply Ext.alloc | refine Ext.trans ?_ (by assumption)); exact rfl; exact rfl) | (apply G1_loadFld (e := eHist) (q := i) (off := 2); exact T.p3; exact rfl; exact hH.sl.ext (by repeat first | assumption | exact Ext.rfl' | apply Ext.drew | apply Ext.alloc | refine Ext.trans ?_ (by assumption)); exact hr; exact rfl; exact f1; exact rfl) | (apply G1_loadFld (e := eHist) (q := j) (off := 2); exact T.p3; exact rfl; exact hH.sl.ext (by repeat first | assumption | exact Ext.rfl' | apply Ext.drew | apply Ext.alloc | refine Ext.trans ?_ (by assumption)); exact hs; exact rfl; exact f2; exact rfl) | (apply G1_call (f := 66); exact rfl; exact rfl; exact rfl; exact hcc _; rintro _ w3 ⟨rfl, hx3⟩; refine ⟨(by first | exact .inl rfl | exact .inr (by assumption)), ?_⟩) | (apply G1_fieldAddr; exact T.f43_2; exact rfl; exact rfl)) | apply G_nil | apply Post_next | apply W_seq | apply W_region | refine W_drawn 1 [] [0,1,2,3,4,5,6,7,8,9,10,11] mixed (by decide +kernel) ?_ | apply W_ret)
  refine Post_ret Tryz.results65 ⟨_, _, rfl, rfl, rfl⟩ ?_
  exact ⟨rfl, (by repeat first | assumption | exact Ext.rfl' | apply Ext.drew | apply Ext.alloc | refine Ext.trans ?_ (by assumption))⟩
/-- insertion sort of a row in order turns nothing -/
theorem isort30 {fc : FuncId} {cap : Array Value} {p : Option Addr} {c a b n : Nat} {w : World} (hS : Sl w.heap eInt p c (numsI n)) (ha : a ≤ b) (hb : b ≤ n) (hn : n ≤ 1000)
    (hc : ∀ (j : Nat) w', j + 1 < n → Ext w w' → Ctr Tryz.prog fc ([] ++ [.int .i64 ((j + 1 : Nat) : Int), .int .i64 (j : Int)] ++ cap.toList) w' (fun v w'' => v = .int .i64 1 ∧ Ext w' w'')) :
    Ctr Tryz.prog 117 [.slice p n c, .int .i64 (a : Int), .int .i64 (b : Int), .func (.func fc) #[] cap] w (fun _ w' => Ext w w') := by
  have hok := hS.ok
  rw [numsI_len] at hok
  refine Ctr_of Tryz.func117 Tryz.ntmps117 rfl rfl rfl ?_
  repeat' (first | (apply G_on; exact rfl; first | ((first | apply G1_move | apply G1_assign); exact rfl; exact rfl) | (apply G1_add; exact rfl; exact rfl; omega; omega; exact rfl)) | apply G_nil | apply Post_next | apply W_seq | apply W_region | apply W_block)
  refine W_loop (ι := Nat) (fun y => [(0, .slice p n c), (1, .int .i64 (a : Int)), (2, .int .i64 (b : Int)), (3, .func (.func fc) #[] cap), (8, .int .i64 ((y : Int) + 1))])
    (fun y w' => a ≤ y ∧ (y + 1 ≤ b ∨ y = a) ∧ Ext w w') (fun y => b - y) a ⟨rfl, rfl, rfl, rfl, rfl, trivial⟩ ⟨Nat.le_refl _, .inr rfl, (by repeat first | assumption | exact Ext.rfl' | apply Ext.drew | apply Ext.alloc | refine Ext.trans ?_ (by assumption))⟩ ?_
  rintro y w2 ⟨h1, h2, hx2⟩
  refine W_keep [(0, .slice p n c), (1, .int .i64 (a : Int)), (2, .int .i64 (b : Int)), (3, .func (.func fc) #[] cap), (8, .int .i64 ((y : Int) + 1))] ⟨rfl, rfl, rfl, rfl, rfl, trivial⟩ ?_
  by_cases hlt : y + 1 < b
  rotate_left
  · repeat' (first | (apply G_on; exact rfl; first | (apply G1_move; exact rfl; exact rfl) | (apply G1_lss; exact rfl; exact rfl; exact rfl)) | apply G_nil | apply Post_next | apply W_seq | apply W_region | (apply W_cond_dec; exact rfl; all_goals (intro h; try (exfalso; omega))) | apply W_exit | apply Post_then_exit | apply Post_block_exit)
    all_goals try (exfalso; omega)
    refine Post_end Tryz.results117 (vs := []) rfl ?_
    exact (by repeat first | assumption | exact Ext.rfl' | apply Ext.drew | apply Ext.alloc | refine Ext.trans ?_ (by assumption))
  have hg1 : (numsI n)[y + 1]? = some ((y + 1 : Nat) : Int) := numsI_get (by omega)
  have hg0 : (numsI n)[y]? = some (y : Int) := numsI_get (by omega)
  have hcc := fun w' (hx : Ext w w') => hc y w' (by omega) hx
  have e1 : ((y + 1 : Nat) : Int) = (y : Int) + 1 := by omega
  have e2 : ((y + 1 : Nat) : Int) - 1 = (y : Int) := by omega
  repeat' (first | (apply G_on; exact rfl; first | ((first | apply G1_move | apply G1_assign); exact rfl; exact rfl) | (apply G1_lss; exact rfl; exact rfl; exact rfl)) | apply G_nil | apply Post_next | apply W_seq | apply W_region | (apply W_cond_dec; exact rfl; all_goals (intro h; try (exfalso; omega))) | apply W_skip | apply W_block)
  all_goals try (exfalso; omega)
  refine W_loop (ι := Unit) (fun _ => [(0, .slice p n c), (1, .int .i64 (a : Int)), (2, .int .i64 (b : Int)), (3, .func (.func fc) #[] cap), (8, .int .i64 ((y : Int) + 1)), (9, .int .i64 ((y : Int) + 1))])
    (fun _ w' => Ext w w') (fun _ => 0) () ⟨rfl, rfl, rfl, rfl, rfl, rfl, trivial⟩ (by repeat first | assumption | exact Ext.rfl' | apply Ext.drew | apply Ext.alloc | refine Ext.trans ?_ (by assumption)) ?_
  rintro _ w3 hx3
  repeat' (first | (apply G_on; exact rfl; first | ((first | apply G1_move | apply G1_assign); exact rfl; exact rfl) | (apply G1_indexAddrJ (q := y + 1); exact T.s73; exact rfl; exact rfl; omega; exact hok; omega; exact rfl) | (apply G1_indexAddrJ (q := y); exact T.s73; exact rfl; exact rfl; omega; exact hok; omega; exact rfl) | (apply G1_loadEl1 (e := eInt) (q := y + 1); exact T.p3; exact rfl; exact hS.ext (by repeat first | assumption | exact Ext.rfl' | apply Ext.drew | apply Ext.alloc | refine Ext.trans ?_ (by assumption)); exact hg1; exact rfl; exact rfl; exact rfl) | (apply G1_loadEl1 (e := eInt) (q := y); exact T.p3; exact rfl; exact hS.ext (by repeat first | assumption | exact Ext.rfl' | apply Ext.drew | apply Ext.alloc | refine Ext.trans ?_ (by assumption)); exact hg0; exact rfl; exact rfl; exact rfl) | (apply G1_callv; exact rfl; exact rfl; exact rfl; exact rfl; exact hcc _ (by repeat first | assumption | exact Ext.rfl' | apply Ext.drew | apply Ext.alloc | refine Ext.trans ?_ (by assumption)); rintro _ w4 ⟨rfl, hx4⟩; refine ⟨(by first | exact .inl rfl | exact .inr hx4), ?_⟩) | (apply G1_add; exact rfl; exact rfl; omega; omega; exact rfl) | ((first | apply G1_lss | apply G1_gtr); exact rfl; exact rfl; exact rfl) | (apply G1_sub; exact rfl; exact rfl; omega; omega; exact rfl) | (apply G1_pick_t; exact rfl; exact rfl; exact rfl)) | apply G_nil | apply Post_next | apply W_seq | apply W_region | (apply W_cond_false; exact rfl) | ((fail_if_success (apply G_on; exact rfl)); apply G_split_dec; exact rfl; exact rfl; all_goals (intro h; try (exfalso; omega))) | refine W_drawn 1 [] [0,1,2,3,4,5,6,7,8,9,10,11,12,13,14,15,16] mixed (by decide +kernel) ?_ | apply W_exit | apply Post_then_exit | apply Post_block_exit | apply Post_block_normal)
  all_goals try (exfalso; omega)
  exact Post_round (y + 1) ⟨rfl, rfl, rfl, rfl, by first | rfl | (show some (Value.int .i64 _) = some (Value.int .i64 _); congr 2), trivial⟩ ⟨by omega, .inl (by omega), (by repeat first | assumption | exact Ext.rfl' | apply Ext.drew | apply Ext.alloc | refine Ext.trans ?_ (by assumption))⟩ (by omega)
theorem sstable30 {fc : FuncId} {cap : Array Value} {p : Option Addr} {c n : Nat} {w : World} (hS : Sl w.heap eInt p c (numsI n)) (hn : n ≤ 20)
    (hc : ∀ (j : Nat) w', j + 1 < n → Ext w w' → Ctr Tryz.prog fc ([] ++ [.int .i64 ((j + 1 : Nat) : Int), .int .i64 (j : Int)] ++ cap.toList) w' (fun v w'' => v = .int .i64 1 ∧ Ext w' w'')) :
    Ctr Tryz.prog 89 [.slice p n c, .int .i64 (n : Int), .func (.func fc) #[] cap] w (fun _ w' => Ext w w') := by
  have his := fun (a b : Nat) w' (h1 : a ≤ b) (h2 : b ≤ n) (hx : Ext w w') => isort30 (a := a) (b := b) (hS.ext hx) h1 h2 (by omega) (fun j w'' hj hy => hc j w'' hj (hx.trans hy))
  refine Ctr_of Tryz.func89 Tryz.ntmps89 rfl rfl rfl ?_
  repeat' (first | (apply G_on; exact rfl; ((first | apply G1_assign | apply G1_move); exact rfl; exact rfl)) | apply G_nil | apply Post_next | apply W_seq | apply W_region | apply W_block)
  refine W_loop (ι := Nat) (fun y => [(0, .slice p n c), (1, .int .i64 (n : Int)), (2, .func (.func fc) #[] cap), (6, .int .i64 20), (7, .int .i64 ((20 * y : Nat) : Int)), (8, .int .i64 ((20 * y + 20 : Nat) : Int))])
    (fun y w' => 20 * y ≤ n ∧ Ext w w') (fun y => n - y) 0 ⟨rfl, rfl, rfl, rfl, rfl, rfl, trivial⟩ ⟨by omega, (by repeat first | assumption | exact Ext.rfl' | apply Ext.drew | apply Ext.alloc | refine Ext.trans ?_ (by assumption))⟩ ?_
  rintro y w2 ⟨h1, hx2⟩
  refine W_keep [(0, .slice p n c), (1, .int .i64 (n : Int)), (2, .func (.func fc) #[] cap), (6, .int .i64 20), (7, .int .i64 ((20 * y : Nat) : Int)), (8, .int .i64 ((20 * y + 20 : Nat) : Int))] ⟨rfl, rfl, rfl, rfl, rfl, rfl, trivial⟩ ?_
  by_cases hlt : 20 * y + 20 ≤ n
  · repeat' (first | (apply G_on; exact rfl; first | ((first | apply G1_assign | apply G1_move); exact rfl; exact rfl) | (apply G1_call (f := 117); exact rfl; exact rfl; exact rfl; exact his (20 * y) (20 * y + 20) _ (by omega) (by omega) hx2; rintro _ w3 hx3; refine ⟨(by first | exact .inl rfl | exact .inr (by assumption)), ?_⟩) | (apply G1_leq; exact rfl; exact rfl; exact rfl) | (apply G1_add; exact rfl; exact rfl; omega; omega; exact rfl)) | apply G_nil | apply Post_next | apply W_seq | apply W_region | (apply W_cond_dec; exact rfl; all_goals (intro h; try (exfalso; omega))) | apply W_skip | apply W_block | apply Post_block_normal)
    all_goals try (exfalso; omega)
    exact Post_round (y + 1) ⟨rfl, rfl, rfl, rfl, rfl, by first | rfl | (show some (Value.int .i64 _) = some (Value.int .i64 _); congr 2; omega), trivial⟩ ⟨by omega, (by repeat first | assumption | exact Ext.rfl' | apply Ext.drew | apply Ext.alloc | refine Ext.trans ?_ (by assumption))⟩ (by omega)
  repeat' (first | (apply G_on; exact rfl; first | (apply G1_move; exact rfl; exact rfl) | (apply G1_call (f := 117); exact rfl; exact rfl; exact rfl; exact his (20 * y) n _ (by omega) (by omega) hx2; rintro _ w3 hx3; refine ⟨(by first | exact .inl rfl | exact .inr (by assumption)), ?_⟩) | (apply G1_leq; exact rfl; exact rfl; exact rfl)) | apply G_nil | apply Post_next | apply W_seq | apply W_region | (apply W_cond_dec; exact rfl; all_goals (intro h; try (exfalso; omega))) | apply W_exit | apply W_block | apply Post_then_exit | apply Post_block_exit)
  all_goals try (exfalso; omega)
  refine W_loop (ι := Unit) (fun _ => [(1, .int .i64 (n : Int)), (6, .int .i64 20)]) (fun _ w' => Ext w w') (fun _ => 0) () ⟨rfl, rfl, trivial⟩ (by repeat first | assumption | exact Ext.rfl' | apply Ext.drew | apply Ext.alloc | refine Ext.trans ?_ (by assumption)) ?_
  rintro _ w4 hx4
  repeat' (first | (apply G_on; exact rfl; first | (apply G1_move; exact rfl; exact rfl) | (apply G1_lss; exact rfl; exact rfl; exact rfl)) | apply G_nil | apply Post_next | apply W_seq | apply W_region | (apply W_cond_dec; exact rfl; all_goals (intro h; try (exfalso; omega))) | apply W_exit | apply Post_then_exit | apply Post_block_exit)
  all_goals try (exfalso; omega)
  refine Post_end Tryz.results89 (vs := []) rfl ?_
  exact (by repeat first | assumption | exact Ext.rfl' | apply Ext.drew | apply Ext.alloc | refine Ext.trans ?_ (by assumption))
theorem sortst30 {fc : FuncId} {cap : Array Value} {p : Option Addr} {c n : Nat} {w : World} (hS : Sl w.heap eInt p c (numsI n)) (hn : n ≤ 20)
    (hc : ∀ (j : Nat) w', j + 1 < n → Ext w w' → Ctr Tryz.prog fc ([] ++ [.int .i64 ((j + 1 : Nat) : Int), .int .i64 (j : Int)] ++ cap.toList) w' (fun v w'' => v = .int .i64 1 ∧ Ext w' w'')) :
    Ctr Tryz.prog 64 [.slice p n c, .func (.func fc) #[] cap] w (fun _ w' => Ext w w') := by
  have hs := fun w' (hx : Ext w w') => sstable30 (hS.ext hx) hn (fun j w'' hj hy => hc j w'' hj (hx.trans hy))
  refine Ctr_of Tryz.func64 Tryz.ntmps64 rfl rfl rfl ?_
  repeat' (first | (apply G_on; exact rfl; first | (apply G1_move; exact rfl; exact rfl) | (apply G1_call (f := 89); exact rfl; exact rfl; exact rfl; exact hs _ (by repeat first | assumption | exact Ext.rfl' | apply Ext.drew | apply Ext.alloc | refine Ext.trans ?_ (by assumption)); rintro _ w3 hx3; refine ⟨(by first | exact .inl rfl | exact .inr (by assumption)), ?_⟩) | (apply G1_len; exact T.s73; exact rfl; exact rfl)) | apply G_nil | apply W_region)
  refine Post_end Tryz.results64 (vs := []) rfl ?_
  exact (by repeat first | assumption | exact Ext.rfl' | apply Ext.drew | apply Ext.alloc | refine Ext.trans ?_ (by assumption))
theorem committed_spec {p : Option Addr} {c : Nat} {rs : List RawH} {xs : List TxD} {w : World} (hH : HistsAt w.heap p c rs xs) (hl : rs.length ≤ 20) :
    Ctr Tryz.prog 28 [.slice p rs.length c] w (fun v w' => ∃ q d, v = .slice q rs.length d ∧ Own w' w.heap.size 3 eInt q d (numsI rs.length) ∧ Ext w w') := by
  have hok := hH.sl.ok
  have hlen := hH.len
  refine Ctr_of Tryz.func28 Tryz.ntmps28 rfl rfl rfl ?_
  repeat' (first | apply W_seq | apply W_region)
  apply G_on; exact rfl; apply G1_box; exact rfl; exact rfl; exact rfl; intro a1 w1 ha1 hA1 hx1 hs1
  replace hA1 : Blk w1.heap a1 38 [.slice p rs.length c] := hA1
  repeat' (first | (apply G_on; exact rfl; first | ((first | apply G1_assign | apply G1_move); exact rfl; exact rfl) | (apply G1_loadB; exact T.p38; exact rfl; assumption; exact rfl; exact rfl) | (apply G1_len; exact T.s38; exact rfl; exact rfl)) | apply G_nil | apply Post_next | apply W_seq | apply W_region | apply W_block)
  refine W_loop (ι := Nat × Option Addr × Nat) (fun y => [(1, .pointer (some (adr (bx a1) 0))), (3, .slice y.2.1 y.1 y.2.2), (6, .slice p rs.length c), (7, .int .i64 (rs.length : Int)), (8, .int .i64 (y.1 : Int))])
    (fun y w' => y.1 ≤ rs.length ∧ Own w' w.heap.size 3 eInt y.2.1 y.2.2 (numsI y.1) ∧ Blk w'.heap a1 38 [.slice p rs.length c] ∧ Ext w w') (fun y => rs.length - y.1) (0, none, 0) ⟨rfl, rfl, rfl, rfl, rfl, trivial⟩ ⟨Nat.zero_le _, Own.nil _ _ _ _, hA1, (by repeat first | assumption | exact Ext.rfl' | apply Ext.drew | apply Ext.alloc | refine Ext.trans ?_ (by assumption))⟩ ?_
  clear hA1
  rintro ⟨i, q, d⟩ w2 ⟨hi, hO, hA1, hx2⟩
  simp only at hi hO
  have hnl := numsI_len i
  refine W_keep [(1, .pointer (some (adr (bx a1) 0))), (3, .slice q i d), (6, .slice p rs.length c), (7, .int .i64 (rs.length : Int)), (8, .int .i64 (i : Int))] ⟨rfl, rfl, rfl, rfl, rfl, trivial⟩ ?_
  by_cases hlt : i < rs.length
  rotate_left
  · obtain rfl : i = rs.length := by omega
    have hcm := fun (j : Nat) w' (hj : j + 1 < rs.length) (hx : Ext w2 w') => com1_spec (i := j + 1) (j := j) (hA1.ext hx) (hH.ext (hx2.trans hx)) hj (by omega)
    have h31 : ∀ j : Nat, cmp3 ((j + 1 : Nat) : Int) (j : Int) = 1 := fun j => by unfold cmp3; rw [if_neg (by omega), if_pos (by omega)]
    simp only [h31] at hcm
    have hso := fun w' (hx : Ext w2 w') => sortst30 (fc := 65) (cap := #[.pointer (some (adr (bx a1) 0))]) (hO.sl.ext hx) hl (fun j w'' hj hy => hcm j w'' hj (hx.trans hy))
    repeat' (first | (apply G_on; exact rfl; first | ((first | apply G1_assign | apply G1_move | apply G1_makeFunc); exact rfl; exact rfl) | (apply G1_call (f := 64); exact rfl; exact rfl; exact rfl; exact hso _ (by repeat first | assumption | exact Ext.rfl' | apply Ext.drew | apply Ext.alloc | refine Ext.trans ?_ (by assumption)); rintro _ w3 hx3; refine ⟨(by first | exact .inl rfl | exact .inr (by assumption)), ?_⟩) | (apply G1_lss; exact rfl; exact rfl; exact rfl)) | apply G_nil | apply Post_next | apply W_seq | apply W_region | (apply W_cond_dec; exact rfl; all_goals (intro h; try (exfalso; omega))) | apply W_exit | apply W_ret | apply Post_then_exit | apply Post_block_exit)
    all_goals try (exfalso; omega)
    refine Post_ret Tryz.results28 ⟨_, _, rfl, rfl, rfl⟩ ?_
    exact ⟨q, d, rfl, hO.ext (by repeat first | assumption | exact Ext.rfl' | apply Ext.drew | apply Ext.alloc | refine Ext.trans ?_ (by assumption)), (by repeat first | assumption | exact Ext.rfl' | apply Ext.drew | apply Ext.alloc | refine Ext.trans ?_ (by assumption))⟩
  obtain ⟨r, hr⟩ := get_some hlt
  obtain ⟨x, hx⟩ := get_some (xs := xs) (k := i) (by omega)
  have hcom := (hH.get i r x hr hx).com
  have hS2 := hH.sl.ext hx2
  repeat' (first | (apply G_on; exact rfl; first | (apply G1_move; exact rfl; exact rfl) | (apply G1_lss; exact rfl; exact rfl; exact rfl) | (apply G1_indexAddrN; exact T.s38; exact rfl; exact rfl; (first | assumption | exact Sl.ok (by assumption) | exact (Own.sl (by assumption)).ok); omega; exact rfl) | (apply G1_loadEl; exact T.a43; exact rfl; assumption; assumption; exact rfl; exact rfl)) | apply G_nil | apply Post_next | apply W_seq | apply W_region | (apply W_cond_dec; exact rfl; all_goals (intro h; try (exfalso; omega))) | apply W_skip | apply W_block)
  all_goals try (exfalso; omega)
  have hl1 := hA1.lt
  apply G_on; exact rfl; apply G1_alloc; exact T.zero43; exact rfl; exact rfl; intro a5 w5 ha5 hA5 hx5 hs5
  replace hS2 := hS2.ext hx5
  replace hO := hO.ext hx5
  replace hA1 := hA1.ext hx5
  repeat' (apply G_on; exact rfl; (apply G1_assign; exact rfl; exact rfl))
  apply G_on; exact rfl; apply G1_storeB; exact T.z43; exact rfl; exact rfl; exact hA5; exact rfl; exact rfl; (first | exact Nat.le_of_ble_eq_true rfl | (focus (simp [Value.cells]; done))); (first | exact Enc.one _ _ | (focus (simp [Value.oneCell']; done)) | (focus (simp [Value.cells, Value.oneCell']; done)) | exact Enc.oneAgg _ _); exact rfl; (first | exact .inl rfl | exact .inr (by simp [exempt])); exact rfl; intro w6 hA6 hg6 hs6
  replace hA6 : Blk w6.heap a5 43 (eHist.enc r) := hA6
  replace hO := hO.kept hg6 (fun y hy e => hO.neB hA5 (by decide) (by rw [hy]; exact e.symm))
  replace hA1 := hA1.grown hg6 (fun e => by injection e with e; omega)
  have hx26 : Ext w2 w6 := hx5.own hg6 (fun k hk => by injection hk; omega)
  have hx06 : Ext w w6 := hx2.trans hx26
  have f2 : (eHist.enc r)[2]? = some (.int .i64 r.com) := rfl
  repeat' (first | (apply G_on; exact rfl; first | (apply G1_move; exact rfl; exact rfl) | (apply G1_loadB; exact T.p3; exact rfl; assumption; exact rfl; exact rfl) | (apply G1_gtr; exact rfl; exact rfl; exact rfl) | (apply G1_fieldAddr; exact T.f43_2; exact rfl; exact rfl)) | apply G_nil | apply Post_next | apply W_seq | apply W_region | (apply W_cond_dec; exact rfl; all_goals (intro h; try (exfalso; omega))))
  all_goals try (exfalso; omega)
  apply G_on; exact rfl
  apply G1_build1 eInt (i : Int); exact T.s73; exact rfl; exact rfl; exact rfl; decide; exact rfl; exact rfl
  intro p7 w7 hp7 hs7 _ hx7 hz7
  replace hO := hO.ext hx7
  replace hA1 := hA1.ext hx7
  have hge := hO.ge
  have hb0 : w.heap.size ≤ w7.heap.size := (hx06.trans hx7).size
  repeat' (first | (apply G_on; exact rfl; first | ((first | apply G1_assign | apply G1_move); exact rfl; exact rfl) | (apply G1_appendA (xs := numsI i) (ys := [(i : Int)]); exact T.s73; (rw [hnl]; exact rfl); exact rfl; exact hO; exact hs7; exact rfl; omega; (simp only [List.length_cons, List.length_nil]; omega); (simp only [List.length_cons, List.length_nil]; omega); exact rfl; exact rfl; exact rfl; intro p8 c8 w8 ha8) | (apply G1_add; exact rfl; exact rfl; omega; omega; exact rfl)) | apply G_nil | apply Post_next | apply W_region | apply Post_block_normal)
  rw [← numsI_snoc] at ha8
  have hx08 : Ext w w8 := (hx06.trans hx7).own ha8.grown (fun k hk => (hge k hk).1)
  have e9 : ((i + 1 : Nat) : Int) = (i : Int) + 1 := by omega
  exact Post_round (i + 1, p8, c8) ⟨rfl, by show some (Value.slice p8 (numsI i ++ [(i : Int)]).length c8) = some (.slice p8 (i + 1) c8); rw [← numsI_snoc, numsI_len], rfl, rfl, rfl, trivial⟩ ⟨by simp only []; omega, ha8.own, hA1.grown ha8.grown (fun e => by obtain ⟨k, h1, h2⟩ : ∃ k, blk q = some k ∧ k = a1 := ⟨a1, e, rfl⟩; exact hO.neB hA1 (by decide) e), hx08⟩ (by simp only []; omega)
end Go.Proofs.YtipbakiecocioaaGreatDoor

/- Audit: the rules, at the law's histories: none is broken but the outer one, where the first reading isn't what was written before. -/

namespace Go.V
/-- what all transactions wrote -/
structure WrsOf (ws : List WrD) (xs : List TxD) : Prop where
  len : ws.length = xs.length
  get : ∀ (j : Nat) y, ws[j]? = some y → ∃ x, xs[j]? = some x ∧ y.com = (j : Int) + 1 ∧ y.h = true ∧ y.t = x.t
/-- what the i-th one finds -/
def seenOf (xs : List TxD) (i : Nat) : Bool × ByteArray := if i = 0 then (false, ⟨#[]⟩) else (true, ((xs[i - 1]?).map (·.t)).getD ⟨#[]⟩)
def badAt (xs : List TxD) (i : Nat) (x : TxD) : Bool := !((x.rh == (seenOf xs i).1) && decide (x.rt = (seenOf xs i).2))
abbrev pastV (bk bc bs : Nat) : Value := .agg #[.map (some bk), .map (some bc), .map (some bs)]
abbrev histV (r : RawH) : Value := .agg #[.int .i64 r.ses, .int .i64 r.start, .int .i64 r.com, .slice r.p r.n r.c]
theorem sK_size : sK.size ≤ maxLen := by decide
theorem opsOf_len (x : TxD) : (opsOf x).length = 3 := rfl
end Go.V
namespace Go.Proofs.YtipbakiecocioaaGreatDoor
open Go.V
attribute [local irreducible] Blk Own hcell IntT SliceT PlainT AggT SizeT StrT FieldT ZeroT EqT ArrT
theorem kInt : Maps.Keyed Tryz.prog 3 := Maps.int_keyed Tryz.underlying3
theorem keyI {a : Int} (h1 : -9223372036854775808 ≤ a) (h2 : a ≤ 9223372036854775807) : keyOf Tryz.prog 3 (.int .i64 a) = some (.int .i64 a) := Maps.keyOf_int_mk Tryz.underlying3 (by simp [Lit.wf, IntKind.min, IntKind.max, IntKind.bits, IntKind.signed]; omega)
theorem bld0 (w : World) : (Instr.build 92 ([] : List (Nat × Value)).toArray).run Tryz.prog w = .ok (.agg #[]) w := by kernel_rfl
theorem bldR0 (w : World) : (Instr.build 85 ([] : List (Nat × Value)).toArray).run Tryz.prog w = .ok (.agg #[.bool false, .string ⟨#[]⟩]) w := by kernel_rfl
theorem zero0 : ZeroT Tryz.prog 92 (.agg #[]) := ZeroT.of (by kernel_rfl)
theorem behind1_spec {y : WrD} {st : Int} {w : World} : Ctr Tryz.prog 93 [.agg (eWr.enc y).toArray, .int .i64 st] w (fun v w' => v = .int .i64 (if y.com ≤ st then -1 else 1) ∧ Ext w w') := by
  refine Ctr_of Tryz.func93 Tryz.ntmps93 rfl rfl rfl ?_
  repeat' (first | apply W_seq | apply W_region)
  apply G_on; exact rfl; apply G1_box; exact rfl; exact rfl; exact rfl; intro a1 w1 ha1 hA1 hx1 hs1
  replace hA1 : Blk w1.heap a1 88 [.int .i64 y.com, .bool y.h, .string y.t] := hA1
  repeat' (first | (apply G_on; exact rfl; first | ((first | apply G1_assign | apply G1_move); exact rfl; exact rfl) | (apply G1_fieldAddr; exact T.f88_0; exact rfl; exact rfl) | (apply G1_loadB; exact T.p3; exact rfl; assumption; exact rfl; exact rfl) | (apply G1_leq; exact rfl; exact rfl; exact rfl)) | apply G_nil | apply Post_next | apply W_seq | apply W_region | (apply W_cond_dec; exact rfl; all_goals (intro h; try (exfalso; omega))) | apply W_skip | apply W_ret | apply Post_then_ret)
  · refine Post_ret Tryz.results93 ⟨_, _, rfl, rfl, rfl⟩ ?_
    exact ⟨by rw [if_pos h]; rfl, (by repeat first | assumption | exact Ext.rfl' | apply Ext.drew | apply Ext.alloc | refine Ext.trans ?_ (by assumption))⟩
  · refine Post_ret Tryz.results93 ⟨_, _, rfl, rfl, rfl⟩ ?_
    exact ⟨by rw [if_neg h]; rfl, (by repeat first | assumption | exact Ext.rfl' | apply Ext.drew | apply Ext.alloc | refine Ext.trans ?_ (by assumption))⟩
theorem bsf_spec {q : Option Addr} {d i : Nat} {ws : List WrD} {w : World} (hS : Sl w.heap eWr q d ws) (hc : ∀ (j : Nat) y, ws[j]? = some y → y.com = (j : Int) + 1) (hi : i ≤ ws.length) (hl : ws.length ≤ 1000) :
    Ctr Tryz.prog 92 [.slice q ws.length d, .int .i64 (i : Int), .func (.func 93) #[] #[]] w (fun v w' => v = .tuple #[.int .i64 (i : Int), .bool false] ∧ Ext w w') := by
  have hok := hS.ok
  refine Ctr_of Tryz.func92 Tryz.ntmps92 rfl rfl rfl ?_
  repeat' (first | (apply G_on; exact rfl; first | ((first | apply G1_assign | apply G1_move); exact rfl; exact rfl) | (apply G1_len; exact T.s86; exact rfl; exact rfl)) | apply G_nil | apply Post_next | apply W_seq | apply W_region | apply W_block)
  refine W_loop (ι := Nat × Nat) (fun y => [(0, .slice q ws.length d), (1, .int .i64 (i : Int)), (2, .func (.func 93) #[] #[]), (8, .int .i64 (ws.length : Int)), (9, .int .i64 (y.1 : Int)), (10, .int .i64 (y.2 : Int))])
    (fun y w' => y.1 ≤ i ∧ i ≤ y.2 ∧ y.2 ≤ ws.length ∧ Ext w w') (fun y => y.2 - y.1) (0, ws.length) ⟨rfl, rfl, rfl, rfl, rfl, rfl, trivial⟩ ⟨Nat.zero_le _, hi, Nat.le_refl _, (by repeat first | assumption | exact Ext.rfl' | apply Ext.drew | apply Ext.alloc | refine Ext.trans ?_ (by assumption))⟩ ?_
  rintro ⟨lo, hh⟩ w1 ⟨h1, h2, h3, hx1⟩
  simp only at h1 h2 h3
  refine W_keep [(0, .slice q ws.length d), (1, .int .i64 (i : Int)), (2, .func (.func 93) #[] #[]), (8, .int .i64 (ws.length : Int)), (9, .int .i64 (lo : Int)), (10, .int .i64 (hh : Int))] ⟨rfl, rfl, rfl, rfl, rfl, rfl, trivial⟩ ?_
  by_cases hlt : lo < hh
  · obtain ⟨mm, hmm⟩ : ∃ m : Nat, m = (lo + hh) / 2 := ⟨_, rfl⟩
    have hm2 : ((lo : Int) + (hh : Int)) / 2 = (mm : Int) := by omega
    obtain ⟨y, hy⟩ := get_some (xs := ws) (k := mm) (by omega)
    have hcy := hc mm y hy
    have hbc := fun w' => @behind1_spec y (i : Int) w'
    repeat' (first | (apply G_on; exact rfl; first | ((first | apply G1_assign | apply G1_move); exact rfl; exact rfl) | (apply G1_indexAddrJ (q := mm); exact T.s86; exact rfl; exact rfl; (first | omega | exact hm2); exact hok; omega; exact rfl) | (apply G1_loadEl (e := eWr) (q := mm); exact T.a88; exact rfl; exact hS.ext (by repeat first | assumption | exact Ext.rfl' | apply Ext.drew | apply Ext.alloc | refine Ext.trans ?_ (by assumption)); exact hy; exact rfl; exact rfl) | (apply G1_callv; exact rfl; exact rfl; exact rfl; exact rfl; exact hbc _; rintro _ w2 ⟨rfl, hx2⟩; refine ⟨(by first | exact .inl rfl | exact .inr hx2), ?_⟩) | (apply G1_lss; exact rfl; exact rfl; exact rfl) | (apply G1_add; exact rfl; exact rfl; omega; omega; exact rfl) | (apply G1_convu64; exact rfl; exact T.i3; exact T.i134; omega; omega; exact rfl) | (apply G1_shrC (c := 2); exact rfl; exact rfl; omega; exact rfl; exact rfl) | (apply G1_convi64; exact rfl; exact T.i134; exact T.i3; omega; omega; exact rfl)) | apply G_nil | apply Post_next | apply W_seq | apply W_region | (apply W_cond_dec; exact rfl; all_goals (intro h; try (exfalso; omega))) | apply W_skip | apply W_block | apply Post_block_normal)
    all_goals try (exfalso; omega)
    · refine Post_round (mm + 1, hh) ⟨rfl, rfl, rfl, rfl, by first | rfl | (show some (Value.int .i64 _) = some (Value.int .i64 _); congr 2; done) | (show some (Value.int .i64 _) = some (Value.int .i64 _); congr 2; simp only []; omega), rfl, trivial⟩ ⟨by simp only []; split at h <;> omega, h2, h3, (by repeat first | assumption | exact Ext.rfl' | apply Ext.drew | apply Ext.alloc | refine Ext.trans ?_ (by assumption))⟩ (by simp only []; omega)
    · refine Post_round (lo, mm) ⟨rfl, rfl, rfl, rfl, rfl, by first | rfl | (show some (Value.int .i64 _) = some (Value.int .i64 _); congr 2; done) | (show some (Value.int .i64 _) = some (Value.int .i64 _); congr 2; simp only []; omega), trivial⟩ ⟨h1, by simp only []; split at h <;> omega, by simp only []; omega, (by repeat first | assumption | exact Ext.rfl' | apply Ext.drew | apply Ext.alloc | refine Ext.trans ?_ (by assumption))⟩ (by simp only []; omega)
  have e1 : lo = i := by omega
  subst e1
  by_cases hin : lo < ws.length
  · obtain ⟨y, hy⟩ := get_some (xs := ws) (k := lo) hin
    have hcy := hc lo y hy
    have hbc := fun w' => @behind1_spec y (lo : Int) w'
    have hif : (if y.com ≤ (lo : Int) then (-1 : Int) else 1) = 1 := if_neg (by omega)
    simp only [hif] at hbc
    repeat' (first | (apply G_on; exact rfl; first | ((first | apply G1_assign | apply G1_move); exact rfl; exact rfl) | (apply G1_indexAddrJ (q := lo); exact T.s86; exact rfl; exact rfl; exact rfl; exact hok; omega; exact rfl) | (apply G1_loadEl (e := eWr) (q := lo); exact T.a88; exact rfl; exact hS.ext (by repeat first | assumption | exact Ext.rfl' | apply Ext.drew | apply Ext.alloc | refine Ext.trans ?_ (by assumption)); exact hy; exact rfl; exact rfl) | (apply G1_callv; exact rfl; exact rfl; exact rfl; exact rfl; exact hbc _; rintro _ w2 ⟨rfl, hx2⟩; refine ⟨(by first | exact .inl rfl | exact .inr hx2), ?_⟩) | ((first | apply G1_lss | apply G1_eql); exact rfl; exact rfl; exact rfl) | (apply G1_pick_t; exact rfl; exact rfl; exact rfl)) | apply G_nil | apply Post_next | apply W_seq | apply W_region | (apply W_cond_dec; exact rfl; all_goals (intro h; try (exfalso; omega))) | ((fail_if_success (apply G_on; exact rfl)); apply G_split_dec; exact rfl; exact rfl; all_goals (intro h; try (exfalso; omega))) | apply W_exit | apply W_ret | apply Post_then_exit | apply Post_block_exit)
    all_goals try (exfalso; omega)
    refine Post_ret Tryz.results92 ⟨_, _, rfl, rfl, _, _, rfl, rfl, rfl⟩ ?_
    exact ⟨rfl, (by repeat first | assumption | exact Ext.rfl' | apply Ext.drew | apply Ext.alloc | refine Ext.trans ?_ (by assumption))⟩
  · repeat' (first | (apply G_on; exact rfl; first | ((first | apply G1_assign | apply G1_move); exact rfl; exact rfl) | (apply G1_lss; exact rfl; exact rfl; exact rfl) | (apply G1_pick_f; exact rfl; exact rfl; exact rfl)) | apply G_nil | apply Post_next | apply W_seq | apply W_region | (apply W_cond_dec; exact rfl; all_goals (intro h; try (exfalso; omega))) | (apply G_off; exact rfl; exact rfl) | ((fail_if_success (apply G_on; exact rfl)); apply G_split_dec; exact rfl; exact rfl; all_goals (intro h; try (exfalso; omega))) | apply W_exit | apply W_ret | apply Post_then_exit | apply Post_block_exit)
    all_goals try (exfalso; omega)
    refine Post_ret Tryz.results92 ⟨_, _, rfl, rfl, _, _, rfl, rfl, rfl⟩ ?_
    exact ⟨rfl, (by repeat first | assumption | exact Ext.rfl' | apply Ext.drew | apply Ext.alloc | refine Ext.trans ?_ (by assumption))⟩
theorem behind_spec {q : Option Addr} {d i : Nat} {ws : List WrD} {w : World} (hS : Sl w.heap eWr q d ws) (hc : ∀ (j : Nat) y, ws[j]? = some y → y.com = (j : Int) + 1) (hi : i ≤ ws.length) (hl : ws.length ≤ 1000) :
    Ctr Tryz.prog 69 [.slice q ws.length d, .int .i64 (i : Int)] w (fun v w' => v = .int .i64 (i : Int) ∧ Ext w w') := by
  have hb := bsf_spec hS hc hi hl
  refine Ctr_of Tryz.func69 Tryz.ntmps69 rfl rfl rfl ?_
  repeat' (first | (apply G_on; exact rfl; first | ((first | apply G1_assign | apply G1_move); exact rfl; exact rfl) | (apply G1_call (f := 92); exact rfl; exact rfl; exact rfl; exact hb; rintro _ w2 ⟨rfl, hx2⟩; refine ⟨(by first | exact .inl rfl | exact .inr (by assumption)), ?_⟩) | (apply G1_extract; exact rfl; exact rfl; exact rfl)) | apply G_nil | apply Post_next | apply W_seq | apply W_region | apply W_ret)
  refine Post_ret Tryz.results69 ⟨_, _, rfl, rfl, rfl⟩ ?_
  exact ⟨rfl, (by repeat first | assumption | exact Ext.rfl' | apply Ext.drew | apply Ext.alloc | refine Ext.trans ?_ (by assumption))⟩
theorem malf1_spec {o : OpD} {w : World} : Ctr Tryz.prog 68 [.agg (eOp.enc o).toArray] w (fun v w' => v = .bool o.w ∧ Ext w w') := by
  refine Ctr_of Tryz.func68 Tryz.ntmps68 rfl rfl rfl ?_
  repeat' (first | apply W_seq | apply W_region)
  apply G_on; exact rfl; apply G1_box; exact rfl; exact rfl; exact rfl; intro a1 w1 ha1 hA1 hx1 hs1
  replace hA1 : Blk w1.heap a1 40 [.bool o.w, .string o.k, .string o.t, .bool o.h] := hA1
  repeat' (first | (apply G_on; exact rfl; first | (apply G1_assign; exact rfl; exact rfl) | (apply G1_fieldAddr; exact T.f40_0; exact rfl; exact rfl) | (apply G1_loadB; exact T.p4; exact rfl; assumption; exact rfl; exact rfl)) | apply G_nil | apply Post_next | apply W_seq | apply W_region | apply W_ret)
  refine Post_ret Tryz.results68 ⟨_, _, rfl, rfl, rfl⟩ ?_
  exact ⟨rfl, (by repeat first | assumption | exact Ext.rfl' | apply Ext.drew | apply Ext.alloc | refine Ext.trans ?_ (by assumption))⟩
theorem indexf_spec {p : Option Addr} {c : Nat} {x : TxD} {w : World} (hS : Sl w.heap eOp p c (opsOf x)) :
    Ctr Tryz.prog 91 [.slice p 3 c, .func (.func 68) #[] #[]] w (fun v w' => v = .int .i64 1 ∧ Ext w w') := by
  have hok := hS.ok
  rw [opsOf_len] at hok
  refine Ctr_of Tryz.func91 Tryz.ntmps91 rfl rfl rfl ?_
  repeat' (first | (apply G_on; exact rfl; first | ((first | apply G1_assign | apply G1_move); exact rfl; exact rfl) | (apply G1_len; exact T.s41; exact rfl; exact rfl)) | apply G_nil | apply Post_next | apply W_seq | apply W_region | apply W_block)
  refine W_loop (ι := Nat) (fun y => [(0, .slice p 3 c), (1, .func (.func 68) #[] #[]), (7, .int .i64 3), (8, .int .i64 (y : Int))])
    (fun y w' => y ≤ 1 ∧ Ext w w') (fun y => 3 - y) 0 ⟨rfl, rfl, rfl, rfl, trivial⟩ ⟨by omega, (by repeat first | assumption | exact Ext.rfl' | apply Ext.drew | apply Ext.alloc | refine Ext.trans ?_ (by assumption))⟩ ?_
  rintro y w1 ⟨h1, hx1⟩
  refine W_keep [(0, .slice p 3 c), (1, .func (.func 68) #[] #[]), (7, .int .i64 3), (8, .int .i64 (y : Int))] ⟨rfl, rfl, rfl, rfl, trivial⟩ ?_
  obtain ⟨o, ho⟩ := get_some (xs := opsOf x) (k := y) (by rw [opsOf_len]; omega)
  have hbc := fun w' => @malf1_spec o w'
  have how : o.w = decide (y = 1) := by
    rcases Nat.lt_or_ge y 1 with h | h
    · obtain rfl : y = 0 := by omega
      injection ho with ho; subst ho; rfl
    · obtain rfl : y = 1 := by omega
      injection ho with ho; subst ho; rfl
  rw [how] at hbc
  repeat' (first | (apply G_on; exact rfl; first | ((first | apply G1_assign | apply G1_move); exact rfl; exact rfl) | (apply G1_indexAddrJ (q := y); exact T.s41; exact rfl; exact rfl; exact rfl; exact hok; omega; exact rfl) | (apply G1_loadEl (e := eOp) (q := y); exact T.a40; exact rfl; exact hS.ext (by repeat first | assumption | exact Ext.rfl' | apply Ext.drew | apply Ext.alloc | refine Ext.trans ?_ (by assumption)); exact ho; exact rfl; exact rfl) | (apply G1_callv; exact rfl; exact rfl; exact rfl; exact rfl; exact hbc _; rintro _ w2 ⟨rfl, hx2⟩; refine ⟨(by first | exact .inl rfl | exact .inr hx2), ?_⟩) | (apply G1_lss; exact rfl; exact rfl; exact rfl) | (apply G1_add; exact rfl; exact rfl; omega; omega; exact rfl)) | apply G_nil | apply Post_next | apply W_seq | apply W_region | (apply W_cond_dec; exact rfl; all_goals (intro h; try (exfalso; omega))) | apply W_skip | apply W_ret | apply W_block | apply Post_then_ret | apply Post_block_ret | apply Post_block_normal)
  all_goals try (exfalso; omega)
  · refine Post_ret Tryz.results91 ⟨_, _, rfl, rfl, rfl⟩ ?_
    exact ⟨by rw [h]; rfl, (by repeat first | assumption | exact Ext.rfl' | apply Ext.drew | apply Ext.alloc | refine Ext.trans ?_ (by assumption))⟩
  · exact Post_round (y + 1) ⟨rfl, rfl, rfl, rfl, trivial⟩ ⟨by omega, (by repeat first | assumption | exact Ext.rfl' | apply Ext.drew | apply Ext.alloc | refine Ext.trans ?_ (by assumption))⟩ (by omega)
theorem contf_spec {p : Option Addr} {c : Nat} {x : TxD} {w : World} (hS : Sl w.heap eOp p c (opsOf x)) :
    Ctr Tryz.prog 67 [.slice p 3 c, .func (.func 68) #[] #[]] w (fun v w' => v = .bool true ∧ Ext w w') := by
  have hb := indexf_spec hS
  refine Ctr_of Tryz.func67 Tryz.ntmps67 rfl rfl rfl ?_
  repeat' (first | (apply G_on; exact rfl; first | ((first | apply G1_assign | apply G1_move); exact rfl; exact rfl) | (apply G1_call (f := 91); exact rfl; exact rfl; exact rfl; exact hb; rintro _ w2 ⟨rfl, hx2⟩; refine ⟨(by first | exact .inl rfl | exact .inr (by assumption)), ?_⟩) | (apply G1_geq; exact rfl; exact rfl; exact rfl)) | apply G_nil | apply Post_next | apply W_seq | apply W_region | apply W_ret)
  refine Post_ret Tryz.results67 ⟨_, _, rfl, rfl, rfl⟩ ?_
  exact ⟨rfl, (by repeat first | assumption | exact Ext.rfl' | apply Ext.drew | apply Ext.alloc | refine Ext.trans ?_ (by assumption))⟩
/-- the commits that were looked at: those up to the i-th -/
noncomputable def comsF (i : Nat) : Lit → Option Value := fun u => open Classical in if ∃ j : Nat, j < i ∧ u = .int .i64 ((j : Int) + 1) then some (.agg #[]) else none
theorem comsF_at (i : Nat) : comsF i (.int .i64 ((i : Int) + 1)) = none := by
  unfold comsF
  rw [if_neg]
  rintro ⟨j, hj, e⟩
  injection e with _ e
  omega
theorem malf_spec {bk bc bs m i : Nat} {r : RawH} {x : TxD} {w : World} (hH : HistAt w.heap i r x) (hC : MapV Tryz.prog w 3 bc (comsF i) m) (hi : i ≤ 1000) :
    Ctr Tryz.prog 30 [pastV bk bc bs, histV r] w (fun v w' => v = .bool false ∧ Ext w w') := by
  have e1 := hH.start
  have e2 := hH.com
  have e3 := hH.n
  have e4 := hH.ses
  obtain ⟨ses, st, com, p, n, c⟩ := r
  simp only at e1 e2 e3 e4
  subst e1 e2 e3 e4
  have hS : Sl w.heap eOp p c (opsOf x) := hH.ops
  have hcf := fun w' (hx : Ext w w') => contf_spec (hS.ext hx)
  refine Ctr_of Tryz.func30 Tryz.ntmps30 rfl rfl rfl ?_
  repeat' (first | apply W_seq | apply W_region)
  apply G_on; exact rfl; apply G1_box; exact rfl; exact rfl; exact rfl; intro a1 w1 ha1 hA1 hx1 hs1
  replace hA1 : Blk w1.heap a1 80 [.map (some bk), .map (some bc), .map (some bs)] := hA1
  apply G_on; exact rfl; apply G1_box; exact rfl; exact rfl; exact rfl; intro a2 w2 ha2 hA2 hx2 hs2
  replace hA2 : Blk w2.heap a2 43 [.int .i64 ((i % 3 : Nat) : Int), .int .i64 (i : Int), .int .i64 ((i : Int) + 1), .slice p 3 c] := hA2
  replace hA1 := hA1.ext hx2
  repeat' (first | (apply G_on; exact rfl; first | ((first | apply G1_assign | apply G1_move); exact rfl; exact rfl) | (apply G1_fieldAddr; (first | exact T.f43_1 | exact T.f43_2 | exact T.f80_1); exact rfl; exact rfl) | (apply G1_loadB; (first | exact T.p3 | exact T.p77); exact rfl; assumption; exact rfl; exact rfl) | ((first | apply G1_lss | apply G1_eql); exact rfl; exact rfl; exact rfl) | (apply G1_pick_f; exact rfl; exact rfl; exact rfl)) | apply G_nil | apply Post_next | apply W_seq | apply W_region | (apply W_cond_false; exact rfl) | apply W_skip)
  all_goals try (exfalso; omega)
  apply G_on; exact rfl
  apply G1_lookV2e (comsF_at i); exact Tryz.underlying77; exact kInt; exact zero0; exact rfl; exact rfl; exact keyI (by omega) (by omega); exact hC.ext (by repeat first | assumption | exact Ext.rfl' | apply Ext.drew | apply Ext.alloc | refine Ext.trans ?_ (by assumption)); exact rfl
  repeat' (apply G_on; exact rfl; first | (apply G1_move; exact rfl; exact rfl) | (apply G1_extract; exact rfl; exact rfl; exact rfl))
  apply G_on; exact rfl; apply G1_alloc; exact T.zero92; exact rfl; exact rfl; intro a3 w3 ha3 hA3 hx3 hs3
  replace hA1 := hA1.ext hx3
  replace hA2 := hA2.ext hx3
  skip
  apply G_on; exact rfl; apply G1_storeB; exact T.z92; exact rfl; exact rfl; exact hA3; exact rfl; exact rfl; (first | exact Nat.le_of_ble_eq_true rfl | (focus (simp [Value.cells]; done))); (first | exact Enc.one _ _ | (focus (simp [Value.oneCell']; done)) | (focus (simp [Value.cells, Value.oneCell']; done)) | exact Enc.oneAgg _ _); exact rfl; (first | exact .inl rfl | exact .inr (by simp [exempt])); exact rfl; intro w4 hA4 hg4 hs4
  replace hA1 := hA1.grown hg4 (fun e => by injection e with e; omega)
  replace hA2 := hA2.grown hg4 (fun e => by injection e with e; omega)
  have hx34 : Ext w2 w4 := hx3.own hg4 (fun k hk => by injection hk; omega)
  repeat' (first | (apply G_on; exact rfl; first | ((first | apply G1_assign | apply G1_move); exact rfl; exact rfl) | (apply G1_callv; exact rfl; exact rfl; exact rfl; exact rfl; exact hcf _ (by repeat first | assumption | exact Ext.rfl' | apply Ext.drew | apply Ext.alloc | refine Ext.trans ?_ (by assumption)); rintro _ w5 ⟨rfl, hx5⟩; refine ⟨(by first | exact .inl rfl | exact .inr hx5), ?_⟩) | (apply G1_fieldAddr; (first | exact T.f43_1 | exact T.f43_2 | exact T.f43_3); exact rfl; exact rfl) | (apply G1_loadB; (first | exact T.p3 | exact T.p41); exact rfl; assumption; exact rfl; exact rfl) | (apply G1_leq; exact rfl; exact rfl; exact rfl) | (apply G1_pick_f; exact rfl; exact rfl; exact rfl) | (apply G1_not_t; exact rfl; exact rfl)) | apply G_nil | apply Post_next | apply W_seq | apply W_region | ((fail_if_success (apply G_on; exact rfl)); apply G_split_dec; exact rfl; exact rfl; all_goals (intro h; try (exfalso; omega))) | apply W_ret)
  all_goals try (exfalso; omega)
  refine Post_ret Tryz.results30 ⟨_, _, rfl, rfl, rfl⟩ ?_
  exact ⟨rfl, (by repeat first | assumption | exact Ext.rfl' | apply Ext.drew | apply Ext.alloc | refine Ext.trans ?_ (by assumption))⟩
end Go.Proofs.YtipbakiecocioaaGreatDoor

/- Audit: the rules inner, outer, order and clash at the law's histories. -/

namespace Go.V
section
variable {P : Program} {n : Nat} {ops : Array Oper} {dq : Nat} {l : List Oper} {E : Env} {w : World} {K : Env → World → Prop}
variable {d : Option Nat} {ty : TypeId} {pos : String} {af : Array Edge} {g : Option (Nat × Bool)} {x y : Operand} {t kt et b m : Nat} {f : Lit → Option Value} {key v zv : Value} {kl : Lit}
theorem G1_lookV2k {kn : Bool} (h1 : (f kl).getD zv = v) (h2 : (f kl).isSome = kn) (ht : P.underlying t = some (.map kt et)) (Kk : Maps.Keyed P kt) (hz : ZeroT P et zv) (hx : E.look x = some (.map (some b))) (hy : E.look y = some key) (hkey : keyOf P kt key = some kl)
    (ho : MapV P w kt b f m) (hd : dstOk n d = true) (h : G P n ops (dq, []) l (E.put d (.tuple #[v, .bool kn])) w K) : G1 P n ops (dq, []) ⟨d, .lookup t x y true, ty, pos, af, g⟩ l E w K :=
  G1_lookV2 ht Kk hz hx hy hkey ho hd (by rw [h1, h2]; exact h)
theorem G1_lookVk (h1 : (f kl).getD zv = v) (ht : P.underlying t = some (.map kt et)) (Kk : Maps.Keyed P kt) (hz : ZeroT P et zv) (hx : E.look x = some (.map (some b))) (hy : E.look y = some key) (hkey : keyOf P kt key = some kl)
    (ho : MapV P w kt b f m) (hd : dstOk n d = true) (h : G P n ops (dq, []) l (E.put d v) w K) : G1 P n ops (dq, []) ⟨d, .lookup t x y false, ty, pos, af, g⟩ l E w K :=
  G1_lookV ht Kk hz hx hy hkey ho hd (by rw [h1]; exact h)
end
/-- the readings and writings of a key, as they were told last -/
theorem ops_get0 {x : TxD} : (opsOf x)[0]? = some ⟨false, sK, x.rt, x.rh⟩ := rfl
theorem ops_get1 {x : TxD} : (opsOf x)[1]? = some ⟨true, sK, x.t, true⟩ := rfl
theorem ops_get2 {x : TxD} : (opsOf x)[2]? = some ⟨false, sK, x.t, true⟩ := rfl
end Go.V
namespace Go.Proofs.YtipbakiecocioaaGreatDoor
open Go.V
attribute [local irreducible] Blk Own hcell IntT SliceT PlainT AggT SizeT StrT FieldT ZeroT EqT ArrT
theorem keyS : keyOf Tryz.prog 9 (.string sK) = some kLit := keyK
theorem zeroR : ZeroT Tryz.prog 85 (resV false ⟨#[]⟩) := ZeroT.of (by kernel_rfl)
/-- what the operations ahead of the j-th make known -/
noncomputable def lastF (x : TxD) (j : Nat) : Lit → Option Value := oneF (if j = 0 then none else if j = 1 then some (resV x.rh x.rt) else some (resV true x.t))
theorem inner_spec {i : Nat} {r : RawH} {x : TxD} {w : World} (hH : HistAt w.heap i r x) :
    Ctr Tryz.prog 31 [histV r] w (fun v w' => v = .bool false ∧ Ext w w') := by
  have e3 := hH.n
  obtain ⟨ses, st, com, p, n, c⟩ := r
  simp only at e3
  subst e3
  have hS : Sl w.heap eOp p c (opsOf x) := hH.ops
  have hok := hS.ok
  rw [opsOf_len] at hok
  refine Ctr_of Tryz.func31 Tryz.ntmps31 rfl rfl rfl ?_
  repeat' (first | apply W_seq | apply W_region)
  apply G_on; exact rfl; apply G1_box; exact rfl; exact rfl; exact rfl; intro a1 w1 ha1 hA1 hx1 hs1
  replace hA1 : Blk w1.heap a1 43 [.int .i64 ses, .int .i64 st, .int .i64 com, .slice p 3 c] := hA1
  repeat' (first | (apply G_on; exact rfl; (apply G1_assign; exact rfl; exact rfl)) | apply G_nil | apply Post_next | apply W_seq | apply W_region)
  apply G_on; exact rfl
  apply G1_makeMapV; exact Tryz.underlying82; exact rfl; exact rfl
  intro b w2 hb hM hx2 hs2
  replace hA1 := hA1.ext hx2
  have hz1 := hx1.size
  repeat' (first | (apply G_on; exact rfl; first | ((first | apply G1_assign | apply G1_move); exact rfl; exact rfl) | (apply G1_fieldAddr; exact T.f43_3; exact rfl; exact rfl) | (apply G1_loadB; exact T.p41; exact rfl; assumption; exact rfl; exact rfl) | (apply G1_len; exact T.s41; exact rfl; exact rfl)) | apply G_nil | apply Post_next | apply W_seq | apply W_region | apply W_block)
  refine W_loop (ι := Nat) (fun y => [(3, .map (some b)), (11, .slice p 3 c), (12, .int .i64 3), (13, .int .i64 (y : Int))])
    (fun y w' => y ≤ 3 ∧ MapV Tryz.prog w' 9 b (lastF x y) y ∧ Ext w w') (fun y => 3 - y) 0 ⟨rfl, rfl, rfl, rfl, trivial⟩ ⟨Nat.zero_le _, by rw [show lastF x 0 = oneF none from rfl, oneF_none]; exact hM, (by repeat first | assumption | exact Ext.rfl' | apply Ext.drew | apply Ext.alloc | refine Ext.trans ?_ (by assumption))⟩ ?_
  clear hM hA1
  rintro y w3 ⟨hy, hM, hx3⟩
  refine W_keep [(3, .map (some b)), (11, .slice p 3 c), (12, .int .i64 3), (13, .int .i64 (y : Int))] ⟨rfl, rfl, rfl, rfl, trivial⟩ ?_
  by_cases hlt : y < 3
  rotate_left
  · repeat' (first | (apply G_on; exact rfl; first | (apply G1_assign; exact rfl; exact rfl) | (apply G1_lss; exact rfl; exact rfl; exact rfl)) | apply G_nil | apply Post_next | apply W_seq | apply W_region | (apply W_cond_dec; exact rfl; all_goals (intro h; try (exfalso; omega))) | apply W_exit | apply W_ret | apply Post_then_exit | apply Post_block_exit)
    all_goals try (exfalso; omega)
    refine Post_ret Tryz.results31 ⟨_, _, rfl, rfl, rfl⟩ ?_
    exact ⟨rfl, (by repeat first | assumption | exact Ext.rfl' | apply Ext.drew | apply Ext.alloc | refine Ext.trans ?_ (by assumption))⟩
  obtain ⟨o, ho⟩ := get_some (xs := opsOf x) (k := y) (by rw [opsOf_len]; omega)
  have hS3 := hS.ext hx3
  have hbl := hM.lt
  have hko : o.k = sK := by
    have : o ∈ opsOf x := List.mem_of_getElem? ho
    simp [opsOf] at this
    rcases this with rfl | rfl | rfl <;> rfl
  obtain ⟨ow, ok, ot, oh⟩ := o
  simp only at hko
  subst hko
  repeat' (first | (apply G_on; exact rfl; first | (apply G1_lss; exact rfl; exact rfl; exact rfl) | (apply G1_indexAddrN; exact T.s41; exact rfl; exact rfl; (first | assumption | exact Sl.ok (by assumption) | exact (Own.sl (by assumption)).ok); omega; exact rfl) | (apply G1_loadEl; exact T.a40; exact rfl; assumption; assumption; exact rfl; exact rfl)) | apply G_nil | apply Post_next | apply W_seq | apply W_region | (apply W_cond_dec; exact rfl; all_goals (intro h; try (exfalso; omega))) | apply W_skip | apply W_block)
  all_goals try (exfalso; omega)
  apply G_on; exact rfl; apply G1_alloc; exact T.zero40; exact rfl; exact rfl; intro a5 w5 ha5 hA5 hx5 hs5
  replace hS3 := hS3.ext hx5
  replace hM := hM.ext hx5
  skip
  apply G_on; exact rfl; apply G1_storeB; exact T.z40; exact rfl; exact rfl; exact hA5; exact rfl; exact rfl; (first | exact Nat.le_of_ble_eq_true rfl | (focus (simp [Value.cells]; done))); (first | exact Enc.one _ _ | (focus (simp [Value.oneCell']; done)) | (focus (simp [Value.cells, Value.oneCell']; done)) | exact Enc.oneAgg _ _); exact rfl; (first | exact .inl rfl | exact .inr (by simp [exempt])); exact rfl; intro w6 hA6 hg6 hs6
  replace hA6 : Blk w6.heap a5 40 [.bool ow, .string sK, .string ot, .bool oh] := hA6
  replace hM := hM.kept hg6 (fun e => by injection e; omega)
  have hx36 : Ext w3 w6 := hx5.own hg6 (fun k hk => by injection hk; omega)
  have hof := fun w' => of_spec ⟨ow, sK, ot, oh⟩ w'
  repeat' (first | (apply G_on; exact rfl; first | (apply G1_call (f := 35); exact rfl; exact rfl; exact rfl; exact hof _; rintro _ w7 ⟨rfl, hx7⟩; refine ⟨(by first | exact .inl rfl | exact .inr (by assumption)), ?_⟩; (first | replace hA6 := hA6.ext hx7 | replace hA6 := hA6.ext ((Ext.drew Ext.rfl').trans hx7)); (first | replace hM := hM.ext hx7 | replace hM := hM.ext ((Ext.drew Ext.rfl').trans hx7))) | (apply G1_loadBAgg; exact T.a40; exact rfl; assumption; exact rfl; exact rfl)) | apply G_nil | apply Post_next | apply W_seq | apply W_region)
  apply G_on; exact rfl; apply G1_alloc; exact T.zero85; exact rfl; exact rfl; intro a8 w8 ha8 hA8 hx8 hs8
  replace hA6 := hA6.ext hx8
  replace hM := hM.ext hx8
  skip
  apply G_on; exact rfl; apply G1_storeB; exact T.z85; exact rfl; exact rfl; exact hA8; exact rfl; exact rfl; (first | exact Nat.le_of_ble_eq_true rfl | (focus (simp [Value.cells]; done))); (first | exact Enc.one _ _ | (focus (simp [Value.oneCell']; done)) | (focus (simp [Value.cells, Value.oneCell']; done)) | exact Enc.oneAgg _ _); exact rfl; (first | exact .inl rfl | exact .inr (by simp [exempt])); exact rfl; intro w9 hA9 hg9 hs9
  replace hA9 : Blk w9.heap a8 85 [.bool oh, .string ot] := hA9
  have hz6 := hx36.size
  have hz7 := hx7.size
  have hbl6 := hM.lt
  replace hA6 := hA6.grown hg9 (fun e => by injection e with e; have := hA6.lt; omega)
  replace hM := hM.kept hg9 (fun e => by injection e; omega)
  have hx39 : Ext w6 w9 := (hx7.trans hx8).own hg9 (fun k hk => by injection hk; omega)
  have hx09 : Ext w w9 := (hx3.trans hx36).trans hx39
  have hz9 := hg9.size
  obtain ⟨kn, kh, kt, hv1, hv2, hv3⟩ : ∃ (kn : Bool) (kh : Bool) (kt : ByteArray), (lastF x y kLit).getD (resV false ⟨#[]⟩) = resV kh kt ∧ (lastF x y kLit).isSome = kn ∧ (kn = true → ow = false → kh = oh ∧ kt = ot) := by
    unfold lastF
    rw [oneF_at]
    have h3 : y = 0 ∨ y = 1 ∨ y = 2 := by omega
    rcases h3 with rfl | rfl | rfl
    · exact ⟨_, _, _, rfl, rfl, fun h => by cases h⟩
    · rw [ops_get1] at ho; injection ho with ho; injection ho with ho
      exact ⟨_, _, _, rfl, rfl, fun _ h => by rw [← ho] at h; cases h⟩
    · rw [ops_get2] at ho; injection ho with ho; injection ho with _ _ h1 h2
      exact ⟨_, _, _, rfl, rfl, fun _ _ => ⟨h2, h1⟩⟩
  have hput : putV (lastF x y) kLit (resV oh ot) = lastF x (y + 1) := by
    unfold lastF
    rw [oneF_put]
    have h3 : y = 0 ∨ y = 1 ∨ y = 2 := by omega
    rcases h3 with rfl | rfl | rfl
    · rw [ops_get0] at ho; injection ho with ho; injection ho with _ _ h1 h2; subst h1 h2; rfl
    · rw [ops_get1] at ho; injection ho with ho; injection ho with _ _ h1 h2; subst h1 h2; rfl
    · rw [ops_get2] at ho; injection ho with ho; injection ho with _ _ h1 h2; subst h1 h2; rfl
  have hMx := fun (w' : World) (hx : Ext w9 w') => hM.ext hx
  repeat' (first | (apply G_on; exact rfl; first | (apply G1_move; exact rfl; exact rfl) | (apply G1_lookV2k hv1 hv2; exact Tryz.underlying82; exact kStr; exact zeroR; exact rfl; exact rfl; exact keyS; exact hMx _ (by repeat first | assumption | exact Ext.rfl' | apply Ext.drew | apply Ext.alloc | refine Ext.trans ?_ (by assumption)); exact rfl) | (apply G1_fieldAddr; exact T.f40_1; exact rfl; exact rfl) | (apply G1_loadB; exact T.p9; exact rfl; assumption; exact rfl; exact rfl) | (apply G1_extract; exact rfl; exact rfl; exact rfl)) | apply G_nil | apply Post_next | apply W_seq | apply W_region)
  apply G_on; exact rfl; apply G1_alloc; exact T.zero85; exact rfl; exact rfl; intro b1 v1 hb1 hB1 hy1 ht1
  replace hA6 := hA6.ext hy1
  replace hA9 := hA9.ext hy1
  replace hM := hM.ext hy1
  skip
  apply G_on; exact rfl; apply G1_storeB; exact T.z85; exact rfl; exact rfl; exact hB1; exact rfl; exact rfl; (first | exact Nat.le_of_ble_eq_true rfl | (focus (simp [Value.cells]; done))); (first | exact Enc.one _ _ | (focus (simp [Value.oneCell']; done)) | (focus (simp [Value.cells, Value.oneCell']; done)) | exact Enc.oneAgg _ _); exact rfl; (first | exact .inl rfl | exact .inr (by simp [exempt])); exact rfl; intro v2 hB2 hh2 ht2
  replace hB2 : Blk v2.heap b1 85 [.bool kh, .string kt] := hB2
  have hl9 := hM.lt
  have hl6 := hA6.lt
  have hl8 := hA9.lt
  replace hA6 := hA6.grown hh2 (fun e => by injection e with e; omega)
  replace hA9 := hA9.grown hh2 (fun e => by injection e with e; omega)
  replace hM := hM.kept hh2 (fun e => by injection e; omega)
  have hy02 : Ext w9 v2 := hy1.own hh2 (fun k hk => by injection hk; omega)
  have hMv := fun (w' : World) (hx : Ext v2 w') => hM.ext hx
  have hx0v : Ext w v2 := hx09.trans hy02
  repeat' (first | (apply G_on; exact rfl; first | ((first | apply G1_assign | apply G1_move); exact rfl; exact rfl) | (apply G1_aneq; exact rfl; exact rfl; exact eqgRes; exact eq_res _ _ _ _; exact rfl) | (apply G1_putV (m := y); exact Tryz.underlying82; exact kStr; exact rfl; exact rfl; exact rfl; exact keyS; exact Nat.lt_of_le_of_lt (m := 1000) (by omega) (by decide); exact hMv _ (by repeat first | assumption | exact Ext.rfl' | apply Ext.drew | apply Ext.alloc | refine Ext.trans ?_ (by assumption)); exact rfl; exact rfl; exact rfl; intro w10 hM10 hg10) | (apply G1_fieldAddr; (first | exact T.f40_1 | exact T.f40_0); exact rfl; exact rfl) | (apply G1_loadB; (first | exact T.p9 | exact T.p4); exact rfl; assumption; exact rfl; exact rfl) | (apply G1_loadBAgg; exact T.a85; exact rfl; assumption; exact rfl; exact rfl) | (apply G1_not; exact rfl; exact rfl) | (apply G1_pick_t; exact rfl; exact rfl; exact rfl) | (apply G1_pick_f; exact rfl; exact rfl; exact rfl) | (apply G1_add; exact rfl; exact rfl; omega; omega; exact rfl)) | apply G_nil | apply Post_next | apply W_seq | apply W_region | (apply W_cond_false; exact rfl) | (apply W_cond; exact rfl; all_goals intro h) | (apply G_off; exact rfl; exact rfl) | ((fail_if_success (apply G_on; exact rfl)); apply G_split; exact rfl; exact rfl; all_goals intro h) | apply W_skip | apply W_ret | apply Post_then_ret | apply Post_block_ret | apply Post_block_normal)
  · exfalso
    rename_i c1 c2
    obtain ⟨e1, e2⟩ := hv3 c1 (by simpa using c2)
    rw [e1, e2] at h
    simp at h
  all_goals
    replace hM10 : MapV Tryz.prog w10 9 b (lastF x (y + 1)) (y + 1) := by rw [← hput]; exact hM10
    exact Post_round (y + 1) ⟨rfl, rfl, rfl, rfl, trivial⟩ ⟨by omega, hM10, hx0v.own hg10 (fun k hk => by injection hk with hk; omega)⟩ (by omega)
end Go.Proofs.YtipbakiecocioaaGreatDoor

/- Audit: the rule outer. -/

namespace Go.V
/-- keys that have been met -/
noncomputable def metF (y : Nat) : Lit → Option Value := oneF (if y = 0 then none else some (.agg #[]))
theorem metF_at (y : Nat) : metF y kLit = if y = 0 then none else some (.agg #[]) := oneF_at _
theorem metF_put (y : Nat) : putV (metF y) kLit (.agg #[]) = metF (y + 1) := oneF_put _ _
theorem op_key {x : TxD} {y : Nat} {o : OpD} (h : (opsOf x)[y]? = some o) : o.k = sK := by
  have : o ∈ opsOf x := List.mem_of_getElem? h
  simp [opsOf] at this
  rcases this with rfl | rfl | rfl <;> rfl
theorem WrsOf.seen {ws : List WrD} {xs : List TxD} (h : WrsOf ws xs) {i : Nat} (h0 : i ≠ 0) {y : WrD} (hy : ws[i - 1]? = some y) : seenOf xs i = (y.h, y.t) := by
  obtain ⟨x, h1, _, h2, h3⟩ := h.get _ y hy
  unfold seenOf
  rw [if_neg h0, h1, h2, h3]
  rfl
theorem WrsOf.com {ws : List WrD} {xs : List TxD} (h : WrsOf ws xs) : ∀ (j : Nat) y, ws[j]? = some y → y.com = (j : Int) + 1 := fun j y hy => by
  obtain ⟨_, _, h2, _⟩ := h.get j y hy
  exact h2
end Go.V
namespace Go.Proofs.YtipbakiecocioaaGreatDoor
open Go.V
attribute [local irreducible] Blk Own hcell IntT SliceT PlainT AggT SizeT StrT FieldT ZeroT EqT ArrT
theorem zeroW : ZeroT Tryz.prog 86 (.slice none 0 0) := ZeroT.of (by kernel_rfl)
theorem outer_spec {bk bc bs m i d : Nat} {q : Option Addr} {ws : List WrD} {xs : List TxD} {r : RawH} {x : TxD} {w : World} (hH : HistAt w.heap i r x) (hK : MapV Tryz.prog w 9 bk (oneF (some (.slice q ws.length d))) m) (hW : Sl w.heap eWr q d ws) (hws : WrsOf ws xs) (hi : i < ws.length) (hl : ws.length ≤ 1000) :
    Ctr Tryz.prog 32 [pastV bk bc bs, histV r] w (fun v w' => v = .bool (badAt xs i x) ∧ Ext w w') := by
  have e1 := hH.start
  have e3 := hH.n
  obtain ⟨ses, st, com, p, n, c⟩ := r
  simp only at e1 e3
  subst e1 e3
  have hS : Sl w.heap eOp p c (opsOf x) := hH.ops
  have hok := hS.ok
  rw [opsOf_len] at hok
  have hwok := hW.ok
  refine Ctr_of Tryz.func32 Tryz.ntmps32 rfl rfl rfl ?_
  repeat' (first | apply W_seq | apply W_region)
  apply G_on; exact rfl; apply G1_box; exact rfl; exact rfl; exact rfl; intro a1 w1 ha1 hA1 hx1 hs1
  replace hA1 : Blk w1.heap a1 80 [.map (some bk), .map (some bc), .map (some bs)] := hA1
  apply G_on; exact rfl; apply G1_box; exact rfl; exact rfl; exact rfl; intro a2 w2 ha2 hA2 hx2 hs2
  replace hA2 : Blk w2.heap a2 43 [.int .i64 ses, .int .i64 (i : Int), .int .i64 com, .slice p 3 c] := hA2
  replace hA1 := hA1.ext hx2
  repeat' (first | (apply G_on; exact rfl; (apply G1_assign; exact rfl; exact rfl)) | apply G_nil | apply Post_next | apply W_seq | apply W_region)
  apply G_on; exact rfl
  apply G1_makeMapV; exact Tryz.underlying130; exact rfl; exact rfl
  intro b w3 hb hM hx3 hs3
  replace hA1 := hA1.ext hx3
  replace hA2 := hA2.ext hx3
  have hz3 : w.heap.size ≤ b := by have := (hx1.trans hx2).size; omega
  have hb1 := hA1.lt
  have hb2 := hA2.lt
  have hx03 : Ext w w3 := (by repeat first | assumption | exact Ext.rfl' | apply Ext.drew | apply Ext.alloc | refine Ext.trans ?_ (by assumption))
  repeat' (first | (apply G_on; exact rfl; first | ((first | apply G1_assign | apply G1_move); exact rfl; exact rfl) | (apply G1_fieldAddr; exact T.f43_3; exact rfl; exact rfl) | (apply G1_loadB; exact T.p41; exact rfl; assumption; exact rfl; exact rfl) | (apply G1_len; exact T.s41; exact rfl; exact rfl)) | apply G_nil | apply Post_next | apply W_seq | apply W_region | apply W_block)
  refine W_loop (ι := Nat) (fun y => [(2, .pointer (some (adr (bx a1) 0))), (3, .pointer (some (adr (bx a2) 0))), (5, .map (some b)), (15, .slice p 3 c), (16, .int .i64 3), (17, .int .i64 (y : Int))])
    (fun y w' => y ≤ 3 ∧ (0 < y → badAt xs i x = false) ∧ MapV Tryz.prog w' 9 b (metF y) y ∧ Blk w'.heap a1 80 [.map (some bk), .map (some bc), .map (some bs)] ∧ Blk w'.heap a2 43 [.int .i64 ses, .int .i64 (i : Int), .int .i64 com, .slice p 3 c] ∧ Ext w w') (fun y => 3 - y) 0 ⟨rfl, rfl, rfl, rfl, rfl, rfl, trivial⟩
    ⟨Nat.zero_le _, fun h => absurd h (by omega), by rw [show metF 0 = oneF none from rfl, oneF_none]; exact hM, hA1, hA2, hx03⟩ ?_
  clear hM hA1 hA2
  rintro y w4 ⟨hy, hbad, hM, hA1, hA2, hx4⟩
  refine W_keep [(2, .pointer (some (adr (bx a1) 0))), (3, .pointer (some (adr (bx a2) 0))), (5, .map (some b)), (15, .slice p 3 c), (16, .int .i64 3), (17, .int .i64 (y : Int))] ⟨rfl, rfl, rfl, rfl, rfl, rfl, trivial⟩ ?_
  by_cases hlt : y < 3
  rotate_left
  · have hbd := hbad (by omega)
    repeat' (first | (apply G_on; exact rfl; first | (apply G1_assign; exact rfl; exact rfl) | (apply G1_lss; exact rfl; exact rfl; exact rfl)) | apply G_nil | apply Post_next | apply W_seq | apply W_region | (apply W_cond_dec; exact rfl; all_goals (intro h; try (exfalso; omega))) | apply W_exit | apply W_ret | apply Post_then_exit | apply Post_block_exit)
    all_goals try (exfalso; omega)
    refine Post_ret Tryz.results32 ⟨_, _, rfl, rfl, rfl⟩ ?_
    exact ⟨by rw [hbd]; rfl, (by repeat first | assumption | exact Ext.rfl' | apply Ext.drew | apply Ext.alloc | refine Ext.trans ?_ (by assumption))⟩
  obtain ⟨o, ho⟩ := get_some (xs := opsOf x) (k := y) (by rw [opsOf_len]; omega)
  have hS4 := hS.ext hx4
  have hbl := hM.lt
  have hko := op_key ho
  obtain ⟨ow, ok, ot, oh⟩ := o
  simp only at hko
  subst hko
  repeat' (first | (apply G_on; exact rfl; first | (apply G1_lss; exact rfl; exact rfl; exact rfl) | (apply G1_indexAddrN; exact T.s41; exact rfl; exact rfl; (first | assumption | exact Sl.ok (by assumption) | exact (Own.sl (by assumption)).ok); omega; exact rfl) | (apply G1_loadEl; exact T.a40; exact rfl; assumption; assumption; exact rfl; exact rfl)) | apply G_nil | apply Post_next | apply W_seq | apply W_region | (apply W_cond_dec; exact rfl; all_goals (intro h; try (exfalso; omega))) | apply W_skip | apply W_block)
  all_goals try (exfalso; omega)
  apply G_on; exact rfl; apply G1_alloc; exact T.zero40; exact rfl; exact rfl; intro a5 w5 ha5 hA5 hx5 hs5
  replace hS4 := hS4.ext hx5
  replace hM := hM.ext hx5
  replace hA1 := hA1.ext hx5
  replace hA2 := hA2.ext hx5
  skip
  have hq1 := hA1.lt
  have hq2 := hA2.lt
  apply G_on; exact rfl; apply G1_storeB; exact T.z40; exact rfl; exact rfl; exact hA5; exact rfl; exact rfl; (first | exact Nat.le_of_ble_eq_true rfl | (focus (simp [Value.cells]; done))); (first | exact Enc.one _ _ | (focus (simp [Value.oneCell']; done)) | (focus (simp [Value.cells, Value.oneCell']; done)) | exact Enc.oneAgg _ _); exact rfl; (first | exact .inl rfl | exact .inr (by simp [exempt])); exact rfl; intro w6 hA6 hg6 hs6
  replace hA6 : Blk w6.heap a5 40 [.bool ow, .string sK, .string ot, .bool oh] := hA6
  have hla : b < w5.heap.size := hM.lt
  replace hM := hM.kept hg6 (fun e => by injection e; omega)
  replace hA1 := hA1.grown hg6 (fun e => by injection e with e; omega)
  replace hA2 := hA2.grown hg6 (fun e => by injection e with e; omega)
  have hx06 : Ext w w6 := hx4.trans (hx5.own hg6 (fun k hk => by injection hk; omega))
  rcases Nat.eq_zero_or_pos y with rfl | hpos
  rotate_left
  · have hk1 : metF y kLit = some (.agg #[]) := by rw [metF_at, if_neg (by omega)]
    have hMx := fun (w' : World) (hx : Ext w6 w') => hM.ext hx
    repeat' (first | (apply G_on; exact rfl; first | (apply G1_move; exact rfl; exact rfl) | (apply G1_lookV2e hk1; exact Tryz.underlying130; exact kStr; exact zero0; exact rfl; exact rfl; exact keyS; exact hMx _ (by repeat first | assumption | exact Ext.rfl' | apply Ext.drew | apply Ext.alloc | refine Ext.trans ?_ (by assumption)); exact rfl) | (apply G1_fieldAddr; exact T.f40_1; exact rfl; exact rfl) | (apply G1_loadB; exact T.p9; exact rfl; assumption; exact rfl; exact rfl) | (apply G1_extract; exact rfl; exact rfl; exact rfl)) | apply G_nil | apply Post_next | apply W_seq | apply W_region)
    have hr1 := hA1.lt
    have hr2 := hA2.lt
    have hr5 := hA6.lt
    have hrb := hM.lt
    apply G_on; exact rfl; apply G1_alloc; exact T.zero92; exact rfl; exact rfl; intro a8 w8 ha8 hA8 hx8 hs8
    replace hA1 := hA1.ext hx8
    replace hA2 := hA2.ext hx8
    replace hA6 := hA6.ext hx8
    replace hM := hM.ext hx8
    skip
    apply G_on; exact rfl; apply G1_storeB; exact T.z92; exact rfl; exact rfl; exact hA8; exact rfl; exact rfl; (first | exact Nat.le_of_ble_eq_true rfl | (focus (simp [Value.cells]; done))); (first | exact Enc.one _ _ | (focus (simp [Value.oneCell']; done)) | (focus (simp [Value.cells, Value.oneCell']; done)) | exact Enc.oneAgg _ _); exact rfl; (first | exact .inl rfl | exact .inr (by simp [exempt])); exact rfl; intro w9 hA9 hg9 hs9
    replace hA1 := hA1.grown hg9 (fun e => by injection e with e; omega)
    replace hA2 := hA2.grown hg9 (fun e => by injection e with e; omega)
    replace hA6 := hA6.grown hg9 (fun e => by injection e with e; omega)
    replace hM := hM.kept hg9 (fun e => by injection e; omega)
    have hx09 : Ext w w9 := hx06.trans (hx8.own hg9 (fun k hk => by injection hk; omega))
    have hMy := fun (w' : World) (hx : Ext w9 w') => hM.ext hx
    have hbd := hbad hpos
    repeat' (first | (apply G_on; exact rfl; first | ((first | apply G1_assign | apply G1_move); exact rfl; exact rfl) | (apply G1_build (t := 92) (.agg #[]); exact rfl; exact bld0; exact rfl) | (apply G1_putV (m := y); exact Tryz.underlying130; exact kStr; exact rfl; exact rfl; exact rfl; exact keyS; exact Nat.lt_of_le_of_lt (m := 1000) (by omega) (by decide); exact hMy _ (by repeat first | assumption | exact Ext.rfl' | apply Ext.drew | apply Ext.alloc | refine Ext.trans ?_ (by assumption)); exact rfl; exact rfl; exact rfl; intro w10 hM10 hg10) | (apply G1_fieldAddr; exact T.f40_1; exact rfl; exact rfl) | (apply G1_loadB; exact T.p9; exact rfl; assumption; exact rfl; exact rfl) | (apply G1_pick_t; exact rfl; exact rfl; exact rfl) | (apply G1_add; exact rfl; exact rfl; omega; omega; exact rfl)) | apply G_nil | apply Post_next | apply W_seq | apply W_region | (apply W_cond_true; exact rfl) | (apply G_off; exact rfl; exact rfl) | apply W_exit | apply Post_then_exit | apply Post_block_exit)
    all_goals try (exfalso; simp at h; done)
    replace hM10 : MapV Tryz.prog w10 9 b (metF (y + 1)) (y + 1) := by rw [← metF_put]; exact hM10
    have hv1 := hA1.lt
    have hv2 := hA2.lt
    exact Post_round (y + 1) ⟨rfl, rfl, rfl, rfl, rfl, rfl, trivial⟩ ⟨by omega, fun _ => hbd, hM10, hA1.grown hg10 (fun e => by injection e with e; omega), hA2.grown hg10 (fun e => by injection e with e; omega), hx09.own hg10 (fun k hk => by injection hk with hk; omega)⟩ (by omega)
  rw [ops_get0] at ho
  injection ho with ho
  injection ho with h1 h2 h3 h4
  subst h1 h3 h4
  have hk1 : metF 0 kLit = none := by rw [metF_at, if_pos rfl]
  have hMx := fun (w' : World) (hx : Ext w6 w') => hM.ext hx
  repeat' (first | (apply G_on; exact rfl; first | (apply G1_move; exact rfl; exact rfl) | (apply G1_lookV2e hk1; exact Tryz.underlying130; exact kStr; exact zero0; exact rfl; exact rfl; exact keyS; exact hMx _ (by repeat first | assumption | exact Ext.rfl' | apply Ext.drew | apply Ext.alloc | refine Ext.trans ?_ (by assumption)); exact rfl) | (apply G1_fieldAddr; exact T.f40_1; exact rfl; exact rfl) | (apply G1_loadB; exact T.p9; exact rfl; assumption; exact rfl; exact rfl) | (apply G1_extract; exact rfl; exact rfl; exact rfl)) | apply G_nil | apply Post_next | apply W_seq | apply W_region)
  have hr1 := hA1.lt
  have hr2 := hA2.lt
  have hr5 := hA6.lt
  have hrb := hM.lt
  apply G_on; exact rfl; apply G1_alloc; exact T.zero92; exact rfl; exact rfl; intro a8 w8 ha8 hA8 hx8 hs8
  replace hA1 := hA1.ext hx8
  replace hA2 := hA2.ext hx8
  replace hA6 := hA6.ext hx8
  replace hM := hM.ext hx8
  skip
  apply G_on; exact rfl; apply G1_storeB; exact T.z92; exact rfl; exact rfl; exact hA8; exact rfl; exact rfl; (first | exact Nat.le_of_ble_eq_true rfl | (focus (simp [Value.cells]; done))); (first | exact Enc.one _ _ | (focus (simp [Value.oneCell']; done)) | (focus (simp [Value.cells, Value.oneCell']; done)) | exact Enc.oneAgg _ _); exact rfl; (first | exact .inl rfl | exact .inr (by simp [exempt])); exact rfl; intro w9 hA9 hg9 hs9
  replace hA1 := hA1.grown hg9 (fun e => by injection e with e; omega)
  replace hA2 := hA2.grown hg9 (fun e => by injection e with e; omega)
  replace hA6 := hA6.grown hg9 (fun e => by injection e with e; omega)
  replace hM := hM.kept hg9 (fun e => by injection e; omega)
  have hx09 : Ext w w9 := hx06.trans (hx8.own hg9 (fun k hk => by injection hk; omega))
  have hMy := fun (w' : World) (hx : Ext w9 w') => hM.ext hx
  repeat' (first | (apply G_on; exact rfl; first | ((first | apply G1_assign | apply G1_move); exact rfl; exact rfl) | (apply G1_build (t := 92) (.agg #[]); exact rfl; exact bld0; exact rfl) | (apply G1_putV (m := 0); exact Tryz.underlying130; exact kStr; exact rfl; exact rfl; exact rfl; exact keyS; exact Nat.lt_of_le_of_lt (m := 1000) (by omega) (by decide); exact hMy _ (by repeat first | assumption | exact Ext.rfl' | apply Ext.drew | apply Ext.alloc | refine Ext.trans ?_ (by assumption)); exact rfl; exact rfl; exact rfl; intro w10 hM10 hg10; replace hA6 := hA6.grown hg10 (fun e => by injection e with e; omega)) | (apply G1_build (t := 85) (resV false ⟨#[]⟩); exact rfl; exact bldR0; exact rfl) | (apply G1_fieldAddr; (first | exact T.f40_1 | exact T.f40_0); exact rfl; exact rfl) | (apply G1_loadB; (first | exact T.p9 | exact T.p4); exact rfl; assumption; exact rfl; exact rfl) | (apply G1_pick_f; exact rfl; exact rfl; exact rfl)) | apply G_nil | apply Post_next | apply W_seq | apply W_region | (apply W_cond_false; exact rfl) | apply W_skip)
  all_goals try (exfalso; simp at h; done)
  replace hM10 : MapV Tryz.prog w10 9 b (metF 1) 1 := by rw [show metF 1 = putV (metF 0) kLit (.agg #[]) from (metF_put 0).symm]; exact hM10
  have hv1 := hA1.lt
  have hv2 := hA2.lt
  have hv5 := hA6.lt
  replace hA1 := hA1.grown hg10 (fun e => by injection e with e; omega)
  replace hA2 := hA2.grown hg10 (fun e => by injection e with e; omega)
  have hx10 : Ext w w10 := hx09.own hg10 (fun k hk => by injection hk with hk; omega)
  apply G_on; exact rfl; apply G1_alloc; exact T.zero85; exact rfl; exact rfl; intro b1 v1 hb1 hB1 hy1 ht1
  replace hA1 := hA1.ext hy1
  replace hA2 := hA2.ext hy1
  replace hA6 := hA6.ext hy1
  replace hM10 := hM10.ext hy1
  have hu1 := hA1.lt
  have hu2 := hA2.lt
  have hu5 := hA6.lt
  have hub := hM10.lt
  skip
  apply G_on; exact rfl; apply G1_storeB; exact T.z85; exact rfl; exact rfl; exact hB1; exact rfl; exact rfl; (first | exact Nat.le_of_ble_eq_true rfl | (focus (simp [Value.cells]; done))); (first | exact Enc.one _ _ | (focus (simp [Value.oneCell']; done)) | (focus (simp [Value.cells, Value.oneCell']; done)) | exact Enc.oneAgg _ _); exact rfl; (first | exact .inl rfl | exact .inr (by simp [exempt])); exact rfl; intro v2 hB2 hh2 ht2
  replace hB2 : Blk v2.heap b1 85 [.bool false, .string ⟨#[]⟩] := hB2
  replace hA1 := hA1.grown hh2 (fun e => by injection e with e; omega)
  replace hA2 := hA2.grown hh2 (fun e => by injection e with e; omega)
  replace hA6 := hA6.grown hh2 (fun e => by injection e with e; omega)
  replace hM10 := hM10.kept hh2 (fun e => by injection e with e; have := hg10.size; omega)
  have hx0v : Ext w v2 := hx10.trans (hy1.own hh2 (fun k hk => by injection hk; omega))
  have hkv : (oneF (some (.slice q ws.length d)) kLit).getD (.slice none 0 0) = .slice q ws.length d := by rw [oneF_at]; rfl
  have hKx := fun (w' : World) (hx : Ext w w') => hK.ext hx
  have hbh := fun (w' : World) (hx : Ext w w') => behind_spec (hW.ext hx) hws.com (Nat.le_of_lt hi) hl
  have hof := fun w' => of_spec ⟨false, sK, x.rt, x.rh⟩ w'
  by_cases hi0 : i = 0
  · have hb0 : badAt xs i x = !((x.rh == false) && decide (x.rt = ⟨#[]⟩)) := by rw [hi0]; rfl
    repeat' (first | (apply G_on; exact rfl; first | ((first | apply G1_assign | apply G1_move); exact rfl; exact rfl) | (apply G1_lookVk hkv; exact Tryz.underlying76; exact kStr; exact zeroW; exact rfl; exact rfl; exact keyS; exact hKx _ (by repeat first | assumption | exact Ext.rfl' | apply Ext.drew | apply Ext.alloc | refine Ext.trans ?_ (by assumption)); exact rfl) | (apply G1_call (f := 69); exact rfl; exact rfl; exact rfl; exact hbh _ (by repeat first | assumption | exact Ext.rfl' | apply Ext.drew | apply Ext.alloc | refine Ext.trans ?_ (by assumption)); rintro _ v3 ⟨rfl, hy3⟩; refine ⟨(by first | exact .inl rfl | exact .inr (by assumption)), ?_⟩; (first | replace hA6 := hA6.ext hy3 | replace hA6 := hA6.ext ((Ext.drew Ext.rfl').trans hy3)); (first | replace hB2 := hB2.ext hy3 | replace hB2 := hB2.ext ((Ext.drew Ext.rfl').trans hy3)); (first | replace hA1 := hA1.ext hy3 | replace hA1 := hA1.ext ((Ext.drew Ext.rfl').trans hy3)); (first | replace hA2 := hA2.ext hy3 | replace hA2 := hA2.ext ((Ext.drew Ext.rfl').trans hy3)); (first | replace hM10 := hM10.ext hy3 | replace hM10 := hM10.ext ((Ext.drew Ext.rfl').trans hy3))) | (apply G1_call (f := 35); exact rfl; exact rfl; exact rfl; exact hof _; rintro _ v4 ⟨rfl, hy4⟩; refine ⟨(by first | exact .inl rfl | exact .inr (by assumption)), ?_⟩; (first | replace hA6 := hA6.ext hy4 | replace hA6 := hA6.ext ((Ext.drew Ext.rfl').trans hy4)); (first | replace hB2 := hB2.ext hy4 | replace hB2 := hB2.ext ((Ext.drew Ext.rfl').trans hy4)); (first | replace hA1 := hA1.ext hy4 | replace hA1 := hA1.ext ((Ext.drew Ext.rfl').trans hy4)); (first | replace hA2 := hA2.ext hy4 | replace hA2 := hA2.ext ((Ext.drew Ext.rfl').trans hy4)); (first | replace hM10 := hM10.ext hy4 | replace hM10 := hM10.ext ((Ext.drew Ext.rfl').trans hy4))) | (apply G1_aneq; exact rfl; exact rfl; exact eqgRes; exact eq_res _ _ _ _; exact rfl) | (apply G1_fieldAddr; (first | exact T.f40_1 | exact T.f80_0 | exact T.f43_1); exact rfl; exact rfl) | (apply G1_loadB; (first | exact T.p9 | exact T.p76 | exact T.p3); exact rfl; assumption; exact rfl; exact rfl) | (apply G1_gtr; exact rfl; exact rfl; exact rfl) | (apply G1_loadBAgg; (first | exact T.a40 | exact T.a85); exact rfl; assumption; exact rfl; exact rfl) | (apply G1_add; exact rfl; exact rfl; omega; omega; exact rfl)) | apply G_nil | apply Post_next | apply W_seq | apply W_region | (apply W_cond_dec; exact rfl; all_goals (intro h; try (exfalso; omega))) | (apply W_cond; exact rfl; all_goals intro h) | refine W_drawn 1 [] [0,2,1,3] mixed (by decide +kernel) ?_ | apply W_skip | apply W_ret | apply Post_then_ret | apply Post_block_ret | apply Post_block_normal)
    all_goals try (exfalso; omega)
    · have hbt := hb0.trans h
      refine Post_ret Tryz.results32 ⟨_, _, rfl, rfl, rfl⟩ ?_
      exact ⟨by rw [hbt]; rfl, (by repeat first | assumption | exact Ext.rfl' | apply Ext.drew | apply Ext.alloc | refine Ext.trans ?_ (by assumption))⟩
    · have hbf := hb0.trans h
      exact Post_round 1 ⟨rfl, rfl, rfl, rfl, rfl, rfl, trivial⟩ ⟨by omega, fun _ => hbf, hM10, hA1, hA2, (by repeat first | assumption | exact Ext.rfl' | apply Ext.drew | apply Ext.alloc | refine Ext.trans ?_ (by assumption))⟩ (by omega)
  · obtain ⟨y, hyy⟩ := get_some (xs := ws) (k := i - 1) (by omega)
    have hb0 : badAt xs i x = !((x.rh == y.h) && decide (x.rt = y.t)) := by unfold badAt; rw [hws.seen hi0 hyy]
    repeat' (first | (apply G_on; exact rfl; first | ((first | apply G1_assign | apply G1_move); exact rfl; exact rfl) | (apply G1_lookVk hkv; exact Tryz.underlying76; exact kStr; exact zeroW; exact rfl; exact rfl; exact keyS; exact hKx _ (by repeat first | assumption | exact Ext.rfl' | apply Ext.drew | apply Ext.alloc | refine Ext.trans ?_ (by assumption)); exact rfl) | (apply G1_call (f := 69); exact rfl; exact rfl; exact rfl; exact hbh _ (by repeat first | assumption | exact Ext.rfl' | apply Ext.drew | apply Ext.alloc | refine Ext.trans ?_ (by assumption)); rintro _ v3 ⟨rfl, hy3⟩; refine ⟨(by first | exact .inl rfl | exact .inr (by assumption)), ?_⟩; (first | replace hA6 := hA6.ext hy3 | replace hA6 := hA6.ext ((Ext.drew Ext.rfl').trans hy3)); (first | replace hB2 := hB2.ext hy3 | replace hB2 := hB2.ext ((Ext.drew Ext.rfl').trans hy3)); (first | replace hA1 := hA1.ext hy3 | replace hA1 := hA1.ext ((Ext.drew Ext.rfl').trans hy3)); (first | replace hA2 := hA2.ext hy3 | replace hA2 := hA2.ext ((Ext.drew Ext.rfl').trans hy3)); (first | replace hM10 := hM10.ext hy3 | replace hM10 := hM10.ext ((Ext.drew Ext.rfl').trans hy3))) | (apply G1_indexAddrJ (q := i - 1); exact T.s86; exact rfl; exact rfl; omega; exact hwok; omega; exact rfl) | (apply G1_loadElSub (e := eWr) (q := i - 1) (off := 1) (esz := 3) (vs := eRes.enc (y.h, y.t)); exact T.a85; exact rfl; exact hW.ext (by repeat first | assumption | exact Ext.rfl' | apply Ext.drew | apply Ext.alloc | refine Ext.trans ?_ (by assumption)); exact hyy; exact rfl; exact rfl; exact rfl; exact rfl) | (apply G1_fieldAddr; (first | exact T.f40_1 | exact T.f80_0 | exact T.f43_1 | exact T.f88_1); exact rfl; exact rfl) | (apply G1_loadB; (first | exact T.p9 | exact T.p76 | exact T.p3); exact rfl; assumption; exact rfl; exact rfl) | (apply G1_gtr; exact rfl; exact rfl; exact rfl) | (apply G1_sub; exact rfl; exact rfl; omega; omega; exact rfl)) | apply G_nil | apply Post_next | apply W_seq | apply W_region | (apply W_cond_dec; exact rfl; all_goals (intro h; try (exfalso; omega))))
    all_goals try (exfalso; omega)
    have hk1 := hA1.lt
    have hk2 := hA2.lt
    have hk6 := hA6.lt
    have hkb := hM10.lt
    have hz23 := hy3.size
    apply G_on; exact rfl; apply G1_storeB; exact T.z85; exact rfl; exact rfl; exact hB2; exact rfl; exact rfl; (first | exact Nat.le_of_ble_eq_true rfl | (focus (simp [Value.cells]; done))); (first | exact Enc.one _ _ | (focus (simp [Value.oneCell']; done)) | (focus (simp [Value.cells, Value.oneCell']; done)) | exact Enc.oneAgg _ _); exact rfl; (first | exact .inl rfl | exact .inr (by simp [exempt])); exact rfl; intro v5 hB5 hg5 hs5
    replace hB5 : Blk v5.heap b1 85 [.bool y.h, .string y.t] := hB5
    replace hA1 := hA1.grown hg5 (fun e => by injection e with e; omega)
    replace hA2 := hA2.grown hg5 (fun e => by injection e with e; omega)
    replace hA6 := hA6.grown hg5 (fun e => by injection e with e; omega)
    replace hM10 := hM10.kept hg5 (fun e => by injection e; omega)
    have hx0w : Ext w v5 := (hx0v.trans (by repeat first | assumption | exact Ext.rfl' | apply Ext.drew | apply Ext.alloc | refine Ext.trans ?_ (by assumption))).own hg5 (fun k hk => by injection hk; have := hx10.size; omega)
    repeat' (first | (apply G_on; exact rfl; first | ((first | apply G1_assign | apply G1_move); exact rfl; exact rfl) | (apply G1_call (f := 35); exact rfl; exact rfl; exact rfl; exact hof _; rintro _ v4 ⟨rfl, hy4⟩; refine ⟨(by first | exact .inl rfl | exact .inr (by assumption)), ?_⟩; (first | replace hA6 := hA6.ext hy4 | replace hA6 := hA6.ext ((Ext.drew Ext.rfl').trans hy4)); (first | replace hB5 := hB5.ext hy4 | replace hB5 := hB5.ext ((Ext.drew Ext.rfl').trans hy4)); (first | replace hA1 := hA1.ext hy4 | replace hA1 := hA1.ext ((Ext.drew Ext.rfl').trans hy4)); (first | replace hA2 := hA2.ext hy4 | replace hA2 := hA2.ext ((Ext.drew Ext.rfl').trans hy4)); (first | replace hM10 := hM10.ext hy4 | replace hM10 := hM10.ext ((Ext.drew Ext.rfl').trans hy4))) | (apply G1_aneq; exact rfl; exact rfl; exact eqgRes; exact eq_res _ _ _ _; exact rfl) | (apply G1_loadBAgg; (first | exact T.a40 | exact T.a85); exact rfl; assumption; exact rfl; exact rfl) | (apply G1_add; exact rfl; exact rfl; omega; omega; exact rfl)) | apply G_nil | apply Post_next | apply W_seq | apply W_region | (apply W_cond; exact rfl; all_goals intro h) | refine W_drawn 1 [] [0,2,1,3] mixed (by decide +kernel) ?_ | apply W_skip | apply W_ret | apply Post_then_ret | apply Post_block_ret | apply Post_block_normal)
    · have hbt := hb0.trans h
      refine Post_ret Tryz.results32 ⟨_, _, rfl, rfl, rfl⟩ ?_
      exact ⟨by rw [hbt]; rfl, (by repeat first | assumption | exact Ext.rfl' | apply Ext.drew | apply Ext.alloc | refine Ext.trans ?_ (by assumption))⟩
    · have hbf := hb0.trans h
      exact Post_round 1 ⟨rfl, rfl, rfl, rfl, rfl, rfl, trivial⟩ ⟨by omega, fun _ => hbf, hM10, hA1, hA2, (by repeat first | assumption | exact Ext.rfl' | apply Ext.drew | apply Ext.alloc | refine Ext.trans ?_ (by assumption))⟩ (by omega)
end Go.Proofs.YtipbakiecocioaaGreatDoor
