/- More rules: structs compared, slices cut, made, appended to, written. -/
import Derived.Test.YtikjnmpijflnaaaDoorVPlain
namespace Go.V
open Go.RowKit

theorem bytes_beq (a b : ByteArray) : (a == b) = decide (a = b) := by
  rw [Bool.eq_iff_iff]
  simp only [decide_eq_true_eq]
  constructor
  · intro h
    have : (a.data == b.data) = true := h
    cases a; cases b; simp_all
  · rintro rfl
    show (a.data == a.data) = true
    simp

theorem eqIn_str {P : Program} {t : TypeId} (hu : StrT P t) (a b : ByteArray) (w : World) (d : Nat) : (Op.equalIn (d + 1) t (.string a) (.string b)).run P w = .ok (decide (a = b)) w := by
  simp only [Op.equalIn, Sem.run_bind, run_underlying (P := P) hu, Result.andThen_ok, bytes_beq]
  rfl
theorem eqIn_int {P : Program} {t : TypeId} {k : IntKind} (hu : IntT P t k) (a b : Int) (w : World) (d : Nat) : (Op.equalIn (d + 1) t (.int k a) (.int k b)).run P w = .ok (decide (a = b)) w := by
  simp only [Op.equalIn, Sem.run_bind, run_underlying (P := P) hu, Result.andThen_ok, if_true]
  rfl

/-- what '==' gives on two values of type t -/
def EqT (P : Program) (t : TypeId) (x y : Value) (b : Bool) : Prop := ∀ w, (Op.equal t x y).run P w = .ok b w

theorem EqT.two {P : Program} {t : TypeId} {f1 f2 : Field} {a1 a2 b1 b2 : Value} {p q : Bool} (hu : P.underlying t = some (.struct #[f1, f2])) (hs : P.stoodInHeld t = false)
    (n1 : f1.name ≠ "_") (n2 : f2.name ≠ "_") (o1 : f1.offset = 0) (o2 : f2.offset = 1) (p1 : PlainT P f1.type) (p2 : PlainT P f2.type)
    (e1 : ∀ w d, (Op.equalIn (d + 1) f1.type a1 b1).run P w = .ok p w) (e2 : ∀ w d, (Op.equalIn (d + 1) f2.type a2 b2).run P w = .ok q w) : EqT P t (.agg #[a1, a2]) (.agg #[b1, b2]) (p && q) := by
  intro w
  have key : ∀ d, (Op.equalIn (d + 1 + 1) t (.agg #[a1, a2]) (.agg #[b1, b2])).run P w = .ok (p && q) w := by
    intro d
    have q1 : (part f1.type #[a1, a2] f1.offset).run P w = .ok a1 w := by simp [part, p1 w, o1]
    have q2 : (part f1.type #[b1, b2] f1.offset).run P w = .ok b1 w := by simp [part, p1 w, o1]
    have q3 : (part f2.type #[a1, a2] f2.offset).run P w = .ok a2 w := by simp [part, p2 w, o2]
    have q4 : (part f2.type #[b1, b2] f2.offset).run P w = .ok b2 w := by simp [part, p2 w, o2]
    rw [Op.equalIn]
    simp only [Sem.run_bind, run_underlying hu, Result.andThen_ok, run_program, hs]
    simp [n1, n2, q1, q2, q3, q4, e1, e2]
    cases p <;> cases q <;> simp
  exact key 9998

section
variable {P : Program} {n : Nat} {ops : Array Oper} {dr : Nat × List Nat} {dq : Nat} {l : List Oper} {E : Env} {w : World} {K : Env → World → Prop}
variable {d : Option Nat} {ty : TypeId} {pos : String} {af : Array Edge} {g : Option (Nat × Bool)} {x y z : Operand} {k k' : IntKind} {i j : Int} {t t' u sz by_ : Nat} {v v' : Value} {p : Option Addr} {c len m : Nat} {b : Bool}

theorem G1_aeql {cs ds : Array Value} (hx : E.look x = some (.agg cs)) (hy : E.look y = some (.agg ds)) (hg : P.eqGuardType P.depth t = false) (hq : EqT P t (.agg cs) (.agg ds) b) (hd : dstOk n d = true) (h : G P n ops dr l (E.put d (.bool b)) w K) :
    G1 P n ops dr ⟨d, .binOp .eql t x y t', ty, pos, af, g⟩ l E w K :=
  G1_quiet _ hd (fun a ha w' _ => by simp [execOp, ha.eval hx, ha.eval hy, eqGuard, binOp, hg, hq w']) h
theorem G1_aneq {cs ds : Array Value} (hx : E.look x = some (.agg cs)) (hy : E.look y = some (.agg ds)) (hg : P.eqGuardType P.depth t = false) (hq : EqT P t (.agg cs) (.agg ds) b) (hd : dstOk n d = true) (h : G P n ops dr l (E.put d (.bool (!b))) w K) :
    G1 P n ops dr ⟨d, .binOp .neq t x y t', ty, pos, af, g⟩ l E w K :=
  G1_quiet _ hd (fun a ha w' _ => by simp [execOp, ha.eval hx, ha.eval hy, eqGuard, binOp, hg, hq w']) h

theorem run_equal_nil (hu : SliceT P t u sz by_) (w : World) : (Op.equal t (.slice p len c) (.slice none 0 0)).run P w = .ok p.isNone w := by
  have key : ∀ d, (Op.equalIn (d + 1) t (.slice p len c) (.slice none 0 0)).run P w = .ok p.isNone w := by
    intro d
    rw [Op.equalIn.eq_def]
    cases p <;> simp [run_underlying hu.1]
  exact key 9999
theorem G1_nileql (hu : SliceT P t u sz by_) (hx : E.look x = some (.slice p len c)) (hy : E.look y = some (.slice none 0 0)) (hd : dstOk n d = true) (h : G P n ops dr l (E.put d (.bool p.isNone)) w K) : G1 P n ops dr ⟨d, .binOp .eql t x y t', ty, pos, af, g⟩ l E w K :=
  G1_quiet _ hd (fun a ha w' _ => by simp [execOp, ha.eval hx, ha.eval hy, eqGuard, binOp, run_equal_nil hu]) h
theorem G1_nilneq (hu : SliceT P t u sz by_) (hx : E.look x = some (.slice p len c)) (hy : E.look y = some (.slice none 0 0)) (hd : dstOk n d = true) (h : G P n ops dr l (E.put d (.bool (!p.isNone))) w K) : G1 P n ops dr ⟨d, .binOp .neq t x y t', ty, pos, af, g⟩ l E w K :=
  G1_quiet _ hd (fun a ha w' _ => by simp [execOp, ha.eval hx, ha.eval hy, eqGuard, binOp, run_equal_nil hu]) h

theorem G1_convi64 (hx : E.look x = some (.int k i)) (hs : IntT P t k') (ht : IntT P t' .i64) (h1 : -9223372036854775808 ≤ i) (h2 : i ≤ 9223372036854775807) (hd : dstOk n d = true) (h : G P n ops dr l (E.put d (.int .i64 i)) w K) : G1 P n ops dr ⟨d, .convert t t' x, ty, pos, af, g⟩ l E w K :=
  G1_conv hx hs ht hd (by rw [wrap_i64 h1 h2]; exact h)
theorem G1_convu8 (hx : E.look x = some (.int k i)) (hs : IntT P t k') (ht : IntT P t' .u8) (h1 : 0 ≤ i) (h2 : i ≤ 255) (hd : dstOk n d = true) (h : G P n ops dr l (E.put d (.int .u8 i)) w K) : G1 P n ops dr ⟨d, .convert t t' x, ty, pos, af, g⟩ l E w K :=
  G1_conv hx hs ht hd (by rw [wrap_u8 h1 h2]; exact h)
theorem G1_convu64 (hx : E.look x = some (.int k i)) (hs : IntT P t k') (ht : IntT P t' .u64) (h1 : 0 ≤ i) (h2 : i ≤ 18446744073709551615) (hd : dstOk n d = true) (h : G P n ops dr l (E.put d (.int .u64 i)) w K) : G1 P n ops dr ⟨d, .convert t t' x, ty, pos, af, g⟩ l E w K :=
  G1_conv hx hs ht hd (by rw [wrap_u64 h1 h2]; exact h)

theorem G1_shrC {c : Nat} {j : Int} (hx : E.look x = some (.int k i)) (hy : E.look y = some (.int k' j)) (h0 : 0 ≤ i ∧ 0 ≤ j) (hc : 2 ^ min j.toNat k.bits = c) (hd : dstOk n d = true)
    (h : G P n ops dr l (E.put d (.int k (i / (c : Int)))) w K) : G1 P n ops dr ⟨d, .binOp .shr t x y t', ty, pos, af, g⟩ l E w K := by
  refine G1_shr hx hy h0.2 hd ?_
  have e : i.fdiv (2 ^ min j.toNat k.bits) = i / (c : Int) := by
    rw [← hc, Int.fdiv_eq_ediv_of_nonneg _ (by exact_mod_cast Nat.zero_le _)]
    push_cast
    rfl
  rw [e]; exact h

/- slices cut: s[i:], s[:j], s[i:j] -/
theorem run_slice (hu : SliceT P t u sz by_) {lo hi : Nat} {a b : Option Value} (h1 : lo ≤ hi) (h2 : hi ≤ c) (w : World)
    (ha : a = none ∧ lo = 0 ∨ ∃ k, a = some (.int k lo)) (hb : b = none ∧ hi = len ∨ ∃ k, b = some (.int k hi)) :
    (Instr.sliceAt t (.slice p len c) a b none).run P w = .ok (.slice (subp p c lo sz) (hi - lo) (c - lo)) w := by
  have e2 : (0 : Int) ≤ hi ∧ (hi : Int) ≤ c := by omega
  have e3 : (0 : Int) ≤ lo ∧ (lo : Int) ≤ hi := by omega
  have hsz := run_sizeOf_T hu w
  simp only [Instr.sliceAt, Sem.run_bind, run_underlying hu.1, Result.andThen_ok, Instr.slice, Instr.sliceBounds, Sem.run_pure]
  rcases ha with ⟨rfl, rfl⟩ | ⟨k, rfl⟩ <;> rcases hb with ⟨rfl, rfl⟩ | ⟨k2, rfl⟩ <;>
    simp [Instr.sliceBound, asIntOf, e2, e3, hsz, subp, h1]

theorem G1_sliceLo {q : Nat} (hu : SliceT P t u sz by_) (hx : E.look x = some (.slice p len c)) (hy : E.look y = some (.int k (q : Int))) (ho : Okp p len c) (hq : q ≤ len) (hd : dstOk n d = true)
    (h : G P n ops dr l (E.put d (.slice (subp p c q sz) (len - q) (c - q))) w K) : G1 P n ops dr ⟨d, .slice t x (some y) none none, ty, pos, af, g⟩ l E w K :=
  G1_quiet _ hd (fun a ha w' _ => by simp [execOp, ha.eval hx, ha.eval hy, run_slice hu hq ho.le w' (.inr ⟨k, rfl⟩) (.inl ⟨rfl, rfl⟩)]) h
theorem G1_sliceHi {q : Nat} (hu : SliceT P t u sz by_) (hx : E.look x = some (.slice p len c)) (hy : E.look y = some (.int k (q : Int))) (hq : q ≤ c) (hd : dstOk n d = true)
    (h : G P n ops dr l (E.put d (.slice (subp p c 0 sz) q c)) w K) : G1 P n ops dr ⟨d, .slice t x none (some y) none, ty, pos, af, g⟩ l E w K :=
  G1_quiet _ hd (fun a ha w' _ => by simp [execOp, ha.eval hx, ha.eval hy, run_slice hu (Nat.zero_le _) hq w' (.inl ⟨rfl, rfl⟩) (.inr ⟨k, rfl⟩)]) h
theorem G1_sliceBoth {q r : Nat} (hu : SliceT P t u sz by_) (hx : E.look x = some (.slice p len c)) (hy : E.look y = some (.int k (q : Int))) (hz : E.look z = some (.int k' (r : Int))) (hq : q ≤ r) (hr : r ≤ c) (hd : dstOk n d = true)
    (h : G P n ops dr l (E.put d (.slice (subp p c q sz) (r - q) (c - q))) w K) : G1 P n ops dr ⟨d, .slice t x (some y) (some z) none, ty, pos, af, g⟩ l E w K :=
  G1_quiet _ hd (fun a ha w' _ => by simp [execOp, ha.eval hx, ha.eval hy, ha.eval hz, run_slice hu hq hr w' (.inr ⟨k, rfl⟩) (.inr ⟨k', rfl⟩)]) h

theorem subp_zero (p : Option Addr) (c sz : Nat) : subp p c 0 sz = p := by
  unfold subp
  split
  · rfl
  · cases p <;> simp [Addr.add]

/- a row of the call's own, appended to -/
theorem run_append_nothing (hu : SliceT P t u sz by_) (ho : len ≤ c) (ty : TypeId) (w : World) : (Builtin.append_ #[t, t] ty #[.slice p len c, .slice none 0 0]).run P w = .ok (.slice p len c) w := by
  obtain ⟨h1, i, z, hi, rfl, rfl, hz, _⟩ := hu
  cases p <;> simp [Builtin.append_, run_underlying h1, sizeOf, typeInfo, hi, Builtin.lenOf, ho, Builtin.firstCells, storeCells]

theorem flat_inv {α : Type} (e : Enc α) : ∀ (xs : List α) (j : Nat) (v : Value), (xs.flatMap e.enc)[j]? = some v → ∃ i k x, j = i * e.sz + k ∧ xs[i]? = some x ∧ (e.enc x)[k]? = some v
  | [], j, v, h => by simp at h
  | x :: xs, j, v, h => by
    rw [List.flatMap_cons] at h
    by_cases hj : j < (e.enc x).length
    · rw [List.getElem?_append_left hj] at h
      exact ⟨0, j, x, by simp, rfl, h⟩
    · rw [List.getElem?_append_right (by omega), e.len] at h
      obtain ⟨i, k, y, h1, h2, h3⟩ := flat_inv e xs _ v h
      rw [e.len] at hj
      exact ⟨i + 1, k, y, by rw [Nat.add_mul]; omega, by simpa using h2, h3⟩

theorem Sl.flat {α : Type} {e : Enc α} {H : Array Obj} {p : Option Addr} {c : Nat} {xs : List α} (h : Sl H e p c xs) (j : Nat) (v : Value) (hv : (xs.flatMap e.enc)[j]? = some v) : hcell H (adr p j) = some v := by
  obtain ⟨i, k, x, rfl, h2, h3⟩ := flat_inv e xs j v hv
  exact h.cell i x h2 k v h3

/-- the row at p' lies where that at p lay, or is new -/
def NewP (w : World) (p p' : Option Addr) : Prop := blk p' = blk p ∨ ∀ k, blk p' = some k → w.heap.size ≤ k

theorem grown_trans {w w1 w2 : World} {p p' : Option Addr} (h1 : w.grownBy w1 (blk p)) (hp : NewP w p p') (h2 : w1.grownBy w2 (blk p')) : w.grownBy w2 (blk p) := by
  refine ⟨h2.os.trans h1.os, h2.tape.trans h1.tape, h2.output.trans h1.output, Nat.le_trans h1.size h2.size, fun k hk hne => ?_⟩
  rw [h2.block k (Nat.lt_of_lt_of_le hk h1.size) (fun e => ?_), h1.block k hk hne]
  rcases hp with hp | hp
  · exact hne (by rw [e, hp])
  · have := hp k e.symm; omega

theorem NewP.trans {w w1 : World} {p p' p2 : Option Addr} (h : NewP w p p') (hs : w.heap.size ≤ w1.heap.size) (h2 : NewP w1 p' p2) : NewP w p p2 := by
  rcases h2 with h2 | h2
  · rcases h with h | h
    · exact .inl (h2.trans h)
    · exact .inr (fun k hk => h k (by rw [← h2]; exact hk))
  · exact .inr (fun k hk => Nat.le_trans hs (h2 k hk))

theorem grown_ext {w w1 w2 : World} {row : Option Nat} (h1 : w.grownBy w1 row) (h2 : Ext w1 w2) : w.grownBy w2 row :=
  ⟨h2.os.trans h1.os, h2.tape.trans h1.tape, h2.output.trans h1.output, Nat.le_trans h1.size h2.size, fun k hk hne => (h2.block k (Nat.lt_of_lt_of_le hk h1.size)).trans (h1.block k hk hne)⟩
theorem ext_grown {w w1 w2 : World} {row : Option Nat} (h1 : Ext w w1) (h2 : w1.grownBy w2 row) : w.grownBy w2 row :=
  ⟨h2.os.trans h1.os, h2.tape.trans h1.tape, h2.output.trans h1.output, Nat.le_trans h1.size h2.size, fun k hk hne => (h2.block k (Nat.lt_of_lt_of_le hk h1.size) hne).trans (h1.block k hk)⟩
/-- a block that the call made itself may be turned: what was there stays -/
theorem Ext.own {w w1 w2 : World} {row : Option Nat} (h1 : Ext w w1) (h2 : w1.grownBy w2 row) (hr : ∀ k, row = some k → w.heap.size ≤ k) : Ext w w2 :=
  ⟨h2.os.trans h1.os, h2.tape.trans h1.tape, h2.output.trans h1.output, Nat.le_trans h1.size h2.size, fun k hk => (h2.block k (Nat.lt_of_lt_of_le hk h1.size) (fun e => by have := hr k e.symm; omega)).trans (h1.block k hk)⟩

theorem run_append {α : Type} {e : Enc α} {B : Nat} {xs ys : List α} {q : Option Addr} {c2 : Nat} (hu : SliceT P t u sz by_) (hsz : e.sz = sz) (hB : B ≤ w.heap.size) (hown : Own w B u e p c xs) (hsl : Sl w.heap e q c2 ys)
    (hlen : (xs.length + ys.length) * by_ ≤ 140737488355328) (hmax : xs.length + ys.length ≤ 9223372036854775807) (ty : TypeId) :
    ∃ p' c' w', (Builtin.append_ #[t, t] ty #[.slice p xs.length c, .slice q ys.length c2]).run P w = .ok (.slice p' (xs ++ ys).length c') w' ∧ Own w' B u e p' c' (xs ++ ys) ∧ w.grownBy w' (blk p) ∧ NewP w p p' := by
  cases q with
  | none =>
    have h1 := hsl.ok.nul rfl
    have h2 := hsl.ok.le
    obtain rfl : ys = [] := List.eq_nil_of_length_eq_zero (by omega)
    subst h1
    refine ⟨p, c, w, ?_, by simpa using hown, ⟨rfl, rfl, rfl, Nat.le_refl _, fun _ _ _ => rfl⟩, .inl rfl⟩
    have := run_append_nothing (p := p) (len := xs.length) (c := c) hu hown.sl.ok.le ty w
    simpa using this
  | some a =>
    have hn : ∀ j v, (ys.flatMap e.enc)[j]? = some v → w.cell? (a.add j) = some v := by
      intro j v hv
      have hne : 0 < ys.length := by cases ys <;> simp_all
      have hspot := hsl.ok.spot a rfl (by have := hsl.ok.le; omega)
      have hc := hsl.flat j v hv
      obtain ⟨b, o, s⟩ := a
      simp only at hspot
      subst hspot
      rw [addr_add]; exact hc
    obtain ⟨h1, i, z, hi, hs1, hb1, hz, hz2⟩ := hu
    subst hsz
    obtain ⟨v', w', hr, h2, h3, _⟩ := run_append_own (P := P) w B t ty u i z e.sz by_ h1 hi hz hs1 hb1 hz2 e.pos (.slice p xs.length c) xs.length (xs.flatMap e.enc) hown a ys.length c2 (ys.flatMap e.enc)
      (flat_len e ys) hn (flat_one e ys) (by simp only [maxLen]; omega) hlen hB
    have hform : ∃ p' c', v' = .slice p' (xs ++ ys).length c' := by
      rcases h2.2 with ⟨rfl, hn⟩ | ⟨g, cap, cur, rfl, _⟩
      · exact ⟨none, 0, by rw [List.length_append, hn]⟩
      · exact ⟨some ⟨g, 0, none⟩, cap, by rw [List.length_append]⟩
    obtain ⟨p', c', rfl⟩ := hform
    refine ⟨p', c', w', hr, ?_, ?_, ?_⟩
    · unfold Own
      rw [List.flatMap_append]
      simpa using h2
    rotate_left
    · rcases hown.2 with ⟨hv, hn0⟩ | ⟨g, cap, cur, hv, hbg, hg, hnc, hcm, hcs, htake⟩
      · injection hv with e1 e2 e3
        subst e1 e3
        by_cases hm : ys.length = 0
        · obtain rfl : ys = [] := List.eq_nil_of_length_eq_zero hm
          have e4 : (Builtin.append_ #[t, t] ty #[.slice none xs.length 0, .slice (some a) ([] : List α).length c2]).run P w = .ok (.slice none xs.length 0) w := by
            simp [Builtin.append_, run_underlying h1, sizeOf, typeInfo, hi, Builtin.lenOf, hn0, Builtin.firstCells, loadCells, loadCellsFrom]
          rw [e4] at hr
          injection hr with e5 _
          injection e5 with e6 _ _
          exact .inl (by rw [← e6])
        · have hr2 := run_append_nil (P := P) w t ty u i z h1 hi hz a ys.length c2 (ys.flatMap e.enc) (by rw [hs1]; exact flat_len e ys) hn (by omega) (by omega) (by rw [hb1]; have := hlen; rw [hn0, Nat.zero_add] at this; omega)
          rw [hn0] at hr
          rw [hr2] at hr
          injection hr with e5 _
          injection e5 with e6 _ _
          exact .inr (fun k hk => by rw [← e6] at hk; simp [blk] at hk; omega)
      · injection hv with e1 e2 e3
        subst e1 e3
        by_cases hroom : xs.length + ys.length ≤ c
        · have hr2 := run_append_room (P := P) w t ty u i h1 hi g xs.length c cur hg a ys.length c2 (ys.flatMap e.enc) (by rw [hs1]; exact flat_len e ys) hn (flat_one e ys) hroom
            (by rw [hs1, hcs, flat_len, ← Nat.add_mul]; exact Nat.mul_le_mul_right _ hroom)
          rw [hr2] at hr
          injection hr with e5 _
          injection e5 with e6 _ _
          exact .inl (by rw [← e6])
        · have hr2 := run_append_grow (P := P) w t ty u i z h1 hi hz ⟨g, 0, none⟩ xs.length c (xs.flatMap e.enc) (by rw [hs1]; exact flat_len e xs) (fun j v hv => by rw [addr_add]; exact hown.sl.flat j v hv) a ys.length c2 (ys.flatMap e.enc) (by rw [hs1]; exact flat_len e ys) hn (by omega) (by omega) (growslice_fits (by omega) (by rw [hb1]; exact hlen))
          rw [hr2] at hr
          injection hr with e5 _
          injection e5 with e6 _ _
          exact .inr (fun k hk => by rw [← e6] at hk; simp [blk] at hk; omega)
    · have e1 : Value.ownBlock (.slice p xs.length c) = blk p := by cases p <;> rfl
      rw [e1] at h3
      exact h3

theorem G1_append {α : Type} {e : Enc α} {B : Nat} {xs ys : List α} {q : Option Addr} {c2 : Nat} (hu : SliceT P t u sz by_) (hx : E.look x = some (.slice p xs.length c)) (hy : E.look y = some (.slice q ys.length c2)) (hown : Own w B u e p c xs) (hsl : Sl w.heap e q c2 ys)
    (hsz : e.sz = sz) (hB : B ≤ w.heap.size) (hlen : (xs.length + ys.length) * by_ ≤ 140737488355328) (hmax : xs.length + ys.length ≤ 9223372036854775807)
    (he : effects P dr.1 ⟨d, .call ⟨.builtin .append, #[x, y], #[t, t]⟩, ty, pos, af, g⟩ = true) (hw : writes dr.1 ⟨d, .call ⟨.builtin .append, #[x, y], #[t, t]⟩, ty, pos, af, g⟩ = true) (hd : dstOk n d = true)
    (h : ∀ p' c' w', Own w' B u e p' c' (xs ++ ys) → w.grownBy w' (blk p) → NewP w p p' → G P n ops dr l (E.put d (.slice p' (xs ++ ys).length c')) w' K) : G1 P n ops dr ⟨d, .call ⟨.builtin .append, #[x, y], #[t, t]⟩, ty, pos, af, g⟩ l E w K := by
  obtain ⟨p', c', w', hr, h1, h2, h3⟩ := run_append hu hsz hB hown hsl hlen hmax ty
  exact G1_eff _ w' he hd (fun a ha => by simp [execOp, resolve, invoke, builtin, ha.eval hx, ha.eval hy, hr]) (.inl hw) (h p' c' w' h1 h2 h3)

/-- a slice of one element, made anew -/
theorem G1_build1 {α : Type} (e : Enc α) (el : α) (hu : SliceT P t u sz by_) (hx : E.look x = some v) (hc : v.cells.toList = e.enc el) (hsz : e.sz = sz) (hs24 : sz ≤ 1000)
    (he : effects P dr.1 ⟨d, .buildSlice t 1 #[(0, x)], ty, pos, af, g⟩ = true) (hd : dstOk n d = true)
    (h : ∀ p' w', p' = some ⟨w.heap.size, 0, none⟩ → Sl w'.heap e p' 1 [el] → Blk w'.heap w.heap.size u (e.enc el) → Ext w w' → w'.heap.size = w.heap.size + 1 → G P n ops dr l (E.put d (.slice p' [el].length 1)) w' K) :
    G1 P n ops dr ⟨d, .buildSlice t 1 #[(0, x)], ty, pos, af, g⟩ l E w K := by
  subst hsz
  have hpos := e.pos
  obtain ⟨h1, i, z, hi, hs1, hb1, hz, hz2⟩ := hu
  have hvs : v.cells.size = e.sz := by rw [← e.len el, ← hc]; simp
  have hve : v.cells = (e.enc el).toArray := by rw [← hc]
  have hB : Blk (w.alloc (.cells (e.enc el).toArray u)).heap w.heap.size u (e.enc el) := by unfold Blk; exact heap_alloc_new w _
  refine G1_eff _ (w.alloc (.cells (e.enc el).toArray u)) he hd (fun a ha => ?_) (.inr (Ext.alloc Ext.rfl' _).toS) (h _ _ rfl ?_ hB (Ext.alloc Ext.rfl' _) (by simp))
  · have hfill : ∀ cells : Array Value, cells.size = e.sz → Instr.fill (fun i => some (i * e.sz, e.sz)) cells [(0, v)] = some (e.enc el).toArray := by
      intro cells hcs
      simp only [Instr.fill, hvs, Nat.zero_mul, Nat.zero_add, hcs]
      simp only [ne_eq, not_true_eq_false, decide_false, Bool.false_or, gt_iff_lt, Nat.lt_irrefl, Bool.false_eq_true, if_false, Option.some.injEq]
      rw [hve]
      apply Array.ext'
      rw [← Array.foldl_toList]
      have key : ∀ (l : List Value) (k : Nat) (cs : Array Value), k + l.length ≤ cs.size →
          ((l.zipIdx k).foldl (fun cs (x : Value × Nat) => cs.setIfInBounds x.2 x.1) cs).toList = cs.toList.take k ++ l ++ cs.toList.drop (k + l.length) := by
        intro l
        induction l with
        | nil => intro k cs _; simp
        | cons y l ih =>
          intro k cs hk
          simp only [List.length_cons] at hk
          rw [List.zipIdx_cons, List.foldl_cons, ih (k + 1) _ (by simp; omega)]
          apply List.ext_getElem?
          intro j
          simp only [Array.toList_setIfInBounds]
          simp only [List.getElem?_append, List.getElem?_take, List.getElem?_drop, List.length_take, List.length_append, List.length_cons, List.getElem?_set, List.length_set, Array.length_toList, List.getElem?_cons]
          by_cases hj : j < k
          · simp [hj, show j < min k cs.size by omega, show j < min (k + 1) cs.size + l.length by omega, show j < min (k + 1) cs.size by omega, show j < k + 1 by omega, show k ≠ j by omega, show j < min k cs.size + (l.length + 1) by omega]
          · by_cases hj2 : j = k
            · subst hj2
              simp [show j < min (j + 1) cs.size by omega, show j < min (j + 1) cs.size + l.length by omega, show j < cs.size by omega, show ¬ j < min j cs.size by omega, show j < min j cs.size + (l.length + 1) by omega, show j - min j cs.size = 0 by omega]
            · have e1 : min (k + 1) cs.size = k + 1 := by omega
              have e2 : min k cs.size = k := by omega
              rw [e1, e2]
              have e3 : k + (l.length + 1) = k + 1 + l.length := by omega
              simp only [show ¬ j < k + 1 by omega, show ¬ j < k by omega, if_false, e3]
              by_cases hj3 : j < k + 1 + l.length
              · simp [hj3, show j - k ≠ 0 by omega, show j - k - 1 = j - (k + 1) by omega]
              · have e4 : k + 1 + l.length + (j - (k + 1 + l.length)) = j := by omega
                simp [hj3, e4, show k ≠ j by omega]
      have := key (e.enc el) 0 cells (by rw [e.len]; omega)
      simp only [List.take_zero, List.nil_append, Nat.zero_add, e.len] at this
      have hdrop : cells.toList.drop e.sz = [] := by rw [List.drop_eq_nil_iff]; simp [hcs]
      rw [hdrop, List.append_nil] at this
      simpa using this
    have hcells : ((Array.range (1 * e.sz)).map (z.cells[· % z.cells.size]!)).size = e.sz := by simp
    simp only [execOp, Instr.buildSlice, Sem.run_bind, run_underlying h1, Result.andThen_ok, sizeOf, typeInfo, run_program, hi, Sem.run_pure, hs1, zeroValue]
    have h24 : ¬ (1 * e.sz > 2 ^ 24) := by omega
    have h0 : ¬ (1 * e.sz = 0) := by omega
    simp only [h24, h0, if_false, Sem.run_pure, Result.andThen_ok, Sem.run_bind, run_program, hi, hz]
    simp only [List.map_toArray, List.map_cons, List.map_nil, ha.eval hx]
    rw [hfill _ hcells]
    simp [newRow, newObj, Sem.run]
  · refine ⟨⟨by simp, by simp [maxLen], (fun h => by cases h), (fun a ha _ => by simp at ha; rw [← ha])⟩, fun i' x' hi' k' v' hv' => ?_⟩
    have : i' = 0 := by have := get_lt hi'; simp at this; omega
    subst this
    simp at hi'
    subst hi'
    simpa using hB.cell hv'

/-- an empty slice, made anew -/
theorem G1_build0 {α : Type} (e : Enc α) (hu : SliceT P t u sz by_) (he : effects P dr.1 ⟨d, .buildSlice t 0 #[], ty, pos, af, g⟩ = true) (hd : dstOk n d = true)
    (h : ∀ p' w', Own w' w.heap.size u e p' 0 [] → Ext w w' → w'.heap.size = w.heap.size + 1 → G P n ops dr l (E.put d (.slice p' ([] : List α).length 0)) w' K) : G1 P n ops dr ⟨d, .buildSlice t 0 #[], ty, pos, af, g⟩ l E w K := by
  obtain ⟨h1, i, z, hi, hs1, hb1, hz, hz2⟩ := hu
  refine G1_eff _ (w.alloc (.cells #[] u)) he hd (fun a ha => ?_) (.inr (Ext.alloc Ext.rfl' _).toS) (h (some ⟨w.heap.size, 0, none⟩) _ ?_ (Ext.alloc Ext.rfl' _) (by simp))
  · simp [execOp, Instr.buildSlice, run_underlying h1, sizeOf, typeInfo, hi, Instr.fill, newRow, newObj, Sem.run]
    have e0 : Array.map (fun _ => (default : Value)) (Array.range 0) = #[] := by simp
    rw [e0]
  · exact World.ownsRow_made w #[] 0 (Nat.le_refl _) (by simp [maxLen]) (by simp)

end
theorem Own.base {α : Type} {e : Enc α} {w : World} {B B' T : Nat} {p : Option Addr} {c : Nat} {xs : List α} (h : Own w B T e p c xs) (hb : B' ≤ B) : Own w B' T e p c xs := by
  obtain ⟨h1, h2⟩ := h
  refine ⟨h1, ?_⟩
  rcases h2 with h2 | ⟨g, cap, cur, h3, h4, h5⟩
  · exact .inl h2
  · exact .inr ⟨g, cap, cur, h3, Nat.le_trans hb h4, h5⟩
/-- a box that is older than a row's first possible block is none of its blocks -/
theorem Own.ne {α : Type} {e : Enc α} {w : World} {B T : Nat} {p : Option Addr} {c : Nat} {xs : List α} (h : Own w B T e p c xs) {b : Nat} (hb : b < B) : ∀ a, p = some a → some b ≠ some a.block := by
  rintro a rfl e
  have := (h.ge a.block rfl).1
  simp only [Option.some.injEq] at e
  omega
/-- a box that is newer than all that a slice lies in -/
theorem Sl.ne {α : Type} {e : Enc α} {H : Array Obj} {p : Option Addr} {c : Nat} {xs : List α} (h : Sl H e p c xs) {b : Nat} (hb : H.size ≤ b) : ∀ a, p = some a → xs ≠ [] → some b ≠ some a.block := by
  rintro a rfl hne e'
  obtain ⟨x, hx⟩ := get_some (xs := xs) (k := 0) (by cases xs <;> simp_all)
  have hlen : 0 < (e.enc x).length := by rw [e.len]; exact e.pos
  have := hcell_lt (h.cell 0 x hx 0 _ (List.getElem?_eq_getElem hlen))
  simp only [adr] at this
  simp only [Option.some.injEq] at e'
  omega

theorem Enc.oneAgg {α : Type} (e : Enc α) (x : α) : ∀ v ∈ (Value.agg (e.enc x).toArray).cells.toList, v.oneCell' = true := e.one x

/- the kinds of elements -/
def ePair : Enc (ByteArray × ByteArray) := ⟨2, fun p => [.string p.1, .string p.2], fun _ => rfl, fun _ v hv => by simp at hv; rcases hv with rfl | rfl <;> rfl, by decide⟩
def eStr : Enc ByteArray := ⟨1, fun p => [.string p], fun _ => rfl, fun _ v hv => by simp at hv; rw [hv]; rfl, by decide⟩
def eMem : Enc (Int × ByteArray) := ⟨2, fun p => [.int .i64 p.1, .string p.2], fun _ => rfl, fun _ v hv => by simp at hv; rcases hv with rfl | rfl <;> rfl, by decide⟩
def eInt : Enc Int := ⟨1, fun p => [.int .i64 p], fun _ => rfl, fun _ v hv => by simp at hv; rw [hv]; rfl, by decide⟩
def eBool : Enc Bool := ⟨1, fun p => [.bool p], fun _ => rfl, fun _ v hv => by simp at hv; rw [hv]; rfl, by decide⟩
def eByte : Enc UInt8 := ⟨1, fun p => [.int .u8 p.toNat], fun _ => rfl, fun _ v hv => by simp at hv; rw [hv]; rfl, by decide⟩

attribute [irreducible] NewP
end Go.V
