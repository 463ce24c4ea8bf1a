/- Rules for the operations, one each. -/
import Derived.Test.YtikjnmpijflnaaaDoorVEnv
namespace Go.V
open Go.RowKit

/- types, as the program's tables have them -/
def IntT (P : Program) (t : TypeId) (k : IntKind) : Prop := P.underlying t = some (.int k)
def SliceT (P : Program) (t e sz by_ : Nat) : Prop :=
  P.underlying t = some (.slice e) ∧ ∃ i z, P.info? e = some i ∧ i.size = sz ∧ i.bytes = by_ ∧ i.zero = some z ∧ z.cells.size = sz
def PlainT (P : Program) (t : TypeId) : Prop := ∀ w, (isAgg t).run P w = .ok false w
def AggT (P : Program) (t sz : Nat) : Prop := (∀ w, (isAgg t).run P w = .ok true w) ∧ ∃ i, P.info? t = some i ∧ i.size = sz
def SizeT (P : Program) (t sz : Nat) : Prop := ∃ i, P.info? t = some i ∧ i.size = sz
def StrT (P : Program) (t : TypeId) : Prop := P.underlying t = some .string
/-- field k of struct type t lies at cell off, and is of one cell (no struct, no array) -/
def FieldT (P : Program) (t k off : Nat) : Prop := ∃ fs f, P.underlying t = some (.struct fs) ∧ fs[k]? = some f ∧ f.offset = off ∧ ∃ i, P.info? f.type = some i ∧ i.size ≠ 0

theorem SliceT.of {P : Program} {t e sz by_ : Nat} (h1 : P.underlying t = some (.slice e)) (h2 : (P.info? e).map (fun i => (i.size, i.bytes, i.zero.map (·.cells.size))) = some (sz, by_, some sz)) : SliceT P t e sz by_ := by
  refine ⟨h1, ?_⟩
  cases hi : P.info? e with
  | none => simp [hi] at h2
  | some i =>
    simp only [hi, Option.map_some, Option.some.injEq, Prod.mk.injEq] at h2
    obtain ⟨a, b, c⟩ := h2
    cases hz : i.zero with
    | none => simp [hz] at c
    | some z => simp only [hz, Option.map_some, Option.some.injEq] at c; exact ⟨i, z, rfl, a, b, hz, c⟩

theorem PlainT.of {P : Program} {t : TypeId} {d : TypeDesc} (h : P.underlying t = some d) (hd : (match d with | .struct _ => false | .array _ _ => false | _ => true) = true) : PlainT P t := by
  intro w
  unfold isAgg
  simp only [Sem.run_bind, run_underlying h, Result.andThen_ok]
  cases d <;> simp_all

theorem AggT.of {P : Program} {t sz : Nat} {d : TypeDesc} (h : P.underlying t = some d) (hd : (match d with | .struct _ => true | .array _ _ => true | _ => false) = true) (hs : (P.info? t).map (·.size) = some sz) : AggT P t sz := by
  refine ⟨fun w => ?_, ?_⟩
  · unfold isAgg
    simp only [Sem.run_bind, run_underlying h, Result.andThen_ok]
    cases d <;> simp_all
  · cases hi : P.info? t with
    | none => simp [hi] at hs
    | some i => exact ⟨i, by first | rfl | exact hi, by simpa [hi] using hs⟩

theorem SizeT.of {P : Program} {t sz : Nat} (hs : (P.info? t).map (·.size) = some sz) : SizeT P t sz := by
  cases hi : P.info? t with
  | none => simp [hi] at hs
  | some i => exact ⟨i, by first | rfl | exact hi, by simpa [hi] using hs⟩

def fieldOf (P : Program) (t k : Nat) : Option (Nat × Bool) :=
  match P.underlying t with
  | some (.struct fs) => match fs[k]? with
    | some f => match P.info? f.type with
      | some i => some (f.offset, i.size != 0)
      | none => none
    | none => none
  | _ => none

theorem FieldT.of {P : Program} {t k off : Nat} (h : fieldOf P t k = some (off, true)) : FieldT P t k off := by
  unfold fieldOf at h
  split at h
  · rename_i fs h1
    split at h
    · rename_i f h2
      split at h
      · rename_i i h3
        simp at h
        exact ⟨fs, f, h1, h2, h.1, i, h3, h.2⟩
      · simp at h
    · simp at h
  · simp at h

/- strings -/
def blt (s t : ByteArray) : Bool := Op.bytesLess s.data.toList t.data.toList
def bget (s : ByteArray) (i : Nat) : UInt8 := s.data.getD i 0

theorem toList_data (s : ByteArray) : s.toList = s.data.toList := by simp [ByteArray.toList_eq]

theorem str_eq (s t : ByteArray) : (s.toList == t.toList) = decide (s = t) := by
  rw [Bool.eq_iff_iff]
  simp only [toList_data, beq_iff_eq, decide_eq_true_eq]
  constructor
  · intro h; cases s; cases t; simp_all
  · rintro rfl; rfl

theorem bytesLess_irrefl : ∀ l : List UInt8, Op.bytesLess l l = false
  | [] => rfl
  | a :: l => by simp [Op.bytesLess, bytesLess_irrefl l]

theorem bytesLess_trans : ∀ {a b c : List UInt8}, Op.bytesLess a b = true → Op.bytesLess b c = true → Op.bytesLess a c = true
  | _, [], _, h, _ => by simp [Op.bytesLess] at h
  | _, _ :: _, [], _, h => by simp [Op.bytesLess] at h
  | [], _ :: _, _ :: _, _, _ => by simp [Op.bytesLess]
  | x :: a, y :: b, z :: c, h, k => by
    simp only [Op.bytesLess, Bool.or_eq_true, decide_eq_true_eq, Bool.and_eq_true, beq_iff_eq] at h k ⊢
    rcases h with h | ⟨rfl, h⟩
    · rcases k with k | ⟨rfl, k⟩
      · exact .inl (UInt8.lt_trans h k)
      · exact .inl h
    · rcases k with k | ⟨rfl, k⟩
      · exact .inl k
      · exact .inr ⟨rfl, bytesLess_trans h k⟩

theorem bytesLess_total : ∀ (a b : List UInt8), Op.bytesLess a b = true ∨ a = b ∨ Op.bytesLess b a = true
  | [], [] => .inr (.inl rfl)
  | [], _ :: _ => .inl rfl
  | _ :: _, [] => .inr (.inr rfl)
  | x :: a, y :: b => by
    simp only [Op.bytesLess, Bool.or_eq_true, decide_eq_true_eq, Bool.and_eq_true, beq_iff_eq, List.cons.injEq]
    by_cases h1 : x < y
    · exact .inl (.inl h1)
    · by_cases h2 : y < x
      · exact .inr (.inr (.inl h2))
      · have : x = y := by
          apply UInt8.toNat_inj.1
          have h1' : ¬ x.toNat < y.toNat := h1
          have h2' : ¬ y.toNat < x.toNat := h2
          omega
        subst this
        rcases bytesLess_total a b with h | h | h
        · exact .inl (.inr ⟨rfl, h⟩)
        · exact .inr (.inl ⟨rfl, h⟩)
        · exact .inr (.inr (.inr ⟨rfl, h⟩))

theorem blt_irrefl (s : ByteArray) : blt s s = false := bytesLess_irrefl _
theorem blt_trans {a b c : ByteArray} (h : blt a b = true) (k : blt b c = true) : blt a c = true := bytesLess_trans h k
theorem blt_total (a b : ByteArray) : blt a b = true ∨ a = b ∨ blt b a = true := by
  rcases bytesLess_total a.data.toList b.data.toList with h | h | h
  · exact .inl h
  · refine .inr (.inl ?_); cases a; cases b; simp_all
  · exact .inr (.inr h)
theorem blt_asymm {a b : ByteArray} (h : blt a b = true) : blt b a = false := by
  cases hb : blt b a with
  | false => rfl
  | true => have := blt_trans h hb; rw [blt_irrefl] at this; cases this
theorem blt_ne {a b : ByteArray} (h : blt a b = true) : a ≠ b := by
  rintro rfl; rw [blt_irrefl] at h; cases h
theorem blt_or_eq (a b : ByteArray) : (blt a b || decide (a = b)) = !(blt b a) := by
  rcases blt_total a b with h | h | h
  · simp [h, blt_asymm h]
  · subst h; simp [blt_irrefl]
  · simp [h, blt_asymm h, (blt_ne h).symm]

/- addresses -/
def adr (p : Option Addr) (k : Nat) : Addr := match p with
  | some a => ⟨a.block, a.off + k, none⟩
  | none => ⟨0, k, none⟩

theorem adr_add (p : Option Addr) (k m : Nat) : (adr p k).add m = adr p (k + m) := by
  cases p <;> simp [adr, Addr.add, Nat.add_assoc] <;> (intro h; simp [h])

theorem addr_add (b o k : Nat) : (⟨b, o, none⟩ : Addr).add k = ⟨b, o + k, none⟩ := by
  unfold Addr.add; split <;> simp_all

theorem wrap_i64 {n : Int} (h1 : -9223372036854775808 ≤ n) (h2 : n ≤ 9223372036854775807) : IntKind.i64.wrap n = n := IntWalk.i64_in n ⟨h1, h2⟩
theorem wrap_u8 {n : Int} (h1 : 0 ≤ n) (h2 : n ≤ 255) : IntKind.u8.wrap n = n := IntWalk.u8_in n ⟨h1, h2⟩
theorem wrap_u64 {n : Int} (h1 : 0 ≤ n) (h2 : n ≤ 18446744073709551615) : IntKind.u64.wrap n = n := IntWalk.u64_in n ⟨h1, h2⟩

theorem stringOp_gtr (s u : ByteArray) : Op.stringOp .gtr s u = pure (.bool (blt u s)) := by
  have := blt_or_eq s u
  have e : (Op.bytesLess s.toList u.toList || s.toList == u.toList) = !(blt u s) := by rw [str_eq, ← this]; simp only [toList_data]; rfl
  simp only [Op.stringOp, e, Bool.not_not]
theorem stringOp_leq (s u : ByteArray) : Op.stringOp .leq s u = pure (.bool (!(blt u s))) := by
  have := blt_or_eq s u
  have e : (Op.bytesLess s.toList u.toList || s.toList == u.toList) = !(blt u s) := by rw [str_eq, ← this]; simp only [toList_data]; rfl
  simp only [Op.stringOp, e]
theorem eqIn_bool {P : Program} {t : TypeId} (hu : P.underlying t = some .bool) (b b' : Bool) (w : World) (d : Nat) : (Op.equalIn (d + 1) t (.bool b) (.bool b')).run P w = .ok (b == b') w := by
  simp only [Op.equalIn, Sem.run_bind, run_underlying hu, Result.andThen_ok]; rfl
theorem run_equal_bool {P : Program} {t : TypeId} (hu : P.underlying t = some .bool) (b b' : Bool) (w : World) : (Op.equal t (.bool b) (.bool b')).run P w = .ok (b == b') w := by
  exact eqIn_bool hu b b' w 9999

section
variable {P : Program} {n : Nat} {ops : Array Oper} {dr : Nat × List Nat} {l : List Oper} {E : Env} {w : World} {K : Env → World → Prop}
variable {d : Option Nat} {ty : TypeId} {pos : String} {af : Array Edge} {g : Option (Nat × Bool)} {x y c : Operand} {k k' k2 : IntKind} {i j m : Int} {t t' t2 : TypeId} {v v2 : Value}

theorem G1_move (hx : E.look x = some v) (hd : dstOk n d = true) (h : G P n ops dr l (E.put d v) w K) : G1 P n ops dr ⟨d, .move x, ty, pos, af, g⟩ l E w K :=
  G1_quiet v hd (fun a ha w' _ => by simp [execOp, ha.eval hx]) h
theorem G1_assign (hx : E.look x = some v) (hd : dstOk n d = true) (h : G P n ops dr l (E.put d v) w K) : G1 P n ops dr ⟨d, .assign x, ty, pos, af, g⟩ l E w K :=
  G1_quiet v hd (fun a ha w' _ => by simp [execOp, ha.eval hx]) h
theorem G1_pick_t (hc : E.look c = some (.bool true)) (hx : E.look x = some v) (hd : dstOk n d = true) (h : G P n ops dr l (E.put d v) w K) : G1 P n ops dr ⟨d, .pick c x y, ty, pos, af, g⟩ l E w K :=
  G1_quiet v hd (fun a ha w' _ => by simp [execOp, ha.eval hx, ha.eval hc, asBool]) h
theorem G1_pick_f (hc : E.look c = some (.bool false)) (hx : E.look y = some v) (hd : dstOk n d = true) (h : G P n ops dr l (E.put d v) w K) : G1 P n ops dr ⟨d, .pick c x y, ty, pos, af, g⟩ l E w K :=
  G1_quiet v hd (fun a ha w' _ => by simp [execOp, ha.eval hx, ha.eval hc, asBool]) h

/- integers -/
theorem G1_eql (hx : E.look x = some (.int k i)) (hy : E.look y = some (.int k j)) (hd : dstOk n d = true) (h : G P n ops dr l (E.put d (.bool (decide (i = j)))) w K) : G1 P n ops dr ⟨d, .binOp .eql t x y t', ty, pos, af, g⟩ l E w K :=
  G1_quiet _ hd (fun a ha w' _ => by simp [execOp, ha.eval hx, ha.eval hy, eqGuard, binOp, Op.intCmp]; rfl) h
theorem G1_neq (hx : E.look x = some (.int k i)) (hy : E.look y = some (.int k j)) (hd : dstOk n d = true) (h : G P n ops dr l (E.put d (.bool (decide (¬ i = j)))) w K) : G1 P n ops dr ⟨d, .binOp .neq t x y t', ty, pos, af, g⟩ l E w K :=
  G1_quiet _ hd (fun a ha w' _ => by simp [execOp, ha.eval hx, ha.eval hy, eqGuard, binOp, Op.intCmp]; rfl) h
theorem G1_lss (hx : E.look x = some (.int k i)) (hy : E.look y = some (.int k j)) (hd : dstOk n d = true) (h : G P n ops dr l (E.put d (.bool (decide (i < j)))) w K) : G1 P n ops dr ⟨d, .binOp .lss t x y t', ty, pos, af, g⟩ l E w K :=
  G1_quiet _ hd (fun a ha w' _ => by simp [execOp, ha.eval hx, ha.eval hy, eqGuard, binOp, Op.intCmp]) h
theorem G1_leq (hx : E.look x = some (.int k i)) (hy : E.look y = some (.int k j)) (hd : dstOk n d = true) (h : G P n ops dr l (E.put d (.bool (decide (i ≤ j)))) w K) : G1 P n ops dr ⟨d, .binOp .leq t x y t', ty, pos, af, g⟩ l E w K :=
  G1_quiet _ hd (fun a ha w' _ => by simp [execOp, ha.eval hx, ha.eval hy, eqGuard, binOp, Op.intCmp]) h
theorem G1_gtr (hx : E.look x = some (.int k i)) (hy : E.look y = some (.int k j)) (hd : dstOk n d = true) (h : G P n ops dr l (E.put d (.bool (decide (j < i)))) w K) : G1 P n ops dr ⟨d, .binOp .gtr t x y t', ty, pos, af, g⟩ l E w K :=
  G1_quiet _ hd (fun a ha w' _ => by simp [execOp, ha.eval hx, ha.eval hy, eqGuard, binOp, Op.intCmp]) h
theorem G1_geq (hx : E.look x = some (.int k i)) (hy : E.look y = some (.int k j)) (hd : dstOk n d = true) (h : G P n ops dr l (E.put d (.bool (decide (j ≤ i)))) w K) : G1 P n ops dr ⟨d, .binOp .geq t x y t', ty, pos, af, g⟩ l E w K :=
  G1_quiet _ hd (fun a ha w' _ => by simp [execOp, ha.eval hx, ha.eval hy, eqGuard, binOp, Op.intCmp]) h
theorem G1_add (hx : E.look x = some (.int .i64 i)) (hy : E.look y = some (.int .i64 j)) (h1 : -9223372036854775808 ≤ i + j) (h2 : i + j ≤ 9223372036854775807) (hd : dstOk n d = true)
    (h : G P n ops dr l (E.put d (.int .i64 (i + j))) w K) : G1 P n ops dr ⟨d, .binOp .add t x y t', ty, pos, af, g⟩ l E w K :=
  G1_quiet _ hd (fun a ha w' _ => by simp [execOp, ha.eval hx, ha.eval hy, eqGuard, binOp, Op.intArith, wrap_i64 h1 h2]) h
theorem G1_sub (hx : E.look x = some (.int .i64 i)) (hy : E.look y = some (.int .i64 j)) (h1 : -9223372036854775808 ≤ i - j) (h2 : i - j ≤ 9223372036854775807) (hd : dstOk n d = true)
    (h : G P n ops dr l (E.put d (.int .i64 (i - j))) w K) : G1 P n ops dr ⟨d, .binOp .sub t x y t', ty, pos, af, g⟩ l E w K :=
  G1_quiet _ hd (fun a ha w' _ => by simp [execOp, ha.eval hx, ha.eval hy, eqGuard, binOp, Op.intArith, wrap_i64 h1 h2]) h
theorem G1_mul (hx : E.look x = some (.int .i64 i)) (hy : E.look y = some (.int .i64 j)) (h1 : -9223372036854775808 ≤ i * j) (h2 : i * j ≤ 9223372036854775807) (hd : dstOk n d = true)
    (h : G P n ops dr l (E.put d (.int .i64 (i * j))) w K) : G1 P n ops dr ⟨d, .binOp .mul t x y t', ty, pos, af, g⟩ l E w K :=
  G1_quiet _ hd (fun a ha w' _ => by simp [execOp, ha.eval hx, ha.eval hy, eqGuard, binOp, Op.intArith, wrap_i64 h1 h2]) h
theorem G1_addw (hx : E.look x = some (.int k i)) (hy : E.look y = some (.int k j)) (hd : dstOk n d = true)
    (h : G P n ops dr l (E.put d (.int k (k.wrap (i + j)))) w K) : G1 P n ops dr ⟨d, .binOp .add t x y t', ty, pos, af, g⟩ l E w K :=
  G1_quiet _ hd (fun a ha w' _ => by simp [execOp, ha.eval hx, ha.eval hy, eqGuard, binOp, Op.intArith]) h
theorem G1_subw (hx : E.look x = some (.int k i)) (hy : E.look y = some (.int k j)) (hd : dstOk n d = true)
    (h : G P n ops dr l (E.put d (.int k (k.wrap (i - j)))) w K) : G1 P n ops dr ⟨d, .binOp .sub t x y t', ty, pos, af, g⟩ l E w K :=
  G1_quiet _ hd (fun a ha w' _ => by simp [execOp, ha.eval hx, ha.eval hy, eqGuard, binOp, Op.intArith]) h
theorem G1_mulw (hx : E.look x = some (.int k i)) (hy : E.look y = some (.int k j)) (hd : dstOk n d = true)
    (h : G P n ops dr l (E.put d (.int k (k.wrap (i * j)))) w K) : G1 P n ops dr ⟨d, .binOp .mul t x y t', ty, pos, af, g⟩ l E w K :=
  G1_quiet _ hd (fun a ha w' _ => by simp [execOp, ha.eval hx, ha.eval hy, eqGuard, binOp, Op.intArith]) h
theorem G1_quo (hx : E.look x = some (.int k i)) (hy : E.look y = some (.int k j)) (h0 : j ≠ 0) (hd : dstOk n d = true)
    (h : G P n ops dr l (E.put d (.int k (k.wrap (i.tdiv j)))) w K) : G1 P n ops dr ⟨d, .binOp .quo t x y t', ty, pos, af, g⟩ l E w K :=
  G1_quiet _ hd (fun a ha w' _ => by simp [execOp, ha.eval hx, ha.eval hy, eqGuard, binOp, Op.intDiv, h0]) h
theorem G1_rem (hx : E.look x = some (.int k i)) (hy : E.look y = some (.int k j)) (h0 : j ≠ 0) (hd : dstOk n d = true)
    (h : G P n ops dr l (E.put d (.int k (i.tmod j))) w K) : G1 P n ops dr ⟨d, .binOp .rem t x y t', ty, pos, af, g⟩ l E w K :=
  G1_quiet _ hd (fun a ha w' _ => by simp [execOp, ha.eval hx, ha.eval hy, eqGuard, binOp, Op.intDiv, h0]) h
theorem G1_shr (hx : E.look x = some (.int k i)) (hy : E.look y = some (.int k' j)) (h0 : 0 ≤ j) (hd : dstOk n d = true)
    (h : G P n ops dr l (E.put d (.int k (i.fdiv (2 ^ min j.toNat k.bits)))) w K) : G1 P n ops dr ⟨d, .binOp .shr t x y t', ty, pos, af, g⟩ l E w K :=
  G1_quiet _ hd (fun a ha w' _ => by simp [execOp, ha.eval hx, ha.eval hy, eqGuard, binOp, Op.shift, Int.not_lt.2 h0]) h
theorem G1_shl (hx : E.look x = some (.int k i)) (hy : E.look y = some (.int k' j)) (h0 : 0 ≤ j) (hd : dstOk n d = true)
    (h : G P n ops dr l (E.put d (.int k (k.wrap (i * 2 ^ min j.toNat k.bits)))) w K) : G1 P n ops dr ⟨d, .binOp .shl t x y t', ty, pos, af, g⟩ l E w K :=
  G1_quiet _ hd (fun a ha w' _ => by simp [execOp, ha.eval hx, ha.eval hy, eqGuard, binOp, Op.shift, Int.not_lt.2 h0]) h
theorem G1_neg (hx : E.look x = some (.int k i)) (hd : dstOk n d = true) (h : G P n ops dr l (E.put d (.int k (k.wrap (0 - i)))) w K) : G1 P n ops dr ⟨d, .unOp .neg t x, ty, pos, af, g⟩ l E w K :=
  G1_quiet _ hd (fun a ha w' _ => by simp [execOp, ha.eval hx, Op.unary, Op.intArith]) h
theorem G1_min (hx : E.look x = some (.int k i)) (hy : E.look y = some (.int k j)) (hd : dstOk n d = true) (h : G P n ops dr l (E.put d (.int k (min i j))) w K) : G1 P n ops dr ⟨d, .call ⟨.builtin .min, #[x, y], #[t, t']⟩, ty, pos, af, g⟩ l E w K :=
  G1_quiet _ hd (fun a ha w' _ => by
    have : min i j = if j < i then j else i := by split <;> omega
    simp [execOp, resolve, invoke, builtin, Builtin.min_, ha.eval hx, ha.eval hy, Builtin.min2, this]) h
theorem G1_max (hx : E.look x = some (.int k i)) (hy : E.look y = some (.int k j)) (hd : dstOk n d = true) (h : G P n ops dr l (E.put d (.int k (max i j))) w K) : G1 P n ops dr ⟨d, .call ⟨.builtin .max, #[x, y], #[t, t']⟩, ty, pos, af, g⟩ l E w K :=
  G1_quiet _ hd (fun a ha w' _ => by
    have : max i j = if i < j then j else i := by split <;> omega
    simp [execOp, resolve, invoke, builtin, Builtin.max_, ha.eval hx, ha.eval hy, Builtin.max2, this]) h
theorem G1_conv (hx : E.look x = some (.int k i)) (hs : IntT P t k2) (ht : IntT P t' k') (hd : dstOk n d = true) (h : G P n ops dr l (E.put d (.int k' (k'.wrap i))) w K) : G1 P n ops dr ⟨d, .convert t t' x, ty, pos, af, g⟩ l E w K :=
  G1_quiet _ hd (fun a ha w' _ => by simp [execOp, convert, ha.eval hx, run_underlying (P := P) hs, run_underlying (P := P) ht, Conv.intToInt]) h

/- truth values -/
theorem G1_not_dec {p : Prop} {inst : Decidable p} (hx : E.look x = some (.bool (@decide p inst))) (hd : dstOk n d = true) (h : G P n ops dr l (E.put d (.bool (decide (¬ p)))) w K) : G1 P n ops dr ⟨d, .unOp .not t x, ty, pos, af, g⟩ l E w K :=
  G1_quiet _ hd (fun a ha w' _ => by simp [execOp, ha.eval hx, Op.unary]) h
theorem G1_not_t (hx : E.look x = some (.bool true)) (hd : dstOk n d = true) (h : G P n ops dr l (E.put d (.bool false)) w K) : G1 P n ops dr ⟨d, .unOp .not t x, ty, pos, af, g⟩ l E w K :=
  G1_quiet _ hd (fun a ha w' _ => by simp [execOp, ha.eval hx, Op.unary]) h
theorem G1_not_f (hx : E.look x = some (.bool false)) (hd : dstOk n d = true) (h : G P n ops dr l (E.put d (.bool true)) w K) : G1 P n ops dr ⟨d, .unOp .not t x, ty, pos, af, g⟩ l E w K :=
  G1_quiet _ hd (fun a ha w' _ => by simp [execOp, ha.eval hx, Op.unary]) h
theorem G1_not {b : Bool} (hx : E.look x = some (.bool b)) (hd : dstOk n d = true) (h : G P n ops dr l (E.put d (.bool (!b))) w K) : G1 P n ops dr ⟨d, .unOp .not t x, ty, pos, af, g⟩ l E w K :=
  G1_quiet _ hd (fun a ha w' _ => by simp [execOp, ha.eval hx, Op.unary]) h
theorem G1_beql {b b' : Bool} (hu : P.underlying t = some .bool) (hx : E.look x = some (.bool b)) (hy : E.look y = some (.bool b')) (hd : dstOk n d = true) (h : G P n ops dr l (E.put d (.bool (b == b'))) w K) : G1 P n ops dr ⟨d, .binOp .eql t x y t', ty, pos, af, g⟩ l E w K :=
  G1_quiet _ hd (fun a ha w' _ => by simp [execOp, ha.eval hx, ha.eval hy, eqGuard, binOp, run_equal_bool hu]) h
theorem G1_bneq {b b' : Bool} (hu : P.underlying t = some .bool) (hx : E.look x = some (.bool b)) (hy : E.look y = some (.bool b')) (hd : dstOk n d = true) (h : G P n ops dr l (E.put d (.bool (!(b == b')))) w K) : G1 P n ops dr ⟨d, .binOp .neq t x y t', ty, pos, af, g⟩ l E w K :=
  G1_quiet _ hd (fun a ha w' _ => by simp [execOp, ha.eval hx, ha.eval hy, eqGuard, binOp, run_equal_bool hu]) h

/- strings -/
theorem G1_seql {s u : ByteArray} (hx : E.look x = some (.string s)) (hy : E.look y = some (.string u)) (hd : dstOk n d = true) (h : G P n ops dr l (E.put d (.bool (decide (s = u)))) w K) : G1 P n ops dr ⟨d, .binOp .eql t x y t', ty, pos, af, g⟩ l E w K :=
  G1_quiet _ hd (fun a ha w' _ => by simp only [execOp, ha.eval hx, ha.eval hy, eqGuard, binOp, Op.stringOp, str_eq]; rfl) h
theorem G1_sneq {s u : ByteArray} (hx : E.look x = some (.string s)) (hy : E.look y = some (.string u)) (hd : dstOk n d = true) (h : G P n ops dr l (E.put d (.bool (decide (¬ s = u)))) w K) : G1 P n ops dr ⟨d, .binOp .neq t x y t', ty, pos, af, g⟩ l E w K :=
  G1_quiet _ hd (fun a ha w' _ => by simp only [execOp, ha.eval hx, ha.eval hy, eqGuard, binOp, Op.stringOp, str_eq, decide_not]; rfl) h
theorem G1_slss {s u : ByteArray} (hx : E.look x = some (.string s)) (hy : E.look y = some (.string u)) (hd : dstOk n d = true) (h : G P n ops dr l (E.put d (.bool (blt s u))) w K) : G1 P n ops dr ⟨d, .binOp .lss t x y t', ty, pos, af, g⟩ l E w K :=
  G1_quiet _ hd (fun a ha w' _ => by simp only [execOp, ha.eval hx, ha.eval hy, eqGuard, binOp, Op.stringOp, toList_data]; rfl) h
theorem G1_sgeq {s u : ByteArray} (hx : E.look x = some (.string s)) (hy : E.look y = some (.string u)) (hd : dstOk n d = true) (h : G P n ops dr l (E.put d (.bool (!(blt s u)))) w K) : G1 P n ops dr ⟨d, .binOp .geq t x y t', ty, pos, af, g⟩ l E w K :=
  G1_quiet _ hd (fun a ha w' _ => by simp only [execOp, ha.eval hx, ha.eval hy, eqGuard, binOp, Op.stringOp, toList_data]; rfl) h
theorem G1_sgtr {s u : ByteArray} (hx : E.look x = some (.string s)) (hy : E.look y = some (.string u)) (hd : dstOk n d = true) (h : G P n ops dr l (E.put d (.bool (blt u s))) w K) : G1 P n ops dr ⟨d, .binOp .gtr t x y t', ty, pos, af, g⟩ l E w K :=
  G1_quiet _ hd (fun a ha w' _ => by simp only [execOp, ha.eval hx, ha.eval hy, eqGuard, binOp, stringOp_gtr]; rfl) h
theorem G1_sleq {s u : ByteArray} (hx : E.look x = some (.string s)) (hy : E.look y = some (.string u)) (hd : dstOk n d = true) (h : G P n ops dr l (E.put d (.bool (!(blt u s)))) w K) : G1 P n ops dr ⟨d, .binOp .leq t x y t', ty, pos, af, g⟩ l E w K :=
  G1_quiet _ hd (fun a ha w' _ => by simp only [execOp, ha.eval hx, ha.eval hy, eqGuard, binOp, stringOp_leq]; rfl) h
theorem G1_sadd {s u : ByteArray} (hx : E.look x = some (.string s)) (hy : E.look y = some (.string u)) (hl : s.size + u.size ≤ 9223372036854775807) (hd : dstOk n d = true) (h : G P n ops dr l (E.put d (.string (s ++ u))) w K) : G1 P n ops dr ⟨d, .binOp .add t x y t', ty, pos, af, g⟩ l E w K :=
  G1_quiet _ hd (fun a ha w' _ => by
    have : ¬ ((s.size + u.size : Nat) : Int) > IntKind.i64.max := by have e : IntKind.i64.max = 9223372036854775807 := by decide
                                                                     rw [e]; omega
    simp only [execOp, ha.eval hx, ha.eval hy, eqGuard, binOp, Op.stringOp, this, if_false]; rfl) h
theorem G1_slen {s : ByteArray} (hu : StrT P t) (hx : E.look x = some (.string s)) (hd : dstOk n d = true) (h : G P n ops dr l (E.put d (.int .i64 s.size)) w K) : G1 P n ops dr ⟨d, .call ⟨.builtin .len, #[x], #[t]⟩, ty, pos, af, g⟩ l E w K :=
  G1_quiet _ hd (fun a ha w' _ => by simp [execOp, resolve, invoke, builtin, Builtin.len_, ha.eval hx, run_underlying (P := P) hu, goInt]) h
theorem G1_sindex {s : ByteArray} (hu : StrT P t) (hx : E.look x = some (.string s)) (hy : E.look y = some (.int k i)) (h0 : 0 ≤ i) (h1 : i < s.size) (hd : dstOk n d = true)
    (h : G P n ops dr l (E.put d (.int .u8 (bget s i.toNat).toNat)) w K) : G1 P n ops dr ⟨d, .index t x y, ty, pos, af, g⟩ l E w K :=
  G1_quiet _ hd (fun a ha w' _ => by
    have hlt : i.toNat < s.size := by omega
    have e : s[i.toNat]? = some (bget s i.toNat) := by
      rw [getElem?_pos s i.toNat hlt]
      have hlt' : i.toNat < s.data.size := hlt
      simp only [bget, Array.getD, hlt', dite_true]; rfl
    simp [execOp, Instr.index, ha.eval hx, ha.eval hy, asIntOf, run_underlying (P := P) hu, h0, e]) h

/- functions, tuples -/
theorem G1_extract {vs : Array Value} {q : Nat} (hx : E.look x = some (.tuple vs)) (hv : vs[q]? = some v) (hd : dstOk n d = true) (h : G P n ops dr l (E.put d v) w K) : G1 P n ops dr ⟨d, .extract x q, ty, pos, af, g⟩ l E w K :=
  G1_quiet _ hd (fun a ha w' _ => by simp [execOp, Instr.extract, ha.eval hx, hv]) h
theorem G1_makeFunc {fn : Fn} {cs : Array Operand} {vs : List Value} (hx : E.looks cs.toList = some vs) (hd : dstOk n d = true) (h : G P n ops dr l (E.put d (.func fn #[] vs.toArray)) w K) : G1 P n ops dr ⟨d, .makeFunc fn #[] cs, ty, pos, af, g⟩ l E w K :=
  G1_quiet _ hd (fun a ha w' _ => by
    have hm : cs.map a.eval = vs.toArray := by rw [← ha.evals hx]; apply Array.ext'; simp
    simp [execOp, Instr.makeFunc, hm]) h
theorem G1_nilCheck {a : Addr} (hx : E.look x = some (.pointer (some a))) (hd : dstOk n d = true) (h : G P n ops dr l (E.put d (.pointer (some a))) w K) : G1 P n ops dr ⟨d, .nilCheck x, ty, pos, af, g⟩ l E w K :=
  G1_quiet _ hd (fun a ha w' _ => by simp [execOp, ha.eval hx]) h
theorem G1_nilCheckF {fn : FuncId} {q r : Array Value} (hx : E.look x = some (.func (.func fn) q r)) (hd : dstOk n d = true) (h : G P n ops dr l (E.put d (.func (.func fn) q r)) w K) : G1 P n ops dr ⟨d, .nilCheck x, ty, pos, af, g⟩ l E w K :=
  G1_quiet _ hd (fun a ha w' _ => by simp [execOp, ha.eval hx]) h

end
end Go.V
