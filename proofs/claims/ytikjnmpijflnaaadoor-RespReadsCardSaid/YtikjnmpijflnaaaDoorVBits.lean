/- Rules for the bits of unsigned words. -/
import Derived.Test.YtikjnmpijflnaaaDoorVMem4
namespace Go.V
open Go.RowKit
theorem ofInt_nat {b n : Nat} (h : n < 2 ^ b) : (BitVec.ofInt b (n : Int)).toNat = n := by
  rw [BitVec.toNat_ofInt]
  have : ((n : Int) % ((2 ^ b : Nat) : Int)) = (n : Int) := Int.emod_eq_of_lt (by omega) (by exact_mod_cast h)
  rw [this]; simp
theorem wrap_u64n {n : Nat} (h : n < 2 ^ 64) : IntKind.u64.wrap (n : Int) = n := wrap_u64 (by omega) (by have : n < 18446744073709551616 := h; omega)
theorem wrap_u8n {n : Nat} (h : n < 2 ^ 8) : IntKind.u8.wrap (n : Int) = n := wrap_u8 (by omega) (by have : n < 256 := h; omega)
section
variable {P : Program} {n : Nat} {ops : Array Oper} {dr : Nat × List Nat} {l : List Oper} {E : Env} {w : World} {K : Env → World → Prop}
variable {d : Option Nat} {ty : TypeId} {pos : String} {af : Array Edge} {g : Option (Nat × Bool)} {x y : Operand} {k k' : IntKind} {t t' : TypeId} {a b : Nat} {i j : Int}
theorem G1_orU (hx : E.look x = some (.int .u64 i)) (hy : E.look y = some (.int .u64 j)) (hi : i = (a : Int)) (hj : j = (b : Int)) (ha : a < 2 ^ 64) (hb : b < 2 ^ 64) (hd : dstOk n d = true)
    (h : G P n ops dr l (E.put d (.int .u64 ((a ||| b : Nat) : Int))) w K) : G1 P n ops dr ⟨d, .binOp .or t x y t', ty, pos, af, g⟩ l E w K := by
  subst hi hj
  exact G1_quiet _ hd (fun ac hac w' _ => by
    have e : Op.intBits .or .u64 (a : Int) (b : Int) = pure (.int .u64 ((a ||| b : Nat) : Int)) := by
      show (pure (Value.int .u64 (IntKind.u64.wrap ((BitVec.ofInt 64 (a : Int) ||| BitVec.ofInt 64 (b : Int)).toNat : Int))) : Sem Value) = _
      rw [BitVec.toNat_or, ofInt_nat ha, ofInt_nat hb, wrap_u64n (Nat.or_lt_two_pow ha hb)]
    simp [execOp, hac.eval hx, hac.eval hy, eqGuard, binOp, e]) h
theorem G1_andU (hx : E.look x = some (.int .u64 i)) (hy : E.look y = some (.int .u64 j)) (hi : i = (a : Int)) (hj : j = (b : Int)) (ha : a < 2 ^ 64) (hb : b < 2 ^ 64) (hd : dstOk n d = true)
    (h : G P n ops dr l (E.put d (.int .u64 ((a &&& b : Nat) : Int))) w K) : G1 P n ops dr ⟨d, .binOp .and t x y t', ty, pos, af, g⟩ l E w K := by
  subst hi hj
  exact G1_quiet _ hd (fun ac hac w' _ => by
    have e : Op.intBits .and .u64 (a : Int) (b : Int) = pure (.int .u64 ((a &&& b : Nat) : Int)) := by
      show (pure (Value.int .u64 (IntKind.u64.wrap ((BitVec.ofInt 64 (a : Int) &&& BitVec.ofInt 64 (b : Int)).toNat : Int))) : Sem Value) = _
      rw [BitVec.toNat_and, ofInt_nat ha, ofInt_nat hb, wrap_u64n (Nat.and_lt_two_pow _ hb)]
    simp [execOp, hac.eval hx, hac.eval hy, eqGuard, binOp, e]) h
theorem G1_notU (hx : E.look x = some (.int .u64 i)) (hi : i = (a : Int)) (ha : a < 2 ^ 64) (hd : dstOk n d = true)
    (h : G P n ops dr l (E.put d (.int .u64 (((2 ^ 64 - 1) ^^^ a : Nat) : Int))) w K) : G1 P n ops dr ⟨d, .unOp .xor t x, ty, pos, af, g⟩ l E w K := by
  subst hi
  exact G1_quiet _ hd (fun ac hac w' _ => by
    have e : Op.unary .xor (.int .u64 (a : Int)) = pure (.int .u64 (((2 ^ 64 - 1) ^^^ a : Nat) : Int)) := by
      show (pure (Value.int .u64 (IntKind.u64.wrap ((BitVec.ofInt 64 (18446744073709551615 : Int) ^^^ BitVec.ofInt 64 (a : Int)).toNat : Int))) : Sem Value) = _
      have e1 : (BitVec.ofInt 64 (18446744073709551615 : Int)).toNat = 2 ^ 64 - 1 := by decide
      rw [BitVec.toNat_xor, e1, ofInt_nat ha, wrap_u64n (Nat.xor_lt_two_pow (by decide) ha)]
    simp [execOp, hac.eval hx, e]) h
theorem G1_shlU {c : Nat} (hx : E.look x = some (.int .u64 1)) (hy : E.look y = some (.int k' j)) (hj : j = (c : Int)) (hc : c < 64) (hd : dstOk n d = true)
    (h : G P n ops dr l (E.put d (.int .u64 ((2 ^ c : Nat) : Int))) w K) : G1 P n ops dr ⟨d, .binOp .shl t x y t', ty, pos, af, g⟩ l E w K := by
  subst hj
  refine G1_shl hx hy (by omega) hd ?_
  have e : IntKind.u64.wrap ((1 : Int) * 2 ^ min (c : Int).toNat IntKind.u64.bits) = ((2 ^ c : Nat) : Int) := by
    have e1 : min (c : Int).toNat IntKind.u64.bits = c := by
      have : IntKind.u64.bits = 64 := rfl
      rw [this]; simp; omega
    rw [e1, Int.one_mul]
    have e2 : (2 : Int) ^ c = ((2 ^ c : Nat) : Int) := by push_cast; rfl
    rw [e2, wrap_u64n (Nat.pow_lt_pow_right (by decide) hc)]
  rw [e]; exact h
theorem G1_shrU {c : Nat} (hx : E.look x = some (.int .u64 i)) (hy : E.look y = some (.int k' j)) (hi : i = (a : Int)) (hj : j = (c : Int)) (hc : c < 64) (hd : dstOk n d = true)
    (h : G P n ops dr l (E.put d (.int .u64 ((a >>> c : Nat) : Int))) w K) : G1 P n ops dr ⟨d, .binOp .shr t x y t', ty, pos, af, g⟩ l E w K := by
  subst hi hj
  refine G1_shr hx hy (by omega) hd ?_
  have e : (a : Int).fdiv (2 ^ min (c : Int).toNat IntKind.u64.bits) = ((a >>> c : Nat) : Int) := by
    have e1 : min (c : Int).toNat IntKind.u64.bits = c := by
      have : IntKind.u64.bits = 64 := rfl
      rw [this]; simp; omega
    rw [e1, Int.fdiv_eq_ediv_of_nonneg _ (by exact_mod_cast Nat.zero_le _), Nat.shiftRight_eq_div_pow]
    push_cast
    rfl
  rw [e]; exact h
theorem G1_sindexJ {q : Nat} {s : ByteArray} (hu : StrT P t) (hx : E.look x = some (.string s)) (hy : E.look y = some (.int k j)) (hj : j = (q : Int)) (hq : q < s.size) (hd : dstOk n d = true)
    (h : G P n ops dr l (E.put d (.int .u8 ((bget s q).toNat : Int))) w K) : G1 P n ops dr ⟨d, .index t x y, ty, pos, af, g⟩ l E w K := by
  subst hj
  refine G1_sindex hu hx hy (by omega) (by omega) hd ?_
  rw [Int.toNat_natCast]; exact h
theorem G1_addU8 {c : Nat} (hx : E.look x = some (.int .u8 i)) (hy : E.look y = some (.int .u8 j)) (hc : i + j = (c : Int)) (hb : c < 256) (hd : dstOk n d = true)
    (h : G P n ops dr l (E.put d (.int .u8 (c : Int))) w K) : G1 P n ops dr ⟨d, .binOp .add t x y t', ty, pos, af, g⟩ l E w K :=
  G1_addw hx hy hd (by rw [hc, wrap_u8n hb]; exact h)
theorem G1_subU8 {c : Nat} (hx : E.look x = some (.int .u8 i)) (hy : E.look y = some (.int .u8 j)) (hc : i - j = (c : Int)) (hb : c < 256) (hd : dstOk n d = true)
    (h : G P n ops dr l (E.put d (.int .u8 (c : Int))) w K) : G1 P n ops dr ⟨d, .binOp .sub t x y t', ty, pos, af, g⟩ l E w K :=
  G1_subw hx hy hd (by rw [hc, wrap_u8n hb]; exact h)
theorem G1_quoU {c : Nat} (hx : E.look x = some (.int .u8 i)) (hy : E.look y = some (.int .u8 j)) (hi : i = (a : Int)) (hj : j = (c : Int)) (ha : a < 256) (hc : 0 < c) (hd : dstOk n d = true)
    (h : G P n ops dr l (E.put d (.int .u8 ((a / c : Nat) : Int))) w K) : G1 P n ops dr ⟨d, .binOp .quo t x y t', ty, pos, af, g⟩ l E w K := by
  subst hi hj
  refine G1_quo hx hy (by omega) hd ?_
  have e : IntKind.u8.wrap ((a : Int).tdiv (c : Int)) = ((a / c : Nat) : Int) := by
    rw [Int.tdiv_eq_ediv_of_nonneg (by omega)]
    have : ((a : Int) / (c : Int)) = ((a / c : Nat) : Int) := by push_cast; rfl
    rw [this, wrap_u8n (Nat.lt_of_le_of_lt (Nat.div_le_self _ _) ha)]
  rw [e]; exact h
theorem G1_quoU' {c q : Nat} (hx : E.look x = some (.int .u8 i)) (hy : E.look y = some (.int .u8 j)) (hi : i = (a : Int)) (hj : j = (c : Int)) (ha : a < 256) (hc : 0 < c) (hq : a / c = q) (hd : dstOk n d = true)
    (h : G P n ops dr l (E.put d (.int .u8 (q : Int))) w K) : G1 P n ops dr ⟨d, .binOp .quo t x y t', ty, pos, af, g⟩ l E w K := by
  subst hq; exact G1_quoU hx hy hi hj ha hc hd h
theorem G1_remU {c : Nat} (hx : E.look x = some (.int .u8 i)) (hy : E.look y = some (.int .u8 j)) (hi : i = (a : Int)) (hj : j = (c : Int)) (hc : 0 < c) (hd : dstOk n d = true)
    (h : G P n ops dr l (E.put d (.int .u8 ((a % c : Nat) : Int))) w K) : G1 P n ops dr ⟨d, .binOp .rem t x y t', ty, pos, af, g⟩ l E w K := by
  subst hi hj
  refine G1_rem hx hy (by omega) hd ?_
  have e : ((a : Int).tmod (c : Int)) = ((a % c : Nat) : Int) := by
    rw [Int.tmod_eq_emod_of_nonneg (by omega)]; push_cast; rfl
  rw [e]; exact h
end
end Go.V
