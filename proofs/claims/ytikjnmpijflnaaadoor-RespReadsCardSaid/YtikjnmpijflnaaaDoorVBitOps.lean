/- Rules for shifts and bits; slices with three bounds. -/
import Derived.Test.YtikjnmpijflnaaaDoorVStr
namespace Go.V
open Go.RowKit
theorem or_low (x : Int) (c : Nat) (hc : c < 256) (h : ∃ q, x = 256 * q) : IntKind.i64.wrap ((BitVec.ofInt IntKind.i64.bits x ||| BitVec.ofInt IntKind.i64.bits (c : Int)).toNat : Int) = IntKind.i64.wrap (x + c) := by
  obtain ⟨q, rfl⟩ := h
  have hb : IntKind.i64.bits = 64 := rfl
  rw [hb, BitVec.toNat_or]
  have e1 : (BitVec.ofInt 64 (256 * q)).toNat = 2 ^ 8 * ((q % 72057594037927936).toNat) := by
    rw [BitVec.toNat_ofInt]
    have : (256 * q) % ((2 ^ 64 : Nat) : Int) = 256 * (q % 72057594037927936) := by
      have e : ((2 ^ 64 : Nat) : Int) = 18446744073709551616 := by decide
      rw [e]; omega
    rw [this]; omega
  have e2 : (BitVec.ofInt 64 (c : Int)).toNat = c := by
    rw [BitVec.toNat_ofInt]
    have e : ((2 ^ 64 : Nat) : Int) = 18446744073709551616 := by decide
    rw [e]; omega
  rw [e1, e2, ← Nat.two_pow_add_eq_or_of_lt (by omega)]
  have e3 : ((2 ^ 8 * (q % 72057594037927936).toNat + c : Nat) : Int) = 256 * (q % 72057594037927936) + c := by omega
  rw [e3]
  simp only [IntKind.wrap_i64]
  omega
section
variable {P : Program} {n : Nat} {ops : Array Oper} {dr : Nat × List Nat} {dq : Nat} {l : List Oper} {E : Env} {w : World} {K : Env → World → Prop}
variable {d : Option Nat} {ty : TypeId} {pos : String} {af : Array Edge} {g : Option (Nat × Bool)} {x y z m : Operand} {k k' k2 : IntKind} {i j i2 : Int} {t t' u sz by_ : Nat} {p : Option Addr} {c len : Nat}
theorem G1_orLow {b : Nat} (hx : E.look x = some (.int .i64 i)) (hy : E.look y = some (.int .i64 (b : Int))) (hb : b < 256) (hq : ∃ q, i = 256 * q) (hd : dstOk n d = true)
    (h : G P n ops dr l (E.put d (.int .i64 (IntKind.i64.wrap (i + b)))) w K) : G1 P n ops dr ⟨d, .binOp .or t x y t', ty, pos, af, g⟩ l E w K :=
  G1_quiet _ hd (fun a ha w' _ => by
    have e : Op.intBits .or .i64 i (b : Int) = pure (.int .i64 (IntKind.i64.wrap (i + b))) := by
      show (pure (Value.int .i64 (IntKind.i64.wrap _)) : Sem Value) = _
      rw [or_low i b hb hq]
    simp [execOp, ha.eval hx, ha.eval hy, eqGuard, binOp, e]) h
theorem G1_loadBAggS {b t2 : Nat} {cs : List Value} (hu : AggT P t sz) (hx : E.look x = some (.pointer (some (adr (bx b) 0)))) (hb : Blk w.heap b t2 cs) (hl : cs.length = sz) (hS : exempt dr.2 b = false) (hd : dstOk n d = true)
    (h : G P n ops dr l (E.put d (.agg cs.toArray)) w K) : G1 P n ops dr ⟨d, .load t x, ty, pos, af, g⟩ l E w K :=
  G1_quiet _ hd (fun a ha w' hw => by
    have hw' : ExtS dr.2 w w' := by
      rcases hw with hw | hw
      · simp [readsM] at hw
      · exact hw
    have hb' : Blk w'.heap b t2 cs := by
      have := hw'.block b hb.lt hS
      unfold Blk at *
      rw [this]; exact hb
    simp [execOp, Instr.loadAt, ha.eval hx, Instr.sureAddr, run_loadVar_box hu hb' hl]) h
theorem G1_slice3 {q r : Nat} (hu : SliceT P t u sz by_) (hx : E.look x = some (.slice p len c)) (hy : E.look y = some (.int k i)) (hz : E.look z = some (.int k' j)) (hm : E.look m = some (.int k2 i2)) (e1 : i = q) (e2 : j = r) (e3 : i2 = r) (h1 : q ≤ r) (h2 : r ≤ c) (hd : dstOk n d = true)
    (h : G P n ops dr l (E.put d (.slice (subp p r q sz) (r - q) (r - q))) w K) : G1 P n ops dr ⟨d, .slice t x (some y) (some z) (some m), ty, pos, af, g⟩ l E w K :=
  G1_quiet _ hd (fun a ha w' _ => by
    subst e1 e2 e3
    have a1 : (0 : Int) ≤ r ∧ (r : Int) ≤ c := by omega
    have a2 : (0 : Int) ≤ q ∧ (q : Int) ≤ r := by omega
    have hsz := run_sizeOf_T hu w'
    simp [execOp, Instr.sliceAt, Instr.slice, Instr.sliceBounds, Instr.sliceBound, asIntOf, ha.eval hx, ha.eval hy, ha.eval hz, ha.eval hm, run_underlying (P := P) hu.1, a1, a2, hsz, subp, h1]
    intro hh; omega) h
end
theorem Sl.shrink {α : Type} {e : Enc α} {H : Array Obj} {p : Option Addr} {c r : Nat} {xs : List α} (h : Sl H e p c xs) (hr : r ≤ xs.length) : Sl H e p r (xs.take r) := by
  have h1 := h.ok.le
  refine ⟨⟨by simp; omega, Nat.le_trans (by omega) h.ok.cap, fun hn => by have := h.ok.nul hn; omega, fun a ha h0 => h.ok.spot a ha (by omega)⟩, (h.take r).cell⟩
end Go.V
