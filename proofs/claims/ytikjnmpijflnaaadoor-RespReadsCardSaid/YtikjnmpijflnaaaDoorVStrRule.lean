/- Rules for numbers that are divided, bytes made strings, rows made. -/
import Derived.Test.YtikjnmpijflnaaaDoorVStrBase
import Derived.Test.YtikjnmpijflnaaaDoorVNumFit
import Derived.Test.YtikjnmpijflnaaaDoorVStr
namespace Go.V
section
variable {P : Program} {n : Nat} {ops : Array Oper} {dr : Nat × List Nat} {l : List Oper} {E : Env} {w : World} {K : Env → World → Prop}
variable {d : Option Nat} {ty : TypeId} {pos : String} {af : Array Edge} {g : Option (Nat × Bool)} {x y : Operand} {k k' : IntKind} {t t' u : TypeId} {a b by_ : Nat} {i j : Int} {p : Option Addr} {c : Nat}
theorem G1_quoI {c : Nat} (hx : E.look x = some (.int .i64 i)) (hy : E.look y = some (.int .i64 j)) (hi : i = (a : Int)) (hj : j = (c : Int)) (ha : a ≤ 9223372036854775807) (hc : 0 < c) (hd : dstOk n d = true)
    (h : G P n ops dr l (E.put d (.int .i64 ((a / c : Nat) : Int))) w K) : G1 P n ops dr ⟨d, .binOp .quo t x y t', ty, pos, af, g⟩ l E w K := by
  subst hi hj
  refine G1_quo hx hy (by omega) hd ?_
  have e : IntKind.i64.wrap ((a : Int).tdiv (c : Int)) = ((a / c : Nat) : Int) := by
    rw [Int.tdiv_eq_ediv_of_nonneg (by omega)]
    have : ((a : Int) / (c : Int)) = ((a / c : Nat) : Int) := by push_cast; rfl
    have h2 : a / c ≤ a := Nat.div_le_self _ _
    rw [this]
    generalize a / c = q at h2 ⊢
    rw [wrap_i64 (by omega) (by omega)]
  rw [e]; exact h
theorem G1_remI {c : Nat} (hx : E.look x = some (.int .i64 i)) (hy : E.look y = some (.int .i64 j)) (hi : i = (a : Int)) (hj : j = (c : Int)) (hc : 0 < c) (hd : dstOk n d = true)
    (h : G P n ops dr l (E.put d (.int .i64 ((a % c : Nat) : Int))) w K) : G1 P n ops dr ⟨d, .binOp .rem t x y t', ty, pos, af, g⟩ l E w K := by
  subst hi hj
  refine G1_rem hx hy (by omega) hd ?_
  have e : ((a : Int).tmod (c : Int)) = ((a % c : Nat) : Int) := by
    rw [Int.tmod_eq_emod_of_nonneg (by omega)]; push_cast; rfl
  rw [e]; exact h
/-- the rest, told by what is known of it -/
theorem G1_remE {r : Int} (hx : E.look x = some (.int k i)) (hy : E.look y = some (.int k j)) (h0 : j ≠ 0) (hr : i.tmod j = r) (hd : dstOk n d = true)
    (h : G P n ops dr l (E.put d (.int k r)) w K) : G1 P n ops dr ⟨d, .binOp .rem t x y t', ty, pos, af, g⟩ l E w K := by
  subst hr; exact G1_rem hx hy h0 hd h
theorem G1_toStringL {bs : List UInt8} {dq : Nat} {m : Nat} (hu : SliceT P t u 1 by_) (hi : IntT P u .u8) (hk : StrT P t') (hx : E.look x = some (.slice p m c)) (hm : m = bs.length) (hs : Sl w.heap eByte p c bs) (hd : dstOk n d = true)
    (h : G P n ops (dq, []) l (E.put d (.string (mkStr bs))) w K) : G1 P n ops (dq, []) ⟨d, .convert t t' x, ty, pos, af, g⟩ l E w K := by
  subst hm; exact G1_toString hu hi hk hx hs hd h
theorem G1_makeJ {α : Type} {sz m : Nat} (e : Enc α) (el : α) {zv : Value} (hu : SliceT P t u sz by_) (hx : E.look x = some (.int k i)) (hy : E.look y = some (.int k' i)) (hi : i = (m : Int)) (hsz : e.sz = sz) (hzv : ZeroT P u zv) (hel : zv.cells.toList = e.enc el) (h1 : by_ * m ≤ 281474976710656) (h2 : m ≤ 9223372036854775807)
    (he : effects P dr.1 ⟨d, .makeSlice t x y, ty, pos, af, g⟩ = true) (hd : dstOk n d = true)
    (h : ∀ p' w', Own w' w.heap.size u e p' m (List.replicate m el) → Ext w w' → w'.heap.size = w.heap.size + 1 → G P n ops dr l (E.put d (.slice p' m m)) w' K) :
    G1 P n ops dr ⟨d, .makeSlice t x y, ty, pos, af, g⟩ l E w K := by
  subst hi
  refine G1_makeN e el hu hx hy hsz hzv hel (by omega) (by have := Int.ofNat_le.2 h1; rw [Int.natCast_mul] at this; exact this) (by omega) he hd (fun p' w' h3 h4 h5 => ?_)
  rw [List.length_replicate, Int.toNat_natCast]
  rw [Int.toNat_natCast] at h3
  exact h p' w' h3 h4 h5
end
/-- the bit with number m of s -/
def bitP (s : ByteArray) (m : Nat) : Int := if m / 8 < s.size ∧ (bget s (m / 8)).toNat &&& 2 ^ (7 - m % 8) ≠ 0 then 1 else 0
end Go.V
