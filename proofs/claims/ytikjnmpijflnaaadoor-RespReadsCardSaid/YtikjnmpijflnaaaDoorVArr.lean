/- Arrays in boxes. -/
import Derived.Test.YtikjnmpijflnaaaDoorVMem4
namespace Go.V
open Go.RowKit
def ArrT (P : Program) (t n u sz : Nat) : Prop := P.underlying t = some (.array n u) ∧ ∃ i, P.info? u = some i ∧ i.size = sz
theorem ArrT.of {P : Program} {t n u sz : Nat} (h1 : P.underlying t = some (.array n u)) (h2 : (P.info? u).map (·.size) = some sz) : ArrT P t n u sz := by
  refine ⟨h1, ?_⟩
  cases hi : P.info? u with
  | none => simp [hi] at h2
  | some i => exact ⟨i, rfl, by simpa [hi] using h2⟩
section
variable {P : Program} {n : Nat} {ops : Array Oper} {dr : Nat × List Nat} {dq : Nat} {l : List Oper} {E : Env} {w : World} {K : Env → World → Prop}
variable {d : Option Nat} {ty : TypeId} {pos : String} {af : Array Edge} {g : Option (Nat × Bool)} {x y z : Operand} {k k' : IntKind} {i j : Int} {t nn u sz m : Nat} {p : Option Addr}
theorem G1_indexArr (hu : ArrT P t nn u sz) (hx : E.look x = some (.pointer (some (adr p m)))) (hy : E.look y = some (.int k i)) (h0 : 0 ≤ i) (h1 : i < nn) (hd : dstOk n d = true)
    (h : G P n ops dr l (E.put d (.pointer (some (adr p (m + i.toNat * sz))))) w K) : G1 P n ops dr ⟨d, .indexAddr t x y, ty, pos, af, g⟩ l E w K :=
  G1_quiet _ hd (fun a ha w' _ => by
    obtain ⟨hu, inf, hi, hs⟩ := hu
    simp [execOp, Instr.indexAt, ha.eval hx, ha.eval hy, asIntOf, run_underlying (P := P) hu, h0, h1, Instr.sureAddr, sizeOf, typeInfo, hi, hs, adr_add]) h
end
end Go.V
