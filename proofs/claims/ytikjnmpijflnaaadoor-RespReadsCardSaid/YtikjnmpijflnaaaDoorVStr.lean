/- Rules for pieces of strings, bits. -/
import Derived.Test.YtikjnmpijflnaaaDoorVMem4
import Derived.Laws.Strings2
namespace Go.V
open Go.RowKit
section
variable {P : Program} {n : Nat} {ops : Array Oper} {dr : Nat × List Nat} {dq : Nat} {l : List Oper} {E : Env} {w : World} {K : Env → World → Prop}
variable {d : Option Nat} {ty : TypeId} {pos : String} {af : Array Edge} {g : Option (Nat × Bool)} {x y z : Operand} {k k' : IntKind} {i j : Int} {t : Nat} {s : ByteArray}
theorem G1_ssliceHi (hu : StrT P t) (hx : E.look x = some (.string s)) (hy : E.look y = some (.int k i)) (h0 : 0 ≤ i) (h1 : i ≤ s.size) (hd : dstOk n d = true)
    (h : G P n ops dr l (E.put d (.string (s.extract 0 i.toNat))) w K) : G1 P n ops dr ⟨d, .slice t x none (some y) none, ty, pos, af, g⟩ l E w K :=
  G1_quiet _ hd (fun a ha w' _ => by
    simp [execOp, Instr.sliceAt, Instr.slice, Instr.sliceBounds, Instr.sliceBound, asIntOf, ha.eval hx, ha.eval hy, run_underlying (P := P) hu, h0, h1]) h
theorem G1_ssliceLo (hu : StrT P t) (hx : E.look x = some (.string s)) (hy : E.look y = some (.int k i)) (h0 : 0 ≤ i) (h1 : i ≤ s.size) (hd : dstOk n d = true)
    (h : G P n ops dr l (E.put d (.string (s.extract i.toNat s.size))) w K) : G1 P n ops dr ⟨d, .slice t x (some y) none none, ty, pos, af, g⟩ l E w K :=
  G1_quiet _ hd (fun a ha w' _ => by
    simp [execOp, Instr.sliceAt, Instr.slice, Instr.sliceBounds, Instr.sliceBound, asIntOf, ha.eval hx, ha.eval hy, run_underlying (P := P) hu, h0, h1]) h
theorem G1_ssliceBoth (hu : StrT P t) (hx : E.look x = some (.string s)) (hy : E.look y = some (.int k i)) (hz : E.look z = some (.int k' j)) (h0 : 0 ≤ i) (h1 : i ≤ j) (h2 : j ≤ s.size) (hd : dstOk n d = true)
    (h : G P n ops dr l (E.put d (.string (s.extract i.toNat j.toNat))) w K) : G1 P n ops dr ⟨d, .slice t x (some y) (some z) none, ty, pos, af, g⟩ l E w K :=
  G1_quiet _ hd (fun a ha w' _ => by
    have hj : 0 ≤ j := by omega
    simp [execOp, Instr.sliceAt, Instr.slice, Instr.sliceBounds, Instr.sliceBound, asIntOf, ha.eval hx, ha.eval hy, ha.eval hz, run_underlying (P := P) hu, h0, hj, h2]
    intro hh; omega) h
end
theorem mkStr_size (l : List UInt8) : (mkStr l).size = l.length := by simp [mkStr, ByteArray.size]
theorem mkStr_take (l : List UInt8) (k : Nat) : (mkStr l).extract 0 k = mkStr (l.take k) := by
  unfold mkStr; rw [ByteArray.extract_mk]; simp
theorem mkStr_inj {a b : List UInt8} : mkStr a = mkStr b ↔ a = b := by
  constructor
  · intro h
    have : (mkStr a).data.toList = (mkStr b).data.toList := by rw [h]
    simpa [mkStr] using this
  · rintro rfl; rfl
end Go.V
