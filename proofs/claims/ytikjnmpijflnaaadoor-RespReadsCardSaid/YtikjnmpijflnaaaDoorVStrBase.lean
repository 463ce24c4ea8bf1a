/- Rules for bytes: a string copied into a row of bytes; bits of bytes. -/
import Derived.Test.YtikjnmpijflnaaaDoorVRows
import Derived.Test.YtikjnmpijflnaaaDoorVBits
namespace Go.V
open Go.RowKit
/-- xs with bs in the place of as many from o on -/
def over (xs : List UInt8) (o : Nat) (bs : List UInt8) : List UInt8 := xs.take o ++ bs ++ xs.drop (o + bs.length)
theorem over_length {xs bs : List UInt8} {o : Nat} (h : o + bs.length ≤ xs.length) : (over xs o bs).length = xs.length := by
  unfold over; simp only [List.length_append, List.length_take, List.length_drop]; omega
section
variable {P : Program} {n : Nat} {ops : Array Oper} {dr : Nat × List Nat} {l : List Oper} {E : Env} {w : World} {K : Env → World → Prop}
variable {d : Option Nat} {ty : TypeId} {pos : String} {af : Array Edge} {g : Option (Nat × Bool)} {x y : Operand} {k k' : IntKind} {t t' u : TypeId} {a b by_ : Nat} {i j : Int} {p : Option Addr} {c : Nat}
theorem run_copyS {gb o dl dc : Nat} {T : Nat} {cur : List Value} (hu : SliceT P t u 1 by_) (hb : Blk w.heap gb T cur) (s : ByteArray) (hdl : s.size ≤ dl) (hfit : o + s.size ≤ cur.length) (ty : TypeId) :
    (Builtin.copy_ #[t, t'] ty #[.slice (some ⟨gb, o, none⟩) dl dc, .string s]).run P w = .ok (goInt s.size) (w.setRow gb (cur.take o ++ byteCells s ++ cur.drop (o + s.size)).toArray) := by
  obtain ⟨hu1, inf, z, hi, hs1, hb1, hz, hz2⟩ := hu
  have hst := run_storeCells_at P gb o T (byteCells s) 0 cur.toArray w hb (by rw [byteCells_length]; simpa using hfit) (fun u hu => by rw [byteCells_flat] at hu; exact flat_one eByte _ u hu)
  simp only [Nat.add_zero, byteCells_length] at hst
  have hmin : Nat.min s.size dl = s.size := by show min s.size dl = _; omega
  simp [Builtin.copy_, run_underlying hu1, Builtin.lenOf, sizeOf, typeInfo, hi, hs1, hmin, firstCells_string, hst]
/-- copy(xs[o:], s), where it has room -/
theorem G1_copyS {B o dl dc : Nat} {xs : List UInt8} {s : ByteArray} {q : Option Addr} (hu : SliceT P t u 1 by_) (hx : E.look x = some (.slice q dl dc)) (hy : E.look y = some (.string s)) (hown : Own w B u eByte p c xs) (hq : q = subp p c o 1) (ho : o < c) (hne : 0 < xs.length) (hdl : s.size ≤ dl) (hfit : o + s.size ≤ xs.length) (hB : B ≤ w.heap.size)
    (he : effects P dr.1 ⟨d, .call ⟨.builtin .copy, #[x, y], #[t, t']⟩, ty, pos, af, g⟩ = true) (hw : writes dr.1 ⟨d, .call ⟨.builtin .copy, #[x, y], #[t, t']⟩, ty, pos, af, g⟩ = true) (hd : dstOk n d = true)
    (h : ∀ w', App w w' B u eByte p p c (over xs o s.data.toList) → w'.heap.size = w.heap.size → G P n ops dr l (E.put d (.int .i64 (s.size : Nat))) w' K) : G1 P n ops dr ⟨d, .call ⟨.builtin .copy, #[x, y], #[t, t']⟩, ty, pos, af, g⟩ l E w K := by
  obtain ⟨gb, cur, rfl, hbg, hblk, hcl, hcm, hnc, htake⟩ := hown.toBlk (hown.some_of_pos hne)
  rw [subp_bx ho, Nat.mul_one] at hq
  subst hq
  have hsz : eByte.sz = 1 := rfl
  rw [hsz, Nat.mul_one] at hcl htake
  have hcur : o + s.size ≤ cur.length := by omega
  have hr := run_copyS (t' := t') (dl := dl) (dc := dc) (o := o) hu hblk s hdl hcur ty
  refine G1_eff _ (w.setRow gb (cur.take o ++ byteCells s ++ cur.drop (o + s.size)).toArray) he hd (fun a ha => by simp [execOp, resolve, invoke, builtin, ha.eval hx, ha.eval hy, hr, goInt]; try rfl) (.inl hw) (h _ ?_ (by simp))
  have hsl : s.data.toList.length = s.size := by rw [Array.length_toList]; rfl
  have hov : (over xs o s.data.toList).length = xs.length := over_length (by rw [hsl]; exact hfit)
  refine ⟨Own.ofBlk (cur := cur.take o ++ byteCells s ++ cur.drop (o + s.size)) hbg (by unfold Blk; exact setRow_heap w gb _ _ u (0, 0) hblk) ?_ hcm (by rw [hov]; exact hnc) ?_, setRow_grown w gb _, by unfold NewP; exact .inl rfl, by simpa using hB⟩
  · rw [hsz]
    simp only [List.length_append, List.length_take, List.length_drop, byteCells_length]
    omega
  · rw [hov, hsz, Nat.mul_one]
    unfold over
    rw [List.flatMap_append, List.flatMap_append, ← byteCells_flat, hsl]
    have hfl : ∀ l : List UInt8, (l.flatMap eByte.enc).length = l.length := fun l => by rw [flat_len, hsz, Nat.mul_one]
    have hsplit : ∀ m, (xs.flatMap eByte.enc) = (xs.take m).flatMap eByte.enc ++ (xs.drop m).flatMap eByte.enc := fun m => by rw [← List.flatMap_append, List.take_append_drop]
    have e1 : (xs.take o).flatMap eByte.enc = cur.take o := by
      have : (cur.take xs.length).take o = (xs.flatMap eByte.enc).take o := by rw [htake]
      rw [List.take_take, Nat.min_eq_left (by omega), hsplit o, List.take_left' (by rw [hfl, List.length_take]; omega)] at this
      exact this.symm
    have e2 : (xs.drop (o + s.size)).flatMap eByte.enc = (cur.drop (o + s.size)).take (xs.length - (o + s.size)) := by
      have : (cur.take xs.length).drop (o + s.size) = (xs.flatMap eByte.enc).drop (o + s.size) := by rw [htake]
      rw [List.drop_take, hsplit (o + s.size), List.drop_left' (by rw [hfl, List.length_take]; omega)] at this
      exact this.symm
    rw [e1, e2, List.take_append, List.take_of_length_le (by simp only [List.length_append, List.length_take, byteCells_length]; omega)]
    congr 2
    simp only [List.length_append, List.length_take, byteCells_length]
    omega
theorem G1_orU8 {r : Nat} (hx : E.look x = some (.int .u8 i)) (hy : E.look y = some (.int .u8 j)) (hi : i = (a : Int)) (hj : j = (b : Int)) (ha : a < 2 ^ 8) (hb : b < 2 ^ 8) (hr : a ||| b = r) (hd : dstOk n d = true)
    (h : G P n ops dr l (E.put d (.int .u8 (r : Int))) w K) : G1 P n ops dr ⟨d, .binOp .or t x y t', ty, pos, af, g⟩ l E w K := by
  subst hi hj hr
  exact G1_quiet _ hd (fun ac hac w' _ => by
    have e : Op.intBits .or .u8 (a : Int) (b : Int) = pure (.int .u8 ((a ||| b : Nat) : Int)) := by
      show (pure (Value.int .u8 (IntKind.u8.wrap ((BitVec.ofInt 8 (a : Int) ||| BitVec.ofInt 8 (b : Int)).toNat : Int))) : Sem Value) = _
      rw [BitVec.toNat_or, ofInt_nat ha, ofInt_nat hb, wrap_u8n (Nat.or_lt_two_pow ha hb)]
    simp [execOp, hac.eval hx, hac.eval hy, eqGuard, binOp, e]) h
theorem G1_andU8 {r : Nat} (hx : E.look x = some (.int .u8 i)) (hy : E.look y = some (.int .u8 j)) (hi : i = (a : Int)) (hj : j = (b : Int)) (ha : a < 2 ^ 8) (hb : b < 2 ^ 8) (hr : a &&& b = r) (hd : dstOk n d = true)
    (h : G P n ops dr l (E.put d (.int .u8 (r : Int))) w K) : G1 P n ops dr ⟨d, .binOp .and t x y t', ty, pos, af, g⟩ l E w K := by
  subst hi hj hr
  exact G1_quiet _ hd (fun ac hac w' _ => by
    have e : Op.intBits .and .u8 (a : Int) (b : Int) = pure (.int .u8 ((a &&& b : Nat) : Int)) := by
      show (pure (Value.int .u8 (IntKind.u8.wrap ((BitVec.ofInt 8 (a : Int) &&& BitVec.ofInt 8 (b : Int)).toNat : Int))) : Sem Value) = _
      rw [BitVec.toNat_and, ofInt_nat ha, ofInt_nat hb, wrap_u8n (Nat.and_lt_two_pow _ hb)]
    simp [execOp, hac.eval hx, hac.eval hy, eqGuard, binOp, e]) h
theorem G1_andNotU8 {r : Nat} (hx : E.look x = some (.int .u8 i)) (hy : E.look y = some (.int .u8 j)) (hr : IntKind.u8.wrap ((BitVec.ofInt 8 i &&& ~~~ BitVec.ofInt 8 j).toNat : Int) = (r : Int)) (hd : dstOk n d = true)
    (h : G P n ops dr l (E.put d (.int .u8 (r : Int))) w K) : G1 P n ops dr ⟨d, .binOp .andNot t x y t', ty, pos, af, g⟩ l E w K := by
  exact G1_quiet _ hd (fun ac hac w' _ => by
    have e : Op.intBits .andNot .u8 i j = pure (.int .u8 (r : Int)) := by
      show (pure (Value.int .u8 (IntKind.u8.wrap ((BitVec.ofInt 8 i &&& ~~~ BitVec.ofInt 8 j).toNat : Int))) : Sem Value) = _
      rw [hr]
    simp [execOp, hac.eval hx, hac.eval hy, eqGuard, binOp, e]) h
theorem G1_shlU8 {c : Nat} (hx : E.look x = some (.int .u8 1)) (hy : E.look y = some (.int k' j)) (hj : j = (c : Int)) (hc : c < 8) (hd : dstOk n d = true)
    (h : G P n ops dr l (E.put d (.int .u8 ((2 ^ c : Nat) : Int))) w K) : G1 P n ops dr ⟨d, .binOp .shl t x y t', ty, pos, af, g⟩ l E w K := by
  subst hj
  refine G1_shl hx hy (by omega) hd ?_
  have e : IntKind.u8.wrap ((1 : Int) * 2 ^ min (c : Int).toNat IntKind.u8.bits) = ((2 ^ c : Nat) : Int) := by
    have e1 : min (c : Int).toNat IntKind.u8.bits = c := by
      have : IntKind.u8.bits = 8 := rfl
      rw [this]; simp; omega
    rw [e1, Int.one_mul]
    have e2 : (2 : Int) ^ c = ((2 ^ c : Nat) : Int) := by push_cast; rfl
    rw [e2, wrap_u8n (Nat.pow_lt_pow_right (by decide) hc)]
  rw [e]; exact h
end
end Go.V
