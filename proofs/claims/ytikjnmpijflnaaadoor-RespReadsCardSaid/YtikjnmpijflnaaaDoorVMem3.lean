/- Rows that are appended to, over several steps; bytes and strings. -/
import Derived.Test.YtikjnmpijflnaaaDoorVMem2
import Derived.Deep.AppendSrc
namespace Go.V
open Go.RowKit

/-- from w to w' the row at p has become the row at p' with elements xs; nothing else that was there has turned -/
structure App {α : Type} (w w' : World) (B T : Nat) (e : Enc α) (p p' : Option Addr) (c' : Nat) (xs : List α) : Prop where
  own : Own w' B T e p' c' xs
  grown : w.grownBy w' (blk p)
  new : NewP w p p'
  base : B ≤ w'.heap.size

section
variable {α : Type} {e : Enc α} {w w1 w2 : World} {B T : Nat} {p p1 p2 : Option Addr} {c c1 c2 : Nat} {xs ys : List α}

theorem App.refl (h : Own w B T e p c xs) (hB : B ≤ w.heap.size) : App w w B T e p p c xs := ⟨h, ⟨rfl, rfl, rfl, Nat.le_refl _, fun _ _ _ => rfl⟩, by unfold NewP; exact .inl rfl, hB⟩
theorem App.ext (h : App w w1 B T e p p1 c1 xs) (hx : Ext w1 w2) : App w w2 B T e p p1 c1 xs := ⟨h.own.ext hx, grown_ext h.grown hx, h.new, Nat.le_trans h.base hx.size⟩
theorem App.trans (h : App w w1 B T e p p1 c1 xs) (k : App w1 w2 B T e p1 p2 c2 ys) : App w w2 B T e p p2 c2 ys := ⟨k.own, grown_trans h.grown h.new k.grown, h.new.trans h.grown.size k.new, k.base⟩
/-- what is older than B stays -/
theorem App.below (h : App w w1 B T e p p1 c1 xs) (hp : ∀ k, blk p = some k → B ≤ k) (hB : B ≤ w.heap.size) : Below B w w1 :=
  ⟨h.grown.os, h.grown.tape, h.grown.output, h.grown.size, fun k hk => h.grown.block k (by omega) (fun e => by have := hp k e.symm; omega)⟩
/-- the row is one that the call made: what was there when it began stays -/
theorem Ext.app {w0 : World} (hx : Ext w0 w) (h : App w w1 B T e p p1 c1 xs) (hp : ∀ k, V.blk p = some k → w0.heap.size ≤ k) : Ext w0 w1 := hx.own h.grown hp
theorem App.sl (h : App w w1 B T e p p1 c1 xs) : Sl w1.heap e p1 c1 xs := h.own.sl
end

theorem Own.at {α : Type} {e : Enc α} {w : World} {B T : Nat} {p : Option Addr} {c : Nat} {xs : List α} (h : Own w B T e p c xs) {k : Nat} (hk : blk p = some k) : ∃ cur, w.heap[k]? = some (.cells cur T (0, 0)) := by
  rcases h.2 with ⟨hv, _⟩ | ⟨g, cap, cur, hv, _, hg, _⟩
  · injection hv with e1 _ _; subst e1; cases hk
  · injection hv with e1 _ _; subst e1
    simp only [blk, Option.some.injEq] at hk
    subst hk
    exact ⟨cur, hg⟩
/-- rows of different element types lie in different blocks -/
theorem Own.neT {α β : Type} {e : Enc α} {e' : Enc β} {w : World} {B B' T T' : Nat} {p p' : Option Addr} {c c' : Nat} {xs : List α} {ys : List β} (h : Own w B T e p c xs) (k : Own w B' T' e' p' c' ys) (hT : T ≠ T') : ∀ a, p' = some a → blk p ≠ some a.block := by
  rintro a rfl hb
  obtain ⟨cur, h1⟩ := h.at hb
  obtain ⟨cur', h2⟩ := k.at (k := a.block) rfl
  rw [h1] at h2
  simp at h2
  exact hT h2.2
theorem Own.neB {α : Type} {e : Enc α} {w : World} {B T T' b : Nat} {p : Option Addr} {c : Nat} {xs : List α} {cs : List Value} (h : Own w B T e p c xs) (k : Blk w.heap b T' cs) (hT : T ≠ T') : blk p ≠ some b := by
  intro hb
  obtain ⟨cur, h1⟩ := h.at hb
  unfold Blk at k
  rw [h1] at k
  simp at k
  exact hT k.2
/-- an older row -/
theorem Own.neO {α : Type} {e : Enc α} {w : World} {B T : Nat} {p q : Option Addr} {c : Nat} {xs : List α} (h : Own w B T e p c xs) (hq : ∀ k, blk q = some k → k < B) : ∀ a, p = some a → blk q ≠ some a.block := by
  rintro a rfl hb
  have h1 := hq _ hb
  have h2 := (h.ge a.block rfl).1
  omega

section
variable {P : Program} {n : Nat} {ops : Array Oper} {dr : Nat × List Nat} {dq : Nat} {l : List Oper} {E : Env} {w : World} {K : Env → World → Prop}
variable {d : Option Nat} {ty : TypeId} {pos : String} {af : Array Edge} {g : Option (Nat × Bool)} {x y z : Operand} {k k' : IntKind} {i j : Int} {t t' u sz by_ : Nat} {v v' : Value} {p : Option Addr} {c len m : Nat} {b : Bool}

theorem G1_appendA {α : Type} {e : Enc α} {B : Nat} {xs ys : List α} {q : Option Addr} {c2 : Nat} (hu : SliceT P t u sz by_) (hx : E.look x = some (.slice p xs.length c)) (hy : E.look y = some (.slice q ys.length c2)) (hown : Own w B u e p c xs) (hsl : Sl w.heap e q c2 ys)
    (hsz : e.sz = sz) (hB : B ≤ w.heap.size) (hlen : (xs.length + ys.length) * by_ ≤ 140737488355328) (hmax : xs.length + ys.length ≤ 9223372036854775807)
    (he : effects P dr.1 ⟨d, .call ⟨.builtin .append, #[x, y], #[t, t]⟩, ty, pos, af, g⟩ = true) (hw : writes dr.1 ⟨d, .call ⟨.builtin .append, #[x, y], #[t, t]⟩, ty, pos, af, g⟩ = true) (hd : dstOk n d = true)
    (h : ∀ p' c' w', App w w' B u e p p' c' (xs ++ ys) → G P n ops dr l (E.put d (.slice p' (xs ++ ys).length c')) w' K) : G1 P n ops dr ⟨d, .call ⟨.builtin .append, #[x, y], #[t, t]⟩, ty, pos, af, g⟩ l E w K :=
  G1_append hu hx hy hown hsl hsz hB hlen hmax he hw hd (fun p' c' w' h1 h2 h3 => h p' c' w' ⟨h1, h2, h3, Nat.le_trans hB h2.size⟩)

theorem byteCells_flat (s : ByteArray) : byteCells s = s.data.toList.flatMap eByte.enc := by
  unfold byteCells
  rw [List.flatMap_def]
  simp only [eByte]
  induction s.data.toList with
  | nil => rfl
  | cons a l ih => simp [ih]

theorem run_append_room_str (hu : SliceT P t u 1 by_) (hk : StrT P t') (ty : TypeId) (gb sLen sCap : Nat) (cur : Array Value) (hg : w.heap[gb]? = some (.cells cur u (0, 0))) (s : ByteArray) (hroom : sLen + s.size ≤ sCap) (hfit : sLen + s.size ≤ cur.size) :
    (Builtin.append_ #[t, t'] ty #[.slice (some ⟨gb, 0, none⟩) sLen sCap, .string s]).run P w =
      .ok (.slice (some ⟨gb, 0, none⟩) (sLen + s.size) sCap) (w.setRow gb (cur.toList.take sLen ++ byteCells s ++ cur.toList.drop (sLen + s.size)).toArray) := by
  obtain ⟨h1, i, z, hi, hs1, hb1, hz, hz2⟩ := hu
  have hst := run_storeCells_at P gb sLen u (byteCells s) 0 cur w hg (by rw [byteCells_length]; simpa using hfit) (fun u hu => by rw [byteCells_flat] at hu; exact flat_one eByte _ u hu)
  simp only [Nat.add_zero, byteCells_length] at hst
  simp [Builtin.append_, run_underlying h1, run_underlying (P := P) hk, sizeOf, typeInfo, hi, hs1, Builtin.lenOf, hroom, firstCells_string, addr_add, hst]

theorem run_append_str {B : Nat} {xs : List UInt8} (hu : SliceT P t u 1 by_) (hk : StrT P t') (hB : B ≤ w.heap.size) (hown : Own w B u eByte p c xs) (s : ByteArray)
    (hlen : (xs.length + s.size) * by_ ≤ 140737488355328) (hmax : xs.length + s.size ≤ 9223372036854775807) (ty : TypeId) :
    ∃ p' c' w', (Builtin.append_ #[t, t'] ty #[.slice p xs.length c, .string s]).run P w = .ok (.slice p' (xs ++ s.data.toList).length c') w' ∧ App w w' B u eByte p p' c' (xs ++ s.data.toList) := by
  have hu' := hu
  obtain ⟨h1, i, z, hi, hs1, hb1, hz, hz2⟩ := hu
  have hbc := byteCells_length s
  have hsl : s.data.toList.length = s.size := by rw [Array.length_toList]; rfl
  have hlenE : (xs ++ s.data.toList).length = xs.length + s.size := by rw [List.length_append, hsl]
  have hflatE : (xs ++ s.data.toList).flatMap eByte.enc = xs.flatMap eByte.enc ++ byteCells s := by rw [List.flatMap_append, byteCells_flat]
  have grow : ∀ (olds : List Value) (base : Option Addr) (cap : Nat), olds = xs.flatMap eByte.enc → (Builtin.firstCells i.size xs.length (.slice base xs.length cap)).run P w.drew = .ok olds.toArray w.drew → cap < xs.length + s.size → base = p → cap = c →
      ∃ p' c' w', (Builtin.append_ #[t, t'] ty #[.slice p xs.length c, .string s]).run P w = .ok (.slice p' (xs ++ s.data.toList).length c') w' ∧ App w w' B u eByte p p' c' (xs ++ s.data.toList) := by
    intro olds base cap ho hold hcap hb hc
    subst hb hc ho
    have hr := run_append_grow_src (P := P) (w := w) t t' ty u i z h1 hi hz base xs.length cap (xs.flatMap eByte.enc) hold (.string s) s.size (byteCells s) (by rw [hs1]; exact Src.ofString w hk s) hcap (by omega) (by rw [hb1]; exact growslice_fits hcap hlen)
    have hge := grownCap_ge w (xs.length + s.size) cap u
    have hcm : grownCap w (xs.length + s.size) cap u ≤ maxLen := grownCap_le_maxLen w _ cap u (by simp only [maxLen]; omega)
    refine ⟨_, _, _, by rw [hlenE]; exact hr, ?_, ?_, ?_, ?_⟩
    · unfold Own
      rw [hlenE, hflatE]
      refine ⟨by rw [List.length_append, flat_len, byteCells_length]; simp [eByte], .inr ⟨w.heap.size, _, _, rfl, hB, heap_alloc_new w.drew _, hge, hcm, ?_, ?_⟩⟩
      · simp only [Array.size_append, List.size_toArray, size_zeroCells, hz2, List.length_append, flat_len, byteCells_length]
        simp [eByte]; omega
      · simp only [Array.toList_append]
        rw [List.take_left' (by rw [List.length_append, flat_len, byteCells_length]; simp [eByte])]
    · exact ⟨rfl, rfl, rfl, by simp, fun k hk _ => Below.heap_alloc w.drew _ k hk⟩
    · unfold NewP; exact .inr (fun k hk => by simp [blk] at hk; omega)
    · simp; omega
  rcases hown.2 with ⟨hv, hn⟩ | ⟨gb, cap, cur, hv, hbg, hg, hnc, hcm, hcs, htake⟩
  · injection hv with e1 e2 e3
    subst e1 e3
    obtain rfl : xs = [] := List.eq_nil_of_length_eq_zero hn
    by_cases hs0 : s.size = 0
    · have hse : s.data.toList = [] := List.eq_nil_of_length_eq_zero (by rw [hsl, hs0])
      refine ⟨none, 0, w, ?_, ?_⟩
      · rw [hse]
        simp [Builtin.append_, run_underlying h1, run_underlying (P := P) hk, sizeOf, typeInfo, hi, Builtin.lenOf, hs0, Builtin.firstCells]
      · rw [hse]; exact App.refl (Own.nil _ _ _ _) hB
    · exact grow [] none 0 rfl (by simp [Builtin.firstCells]) (by simp; omega) rfl rfl
  · injection hv with e1 e2 e3
    subst e1 e3
    by_cases hroom : xs.length + s.size ≤ c
    · have hfit : xs.length + s.size ≤ cur.size := by rw [hcs]; simp [eByte]; omega
      have hr := run_append_room_str hu' hk ty gb xs.length c cur hg s hroom hfit
      refine ⟨_, _, _, by rw [hlenE]; exact hr, ?_, ?_, ?_, ?_⟩
      · unfold Own
        rw [hlenE, hflatE]
        refine ⟨by rw [List.length_append, flat_len, byteCells_length]; simp [eByte], .inr ⟨gb, c, _, rfl, hbg, setRow_heap w gb cur _ u _ hg, hroom, hcm, ?_, ?_⟩⟩
        · simp only [List.size_toArray, List.length_append, List.length_take, List.length_drop, Array.length_toList, byteCells_length]
          rw [← hcs]; omega
        · have htake' : cur.toList.take xs.length = xs.flatMap eByte.enc := by
            rw [← htake]; simp [eByte]
          rw [htake']
          simp only [List.append_assoc]
          rw [← List.append_assoc, List.take_left' (by rw [List.length_append, flat_len, byteCells_length]; simp [eByte])]
      · exact setRow_grown w gb _
      · unfold NewP; exact .inl rfl
      · simpa using hB
    · exact grow (xs.flatMap eByte.enc) _ c rfl (by
        have := run_firstCells_some (P := P) w.drew i.size xs.length ⟨gb, 0, none⟩ xs.length c (xs.flatMap eByte.enc) (by rw [hs1, flat_len]; simp [eByte]) (fun j v hv => by rw [addr_add]; exact hown.sl.flat j v hv)
        exact this) (by omega) rfl rfl

theorem G1_appendStr {B : Nat} {xs : List UInt8} {s : ByteArray} (hu : SliceT P t u 1 by_) (hk : StrT P t') (hx : E.look x = some (.slice p xs.length c)) (hy : E.look y = some (.string s)) (hown : Own w B u eByte p c xs)
    (hB : B ≤ w.heap.size) (hlen : (xs.length + s.size) * by_ ≤ 140737488355328) (hmax : xs.length + s.size ≤ 9223372036854775807)
    (he : effects P dr.1 ⟨d, .call ⟨.builtin .append, #[x, y], #[t, t']⟩, ty, pos, af, g⟩ = true) (hw : writes dr.1 ⟨d, .call ⟨.builtin .append, #[x, y], #[t, t']⟩, ty, pos, af, g⟩ = true) (hd : dstOk n d = true)
    (h : ∀ p' c' w', App w w' B u eByte p p' c' (xs ++ s.data.toList) → G P n ops dr l (E.put d (.slice p' (xs ++ s.data.toList).length c')) w' K) : G1 P n ops dr ⟨d, .call ⟨.builtin .append, #[x, y], #[t, t']⟩, ty, pos, af, g⟩ l E w K := by
  obtain ⟨p', c', w', hr, h1⟩ := run_append_str hu hk hB hown s hlen hmax ty
  exact G1_eff _ w' he hd (fun a ha => by simp [execOp, resolve, invoke, builtin, ha.eval hx, ha.eval hy, hr]) (.inl hw) (h p' c' w' h1)

/- bytes to a string -/
theorem foldl_push (l : List UInt8) : ∀ s : ByteArray, (l.map (fun b : UInt8 => ((b.toNat : Nat) : Int))).foldl (fun r (n : Int) => r.push (UInt8.ofNat n.toNat)) s = ⟨s.data ++ l.toArray⟩ := by
  induction l with
  | nil => intro s; cases s; simp
  | cons a l ih =>
    intro s
    rw [List.map_cons, List.foldl_cons, ih]
    cases s
    simp [ByteArray.push]

def mkStr (l : List UInt8) : ByteArray := ⟨l.toArray⟩

theorem run_toString {bs : List UInt8} (hu : SliceT P t u 1 by_) (hi : IntT P u .u8) (hd : StrT P t') (hs : Sl w.heap eByte p c bs) : (convert t t' (.slice p bs.length c)).run P w = .ok (.string (mkStr bs)) w := by
  rw [run_convert_bytes_string w t t' u p bs.length c hu.1 hi hd]
  cases p with
  | none =>
    have h1 := hs.ok.nul rfl
    have h2 := hs.ok.le
    obtain rfl : bs = [] := List.eq_nil_of_length_eq_zero (by omega)
    simp [Conv.bytesToString, mkStr]; rfl
  | some a =>
    have hn : ∀ j v, (bs.flatMap eByte.enc)[j]? = some v → w.cell? (a.add j) = some v := by
      intro j v hv
      have hne : 0 < bs.length := by cases bs <;> simp_all
      have hspot := hs.ok.spot a rfl (by have := hs.ok.le; omega)
      have hc := hs.flat j v hv
      obtain ⟨b, o, s⟩ := a
      simp only at hspot
      subst hspot
      rw [addr_add]; exact hc
    have hl : (loadCells a bs.length).run P w = .ok ((bs.map (fun b : UInt8 => ((b.toNat : Nat) : Int))).map (Value.int .u8)).toArray w := by
      have e1 : (bs.map (fun b : UInt8 => ((b.toNat : Nat) : Int))).map (Value.int .u8) = bs.flatMap eByte.enc := by
        rw [List.map_map, List.flatMap_def]
        simp only [eByte]
        clear hs hn
        induction bs with
        | nil => rfl
        | cons a l ih => simp [ih]
      rw [e1]
      have := run_loadCells_list (P := P) w a (bs.flatMap eByte.enc) hn
      rw [flat_len] at this
      simpa [eByte] using this
    rw [run_bytesToString w _ _ _ _ hl, foldl_push]
    simp [mkStr]

theorem G1_toString {bs : List UInt8} (hu : SliceT P t u 1 by_) (hi : IntT P u .u8) (hk : StrT P t') (hx : E.look x = some (.slice p bs.length c)) (hs : Sl w.heap eByte p c bs) (hd : dstOk n d = true)
    (h : G P n ops (dq, []) l (E.put d (.string (mkStr bs))) w K) : G1 P n ops (dq, []) ⟨d, .convert t t' x, ty, pos, af, g⟩ l E w K :=
  G1_quiet _ hd (fun a ha w' hw => by simp [execOp, ha.eval hx, run_toString hu hi hk (hs.ext (rd_ext hw rfl))]) h

theorem G1_convE {k2 : IntKind} (hx : E.look x = some (.int k i)) (hs : IntT P t k') (ht : IntT P t' k2) (hv : k2.wrap i = j) (hd : dstOk n d = true) (h : G P n ops dr l (E.put d (.int k2 j)) w K) : G1 P n ops dr ⟨d, .convert t t' x, ty, pos, af, g⟩ l E w K :=
  G1_conv hx hs ht hd (by rw [hv]; exact h)

def Env.parts (E : Env) : List (Nat × Operand) → Option (List (Nat × Value))
  | [] => some []
  | (i, x) :: xs => match E.look x, Env.parts E xs with
    | some v, some vs => some ((i, v) :: vs)
    | _, _ => none

theorem Holds.parts {a : Act} (h : Holds n E a) : ∀ {xs : List (Nat × Operand)} {vs : List (Nat × Value)}, E.parts xs = some vs → xs.map (fun (i, x) => (i, a.eval x)) = vs
  | [], vs, hx => by simpa [Env.parts] using hx
  | (i, x) :: xs, vs, hx => by
    simp only [Env.parts] at hx
    split at hx
    · rename_i v us h1 h2
      obtain rfl : (i, v) :: us = vs := by simpa using hx
      simp [h.eval h1, h.parts h2]
    · simp at hx

/-- a struct or array, built of parts -/
theorem G1_build {parts : Array (Nat × Operand)} {ps : List (Nat × Value)} (v : Value) (hp : E.parts parts.toList = some ps) (hr : ∀ w, (Instr.build t ps.toArray).run P w = .ok v w) (hd : dstOk n d = true)
    (h : G P n ops dr l (E.put d v) w K) : G1 P n ops dr ⟨d, .build t parts, ty, pos, af, g⟩ l E w K :=
  G1_quiet v hd (fun a ha w' _ => by
    have hm : (parts.map fun (i, x) => (i, a.eval x)) = ps.toArray := by
      rw [← ha.parts hp]; apply Array.ext'; simp
    simp only [execOp, hm]
    simp [hr w']) h

theorem flat_set {α : Type} (e : Enc α) (el' : α) (off : Nat) (v : Value) : ∀ (xs : List α) (q : Nat) (el : α), xs[q]? = some el → e.enc el' = (e.enc el).set off v → off < e.sz →
    (xs.flatMap e.enc).set (q * e.sz + off) v = (xs.set q el').flatMap e.enc
  | [], q, el, h, _, _ => by simp at h
  | x :: xs, 0, el, h, he, ho => by
    simp at h; subst h
    rw [List.set_cons_zero, List.flatMap_cons, List.flatMap_cons, Nat.zero_mul, Nat.zero_add, List.set_append_left _ _ (by rw [e.len]; exact ho), he]
  | x :: xs, q + 1, el, h, he, ho => by
    simp at h
    rw [List.set_cons_succ, List.flatMap_cons, List.flatMap_cons, List.set_append_right _ _ (by rw [e.len, Nat.add_mul]; omega), e.len]
    have e1 : (q + 1) * e.sz + off - e.sz = q * e.sz + off := by rw [Nat.add_mul]; omega
    rw [e1, flat_set e el' off v xs q el h he ho]

theorem take_set {l : List Value} {n i : Nat} {v : Value} (hi : i < n) (hn : n ≤ l.length) : (l.take i ++ [v] ++ l.drop (i + 1)).take n = (l.take n).set i v := by
  apply List.ext_getElem?
  intro j
  simp only [List.getElem?_take, List.getElem?_append, List.getElem?_drop, List.length_append, List.length_take, List.length_cons, List.length_nil, List.getElem?_set, List.getElem?_cons]
  by_cases hj : j < n
  · by_cases h1 : j < i
    · simp [hj, h1, show j < min i l.length by omega, show j < min i l.length + 1 by omega, show i ≠ j by omega]
    · by_cases h2 : j = i
      · subst h2; simp [hj, show j < min n l.length by omega, show min j l.length = j by omega]
      · simp [hj, show min i l.length = i by omega, show ¬ j < i + 1 by omega, show i ≠ j by omega, show i + 1 + (j - (i + 1)) = j by omega]
  · simp [hj]; intro h; omega

/-- a cell of an element of an own row is written -/
theorem G1_storeEl {α : Type} {e : Enc α} {B T : Nat} {xs : List α} {q off : Nat} {el : α} (el' : α) (hsz : SizeT P t 1) (hx : E.look x = some (.pointer (some (adr p m)))) (hy : E.look y = some v) (hown : Own w B T e p c xs) (hq : xs[q]? = some el)
    (hm : m = q * e.sz + off) (hel : e.enc el' = (e.enc el).set off v) (hoff : off < e.sz) (hc : v.cells = #[v]) (h1 : v.oneCell' = true) (hB : B ≤ w.heap.size)
    (he : effects P dr.1 ⟨d, .store t x y, ty, pos, af, g⟩ = true) (hw : writes dr.1 ⟨d, .store t x y, ty, pos, af, g⟩ = true) (hd : dstOk n d = true)
    (h : ∀ w', App w w' B T e p p c (xs.set q el') → w'.heap.size = w.heap.size → G P n ops dr l (E.put d undef) w' K) : G1 P n ops dr ⟨d, .store t x y, ty, pos, af, g⟩ l E w K := by
  have hlt := get_lt hq
  obtain ⟨i0, hi0, hs0⟩ := hsz
  rcases hown.2 with ⟨_, hn⟩ | ⟨gb, cap, cur, hv, hbg, hg, hnc, hcm, hcs, htake⟩
  · omega
  · injection hv with e1 e2 e3
    subst e1 e3
    have hmlt : m < xs.length * e.sz := by
      subst hm
      have : q * e.sz + e.sz ≤ xs.length * e.sz := by
        have := Nat.mul_le_mul_right e.sz (show q + 1 ≤ xs.length from hlt)
        rw [Nat.add_mul] at this; omega
      omega
    have hmc : xs.length * e.sz ≤ cur.size := by rw [hcs]; exact Nat.mul_le_mul_right _ hnc
    have hst := run_storeCells_at P gb m T [v] 0 cur w hg (by simp; omega) (by simp [h1])
    simp only [Nat.add_zero] at hst
    refine G1_skip (w.setRow gb (cur.toList.take m ++ [v] ++ cur.toList.drop (m + 1)).toArray) he hd (fun a ha => ?_) (.inl hw) (h _ ?_ (by simp))
    · simp only [execOp, Instr.storeAt, ha.eval hx, ha.eval hy, Instr.sureAddr, storeVar, sizeOf, typeInfo, Sem.run_bind, Sem.run_pure, run_program, Result.andThen_ok, hi0, hs0, hc]
      simp only [List.size_toArray, List.length_cons, List.length_nil, Nat.zero_add, ne_eq, not_true_eq_false, if_false]
      have : (storeCells (adr (some ⟨gb, 0, none⟩) m) [v]).run P w = .ok () (w.setRow gb (cur.toList.take m ++ [v] ++ cur.toList.drop (m + 1)).toArray) := by
        show (storeCells ⟨gb, 0 + m, none⟩ [v]).run P w = _
        rw [Nat.zero_add]; simpa using hst
      simp [this]
    · refine ⟨?_, setRow_grown w gb _, by unfold NewP; exact .inl rfl, by simpa using hB⟩
      unfold Own
      rw [List.length_set]
      refine ⟨by rw [flat_len, List.length_set], .inr ⟨gb, c, _, rfl, hbg, setRow_heap w gb cur _ T _ hg, hnc, hcm, ?_, ?_⟩⟩
      · simp only [List.size_toArray, List.length_append, List.length_take, List.length_drop, Array.length_toList, List.length_cons, List.length_nil]
        rw [← hcs]; omega
      · rw [← flat_set e el' off v xs q el hq hel hoff, ← hm, ← htake]
        exact take_set hmlt (by simpa using hmc)

end
end Go.V
