/- resp.Same, on replies in memory of which no part is a string's: the walk. -/
import Derived.Test.YtikjnmpijflnaaaDoorVRepSameP
import Derived.Test.YtikjnmpijflnaaaDoorVRows2
import Derived.Test.YtikjnmpijflnaaaDoorVRepList
import Derived.LaidEqlPtr
namespace Go.V
section
variable {P : Program} {n : Nat} {ops : Array Oper} {dr : Nat × List Nat} {l : List Oper} {E : Env} {w : World} {K : Env → World → Prop}
variable {d : Option Nat} {ty : TypeId} {pos : String} {af : Array Edge} {g : Option (Nat × Bool)} {x y : Operand} {t t' te : TypeId} {dq : Nat}
/-- two addresses compared -/
theorem G1_peql {p q : Addr} {j : TypeInfo} (hx : E.look x = some (.pointer (some p))) (hy : E.look y = some (.pointer (some q))) (hp : P.underlying t = some (.pointer te)) (hte : P.info? te = some j) (hsz : j.size ≠ 0)
    (ha : ∃ ca ta, w.heap[p.block]? = some (.cells ca ta (0, 0))) (hb : ∃ cb tb, w.heap[q.block]? = some (.cells cb tb (0, 0))) (hd : dstOk n d = true) (h : G P n ops (dq, []) l (E.put d (.bool (decide (p = q)))) w K) : G1 P n ops (dq, []) ⟨d, .binOp .eql t x y t', ty, pos, af, g⟩ l E w K :=
  G1_quiet _ hd (fun a he w' hw => by
    obtain ⟨ca, ta, ha⟩ := ha
    obtain ⟨cb, tb, hb⟩ := hb
    have hx' := rd_ext hw (by simp [readsM, hp])
    have ha' := hx'.blk ha
    have hb' := hx'.blk hb
    by_cases e : p = q
    · subst e
      simp [execOp, he.eval hx, he.eval hy, eqGuard, run_eql_ptr_same w' p hp hte]
    · simp [execOp, he.eval hx, he.eval hy, eqGuard, e, run_eql_ptr_other w' hp hte hsz e ha' hb']) h
end
section
variable {P : Program} {n : Nat} {ops : Array Oper} {dr : Nat × List Nat} {l : List Oper} {E : Env} {w : World} {K : Env → World → Prop}
variable {d : Option Nat} {ty : TypeId} {pos : String} {af : Array Edge} {g : Option (Nat × Bool)} {x y : Operand} {s s' : ByteArray} {t t' : TypeId}
theorem G1_sneqF (hx : E.look x = some (.string s)) (hy : E.look y = some (.string s')) (he : s = s') (hd : dstOk n d = true) (h : G P n ops dr l (E.put d (.bool false)) w K) : G1 P n ops dr ⟨d, .binOp .neq t x y t', ty, pos, af, g⟩ l E w K :=
  G1_sneq hx hy hd (by rw [decide_eq_false (fun hn => hn he)]; exact h)
theorem G1_sneqT (hx : E.look x = some (.string s)) (hy : E.look y = some (.string s')) (he : ¬ s = s') (hd : dstOk n d = true) (h : G P n ops dr l (E.put d (.bool true)) w K) : G1 P n ops dr ⟨d, .binOp .neq t x y t', ty, pos, af, g⟩ l E w K :=
  G1_sneq hx hy hd (by rw [decide_eq_true he]; exact h)
end
/-- a pair of lists, and a trail -/
structure RawP where
  pa : Option Addr
  na : Nat
  ca : Nat
  pb : Option Addr
  nb : Nat
  cb : Nat
  L : Int
  N : Int
  ta : Option Addr
  tn : Nat
  tc : Nat
  ua : Option Addr
  un : Nat
  uc : Nat
abbrev RawP.trail (r : RawP) : Value := .agg #[.int .i64 r.L, .int .i64 r.N, .slice r.ta r.tn r.tc, .slice r.ua r.un r.uc]
/-- the trail behind a step -/
def RawP.step (r : RawP) (p : Option Addr) (n c : Nat) (q : Option Addr) (m d : Nat) : RawP :=
  if r.N ≤ r.L + 1 then { r with L := r.L + 1, N := 2 * (r.L + 1), ta := p, tn := n, tc := c, ua := q, un := m, uc := d } else { r with L := r.L + 1 }
def ePr : Enc RawP := ⟨6, fun r => [.slice r.pa r.na r.ca, .slice r.pb r.nb r.cb, .int .i64 r.L, .int .i64 r.N, .slice r.ta r.tn r.tc, .slice r.ua r.un r.uc], fun _ => rfl, fun _ v hv => by simp at hv; rcases hv with rfl | rfl | rfl | rfl | rfl | rfl <;> rfl, by decide⟩
/-- nothing of a string where p leads -/
def Bare (H : Array Obj) (p : Option Addr) : Prop := ∃ cs t, H[(adr p 0).block]? = some (.cells cs t (0, 0))
theorem Bare.ext {w w' : World} {p : Option Addr} (h : Bare w.heap p) (hx : Ext w w') : Bare w'.heap p := by
  obtain ⟨cs, t, h⟩ := h
  exact ⟨cs, t, hx.blk h⟩
/-- all of the memory, but for what a string may share -/
noncomputable abbrev clear (H : Array Obj) : Array Obj := veil (fun _ => False) H
theorem bare_of {H : Array Obj} {p : Option Addr} {c : Nat} {rs : List RawR} (h : Sl (clear H) eRep p c rs) (hn : 0 < rs.length) : Bare H p := by
  obtain ⟨r, hr⟩ := get_some hn
  have hc := h.cell 0 r hr 0 (.int .i64 r.kind) rfl
  obtain ⟨_, ⟨o, ho, hp⟩, _⟩ := hcell_veil.1 hc
  have e : (adr p (0 * eRep.sz + 0)).block = (adr p 0).block := by cases p <;> rfl
  rw [e] at ho
  unfold plainO at hp
  split at hp
  · rename_i cs t
    exact ⟨cs, t, ho⟩
  · cases hp
theorem clear_ext {w w' : World} (hx : Ext w w') : ∀ a v, hcell (clear w.heap) a = some v → hcell (clear w'.heap) a = some v := fun a v h => by
  obtain ⟨h1, ⟨o, ho, hp⟩, h2⟩ := hcell_veil.1 h
  exact hcell_veil.2 ⟨h1, ⟨o, hx.blk ho, hp⟩, hx.cell h2⟩
theorem clear_shown {H : Array Obj} : ∀ a v, hcell (clear H) a = some v → hcell H a = some v := fun _ _ h => (hcell_veil.1 h).2.2
/-- what a trail remembers is nothing, or a list that holds what comes below -/
structure TrailOk (H : Array Obj) (r : RawP) (ls : List Rep) (D : Int) : Prop where
  lo : 0 ≤ r.L
  hi : r.L ≤ D
  n0 : 0 ≤ r.N
  n1 : r.N ≤ 2 * D
  oka : Okp r.ta r.tn r.tc
  okb : Okp r.ua r.un r.uc
  old : r.tn = 0 ∨ ∃ e rs ts, RepsAt (clear H) e r.ta r.tc rs ts ∧ rs.length = r.tn ∧ SizeOf.sizeOf ls ≤ SizeOf.sizeOf ts
  oldb : r.un = 0 ∨ Bare H r.ua
/-- a pair as it lies -/
structure PairOk (H : Array Obj) (M : Nat) (r : RawP) (e : Nat) (ls us : List Rep) : Prop where
  a : ∃ rs, RepsAt (clear H) e r.pa r.ca rs ls ∧ rs.length = r.na
  b : ∃ e' rs, RepsAt (clear H) e' r.pb r.cb rs us ∧ rs.length = r.nb
  len : ls.length = us.length
  pos : 0 < ls.length
  tr : TrailOk H r ls ((M : Int) - e)
  le : e ≤ M
theorem TrailOk.ext {w w' : World} {r : RawP} {ls : List Rep} {D : Int} (h : TrailOk w.heap r ls D) (hx : Ext w w') : TrailOk w'.heap r ls D :=
  ⟨h.lo, h.hi, h.n0, h.n1, h.oka, h.okb, h.old.imp id (fun ⟨e, rs, ts, h1, h2⟩ => ⟨e, rs, ts, h1.cells (clear_ext hx), h2⟩), h.oldb.imp id (fun h => h.ext hx)⟩
theorem PairOk.ext {w w' : World} {M e : Nat} {r : RawP} {ls us : List Rep} (h : PairOk w.heap M r e ls us) (hx : Ext w w') : PairOk w'.heap M r e ls us := by
  obtain ⟨rs, h1, h2⟩ := h.a
  obtain ⟨e', rs', h3, h4⟩ := h.b
  exact ⟨⟨rs, h1.cells (clear_ext hx), h2⟩, ⟨e', rs', h3.cells (clear_ext hx), h4⟩, h.len, h.pos, h.tr.ext hx, h.le⟩
theorem sizeOf_l {z : Rep} {l : List Rep} (h : z ∈ l) : SizeOf.sizeOf z.l < SizeOf.sizeOf l := by
  have h1 := List.sizeOf_lt_of_mem h
  have h2 : SizeOf.sizeOf z.l < SizeOf.sizeOf z := by
    cases z with
    | mk k s n l =>
      show SizeOf.sizeOf l < _
      simp only [Rep.mk.sizeOf_spec]
      omega
  omega
end Go.V
namespace Go.Proofs.YtikjnmpijflnaaaDoor
open Go.V
attribute [local irreducible] Blk Own hcell IntT SliceT PlainT AggT SizeT StrT FieldT ZeroT EqT ArrT
theorem ptR : Tryd.prog.underlying 120 = some (.pointer 24) := Tryd.underlying120
theorem infoR0 : (Tryd.prog.info? 24).map (·.size) = some 4 := by kernel_rfl
theorem infoR : ∃ j, Tryd.prog.info? 24 = some j ∧ j.size ≠ 0 := by
  have h := infoR0
  cases e : Tryd.prog.info? 24 with
  | none => rw [e] at h; cases h
  | some j =>
    rw [e] at h
    injection h with h
    exact ⟨j, rfl, fun h0 => by rw [show j.size = 4 from h] at h0; cases h0⟩
def oneB (p : Option Addr) (n : Nat) (q : Option Addr) (m : Nat) : Bool := decide (0 < n) && (decide (n = m) && decide (adr p 0 = adr q 0))
theorem one_spec {p q : Option Addr} {n m c c' : Nat} {w : World} (ho : Okp p n c) (ho' : Okp q m c') (hb : 0 < n → n = m → Bare w.heap p ∧ Bare w.heap q) :
    Ctr Tryd.prog 62 [.slice p n c, .slice q m c'] w (fun v w' => v = .bool (oneB p n q m) ∧ Ext w w') := by
  obtain ⟨j, hj1, hj2⟩ := infoR
  have n1 := ho.le
  have n2 := ho.cap
  simp only [maxLen] at n2
  refine Ctr_of Tryd.func62 Tryd.ntmps62 rfl rfl rfl ?_
  by_cases h0 : 0 < n
  · by_cases h1 : n = m
    · obtain ⟨hA, hB⟩ := hb h0 h1
      unfold Bare at hA hB
      repeat' (first | (apply G_on; exact rfl; first | ((first | apply G1_assign | apply G1_move); exact rfl; exact rfl) | (apply G1_indexAddrJ (q := 0); exact T.s22; exact rfl; exact rfl; exact rfl; (first | exact ho | exact ho'); omega; exact rfl) | (apply G1_peql (p := adr p 0) (q := adr q 0); exact rfl; exact rfl; exact ptR; exact hj1; exact hj2; exact hA; exact hB; exact rfl) | (apply G1_len; exact T.s22; exact rfl; exact rfl) | ((first | apply G1_gtr | apply G1_eql); exact rfl; exact rfl; exact rfl) | (apply G1_pick_t; exact rfl; exact rfl; exact rfl)) | apply G_nil | apply Post_next | apply W_seq | apply W_region | ((fail_if_success (apply G_on; exact rfl)); apply G_split_dec; exact rfl; exact rfl; all_goals (intro h; try (exfalso; omega))) | refine W_drawn 1 [] [0,1,2,3,4,5,6,7,8,9,10,11,12,13,14,15,16,17] mixed (by decide +kernel) ?_ | apply W_ret)
      refine Post_ret Tryd.results62 ⟨_, _, rfl, rfl, rfl⟩ ?_
      exact ⟨by unfold oneB; rw [decide_eq_true h0, decide_eq_true h1]; rfl, (by repeat first | assumption | exact Ext.rfl' | apply Ext.drew | apply Ext.alloc | refine Ext.trans ?_ (by assumption))⟩
    · repeat' (first | (apply G_on; exact rfl; first | ((first | apply G1_assign | apply G1_move); exact rfl; exact rfl) | (apply G1_len; exact T.s22; exact rfl; exact rfl) | ((first | apply G1_gtr | apply G1_eql); exact rfl; exact rfl; exact rfl) | (apply G1_pick_t; exact rfl; exact rfl; exact rfl) | (apply G1_pick_f; exact rfl; exact rfl; exact rfl)) | apply G_nil | apply Post_next | apply W_seq | apply W_region | (apply G_off; exact rfl; exact rfl) | ((fail_if_success (apply G_on; exact rfl)); apply G_split_dec; exact rfl; exact rfl; all_goals (intro h; try (exfalso; omega))) | refine W_drawn 1 [] [0,1,2,3,4,5,6,7,8,9,10,11,12,13,14,15,16,17] mixed (by decide +kernel) ?_ | apply W_ret)
      refine Post_ret Tryd.results62 ⟨_, _, rfl, rfl, rfl⟩ ?_
      exact ⟨by unfold oneB; rw [decide_eq_true h0, decide_eq_false h1]; rfl, (by repeat first | assumption | exact Ext.rfl' | apply Ext.drew | apply Ext.alloc | refine Ext.trans ?_ (by assumption))⟩
  · repeat' (first | (apply G_on; exact rfl; first | ((first | apply G1_assign | apply G1_move); exact rfl; exact rfl) | (apply G1_len; exact T.s22; exact rfl; exact rfl) | (apply G1_gtr; exact rfl; exact rfl; exact rfl) | (apply G1_pick_f; exact rfl; exact rfl; exact rfl)) | apply G_nil | apply Post_next | apply W_seq | apply W_region | (apply G_off; exact rfl; exact rfl) | ((fail_if_success (apply G_on; exact rfl)); apply G_split_dec; exact rfl; exact rfl; all_goals (intro h; try (exfalso; omega))) | refine W_drawn 1 [] [0,1,2,3,4,5,6,7,8,9,10,11,12,13,14,15,16,17] mixed (by decide +kernel) ?_ | apply W_ret)
    refine Post_ret Tryd.results62 ⟨_, _, rfl, rfl, rfl⟩ ?_
    exact ⟨by unfold oneB; rw [decide_eq_false h0]; rfl, (by repeat first | assumption | exact Ext.rfl' | apply Ext.drew | apply Ext.alloc | refine Ext.trans ?_ (by assumption))⟩
theorem enter_nil {r : RawP} {p q : Option Addr} {c m d : Nat} {w : World} : Ctr Tryd.prog 42 [r.trail, .slice p 0 c, .slice q m d] w (fun v w' => v = .tuple #[r.trail, .bool false] ∧ Ext w w') := by
  unfold RawP.trail
  refine Ctr_of Tryd.func42 Tryd.ntmps42 rfl rfl rfl ?_
  repeat' (first | apply W_seq | apply W_region)
  apply G_on; exact rfl; apply G1_box; exact rfl; exact rfl; exact rfl; intro a1 w1 ha1 hA1 hx1 hs1
  replace hA1 : Blk w1.heap a1 68 [.int .i64 r.L, .int .i64 r.N, .slice r.ta r.tn r.tc, .slice r.ua r.un r.uc] := hA1
  skip
  apply G_on; exact rfl; apply G1_alloc; exact T.zero68; exact rfl; exact rfl; intro a2 w2 ha2 hA2 hx2 hs2
  replace hA1 := hA1.ext hx2
  repeat' (first | (apply G_on; exact rfl; first | ((first | apply G1_assign | apply G1_move); exact rfl; exact rfl) | (apply G1_len; exact T.s22; exact rfl; exact rfl) | (apply G1_eql; exact rfl; exact rfl; exact rfl) | (apply G1_pick_t; exact rfl; exact rfl; exact rfl) | (apply G1_loadBAgg; exact T.a68; exact rfl; assumption; exact rfl; exact rfl)) | apply G_nil | apply Post_next | apply W_seq | apply W_region | (apply W_cond_true; exact rfl) | (apply G_off; exact rfl; exact rfl))
  apply G_on; exact rfl; apply G1_storeB; exact T.z68; exact rfl; exact rfl; exact hA2; exact rfl; exact rfl; (first | exact Nat.le_of_ble_eq_true rfl | (focus (simp [Value.cells]; done))); (first | exact Enc.one _ _ | (focus (simp [Value.oneCell']; done)) | (focus (simp [Value.cells, Value.oneCell']; done)) | exact Enc.oneAgg _ _); exact rfl; (first | exact .inl rfl | exact .inr (by simp [exempt])); exact rfl; intro w3 hA3 hg3 hs3
  replace hA3 : Blk w3.heap a2 68 [.int .i64 r.L, .int .i64 r.N, .slice r.ta r.tn r.tc, .slice r.ua r.un r.uc] := hA3
  have hx3 : Ext w w3 := (hx1.trans hx2).own hg3 (fun k hk => by injection hk; omega)
  repeat' (first | (apply G_on; exact rfl; (apply G1_assign; exact rfl; exact rfl)) | apply G_nil | apply Post_next | apply W_ret | apply Post_then_ret)
  refine Post_ret Tryd.results42 ⟨_, _, _, rfl, rfl, run_loadVar_box T.a68 (by assumption) rfl, _, _, rfl, rfl, rfl⟩ ?_
  exact ⟨rfl, (by repeat first | assumption | exact Ext.rfl' | apply Ext.drew | apply Ext.alloc | refine Ext.trans ?_ (by assumption))⟩
theorem enter_go {r : RawP} {p q : Option Addr} {n c m d : Nat} {w : World} (hn : 0 < n) (hno : oneB p n r.ta r.tn = false) (ho : Okp p n c) (hot : Okp r.ta r.tn r.tc) (hb : Bare w.heap p) (ht : n = r.tn → Bare w.heap r.ta) (h0 : 0 ≤ r.L) (h1 : r.L ≤ 1000000000) (h2 : 0 ≤ r.N) (h3 : r.N ≤ 2000000000) :
    Ctr Tryd.prog 42 [r.trail, .slice p n c, .slice q m d] w (fun v w' => v = .tuple #[(r.step p n c q m d).trail, .bool true] ∧ Ext w w') := by
  have hone := fun w' (hx : Ext w w') => one_spec (w := w') ho hot (fun _ he => ⟨hb.ext hx, (ht he).ext hx⟩)
  rw [hno] at hone
  unfold RawP.trail
  refine Ctr_of Tryd.func42 Tryd.ntmps42 rfl rfl rfl ?_
  repeat' (first | apply W_seq | apply W_region)
  apply G_on; exact rfl; apply G1_box; exact rfl; exact rfl; exact rfl; intro a1 w1 ha1 hA1 hx1 hs1
  replace hA1 : Blk w1.heap a1 68 [.int .i64 r.L, .int .i64 r.N, .slice r.ta r.tn r.tc, .slice r.ua r.un r.uc] := hA1
  skip
  apply G_on; exact rfl; apply G1_alloc; exact T.zero68; exact rfl; exact rfl; intro a2 w2 ha2 hA2 hx2 hs2
  replace hA1 := hA1.ext hx2
  replace hA2 : Blk w2.heap a2 68 [.int .i64 0, .int .i64 0, .slice none 0 0, .slice none 0 0] := hA2
  repeat' (first | (apply G_on; exact rfl; first | ((first | apply G1_assign | apply G1_move); exact rfl; exact rfl) | (apply G1_call (f := 62); exact rfl; exact rfl; exact rfl; exact hone _ (by repeat first | assumption | exact Ext.rfl' | apply Ext.drew | apply Ext.alloc | refine Ext.trans ?_ (by assumption)); rintro _ w3 ⟨rfl, hx3⟩; refine ⟨(by first | exact .inl rfl | exact .inr (by assumption)), ?_⟩; (first | replace hA1 := hA1.ext hx3 | replace hA1 := hA1.ext ((Ext.drew Ext.rfl').trans hx3)); (first | replace hA2 := hA2.ext hx3 | replace hA2 := hA2.ext ((Ext.drew Ext.rfl').trans hx3))) | (apply G1_len; exact T.s22; exact rfl; exact rfl) | (apply G1_eql; exact rfl; exact rfl; exact rfl) | (apply G1_fieldAddr; (first | exact T.f68_2 | exact T.f68_0); exact rfl; exact rfl) | (apply G1_loadB; (first | exact T.p22 | exact T.p3); exact rfl; assumption; exact rfl; exact rfl) | (apply G1_pick_f; exact rfl; exact rfl; exact rfl) | (apply G1_add; exact rfl; exact rfl; omega; omega; exact rfl)) | apply G_nil | apply Post_next | apply W_seq | apply W_region | (apply W_cond_false; exact rfl) | (apply G_off; exact rfl; exact rfl) | ((fail_if_success (apply G_on; exact rfl)); apply G_split_dec; exact rfl; exact rfl; all_goals (intro h; try (exfalso; omega))) | apply W_skip)
  have hx03 : Ext w w3 := (by repeat first | assumption | exact Ext.rfl' | apply Ext.drew | apply Ext.alloc | refine Ext.trans ?_ (by assumption))
  apply G_on; exact rfl; apply G1_storeB; exact T.z3; exact rfl; exact rfl; exact hA1; exact rfl; exact rfl; (first | exact Nat.le_of_ble_eq_true rfl | (focus (simp [Value.cells]; done))); (first | exact Enc.one _ _ | (focus (simp [Value.oneCell']; done)) | (focus (simp [Value.cells, Value.oneCell']; done)) | exact Enc.oneAgg _ _); exact rfl; (first | exact .inl rfl | exact .inr (by simp [exempt])); exact rfl; intro w4 hA4 hg4 hs4
  replace hA4 : Blk w4.heap a1 68 [.int .i64 (r.L + 1), .int .i64 r.N, .slice r.ta r.tn r.tc, .slice r.ua r.un r.uc] := hA4
  replace hA2 := hA2.grown hg4 (fun e => by injection e; omega)
  have hx4 : Ext w w4 := hx03.own hg4 (fun k hk => by injection hk; omega)
  by_cases hN : r.N ≤ r.L + 1
  · have hst : r.step p n c q m d = { r with L := r.L + 1, N := 2 * (r.L + 1), ta := p, tn := n, tc := c, ua := q, un := m, uc := d } := if_pos hN
    rw [hst]
    repeat' (first | (apply G_on; exact rfl; first | (apply G1_move; exact rfl; exact rfl) | (apply G1_geq; exact rfl; exact rfl; exact rfl) | (apply G1_fieldAddr; (first | exact T.f68_0 | exact T.f68_1); exact rfl; exact rfl) | (apply G1_loadB; exact T.p3; exact rfl; assumption; exact rfl; exact rfl) | (apply G1_mul; exact rfl; exact rfl; omega; omega; exact rfl)) | apply G_nil | apply Post_next | apply W_seq | apply W_region | (apply W_cond_dec; exact rfl; all_goals (intro h; try (exfalso; omega))))
    apply G_on; exact rfl; apply G1_storeB; exact T.z3; exact rfl; exact rfl; exact hA4; exact rfl; exact rfl; (first | exact Nat.le_of_ble_eq_true rfl | (focus (simp [Value.cells]; done))); (first | exact Enc.one _ _ | (focus (simp [Value.oneCell']; done)) | (focus (simp [Value.cells, Value.oneCell']; done)) | exact Enc.oneAgg _ _); exact rfl; (first | exact .inl rfl | exact .inr (by simp [exempt])); exact rfl; intro w5 hA5 hg5 hs5
    replace hA5 : Blk w5.heap a1 68 [.int .i64 (r.L + 1), .int .i64 (2 * (r.L + 1)), .slice r.ta r.tn r.tc, .slice r.ua r.un r.uc] := hA5
    replace hA2 := hA2.grown hg5 (fun e => by injection e; omega)
    have hx5 : Ext w w5 := hx4.own hg5 (fun k hk => by injection hk; omega)
    repeat' (apply G_on; exact rfl; (apply G1_fieldAddr; exact T.f68_2; exact rfl; exact rfl))
    apply G_on; exact rfl; apply G1_storeB; exact T.z22; exact rfl; exact rfl; exact hA5; exact rfl; exact rfl; (first | exact Nat.le_of_ble_eq_true rfl | (focus (simp [Value.cells]; done))); (first | exact Enc.one _ _ | (focus (simp [Value.oneCell']; done)) | (focus (simp [Value.cells, Value.oneCell']; done)) | exact Enc.oneAgg _ _); exact rfl; (first | exact .inl rfl | exact .inr (by simp [exempt])); exact rfl; intro w6 hA6 hg6 hs6
    replace hA6 : Blk w6.heap a1 68 [.int .i64 (r.L + 1), .int .i64 (2 * (r.L + 1)), .slice p n c, .slice r.ua r.un r.uc] := hA6
    replace hA2 := hA2.grown hg6 (fun e => by injection e; omega)
    have hx6 : Ext w w6 := hx5.own hg6 (fun k hk => by injection hk; omega)
    repeat' (apply G_on; exact rfl; (apply G1_fieldAddr; exact T.f68_3; exact rfl; exact rfl))
    apply G_on; exact rfl; apply G1_storeB; exact T.z22; exact rfl; exact rfl; exact hA6; exact rfl; exact rfl; (first | exact Nat.le_of_ble_eq_true rfl | (focus (simp [Value.cells]; done))); (first | exact Enc.one _ _ | (focus (simp [Value.oneCell']; done)) | (focus (simp [Value.cells, Value.oneCell']; done)) | exact Enc.oneAgg _ _); exact rfl; (first | exact .inl rfl | exact .inr (by simp [exempt])); exact rfl; intro w7 hA7 hg7 hs7
    replace hA7 : Blk w7.heap a1 68 [.int .i64 (r.L + 1), .int .i64 (2 * (r.L + 1)), .slice p n c, .slice q m d] := hA7
    replace hA2 := hA2.grown hg7 (fun e => by injection e; omega)
    have hx7 : Ext w w7 := hx6.own hg7 (fun k hk => by injection hk; omega)
    repeat' (first | (apply G_on; exact rfl; (apply G1_loadBAgg; exact T.a68; exact rfl; assumption; exact rfl; exact rfl)) | apply G_nil | apply Post_next | apply W_seq | apply W_region)
    apply G_on; exact rfl; apply G1_storeB; exact T.z68; exact rfl; exact rfl; exact hA2; exact rfl; exact rfl; (first | exact Nat.le_of_ble_eq_true rfl | (focus (simp [Value.cells]; done))); (first | exact Enc.one _ _ | (focus (simp [Value.oneCell']; done)) | (focus (simp [Value.cells, Value.oneCell']; done)) | exact Enc.oneAgg _ _); exact rfl; (first | exact .inl rfl | exact .inr (by simp [exempt])); exact rfl; intro w8 hA8 hg8 hs8
    replace hA8 : Blk w8.heap a2 68 [.int .i64 (r.L + 1), .int .i64 (2 * (r.L + 1)), .slice p n c, .slice q m d] := hA8
    have hx8 : Ext w w8 := hx7.own hg8 (fun k hk => by injection hk; omega)
    repeat' (first | (apply G_on; exact rfl; (apply G1_assign; exact rfl; exact rfl)) | apply G_nil | apply Post_next | apply W_ret)
    refine Post_ret Tryd.results42 ⟨_, _, _, rfl, rfl, run_loadVar_box T.a68 (by assumption) rfl, _, _, rfl, rfl, rfl⟩ ?_
    exact ⟨rfl, (by repeat first | assumption | exact Ext.rfl' | apply Ext.drew | apply Ext.alloc | refine Ext.trans ?_ (by assumption))⟩
  · have hst : r.step p n c q m d = { r with L := r.L + 1 } := if_neg hN
    rw [hst]
    repeat' (first | (apply G_on; exact rfl; first | (apply G1_geq; exact rfl; exact rfl; exact rfl) | (apply G1_fieldAddr; (first | exact T.f68_0 | exact T.f68_1); exact rfl; exact rfl) | (apply G1_loadB; exact T.p3; exact rfl; assumption; exact rfl; exact rfl) | (apply G1_loadBAgg; exact T.a68; exact rfl; assumption; exact rfl; exact rfl)) | apply G_nil | apply Post_next | apply W_seq | apply W_region | (apply W_cond_dec; exact rfl; all_goals (intro h; try (exfalso; omega))) | apply W_skip)
    apply G_on; exact rfl; apply G1_storeB; exact T.z68; exact rfl; exact rfl; exact hA2; exact rfl; exact rfl; (first | exact Nat.le_of_ble_eq_true rfl | (focus (simp [Value.cells]; done))); (first | exact Enc.one _ _ | (focus (simp [Value.oneCell']; done)) | (focus (simp [Value.cells, Value.oneCell']; done)) | exact Enc.oneAgg _ _); exact rfl; (first | exact .inl rfl | exact .inr (by simp [exempt])); exact rfl; intro w8 hA8 hg8 hs8
    replace hA8 : Blk w8.heap a2 68 [.int .i64 (r.L + 1), .int .i64 r.N, .slice r.ta r.tn r.tc, .slice r.ua r.un r.uc] := hA8
    have hx8 : Ext w w8 := hx4.own hg8 (fun k hk => by injection hk; omega)
    repeat' (first | (apply G_on; exact rfl; (apply G1_assign; exact rfl; exact rfl)) | apply G_nil | apply Post_next | apply W_ret)
    refine Post_ret Tryd.results42 ⟨_, _, _, rfl, rfl, run_loadVar_box T.a68 (by assumption) rfl, _, _, rfl, rfl, rfl⟩ ?_
    exact ⟨rfl, (by repeat first | assumption | exact Ext.rfl' | apply Ext.drew | apply Ext.alloc | refine Ext.trans ?_ (by assumption))⟩
theorem bldPr (p : Option Addr) (n c : Nat) (q : Option Addr) (m d : Nat) (L N : Int) (ta : Option Addr) (tn tc : Nat) (ua : Option Addr) (un uc : Nat) (w : World) :
    (Instr.build 98 [(0, Value.slice p n c), (1, Value.slice q m d), (2, Value.agg #[.int .i64 L, .int .i64 N, .slice ta tn tc, .slice ua un uc])].toArray).run Tryd.prog w = .ok (.agg (ePr.enc ⟨p, n, c, q, m, d, L, N, ta, tn, tc, ua, un, uc⟩).toArray) w := by kernel_rfl
theorem bldPr0 (p : Option Addr) (n c : Nat) (q : Option Addr) (m d : Nat) (w : World) :
    (Instr.build 98 [(0, Value.slice p n c), (1, Value.slice q m d)].toArray).run Tryd.prog w = .ok (.agg (ePr.enc ⟨p, n, c, q, m, d, 0, 0, none, 0, 0, none, 0, 0⟩).toArray) w := by kernel_rfl
end Go.Proofs.YtikjnmpijflnaaaDoor
