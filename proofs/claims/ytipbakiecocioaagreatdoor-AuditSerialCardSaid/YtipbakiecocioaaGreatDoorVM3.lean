/- Texts of this proof laid together: AudSer6, AudSer7, Tree, AudSer8, AudSer9, RepRdW, ReqPlain, ReqTold, RefNum, StrPiece, RefParse, RepHid, RepList, RepRef, RepRight, RepWrite. -/
import Derived.Test.YtipbakiecocioaaGreatDoorVM2
import Derived.Sort.OwnSorted
import Derived.Scope
/- Audit: the rules clash and order. -/

namespace Go.V
theorem blk_neq {H : Array Obj} {b b' : Nat} {t t' : TypeId} {cs cs' : List Value} (h : Blk H b t cs) (h' : Blk H b' t' cs') (ht : t ≠ t') : b ≠ b' := by
  rintro rfl
  unfold Blk at h h'
  rw [h] at h'
  injection h' with e
  injection e
  contradiction
end Go.V
namespace Go.Proofs.YtipbakiecocioaaGreatDoor
open Go.V
attribute [local irreducible] Blk Own hcell IntT SliceT PlainT AggT SizeT StrT FieldT ZeroT EqT ArrT
theorem clash_spec {bk bc bs m i d : Nat} {q : Option Addr} {ws : List WrD} {xs : List TxD} {r : RawH} {x : TxD} {w : World} (hH : HistAt w.heap i r x) (hK : MapV Tryz.prog w 9 bk (oneF (some (.slice q ws.length d))) m) (hW : Sl w.heap eWr q d ws) (hws : WrsOf ws xs) (hi : i < ws.length) (hl : ws.length ≤ 1000) :
    Ctr Tryz.prog 34 [pastV bk bc bs, histV r] w (fun v w' => v = .bool false ∧ Ext w w') := by
  have e1 := hH.start
  have e2 := hH.com
  have e3 := hH.n
  obtain ⟨ses, st, com, p, n, c⟩ := r
  simp only at e1 e2 e3
  subst e1 e2 e3
  have hS : Sl w.heap eOp p c (opsOf x) := hH.ops
  have hok := hS.ok
  rw [opsOf_len] at hok
  have hwok := hW.ok
  refine Ctr_of Tryz.func34 Tryz.ntmps34 rfl rfl rfl ?_
  repeat' (first | apply W_seq | apply W_region)
  apply G_on; exact rfl; apply G1_box; exact rfl; exact rfl; exact rfl; intro a1 w1 ha1 hA1 hx1 hs1
  replace hA1 : Blk w1.heap a1 80 [.map (some bk), .map (some bc), .map (some bs)] := hA1
  apply G_on; exact rfl; apply G1_box; exact rfl; exact rfl; exact rfl; intro a2 w2 ha2 hA2 hx2 hs2
  replace hA2 : Blk w2.heap a2 43 [.int .i64 ses, .int .i64 (i : Int), .int .i64 ((i : Int) + 1), .slice p 3 c] := hA2
  replace hA1 := hA1.ext hx2
  repeat' (first | (apply G_on; exact rfl; first | ((first | apply G1_assign | apply G1_move); exact rfl; exact rfl) | (apply G1_fieldAddr; (first | exact T.f43_2 | exact T.f43_3); exact rfl; exact rfl) | (apply G1_loadB; (first | exact T.p3 | exact T.p41); exact rfl; assumption; exact rfl; exact rfl) | (apply G1_eql; exact rfl; exact rfl; exact rfl) | (apply G1_len; exact T.s41; exact rfl; exact rfl)) | apply G_nil | apply Post_next | apply W_seq | apply W_region | (apply W_cond_false; exact rfl) | apply W_skip | apply W_block)
  all_goals try (exfalso; omega)
  refine W_loop (ι := Nat) (fun y => [(2, .pointer (some (adr (bx a1) 0))), (3, .pointer (some (adr (bx a2) 0))), (13, .slice p 3 c), (14, .int .i64 3), (15, .int .i64 (y : Int))])
    (fun y w' => y ≤ 3 ∧ Blk w'.heap a1 80 [.map (some bk), .map (some bc), .map (some bs)] ∧ Blk w'.heap a2 43 [.int .i64 ses, .int .i64 (i : Int), .int .i64 ((i : Int) + 1), .slice p 3 c] ∧ Ext w w') (fun y => 3 - y) 0 ⟨rfl, rfl, rfl, rfl, rfl, trivial⟩
    ⟨Nat.zero_le _, hA1, hA2, (by repeat first | assumption | exact Ext.rfl' | apply Ext.drew | apply Ext.alloc | refine Ext.trans ?_ (by assumption))⟩ ?_
  clear hA1 hA2
  rintro y w4 ⟨hy, hA1, hA2, hx4⟩
  refine W_keep [(2, .pointer (some (adr (bx a1) 0))), (3, .pointer (some (adr (bx a2) 0))), (13, .slice p 3 c), (14, .int .i64 3), (15, .int .i64 (y : Int))] ⟨rfl, rfl, rfl, rfl, rfl, trivial⟩ ?_
  by_cases hlt : y < 3
  rotate_left
  · repeat' (first | (apply G_on; exact rfl; first | (apply G1_assign; exact rfl; exact rfl) | (apply G1_lss; exact rfl; exact rfl; exact rfl)) | apply G_nil | apply Post_next | apply W_seq | apply W_region | (apply W_cond_dec; exact rfl; all_goals (intro h; try (exfalso; omega))) | apply W_exit | apply W_ret | apply Post_then_exit | apply Post_block_exit)
    all_goals try (exfalso; omega)
    refine Post_ret Tryz.results34 ⟨_, _, rfl, rfl, rfl⟩ ?_
    exact ⟨rfl, (by repeat first | assumption | exact Ext.rfl' | apply Ext.drew | apply Ext.alloc | refine Ext.trans ?_ (by assumption))⟩
  obtain ⟨o, ho⟩ := get_some (xs := opsOf x) (k := y) (by rw [opsOf_len]; omega)
  have hS4 := hS.ext hx4
  have hko := op_key ho
  obtain ⟨ow, ok, ot, oh⟩ := o
  simp only at hko
  subst hko
  repeat' (first | (apply G_on; exact rfl; first | (apply G1_lss; exact rfl; exact rfl; exact rfl) | (apply G1_indexAddrN; exact T.s41; exact rfl; exact rfl; (first | assumption | exact Sl.ok (by assumption) | exact (Own.sl (by assumption)).ok); omega; exact rfl) | (apply G1_loadEl; exact T.a40; exact rfl; assumption; assumption; exact rfl; exact rfl)) | apply G_nil | apply Post_next | apply W_seq | apply W_region | (apply W_cond_dec; exact rfl; all_goals (intro h; try (exfalso; omega))) | apply W_skip | apply W_block)
  all_goals try (exfalso; omega)
  apply G_on; exact rfl; apply G1_alloc; exact T.zero40; exact rfl; exact rfl; intro a5 w5 ha5 hA5 hx5 hs5
  replace hS4 := hS4.ext hx5
  replace hA1 := hA1.ext hx5
  replace hA2 := hA2.ext hx5
  skip
  have hq1 := hA1.lt
  have hq2 := hA2.lt
  apply G_on; exact rfl; apply G1_storeB; exact T.z40; exact rfl; exact rfl; exact hA5; exact rfl; exact rfl; (first | exact Nat.le_of_ble_eq_true rfl | (focus (simp [Value.cells]; done))); (first | exact Enc.one _ _ | (focus (simp [Value.oneCell']; done)) | (focus (simp [Value.cells, Value.oneCell']; done)) | exact Enc.oneAgg _ _); exact rfl; (first | exact .inl rfl | exact .inr (by simp [exempt])); exact rfl; intro w6 hA6 hg6 hs6
  replace hA6 : Blk w6.heap a5 40 [.bool ow, .string sK, .string ot, .bool oh] := hA6
  have hp1 : a1 ≠ a5 := blk_neq hA1 hA5 (by decide)
  have hp2 : a2 ≠ a5 := blk_neq hA2 hA5 (by decide)
  replace hA1 := hA1.grown hg6 (fun e => by injection e with e; omega)
  replace hA2 := hA2.grown hg6 (fun e => by injection e with e; omega)
  have hx06 : Ext w w6 := hx4.trans (hx5.own hg6 (fun k hk => by injection hk; omega))
  have hkv : (oneF (some (.slice q ws.length d)) kLit).getD (.slice none 0 0) = .slice q ws.length d := by rw [oneF_at]; rfl
  have hKx := fun (w' : World) (hx : Ext w w') => hK.ext hx
  have hbh := fun (w' : World) (hx : Ext w w') => behind_spec (hW.ext hx) hws.com (Nat.le_of_lt hi) hl
  obtain ⟨z, hz⟩ := get_some hi
  have hcz := hws.com i z hz
  have f0 : (eWr.enc z)[0]? = some (.int .i64 ((i : Int) + 1)) := by rw [← hcz]; rfl
  repeat' (first | (apply G_on; exact rfl; first | ((first | apply G1_assign | apply G1_move); exact rfl; exact rfl) | (apply G1_lookVk hkv; exact Tryz.underlying76; exact kStr; exact zeroW; exact rfl; exact rfl; exact keyS; exact hKx _ (by repeat first | assumption | exact Ext.rfl' | apply Ext.drew | apply Ext.alloc | refine Ext.trans ?_ (by assumption)); exact rfl) | (apply G1_call (f := 69); exact rfl; exact rfl; exact rfl; exact hbh _ (by repeat first | assumption | exact Ext.rfl' | apply Ext.drew | apply Ext.alloc | refine Ext.trans ?_ (by assumption)); rintro _ v3 ⟨rfl, hy3⟩; refine ⟨(by first | exact .inl rfl | exact .inr (by assumption)), ?_⟩; (first | replace hA6 := hA6.ext hy3 | replace hA6 := hA6.ext ((Ext.drew Ext.rfl').trans hy3)); (first | replace hA1 := hA1.ext hy3 | replace hA1 := hA1.ext ((Ext.drew Ext.rfl').trans hy3)); (first | replace hA2 := hA2.ext hy3 | replace hA2 := hA2.ext ((Ext.drew Ext.rfl').trans hy3))) | (apply G1_indexAddrJ (q := i); exact T.s86; exact rfl; exact rfl; exact rfl; exact hwok; omega; exact rfl) | (apply G1_loadFld (e := eWr) (q := i) (off := 0); exact T.p3; exact rfl; exact hW.ext (by repeat first | assumption | exact Ext.rfl' | apply Ext.drew | apply Ext.alloc | refine Ext.trans ?_ (by assumption)); exact hz; exact rfl; exact f0; exact rfl) | (apply G1_fieldAddr; (first | exact T.f43_2 | exact T.f40_0 | exact T.f80_0 | exact T.f40_1 | exact T.f43_1 | exact T.f88_0); exact rfl; exact rfl) | (apply G1_loadB; (first | exact T.p3 | exact T.p4 | exact T.p76 | exact T.p9); exact rfl; assumption; exact rfl; exact rfl) | (apply G1_lss; exact rfl; exact rfl; exact rfl) | (apply G1_len; exact T.s86; exact rfl; exact rfl) | (apply G1_not; exact rfl; exact rfl) | (apply G1_pick_t; exact rfl; exact rfl; exact rfl) | (apply G1_add; exact rfl; exact rfl; omega; omega; exact rfl)) | apply G_nil | apply Post_next | apply W_seq | apply W_region | (apply W_cond_dec; exact rfl; all_goals (intro h; try (exfalso; omega))) | (apply W_cond; exact rfl; all_goals intro h) | ((fail_if_success (apply G_on; exact rfl)); apply G_split_dec; exact rfl; exact rfl; all_goals (intro h; try (exfalso; omega))) | refine W_drawn 1 [] [0,1,2,3,4,5,6,7,8,9,10,11,12,13] mixed (by decide +kernel) ?_ | apply W_skip | apply W_exit | apply Post_then_exit | apply Post_block_exit | apply Post_block_normal)
  all_goals try (exfalso; omega)
  all_goals exact Post_round (y + 1) ⟨rfl, rfl, rfl, rfl, rfl, trivial⟩ ⟨by omega, hA1, hA2, (by repeat first | assumption | exact Ext.rfl' | apply Ext.drew | apply Ext.alloc | refine Ext.trans ?_ (by assumption))⟩ (by omega)
/-- what the sessions have committed: the greatest of each -/
noncomputable def pickN (p : Nat → Prop) : Option Value := open Classical in if h : ∃ j : Nat, p j then some (.int .i64 ((h.choose : Int) + 1)) else none
noncomputable def sesF (i : Nat) : Lit → Option Value := fun u => pickN fun j => j < i ∧ i ≤ j + 3 ∧ u = .int .i64 ((j % 3 : Nat) : Int)
theorem zeroI : ZeroT Tryz.prog 3 (.int .i64 0) := ZeroT.of (by kernel_rfl)
theorem sesF_le (i : Nat) (k : Nat) : ∃ c : Int, (sesF i (.int .i64 ((k % 3 : Nat) : Int))).getD (.int .i64 0) = .int .i64 c ∧ 0 ≤ c ∧ c ≤ (i : Int) := by
  unfold sesF pickN
  split
  · next h => exact ⟨_, rfl, by omega, by have := h.choose_spec.1; omega⟩
  · exact ⟨0, rfl, by omega, by omega⟩
theorem sesF_lit {a b : Nat} (h : Lit.int .i64 ((a % 3 : Nat) : Int) = Lit.int .i64 ((b % 3 : Nat) : Int)) : a % 3 = b % 3 := by injection h with _ h; omega
theorem sesF_put (i : Nat) : putV (sesF i) (.int .i64 ((i % 3 : Nat) : Int)) (.int .i64 ((i : Int) + 1)) = sesF (i + 1) := by
  funext u
  unfold putV
  split
  · next h =>
    subst h
    unfold sesF pickN
    have hex : ∃ j : Nat, j < i + 1 ∧ i + 1 ≤ j + 3 ∧ Lit.int .i64 ((i % 3 : Nat) : Int) = .int .i64 ((j % 3 : Nat) : Int) := ⟨i, by omega, by omega, rfl⟩
    rw [dif_pos hex]
    have := hex.choose_spec
    have h3 := sesF_lit this.2.2
    have : hex.choose = i := by omega
    rw [this]
  · next h =>
    unfold sesF
    have key : ∀ j : Nat, (j < i ∧ i ≤ j + 3 ∧ u = .int .i64 ((j % 3 : Nat) : Int)) ↔ (j < i + 1 ∧ i + 1 ≤ j + 3 ∧ u = .int .i64 ((j % 3 : Nat) : Int)) := by
      intro j
      constructor
      · rintro ⟨h1, h2, h3⟩
        refine ⟨by omega, ?_, h3⟩
        rcases Nat.lt_or_ge j (i - 2) with h4 | h4
        · exfalso; apply h; rw [h3]
          have : j % 3 = i % 3 := by omega
          rw [this]
        · by_cases h5 : i + 1 ≤ j + 3
          · exact h5
          · exfalso; apply h; rw [h3]
            have : j % 3 = i % 3 := by omega
            rw [this]
      · rintro ⟨h1, h2, h3⟩
        refine ⟨?_, by omega, h3⟩
        by_cases h5 : j = i
        · subst h5; exact absurd h3 h
        · omega
    have : (fun j : Nat => j < i ∧ i ≤ j + 3 ∧ u = .int .i64 ((j % 3 : Nat) : Int)) = (fun j => j < i + 1 ∧ i + 1 ≤ j + 3 ∧ u = .int .i64 ((j % 3 : Nat) : Int)) := funext fun j => propext (key j)
    rw [this]
theorem order_spec {bk bc bs m i a : Nat} {r : RawH} {x : TxD} {w : World} (hH : HistAt w.heap i r x) (hA : Blk w.heap a 80 [.map (some bk), .map (some bc), .map (some bs)]) (hM : MapV Tryz.prog w 3 bs (sesF i) m) (hi : i ≤ 1000) :
    Ctr Tryz.prog 33 [histV r, .pointer (some (adr (bx a) 0))] w (fun v w' => v = .bool false ∧ Ext w w') := by
  have e1 := hH.start
  have e4 := hH.ses
  obtain ⟨ses, st, com, p, n, c⟩ := r
  simp only at e1 e4
  subst e1 e4
  obtain ⟨cc, hc1, hc2, hc3⟩ := sesF_le i i
  refine Ctr_of Tryz.func33 Tryz.ntmps33 rfl rfl rfl ?_
  repeat' (first | apply W_seq | apply W_region)
  apply G_on; exact rfl; apply G1_box; exact rfl; exact rfl; exact rfl; intro a2 w2 ha2 hA2 hx2 hs2
  replace hA2 : Blk w2.heap a2 43 [.int .i64 ((i % 3 : Nat) : Int), .int .i64 (i : Int), .int .i64 com, .slice p n c] := hA2
  replace hA := hA.ext hx2
  have hMx := fun (w' : World) (hx : Ext w w') => hM.ext hx
  repeat' (first | (apply G_on; exact rfl; first | (apply G1_assign; exact rfl; exact rfl) | (apply G1_lookVk hc1; exact Tryz.underlying78; exact kInt; exact zeroI; exact rfl; exact rfl; exact keyI (by omega) (by omega); exact hMx _ (by repeat first | assumption | exact Ext.rfl' | apply Ext.drew | apply Ext.alloc | refine Ext.trans ?_ (by assumption)); exact rfl) | (apply G1_fieldAddr; (first | exact T.f80_2 | exact T.f43_0 | exact T.f43_1); exact rfl; exact rfl) | (apply G1_loadB; (first | exact T.p78 | exact T.p3); exact rfl; assumption; exact rfl; exact rfl) | (apply G1_gtr; exact rfl; exact rfl; exact rfl)) | apply G_nil | apply Post_next | apply W_seq | apply W_region | apply W_ret)
  refine Post_ret Tryz.results33 ⟨_, _, rfl, rfl, rfl⟩ ?_
  exact ⟨by show Value.bool _ = _; congr 1; simp; omega, (by repeat first | assumption | exact Ext.rfl' | apply Ext.drew | apply Ext.alloc | refine Ext.trans ?_ (by assumption))⟩
end Go.Proofs.YtipbakiecocioaaGreatDoor

/- Audit: what Check knows, in memory. -/

namespace Go.V
open Go.RowKit Go.Proofs.YtipbakiecocioaaGreatDoor
theorem Own.neM {α : Type} {P : Program} {e : Enc α} {w : World} {B T k b m : Nat} {p : Option Addr} {c : Nat} {xs : List α} {f : Lit → Option Value} (h : Own w B T e p c xs) (hr : MapV P w k b f m) : blk p ≠ some b := by
  obtain ⟨D, ⟨es, clock, h1, _⟩, _⟩ := hr
  intro e2
  obtain ⟨cur, h2⟩ := h.at e2
  rw [h1] at h2
  cases h2
theorem Own.neI {α : Type} {P : Program} {e : Enc α} {w : World} {B T k b r cnt m : Nat} {p : Option Addr} {c : Nat} {xs : List α} {f : Lit → Option Value} {left : Lit → Bool} (h : Own w B T e p c xs) (hr : MapVR P w k b r f left cnt m) : blk p ≠ some r := by
  obtain ⟨D, h1, _⟩ := hr
  have := row_ne_iter h h1
  intro e2
  apply this
  cases p with
  | none => cases e2
  | some a => exact e2.symm
theorem Own.neMR {α : Type} {P : Program} {e : Enc α} {w : World} {B T k b r cnt m : Nat} {p : Option Addr} {c : Nat} {xs : List α} {f : Lit → Option Value} {left : Lit → Bool} (h : Own w B T e p c xs) (hr : MapVR P w k b r f left cnt m) : blk p ≠ some b := by
  obtain ⟨D, h1, h2⟩ := hr
  exact h.neM (P := P) (k := k) (f := f) (m := m) ⟨D, h1.owns, h2⟩
theorem Blk.neM {P : Program} {w : World} {a t k b m : Nat} {cs : List Value} {f : Lit → Option Value} (h : Blk w.heap a t cs) (hr : MapV P w k b f m) : b ≠ a := by
  obtain ⟨D, ⟨es, clock, h1, _⟩, _⟩ := hr
  rintro rfl
  unfold Blk at h
  rw [h1] at h
  cases h
/-- what all wrote -/
def wrsL (xs : List TxD) (n : Nat) : List WrD := (List.range n).map (fun j : Nat => ⟨(j : Int) + 1, true, ((xs[j]?).map (·.t)).getD ⟨#[]⟩⟩)
theorem wrsL_len (xs : List TxD) (n : Nat) : (wrsL xs n).length = n := by simp [wrsL]
theorem wrsL_snoc {xs : List TxD} {n : Nat} {x : TxD} (h : xs[n]? = some x) : wrsL xs (n + 1) = wrsL xs n ++ [⟨(n : Int) + 1, true, x.t⟩] := by simp [wrsL, List.range_succ, h]
theorem wrsL_of (xs : List TxD) : WrsOf (wrsL xs xs.length) xs := by
  refine ⟨wrsL_len _ _, fun j y hy => ?_⟩
  have hj : j < xs.length := by have := get_lt hy; rw [wrsL_len] at this; exact this
  obtain ⟨x, hx⟩ := get_some hj
  refine ⟨x, hx, ?_⟩
  simp [wrsL, hj] at hy
  rw [← hy]
  have : xs[j] = x := by have := List.getElem?_eq_getElem hj; rw [hx] at this; injection this with this; exact this.symm
  simp [this]
noncomputable def keysF (i : Nat) (q : Option Addr) (d : Nat) : Lit → Option Value := oneF (if i = 0 then none else some (.slice q i d))
theorem keysF_get {i : Nat} {q : Option Addr} {d : Nat} (h : i = 0 → q = none ∧ d = 0) : (keysF i q d kLit).getD (.slice none 0 0) = .slice q i d := by
  unfold keysF
  rw [oneF_at]
  split
  · next h0 => obtain ⟨rfl, rfl⟩ := h h0; rw [h0]; rfl
  · rfl
theorem keysF_put (i : Nat) (q q' : Option Addr) (d d' : Nat) : putV (keysF i q d) kLit (.slice q' (i + 1) d') = keysF (i + 1) q' d' := oneF_put _ _
theorem comsF_zero : comsF 0 = fun _ => none := by
  funext u
  unfold comsF
  rw [if_neg]
  rintro ⟨j, hj, _⟩
  omega
theorem sesF_zero : sesF 0 = fun _ => none := by
  funext u
  unfold sesF pickN
  rw [dif_neg]
  rintro ⟨j, hj, _⟩
  omega
theorem comsF_put (i : Nat) : putV (comsF i) (.int .i64 ((i : Int) + 1)) (.agg #[]) = comsF (i + 1) := by
  funext u
  unfold putV
  split
  · next h => unfold comsF; rw [if_pos ⟨i, by omega, h⟩]
  · next h =>
    unfold comsF
    have : (∃ j : Nat, j < i ∧ u = .int .i64 ((j : Int) + 1)) ↔ (∃ j : Nat, j < i + 1 ∧ u = .int .i64 ((j : Int) + 1)) := by
      constructor
      · rintro ⟨j, h1, h2⟩; exact ⟨j, by omega, h2⟩
      · rintro ⟨j, h1, h2⟩
        refine ⟨j, ?_, h2⟩
        by_cases e : j = i
        · subst e; exact absurd h2 h
        · omega
    by_cases hh : ∃ j : Nat, j < i ∧ u = .int .i64 ((j : Int) + 1)
    · rw [if_pos hh, if_pos (this.1 hh)]
    · rw [if_neg hh, if_neg (fun e => hh (this.2 e))]
/-- what Check knows: T the type of its box; ks, ki the types of its keys -/
structure PastAt (P : Program) (T ks ki : Nat) (w : World) (a bk bc bs : Nat) (F : Lit → Option Value) (m j mj : Nat) : Prop where
  box : Blk w.heap a T [.map (some bk), .map (some bc), .map (some bs)]
  keys : MapV P w ks bk F m
  coms : MapV P w ki bc (comsF j) mj
  sess : MapV P w ki bs (sesF j) mj
  kc : bk ≠ bc
  kb : bk ≠ bs
  cb : bc ≠ bs
section
variable {P : Program} {T ks ki a bk bc bs m j mj : Nat} {F : Lit → Option Value} {w w1 w2 : World}
theorem PastAt.ext (h : PastAt P T ks ki w a bk bc bs F m j mj) (hx : Ext w w1) : PastAt P T ks ki w1 a bk bc bs F m j mj := ⟨h.box.ext hx, h.keys.ext hx, h.coms.ext hx, h.sess.ext hx, h.kc, h.kb, h.cb⟩
theorem PastAt.kept (h : PastAt P T ks ki w a bk bc bs F m j mj) {row : Option Nat} (hg : w.grownBy w1 row) (h0 : row ≠ some a) (h1 : row ≠ some bk) (h2 : row ≠ some bc) (h3 : row ≠ some bs) : PastAt P T ks ki w1 a bk bc bs F m j mj := ⟨h.box.grown hg h0, h.keys.kept hg h1, h.coms.kept hg h2, h.sess.kept hg h3, h.kc, h.kb, h.cb⟩
theorem PastAt.lt (h : PastAt P T ks ki w a bk bc bs F m j mj) : a < w.heap.size ∧ bk < w.heap.size ∧ bc < w.heap.size ∧ bs < w.heap.size := ⟨h.box.lt, h.keys.lt, h.coms.lt, h.sess.lt⟩
theorem PastAt.own (h : PastAt P T ks ki w a bk bc bs F m j mj) {k : Nat} (hx : Ext w w1) (hg : w1.grownBy w2 (some k)) (hk : w.heap.size ≤ k) : PastAt P T ks ki w2 a bk bc bs F m j mj := by
  obtain ⟨l0, l1, l2, l3⟩ := h.lt
  exact (h.ext hx).kept hg (fun e => by injection e; omega) (fun e => by injection e; omega) (fun e => by injection e; omega) (fun e => by injection e; omega)
theorem PastAt.row {α : Type} {e : Enc α} {B T2 c : Nat} {p : Option Addr} {xs : List α} (h : PastAt P T ks ki w a bk bc bs F m j mj) (ho : Own w B T2 e p c xs) (hT : T2 ≠ T) (hg : w.grownBy w1 (blk p)) : PastAt P T ks ki w1 a bk bc bs F m j mj :=
  h.kept hg (ho.neB h.box hT) (ho.neM h.keys) (ho.neM h.coms) (ho.neM h.sess)
/-- a map of keys turned -/
theorem PastAt.key (h : PastAt P T ks ki w a bk bc bs F m j mj) {F' : Lit → Option Value} {m' : Nat} (hM : MapV P w1 ks bk F' m') (hg : w.grownBy w1 (some bk)) : PastAt P T ks ki w1 a bk bc bs F' m' j mj :=
  ⟨h.box.grown hg (fun e => h.box.neM h.keys (by injection e)), hM, h.coms.kept hg (fun e => h.kc (by injection e)), h.sess.kept hg (fun e => h.kb (by injection e)), h.kc, h.kb, h.cb⟩
end
end Go.V

/- Regions in which several operations with an effect may come up at once: one walk for each order of these. -/

namespace Go.V
open Go.RowKit

inductive Tr where
  | leaf (c : List Nat)
  | node (c : List Nat) (b : Tr)
  | alt (i : Nat) (t r : Tr)
  | stop

def okp (ops : Array Oper) (ef rd wr : Oper → Bool) : List Nat → Array Bool → Bool
  | [], _ => true
  | i :: c, listed =>
    (if ef (ops.getD i default) then Region.ready .any ops listed == [i] else (Region.ready .any ops listed).contains i && freeX ops rd wr listed i) && okp ops ef rd wr c (listed.setIfInBounds i true)

def afterL : List Nat → Array Bool → Array Bool
  | [], l => l
  | i :: c, l => afterL c (l.setIfInBounds i true)

def Tr.seq : Tr → Bool
  | .leaf _ => true
  | .node _ _ => true
  | _ => false

def okT (ops : Array Oper) (ef rd wr : Oper → Bool) : Tr → Nat → List Nat → Array Bool → Bool
  | .leaf c, f, _, listed => Nat.beq c.length f && okc ops ef rd wr c listed
  | .node c b, f, _, listed => Nat.blt c.length f && okp ops ef rd wr c listed && !b.seq && !(Region.ready .any ops (afterL c listed)).isEmpty && okT ops ef rd wr b (f - c.length) (Region.ready .any ops (afterL c listed)) (afterL c listed)
  | .alt _ _ _, _, [], _ => false
  | .alt i t r, f, i' :: rem, listed => Nat.blt 0 f && Nat.beq i i' && Nat.blt i ops.size && t.seq && !r.seq && okT ops ef rd wr t (f - 1) [] (listed.setIfInBounds i true) && okT ops ef rd wr r f rem listed
  | .stop, _, rem, _ => rem.isEmpty

section
variable {P : Program} {S : List Nat} {ops : Array Oper} {ef rd wr : Oper → Bool}

def GAT (P : Program) (S : List Nat) (ops : Array Oper) (ef rd wr : Oper → Bool) (K : Act → World → Prop) : Tr → Act → World → Prop
  | .leaf c, a, w => GA P S ops ef rd wr K (c.map fun i => ops.getD i default) a w
  | .node c b, a, w => GA P S ops ef rd wr (fun a w => GAT P S ops ef rd wr K b a w) (c.map fun i => ops.getD i default) a w
  | .alt i t r, a, w => GA P S ops ef rd wr (fun a w => GAT P S ops ef rd wr K t a w) [ops.getD i default] a w ∧ GAT P S ops ef rd wr K r a w
  | .stop, _, _ => True

theorem GA_mono {K K' : Act → World → Prop} (hK : ∀ a w, K a w → K' a w) : ∀ (l : List Oper) (a : Act) (w : World), GA P S ops ef rd wr K l a w → GA P S ops ef rd wr K' l a w
  | [], a, w, h => hK a w h
  | o :: l, a, w, h => by
    simp only [GA] at h ⊢
    rcases h with ⟨v, hy, h⟩ | ⟨he, hw, h⟩
    · exact .inl ⟨v, hy, GA_mono hK l _ _ h⟩
    · exact .inr ⟨he, hw, stepX_mono (fun a w h => GA_mono hK l a w h) h⟩

theorem GA_pre {K K1 : Act → World → Prop} (hs : Region.noSelect ops = true) (g : Nat) :
    ∀ (c : List Nat) (listed : Array Bool) (a : Act) (w : World), okp ops ef rd wr c listed = true → (∀ a w, K1 a w → wpX P S ops wr K g (afterL c listed) a w) →
      GA P S ops ef rd wr K1 (c.map fun i => ops.getD i default) a w → wpX P S ops wr K (c.length + g) listed a w
  | [], listed, a, w, _, hK, h => by simpa [afterL] using hK a w h
  | i :: c, listed, a, w, hc, hK, h => by
    have hf : (i :: c).length + g = (c.length + g) + 1 := by simp; omega
    rw [hf]
    simp only [okp, Bool.and_eq_true] at hc
    obtain ⟨h0, hc⟩ := hc
    have hmem : i ∈ Region.ready .any ops listed := by
      by_cases he : ef (ops.getD i default) = true
      · simp only [he, if_true, beq_iff_eq] at h0; rw [h0]; simp
      · simp only [he] at h0; simp at h0; exact h0.1
    obtain ⟨_, o, ho, _⟩ := mem_ready.1 hmem
    have hget : ops.getD i default = o := by
      have := Array.getElem?_eq_some_iff.1 ho
      simp [Array.getD, this.1, this.2]
    simp only [List.map_cons] at h
    rw [hget] at h h0
    simp only [GA] at h
    have ih := fun a w h => GA_pre hs g c (listed.setIfInBounds i true) a w hc hK h
    have alone : ef o = true → ∀ K', opX P S ops wr i K' a w → (∀ a w, K' a w → wpX P S ops wr K (c.length + g) (listed.setIfInBounds i true) a w) → wpX P S ops wr K ((c.length + g) + 1) listed a w := by
      intro he K' hop hK
      simp only [he, if_true, beq_iff_eq] at h0
      refine ⟨fun h => (by rw [h] at hmem; cases hmem), fun j hj => ?_⟩
      rw [h0] at hj
      obtain rfl : j = i := by simpa using hj
      exact opX_mono hK hop
    rcases h with ⟨v, hy, h⟩ | ⟨he, hw, h⟩
    · by_cases he : ef o = true
      · exact alone he (fun a w => GA P S ops ef rd wr K1 (c.map fun i => ops.getD i default) a w) (hy.opX ho h) ih
      · simp only [he] at h0
        simp only [Bool.false_eq_true, if_false, Bool.and_eq_true] at h0
        exact wpX_first ho (Region.noSelect_spec hs) _ listed a w (freeX_spec ho h0.2) hmem hy (ih _ _ h)
    · refine alone he _ ?_ ih
      unfold opX
      simp only [ho, hw, if_true]
      exact h

theorem GAT_sound {K : Act → World → Prop} (hs : Region.noSelect ops = true) : ∀ (T : Tr) (f : Nat) (rem : List Nat) (listed : Array Bool) (a : Act) (w : World), okT ops ef rd wr T f rem listed = true → GAT P S ops ef rd wr K T a w →
    (T.seq = true → wpX P S ops wr K f listed a w) ∧ (T.seq = false → ∀ i ∈ rem, opX P S ops wr i (wpX P S ops wr K (f - 1) (listed.setIfInBounds i true)) a w)
  | .leaf c, f, rem, listed, a, w, hc, h => by
    simp only [okT, Bool.and_eq_true] at hc
    have hl : c.length = f := by simpa using hc.1
    subst hl
    exact ⟨fun _ => GA_sound hs c listed a w hc.2 h, fun h => by simp [Tr.seq] at h⟩
  | .node c b, f, rem, listed, a, w, hc, h => by
    simp only [okT, Bool.and_eq_true] at hc
    obtain ⟨⟨⟨⟨h1, h2⟩, h3⟩, h4⟩, h5⟩ := hc
    refine ⟨fun _ => ?_, fun h => by simp [Tr.seq] at h⟩
    have hlt : c.length < f := by simpa using h1
    obtain ⟨g, rfl⟩ : ∃ g, f = c.length + (g + 1) := ⟨f - c.length - 1, by omega⟩
    have e : c.length + (g + 1) - c.length = g + 1 := by omega
    rw [e] at h5
    refine GA_pre hs (g + 1) c listed a w h2 (fun a w hb => ?_) h
    have hbs : b.seq = false := by simpa using h3
    have := (GAT_sound hs b (g + 1) _ _ a w h5 hb).2 hbs
    refine ⟨fun h0 => ?_, fun i hi => this i hi⟩
    rw [h0] at h4
    simp at h4
  | .alt i t r, f, [], listed, a, w, hc, h => by simp [okT] at hc
  | .alt i t r, f, i' :: rem, listed, a, w, hc, h => by
    simp only [okT, Bool.and_eq_true] at hc
    obtain ⟨⟨⟨⟨⟨⟨h1, h2⟩, h3⟩, h4⟩, h5⟩, h6⟩, h7⟩ := hc
    have hii : i = i' := by simpa using h2
    subst hii
    refine ⟨fun h => by simp [Tr.seq] at h, fun _ m hm => ?_⟩
    obtain ⟨ha, hb⟩ := h
    rcases List.mem_cons.1 hm with rfl | hm
    · have hlt : m < ops.size := by simpa using h3
      have ho : ops[m]? = some (ops.getD m default) := by simp [hlt]
      have ih := fun a w h => (GAT_sound (K := K) hs t (f - 1) [] (listed.setIfInBounds m true) a w h6 h).1 h4
      simp only [GA] at ha
      rcases ha with ⟨v, hy, h⟩ | ⟨he, hw, h⟩
      · exact hy.opX ho (ih _ _ h)
      · unfold opX
        simp only [ho, hw, if_true]
        exact stepX_mono (fun a w h => ih a w h) h
    · exact (GAT_sound hs r f rem listed a w h7 hb).2 (by simpa using h5) m hm
  | .stop, f, rem, listed, a, w, hc, h => by
    refine ⟨fun h => by simp [Tr.seq] at h, fun _ m hm => ?_⟩
    simp [okT] at hc
    subst hc
    cases hm
end

section
variable {P : Program} {n : Nat} {ops : Array Oper} {dr : Nat × List Nat} {E : Env} {w : World} {K : Env → World → Prop} {Q : Exit → Act → World → Prop}

def GT (P : Program) (n : Nat) (ops : Array Oper) (dr : Nat × List Nat) : Tr → Env → World → (Env → World → Prop) → Prop
  | .leaf c, E, w, K => G P n ops dr (c.map fun i => ops.getD i default) E w K
  | .node c b, E, w, K => G P n ops dr (c.map fun i => ops.getD i default) E w (fun E w => GT P n ops dr b E w K)
  | .alt i t r, E, w, K => G P n ops dr [ops.getD i default] E w (fun E w => GT P n ops dr t E w K) ∧ GT P n ops dr r E w K
  | .stop, _, _, _ => True

theorem GT_leaf {c : List Nat} (h : G P n ops dr (c.map fun i => ops.getD i default) E w K) : GT P n ops dr (.leaf c) E w K := h
theorem GT_node {c : List Nat} {b : Tr} (h : G P n ops dr (c.map fun i => ops.getD i default) E w (fun E w => GT P n ops dr b E w K)) : GT P n ops dr (.node c b) E w K := h
theorem GT_alt {i : Nat} {t r : Tr} (h1 : G P n ops dr [ops.getD i default] E w (fun E w => GT P n ops dr t E w K)) (h2 : GT P n ops dr r E w K) : GT P n ops dr (.alt i t r) E w K := ⟨h1, h2⟩
theorem GT_stop : GT P n ops dr .stop E w K := trivial

theorem GT_GAT : ∀ (T : Tr) (E : Env) (w : World), GT P n ops dr T E w K → ∀ a, Holds n E a → GAT P dr.2 ops (effects P dr.1) (readsM P) (writes dr.1) (fun a' w' => ∃ E', Holds n E' a' ∧ K E' w') T a w
  | .leaf c, E, w, h, a, ha => by
    simp only [GT] at h
    unfold G at h
    exact h a ha
  | .node c b, E, w, h, a, ha => by
    simp only [GT] at h
    unfold G at h
    exact GA_mono (fun a w ⟨E', h1, h2⟩ => GT_GAT b E' w h2 a h1) _ _ _ (h a ha)
  | .alt i t r, E, w, h, a, ha => by
    obtain ⟨h1, h2⟩ := h
    unfold G at h1
    exact ⟨GA_mono (fun a w ⟨E', h1, h2⟩ => GT_GAT t E' w h2 a h1) _ _ _ (h1 a ha), GT_GAT r E w h2 a ha⟩
  | .stop, E, w, h, a, ha => trivial

theorem W_drawnT {id : Nat} {l : List Oper} (k : Nat) (S : List Nat) (T : Tr) (hm : P.follows .mixedOrders = true)
    (hc : (Region.noSelect l.toArray && okT l.toArray (effects P k) (readsM P) (writes k) T l.length [] (Array.replicate l.length false) && T.seq) = true)
    (h : GT P n l.toArray (k, S) T E w.drew (Post n Q .normal)) : W P n (.region id l.toArray true) Q E w := by
  unfold W
  intro a ha
  simp only [Bool.and_eq_true] at hc
  refine wp_region_any hm (wpAny_of_wpX (S := S) (wr := writes k) (K := fun a' w' => ∃ E', Holds n E' a' ∧ Post n Q .normal E' w') (fun a _ ⟨_, hE, hp⟩ => by unfold Post at hp; exact hp a hE) _ _ _ _ ?_)
  have := (GAT_sound (P := P) (S := S) hc.1.1 T l.length [] (Array.replicate l.length false) a { w with drawn := w.drawn + 1 } hc.1.2 (GT_GAT T E w.drew h a ha)).1 hc.2
  simpa using this
end
attribute [irreducible] GT
end Go.V

/- Audit: Check at the law's histories. -/

namespace Go.V
section
variable {P : Program} {n : Nat} {E : Env} {w : World} {Q : Exit → Act → World → Prop}
theorem W_scopeZ {c : Code} (h : W P n c (Exit.noGoto Q) E w) : W P n (.scope c) Q E w := by
  unfold W at *
  exact fun a ha => wp_scope_straight (h a ha)
theorem W_labelZ {id : Nat} (h : Post n Q .normal E w) : W P n (.label id) Q E w := by
  unfold W; unfold Post at h
  exact fun a ha => wp_label (h a ha)
theorem Post_scZR (h : Post n Q .ret E w) : Post n (Exit.noGoto Q) .ret E w := by unfold Post at *; exact h
end
section
variable {P : Program} {n : Nat} {ops : Array Oper} {dr : Nat × List Nat} {l : List Oper} {E : Env} {w : World} {K : Env → World → Prop}
variable {d : Option Nat} {ty : TypeId} {pos : String} {af : Array Edge} {g : Option (Nat × Bool)}
theorem G1_makeFuncB {fn : Fn} {fs cs : Array Operand} {us vs : List Value} (hf : E.looks fs.toList = some us) (hx : E.looks cs.toList = some vs) (hd : dstOk n d = true) (h : G P n ops dr l (E.put d (.func fn us.toArray vs.toArray)) w K) : G1 P n ops dr ⟨d, .makeFunc fn fs cs, ty, pos, af, g⟩ l E w K :=
  G1_quiet _ hd (fun a ha w' _ => by
    have hm : cs.map a.eval = vs.toArray := by rw [← ha.evals hx]; apply Array.ext'; simp
    have hn : fs.map a.eval = us.toArray := by rw [← ha.evals hf]; apply Array.ext'; simp
    simp [execOp, Instr.makeFunc, hm, hn]) h
end
/-- one of Check's rules -/
structure RuleD where
  e : Int
  f : FuncId
  us : List Value
  vs : List Value
def eRule : Enc RuleD := ⟨2, fun r => [.int .i64 r.e, .func (.func r.f) r.us.toArray r.vs.toArray], fun _ => rfl, fun _ v hv => by simp at hv; rcases hv with rfl | rfl <;> rfl, by decide⟩
end Go.V
namespace Go.Proofs.YtipbakiecocioaaGreatDoor
open Go.V
attribute [local irreducible] Blk Own hcell IntT SliceT PlainT AggT SizeT StrT FieldT ZeroT EqT ArrT
theorem plHist : PlainT Tryz.prog 89 := PlainT.of Tryz.underlying89 rfl
theorem bldRule (e : Int) (fn : Fn) (us vs : Array Value) (w : World) : (Instr.build 90 [(0, Value.int .i64 e), (1, Value.func fn us vs)].toArray).run Tryz.prog w = .ok (.agg #[.int .i64 e, .func fn us vs]) w := by kernel_rfl
def rulesL (a bk bc bs : Nat) : List RuleD := [⟨2, 30, [pastV bk bc bs], []⟩, ⟨50, 31, [], []⟩, ⟨51, 32, [pastV bk bc bs], []⟩, ⟨52, 33, [], [.pointer (some (adr (bx a) 0))]⟩, ⟨30, 34, [pastV bk bc bs], []⟩]
theorem rules_spec {a bk bc bs m mj i d : Nat} {q : Option Addr} {ws : List WrD} {xs : List TxD} {r : RawH} {x : TxD} {w : World} (hH : HistAt w.heap i r x) (hP : PastAt Tryz.prog 80 9 3 w a bk bc bs (oneF (some (.slice q ws.length d))) m i mj) (hW : Sl w.heap eWr q d ws) (hws : WrsOf ws xs) (hi : i < ws.length) (hl : ws.length ≤ 1000)
    (k : Nat) (ru : RuleD) (hk : (rulesL a bk bc bs)[k]? = some ru) : Ctr Tryz.prog ru.f (ru.us.toArray.toList ++ [histV r] ++ ru.vs.toArray.toList) w (fun v w' => v = .bool (decide (k = 2) && badAt xs i x) ∧ Ext w w') := by
  rcases k with _ | _ | _ | _ | _ | k
  · injection hk with hk; subst hk; exact malf_spec hH hP.coms (by omega)
  · injection hk with hk; subst hk; exact inner_spec hH
  · injection hk with hk; subst hk
    have := outer_spec (bc := bc) (bs := bs) hH hP.keys hW hws hi hl
    simpa using this
  · injection hk with hk; subst hk; exact order_spec hH hP.box hP.sess (by omega)
  · injection hk with hk; subst hk; exact clash_spec (bc := bc) (bs := bs) hH hP.keys hW hws hi hl
  · exact absurd hk (by simp [rulesL])
theorem bldPast (x y z : Nat) (w : World) : (Instr.build 80 [(0, Value.map (some x)), (1, Value.map (some y)), (2, Value.map (some z))].toArray).run Tryz.prog w = .ok (pastV x y z) w := by kernel_rfl
theorem bldWr (i : Int) (h : Bool) (t : ByteArray) (w : World) : (Instr.build 88 [(0, Value.int .i64 i), (1, resV h t)].toArray).run Tryz.prog w = .ok (.agg (eWr.enc ⟨i, h, t⟩).toArray) w := by kernel_rfl
set_option maxHeartbeats 4000000 in
theorem check_spec {p : Option Addr} {c : Nat} {rs : List RawH} {xs : List TxD} {w : World} (hH : HistsAt w.heap p c rs xs) (hl : rs.length ≤ 20) (hp : 0 < rs.length) :
    Ctr Tryz.prog 13 [.slice p rs.length c] w (fun v w' => (∃ (k : Nat) (e : Int), v = .tuple #[.int .i64 (k : Int), .int .i64 e] ∧ (∀ j y, j < k → xs[j]? = some y → badAt xs j y = false) ∧ ((k = rs.length ∧ e = 0) ∨ (∃ y, xs[k]? = some y ∧ badAt xs k y = true ∧ e = 51))) ∧ Ext w w') := by
  have hok := hH.sl.ok
  have hlen := hH.len
  have hcom := fun (w' : World) (hx : Ext w w') => committed_spec (hH.ext hx) hl
  refine Ctr_of Tryz.func13 Tryz.ntmps13 rfl rfl rfl ?_
  repeat' (first | (apply G_on; exact rfl; (apply G1_assign; exact rfl; exact rfl)) | apply G_nil | apply Post_next | apply W_seq | apply W_region | apply W_scopeZ)
  apply G_on; exact rfl
  apply G1_makeMapV; exact Tryz.underlying76; exact rfl; exact rfl
  intro bk w1 hbk hMk hx1 hs1
  apply G_on; exact rfl
  apply G1_makeMapV; exact Tryz.underlying77; exact rfl; exact rfl
  intro bc w2 hbc hMc hx2 hs2
  apply G_on; exact rfl
  apply G1_makeMapV; exact Tryz.underlying78; exact rfl; exact rfl
  intro bs w3 hbs hMs hx3 hs3
  repeat' (apply G_on; exact rfl; (apply G1_build (t := 80) (pastV bk bc bs); exact rfl; exact bldPast _ _ _; exact rfl))
  apply G_on; exact rfl; apply G1_alloc; exact T.zero80; exact rfl; exact rfl; intro a w4 ha hA hx4 hs4
  skip
  apply G_on; exact rfl; apply G1_storeB; exact T.z80; exact rfl; exact rfl; exact hA; exact rfl; exact rfl; (first | exact Nat.le_of_ble_eq_true rfl | (focus (simp [Value.cells]; done))); (first | exact Enc.one _ _ | (focus (simp [Value.oneCell']; done)) | (focus (simp [Value.cells, Value.oneCell']; done)) | exact Enc.oneAgg _ _); exact rfl; (first | exact .inl rfl | exact .inr (by simp [exempt])); exact rfl; intro w5 hA5 hg5 hs5
  replace hA5 : Blk w5.heap a 80 [.map (some bk), .map (some bc), .map (some bs)] := hA5
  have hx13 : Ext w w3 := (hx1.trans hx2).trans hx3
  have hz3 := hx13.size
  have hx05 : Ext w w5 := (hx13.trans hx4).own hg5 (fun k hk => by injection hk; omega)
  have hP : PastAt Tryz.prog 80 9 3 w5 a bk bc bs (keysF 0 none 0) 0 0 0 :=
    ⟨hA5, by rw [show keysF 0 none 0 = oneF none from rfl, oneF_none]; exact (((hMk.ext hx2).ext hx3).ext hx4).kept hg5 (fun e => by injection e; omega),
      by rw [comsF_zero]; exact ((hMc.ext hx3).ext hx4).kept hg5 (fun e => by injection e; omega), by rw [sesF_zero]; exact (hMs.ext hx4).kept hg5 (fun e => by injection e; omega), by omega, by omega, by omega⟩
  clear hMk hMc hMs hA
  repeat' (first | (apply G_on; exact rfl; first | (apply G1_move; exact rfl; exact rfl) | (apply G1_call (f := 28); exact rfl; exact rfl; exact rfl; exact hcom _ (by repeat first | assumption | exact Ext.rfl' | apply Ext.drew | apply Ext.alloc | refine Ext.trans ?_ (by assumption)); rintro _ w6 ⟨cq, cd, rfl, hO, hx6⟩; refine ⟨(by first | exact .inl rfl | exact .inr (by assumption)), ?_⟩) | (apply G1_len; exact T.s73; exact rfl; exact rfl)) | apply G_nil | apply Post_next | apply W_seq | apply W_region | apply W_block)
  have hx06 : Ext w w6 := hx05.trans hx6
  have hz5 := hx05.size
  have hz6 := hx6.size
  refine W_loop (ι := Nat × Option Addr × Nat) (fun y => [(0, .slice p rs.length c), (4, .pointer (some (adr (bx a) 0))), (21, .slice cq rs.length cd), (22, .int .i64 (rs.length : Int)), (23, .int .i64 (y.1 : Int))])
    (fun y w' => y.1 ≤ rs.length ∧ (y.1 = 0 → y.2.1 = none ∧ y.2.2 = 0) ∧ (∃ m, m ≤ y.1 ∧ PastAt Tryz.prog 80 9 3 w' a bk bc bs (keysF y.1 y.2.1 y.2.2) m 0 0) ∧ Own w' w.heap.size 88 eWr y.2.1 y.2.2 (wrsL xs y.1) ∧ Own w' w5.heap.size 3 eInt cq cd (numsI rs.length) ∧ Ext w w') (fun y => rs.length - y.1) (0, none, 0) ⟨rfl, rfl, rfl, rfl, rfl, trivial⟩
    ⟨Nat.zero_le _, fun _ => ⟨rfl, rfl⟩, ⟨0, Nat.le_refl _, hP.ext hx6⟩, Own.nil _ _ _ _, hO, hx06⟩ ?_
  clear hP hA5 hO
  rintro ⟨i, q, d⟩ v0 ⟨hi, hq0, ⟨m, hm, hP⟩, hQ, hO, hxv⟩
  simp only at hi hq0 hm hP hQ hO
  refine W_keep [(0, .slice p rs.length c), (4, .pointer (some (adr (bx a) 0))), (21, .slice cq rs.length cd), (22, .int .i64 (rs.length : Int)), (23, .int .i64 (i : Int))] ⟨rfl, rfl, rfl, rfl, rfl, trivial⟩ ?_
  have hcl := numsI_len rs.length
  have hcok := hO.sl.ok
  rw [hcl] at hcok
  by_cases hlt : i < rs.length
  · obtain ⟨r, hr⟩ := get_some hlt
    obtain ⟨x, hx⟩ := get_some (xs := xs) (k := i) (by omega)
    have hHx := hH.get i r x hr hx
    have hgi : (numsI rs.length)[i]? = some (i : Int) := numsI_get hlt
    obtain ⟨ses, st, com, hp3, n, hc3⟩ := r
    have e2 := hHx.com
    have e3 := hHx.n
    simp only at e2 e3
    subst e2 e3
    have hSo : Sl w.heap eOp hp3 hc3 (opsOf x) := hHx.ops
    have hwr : ∀ w', Ext w w' → Ctr Tryz.prog 29 [.agg (eHist.enc ⟨ses, st, (i : Int) + 1, hp3, 3, hc3⟩).toArray] w' (fun v w'' => ∃ b m, v = .map (some b) ∧ m ≤ 1000 ∧ w'.heap.size ≤ b ∧ MapV Tryz.prog w'' 9 b (wrF (fun _ => none) (opsOf x)) m ∧ Ext w' w'') :=
      fun w' hx => writes_spec (os := opsOf x) (hSo.ext hx) (fun o ho => by obtain ⟨y, hy⟩ := List.getElem?_of_mem ho; rw [op_key hy]; exact sK_size) (by rw [opsOf_len]; omega)
    rw [wrF_ops] at hwr
    have hlv := hP.lt
    repeat' (first | (apply G_on; exact rfl; first | ((first | apply G1_assign | apply G1_move); exact rfl; exact rfl) | (apply G1_indexAddrJ (q := i); exact T.s73; exact rfl; exact rfl; exact rfl; exact hcok; omega; exact rfl) | (apply G1_loadEl1 (e := eInt) (q := i); exact T.p3; exact rfl; exact hO.sl.ext (by repeat first | assumption | exact Ext.rfl' | apply Ext.drew | apply Ext.alloc | refine Ext.trans ?_ (by assumption)); exact hgi; exact rfl; exact rfl; exact rfl) | (apply G1_lss; exact rfl; exact rfl; exact rfl) | (apply G1_indexAddrN; exact T.s38; exact rfl; exact rfl; (first | assumption | exact Sl.ok (by assumption) | exact (Own.sl (by assumption)).ok); omega; exact rfl)) | apply G_nil | apply Post_next | apply W_seq | apply W_region | (apply W_cond_dec; exact rfl; all_goals (intro h; try (exfalso; omega))) | apply W_skip | apply W_block)
    all_goals try (exfalso; omega)
    repeat' (apply G_on; exact rfl; first | (apply G1_loadEl (e := eHist) (q := i); exact T.a43; exact rfl; exact hH.sl.ext (by repeat first | assumption | exact Ext.rfl' | apply Ext.drew | apply Ext.alloc | refine Ext.trans ?_ (by assumption)); exact hr; exact rfl; exact rfl) | (apply G1_call (f := 29); exact rfl; exact rfl; exact rfl; exact hwr _ (by repeat first | assumption | exact Ext.rfl' | apply Ext.drew | apply Ext.alloc | refine Ext.trans ?_ (by assumption)); rintro _ v1 ⟨b1, mb, rfl, hmb, hb1, hM1, hy1⟩; refine ⟨(by first | exact .inl rfl | exact .inr (by assumption)), ?_⟩; (first | replace hP := hP.ext hy1 | replace hP := hP.ext ((Ext.drew Ext.rfl').trans hy1)); (first | replace hQ := hQ.ext hy1 | replace hQ := hQ.ext ((Ext.drew Ext.rfl').trans hy1)); (first | replace hO := hO.ext hy1 | replace hO := hO.ext ((Ext.drew Ext.rfl').trans hy1))))
    apply G_on; exact rfl
    apply G1_rangeV; exact Tryz.underlying82; exact kStr; exact rfl; exact hM1; exact rfl; exact rfl
    intro v2 cnt hR hy2 ht2
    obtain ⟨g, hg⟩ : ∃ g, g = v1.heap.size := ⟨_, rfl⟩
    rw [← hg] at hR
    have hlg := hP.lt
    rw [← hg] at hlg
    have hb1g : b1 < g := by have := hM1.lt; omega
    have hbk1 : bk ≠ b1 ∧ bc ≠ b1 ∧ bs ≠ b1 ∧ a ≠ b1 := by omega
    have hwg : w.heap.size ≤ g := by have := (hxv.trans hy1).size; omega
    replace hP := hP.ext hy2
    replace hQ := hQ.ext hy2
    replace hO := hO.ext hy2
    have hxv2 : Ext w v2 := (hxv.trans hy1).trans hy2
    rw [← hg]
    clear hM1
    repeat' (first | apply G_nil | apply Post_next | apply W_block)
    refine W_loop (ι := Bool × Option Addr × Nat) (fun y => [(0, .slice p rs.length c), (4, .pointer (some (adr (bx a) 0))), (6, .int .i64 (i : Int)), (21, .slice cq rs.length cd), (22, .int .i64 (rs.length : Int)), (23, .int .i64 (i : Int)), (32, .pointer (some ⟨g, 0, none⟩))])
      (fun y w' => (∃ left cnt, MapVR Tryz.prog w' 9 b1 g (oneF (some (resV true x.t))) left cnt mb ∧ (y.1 = false → left = fun s => (oneF (some (resV true x.t)) s).isSome) ∧ (y.1 = true → ∀ kl, left kl = false)) ∧ (i + y.1.toNat = 0 → y.2.1 = none ∧ y.2.2 = 0) ∧ (∃ m, m ≤ i + y.1.toNat ∧ PastAt Tryz.prog 80 9 3 w' a bk bc bs (keysF (i + y.1.toNat) y.2.1 y.2.2) m 0 0) ∧ Own w' w.heap.size 88 eWr y.2.1 y.2.2 (wrsL xs (i + y.1.toNat)) ∧ Own w' w5.heap.size 3 eInt cq cd (numsI rs.length) ∧ Ext w w') (fun y => 1 - y.1.toNat) (false, q, d) ⟨rfl, rfl, rfl, rfl, rfl, rfl, rfl, trivial⟩
      ⟨⟨_, _, hR, fun _ => rfl, fun h => by cases h⟩, hq0, ⟨m, hm, hP⟩, hQ, hO, hxv2⟩ ?_
    clear hR hP hQ hO hxv2
    rintro ⟨ph, q, d⟩ u0 ⟨⟨left, cnt, hR, hL0, hL1⟩, hq0, ⟨m, hm, hP⟩, hQ, hO, hxu⟩
    simp only at hL0 hL1 hq0 hm hP hQ hO
    refine W_keep [(0, .slice p rs.length c), (4, .pointer (some (adr (bx a) 0))), (6, .int .i64 (i : Int)), (21, .slice cq rs.length cd), (22, .int .i64 (rs.length : Int)), (23, .int .i64 (i : Int)), (32, .pointer (some ⟨g, 0, none⟩))] ⟨rfl, rfl, rfl, rfl, rfl, rfl, rfl, trivial⟩ ?_
    repeat' (first | apply W_seq | apply W_region)
    apply G_on; exact rfl
    refine G1_nextV kStr rfl hR rfl rfl rfl ?_ ?_
    · intro hno
      have hph : ph = true := by
        cases ph with
        | true => rfl
        | false =>
          have := hno kLit
          rw [hL0 rfl] at this
          simp only [oneF_at] at this
          cases this
      subst hph
      repeat' (first | (apply G_on; exact rfl; first | (apply G1_move; exact rfl; exact rfl) | (apply G1_extract; exact rfl; exact rfl; exact rfl) | (apply G1_add; exact rfl; exact rfl; omega; omega; exact rfl)) | apply G_nil | apply Post_next | apply W_seq | apply W_region | (apply W_cond_false; exact rfl) | apply W_exit | apply Post_then_exit | apply Post_block_exit | apply Post_block_normal)
      exact Post_round (i + 1, q, d) ⟨rfl, rfl, rfl, rfl, rfl, trivial⟩ ⟨hlt, hq0, ⟨m, hm, hP⟩, hQ, hO, hxu⟩ (by simp only []; omega)
    · intro key kl v u1 cnt1 hkey hleft hval hR1 hcnt hg1 hs1' hent
      have hkl : kl = kLit := by
        refine Classical.byContradiction fun hne => ?_
        unfold oneF at hval
        rw [if_neg hne] at hval
        cases hval
      subst hkl
      rw [oneF_at] at hval
      injection hval with hval
      subst hval
      obtain ⟨sk, rfl, e2, _⟩ := Go.WideMaps.string_of_keyOf (by kernel_rfl) hkey
      have hsk : sk = sK := by
        cases sk with
        | mk d => exact congrArg ByteArray.mk (Array.toList_inj.1 (Lit.string.inj e2)).symm
      subst hsk
      have hph : ph = false := by
        cases ph with
        | false => rfl
        | true => rw [hL1 rfl] at hleft; cases hleft
      subst hph
      replace hL0 := hL0 rfl
      subst hL0
      have hno : ∀ u, ((oneF (some (resV true x.t)) u).isSome && !u.sameKey kLit) = false := by
        intro u
        by_cases hu : u = kLit
        · subst hu; rw [show Lit.sameKey kLit kLit = true from by decide]; simp
        · unfold oneF; rw [if_neg hu]; rfl
      simp only [Bool.toNat_false, Nat.add_zero] at hq0 hm hP hQ
      replace hP := hP.kept hg1 (fun e => by injection e; omega) (fun e => by injection e; omega) (fun e => by injection e; omega) (fun e => by injection e; omega)
      replace hQ := hQ.kept hg1 (fun y hy e => hQ.neI hR (by rw [hy]; exact e.symm))
      replace hO := hO.kept hg1 (fun y hy e => hO.neI hR (by rw [hy]; exact e.symm))
      have hxu1 : Ext w u1 := hxu.own hg1 (fun k hk => by injection hk; omega)
      clear hR hL1 hleft
      repeat' (first | (apply G_on; exact rfl; first | (apply G1_entryV; exact rfl; exact hent; exact rfl; exact rfl) | (apply G1_extract; exact rfl; exact rfl; exact rfl)) | apply G_nil | apply Post_next | apply W_seq | apply W_region | (apply W_cond_true; exact rfl) | apply W_skip | apply W_block)
      apply G_on; exact rfl; apply G1_alloc; exact T.zero85; exact rfl; exact rfl; intro a8 u2 ha8 hA8 hx8 hs8
      repeat' (apply G_on; exact rfl; (apply G1_assign; exact rfl; exact rfl))
      apply G_on; exact rfl; apply G1_storeB; exact T.z85; exact rfl; exact rfl; exact hA8; exact rfl; exact rfl; (first | exact Nat.le_of_ble_eq_true rfl | (focus (simp [Value.cells]; done))); (first | exact Enc.one _ _ | (focus (simp [Value.oneCell']; done)) | (focus (simp [Value.cells, Value.oneCell']; done)) | exact Enc.oneAgg _ _); exact rfl; (first | exact .inl rfl | exact .inr (by simp [exempt])); exact rfl; intro u3 hA3 hg3 hs3'
      replace hA3 : Blk u3.heap a8 85 [.bool true, .string x.t] := hA3
      have hR3 := (hR1.ext hx8).kept hg3 (fun e => by have := hR1.lt; injection e; omega) (fun e => by have := hR1.lt; injection e; omega)
      replace hP := hP.own hx8 hg3 (by omega)
      replace hQ := (hQ.ext hx8).kept hg3 (fun y hy e => (hQ.ext hx8).neB hA8 (by decide) (by rw [hy]; exact e.symm))
      replace hO := (hO.ext hx8).kept hg3 (fun y hy e => (hO.ext hx8).neB hA8 (by decide) (by rw [hy]; exact e.symm))
      have hxu3 : Ext w u3 := hxu1.trans (hx8.own hg3 (fun k hk => by injection hk; omega))
      have f2 : (eHist.enc ⟨ses, st, (i : Int) + 1, hp3, 3, hc3⟩)[2]? = some (.int .i64 ((i : Int) + 1)) := rfl
      have hkg := keysF_get hq0
      have hPb := hP.box
      have hPk := hP.keys
      repeat' (first | apply G_nil | apply Post_next)
      refine W_drawnT 1 [] (.node [0,2,3,5,7,8,9,10] (.alt 1 (.node [] (.alt 4 (.node [6] (.alt 11 (.node [] (.alt 12 (.leaf [13,14,15,16]) .stop)) (.alt 12 (.node [] (.alt 11 (.leaf [13,14,15,16]) .stop)) .stop))) (.alt 11 (.node [] (.alt 4 (.node [6] (.alt 12 (.leaf [13,14,15,16]) .stop)) (.alt 12 (.node [13] (.alt 4 (.leaf [6,14,15,16]) (.alt 14 (.node [] (.alt 4 (.leaf [6,15,16]) .stop)) .stop))) .stop))) (.alt 12 (.node [] (.alt 4 (.node [6] (.alt 11 (.leaf [13,14,15,16]) .stop)) (.alt 11 (.node [13] (.alt 4 (.leaf [6,14,15,16]) (.alt 14 (.node [] (.alt 4 (.leaf [6,15,16]) .stop)) .stop))) .stop))) .stop)))) (.alt 4 (.node [6] (.alt 1 (.node [] (.alt 11 (.node [] (.alt 12 (.leaf [13,14,15,16]) .stop)) (.alt 12 (.node [] (.alt 11 (.leaf [13,14,15,16]) .stop)) .stop))) (.alt 11 (.node [] (.alt 1 (.node [] (.alt 12 (.leaf [13,14,15,16]) .stop)) (.alt 12 (.node [13] (.alt 1 (.leaf [14,15,16]) (.alt 14 (.node [] (.alt 1 (.leaf [15,16]) (.alt 15 (.leaf [1,16]) .stop))) .stop))) .stop))) (.alt 12 (.node [] (.alt 1 (.node [] (.alt 11 (.leaf [13,14,15,16]) .stop)) (.alt 11 (.node [13] (.alt 1 (.leaf [14,15,16]) (.alt 14 (.node [] (.alt 1 (.leaf [15,16]) (.alt 15 (.leaf [1,16]) .stop))) .stop))) .stop))) .stop)))) (.alt 11 (.node [] (.alt 1 (.node [] (.alt 4 (.node [6] (.alt 12 (.leaf [13,14,15,16]) .stop)) (.alt 12 (.node [13] (.alt 4 (.leaf [6,14,15,16]) (.alt 14 (.node [] (.alt 4 (.leaf [6,15,16]) .stop)) .stop))) .stop))) (.alt 4 (.node [6] (.alt 1 (.node [] (.alt 12 (.leaf [13,14,15,16]) .stop)) (.alt 12 (.node [13] (.alt 1 (.leaf [14,15,16]) (.alt 14 (.node [] (.alt 1 (.leaf [15,16]) (.alt 15 (.leaf [1,16]) .stop))) .stop))) .stop))) (.alt 12 (.node [13] (.alt 1 (.node [] (.alt 4 (.leaf [6,14,15,16]) (.alt 14 (.node [] (.alt 4 (.leaf [6,15,16]) .stop)) .stop))) (.alt 4 (.node [6] (.alt 1 (.leaf [14,15,16]) (.alt 14 (.node [] (.alt 1 (.leaf [15,16]) (.alt 15 (.leaf [1,16]) .stop))) .stop))) (.alt 14 (.node [] (.alt 1 (.node [] (.alt 4 (.leaf [6,15,16]) .stop)) (.alt 4 (.node [6] (.alt 1 (.leaf [15,16]) (.alt 15 (.leaf [1,16]) .stop))) .stop))) .stop)))) .stop)))) (.alt 12 (.node [] (.alt 1 (.node [] (.alt 4 (.node [6] (.alt 11 (.leaf [13,14,15,16]) .stop)) (.alt 11 (.node [13] (.alt 4 (.leaf [6,14,15,16]) (.alt 14 (.node [] (.alt 4 (.leaf [6,15,16]) .stop)) .stop))) .stop))) (.alt 4 (.node [6] (.alt 1 (.node [] (.alt 11 (.leaf [13,14,15,16]) .stop)) (.alt 11 (.node [13] (.alt 1 (.leaf [14,15,16]) (.alt 14 (.node [] (.alt 1 (.leaf [15,16]) (.alt 15 (.leaf [1,16]) .stop))) .stop))) .stop))) (.alt 11 (.node [13] (.alt 1 (.node [] (.alt 4 (.leaf [6,14,15,16]) (.alt 14 (.node [] (.alt 4 (.leaf [6,15,16]) .stop)) .stop))) (.alt 4 (.node [6] (.alt 1 (.leaf [14,15,16]) (.alt 14 (.node [] (.alt 1 (.leaf [15,16]) (.alt 15 (.leaf [1,16]) .stop))) .stop))) (.alt 14 (.node [] (.alt 1 (.node [] (.alt 4 (.leaf [6,15,16]) .stop)) (.alt 4 (.node [6] (.alt 1 (.leaf [15,16]) (.alt 15 (.leaf [1,16]) .stop))) .stop))) .stop)))) .stop)))) .stop))))) mixed (by decide +kernel) ?_
      have hdr : Ext u3 u3.drew := (by repeat first | assumption | exact Ext.rfl' | apply Ext.drew | apply Ext.alloc | refine Ext.trans ?_ (by assumption))
      replace hP := hP.ext hdr
      have hPb := hP.box
      have hPk := hP.keys
      replace hQ := hQ.ext hdr
      replace hO := hO.ext hdr
      replace hR3 := hR3.ext hdr
      replace hA3 := hA3.ext hdr
      replace hxu3 := hxu3.trans hdr
      repeat' (first | (apply G_on; exact rfl; first | (apply G1_move; exact rfl; exact rfl) | (apply G1_indexAddrJ (q := i); exact T.s38; exact rfl; exact rfl; exact rfl; exact hok; omega; exact rfl) | (apply G1_loadFld (e := eHist) (q := i) (off := 2); exact T.p3; exact rfl; exact hH.sl.ext (by repeat first | assumption | exact Ext.rfl' | apply Ext.drew | apply Ext.alloc | refine Ext.trans ?_ (by assumption)); exact hr; exact rfl; exact f2; exact rfl) | (apply G1_build (t := 88) (.agg (eWr.enc ⟨(i : Int) + 1, true, x.t⟩).toArray); exact rfl; exact bldWr _ _ _; exact rfl) | (apply G1_lookVk hkg; exact Tryz.underlying76; exact kStr; exact zeroW; exact rfl; exact rfl; exact keyS; exact hPk.ext (by repeat first | assumption | exact Ext.rfl' | apply Ext.drew | apply Ext.alloc | refine Ext.trans ?_ (by assumption)); exact rfl) | (apply G1_build1 eWr ⟨(i : Int) + 1, true, x.t⟩; exact T.s86; exact rfl; exact rfl; exact rfl; decide; exact rfl; exact rfl; intro p7 w7 hp7 hs7 _ hx7 hz7; replace hP := hP.ext hx7; have hPb := hP.box; have hPk := hP.keys; replace hQ := hQ.ext hx7; replace hO := hO.ext hx7; replace hR3 := hR3.ext hx7; replace hxu3 := hxu3.trans hx7; have hz7 := hxu3.size) | (apply G1_appendA (e := eWr) (xs := wrsL xs i) (ys := [⟨(i : Int) + 1, true, x.t⟩]); exact T.s86; (rw [wrsL_len]; exact rfl); exact rfl; exact hQ; exact hs7; exact rfl; exact hz7; (simp only [wrsL_len, List.length_cons, List.length_nil]; omega); (simp only [wrsL_len, List.length_cons, List.length_nil]; omega); exact rfl; exact rfl; exact rfl; intro p8 c8 w8 ha8; rw [← wrsL_snoc hx] at ha8; replace hP := hP.row hQ (by decide) ha8.grown; have hPb := hP.box; have hPk := hP.keys; replace hR3 := hR3.kept ha8.grown (hQ.neMR hR3) (hQ.neI hR3); replace hO := hO.kept ha8.grown (hQ.neT hO (by decide)); have hge := hQ.ge; replace hxu3 := hxu3.own ha8.grown (fun k hk => (hge k hk).1); replace hQ := ha8.own) | (apply G1_putV (m := m); exact Tryz.underlying76; exact kStr; exact rfl; exact rfl; exact rfl; exact keyS; exact Nat.lt_of_le_of_lt (m := 1000) (by omega) (by decide); exact hPk; exact rfl; exact rfl; exact rfl; intro w9 hM9 hg9) | (apply G1_loadB; exact T.p76; exact rfl; assumption; exact rfl; exact rfl) | (apply G1_loadBAgg; exact T.a85; exact rfl; assumption; exact rfl; exact rfl) | (apply G1_fieldAddr; (first | exact T.f80_0 | exact T.f43_2); exact rfl; exact rfl)) | apply G_nil | (refine GT_leaf ?_) | (refine GT_node ?_) | (apply GT_alt) | (exact GT_stop) | apply Post_block_normal)
      all_goals
        have e8 : (wrsL xs i ++ [(⟨(i : Int) + 1, true, x.t⟩ : WrD)]).length = i + 1 := by rw [List.length_append, wrsL_len]; rfl
        rw [e8, keysF_put i q p8 d c8] at hM9
        exact Post_round (true, p8, c8) ⟨rfl, rfl, rfl, rfl, rfl, rfl, rfl, trivial⟩ ⟨⟨_, _, hR3.kept hg9 (fun e => hbk1.1 (by injection e)) (fun e => by injection e; omega), fun h => (by cases h), fun _ => hno⟩, fun h => absurd h (Nat.succ_ne_zero i), ⟨m + 1, Nat.succ_le_succ hm, hP.key hM9 hg9⟩, hQ.kept hg9 (fun y hy e => hQ.neM hP.keys (by rw [hy]; exact e.symm)), hO.kept hg9 (fun y hy e => hO.neM hP.keys (by rw [hy]; exact e.symm)), hxu3.own hg9 (fun k hk => by injection hk; omega)⟩ Nat.zero_lt_one
  · obtain rfl : i = rs.length := by omega
    have hPb := hP.box
    repeat' (first | (apply G_on; exact rfl; first | (apply G1_makeFunc; exact rfl; exact rfl) | (apply G1_makeFuncB; exact rfl; exact rfl; exact rfl) | (apply G1_build (t := 90); exact rfl; exact bldRule _ _ _ _; exact rfl) | (apply G1_lss; exact rfl; exact rfl; exact rfl) | (apply G1_loadBAgg; exact T.a80; exact rfl; assumption; exact rfl; exact rfl)) | apply G_nil | apply Post_next | apply W_seq | apply W_region | (apply W_cond_dec; exact rfl; all_goals (intro h; try (exfalso; omega))) | apply W_exit | apply Post_then_exit | apply Post_block_exit)
    all_goals try (exfalso; omega)
    apply G_on; exact rfl
    apply G1_buildN eRule (rulesL a bk bc bs); exact T.s91; exact rfl; exact rfl; exact rfl; exact rfl; exact rfl; exact Nat.succ_pos _; (show 5 * 2 ≤ 10000; omega); exact rfl; exact rfl
    intro rp v1 hRu hy1 ht1
    repeat' (first | (apply G_on; exact rfl; first | ((first | apply G1_assign | apply G1_move); exact rfl; exact rfl) | (apply G1_len; exact T.s38; exact rfl; exact rfl)) | apply G_nil | apply Post_next | apply W_seq | apply W_region | apply W_labelZ | apply W_block)
    have hxv1 : Ext w v1 := hxv.trans hy1
    have hn0 : rs.length ≠ 0 := by omega
    replace hP := hP.ext hy1
    have hF : keysF rs.length q d = oneF (some (.slice q (wrsL xs rs.length).length d)) := by unfold keysF; rw [if_neg hn0, wrsL_len]
    rw [hF] at hP
    replace hQ := hQ.ext hy1
    have hws : WrsOf (wrsL xs rs.length) xs := by rw [hlen]; exact wrsL_of xs
    have hwl := wrsL_len xs rs.length
    have hrok : Okp rp 5 5 := hRu.sl.ok
    have hRu : Own v1 v0.heap.size 90 eRule rp 5 (rulesL a bk bc bs) := hRu
    refine W_loop (ι := Nat) (fun y => [(0, .slice p rs.length c), (4, .pointer (some (adr (bx a) 0))), (9, .slice rp 5 5), (10, .int .i64 (rs.length : Int)), (11, .int .i64 0), (70, .slice p rs.length c), (71, .int .i64 (rs.length : Int)), (72, .int .i64 (y : Int))])
      (fun y w' => y ≤ rs.length ∧ (∀ j z, j < y → xs[j]? = some z → badAt xs j z = false) ∧ PastAt Tryz.prog 80 9 3 w' a bk bc bs (oneF (some (.slice q (wrsL xs rs.length).length d))) m y y ∧ Own w' w.heap.size 88 eWr q d (wrsL xs rs.length) ∧ Own w' v0.heap.size 90 eRule rp 5 (rulesL a bk bc bs) ∧ Ext w w') (fun y => rs.length - y) 0 ⟨rfl, rfl, rfl, rfl, rfl, rfl, rfl, rfl, trivial⟩
      ⟨Nat.zero_le _, fun _ _ h => absurd h (by omega), hP, hQ, hRu, hxv1⟩ ?_
    clear hP hQ hRu hPb hO
    rintro i u0 ⟨hi, hgood, hP, hQ, hRu, hxu⟩
    refine W_keep [(0, .slice p rs.length c), (4, .pointer (some (adr (bx a) 0))), (9, .slice rp 5 5), (10, .int .i64 (rs.length : Int)), (11, .int .i64 0), (70, .slice p rs.length c), (71, .int .i64 (rs.length : Int)), (72, .int .i64 (i : Int))] ⟨rfl, rfl, rfl, rfl, rfl, rfl, rfl, rfl, trivial⟩ ?_
    by_cases hlt : i < rs.length
    rotate_left
    · obtain rfl : i = rs.length := by omega
      repeat' (first | (apply G_on; exact rfl; first | ((first | apply G1_assign | apply G1_move); exact rfl; exact rfl) | (apply G1_lss; exact rfl; exact rfl; exact rfl)) | apply G_nil | apply Post_next | apply W_seq | apply W_region | apply Post_scZR | (apply W_cond_dec; exact rfl; all_goals (intro h; try (exfalso; omega))) | apply W_exit | apply W_ret | apply Post_then_exit | apply Post_block_exit)
      all_goals try (exfalso; omega)
      refine Post_ret Tryz.results13 ⟨_, _, rfl, rfl, _, _, rfl, rfl, rfl⟩ ?_
      exact ⟨⟨rs.length, 0, rfl, hgood, .inl ⟨rfl, rfl⟩⟩, (by repeat first | assumption | exact Ext.rfl' | apply Ext.drew | apply Ext.alloc | refine Ext.trans ?_ (by assumption))⟩
    obtain ⟨r, hr⟩ := get_some hlt
    obtain ⟨x, hx⟩ := get_some (xs := xs) (k := i) (by omega)
    have hHx := hH.get i r x hr hx
    repeat' (first | (apply G_on; exact rfl; first | (apply G1_move; exact rfl; exact rfl) | (apply G1_indexAddrJ (q := i); exact T.s38; exact rfl; exact rfl; exact rfl; exact hok; omega; exact rfl) | (apply G1_loadEl (e := eHist) (q := i); exact T.a43; exact rfl; exact hH.sl.ext (by repeat first | assumption | exact Ext.rfl' | apply Ext.drew | apply Ext.alloc | refine Ext.trans ?_ (by assumption)); exact hr; exact rfl; exact rfl) | (apply G1_lss; exact rfl; exact rfl; exact rfl)) | apply G_nil | apply Post_next | apply W_seq | apply W_region | (apply W_cond_dec; exact rfl; all_goals (intro h; try (exfalso; omega))) | apply W_skip | apply W_block)
    all_goals try (exfalso; omega)
    apply G_on; exact rfl; apply G1_alloc; exact T.zero43; exact rfl; exact rfl; intro a5 u1 ha5 hA5 hx5 hs5
    repeat' (apply G_on; exact rfl; (apply G1_assign; exact rfl; exact rfl))
    apply G_on; exact rfl; apply G1_storeB; exact T.z43; exact rfl; exact rfl; exact hA5; exact rfl; exact rfl; (first | exact Nat.le_of_ble_eq_true rfl | (focus (simp [Value.cells]; done))); (first | exact Enc.one _ _ | (focus (simp [Value.oneCell']; done)) | (focus (simp [Value.cells, Value.oneCell']; done)) | exact Enc.oneAgg _ _); exact rfl; (first | exact .inl rfl | exact .inr (by simp [exempt])); exact rfl; intro u2 hA6 hg6 hs6
    replace hA6 : Blk u2.heap a5 43 (eHist.enc r) := hA6
    replace hP := hP.own hx5 hg6 (by omega)
    replace hQ := (hQ.ext hx5).kept hg6 (fun y hy e => (hQ.ext hx5).neB hA5 (by decide) (by rw [hy]; exact e.symm))
    replace hRu := (hRu.ext hx5).kept hg6 (fun y hy e => (hRu.ext hx5).neB hA5 (by decide) (by rw [hy]; exact e.symm))
    have hxu2 : Ext w u2 := hxu.trans (hx5.own hg6 (fun k hk => by injection hk; omega))
    have hrule : ∀ (k : Nat) (ru : RuleD), (rulesL a bk bc bs)[k]? = some ru → ∀ w', Ext u2 w' → Ctr Tryz.prog ru.f (ru.us.toArray.toList ++ [histV r] ++ ru.vs.toArray.toList) w' (fun v w'' => v = .bool (decide (k = 2) && badAt xs i x) ∧ Ext w' w'') :=
      fun k ru hk w' hx' => rules_spec (hHx.ext (hxu2.trans hx')) (hP.ext hx') (hQ.ext hx').sl hws (by omega) (by omega) k ru hk
    repeat' (first | (apply G_on; exact rfl; first | (apply G1_move; exact rfl; exact rfl) | (apply G1_len; exact T.s91; exact rfl; exact rfl)) | apply G_nil | apply Post_next | apply W_seq | apply W_region | apply W_block)
    refine W_loop (ι := Nat) (fun y => [(0, .slice p rs.length c), (4, .pointer (some (adr (bx a) 0))), (9, .slice rp 5 5), (10, .int .i64 (rs.length : Int)), (11, .int .i64 0), (12, .int .i64 (i : Int)), (13, .pointer (some (adr (bx a5) 0))), (70, .slice p rs.length c), (71, .int .i64 (rs.length : Int)), (72, .int .i64 (i : Int)), (77, .slice rp 5 5), (78, .int .i64 5), (79, .int .i64 (y : Int))])
      (fun y w' => y ≤ 5 ∧ (2 < y → badAt xs i x = false) ∧ Ext u2 w') (fun y => 5 - y) 0 ⟨rfl, rfl, rfl, rfl, rfl, rfl, rfl, rfl, rfl, rfl, rfl, rfl, rfl, trivial⟩
      ⟨Nat.zero_le _, fun h => absurd h (by omega), Ext.rfl'⟩ ?_
    rintro k u3 ⟨hk, hb3, hx3'⟩
    refine W_keep [(0, .slice p rs.length c), (4, .pointer (some (adr (bx a) 0))), (9, .slice rp 5 5), (10, .int .i64 (rs.length : Int)), (11, .int .i64 0), (12, .int .i64 (i : Int)), (13, .pointer (some (adr (bx a5) 0))), (70, .slice p rs.length c), (71, .int .i64 (rs.length : Int)), (72, .int .i64 (i : Int)), (77, .slice rp 5 5), (78, .int .i64 5), (79, .int .i64 (k : Int))] ⟨rfl, rfl, rfl, rfl, rfl, rfl, rfl, rfl, rfl, rfl, rfl, rfl, rfl, trivial⟩ ?_
    by_cases hkl : k < 5
    · obtain ⟨ru, hru⟩ := get_some (xs := rulesL a bk bc bs) (k := k) hkl
      have hcal := fun w' (hx' : Ext u3 w') => hrule k ru hru w' (hx3'.trans hx')
      have hRu4 := hRu.ext hx3'
      repeat' (first | (apply G_on; exact rfl; first | (apply G1_indexAddrJ (q := k); exact T.s91; exact rfl; exact rfl; exact rfl; exact hrok; omega; exact rfl) | (apply G1_loadEl (e := eRule) (q := k); exact T.a90; exact rfl; exact hRu4.sl; exact hru; exact rfl; exact rfl) | (apply G1_lss; exact rfl; exact rfl; exact rfl)) | apply G_nil | apply Post_next | apply W_seq | apply W_region | (apply W_cond_dec; exact rfl; all_goals (intro h; try (exfalso; omega))) | apply W_skip | apply W_block)
      all_goals try (exfalso; omega)
      apply G_on; exact rfl; apply G1_alloc; exact T.zero90; exact rfl; exact rfl; intro a9 u4 ha9 hA9 hx9 hs9
      skip
      apply G_on; exact rfl; apply G1_storeB; exact T.z90; exact rfl; exact rfl; exact hA9; exact rfl; exact rfl; (first | exact Nat.le_of_ble_eq_true rfl | (focus (simp [Value.cells]; done))); (first | exact Enc.one _ _ | (focus (simp [Value.oneCell']; done)) | (focus (simp [Value.cells, Value.oneCell']; done)) | exact Enc.oneAgg _ _); exact rfl; (first | exact .inl rfl | exact .inr (by simp [exempt])); exact rfl; intro u5 hA10 hg10 hs10
      replace hA10 : Blk u5.heap a9 90 [.int .i64 ru.e, .func (.func ru.f) ru.us.toArray ru.vs.toArray] := hA10
      have hx35 : Ext u3 u5 := hx9.own hg10 (fun k hk => by injection hk; omega)
      have hA6' := hA6.ext (hx3'.trans hx35)
      repeat' (first | (apply G_on; exact rfl; first | (apply G1_move; exact rfl; exact rfl) | (apply G1_loadB; exact plHist; exact rfl; exact hA10; exact rfl; exact rfl) | (apply G1_callv; exact rfl; exact rfl; exact rfl; exact rfl; exact hcal _ (by repeat first | assumption | exact Ext.rfl' | apply Ext.drew | apply Ext.alloc | refine Ext.trans ?_ (by assumption)); rintro _ u6 ⟨rfl, hx6'⟩; refine ⟨(by first | exact .inl rfl | exact .inr hx6'), ?_⟩) | (apply G1_loadBAgg; exact T.a43; exact rfl; assumption; exact rfl; exact rfl) | (apply G1_fieldAddr; exact T.f90_1; exact rfl; exact rfl) | (apply G1_add; exact rfl; exact rfl; omega; omega; exact rfl)) | apply G_nil | apply Post_next | apply W_seq | apply W_region | (apply W_cond; exact rfl; all_goals intro h) | apply W_skip | apply Post_block_normal)
      · simp only [Bool.and_eq_true, decide_eq_true_eq] at h
        obtain ⟨rfl, hbad⟩ := h
        have hru2 : ru.e = 51 := by injection hru with hru; rw [← hru]
        rw [hru2] at hA10
        replace hA10 := hA10.ext hx6'
        have hx0f : Ext w u6 := hxu2.trans (hx3'.trans (hx35.trans hx6'))
        repeat' (first | (apply G_on; exact rfl; first | ((first | apply G1_assign | apply G1_move); exact rfl; exact rfl) | (apply G1_loadB; exact T.p44; exact rfl; assumption; exact rfl; exact rfl) | (apply G1_fieldAddr; exact T.f90_0; exact rfl; exact rfl)) | apply G_nil | apply Post_next | apply W_seq | apply W_region | apply Post_scZR | refine W_drawn 1 [] [0,1,2,3,4] mixed (by decide +kernel) ?_ | apply W_exit | apply W_ret | apply Post_then_exit | apply Post_block_exit | (apply Post_block_other; exact rfl))
        refine Post_ret Tryz.results13 ⟨_, _, rfl, rfl, _, _, rfl, rfl, rfl⟩ ?_
        exact ⟨⟨i, 51, rfl, hgood, .inr ⟨x, hx, hbad, rfl⟩⟩, (by repeat first | assumption | exact Ext.rfl' | apply Ext.drew | apply Ext.alloc | refine Ext.trans ?_ (by assumption))⟩
      · exact Post_round (k + 1) ⟨rfl, rfl, rfl, rfl, rfl, rfl, rfl, rfl, rfl, rfl, rfl, rfl, rfl, trivial⟩ ⟨by omega, fun h2 => (by
          by_cases hk2 : k = 2
          · simpa [hk2] using h
          · exact hb3 (by omega)), hx3'.trans (hx35.trans hx6')⟩ (by omega)
    · have hb := hb3 (by omega)
      have eH : eHist.enc r = [.int .i64 ((i % 3 : Nat) : Int), .int .i64 r.start, .int .i64 ((i : Int) + 1), .slice r.p r.n r.c] := by rw [← hHx.com, ← hHx.ses]; rfl
      rw [eH] at hA6
      replace hA6 := hA6.ext hx3'
      replace hP := hP.ext hx3'
      have hbx := hP.box
      have hMk := hP.keys
      have hMc := hP.coms
      have hMs := hP.sess
      replace hQ := hQ.ext hx3'
      replace hRu := hRu.ext hx3'
      have hxu3 : Ext w u3 := hxu2.trans hx3'
      obtain ⟨cc, hc1, hc2, hc3⟩ := sesF_le i i
      have hn1 : bc ≠ a := hbx.neM hMc
      have hn2 : bs ≠ a := hbx.neM hMs
      have hn3 : bc ≠ a5 := hA6.neM hMc
      have hn4 : bs ≠ a5 := hA6.neM hMs
      repeat' (first | (apply G_on; exact rfl; first | (apply G1_build (t := 92) (.agg #[]); exact rfl; exact bld0; exact rfl) | (apply G1_putV (m := i); exact Tryz.underlying77; exact kInt; exact rfl; exact rfl; exact rfl; exact keyI (by omega) (by omega); exact Nat.lt_of_le_of_lt (m := 1000) (by omega) (by decide); exact hMc.ext (by repeat first | assumption | exact Ext.rfl' | apply Ext.drew | apply Ext.alloc | refine Ext.trans ?_ (by assumption)); exact rfl; exact rfl; exact rfl; intro u7 hM7 hg7; replace hbx := hbx.grown hg7 (fun e => hn1 (by injection e)); replace hA6 := hA6.grown hg7 (fun e => hn3 (by injection e)); replace hMk := hMk.kept hg7 (fun e => hP.kc (by injection e with e; exact e.symm)); replace hMs := hMs.kept hg7 (fun e => hP.cb (by injection e))) | ((first | apply G1_lss | apply G1_gtr); exact rfl; exact rfl; exact rfl) | (apply G1_loadB; (first | exact T.p3 | exact T.p77 | exact T.p78); exact rfl; assumption; exact rfl; exact rfl) | (apply G1_fieldAddr; (first | exact T.f43_2 | exact T.f80_1 | exact T.f80_2 | exact T.f43_0); exact rfl; exact rfl)) | apply G_nil | apply Post_next | apply W_seq | apply W_region | (apply W_cond_dec; exact rfl; all_goals (intro h; try (exfalso; omega))) | apply W_exit | apply Post_then_exit | apply Post_block_exit)
      replace hQ := hQ.kept hg7 (fun y hy e => hQ.neM hMc (by rw [hy]; exact e.symm))
      replace hRu := hRu.kept hg7 (fun y hy e => hRu.neM hMc (by rw [hy]; exact e.symm))
      have hx07 : Ext w u7 := hxu3.own hg7 (fun k hk => by injection hk; omega)
      have hmx : max cc ((i : Int) + 1) = (i : Int) + 1 := by omega
      repeat' (first | (apply G_on; exact rfl; first | (apply G1_move; exact rfl; exact rfl) | (apply G1_lookVk hc1; exact Tryz.underlying78; exact kInt; exact zeroI; exact rfl; exact rfl; exact keyI (by omega) (by omega); exact hMs.ext (by repeat first | assumption | exact Ext.rfl' | apply Ext.drew | apply Ext.alloc | refine Ext.trans ?_ (by assumption)); exact rfl) | (apply G1_max; exact rfl; exact rfl; exact rfl; rw [hmx]) | (apply G1_putV (m := i); exact Tryz.underlying78; exact kInt; exact rfl; exact rfl; exact rfl; exact keyI (by omega) (by omega); exact Nat.lt_of_le_of_lt (m := 1000) (by omega) (by decide); exact hMs.ext (by repeat first | assumption | exact Ext.rfl' | apply Ext.drew | apply Ext.alloc | refine Ext.trans ?_ (by assumption)); exact rfl; exact rfl; exact rfl; intro u8 hM8 hg8) | (apply G1_loadB; exact T.p3; exact rfl; assumption; exact rfl; exact rfl) | (apply G1_fieldAddr; exact T.f43_2; exact rfl; exact rfl) | (apply G1_add; exact rfl; exact rfl; omega; omega; exact rfl)) | apply G_nil | apply Post_next | apply W_region | apply Post_block_normal)
      rw [comsF_put] at hM7
      rw [sesF_put] at hM8
      refine Post_round (i + 1) ⟨rfl, rfl, rfl, rfl, rfl, rfl, rfl, rfl, trivial⟩ ⟨hlt, fun j z hj hz => ?_, ⟨hbx.grown hg8 (fun e => hn2 (by injection e)), hMk.kept hg8 (fun e => hP.kb (by injection e with e; exact e.symm)), hM7.kept hg8 (fun e => hP.cb (by injection e with e; exact e.symm)), hM8, hP.kc, hP.kb, hP.cb⟩, hQ.kept hg8 (fun y hy e => hQ.neM hMs (by rw [hy]; exact e.symm)), hRu.kept hg8 (fun y hy e => hRu.neM hMs (by rw [hy]; exact e.symm)), hx07.own hg8 (fun k hk => by injection hk; omega)⟩ (by omega)
      by_cases hji : j = i
      · subst hji
        rw [hx] at hz
        injection hz with hz
        rw [← hz]
        exact hb
      · exact hgood j z (by omega) hz
end Go.Proofs.YtipbakiecocioaaGreatDoor

/- Audit: Final at the law's histories. -/

namespace Go.V
/-- what the first i transactions leave -/
noncomputable def finF (xs : List TxD) (i : Nat) : Lit → Option Value := oneF (if i = 0 then none else some (resV true (((xs[i - 1]?).map (·.t)).getD ⟨#[]⟩)))
theorem finF_put {xs : List TxD} {i : Nat} {x : TxD} (h : xs[i]? = some x) (f : Option Value) : putV (oneF f) kLit (resV true x.t) = finF xs (i + 1) := by
  rw [oneF_put]
  unfold finF
  rw [if_neg (Nat.succ_ne_zero i), Nat.add_sub_cancel, h]
  rfl
end Go.V
namespace Go.Proofs.YtipbakiecocioaaGreatDoor
open Go.V
attribute [local irreducible] Blk Own hcell IntT SliceT PlainT AggT SizeT StrT FieldT ZeroT EqT ArrT
def lenS : ByteArray := ⟨#[0, 1, 2, 2, 3, 3, 3, 3, 4, 4, 4, 4, 4, 4, 4, 4, 5, 5, 5, 5, 5, 5, 5, 5, 5, 5, 5, 5, 5, 5, 5, 5, 6, 6, 6, 6, 6, 6, 6, 6, 6, 6, 6, 6, 6, 6, 6, 6, 6, 6, 6, 6, 6, 6, 6, 6, 6, 6, 6, 6, 6, 6, 6, 6, 7, 7, 7, 7, 7, 7, 7, 7, 7, 7, 7, 7, 7, 7, 7, 7, 7, 7, 7, 7, 7, 7, 7, 7, 7, 7, 7, 7, 7, 7, 7, 7, 7, 7, 7, 7, 7, 7, 7, 7, 7, 7, 7, 7, 7, 7, 7, 7, 7, 7, 7, 7, 7, 7, 7, 7, 7, 7, 7, 7, 7, 7, 7, 7, 8, 8, 8, 8, 8, 8, 8, 8, 8, 8, 8, 8, 8, 8, 8, 8, 8, 8, 8, 8, 8, 8, 8, 8, 8, 8, 8, 8, 8, 8, 8, 8, 8, 8, 8, 8, 8, 8, 8, 8, 8, 8, 8, 8, 8, 8, 8, 8, 8, 8, 8, 8, 8, 8, 8, 8, 8, 8, 8, 8, 8, 8, 8, 8, 8, 8, 8, 8, 8, 8, 8, 8, 8, 8, 8, 8, 8, 8, 8, 8, 8, 8, 8, 8, 8, 8, 8, 8, 8, 8, 8, 8, 8, 8, 8, 8, 8, 8, 8, 8, 8, 8, 8, 8, 8, 8, 8, 8, 8, 8, 8, 8, 8, 8, 8, 8, 8, 8, 8, 8, 8, 8, 8, 8, 8, 8, 8, 8]⟩
theorem lenS_size : lenS.size = 256 := by decide +kernel
theorem lenS_one : ((bget lenS 1).toNat : Int) = 1 := by decide +kernel
theorem len64_1 {w : World} : Ctr Tryz.prog 103 [.int .u64 1] w (fun v w' => v = .int .i64 1 ∧ Ext w w') := by
  have hsz := lenS_size
  refine Ctr_of Tryz.func103 Tryz.ntmps103 rfl rfl rfl ?_
  repeat' (first | (apply G_on; exact rfl; first | ((first | apply G1_assign | apply G1_move); exact rfl; exact rfl) | (apply G1_geq; exact rfl; exact rfl; exact rfl) | (apply G1_convu8; exact rfl; exact T.i151; exact T.i5; omega; omega; exact rfl)) | apply G_nil | apply Post_next | apply W_seq | apply W_region | (apply W_cond_false; exact rfl) | apply W_skip)
  all_goals try (exfalso; omega)
  apply G_on; exact rfl
  apply G1_sindexJ (q := 1) (s := lenS); exact T.str9
  · show some (Value.string _) = some (Value.string lenS)
    refine congrArg (fun z => some (Value.string z)) ?_
    kernel_rfl
  · exact rfl
  · exact rfl
  · omega
  · exact rfl
  rw [lenS_one]
  repeat' (first | (apply G_on; exact rfl; first | (apply G1_assign; exact rfl; exact rfl) | (apply G1_add; exact rfl; exact rfl; omega; omega; exact rfl) | (apply G1_convi64; exact rfl; exact T.i5; exact T.i3; omega; omega; exact rfl)) | apply G_nil | apply Post_next | apply W_ret)
  refine Post_ret Tryz.results103 ⟨_, _, rfl, rfl, rfl⟩ ?_
  exact ⟨rfl, (by repeat first | assumption | exact Ext.rfl' | apply Ext.drew | apply Ext.alloc | refine Ext.trans ?_ (by assumption))⟩
theorem len_1 {w : World} : Ctr Tryz.prog 71 [.int .u64 1] w (fun v w' => v = .int .i64 1 ∧ Ext w w') := by
  refine Ctr_of Tryz.func71 Tryz.ntmps71 rfl rfl rfl ?_
  repeat' (first | (apply G_on; exact rfl; first | ((first | apply G1_assign | apply G1_move); exact rfl; exact rfl) | (apply G1_call (f := 103); exact rfl; exact rfl; exact rfl; exact len64_1; rintro _ w2 ⟨rfl, hx2⟩; refine ⟨(by first | exact .inl rfl | exact .inr (by assumption)), ?_⟩)) | apply G_nil | apply Post_next | apply W_seq | apply W_region | (apply W_cond_false; exact rfl) | apply W_skip | apply W_ret)
  refine Post_ret Tryz.results71 ⟨_, _, rfl, rfl, rfl⟩ ?_
  exact ⟨rfl, (by repeat first | assumption | exact Ext.rfl' | apply Ext.drew | apply Ext.alloc | refine Ext.trans ?_ (by assumption))⟩
theorem isortP {fc : FuncId} {p : Option Addr} {c : Nat} {w : World} : Ctr Tryz.prog 94 [.slice p 1 c, .int .i64 0, .int .i64 1, .func (.func fc) #[] #[]] w (fun _ w' => Ext w w') := by
  refine Ctr_of Tryz.func94 Tryz.ntmps94 rfl rfl rfl ?_
  repeat' (first | (apply G_on; exact rfl; first | ((first | apply G1_move | apply G1_assign); exact rfl; exact rfl) | (apply G1_add; exact rfl; exact rfl; omega; omega; exact rfl)) | apply G_nil | apply Post_next | apply W_seq | apply W_region | apply W_block)
  refine W_loop (ι := Unit) (fun _ => [(1, .int .i64 0), (2, .int .i64 1), (8, .int .i64 1)]) (fun _ w' => Ext w w') (fun _ => 0) () ⟨rfl, rfl, rfl, trivial⟩ (by repeat first | assumption | exact Ext.rfl' | apply Ext.drew | apply Ext.alloc | refine Ext.trans ?_ (by assumption)) ?_
  rintro _ w2 hx2
  repeat' (first | (apply G_on; exact rfl; first | (apply G1_move; exact rfl; exact rfl) | (apply G1_lss; exact rfl; exact rfl; exact rfl)) | apply G_nil | apply Post_next | apply W_seq | apply W_region | (apply W_cond_false; exact rfl) | apply W_exit | apply Post_then_exit | apply Post_block_exit)
  all_goals try (exfalso; omega)
  refine Post_end Tryz.results94 (vs := []) rfl ?_
  exact (by repeat first | assumption | exact Ext.rfl' | apply Ext.drew | apply Ext.alloc | refine Ext.trans ?_ (by assumption))
theorem pdq1 {fc : FuncId} {p : Option Addr} {c : Nat} {lim : Value} {w : World} : Ctr Tryz.prog 70 [.slice p 1 c, .int .i64 0, .int .i64 1, lim, .func (.func fc) #[] #[]] w (fun _ w' => Ext w w') := by
  refine Ctr_of Tryz.func70 Tryz.ntmps70 rfl rfl rfl ?_
  repeat' (first | (apply G_on; exact rfl; (apply G1_assign; exact rfl; exact rfl)) | apply G_nil | apply Post_next | apply W_seq | apply W_region | apply W_block)
  refine W_loop (ι := Unit) (fun _ => [(0, .slice p 1 c), (1, .int .i64 0), (2, .int .i64 1), (3, lim), (4, .func (.func fc) #[] #[])]) (fun _ w' => Ext w w') (fun _ => 0) () ⟨rfl, rfl, rfl, rfl, rfl, trivial⟩ (by repeat first | assumption | exact Ext.rfl' | apply Ext.drew | apply Ext.alloc | refine Ext.trans ?_ (by assumption)) ?_
  rintro _ w2 hx2
  repeat' (first | (apply G_on; exact rfl; first | ((first | apply G1_assign | apply G1_move); exact rfl; exact rfl) | (apply G1_call (f := 94); exact rfl; exact rfl; exact rfl; exact isortP; rintro _ w3 hx3; refine ⟨(by first | exact .inl rfl | exact .inr (by assumption)), ?_⟩) | (apply G1_sub; exact rfl; exact rfl; omega; omega; exact rfl) | (apply G1_leq; exact rfl; exact rfl; exact rfl)) | apply G_nil | apply Post_next | apply W_seq | apply W_region | (apply W_cond_true; exact rfl) | apply W_ret | apply W_block | apply Post_then_ret | apply Post_block_ret)
  all_goals try (exfalso; omega)
  refine Post_ret Tryz.results70 (vs := []) rfl ?_
  exact (by repeat first | assumption | exact Ext.rfl' | apply Ext.drew | apply Ext.alloc | refine Ext.trans ?_ (by assumption))
theorem sort1 {fc : FuncId} {p : Option Addr} {c : Nat} {w : World} : Ctr Tryz.prog 36 [.slice p 1 c, .func (.func fc) #[] #[]] w (fun _ w' => Ext w w') := by
  refine Ctr_of Tryz.func36 Tryz.ntmps36 rfl rfl rfl ?_
  repeat' (first | (apply G_on; exact rfl; first | ((first | apply G1_move | apply G1_assign); exact rfl; exact rfl) | (apply G1_call (f := 71); exact rfl; exact rfl; exact rfl; exact len_1; rintro _ w2 ⟨rfl, hx2⟩; refine ⟨(by first | exact .inl rfl | exact .inr (by assumption)), ?_⟩) | (apply G1_call (f := 70); exact rfl; exact rfl; exact rfl; exact pdq1; rintro _ w3 hx3; refine ⟨(by first | exact .inl rfl | exact .inr (by assumption)), ?_⟩) | (apply G1_len; exact T.s47; exact rfl; exact rfl) | (apply G1_convu64; exact rfl; exact T.i3; exact T.i134; omega; omega; exact rfl)) | apply G_nil | apply Post_next | apply W_seq | apply W_region)
  refine Post_end Tryz.results36 (vs := []) rfl ?_
  exact (by repeat first | assumption | exact Ext.rfl' | apply Ext.drew | apply Ext.alloc | refine Ext.trans ?_ (by assumption))
theorem bldPair (k t : ByteArray) (w : World) : (Instr.build 50 [(0, Value.string k), (1, Value.string t)].toArray).run Tryz.prog w = .ok (.agg #[.string k, .string t]) w := by kernel_rfl
set_option maxHeartbeats 4000000 in
theorem final_spec {p : Option Addr} {c : Nat} {rs : List RawH} {xs : List TxD} {x0 : TxD} {w : World} (hH : HistsAt w.heap p c rs xs) (hl : rs.length ≤ 20) (hp : 0 < rs.length) (hx0 : xs[rs.length - 1]? = some x0) :
    Ctr Tryz.prog 14 [.slice p rs.length c] w (fun v w' => ∃ q d, v = .slice q 1 d ∧ Sl w'.heap ePair q d [(sK, x0.t)] ∧ Ext w w') := by
  have hok := hH.sl.ok
  have hlen := hH.len
  have hcom := fun (w' : World) (hx : Ext w w') => committed_spec (hH.ext hx) hl
  refine Ctr_of Tryz.func14 Tryz.ntmps14 rfl rfl rfl ?_
  repeat' (first | (apply G_on; exact rfl; (apply G1_assign; exact rfl; exact rfl)) | apply G_nil | apply Post_next | apply W_seq | apply W_region)
  apply G_on; exact rfl
  apply G1_makeMapV; exact Tryz.underlying82; exact rfl; exact rfl
  intro bm w1 hbm hM hx1 hs1
  repeat' (first | (apply G_on; exact rfl; first | ((first | apply G1_assign | apply G1_move); exact rfl; exact rfl) | (apply G1_call (f := 28); exact rfl; exact rfl; exact rfl; exact hcom _ (by repeat first | assumption | exact Ext.rfl' | apply Ext.drew | apply Ext.alloc | refine Ext.trans ?_ (by assumption)); rintro _ w2 ⟨cq, cd, rfl, hO, hx2⟩; refine ⟨(by first | exact .inl rfl | exact .inr (by assumption)), ?_⟩; (first | replace hM := hM.ext hx2 | replace hM := hM.ext ((Ext.drew Ext.rfl').trans hx2))) | (apply G1_len; exact T.s73; exact rfl; exact rfl)) | apply G_nil | apply Post_next | apply W_seq | apply W_region | apply W_block)
  have hx02 : Ext w w2 := hx1.trans hx2
  have hz1 := hx1.size
  refine W_loop (ι := Nat) (fun y => [(0, .slice p rs.length c), (3, .map (some bm)), (13, .slice cq rs.length cd), (14, .int .i64 (rs.length : Int)), (15, .int .i64 (y : Int))])
    (fun y w' => y ≤ rs.length ∧ (∃ m, m ≤ 3 * y ∧ MapV Tryz.prog w' 9 bm (finF xs y) m) ∧ Own w' w1.heap.size 3 eInt cq cd (numsI rs.length) ∧ Ext w w') (fun y => rs.length - y) 0 ⟨rfl, rfl, rfl, rfl, rfl, trivial⟩
    ⟨Nat.zero_le _, ⟨0, Nat.le_refl _, by rw [show finF xs 0 = oneF none from rfl, oneF_none]; exact hM⟩, hO, hx02⟩ ?_
  clear hM hO
  rintro i v0 ⟨hi, ⟨m, hm, hM⟩, hO, hxv⟩
  refine W_keep [(0, .slice p rs.length c), (3, .map (some bm)), (13, .slice cq rs.length cd), (14, .int .i64 (rs.length : Int)), (15, .int .i64 (i : Int))] ⟨rfl, rfl, rfl, rfl, rfl, trivial⟩ ?_
  have hcok := hO.sl.ok
  rw [numsI_len] at hcok
  by_cases hlt : i < rs.length
  · obtain ⟨r, hr⟩ := get_some hlt
    obtain ⟨x, hx⟩ := get_some (xs := xs) (k := i) (by omega)
    have hHx := hH.get i r x hr hx
    have hgi : (numsI rs.length)[i]? = some (i : Int) := numsI_get hlt
    have e3 := hHx.n
    obtain ⟨ses, st, com, p3, n3, c3⟩ := r
    simp only at e3
    subst e3
    have hSo : Sl w.heap eOp p3 c3 (opsOf x) := hHx.ops
    have hok3 := hSo.ok
    rw [opsOf_len] at hok3
    have f3 : (eHist.enc ⟨ses, st, com, p3, 3, c3⟩)[3]? = some (.slice p3 3 c3) := rfl
    repeat' (first | (apply G_on; exact rfl; first | ((first | apply G1_assign | apply G1_move); exact rfl; exact rfl) | (apply G1_indexAddrJ (q := i); exact T.s73; exact rfl; exact rfl; exact rfl; exact hcok; omega; exact rfl) | (apply G1_loadEl1 (e := eInt) (q := i); exact T.p3; exact rfl; exact hO.sl.ext (by repeat first | assumption | exact Ext.rfl' | apply Ext.drew | apply Ext.alloc | refine Ext.trans ?_ (by assumption)); exact hgi; exact rfl; exact rfl; exact rfl) | (apply G1_lss; exact rfl; exact rfl; exact rfl) | (apply G1_indexAddrN; exact T.s38; exact rfl; exact rfl; (first | assumption | exact Sl.ok (by assumption) | exact (Own.sl (by assumption)).ok); omega; exact rfl) | (apply G1_fieldAddr; exact T.f43_3; exact rfl; exact rfl)) | apply G_nil | apply Post_next | apply W_seq | apply W_region | (apply W_cond_dec; exact rfl; all_goals (intro h; try (exfalso; omega))) | apply W_skip | apply W_block)
    all_goals try (exfalso; omega)
    repeat' (first | (apply G_on; exact rfl; first | (apply G1_move; exact rfl; exact rfl) | (apply G1_loadFld (e := eHist) (q := i) (off := 3); exact T.p41; exact rfl; exact hH.sl.ext (by repeat first | assumption | exact Ext.rfl' | apply Ext.drew | apply Ext.alloc | refine Ext.trans ?_ (by assumption)); exact hr; exact rfl; exact f3; exact rfl) | (apply G1_len; exact T.s41; exact rfl; exact rfl)) | apply G_nil | apply Post_next | apply W_block)
    refine W_loop (ι := Nat) (fun y => [(0, .slice p rs.length c), (3, .map (some bm)), (13, .slice cq rs.length cd), (14, .int .i64 (rs.length : Int)), (15, .int .i64 (i : Int)), (23, .slice p3 3 c3), (24, .int .i64 3), (25, .int .i64 (y : Int))])
      (fun y w' => y ≤ 3 ∧ (∃ m, m ≤ 3 * i + y ∧ MapV Tryz.prog w' 9 bm (finF xs (if 2 ≤ y then i + 1 else i)) m) ∧ Own w' w1.heap.size 3 eInt cq cd (numsI rs.length) ∧ Ext w w') (fun y => 3 - y) 0 ⟨rfl, rfl, rfl, rfl, rfl, rfl, rfl, rfl, trivial⟩
      ⟨Nat.zero_le _, ⟨m, by omega, hM⟩, hO, hxv⟩ ?_
    clear hM hO hxv hm
    rintro y v1 ⟨hy, ⟨m, hm, hM⟩, hO, hxv⟩
    refine W_keep [(0, .slice p rs.length c), (3, .map (some bm)), (13, .slice cq rs.length cd), (14, .int .i64 (rs.length : Int)), (15, .int .i64 (i : Int)), (23, .slice p3 3 c3), (24, .int .i64 3), (25, .int .i64 (y : Int))] ⟨rfl, rfl, rfl, rfl, rfl, rfl, rfl, rfl, trivial⟩ ?_
    by_cases hy3 : y < 3
    · obtain ⟨o, ho⟩ := get_some (xs := opsOf x) (k := y) (by rw [opsOf_len]; omega)
      have hko := op_key ho
      obtain ⟨ow, ok, ot, oh⟩ := o
      simp only at hko
      subst hko
      have hbl := hM.lt
      repeat' (first | (apply G_on; exact rfl; first | (apply G1_indexAddrJ (q := y); exact T.s41; exact rfl; exact rfl; exact rfl; exact hok3; omega; exact rfl) | (apply G1_loadEl (e := eOp) (q := y); exact T.a40; exact rfl; exact hSo.ext (by repeat first | assumption | exact Ext.rfl' | apply Ext.drew | apply Ext.alloc | refine Ext.trans ?_ (by assumption)); exact ho; exact rfl; exact rfl) | (apply G1_lss; exact rfl; exact rfl; exact rfl)) | apply G_nil | apply Post_next | apply W_seq | apply W_region | (apply W_cond_dec; exact rfl; all_goals (intro h; try (exfalso; omega))) | apply W_skip | apply W_block)
      all_goals try (exfalso; omega)
      apply G_on; exact rfl; apply G1_alloc; exact T.zero40; exact rfl; exact rfl; intro a5 v2 ha5 hA5 hx5 hs5
      skip
      apply G_on; exact rfl; apply G1_storeB; exact T.z40; exact rfl; exact rfl; exact hA5; exact rfl; exact rfl; (first | exact Nat.le_of_ble_eq_true rfl | (focus (simp [Value.cells]; done))); (first | exact Enc.one _ _ | (focus (simp [Value.oneCell']; done)) | (focus (simp [Value.cells, Value.oneCell']; done)) | exact Enc.oneAgg _ _); exact rfl; (first | exact .inl rfl | exact .inr (by simp [exempt])); exact rfl; intro v3 hA6 hg6 hs6
      replace hA6 : Blk v3.heap a5 40 [.bool ow, .string sK, .string ot, .bool oh] := hA6
      replace hM := (hM.ext hx5).kept hg6 (fun e => by injection e; omega)
      replace hO := (hO.ext hx5).kept hg6 (fun y hy e => (hO.ext hx5).neB hA5 (by decide) (by rw [hy]; exact e.symm))
      have hxv3 : Ext w v3 := hxv.trans (hx5.own hg6 (fun k hk => by injection hk; omega))
      have hof := fun w' => of_spec ⟨ow, sK, ot, oh⟩ w'
      have hMx := fun (w' : World) (hx : Ext v3 w') => hM.ext hx
      repeat' (first | (apply G_on; exact rfl; first | (apply G1_move; exact rfl; exact rfl) | (apply G1_call (f := 35); exact rfl; exact rfl; exact rfl; exact hof _; rintro _ v4 ⟨rfl, hx7⟩; refine ⟨(by first | exact .inl rfl | exact .inr (by assumption)), ?_⟩; (first | replace hA6 := hA6.ext hx7 | replace hA6 := hA6.ext ((Ext.drew Ext.rfl').trans hx7))) | (apply G1_putV (m := m); exact Tryz.underlying82; exact kStr; exact rfl; exact rfl; exact rfl; exact keyS; exact Nat.lt_of_le_of_lt (m := 1000) (by omega) (by decide); exact hMx _ (by repeat first | assumption | exact Ext.rfl' | apply Ext.drew | apply Ext.alloc | refine Ext.trans ?_ (by assumption)); exact rfl; exact rfl; exact rfl; intro v5 hM5 hg5) | (apply G1_loadB; (first | exact T.p4 | exact T.p9); exact rfl; assumption; exact rfl; exact rfl) | (apply G1_fieldAddr; (first | exact T.f40_0 | exact T.f40_1); exact rfl; exact rfl) | (apply G1_loadBAgg; exact T.a40; exact rfl; assumption; exact rfl; exact rfl) | (apply G1_add; exact rfl; exact rfl; omega; omega; exact rfl)) | apply G_nil | apply Post_next | apply W_seq | apply W_region | (apply W_cond; exact rfl; all_goals intro h) | refine W_drawn 1 [] [0,1,2,3,4,5] mixed (by decide +kernel) ?_ | apply W_skip | apply Post_block_normal)
      · have how := h
        have h3 : y = 1 ∧ ot = x.t ∧ oh = true := by
          have h3 : y = 0 ∨ y = 1 ∨ y = 2 := by omega
          rcases h3 with rfl | rfl | rfl
          · rw [ops_get0] at ho; injection ho with ho; injection ho with ho; rw [← ho] at how; cases how
          · rw [ops_get1] at ho; injection ho with ho; injection ho with _ _ h1 h2; exact ⟨rfl, h1.symm, h2.symm⟩
          · rw [ops_get2] at ho; injection ho with ho; injection ho with ho; rw [← ho] at how; cases how
        obtain ⟨rfl, rfl, rfl⟩ := h3
        have hM6 : MapV Tryz.prog v5 9 bm (finF xs (i + 1)) (m + 1) := by
          have hf := finF_put hx (if i = 0 then none else some (resV true (((xs[i - 1]?).map (·.t)).getD ⟨#[]⟩)))
          rw [← hf]
          exact hM5
        have hx34 : Ext v3 v4 := (by repeat first | assumption | exact Ext.rfl' | apply Ext.drew | apply Ext.alloc | refine Ext.trans ?_ (by assumption))
        have hO4 := hO.ext hx34
        have hM4 := hMx v4 hx34
        exact Post_round 2 ⟨rfl, rfl, rfl, rfl, rfl, rfl, rfl, rfl, trivial⟩ ⟨by omega, ⟨m + 1, by omega, hM6⟩, hO4.kept hg5 (fun y hy e => hO4.neM hM4 (by rw [hy]; exact e.symm)), (hxv3.trans hx34).own hg5 (fun k hk => by injection hk; omega)⟩ (by omega)
      · have how := h
        have h3 : (if 2 ≤ y + 1 then i + 1 else i) = (if 2 ≤ y then i + 1 else i) := by
          have h3 : y = 0 ∨ y = 1 ∨ y = 2 := by omega
          rcases h3 with rfl | rfl | rfl
          · rfl
          · rw [ops_get1] at ho; injection ho with ho; injection ho with ho; rw [← ho] at how; cases how
          · rfl
        exact Post_round (y + 1) ⟨rfl, rfl, rfl, rfl, rfl, rfl, rfl, rfl, trivial⟩ ⟨by omega, ⟨m, by omega, by rw [h3]; exact hM.ext (by repeat first | assumption | exact Ext.rfl' | apply Ext.drew | apply Ext.alloc | refine Ext.trans ?_ (by assumption))⟩, hO.ext (by repeat first | assumption | exact Ext.rfl' | apply Ext.drew | apply Ext.alloc | refine Ext.trans ?_ (by assumption)), (by repeat first | assumption | exact Ext.rfl' | apply Ext.drew | apply Ext.alloc | refine Ext.trans ?_ (by assumption))⟩ (by omega)
    · have hyy : y = 3 := by omega
      subst hyy
      repeat' (first | (apply G_on; exact rfl; first | (apply G1_move; exact rfl; exact rfl) | (apply G1_lss; exact rfl; exact rfl; exact rfl) | (apply G1_add; exact rfl; exact rfl; omega; omega; exact rfl)) | apply G_nil | apply Post_next | apply W_seq | apply W_region | (apply W_cond_false; exact rfl) | apply W_exit | apply Post_then_exit | apply Post_block_exit | apply Post_block_normal)
      all_goals try (exfalso; omega)
      exact Post_round (i + 1) ⟨rfl, rfl, rfl, rfl, rfl, trivial⟩ ⟨hlt, ⟨m, by omega, hM⟩, hO, hxv⟩ (by omega)
  · obtain rfl : i = rs.length := by omega
    have hfin : finF xs rs.length = oneF (some (resV true x0.t)) := by
      unfold finF
      rw [if_neg (by omega), hx0]
      rfl
    rw [hfin] at hM
    clear hO
    repeat' (first | (apply G_on; exact rfl; first | ((first | apply G1_assign | apply G1_move); exact rfl; exact rfl) | (apply G1_lss; exact rfl; exact rfl; exact rfl)) | apply G_nil | apply Post_next | apply W_seq | apply W_region | (apply W_cond_dec; exact rfl; all_goals (intro h; try (exfalso; omega))) | apply W_exit | apply Post_then_exit | apply Post_block_exit)
    all_goals try (exfalso; omega)
    apply G_on; exact rfl
    apply G1_rangeV; exact Tryz.underlying82; exact kStr; exact rfl; exact hM; exact rfl; exact rfl
    intro v2 cnt hR hy2 ht2
    obtain ⟨g, hg⟩ : ∃ g, g = v0.heap.size := ⟨_, rfl⟩
    rw [← hg] at hR
    have hbg : bm < g := by have := hM.lt; omega
    have hwg : w.heap.size ≤ g := by have := hxv.size; omega
    have hxv2 : Ext w v2 := hxv.trans hy2
    rw [← hg]
    clear hM
    repeat' (first | apply G_nil | apply Post_next | apply W_block)
    refine W_loop (ι := Bool × Option Addr × Nat) (fun y => [(8, .slice y.2.1 y.1.toNat y.2.2), (39, .pointer (some ⟨g, 0, none⟩))])
      (fun y w' => (∃ left cnt, MapVR Tryz.prog w' 9 bm g (oneF (some (resV true x0.t))) left cnt m ∧ (y.1 = false → left = fun s => (oneF (some (resV true x0.t)) s).isSome) ∧ (y.1 = true → ∀ kl, left kl = false)) ∧ (y.1 = false → y.2.1 = none ∧ y.2.2 = 0) ∧ Own w' w.heap.size 50 ePair y.2.1 y.2.2 (if y.1 = true then [(sK, x0.t)] else []) ∧ Ext w w') (fun y => 1 - y.1.toNat) (false, none, 0) ⟨rfl, rfl, trivial⟩
      ⟨⟨_, _, hR, fun _ => rfl, fun h => (by cases h)⟩, fun _ => ⟨rfl, rfl⟩, Own.nil _ _ _ _, hxv2⟩ ?_
    clear hR hxv2
    rintro ⟨ph, q, d⟩ u0 ⟨⟨left, cnt, hR, hL0, hL1⟩, hq0, hQ, hxu⟩
    simp only at hL0 hL1 hq0 hQ
    refine W_keep [(8, .slice q ph.toNat d), (39, .pointer (some ⟨g, 0, none⟩))] ⟨rfl, rfl, trivial⟩ ?_
    repeat' (first | apply W_seq | apply W_region)
    apply G_on; exact rfl
    refine G1_nextV kStr rfl hR rfl rfl rfl ?_ ?_
    · intro hno
      have hph : ph = true := by
        cases ph with
        | true => rfl
        | false =>
          have := hno kLit
          rw [hL0 rfl] at this
          simp only [oneF_at] at this
          cases this
      subst hph
      rw [if_pos rfl] at hQ
      repeat' (first | (apply G_on; exact rfl; first | ((first | apply G1_assign | apply G1_move); exact rfl; exact rfl) | (apply G1_call (f := 36); exact rfl; exact rfl; exact rfl; exact sort1; rintro _ u1 hx9; refine ⟨(by first | exact .inl rfl | exact .inr (by assumption)), ?_⟩) | (apply G1_extract; exact rfl; exact rfl; exact rfl)) | apply G_nil | apply Post_next | apply W_seq | apply W_region | (apply W_cond_false; exact rfl) | apply W_exit | apply W_ret | apply Post_then_exit | apply Post_block_exit)
      refine Post_ret Tryz.results14 ⟨_, _, rfl, rfl, rfl⟩ ?_
      exact ⟨q, d, rfl, hQ.sl.ext (by repeat first | assumption | exact Ext.rfl' | apply Ext.drew | apply Ext.alloc | refine Ext.trans ?_ (by assumption)), (by repeat first | assumption | exact Ext.rfl' | apply Ext.drew | apply Ext.alloc | refine Ext.trans ?_ (by assumption))⟩
    · intro key kl v u1 cnt1 hkey hleft hval hR1 hcnt hg1 hs1' hent
      have hkl : kl = kLit := by
        refine Classical.byContradiction fun hne => ?_
        unfold oneF at hval
        rw [if_neg hne] at hval
        cases hval
      subst hkl
      rw [oneF_at] at hval
      injection hval with hval
      subst hval
      obtain ⟨sk, rfl, e2, _⟩ := Go.WideMaps.string_of_keyOf (by kernel_rfl) hkey
      have hsk : sk = sK := by
        cases sk with
        | mk d => exact congrArg ByteArray.mk (Array.toList_inj.1 (Lit.string.inj e2)).symm
      subst hsk
      have hph : ph = false := by
        cases ph with
        | false => rfl
        | true => rw [hL1 rfl] at hleft; cases hleft
      subst hph
      replace hL0 := hL0 rfl
      subst hL0
      obtain ⟨rfl, rfl⟩ := hq0 rfl
      clear hQ
      have hno : ∀ u, ((oneF (some (resV true x0.t)) u).isSome && !u.sameKey kLit) = false := by
        intro u
        by_cases hu : u = kLit
        · subst hu; rw [show Lit.sameKey kLit kLit = true from by decide]; simp
        · unfold oneF; rw [if_neg hu]; rfl
      have hxu1 : Ext w u1 := hxu.own hg1 (fun k hk => by injection hk; omega)
      clear hR hL1 hleft
      repeat' (first | (apply G_on; exact rfl; first | (apply G1_entryV; exact rfl; exact hent; exact rfl; exact rfl) | (apply G1_extract; exact rfl; exact rfl; exact rfl)) | apply G_nil | apply Post_next | apply W_seq | apply W_region | (apply W_cond_true; exact rfl) | apply W_skip | apply W_block)
      apply G_on; exact rfl; apply G1_alloc; exact T.zero85; exact rfl; exact rfl; intro a8 u2 ha8 hA8 hx8 hs8
      repeat' (apply G_on; exact rfl; (apply G1_assign; exact rfl; exact rfl))
      apply G_on; exact rfl; apply G1_storeB; exact T.z85; exact rfl; exact rfl; exact hA8; exact rfl; exact rfl; (first | exact Nat.le_of_ble_eq_true rfl | (focus (simp [Value.cells]; done))); (first | exact Enc.one _ _ | (focus (simp [Value.oneCell']; done)) | (focus (simp [Value.cells, Value.oneCell']; done)) | exact Enc.oneAgg _ _); exact rfl; (first | exact .inl rfl | exact .inr (by simp [exempt])); exact rfl; intro u3 hA3 hg3 hs3'
      replace hA3 : Blk u3.heap a8 85 [.bool true, .string x0.t] := hA3
      have hR3 := (hR1.ext hx8).kept hg3 (fun e => by have := hR1.lt; injection e; omega) (fun e => by have := hR1.lt; injection e; omega)
      have hxu3 : Ext w u3 := hxu1.trans (hx8.own hg3 (fun k hk => by injection hk; omega))
      have hnil : Own u3 w.heap.size 50 ePair none 0 [] := Own.nil _ _ _ _
      repeat' (first | (apply G_on; exact rfl; first | ((first | apply G1_assign | apply G1_move); exact rfl; exact rfl) | (apply G1_build (t := 50) (.agg #[.string sK, .string x0.t]); exact rfl; exact bldPair _ _; exact rfl) | (apply G1_build1 ePair (sK, x0.t); exact T.s47; exact rfl; exact rfl; exact rfl; decide; exact rfl; exact rfl; intro p7 u7 hp7 hs7 _ hx7 hz7; replace hR3 := hR3.ext hx7; replace hnil := hnil.ext hx7; replace hxu3 := hxu3.trans hx7; have hz7 := hxu3.size) | (apply G1_appendA (e := ePair) (xs := []) (ys := [(sK, x0.t)]); exact T.s47; exact rfl; exact rfl; exact hnil; exact hs7; exact rfl; exact hz7; (simp only [List.length_cons, List.length_nil]; omega); (simp only [List.length_cons, List.length_nil]; omega); exact rfl; exact rfl; exact rfl; intro p8 c8 u8 ha8) | (apply G1_loadB; (first | exact T.p4 | exact T.p9); exact rfl; assumption; exact rfl; exact rfl) | (apply G1_fieldAddr; (first | exact T.f85_0 | exact T.f85_1); exact rfl; exact rfl)) | apply G_nil | apply Post_next | apply W_seq | apply W_region | (apply W_cond_true; exact rfl) | apply Post_block_normal)
      exact Post_round (true, p8, c8) ⟨rfl, rfl, trivial⟩ ⟨⟨_, _, hR3.kept ha8.grown (fun e => (by cases e)) (fun e => (by cases e)), fun h => (by cases h), fun _ => hno⟩, fun h => (by cases h), (by show Own u8 _ _ ePair p8 c8 (if true = true then _ else _); rw [if_pos rfl]; exact ha8.own), hxu3.trans (Ext.of_grown ha8.grown)⟩ Nat.zero_lt_one
end Go.Proofs.YtipbakiecocioaaGreatDoor

/- What is written of a right reply is read as it; in plain Lean. -/

namespace Go.Proofs.YtipbakiecocioaaGreatDoor
open Go.V
attribute [local irreducible] Blk Own hcell IntT SliceT PlainT AggT SizeT StrT FieldT ZeroT EqT ArrT
def fitsT : Nat → Rep → Prop
  | 0, t => fit64 t.n ∧ t.s.size ≤ 9223372036854775807 ∧ t.l.length ≤ 9223372036854775807
  | d + 1, t => (fit64 t.n ∧ t.s.size ≤ 9223372036854775807 ∧ t.l.length ≤ 9223372036854775807) ∧ ∀ x ∈ t.l, fitsT d x
theorem fitsT.one {d : Nat} {t : Rep} (h : fitsT d t) : fit64 t.n ∧ t.s.size ≤ 9223372036854775807 ∧ t.l.length ≤ 9223372036854775807 := by
  cases d with
  | zero => exact h
  | succ d => exact h.1
theorem mkStr_list (s : ByteArray) : mkStr s.data.toList = s := by
  cases s with | mk a => simp [mkStr]
theorem itoa_nobr (n : Int) : ∀ b ∈ Lib.itoa n, isBr b = false := by
  intro b hb
  unfold isBr
  unfold Lib.itoa at hb
  have key : 48 ≤ b.toNat ∨ b = 45 → (b == 13 || b == 10) = false := by
    intro h
    have h1 : b ≠ 13 := by rintro rfl; revert h; decide
    have h2 : b ≠ 10 := by rintro rfl; revert h; decide
    simp [h1, h2]
  split at hb
  · rcases List.mem_cons.1 hb with rfl | hb
    · exact key (.inr rfl)
    · exact key (.inl (dec_ge _ _ hb))
  · exact key (.inl (dec_ge _ _ hb))
theorem num_itoa {n : Int} (h : fit64 n) : numOf (Lib.itoa n) = some n := by
  refine numOf_some ⟨h, ?_⟩
  show (⟨(Lib.itoa n).toArray⟩ : ByteArray) = mkStr _
  unfold mkStr
  rfl
theorem nobr_isBr {s : ByteArray} (h : nobr s = true) : ∀ b ∈ s.data.toList, isBr b = false := by
  intro b hb
  have := List.all_eq_true.1 h b hb
  simp only [Bool.and_eq_true, decide_eq_true_eq] at this
  unfold isBr
  simp [this.1, this.2]
theorem fit_nat {k : Nat} (h : k ≤ 9223372036854775807) : fit64 (k : Int) := by
  unfold fit64
  omega
theorem rdHead_w {t : Rep} (ht : Leaf t) (hf : fit64 t.n ∧ t.s.size ≤ 9223372036854775807 ∧ t.l.length ≤ 9223372036854775807) (r : List UInt8) :
    rdHead (wHead t ++ r) = if t.kind = 5 then .list t.l.length (wHead t).length else .leaf t (wHead t).length := by
  have t1 := ht.lo
  have t2 := ht.hi
  rcases (show t.kind = 0 ∨ t.kind = 1 ∨ t.kind = 2 ∨ t.kind = 3 ∨ t.kind = 4 ∨ t.kind = 5 by omega) with h | h | h | h | h | h
  · have e : wHead t = 43 :: (t.s.data.toList ++ crlf) := by simp [wHead, h]
    rw [e, rdHead_at (by decide) (nobr_isBr (ht.line (.inl h))), if_neg (by omega)]
    unfold rdLine
    rw [if_pos rfl]
    congr 1
    · exact Rep.ext' h.symm (mkStr_list _) (ht.num (by omega)).symm (ht.list (by omega)).symm
    · simp [crlf]
  · have e : wHead t = 45 :: (t.s.data.toList ++ crlf) := by simp [wHead, h]
    rw [e, rdHead_at (by decide) (nobr_isBr (ht.line (.inr h))), if_neg (by omega)]
    unfold rdLine
    rw [if_neg (by decide), if_pos rfl]
    congr 1
    · exact Rep.ext' h.symm (mkStr_list _) (ht.num (by omega)).symm (ht.list (by omega)).symm
    · simp [crlf]
  · have e : wHead t = 58 :: (Lib.itoa t.n ++ crlf) := by simp [wHead, h]
    rw [e, rdHead_at (by decide) (itoa_nobr _), if_neg (by omega)]
    unfold rdLine
    rw [if_neg (by decide), if_neg (by decide), num_itoa hf.1]
    simp only
    rw [if_pos trivial]
    congr 1
    · exact Rep.ext' h.symm (ht.text (.inl h)).symm rfl (ht.list (by omega)).symm
    · simp [crlf]
  · have e : wHead t ++ r = (36 :: (Lib.itoa t.s.size ++ crlf)) ++ (t.s.data.toList ++ (crlf ++ r)) := by simp [wHead, h]
    have el : (wHead t).length = (Lib.itoa t.s.size).length + 3 + t.s.size + 2 := by
      simp [wHead, h, crlf]
      omega
    rw [e, el, rdHead_at (by decide) (itoa_nobr _), if_neg (by omega)]
    unfold rdLine
    rw [if_neg (by decide), if_neg (by decide), num_itoa (fit_nat hf.2.1)]
    simp only
    have hl : t.s.data.toList.length = t.s.size := by rw [Array.length_toList]; rfl
    have e2 : (t.s.data.toList ++ (crlf ++ r)).drop ((t.s.size : Int)).toNat = crlf ++ r := by rw [Int.toNat_natCast]; exact List.drop_left' hl
    have e3 : (t.s.data.toList ++ (crlf ++ r)).take ((t.s.size : Int)).toNat = t.s.data.toList := by rw [Int.toNat_natCast]; exact List.take_left' hl
    rw [if_neg (by decide), if_pos trivial, if_neg (by omega), if_pos ⟨by omega, by simp only [List.length_append, hl]; push_cast; omega, by rw [e2]; rfl⟩, e3, Int.toNat_natCast]
    congr 1
    exact Rep.ext' h.symm (mkStr_list _) (ht.num (by omega)).symm (ht.list (by omega)).symm
  · have e : wHead t = 36 :: (Lib.itoa (-1) ++ crlf) := by
      have e : Lib.itoa (-1) = [45, 49] := (by decide +kernel)
      rw [e]; simp [wHead, h]
    rw [e, rdHead_at (by decide) (itoa_nobr _), if_neg (by omega)]
    unfold rdLine
    rw [if_neg (by decide), if_neg (by decide), num_itoa (by unfold fit64; omega)]
    simp only
    rw [if_neg (by decide), if_pos trivial, if_pos trivial]
    congr 1
    · exact Rep.ext' h.symm (ht.text (.inr (.inl h))).symm (ht.num (by omega)).symm (ht.list (by omega)).symm
    · simp [crlf]
  · have e : wHead t = 42 :: (Lib.itoa t.l.length ++ crlf) := by simp [wHead, h]
    rw [e, rdHead_at (by decide) (itoa_nobr _), if_pos h]
    unfold rdLine
    rw [if_neg (by decide), if_neg (by decide), num_itoa (fit_nat hf.2.2)]
    simp only
    rw [if_neg (by decide), if_neg (by decide), if_pos ⟨trivial, by omega⟩]
    congr 1
    simp [crlf]
theorem rdL_w {f : List UInt8 → Option (Rep × Nat)} {g : Rep → List UInt8} : ∀ (l : List Rep), (∀ x ∈ l, ∀ r, f (g x ++ r) = some (x, (g x).length)) → ∀ r, rdL f l.length (l.flatMap g ++ r) = some (l, (l.flatMap g).length)
  | [], _, r => rfl
  | x :: l, h, r => by
    have e : (x :: l).flatMap g ++ r = g x ++ (l.flatMap g ++ r) := by simp
    rw [e]
    simp only [List.length_cons, rdL]
    rw [h x (by simp)]
    simp only
    rw [List.drop_left' rfl, rdL_w l (fun y hy => h y (List.mem_cons_of_mem _ hy)) r]
    simp
theorem rdT_w : ∀ (d : Nat) (t : Rep), rightT d t = true → fitsT d t → ∀ r, rdT d (wT d t ++ r) = some (t, (wT d t).length)
  | 0, t, ht, hf, r => by
    have h := rdHead_w (right_leaf ht) hf.one r
    simp only [rightT, Bool.and_eq_true, decide_eq_true_eq] at ht
    rw [if_neg ht.2] at h
    unfold wT
    exact rdT_leaf h
  | d + 1, t, ht, hf, r => by
    have hlf := right_leaf ht
    simp only [rightT, Bool.and_eq_true] at ht
    have e : wT (d + 1) t = wHead t ++ (if t.kind = 5 then t.l.flatMap (wT d) else []) := rfl
    rw [e, List.append_assoc]
    have h := rdHead_w hlf hf.one ((if t.kind = 5 then t.l.flatMap (wT d) else []) ++ r)
    by_cases hk : t.kind = 5
    · rw [if_pos hk, if_pos hk] at h
      rw [if_pos hk]
      rw [rdT_list h, List.drop_left' rfl, rdL_w t.l (fun x hx r => rdT_w d x (List.all_eq_true.1 ht.2 x hx) (hf.2 x hx) r)]
      simp only [Option.map_some, List.length_append]
      congr 2
      exact Rep.ext' hk.symm (hlf.text (.inr (.inr hk))).symm (hlf.num (by omega)).symm rfl
    · rw [if_neg hk, if_neg hk] at h
      rw [if_neg hk]
      rw [rdT_leaf h]
      simp
end Go.Proofs.YtipbakiecocioaaGreatDoor

/- Requests: lines, numbers, words; how a reader goes on step by step, and the document's answer over all bytes; in plain Lean. -/

namespace Go.Proofs.YtipbakiecocioaaGreatDoor
open Go.V
attribute [local irreducible] Blk Own hcell IntT SliceT PlainT AggT SizeT StrT FieldT ZeroT EqT ArrT
inductive LineR where
  | more
  | err (e : Int)
  | ok (s : List UInt8) (k : Nat)
/-- the place of the first 10; the length, where there is none -/
def nlAt : List UInt8 → Nat
  | [] => 0
  | b :: l => if b = 10 then 0 else nlAt l + 1
theorem nlAt_le : ∀ l : List UInt8, nlAt l ≤ l.length
  | [] => Nat.le_refl _
  | b :: l => by
    unfold nlAt
    have := nlAt_le l
    split
    · omega
    · simp only [List.length_cons]; omega
theorem nlAt_app : ∀ {l : List UInt8} (m : List UInt8), nlAt l < l.length → nlAt (l ++ m) = nlAt l
  | [], m, h => by simp at h
  | b :: l, m, h => by
    rw [List.cons_append]
    unfold nlAt at h ⊢
    split
    · rfl
    · rename_i hb
      rw [if_neg hb] at h
      simp only [List.length_cons] at h
      rw [nlAt_app m (by omega)]
theorem nlAt_ge : ∀ {l : List UInt8} (m : List UInt8), nlAt l = l.length → l.length ≤ nlAt (l ++ m)
  | [], m, _ => Nat.zero_le _
  | b :: l, m, h => by
    rw [List.cons_append]
    unfold nlAt at h ⊢
    split
    · rename_i hb; rw [if_pos hb] at h; simp at h
    · rename_i hb
      rw [if_neg hb] at h
      simp only [List.length_cons] at h ⊢
      have := nlAt_ge m (l := l) (by omega)
      omega
/-- the line with which bytes begin -/
def lineP (cs : List UInt8) : LineR :=
  if nlAt cs < cs.length ∧ nlAt cs < 1026 then
    if nlAt cs = 0 ∨ cs.getD (nlAt cs - 1) 0 ≠ 13 then .err 10 else .ok (cs.take (nlAt cs - 1)) (nlAt cs + 1)
  else if cs.length < 1026 then .more else .err 12
noncomputable def numP (s : List UInt8) (sign : UInt8) (least most : Int) : Except Int Int :=
  match s with
  | [] => .error 10
  | c :: t => if c = sign then match numOf t with
      | none => .error 10
      | some n => if n < least then .error 10 else if most < n then .error 12 else .ok n
    else .error 10
/-- words between spaces; the first one has begun -/
def cutG : List UInt8 → List UInt8 → List (List UInt8)
  | w, [] => if w = [] then [] else [w]
  | w, c :: l => if c = 32 then (if w = [] then cutG [] l else w :: cutG [] l) else cutG (w ++ [c]) l
structure RS where
  left : Nat
  size : Int
  words : List ByteArray
  held : Nat
def rs0 : RS := ⟨0, -1, [], 0⟩
inductive Stp where
  | stop
  | fault (e : Int)
  | go (s : RS) (k : Nat) (out : List (List ByteArray))
noncomputable def stepP (r : RS) (cs : List UInt8) : Stp :=
  if r.left = 0 then
    match lineP cs with
    | .more => .stop
    | .err e => .fault e
    | .ok s k =>
      if s.head? = some 42 then
        match numP s 42 1 128 with
        | .error e => .fault e
        | .ok n => .go ⟨n.toNat, -1, [], k⟩ k []
      else if 128 < (cutG [] s).length then .fault 12
      else .go rs0 k (if cutG [] s = [] then [] else [(cutG [] s).map mkStr])
  else if r.size < 0 then
    match lineP cs with
    | .more => .stop
    | .err e => .fault e
    | .ok s k =>
      match numP s 36 0 4096 with
      | .error e => .fault e
      | .ok n => .go { r with size := n, held := r.held + k } k []
  else if cs.length < r.size.toNat + 2 then .stop
  else if (cs.drop r.size.toNat).take 2 = [13, 10] then
    if r.left = 1 then .go rs0 (r.size.toNat + 2) [r.words ++ [mkStr (cs.take r.size.toNat)]]
    else .go ⟨r.left - 1, -1, r.words ++ [mkStr (cs.take r.size.toNat)], r.held + (r.size.toNat + 2)⟩ (r.size.toNat + 2) []
  else .fault 10
theorem line_ok {cs s : List UInt8} {k : Nat} (h : lineP cs = .ok s k) : nlAt cs < cs.length ∧ nlAt cs < 1026 ∧ nlAt cs ≠ 0 ∧ cs.getD (nlAt cs - 1) 0 = 13 ∧ s = cs.take (nlAt cs - 1) ∧ k = nlAt cs + 1 := by
  unfold lineP at h
  split at h
  · rename_i h1
    split at h
    · cases h
    · rename_i h2
      have h3 : nlAt cs ≠ 0 := fun e => h2 (.inl e)
      have h4 : cs.getD (nlAt cs - 1) 0 = 13 := Classical.byContradiction fun e => h2 (.inr e)
      cases h
      exact ⟨h1.1, h1.2, h3, h4, rfl, rfl⟩
  · split at h <;> cases h
theorem line_len {cs s : List UInt8} {k : Nat} (h : lineP cs = .ok s k) : k = s.length + 2 ∧ k ≤ cs.length := by
  obtain ⟨h1, h2, h3, h4, rfl, rfl⟩ := line_ok h
  rw [List.length_take]
  omega
theorem line_err {cs : List UInt8} {e : Int} (h : lineP cs = .err e) : e = 10 ∨ e = 12 := by
  unfold lineP at h
  split at h
  · split at h
    · cases h; exact .inl rfl
    · cases h
  · split at h
    · cases h
    · cases h; exact .inr rfl
theorem num_err {s : List UInt8} {c : UInt8} {a b e : Int} (h : numP s c a b = .error e) : e = 10 ∨ e = 12 := by
  unfold numP at h
  split at h
  · cases h; exact .inl rfl
  · split at h
    · split at h
      · cases h; exact .inl rfl
      · split at h
        · cases h; exact .inl rfl
        · split at h
          · cases h; exact .inr rfl
          · cases h
    · cases h; exact .inl rfl
theorem num_ok {s : List UInt8} {c : UInt8} {a b n : Int} (h : numP s c a b = .ok n) : a ≤ n ∧ n ≤ b := by
  unfold numP at h
  split at h
  · cases h
  · split at h
    · split at h
      · cases h
      · split at h
        · cases h
        · split at h
          · cases h
          · cases h; omega
    · cases h
theorem step_go {r r' : RS} {cs : List UInt8} {k : Nat} {out : List (List ByteArray)} (h : stepP r cs = .go r' k out) : 2 ≤ k ∧ k ≤ cs.length := by
  unfold stepP at h
  split at h
  · split at h
    · cases h
    · cases h
    · rename_i s k' hl
      have h1 := line_len hl
      split at h
      · split at h
        · cases h
        · cases h; omega
      · split at h
        · cases h
        · cases h; omega
  split at h
  · split at h
    · cases h
    · cases h
    · rename_i s k' hl
      have h1 := line_len hl
      split at h
      · cases h
      · cases h; omega
  split at h
  · cases h
  split at h
  · split at h <;> (cases h; omega)
  · cases h
theorem step_fault {r : RS} {cs : List UInt8} {e : Int} (h : stepP r cs = .fault e) : e = 10 ∨ e = 12 := by
  unfold stepP at h
  split at h
  · split at h
    · cases h
    · rename_i e' hl; cases h; exact line_err hl
    · split at h
      · split at h
        · rename_i hn; cases h; exact num_err hn
        · cases h
      · split at h
        · cases h; exact .inr rfl
        · cases h
  split at h
  · split at h
    · cases h
    · rename_i e' hl; cases h; exact line_err hl
    · split at h
      · rename_i hn; cases h; exact num_err hn
      · cases h
  split at h
  · cases h
  split at h
  · split at h <;> cases h
  · cases h; exact .inl rfl
structure Res where
  out : List (List ByteArray)
  st : RS
  rest : List UInt8
  err : Int
noncomputable def runN : Nat → RS → List UInt8 → Res
  | 0, r, cs => ⟨[], r, cs, 0⟩
  | n + 1, r, cs => match stepP r cs with
    | .stop => ⟨[], r, cs, 0⟩
    | .fault e => ⟨[], r, cs, e⟩
    | .go r' k out => { runN n r' (cs.drop k) with out := out ++ (runN n r' (cs.drop k)).out }
/-- all that can be done with bytes -/
noncomputable def runP (r : RS) (cs : List UInt8) : Res := runN (cs.length + 1) r cs
theorem runN_fuel : ∀ (n m : Nat) (r : RS) (cs : List UInt8), cs.length < n → cs.length < m → runN n r cs = runN m r cs
  | 0, _, _, _, h, _ => by omega
  | _ + 1, 0, _, _, _, h => by omega
  | n + 1, m + 1, r, cs, h1, h2 => by
    unfold runN
    cases h : stepP r cs with
    | stop => rfl
    | fault e => rfl
    | go r' k out =>
      have hk := step_go h
      simp only
      rw [runN_fuel n m r' (cs.drop k) (by rw [List.length_drop]; omega) (by rw [List.length_drop]; omega)]
theorem run_stop {r : RS} {cs : List UInt8} (h : stepP r cs = .stop) : runP r cs = ⟨[], r, cs, 0⟩ := by
  unfold runP runN; rw [h]
theorem run_fault {r : RS} {cs : List UInt8} {e : Int} (h : stepP r cs = .fault e) : runP r cs = ⟨[], r, cs, e⟩ := by
  unfold runP runN; rw [h]
theorem run_go {r r' : RS} {cs : List UInt8} {k : Nat} {out : List (List ByteArray)} (h : stepP r cs = .go r' k out) : runP r cs = { runP r' (cs.drop k) with out := out ++ (runP r' (cs.drop k)).out } := by
  have hk := step_go h
  have e : runN cs.length r' (cs.drop k) = runP r' (cs.drop k) := runN_fuel _ _ _ _ (by rw [List.length_drop]; omega) (by omega)
  conv => lhs; unfold runP runN
  rw [h]
  simp only
  rw [e]
end Go.Proofs.YtipbakiecocioaaGreatDoor

/- Requests: the document's answer over all bytes is what a reader comes to; in plain Lean. -/

namespace Go.Proofs.YtipbakiecocioaaGreatDoor
open Go.V
attribute [local irreducible] Blk Own hcell IntT SliceT PlainT AggT SizeT StrT FieldT ZeroT EqT ArrT
end Go.Proofs.YtipbakiecocioaaGreatDoor

/- The document's Print and Parse. -/

namespace Go.V
section
variable {P : Program} {n : Nat} {ops : Array Oper} {dr : Nat × List Nat} {l : List Oper} {E : Env} {w : World} {K : Env → World → Prop}
variable {d : Option Nat} {ty : TypeId} {pos : String} {af : Array Edge} {g : Option (Nat × Bool)} {x y : Operand} {k k' : IntKind} {t t' u : TypeId} {i j r : Int}
end
end Go.V
namespace Go.Proofs.YtipbakiecocioaaGreatDoor
open Go.V
attribute [local irreducible] Blk Own hcell IntT SliceT PlainT AggT SizeT StrT FieldT ZeroT EqT ArrT
end Go.Proofs.YtipbakiecocioaaGreatDoor

/- Pieces of strings, as lists. -/

namespace Go.V
end Go.V

/- The document's Parse. -/

namespace Go.Proofs.YtipbakiecocioaaGreatDoor
open Go.V
attribute [local irreducible] Blk Own hcell IntT SliceT PlainT AggT SizeT StrT FieldT ZeroT EqT ArrT
end Go.Proofs.YtipbakiecocioaaGreatDoor

/- Replies in memory where some blocks are not looked at. -/

namespace Go.V
/-- an object of which no part is a string's -/
def plainO : Obj → Bool
  | .cells _ _ (0, 0) => true
  | _ => false
open Classical in
/-- the memory without the blocks of S, and without those that a string may share -/
noncomputable def veil (S : Nat → Prop) (H : Array Obj) : Array Obj := H.mapIdx (fun q o => if S q ∨ plainO o = false then .cells #[] 0 (0, 0) else o)
theorem hcell_veil {S : Nat → Prop} {H : Array Obj} {a : Addr} {v : Value} : hcell (veil S H) a = some v ↔ ¬ S a.block ∧ (∃ o, H[a.block]? = some o ∧ plainO o = true) ∧ hcell H a = some v := by
  unfold hcell veil
  rw [Array.getElem?_mapIdx]
  cases h : H[a.block]? with
  | none => simp
  | some o =>
    simp only [Option.map_some]
    by_cases hs : S a.block ∨ plainO o = false
    · rw [if_pos hs]
      rcases hs with hs | hs
      · simp [hs]
      · simp [hs]
    · rw [if_neg hs]
      have h1 : ¬ S a.block := fun h => hs (.inl h)
      have h2 : plainO o = true := by
        cases e : plainO o with
        | true => rfl
        | false => exact absurd (.inr e) hs
      simp [h1, h2]
theorem Sl.cells {α : Type} {e : Enc α} {H H' : Array Obj} {p : Option Addr} {c : Nat} {xs : List α} (h : ∀ a v, hcell H a = some v → hcell H' a = some v) (hs : Sl H e p c xs) : Sl H' e p c xs :=
  ⟨hs.ok, fun i x hi k v hv => h _ _ (hs.cell i x hi k v hv)⟩
theorem RepAt.cells {H H' : Array Obj} (h : ∀ a v, hcell H a = some v → hcell H' a = some v) : ∀ {d : Nat} {r : RawR} {t : Rep}, RepAt H d r t → RepAt H' d r t
  | 0, _, _, h0 => h0
  | d + 1, r, t, ⟨h1, h2, h3, h4, h5, h6, rs, hs, hl, hg⟩ => ⟨h1, h2, h3, h4, h5, h6, rs, hs.cells h, hl, fun i r' t' hr ht => RepAt.cells h (hg i r' t' hr ht)⟩
theorem RepAt.shown {S : Nat → Prop} {H : Array Obj} {d : Nat} {r : RawR} {t : Rep} (h : RepAt (veil S H) d r t) : RepAt H d r t :=
  h.cells fun _ _ hv => (hcell_veil.1 hv).2.2
theorem RepAt.hide {S S' : Nat → Prop} {H H' : Array Obj} {d : Nat} {r : RawR} {t : Rep} (h : RepAt (veil S H) d r t) (hh : ∀ q, ¬ S q → q < H.size → ¬ S' q ∧ H'[q]? = H[q]?) : RepAt (veil S' H') d r t :=
  h.cells fun a v hv => by
    obtain ⟨h1, hp, h2⟩ := hcell_veil.1 hv
    obtain ⟨h3, h4⟩ := hh a.block h1 (hcell_lt h2)
    exact hcell_veil.2 ⟨h3, by rw [h4]; exact hp, by rw [hcell_block h4]; exact h2⟩
theorem Own.hidden {α : Type} {e : Enc α} {w : World} {B T : Nat} {p : Option Addr} {c : Nat} {xs : List α} {S : Nat → Prop} (ho : Own w B T e p c xs) (hb : ∀ q, blk p = some q → ¬ S q) : Sl (veil S w.heap) e p c xs := by
  have h := ho.sl
  refine ⟨h.ok, fun i x hi k v hv => ?_⟩
  cases hp : p with
  | none =>
    have h1 := h.ok.nul hp
    have h2 := h.ok.le
    have h3 := get_lt hi
    omega
  | some a =>
    have hk : blk p = some a.block := by rw [hp]; rfl
    obtain ⟨cur, hc⟩ := ho.at hk
    rw [← hp]
    refine hcell_veil.2 ⟨?_, ⟨.cells cur T (0, 0), ?_, rfl⟩, h.cell i x hi k v hv⟩
    · rw [adr_block p a _ hp]; exact hb _ hk
    · rw [adr_block p a _ hp]; exact hc
theorem ExtS.own {S : List Nat} {w w1 w2 : World} {row : Option Nat} (h1 : ExtS S w w1) (h2 : w1.grownBy w2 row) (hr : ∀ k, row = some k → w.heap.size ≤ k) : ExtS S w w2 :=
  ⟨h2.os.trans h1.os, h2.tape.trans h1.tape, h2.output.trans h1.output, Nat.le_trans h1.size h2.size, fun k hk hs => (h2.block k (Nat.lt_of_lt_of_le hk h1.size) (fun e => by have := hr k e.symm; omega)).trans (h1.block k hk hs)⟩
theorem ExtS.grown1 {a : Nat} {w w' : World} (h : ExtS [a] w w') : w.grownBy w' (some a) :=
  ⟨h.os, h.tape, h.output, h.size, fun k hk hne => h.block k hk (by
    have : k ≠ a := fun e => hne (by rw [e])
    simp [exempt, this])⟩
end Go.V

/- The constructors of replies; List, of replies without lists. -/

namespace Go.V
def leafR (k : Int) (s : ByteArray) (n : Int) : RawR := ⟨k, s, n, none, 0, 0⟩
end Go.V
namespace Go.Proofs.YtipbakiecocioaaGreatDoor
open Go.V
attribute [local irreducible] Blk Own hcell IntT SliceT PlainT AggT SizeT StrT FieldT ZeroT EqT ArrT
theorem bldKS (k : Int) (s : ByteArray) (w : World) : (Instr.build 31 [(0, Value.int .i64 k), (1, Value.string s)].toArray).run Tryz.prog w = .ok (.agg (eRep.enc (leafR k s 0)).toArray) w := by kernel_rfl
theorem bldKN (k : Int) (n : Int) (w : World) : (Instr.build 31 [(0, Value.int .i64 k), (2, Value.int .i64 n)].toArray).run Tryz.prog w = .ok (.agg (eRep.enc (leafR k ⟨#[]⟩ n)).toArray) w := by kernel_rfl
theorem bldK (k : Int) (w : World) : (Instr.build 31 [(0, Value.int .i64 k)].toArray).run Tryz.prog w = .ok (.agg (eRep.enc (leafR k ⟨#[]⟩ 0)).toArray) w := by kernel_rfl
theorem mk_text {s : ByteArray} {w : World} : Ctr Tryz.prog 42 [.string s] w (fun v w' => v = .agg (eRep.enc (leafR 0 s 0)).toArray ∧ Ext w w') := by
  refine Ctr_of Tryz.func42 Tryz.ntmps42 rfl rfl rfl ?_
  repeat' (first | apply W_seq | apply W_region)
  apply G_on; exact rfl; apply G1_alloc; exact T.zero31; exact rfl; exact rfl; intro a1 w1 ha1 hA1 hx1 hs1
  repeat' (first | (apply G_on; exact rfl; first | (apply G1_move; exact rfl; exact rfl) | (apply G1_build (.agg (eRep.enc (leafR 0 s 0)).toArray); exact rfl; exact bldKS _ _; exact rfl)) | apply G_nil | apply Post_next | apply W_seq | apply W_region)
  apply G_on; exact rfl; apply G1_storeB; exact T.z31; exact rfl; exact rfl; exact hA1; exact rfl; exact rfl; (first | exact Nat.le_of_ble_eq_true rfl | (focus (simp [Value.cells]; done))); (first | exact Enc.one _ _ | (focus (simp [Value.oneCell']; done)) | (focus (simp [Value.cells, Value.oneCell']; done)) | exact Enc.oneAgg _ _); exact rfl; (first | exact .inl rfl | exact .inr (by simp [exempt])); exact rfl; intro w2 hA2 hg2 hs2
  replace hA2 : Blk w2.heap a1 31 (eRep.enc (leafR 0 s 0)) := hA2
  have hx2 : Ext w w2 := hx1.own hg2 (fun k hk => by injection hk; omega)
  repeat' (first | apply G_nil | apply Post_next | apply W_ret)
  refine Post_ret Tryz.results42 ⟨_, _, _, rfl, rfl, run_loadVar_box T.a31 (by assumption) rfl, rfl⟩ ?_
  exact ⟨rfl, (by repeat first | assumption | exact Ext.rfl' | apply Ext.drew | apply Ext.alloc | refine Ext.trans ?_ (by assumption))⟩
theorem mk_wrong {s : ByteArray} {w : World} : Ctr Tryz.prog 43 [.string s] w (fun v w' => v = .agg (eRep.enc (leafR 1 s 0)).toArray ∧ Ext w w') := by
  refine Ctr_of Tryz.func43 Tryz.ntmps43 rfl rfl rfl ?_
  repeat' (first | apply W_seq | apply W_region)
  apply G_on; exact rfl; apply G1_alloc; exact T.zero31; exact rfl; exact rfl; intro a1 w1 ha1 hA1 hx1 hs1
  repeat' (first | (apply G_on; exact rfl; first | (apply G1_move; exact rfl; exact rfl) | (apply G1_build (.agg (eRep.enc (leafR 1 s 0)).toArray); exact rfl; exact bldKS _ _; exact rfl)) | apply G_nil | apply Post_next | apply W_seq | apply W_region)
  apply G_on; exact rfl; apply G1_storeB; exact T.z31; exact rfl; exact rfl; exact hA1; exact rfl; exact rfl; (first | exact Nat.le_of_ble_eq_true rfl | (focus (simp [Value.cells]; done))); (first | exact Enc.one _ _ | (focus (simp [Value.oneCell']; done)) | (focus (simp [Value.cells, Value.oneCell']; done)) | exact Enc.oneAgg _ _); exact rfl; (first | exact .inl rfl | exact .inr (by simp [exempt])); exact rfl; intro w2 hA2 hg2 hs2
  replace hA2 : Blk w2.heap a1 31 (eRep.enc (leafR 1 s 0)) := hA2
  have hx2 : Ext w w2 := hx1.own hg2 (fun k hk => by injection hk; omega)
  repeat' (first | apply G_nil | apply Post_next | apply W_ret)
  refine Post_ret Tryz.results43 ⟨_, _, _, rfl, rfl, run_loadVar_box T.a31 (by assumption) rfl, rfl⟩ ?_
  exact ⟨rfl, (by repeat first | assumption | exact Ext.rfl' | apply Ext.drew | apply Ext.alloc | refine Ext.trans ?_ (by assumption))⟩
theorem mk_int {n : Int} {w : World} : Ctr Tryz.prog 45 [.int .i64 n] w (fun v w' => v = .agg (eRep.enc (leafR 2 ⟨#[]⟩ n)).toArray ∧ Ext w w') := by
  refine Ctr_of Tryz.func45 Tryz.ntmps45 rfl rfl rfl ?_
  repeat' (first | apply W_seq | apply W_region)
  apply G_on; exact rfl; apply G1_alloc; exact T.zero31; exact rfl; exact rfl; intro a1 w1 ha1 hA1 hx1 hs1
  repeat' (first | (apply G_on; exact rfl; first | (apply G1_move; exact rfl; exact rfl) | (apply G1_build (.agg (eRep.enc (leafR 2 ⟨#[]⟩ n)).toArray); exact rfl; exact bldKN _ _; exact rfl)) | apply G_nil | apply Post_next | apply W_seq | apply W_region)
  apply G_on; exact rfl; apply G1_storeB; exact T.z31; exact rfl; exact rfl; exact hA1; exact rfl; exact rfl; (first | exact Nat.le_of_ble_eq_true rfl | (focus (simp [Value.cells]; done))); (first | exact Enc.one _ _ | (focus (simp [Value.oneCell']; done)) | (focus (simp [Value.cells, Value.oneCell']; done)) | exact Enc.oneAgg _ _); exact rfl; (first | exact .inl rfl | exact .inr (by simp [exempt])); exact rfl; intro w2 hA2 hg2 hs2
  replace hA2 : Blk w2.heap a1 31 (eRep.enc (leafR 2 ⟨#[]⟩ n)) := hA2
  have hx2 : Ext w w2 := hx1.own hg2 (fun k hk => by injection hk; omega)
  repeat' (first | apply G_nil | apply Post_next | apply W_ret)
  refine Post_ret Tryz.results45 ⟨_, _, _, rfl, rfl, run_loadVar_box T.a31 (by assumption) rfl, rfl⟩ ?_
  exact ⟨rfl, (by repeat first | assumption | exact Ext.rfl' | apply Ext.drew | apply Ext.alloc | refine Ext.trans ?_ (by assumption))⟩
theorem mk_str {s : ByteArray} {w : World} : Ctr Tryz.prog 47 [.string s] w (fun v w' => v = .agg (eRep.enc (leafR 3 s 0)).toArray ∧ Ext w w') := by
  refine Ctr_of Tryz.func47 Tryz.ntmps47 rfl rfl rfl ?_
  repeat' (first | apply W_seq | apply W_region)
  apply G_on; exact rfl; apply G1_alloc; exact T.zero31; exact rfl; exact rfl; intro a1 w1 ha1 hA1 hx1 hs1
  repeat' (first | (apply G_on; exact rfl; first | (apply G1_move; exact rfl; exact rfl) | (apply G1_build (.agg (eRep.enc (leafR 3 s 0)).toArray); exact rfl; exact bldKS _ _; exact rfl)) | apply G_nil | apply Post_next | apply W_seq | apply W_region)
  apply G_on; exact rfl; apply G1_storeB; exact T.z31; exact rfl; exact rfl; exact hA1; exact rfl; exact rfl; (first | exact Nat.le_of_ble_eq_true rfl | (focus (simp [Value.cells]; done))); (first | exact Enc.one _ _ | (focus (simp [Value.oneCell']; done)) | (focus (simp [Value.cells, Value.oneCell']; done)) | exact Enc.oneAgg _ _); exact rfl; (first | exact .inl rfl | exact .inr (by simp [exempt])); exact rfl; intro w2 hA2 hg2 hs2
  replace hA2 : Blk w2.heap a1 31 (eRep.enc (leafR 3 s 0)) := hA2
  have hx2 : Ext w w2 := hx1.own hg2 (fun k hk => by injection hk; omega)
  repeat' (first | apply G_nil | apply Post_next | apply W_ret)
  refine Post_ret Tryz.results47 ⟨_, _, _, rfl, rfl, run_loadVar_box T.a31 (by assumption) rfl, rfl⟩ ?_
  exact ⟨rfl, (by repeat first | assumption | exact Ext.rfl' | apply Ext.drew | apply Ext.alloc | refine Ext.trans ?_ (by assumption))⟩
theorem mk_none {w : World} : Ctr Tryz.prog 46 [] w (fun v w' => v = .agg (eRep.enc (leafR 4 ⟨#[]⟩ 0)).toArray ∧ Ext w w') := by
  refine Ctr_of Tryz.func46 Tryz.ntmps46 rfl rfl rfl ?_
  repeat' (first | apply W_seq | apply W_region)
  apply G_on; exact rfl; apply G1_alloc; exact T.zero31; exact rfl; exact rfl; intro a1 w1 ha1 hA1 hx1 hs1
  repeat' (first | (apply G_on; exact rfl; (apply G1_build (.agg (eRep.enc (leafR 4 ⟨#[]⟩ 0)).toArray); exact rfl; exact bldK _; exact rfl)) | apply G_nil | apply Post_next | apply W_seq | apply W_region)
  apply G_on; exact rfl; apply G1_storeB; exact T.z31; exact rfl; exact rfl; exact hA1; exact rfl; exact rfl; (first | exact Nat.le_of_ble_eq_true rfl | (focus (simp [Value.cells]; done))); (first | exact Enc.one _ _ | (focus (simp [Value.oneCell']; done)) | (focus (simp [Value.cells, Value.oneCell']; done)) | exact Enc.oneAgg _ _); exact rfl; (first | exact .inl rfl | exact .inr (by simp [exempt])); exact rfl; intro w2 hA2 hg2 hs2
  replace hA2 : Blk w2.heap a1 31 (eRep.enc (leafR 4 ⟨#[]⟩ 0)) := hA2
  have hx2 : Ext w w2 := hx1.own hg2 (fun k hk => by injection hk; omega)
  repeat' (first | apply G_nil | apply Post_next | apply W_ret)
  refine Post_ret Tryz.results46 ⟨_, _, _, rfl, rfl, run_loadVar_box T.a31 (by assumption) rfl, rfl⟩ ?_
  exact ⟨rfl, (by repeat first | assumption | exact Ext.rfl' | apply Ext.drew | apply Ext.alloc | refine Ext.trans ?_ (by assumption))⟩



end Go.Proofs.YtipbakiecocioaaGreatDoor

/- The document's Size, Right, Same of replies: the walks. -/

namespace Go.V
end Go.V
namespace Go.Proofs.YtipbakiecocioaaGreatDoor
open Go.V
attribute [local irreducible] Blk Own hcell IntT SliceT PlainT AggT SizeT StrT FieldT ZeroT EqT ArrT

end Go.Proofs.YtipbakiecocioaaGreatDoor

/- resp.right and resp.Right: the walks. -/

namespace Go.Proofs.YtipbakiecocioaaGreatDoor
open Go.V
attribute [local irreducible] Blk Own hcell IntT SliceT PlainT AggT SizeT StrT FieldT ZeroT EqT ArrT
/-- no text is long, so deep -/
def smallT : Nat → Rep → Prop
  | 0, _ => True
  | d + 1, t => t.s.size ≤ 2000 ∧ ∀ x ∈ t.l, smallT d x
theorem smallT.mono : ∀ {d e : Nat} {t : Rep}, smallT d t → e ≤ d → smallT e t
  | _, 0, _, _, _ => trivial
  | 0, e + 1, _, _, h => by omega
  | d + 1, e + 1, t, ⟨h1, h2⟩, h => ⟨h1, fun x hx => smallT.mono (h2 x hx) (by omega)⟩
end Go.Proofs.YtipbakiecocioaaGreatDoor

/- resp.Write: the walks of its closures and of itself. -/

namespace Go.V
section
variable {P : Program} {n : Nat} {ops : Array Oper} {dr : Nat × List Nat} {l : List Oper} {E : Env} {w : World} {K : Env → World → Prop}
end
theorem ExtS.blk {S : List Nat} {w w' : World} {b : Nat} {t : TypeId} {cs : List Value} (h : ExtS S w w') (hb : Blk w.heap b t cs) (hs : exempt S b = false) : Blk w'.heap b t cs := by
  have := h.block b hb.lt hs
  unfold Blk at *
  rw [this]; exact hb
end Go.V
namespace Go.Proofs.YtipbakiecocioaaGreatDoor
open Go.V
attribute [local irreducible] Blk Own hcell IntT SliceT PlainT AggT SizeT StrT FieldT ZeroT EqT ArrT



section
variable {w0 w w' : World} {B a aL aP : Nat} {tL tP : TypeId} {p p' : Option Addr} {c c' : Nat} {bs : List UInt8}


end
end Go.Proofs.YtipbakiecocioaaGreatDoor
