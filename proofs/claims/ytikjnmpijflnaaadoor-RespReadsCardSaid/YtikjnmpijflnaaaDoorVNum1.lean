/- Layer 1: numbers and their decimal forms, by the shelf's contracts. -/
import Derived.Test.YtikjnmpijflnaaaDoorVTypes
import Derived.Test.YtikjnmpijflnaaaDoorVPlain
import Derived.Test.YtikjnmpijflnaaaDoorVShelf
import Derived.Lib.AtoiErrMem
namespace Go.V
open Go.RowKit
section
variable {P : Program} {n : Nat} {ops : Array Oper} {dr : Nat × List Nat} {l : List Oper} {E : Env} {w : World} {K : Env → World → Prop}
variable {d : Option Nat} {ty : TypeId} {pos : String} {af : Array Edge} {g : Option (Nat × Bool)} {x : Operand} {t t' tp : TypeId} {ms : Array (String × TypeId)} {v : Value}
theorem G1_errNil (hu : P.underlying t = some (.interface ms)) (hx : E.look x = some .nilIface) (hd : dstOk n d = true) (h : G P n ops dr l (E.put d (.bool false)) w K) : G1 P n ops dr ⟨d, .binOp .neq t x (.const .nilIface) t', ty, pos, af, g⟩ l E w K :=
  G1_quiet _ hd (fun a ha w' _ => by
    have e0 : a.eval (.const .nilIface) = .nilIface := rfl
    have key : ∀ k, (Op.equalIn (k + 1) t .nilIface .nilIface).run P w' = .ok true w' := fun k => by rw [Op.equalIn]; simp [run_underlying hu]
    have e1 : (Op.equal t .nilIface .nilIface).run P w' = .ok true w' := key 9999
    simp [execOp, ha.eval hx, e0, eqGuard, binOp, e1]) h
theorem G1_errNot (hu : P.underlying t = some (.interface ms)) (hx : E.look x = some (.iface tp v)) (hd : dstOk n d = true) (h : G P n ops dr l (E.put d (.bool true)) w K) : G1 P n ops dr ⟨d, .binOp .neq t x (.const .nilIface) t', ty, pos, af, g⟩ l E w K :=
  G1_quiet _ hd (fun a ha w' _ => by
    have e0 : a.eval (.const .nilIface) = .nilIface := rfl
    have key : ∀ k, (Op.equalIn (k + 1) t (.iface tp v) .nilIface).run P w' = .ok false w' := fun k => by rw [Op.equalIn]; simp [run_underlying hu]
    have e1 : (Op.equal t (.iface tp v) .nilIface).run P w' = .ok false w' := key 9999
    simp [execOp, ha.eval hx, e0, eqGuard, binOp, e1]) h
end
theorem Ext.grow {w : World} (k : Nat) (os : Array Obj) : Ext w (Sort.grow (w.drewN k) os) :=
  ⟨rfl, rfl, rfl, by simp [Sort.grow, World.drewN], fun i hi => by simp only [Sort.grow, World.drewN]; rw [Array.getElem?_append_left hi]⟩
theorem TabIs.ext {P : Program} {w w' : World} {name : String} {k : IntKind} {zs : List Int} (h : Lib.TabIs P w name k zs) (hx : Ext w w') : Lib.TabIs P w' name k zs := by
  unfold Lib.TabIs World.var? at *
  cases hg : P.globalNamed name with
  | none => simp [hg] at h
  | some g =>
    simp only [hg, Option.bind_some] at *
    cases hb : w.heap[g]? with
    | none => rw [hb] at h; cases h
    | some o => rw [hx.blk hb]; rw [hb] at h; exact h
theorem var_ext {P : Program} {w w' : World} {name : String} {cs : Array Value} (h : w.var? P name = some cs) (hx : Ext w w') : w'.var? P name = some cs := by
  unfold World.var? at *
  cases hg : P.globalNamed name with
  | none => simp [hg] at h
  | some g =>
    simp only [hg, Option.bind_some] at *
    cases hb : w.heap[g]? with
    | none => rw [hb] at h; cases h
    | some o => rw [hx.blk hb]; rw [hb] at h; exact h
end Go.V
namespace Go.Proofs.YtikjnmpijflnaaaDoor
open Go.V
attribute [local irreducible] Blk Own hcell IntT SliceT PlainT AggT SizeT StrT FieldT ZeroT EqT ArrT
abbrev Pow (w : World) : Prop := Lib.TabIs Tryd.prog w "internal/strconv.uint64pow10" .u64 Lib.pow10Tab
def itoaB (n : Int) : ByteArray := ⟨(Lib.itoa n).toArray⟩
theorem pi_ok {s : ByteArray} {v : Int} {w : World} (hs : s.size ≤ 1000000) (h : Lib.parseIntB 64 s.data.toList = .ok v) : Ctr Tryd.prog 76 [.string s, .int .i64 10, .int .i64 64] w (fun r w' => r = .tuple #[.int .i64 v, .nilIface] ∧ Ext w w') := by
  unfold Ctr
  refine ⟨⟨Tryd.f76, Tryd.func76, by decide, rfl⟩, ?_⟩
  refine Calls.mono (Any.strconv_ParseInt_10_at64_ok Tryd.layPI s (by omega) v h w) fun e w' ⟨he, hw⟩ => ⟨_, he, rfl, ?_⟩
  rcases hw with rfl | ⟨t, rfl⟩
  · exact Ext.rfl'
  · exact Lib.bytesWorld_below _ _ _
theorem print_spec {n : Int} {w : World} (h0 : -9223372036854775808 ≤ n) (h1 : n ≤ 9223372036854775807) (hT : Pow w) : Ctr Tryd.prog 40 [.int .i64 n] w (fun r w' => r = .string (itoaB n) ∧ Ext w w') := by
  have hF : Ctr Tryd.prog 64 [.int .i64 n, .int .i64 10] w (fun r w' => r = .string (itoaB n) ∧ Ext w w') := by
    unfold Ctr
    refine ⟨⟨Tryd.f64, Tryd.func64, by decide, rfl⟩, ?_⟩
    refine Calls.mono (Any.strconv_FormatInt_10 Tryd.layFI n h0 h1 w hT) fun e w' ⟨he, k, os, hw⟩ => ⟨_, he, rfl, ?_⟩
    rw [hw]; exact Ext.grow k os
  refine Ctr_of Tryd.func40 Tryd.ntmps40 rfl rfl rfl ?_
  repeat' (first | (apply G_on; exact rfl; first | ((first | apply G1_assign | apply G1_move); exact rfl; exact rfl) | (apply G1_call (f := 64); exact rfl; exact rfl; exact rfl; exact hF; rintro _ w2 ⟨rfl, hx2⟩; refine ⟨(by first | exact .inl rfl | exact .inr (by assumption)), ?_⟩)) | apply G_nil | apply Post_next | apply W_seq | apply W_region | apply W_ret)
  refine Post_ret Tryd.results40 ⟨_, _, rfl, rfl, rfl⟩ ?_
  exact ⟨rfl, (by repeat first | assumption | exact Ext.rfl' | apply Ext.drew | apply Ext.alloc | refine Ext.trans ?_ (by assumption))⟩
theorem parse_ok {s : ByteArray} {v : Int} {w : World} (hs : s.size ≤ 20) (hpi : Lib.parseIntB 64 s.data.toList = .ok v) (h0 : -9223372036854775808 ≤ v) (h1 : v ≤ 9223372036854775807) (hi : itoaB v = s) (hT : Pow w) : Ctr Tryd.prog 60 [.string s] w (fun r w' => r = .tuple #[.int .i64 v, .bool true] ∧ Ext w w') := by
  refine Ctr_of Tryd.func60 Tryd.ntmps60 rfl rfl rfl ?_
  repeat' (first | (apply G_on; exact rfl; first | ((first | apply G1_assign | apply G1_move); exact rfl; exact rfl) | (apply G1_call (f := 76); exact rfl; exact rfl; exact rfl; exact pi_ok (by omega) hpi; rintro _ w2 ⟨rfl, hx2⟩; refine ⟨(by first | exact .inl rfl | exact .inr (by assumption)), ?_⟩) | (apply G1_errNil; exact Tryd.underlying117; exact rfl; exact rfl) | (apply G1_slen; exact T.str9; exact rfl; exact rfl) | ((first | apply G1_gtr | apply G1_extract); exact rfl; exact rfl; exact rfl)) | apply G_nil | apply Post_next | apply W_seq | apply W_region | (apply W_cond_false; exact rfl) | (apply W_cond_dec; exact rfl; all_goals (intro h; try (exfalso; omega))) | apply W_skip)
  apply G_on; exact rfl; apply G1_call; exact rfl; exact rfl; exact rfl; exact print_spec h0 h1 (TabIs.ext hT hx2); rintro _ w3 ⟨rfl, hx3⟩; refine ⟨(by first | exact .inl rfl | exact .inr (by assumption)), ?_⟩
  repeat' (first | (apply G_on; exact rfl; first | ((first | apply G1_assign | apply G1_move); exact rfl; exact rfl) | (apply G1_sneq; exact rfl; exact rfl; exact rfl)) | apply G_nil | apply Post_next | apply W_seq | apply W_region | (apply W_cond_dec; exact rfl; all_goals (intro h; try (exfalso; omega))) | apply W_skip | apply W_ret | apply Post_then_ret)
  all_goals try contradiction
  refine Post_ret Tryd.results60 ⟨_, _, rfl, rfl, _, _, rfl, rfl, rfl⟩ ?_
  exact ⟨rfl, (by repeat first | assumption | exact Ext.rfl' | apply Ext.drew | apply Ext.alloc | refine Ext.trans ?_ (by assumption))⟩
end Go.Proofs.YtikjnmpijflnaaaDoor
