/- StrLaid: written bytes are read back, and others are unchanged. -/
import Derived.Test.YtfaadijingcmhaaDoorVLaidNum
import Derived.Test.YtfaadijingcmhaaDoorVLStrLaid
namespace Go.Proofs.YtfaadijingcmhaaDoor.strLaid
open Go.V Go.ChangeShapes Go.WideShapes Go.ChangeAt Go.RowKit
theorem contract (H : Type) (enc : TypeId × Value → H) (W : World) (base : Nat) (args : Array Value) (ds gs : List (DataW H)) (before : List MemPlace)
    (hval0 : ∀ (j : Nat) t v, Tryd.f7.params[j]? = some t → args[j]? = some v → Value.okWide Tryd.prog W .any base t v)
    (hW : DataW.Whole enc Tryd.prog Tryd.f7.params.toList Rows.strLaidSpec.vars false W args.toList ds gs before) (hL : laidMetH Tryd.prog Rows.strLaidRow.laid W) :
    Calls Tryd.prog 7 args W fun e W' => ∃ v, e = .returned v ∧ Rows.strLaidSpec.post enc Tryd.prog Tryd.f7 false true false false W args v W' := by
  have hT : Pow W := pow_of hL
  have hval : ∀ (j : Nat) t v, Tryd.f7.params[j]? = some t → args[j]? = some v → Value.okWide Tryd.prog W .any base t v := hval0
  have hW' := hW
  obtain ⟨p, q, hA0, hV, rfl, hfz, hnd⟩ := hW
  have hA : DataW.TrodAll enc Tryd.prog W 0 (fun _ => true) true Tryd.f7.params.toList args.toList ds p := hA0
  rw [Tryd.params7] at hA hval
  obtain ⟨v0, vs0, d0, ds0, p0, q0, hargs, rfl, rfl, h0, r0⟩ := trodAll_cons hA
  obtain ⟨v1, vs1, d1, ds1, p1, q1, rfl, rfl, rfl, h1, r1⟩ := trodAll_cons r0
  obtain ⟨v2, vs2, d2, ds2, p2, q2, rfl, rfl, rfl, h2, r2⟩ := trodAll_cons r1
  obtain ⟨rfl, rfl, rfl⟩ := trodAll_nil r2
  obtain rfl : args = #[v0, v1, v2] := by cases args; simp_all
  obtain ⟨rfl, rfl⟩ := trodVars_none hV
  have k0 := hval 0 9 v0 rfl rfl
  have k1 := hval 1 3 v1 rfl rfl
  have k2 := hval 2 9 v2 rfl rfl
  clear hA0 hval0
  obtain ⟨s, rfl, bs⟩ := arg_str Tryd.underlying9 k0 h0
  obtain ⟨a, rfl, ba⟩ := arg_int Tryd.underlying3 k1 h1
  obtain ⟨t, rfl, bt⟩ := arg_str Tryd.underlying9 k2 h2
  refine (strLaid_spec ba hT bs bt).calls.mono fun e W' he => ?_
  obtain ⟨_, rfl, rfl, hx⟩ := he
  exact ⟨_, rfl, law_post laidOut (by kernel_rfl) Tryd.underlying4 rfl rfl hW' rfl hx⟩
theorem laid_met (os : Os) : laidMet Tryd.prog Rows.strLaidRow.laid ((laidWorld os).forCall (fun _ _ => 0) ⟨#[], #[(.string ⟨#[]⟩), (.int .i64 0), (.string ⟨#[]⟩)], []⟩).memory :=
  laidMet_of_run' 8 (by kernel_rfl) (by kernel_rfl)
theorem reads (os : Os) {H : Type} (enc : TypeId × Value → H) : ∃ places, DataW.whole enc Tryd.prog ((laidWorld os).forCall (fun _ _ => 0) ⟨#[], #[(.string ⟨#[]⟩), (.int .i64 0), (.string ⟨#[]⟩)], []⟩).memory Tryd.f7.params.toList Rows.strLaidSpec.vars false #[(.string ⟨#[]⟩), (.int .i64 0), (.string ⟨#[]⟩)].toList 8 = some ([.lit (.string []), .lit (.int .i64 0), .lit (.string [])], [], places) :=
  ⟨[], by kernel_rfl⟩
set_option maxRecDepth 100000 in
theorem lifted (os : Os) (started : os.Started) (H : Type) (enc : TypeId × Value → H) (F : Stop.Interp) :
    ReturnsInHanded {} Tryd.checked os 7 .any ((OpenSpec.ofChange Rows.strLaidSpec).preRow enc Tryd.prog Tryd.f7 Rows.strLaidRow.domain false Rows.strLaidRow.laid) (((OpenSpec.ofChange Rows.strLaidSpec).at F).post enc Tryd.prog Tryd.f7 false true false false) := by
  obtain ⟨places, hx⟩ := reads os enc
  refine returnsInHanded_of_row (C := Tryd.checked) (s := OpenSpec.ofChange Rows.strLaidSpec) own started (by kernel_rfl) Tryd.func7
    (witness_row_at (enc := enc) (C := Tryd.checked) false (laidWorld os) #[(.string ⟨#[]⟩), (.int .i64 0), (.string ⟨#[]⟩)] rfl (by kernel_rfl) (by kernel_rfl) (by kernel_rfl)
      (OpenSpec.preRow_of_cond 8 hx (by kernel_rfl) (fun k hk => by cases hk) (by kernel_rfl) (laid_met os))) ?_
  intro W base args ds gs before hval hW _ _ _ hL _ _
  exact contract H enc W base args ds gs before hval hW hL
theorem said : Rows.StrLaidSaid :=
  OpenClaim.holds_of_cond 7 Tryd.f7 rfl rfl rfl rfl rfl rfl rfl ⟨rfl, rfl, rfl, rfl, rfl⟩ rfl rfl rfl rfl rfl (by kernel_rfl) Tryd.func7 (by kernel_rfl)
    (of_decide_eq_true (by kernel_rfl)) (by unfold Func.isWrapper; first | (rw [if_pos (by decide +kernel)]; kernel_rfl) | (rw [if_neg (by decide +kernel)]; exact ⟨rfl, rfl⟩))
    (fun os started H enc _ F => by rw [OpenClaim.pre_eq_preRow]; exact lifted os started H enc F)
theorem plain (f : FuncId) (fn : Func) (hf : Tryd.pinned.checked.prog.funcNamed "pentimento/pentimentolaw09.StrLaid" = some f) (hfn : Tryd.pinned.checked.prog.funcs[f]? = some fn) :
    true = Tryd.pinned.checked.prog.looks [] ∧ ∀ (j : Nat) t, fn.params[j]? = some t → Tryd.pinned.checked.prog.wantsStandIn t = false := by
  obtain rfl : f = 7 := Option.some.inj ((show Tryd.prog.funcNamed "pentimento/pentimentolaw09.StrLaid" = some 7 by kernel_rfl).symm.trans hf) |>.symm
  obtain rfl : fn = Tryd.f7 := (Option.some.inj (Tryd.func7.symm.trans hfn)).symm
  refine ⟨by kernel_rfl, fun j t ht => ?_⟩
  rw [Tryd.params7] at ht
  have hm : t ∈ #[9, 3, 9] := Array.mem_of_getElem? ht
  have hm2 : t = 9 ∨ t = 3 ∨ t = 9 := by simpa using hm
  rcases hm2 with rfl | rfl | rfl
  · exact (show Tryd.prog.wantsStandIn 9 = false by kernel_rfl)
  · exact (show Tryd.prog.wantsStandIn 3 = false by kernel_rfl)
  · exact (show Tryd.prog.wantsStandIn 9 = false by kernel_rfl)
theorem proved : Rows.StrLaidCardSaid :=
  Claim7.holds_tied_plain_at .later [] _ _ _ _ said (fun _ h => by cases h) (by kernel_rfl) (fun _ h => by cases h) strLaid_row_tie rfl ⟨rfl, rfl⟩ (by kernel_rfl) rfl plain (by kernel_rfl)

#print axioms proved
end Go.Proofs.YtfaadijingcmhaaDoor.strLaid
