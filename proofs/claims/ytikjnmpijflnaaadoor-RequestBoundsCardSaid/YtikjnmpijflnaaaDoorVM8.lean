/- RequestBounds: as many words, and as long ones, and as long lines, as may be are told, and more refused. -/
import Derived.Test.YtikjnmpijflnaaaDoorVM7
namespace Go.Proofs.YtikjnmpijflnaaaDoor
open Go.V Go.ChangeShapes Go.WideShapes Go.ChangeAt Go.RowKit
namespace requestBounds
set_option maxRecDepth 100000 in
theorem contract (H : Type) (enc : TypeId × Value → H) (W : World) (base : Nat) (args : Array Value) (ds gs : List (DataW H)) (before : List MemPlace)
    (hval0 : ∀ (j : Nat) t v, Tryd.f6.params[j]? = some t → args[j]? = some v → Value.okWide Tryd.prog W .any base t v)
    (hW : DataW.Whole enc Tryd.prog Tryd.f6.params.toList Rows.requestBoundsSpec.vars false W args.toList ds gs before) (hL : laidMetH Tryd.prog Rows.requestBoundsRow.laid W) (hS : W.ShapedOpen Tryd.prog) :
    Calls Tryd.prog 6 args W fun e W' => ∃ v, e = .returned v ∧ Rows.requestBoundsSpec.post enc Tryd.prog Tryd.f6 false true false false W args v W' := by
  have hT : Pow W := pow_of hL
  have hval := hval0
  have hW' := hW
  obtain ⟨p, q, hA0, hV, rfl, hfz, hnd⟩ := hW
  have hA : DataW.TrodAll enc Tryd.prog W 0 (fun _ => true) true Tryd.f6.params.toList args.toList ds p := hA0
  rw [Tryd.params6] at hA hval
  obtain ⟨v0, vs0, d0, ds0, p0, q0, hargs, rfl, rfl, h0, r0⟩ := trodAll_cons hA
  obtain ⟨rfl, rfl, rfl⟩ := trodAll_nil r0
  obtain rfl : args = #[v0] := by cases args; simp_all
  obtain ⟨rfl, rfl⟩ := trodVars_none hV
  have k0 := hval 0 3 v0 rfl rfl
  clear hA0 hval0
  have hE : Errs W := errs_of hL
  obtain ⟨more, rfl, hm⟩ := arg_int Tryd.underlying3 k0 h0
  refine (requestBounds_spec hm hT hE).calls.mono fun e W' he => ?_
  obtain ⟨_, rfl, rfl, hx⟩ := he
  exact ⟨_, rfl, law_post laidOut (by kernel_rfl) Tryd.underlying4 rfl rfl hW' rfl hx⟩
theorem laid_met (os : Os) : laidMet Tryd.prog Rows.requestBoundsRow.laid ((laidWorld os).forCall (fun _ _ => 0) ⟨#[], #[(.int .i64 0)], []⟩).memory :=
  laidMet_of_run' 8 (by kernel_rfl) (by kernel_rfl)
theorem reads (os : Os) {H : Type} (enc : TypeId × Value → H) : ∃ places, DataW.whole enc Tryd.prog ((laidWorld os).forCall (fun _ _ => 0) ⟨#[], #[(.int .i64 0)], []⟩).memory Tryd.f6.params.toList Rows.requestBoundsSpec.vars false #[(.int .i64 0)].toList 8 = some ([.lit (.int .i64 0)], [], places) :=
  ⟨[], by kernel_rfl⟩
set_option maxRecDepth 100000 in
theorem lifted (os : Os) (started : os.Started) (H : Type) (enc : TypeId × Value → H) (F : Stop.Interp) :
    ReturnsInHanded {} Tryd.checked os 6 .any ((OpenSpec.ofChange Rows.requestBoundsSpec).preRow enc Tryd.prog Tryd.f6 Rows.requestBoundsRow.domain false Rows.requestBoundsRow.laid) (((OpenSpec.ofChange Rows.requestBoundsSpec).at F).post enc Tryd.prog Tryd.f6 false true false false) := by
  obtain ⟨places, hx⟩ := reads os enc
  refine returnsInHanded_of_row (C := Tryd.checked) (s := OpenSpec.ofChange Rows.requestBoundsSpec) own started (by kernel_rfl) Tryd.func6
    (witness_row_at (enc := enc) (C := Tryd.checked) false (laidWorld os) #[(.int .i64 0)] rfl (by kernel_rfl) (by kernel_rfl) (by kernel_rfl)
      (OpenSpec.preRow_of_cond 8 hx (by kernel_rfl) (fun k hk => by cases hk) (by kernel_rfl) (laid_met os))) ?_
  intro W base args ds gs before hval hW _ _ _ hL hS _
  exact contract H enc W base args ds gs before hval hW hL hS
theorem said : Rows.RequestBoundsSaid :=
  OpenClaim.holds_of_cond 6 Tryd.f6 rfl rfl rfl rfl rfl rfl rfl ⟨rfl, rfl, rfl, rfl, rfl⟩ rfl rfl rfl rfl rfl (by kernel_rfl) Tryd.func6 (by kernel_rfl)
    (of_decide_eq_true (by kernel_rfl)) (by unfold Func.isWrapper; first | (rw [if_pos (by decide +kernel)]; kernel_rfl) | (rw [if_neg (by decide +kernel)]; exact ⟨rfl, rfl⟩))
    (fun os started H enc _ F => by rw [OpenClaim.pre_eq_preRow]; exact lifted os started H enc F)
theorem plain (f : FuncId) (fn : Func) (hf : Tryd.pinned.checked.prog.funcNamed "pentimento/pentimentolaw05.RequestBounds" = some f) (hfn : Tryd.pinned.checked.prog.funcs[f]? = some fn) :
    true = Tryd.pinned.checked.prog.looks [] ∧ ∀ (j : Nat) t, fn.params[j]? = some t → Tryd.pinned.checked.prog.wantsStandIn t = false := by
  obtain rfl : f = 6 := Option.some.inj ((show Tryd.prog.funcNamed "pentimento/pentimentolaw05.RequestBounds" = some 6 by kernel_rfl).symm.trans hf) |>.symm
  obtain rfl : fn = Tryd.f6 := (Option.some.inj (Tryd.func6.symm.trans hfn)).symm
  refine ⟨by kernel_rfl, fun j t ht => ?_⟩
  rw [Tryd.params6] at ht
  have hm : t ∈ #[3] := Array.mem_of_getElem? ht
  have hm2 : t = 3 := by simpa using hm
  subst hm2
  exact (show Tryd.prog.wantsStandIn 3 = false by kernel_rfl)
theorem proved : Rows.RequestBoundsCardSaid :=
  Claim7.holds_tied_plain_at .later [] _ _ _ _ said (fun _ h => by cases h) (by kernel_rfl) (fun _ h => by cases h) requestBounds_row_tie rfl ⟨rfl, rfl⟩ (by kernel_rfl) rfl plain (by kernel_rfl)

end requestBounds
#print axioms requestBounds.proved
end Go.Proofs.YtikjnmpijflnaaaDoor
