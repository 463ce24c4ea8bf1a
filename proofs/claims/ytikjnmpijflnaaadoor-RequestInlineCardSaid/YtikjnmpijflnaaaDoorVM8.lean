/- RequestInline: words without spaces, and with no sign ahead, come to the same in a line as in a list. -/
import Derived.Test.YtikjnmpijflnaaaDoorVM7
namespace Go.Proofs.YtikjnmpijflnaaaDoor
open Go.V Go.ChangeShapes Go.WideShapes Go.ChangeAt Go.RowKit
namespace requestInline
set_option maxRecDepth 100000 in
theorem contract (H : Type) (enc : TypeId × Value → H) (W : World) (base : Nat) (args : Array Value) (ds gs : List (DataW H)) (before : List MemPlace)
    (hval0 : ∀ (j : Nat) t v, Tryd.f8.params[j]? = some t → args[j]? = some v → Value.okWide Tryd.prog W .any base t v)
    (hW : DataW.Whole enc Tryd.prog Tryd.f8.params.toList Rows.requestInlineSpec.vars false W args.toList ds gs before) (hL : laidMetH Tryd.prog Rows.requestInlineRow.laid W) (hS : W.ShapedOpen Tryd.prog) :
    Calls Tryd.prog 8 args W fun e W' => ∃ v, e = .returned v ∧ Rows.requestInlineSpec.post enc Tryd.prog Tryd.f8 false true false false W args v W' := by
  have hT : Pow W := pow_of hL
  have hval := hval0
  have hW' := hW
  obtain ⟨p, q, hA0, hV, rfl, hfz, hnd⟩ := hW
  have hA : DataW.TrodAll enc Tryd.prog W 0 (fun _ => true) true Tryd.f8.params.toList args.toList ds p := hA0
  rw [Tryd.params8] at hA hval
  obtain ⟨v0, vs0, d0, ds0, p0, q0, hargs, rfl, rfl, h0, r0⟩ := trodAll_cons hA
  obtain ⟨v1, vs1, d1, ds1, p1, q1, rfl, rfl, rfl, h1, r1⟩ := trodAll_cons r0
  obtain ⟨rfl, rfl, rfl⟩ := trodAll_nil r1
  obtain rfl : args = #[v0, v1] := by cases args; simp_all
  obtain ⟨rfl, rfl⟩ := trodVars_none hV
  have k0 := hval 0 31 v0 rfl rfl
  have k1 := hval 1 28 v1 rfl rfl
  clear hA0 hval0
  have hE : Errs W := errs_of hL
  obtain ⟨q, d, xs, rfl, hs, _⟩ := arg_slice eStr _ Tryd.underlying31 (by kernel_rfl) (read_str Tryd.underlying9) k0 h0
  obtain ⟨q2, d2, ys, rfl, hs1, _⟩ := arg_slice eByte _ Tryd.underlying28 (by kernel_rfl) (read_byte Tryd.underlying5) k1 h1
  refine (requestInline_spec hs hs1 hT hE).calls.mono fun e W' he => ?_
  obtain ⟨_, rfl, rfl, hx⟩ := he
  exact ⟨_, rfl, law_post laidOut (by kernel_rfl) Tryd.underlying4 rfl rfl hW' rfl hx⟩
theorem laid_met (os : Os) : laidMet Tryd.prog Rows.requestInlineRow.laid ((laidWorld os).forCall (fun _ _ => 0) ⟨#[], #[(.slice none 0 0), (.slice none 0 0)], []⟩).memory :=
  laidMet_of_run' 8 (by kernel_rfl) (by kernel_rfl)
theorem reads (os : Os) {H : Type} (enc : TypeId × Value → H) : ∃ places, DataW.whole enc Tryd.prog ((laidWorld os).forCall (fun _ _ => 0) ⟨#[], #[(.slice none 0 0), (.slice none 0 0)], []⟩).memory Tryd.f8.params.toList Rows.requestInlineSpec.vars false #[(.slice none 0 0), (.slice none 0 0)].toList 8 = some ([.nil, .nil], [], places) :=
  ⟨[], by kernel_rfl⟩
set_option maxRecDepth 100000 in
theorem lifted (os : Os) (started : os.Started) (H : Type) (enc : TypeId × Value → H) (F : Stop.Interp) :
    ReturnsInHanded {} Tryd.checked os 8 .any ((OpenSpec.ofChange Rows.requestInlineSpec).preRow enc Tryd.prog Tryd.f8 Rows.requestInlineRow.domain false Rows.requestInlineRow.laid) (((OpenSpec.ofChange Rows.requestInlineSpec).at F).post enc Tryd.prog Tryd.f8 false true false false) := by
  obtain ⟨places, hx⟩ := reads os enc
  refine returnsInHanded_of_row (C := Tryd.checked) (s := OpenSpec.ofChange Rows.requestInlineSpec) own started (by kernel_rfl) Tryd.func8
    (witness_row_at (enc := enc) (C := Tryd.checked) false (laidWorld os) #[(.slice none 0 0), (.slice none 0 0)] rfl (by kernel_rfl) (by kernel_rfl) (by kernel_rfl)
      (OpenSpec.preRow_of_cond 8 hx (by kernel_rfl) (fun k hk => by cases hk) (by kernel_rfl) (laid_met os))) ?_
  intro W base args ds gs before hval hW _ _ _ hL hS _
  exact contract H enc W base args ds gs before hval hW hL hS
theorem said : Rows.RequestInlineSaid :=
  OpenClaim.holds_of_cond 8 Tryd.f8 rfl rfl rfl rfl rfl rfl rfl ⟨rfl, rfl, rfl, rfl, rfl⟩ rfl rfl rfl rfl rfl (by kernel_rfl) Tryd.func8 (by kernel_rfl)
    (of_decide_eq_true (by kernel_rfl)) (by unfold Func.isWrapper; first | (rw [if_pos (by decide +kernel)]; kernel_rfl) | (rw [if_neg (by decide +kernel)]; exact ⟨rfl, rfl⟩))
    (fun os started H enc _ F => by rw [OpenClaim.pre_eq_preRow]; exact lifted os started H enc F)
theorem plain (f : FuncId) (fn : Func) (hf : Tryd.pinned.checked.prog.funcNamed "pentimento/pentimentolaw05.RequestInline" = some f) (hfn : Tryd.pinned.checked.prog.funcs[f]? = some fn) :
    true = Tryd.pinned.checked.prog.looks [] ∧ ∀ (j : Nat) t, fn.params[j]? = some t → Tryd.pinned.checked.prog.wantsStandIn t = false := by
  obtain rfl : f = 8 := Option.some.inj ((show Tryd.prog.funcNamed "pentimento/pentimentolaw05.RequestInline" = some 8 by kernel_rfl).symm.trans hf) |>.symm
  obtain rfl : fn = Tryd.f8 := (Option.some.inj (Tryd.func8.symm.trans hfn)).symm
  refine ⟨by kernel_rfl, fun j t ht => ?_⟩
  rw [Tryd.params8] at ht
  have hm : t ∈ #[31, 28] := Array.mem_of_getElem? ht
  have hm2 : t = 31 ∨ t = 28 := by simpa using hm
  rcases hm2 with rfl | rfl
  · exact (show Tryd.prog.wantsStandIn 31 = false by kernel_rfl)
  · exact (show Tryd.prog.wantsStandIn 28 = false by kernel_rfl)
theorem proved : Rows.RequestInlineCardSaid :=
  Claim7.holds_tied_plain_at .later [] _ _ _ _ said (fun _ h => by cases h) (by kernel_rfl) (fun _ h => by cases h) requestInline_row_tie rfl ⟨rfl, rfl⟩ (by kernel_rfl) rfl plain (by kernel_rfl)

end requestInline
#print axioms requestInline.proved
end Go.Proofs.YtikjnmpijflnaaaDoor
