/- RequestBack: commands, printed one behind the other, are told as they are. -/
import Derived.Test.YtikjnmpijflnaaaDoorVM7
namespace Go.Proofs.YtikjnmpijflnaaaDoor
open Go.V Go.ChangeShapes Go.WideShapes Go.ChangeAt Go.RowKit
theorem read_words {H : Type} {enc : TypeId × Value → H} {W : World} (n : Nat) (cs : List Value) (z : DataW H × List MemPlace) (h : DataW.trod enc Tryd.prog W 0 (fun _ => true) true n 31 cs = some z) : ∃ x, cs = eSlc.enc x ∧ ∃ l, x.2.1 = l.length ∧ Sl W.heap eStr x.1 x.2.2 l := by
  obtain ⟨p, c, xs, rfl, hs, _⟩ := read_slice eStr _ Tryd.underlying31 (by kernel_rfl) (read_str Tryd.underlying9) h
  exact ⟨(p, xs.length, c), rfl, xs, rfl, hs⟩
theorem cmds_of {H : Array Obj} {us : List Hdr} (h : ∀ x ∈ us, ∃ l, x.2.1 = l.length ∧ Sl H eStr x.1 x.2.2 l) : ∃ ls, CmdsAt H us ls := by
  obtain ⟨ls, hl, hg⟩ := list_of (Q := fun i l => ∀ x, us[i]? = some x → x.2.1 = l.length ∧ Sl H eStr x.1 x.2.2 l) us.length (fun i hi => by
    obtain ⟨x, hx⟩ := get_some hi
    obtain ⟨l, h1⟩ := h x (List.mem_of_getElem? hx)
    exact ⟨l, fun y hy => by rw [hx] at hy; injection hy with hy; rw [← hy]; exact h1⟩)
  exact ⟨ls, hl.symm, fun i x l hx hl' => hg i l hl' x hx⟩
namespace requestBack
set_option maxRecDepth 100000 in
theorem contract (H : Type) (enc : TypeId × Value → H) (W : World) (base : Nat) (args : Array Value) (ds gs : List (DataW H)) (before : List MemPlace)
    (hval0 : ∀ (j : Nat) t v, Tryd.f7.params[j]? = some t → args[j]? = some v → Value.okWide Tryd.prog W .any base t v)
    (hW : DataW.Whole enc Tryd.prog Tryd.f7.params.toList Rows.requestBackSpec.vars false W args.toList ds gs before) (hL : laidMetH Tryd.prog Rows.requestBackRow.laid W) (hS : W.ShapedOpen Tryd.prog) :
    Calls Tryd.prog 7 args W fun e W' => ∃ v, e = .returned v ∧ Rows.requestBackSpec.post enc Tryd.prog Tryd.f7 false true false false W args v W' := by
  have hT : Pow W := pow_of hL
  have hval := hval0
  have hW' := hW
  obtain ⟨p, q, hA0, hV, rfl, hfz, hnd⟩ := hW
  have hA : DataW.TrodAll enc Tryd.prog W 0 (fun _ => true) true Tryd.f7.params.toList args.toList ds p := hA0
  rw [Tryd.params7] at hA hval
  obtain ⟨v0, vs0, d0, ds0, p0, q0, hargs, rfl, rfl, h0, r0⟩ := trodAll_cons hA
  obtain ⟨rfl, rfl, rfl⟩ := trodAll_nil r0
  obtain rfl : args = #[v0] := by cases args; simp_all
  obtain ⟨rfl, rfl⟩ := trodVars_none hV
  have k0 := hval 0 40 v0 rfl rfl
  clear hA0 hval0
  have hE : Errs W := errs_of hL
  obtain ⟨q, d, us, rfl, hs, hg⟩ := arg_slice eSlc _ Tryd.underlying40 (by kernel_rfl) read_words k0 h0
  obtain ⟨ls, hc⟩ := cmds_of hg
  refine (requestBack_spec hs hc hT hE).calls.mono fun e W' he => ?_
  obtain ⟨_, rfl, rfl, hx⟩ := he
  exact ⟨_, rfl, law_post laidOut (by kernel_rfl) Tryd.underlying4 rfl rfl hW' rfl hx⟩
theorem laid_met (os : Os) : laidMet Tryd.prog Rows.requestBackRow.laid ((laidWorld os).forCall (fun _ _ => 0) ⟨#[], #[(.slice none 0 0)], []⟩).memory :=
  laidMet_of_run' 8 (by kernel_rfl) (by kernel_rfl)
theorem reads (os : Os) {H : Type} (enc : TypeId × Value → H) : ∃ places, DataW.whole enc Tryd.prog ((laidWorld os).forCall (fun _ _ => 0) ⟨#[], #[(.slice none 0 0)], []⟩).memory Tryd.f7.params.toList Rows.requestBackSpec.vars false #[(.slice none 0 0)].toList 8 = some ([.nil], [], places) :=
  ⟨[], by kernel_rfl⟩
set_option maxRecDepth 100000 in
theorem lifted (os : Os) (started : os.Started) (H : Type) (enc : TypeId × Value → H) (F : Stop.Interp) :
    ReturnsInHanded {} Tryd.checked os 7 .any ((OpenSpec.ofChange Rows.requestBackSpec).preRow enc Tryd.prog Tryd.f7 Rows.requestBackRow.domain false Rows.requestBackRow.laid) (((OpenSpec.ofChange Rows.requestBackSpec).at F).post enc Tryd.prog Tryd.f7 false true false false) := by
  obtain ⟨places, hx⟩ := reads os enc
  refine returnsInHanded_of_row (C := Tryd.checked) (s := OpenSpec.ofChange Rows.requestBackSpec) own started (by kernel_rfl) Tryd.func7
    (witness_row_at (enc := enc) (C := Tryd.checked) false (laidWorld os) #[(.slice none 0 0)] rfl (by kernel_rfl) (by kernel_rfl) (by kernel_rfl)
      (OpenSpec.preRow_of_cond 8 hx (by kernel_rfl) (fun k hk => by cases hk) (by kernel_rfl) (laid_met os))) ?_
  intro W base args ds gs before hval hW _ _ _ hL hS _
  exact contract H enc W base args ds gs before hval hW hL hS
theorem said : Rows.RequestBackSaid :=
  OpenClaim.holds_of_cond 7 Tryd.f7 rfl rfl rfl rfl rfl rfl rfl ⟨rfl, rfl, rfl, rfl, rfl⟩ rfl rfl rfl rfl rfl (by kernel_rfl) Tryd.func7 (by kernel_rfl)
    (of_decide_eq_true (by kernel_rfl)) (by unfold Func.isWrapper; first | (rw [if_pos (by decide +kernel)]; kernel_rfl) | (rw [if_neg (by decide +kernel)]; exact ⟨rfl, rfl⟩))
    (fun os started H enc _ F => by rw [OpenClaim.pre_eq_preRow]; exact lifted os started H enc F)
theorem plain (f : FuncId) (fn : Func) (hf : Tryd.pinned.checked.prog.funcNamed "pentimento/pentimentolaw05.RequestBack" = some f) (hfn : Tryd.pinned.checked.prog.funcs[f]? = some fn) :
    true = Tryd.pinned.checked.prog.looks [] ∧ ∀ (j : Nat) t, fn.params[j]? = some t → Tryd.pinned.checked.prog.wantsStandIn t = false := by
  obtain rfl : f = 7 := Option.some.inj ((show Tryd.prog.funcNamed "pentimento/pentimentolaw05.RequestBack" = some 7 by kernel_rfl).symm.trans hf) |>.symm
  obtain rfl : fn = Tryd.f7 := (Option.some.inj (Tryd.func7.symm.trans hfn)).symm
  refine ⟨by kernel_rfl, fun j t ht => ?_⟩
  rw [Tryd.params7] at ht
  have hm : t ∈ #[40] := Array.mem_of_getElem? ht
  have hm2 : t = 40 := by simpa using hm
  subst hm2
  exact (show Tryd.prog.wantsStandIn 40 = false by kernel_rfl)
theorem proved : Rows.RequestBackCardSaid :=
  Claim7.holds_tied_plain_at .later [] _ _ _ _ said (fun _ h => by cases h) (by kernel_rfl) (fun _ h => by cases h) requestBack_row_tie rfl ⟨rfl, rfl⟩ (by kernel_rfl) rfl plain (by kernel_rfl)

end requestBack
#print axioms requestBack.proved
end Go.Proofs.YtikjnmpijflnaaaDoor
