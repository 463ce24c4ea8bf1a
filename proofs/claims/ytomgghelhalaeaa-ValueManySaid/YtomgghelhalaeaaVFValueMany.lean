/- ValueMany: values packed one behind the other are unpacked one behind the other. -/
import Derived.Test.YtomgghelhalaeaaVFValueApart
import Derived.Test.YtomgghelhalaeaaVLValueMany
namespace Go.Proofs.Ytomgghelhalaeaa
open Go.V Go.RowKit Go.ChangeShapes Go.WideShapes Go.ChangeAt
theorem vals_of {w : World} {p : Option Addr} {c : Nat} {rs : List RawV} (hs : Sl w.heap eRaw p c rs) (hg : ∀ r ∈ rs, ∃ v, Rv w.heap r v ∧ Fits v) : ∃ vs, ValsAt w.heap p c rs vs ∧ ∀ v ∈ vs, Fits v := by
  obtain ⟨vs, hl, hq⟩ := list_of (Q := fun i v => ∀ r, rs[i]? = some r → Rv w.heap r v ∧ Fits v) rs.length (fun i hi => by
    obtain ⟨r, hr⟩ := get_some hi
    obtain ⟨v, hv⟩ := hg r (List.mem_of_getElem? hr)
    exact ⟨v, fun r' hr' => by rw [hr] at hr'; injection hr' with hr'; rw [← hr']; exact hv⟩)
  refine ⟨vs, ⟨hs, hl.symm, fun i r v hr hv => (hq i v hv r hr).1⟩, fun v hv => ?_⟩
  obtain ⟨i, hi⟩ := List.getElem?_of_mem hv
  obtain ⟨r, hr⟩ := get_some (xs := rs) (k := i) (by have := get_lt hi; omega)
  exact (hq i v hi r hr).2
end Go.Proofs.Ytomgghelhalaeaa
namespace Go.Proofs.Ytomgghelhalaeaa.valueMany
open Go.V Go.RowKit Go.ChangeShapes Go.WideShapes Go.ChangeAt
theorem own : ownKnob Try.prog.godebug = none := by kernel_rfl
theorem laidOut : laidOutB Try.prog = true := by kernel_rfl

set_option maxRecDepth 100000 in
theorem lifted (os : Os) (started : os.Started) (H : Type) (enc : TypeId × Value → H) :
    ReturnsInHanded {} Try.checked os 8 .any (Rows.valueManySpec.pre6 enc Try.prog Try.f8 Rows.valueManyRow.domain false) (Rows.valueManySpec.post enc Try.prog Try.f8 false true false false) := by
  refine returnsInHanded_of_change (C := Try.checked) own started (by kernel_rfl) Try.func8
    (ChangeSpec.witness6 (enc := enc) (C := Try.checked) false ⟨#[], #[(.slice none 0 0)], []⟩ 8 (by kernel_rfl) (by kernel_rfl) (by kernel_rfl) (by kernel_rfl)) ?_
  intro W base args ds gs before hval0 hW hcnd _
  have hval : ∀ (j : Nat) t v, Try.f8.params[j]? = some t → args[j]? = some v → Value.okWide Try.prog W .any base t v := hval0
  have hW' := hW
  obtain ⟨p, q, hA0, hV, rfl, hfz, hnd⟩ := hW
  have hA : DataW.TrodAll enc Try.prog W 0 (fun _ => true) true Try.f8.params.toList args.toList ds p := hA0
  rw [Try.params8] at hA hval
  obtain ⟨v0, vs0, d0, ds0, p0, q0, hargs, rfl, rfl, h0, r0⟩ := trodAll_cons hA
  obtain ⟨rfl, rfl, rfl⟩ := trodAll_nil r0
  obtain rfl : args = #[v0] := by cases args; simp_all
  obtain ⟨rfl, rfl⟩ := trodVars_none hV
  have k0 := hval 0 56 v0 rfl rfl
  clear hA0 hval0
  obtain ⟨p, c, rs, rfl, hs, hg⟩ := arg_slice eRaw _ Try.underlying56 (by kernel_rfl) read_raw k0 h0
  obtain ⟨vs, hch, hf⟩ := vals_of hs hg
  refine (valueMany_spec hch hf).calls.mono fun e W' he => ?_
  obtain ⟨_, rfl, rfl, hx⟩ := he
  exact ⟨_, rfl, law_post laidOut (by kernel_rfl) Try.underlying4 rfl rfl hW' rfl hx⟩

theorem over : Rows.valueManyRow.holds Try.pinned (OpenSpec.ofChange Rows.valueManySpec) :=
  OpenClaim.holds_of_wide 8 Try.f8 rfl rfl rfl rfl rfl rfl rfl ⟨rfl, rfl, rfl, rfl, rfl⟩ rfl rfl rfl rfl rfl (by kernel_rfl) Try.func8 (by kernel_rfl)
    (of_decide_eq_true (by kernel_rfl)) (by unfold Func.isWrapper; first | (rw [if_pos (by decide +kernel)]; kernel_rfl) | (rw [if_neg (by decide +kernel)]; exact ⟨rfl, rfl⟩))
    (fun os started H enc _ => lifted os started H enc)

theorem proved : Rows.ValueManySaid := over

#print axioms proved
end Go.Proofs.Ytomgghelhalaeaa.valueMany
