/- SetJoins: Union, Inter and Diff of sets are the document's. -/
import Derived.Test.YtkibkldikjkokaaRows
import Derived.Test.YtkibkldikjkokaaVRead
import Derived.WalkKit
import Derived.Test.YtkibkldikjkokaaVLSetJoins
namespace Go.Proofs.Ytkibkldikjkokaa
open Go.V Go.RowKit Go.ChangeShapes Go.WideShapes Go.ChangeAt
section
variable {H : Type} {enc : TypeId × Value → H} {w : World}
theorem read_texts (n : Nat) (cs : List Value) (z : DataW H × List MemPlace) (h : DataW.trod enc Try.prog w 0 (fun _ => true) true n 37 cs = some z) : ∃ r, cs = eSl.enc r ∧ (∃ v : List ByteArray, r.2.1 = v.length ∧ Sl w.heap eStr r.1 r.2.2 v) := by
  obtain ⟨p, c, xs, e, hs, _⟩ := read_slice eStr _ Try.underlying37 (by kernel_rfl) (read_str Try.underlying9) h
  exact ⟨(p, xs.length, c), e, xs, rfl, hs⟩
end
theorem sets_of {w : World} {p : Option Addr} {c : Nat} {rs : List (Option Addr × Nat × Nat)} (hs : Sl w.heap eSl p c rs) (hg : ∀ r ∈ rs, ∃ v : List ByteArray, r.2.1 = v.length ∧ Sl w.heap eStr r.1 r.2.2 v) : ∃ vs, SetsAt w.heap p c rs vs := by
  obtain ⟨vs, hl, hq⟩ := list_of (Q := fun i (v : List ByteArray) => ∀ r, rs[i]? = some r → r.2.1 = v.length ∧ Sl w.heap eStr r.1 r.2.2 v) rs.length (fun i hi => by
    obtain ⟨r, hr⟩ := get_some hi
    obtain ⟨v, hv⟩ := hg r (List.mem_of_getElem? hr)
    exact ⟨v, fun r' hr' => by rw [hr] at hr'; injection hr' with hr'; rw [← hr']; exact hv⟩)
  exact ⟨vs, hs, hl.symm, fun i r v hr hv => hq i v hv r hr⟩
end Go.Proofs.Ytkibkldikjkokaa
namespace Go.Proofs.Ytkibkldikjkokaa.setJoins
open Go.V Go.RowKit Go.ChangeShapes Go.WideShapes Go.ChangeAt
theorem own : ownKnob Try.prog.godebug = none := by kernel_rfl
theorem laidOut : laidOutB Try.prog = true := by kernel_rfl

set_option maxRecDepth 100000 in
theorem lifted (os : Os) (started : os.Started) (H : Type) (enc : TypeId × Value → H) :
    ReturnsInHanded {} Try.checked os 10 .any (Rows.setJoinsSpec.pre6 enc Try.prog Try.f10 Rows.setJoinsRow.domain false) (Rows.setJoinsSpec.post enc Try.prog Try.f10 false true false false) := by
  refine returnsInHanded_of_change (C := Try.checked) own started (by kernel_rfl) Try.func10
    (ChangeSpec.witness6 (enc := enc) (C := Try.checked) false ⟨#[], #[(.slice none 0 0)], []⟩ 8 (by kernel_rfl) (by kernel_rfl) (by kernel_rfl) (by kernel_rfl)) ?_
  intro W base args ds gs before hval0 hW hcnd _
  have hval : ∀ (j : Nat) t v, Try.f10.params[j]? = some t → args[j]? = some v → Value.okWide Try.prog W .any base t v := hval0
  have hW' := hW
  obtain ⟨p, q, hA0, hV, rfl, hfz, hnd⟩ := hW
  have hA : DataW.TrodAll enc Try.prog W 0 (fun _ => true) true Try.f10.params.toList args.toList ds p := hA0
  rw [Try.params10] at hA hval
  obtain ⟨v0, vs0, d0, ds0, p0, q0, hargs, rfl, rfl, h0, r0⟩ := trodAll_cons hA
  obtain ⟨rfl, rfl, rfl⟩ := trodAll_nil r0
  obtain rfl : args = #[v0] := by cases args; simp_all
  obtain ⟨rfl, rfl⟩ := trodVars_none hV
  have k0 := hval 0 62 v0 rfl rfl
  clear hA0 hval0
  obtain ⟨p, c, rs, rfl, hs, hg⟩ := arg_slice eSl _ Try.underlying62 (by kernel_rfl) read_texts k0 h0
  obtain ⟨vs, hS⟩ := sets_of hs hg
  refine (setJoins_spec hS).calls.mono fun e W' he => ?_
  obtain ⟨_, rfl, rfl, hx⟩ := he
  exact ⟨_, rfl, law_post laidOut (by kernel_rfl) Try.underlying4 rfl rfl hW' rfl hx⟩

theorem over : Rows.setJoinsRow.holds Try.pinned (OpenSpec.ofChange Rows.setJoinsSpec) :=
  OpenClaim.holds_of_wide 10 Try.f10 rfl rfl rfl rfl rfl rfl rfl ⟨rfl, rfl, rfl, rfl, rfl⟩ rfl rfl rfl rfl rfl (by kernel_rfl) Try.func10 (by kernel_rfl)
    (of_decide_eq_true (by kernel_rfl)) (by unfold Func.isWrapper; first | (rw [if_pos (by decide +kernel)]; kernel_rfl) | (rw [if_neg (by decide +kernel)]; exact ⟨rfl, rfl⟩))
    (fun os started H enc _ => lifted os started H enc)

theorem proved : Rows.SetJoinsSaid := over

#print axioms proved
end Go.Proofs.Ytkibkldikjkokaa.setJoins
