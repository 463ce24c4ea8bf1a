/- ListFinds: Remove and Find agree with the reference. -/
import Derived.Test.YtkibkldikjkokaaRows
import Derived.Test.YtkibkldikjkokaaVReadArr
import Derived.WalkKit
import Derived.Test.YtkibkldikjkokaaVLListFinds
namespace Go.Proofs.Ytkibkldikjkokaa.listFinds
open Go.V Go.RowKit Go.ChangeShapes Go.WideShapes Go.ChangeAt
theorem own : ownKnob Try.prog.godebug = none := by kernel_rfl
theorem laidOut : laidOutB Try.prog = true := by kernel_rfl

set_option maxRecDepth 100000 in
theorem lifted (os : Os) (started : os.Started) (H : Type) (enc : TypeId × Value → H) :
    ReturnsInHanded {} Try.checked os 7 .any (Rows.listFindsSpec.pre6 enc Try.prog Try.f7 Rows.listFindsRow.domain false) (Rows.listFindsSpec.post enc Try.prog Try.f7 false true false false) := by
  refine returnsInHanded_of_change (C := Try.checked) own started (by kernel_rfl) Try.func7
    (ChangeSpec.witness6 (enc := enc) (C := Try.checked) false ⟨#[], #[(.slice none 0 0), (.string ⟨#[]⟩), (.agg #[.int .i64 0, .int .i64 0, .int .i64 0])], []⟩ 8 (by kernel_rfl) (by kernel_rfl) (by kernel_rfl) (by kernel_rfl)) ?_
  intro W base args ds gs before hval0 hW hcnd _
  have hval : ∀ (j : Nat) t v, Try.f7.params[j]? = some t → args[j]? = some v → Value.okWide Try.prog W .any base t v := hval0
  have hW' := hW
  obtain ⟨p, q, hA0, hV, rfl, hfz, hnd⟩ := hW
  have hA : DataW.TrodAll enc Try.prog W 0 (fun _ => true) true Try.f7.params.toList args.toList ds p := hA0
  rw [Try.params7] at hA hval
  obtain ⟨v0, vs0, d0, ds0, p0, q0, hargs, rfl, rfl, h0, r0⟩ := trodAll_cons hA
  obtain ⟨v1, vs1, d1, ds1, p1, q1, rfl, rfl, rfl, h1, r1⟩ := trodAll_cons r0
  obtain ⟨v2, vs2, d2, ds2, p2, q2, rfl, rfl, rfl, h2, r2⟩ := trodAll_cons r1
  obtain ⟨rfl, rfl, rfl⟩ := trodAll_nil r2
  obtain rfl : args = #[v0, v1, v2] := by cases args; simp_all
  obtain ⟨rfl, rfl⟩ := trodVars_none hV
  have k0 := hval 0 37 v0 rfl rfl
  have k1 := hval 1 9 v1 rfl rfl
  have k2 := hval 2 45 v2 rfl rfl
  clear hA0 hval0
  obtain ⟨p, c, xs, rfl, hs, hg⟩ := arg_slice eStr _ Try.underlying37 (by kernel_rfl) (read_str Try.underlying9) k0 h0
  obtain ⟨s, rfl, hsz⟩ := arg_str Try.underlying9 k1 h1
  obtain ⟨n0, n1, n2, rfl, f0, f1, f2⟩ := arg_arr3 Try.underlying45 Try.underlying3 (by kernel_rfl) (by kernel_rfl) k2 h2
  refine (listFinds_spec hs f0 f1).calls.mono fun e W' he => ?_
  obtain ⟨_, rfl, rfl, hx⟩ := he
  exact ⟨_, rfl, law_post laidOut (by kernel_rfl) Try.underlying4 rfl rfl hW' rfl hx⟩

theorem over : Rows.listFindsRow.holds Try.pinned (OpenSpec.ofChange Rows.listFindsSpec) :=
  OpenClaim.holds_of_wide 7 Try.f7 rfl rfl rfl rfl rfl rfl rfl ⟨rfl, rfl, rfl, rfl, rfl⟩ rfl rfl rfl rfl rfl (by kernel_rfl) Try.func7 (by kernel_rfl)
    (of_decide_eq_true (by kernel_rfl)) (by unfold Func.isWrapper; first | (rw [if_pos (by decide +kernel)]; kernel_rfl) | (rw [if_neg (by decide +kernel)]; exact ⟨rfl, rfl⟩))
    (fun os started H enc _ => lifted os started H enc)

theorem proved : Rows.ListFindsSaid := over

#print axioms proved
end Go.Proofs.Ytkibkldikjkokaa.listFinds
