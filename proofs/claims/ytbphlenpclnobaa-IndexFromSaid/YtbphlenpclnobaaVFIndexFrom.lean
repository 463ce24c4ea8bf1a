/- IndexFrom: Keys returns consecutive parts of the ordered keys. -/
import Derived.Test.YtbphlenpclnobaaRows
import Derived.Test.YtbphlenpclnobaaVRead
import Derived.WalkKit
import Derived.Test.YtbphlenpclnobaaVLIndexFrom
namespace Go.Proofs.Ytbphlenpclnobaa.indexFrom
open Go.V Go.RowKit Go.ChangeShapes Go.WideShapes Go.ChangeAt
theorem own : ownKnob Try.prog.godebug = none := by kernel_rfl
theorem laidOut : laidOutB Try.prog = true := by kernel_rfl

set_option maxRecDepth 100000 in
theorem lifted (os : Os) (started : os.Started) (H : Type) (enc : TypeId × Value → H) :
    ReturnsInHanded {} Try.checked os 4 .any (Rows.indexFromSpec.pre6 enc Try.prog Try.f4 Rows.indexFromRow.domain false) (Rows.indexFromSpec.post enc Try.prog Try.f4 false true false false) := by
  refine returnsInHanded_of_change (C := Try.checked) own started (by kernel_rfl) Try.func4
    (ChangeSpec.witness6 (enc := enc) (C := Try.checked) false ⟨#[], #[(.slice none 0 0), (.string ⟨#[]⟩), (.int .i64 0)], []⟩ 8 (by kernel_rfl) (by kernel_rfl) (by kernel_rfl) (by kernel_rfl)) ?_
  intro W base args ds gs before hval0 hW hcnd _
  have hval : ∀ (j : Nat) t v, Try.f4.params[j]? = some t → args[j]? = some v → Value.okWide Try.prog W .any base t v := hval0
  have hW' := hW
  obtain ⟨p, q, hA0, hV, rfl, hfz, hnd⟩ := hW
  have hA : DataW.TrodAll enc Try.prog W 0 (fun _ => true) true Try.f4.params.toList args.toList ds p := hA0
  rw [Try.params4] at hA hval
  obtain ⟨v0, vs0, d0, ds0, p0, q0, hargs, rfl, rfl, h0, r0⟩ := trodAll_cons hA
  obtain ⟨v1, vs1, d1, ds1, p1, q1, rfl, rfl, rfl, h1, r1⟩ := trodAll_cons r0
  obtain ⟨v2, vs2, d2, ds2, p2, q2, rfl, rfl, rfl, h2, r2⟩ := trodAll_cons r1
  obtain ⟨rfl, rfl, rfl⟩ := trodAll_nil r2
  obtain rfl : args = #[v0, v1, v2] := by cases args; simp_all
  obtain ⟨rfl, rfl⟩ := trodVars_none hV
  have k0 := hval 0 26 v0 rfl rfl
  have k1 := hval 1 9 v1 rfl rfl
  have k2 := hval 2 3 v2 rfl rfl
  clear hA0 hval0
  obtain ⟨p, c, xs, rfl, hs, hg⟩ := arg_slice eStr _ Try.underlying26 (by kernel_rfl) (read_str Try.underlying9) k0 h0
  obtain ⟨s, rfl, hsz⟩ := arg_str Try.underlying9 k1 h1
  obtain ⟨a, rfl, ba⟩ := arg_int Try.underlying3 k2 h2
  refine (indexFrom_spec hs ba).calls.mono fun e W' he => ?_
  obtain ⟨_, rfl, rfl, hx⟩ := he
  exact ⟨_, rfl, law_post laidOut (by kernel_rfl) Try.underlying4 rfl rfl hW' rfl hx⟩

theorem over : Rows.indexFromRow.holds Try.pinned (OpenSpec.ofChange Rows.indexFromSpec) :=
  OpenClaim.holds_of_wide 4 Try.f4 rfl rfl rfl rfl rfl rfl rfl ⟨rfl, rfl, rfl, rfl, rfl⟩ rfl rfl rfl rfl rfl (by kernel_rfl) Try.func4 (by kernel_rfl)
    (of_decide_eq_true (by kernel_rfl)) (by unfold Func.isWrapper; first | (rw [if_pos (by decide +kernel)]; kernel_rfl) | (rw [if_neg (by decide +kernel)]; exact ⟨rfl, rfl⟩))
    (fun os started H enc _ => lifted os started H enc)

theorem proved : Rows.IndexFromSaid := over

#print axioms proved
end Go.Proofs.Ytbphlenpclnobaa.indexFrom
