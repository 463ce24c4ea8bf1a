/- IndexActs: all operations agree with the reference. -/
import Derived.Test.YtbphlenpclnobaaRows
import Derived.Test.YtbphlenpclnobaaVRead
import Derived.WalkKit
import Derived.Test.YtbphlenpclnobaaVLIndexActs
namespace Go.Proofs.Ytbphlenpclnobaa.indexActs
open Go.V Go.RowKit Go.ChangeShapes Go.WideShapes Go.ChangeAt
section
variable {H : Type} {enc : TypeId × Value → H} {w : World}
theorem read_act (n : Nat) (cs : List Value) (z : DataW H × List MemPlace) (h : DataW.trod enc Try.prog w 0 (fun _ => true) true n 44 cs = some z) : ∃ x, cs = eAct.enc x ∧ True := by
  have hl := read_len Try.underlying44 h (sz := 4) (by kernel_rfl)
  obtain ⟨m0, y0, h0⟩ := read_field Try.underlying44 h 0 0 1 3 rfl (by kernel_rfl)
  obtain ⟨m1, y1, h1⟩ := read_field Try.underlying44 h 1 1 1 3 rfl (by kernel_rfl)
  obtain ⟨m2, y2, h2⟩ := read_field Try.underlying44 h 2 2 1 3 rfl (by kernel_rfl)
  obtain ⟨m3, y3, h3⟩ := read_field Try.underlying44 h 3 3 1 9 rfl (by kernel_rfl)
  clear h
  match cs, hl with
  | [a, b, c, d], _ =>
    simp only [List.drop_zero, List.drop_succ_cons, List.take_succ_cons, List.take_zero] at h0 h1 h2 h3
    obtain ⟨k, hk, gk⟩ := read_int Try.underlying3 _ _ _ h0
    obtain ⟨s, hs, gs⟩ := read_int Try.underlying3 _ _ _ h1
    obtain ⟨u, hu, gu⟩ := read_int Try.underlying3 _ _ _ h2
    obtain ⟨t, ht, gt⟩ := read_str Try.underlying9 _ _ _ h3
    simp [eInt, eStr] at hk hs hu ht
    subst hk hs hu ht
    exact ⟨⟨k, s, u, t⟩, rfl, trivial⟩
end
theorem own : ownKnob Try.prog.godebug = none := by kernel_rfl
theorem laidOut : laidOutB Try.prog = true := by kernel_rfl

set_option maxRecDepth 100000 in
theorem lifted (os : Os) (started : os.Started) (H : Type) (enc : TypeId × Value → H) :
    ReturnsInHanded {} Try.checked os 6 .any (Rows.indexActsSpec.pre6 enc Try.prog Try.f6 Rows.indexActsRow.domain false) (Rows.indexActsSpec.post enc Try.prog Try.f6 false true false false) := by
  refine returnsInHanded_of_change (C := Try.checked) own started (by kernel_rfl) Try.func6
    (ChangeSpec.witness6 (enc := enc) (C := Try.checked) false ⟨#[], #[(.slice none 0 0)], []⟩ 8 (by kernel_rfl) (by kernel_rfl) (by kernel_rfl) (by kernel_rfl)) ?_
  intro W base args ds gs before hval0 hW hcnd _
  have hval : ∀ (j : Nat) t v, Try.f6.params[j]? = some t → args[j]? = some v → Value.okWide Try.prog W .any base t v := hval0
  have hW' := hW
  obtain ⟨p, q, hA0, hV, rfl, hfz, hnd⟩ := hW
  have hA : DataW.TrodAll enc Try.prog W 0 (fun _ => true) true Try.f6.params.toList args.toList ds p := hA0
  rw [Try.params6] at hA hval
  obtain ⟨v0, vs0, d0, ds0, p0, q0, hargs, rfl, rfl, h0, r0⟩ := trodAll_cons hA
  obtain ⟨rfl, rfl, rfl⟩ := trodAll_nil r0
  obtain rfl : args = #[v0] := by cases args; simp_all
  obtain ⟨rfl, rfl⟩ := trodVars_none hV
  have k0 := hval 0 42 v0 rfl rfl
  clear hA0 hval0
  obtain ⟨p, c, xs, rfl, hs, hg⟩ := arg_slice eAct _ Try.underlying42 (by kernel_rfl) read_act k0 h0
  refine (indexActs_spec hs).calls.mono fun e W' he => ?_
  obtain ⟨_, rfl, rfl, hx⟩ := he
  exact ⟨_, rfl, law_post laidOut (by kernel_rfl) Try.underlying4 rfl rfl hW' rfl hx⟩

theorem over : Rows.indexActsRow.holds Try.pinned (OpenSpec.ofChange Rows.indexActsSpec) :=
  OpenClaim.holds_of_wide 6 Try.f6 rfl rfl rfl rfl rfl rfl rfl ⟨rfl, rfl, rfl, rfl, rfl⟩ rfl rfl rfl rfl rfl (by kernel_rfl) Try.func6 (by kernel_rfl)
    (of_decide_eq_true (by kernel_rfl)) (by unfold Func.isWrapper; first | (rw [if_pos (by decide +kernel)]; kernel_rfl) | (rw [if_neg (by decide +kernel)]; exact ⟨rfl, rfl⟩))
    (fun os started H enc _ => lifted os started H enc)

theorem proved : Rows.IndexActsSaid := over

#print axioms proved
end Go.Proofs.Ytbphlenpclnobaa.indexActs
