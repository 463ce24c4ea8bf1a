/- ValueApart: unlike right values have unlike encodings, none the beginning of another one. -/
import Derived.Test.YtomgghelhalaeaaVReadVal
import Derived.Test.YtomgghelhalaeaaVLValueApart
namespace Go.Proofs.Ytomgghelhalaeaa
open Go.V Go.RowKit Go.ChangeShapes Go.WideShapes Go.ChangeAt
section
variable {H : Type} {enc : TypeId × Value → H} {w : World}
theorem read_raw (n : Nat) (cs : List Value) (z : DataW H × List MemPlace) (h : DataW.trod enc Try.prog w 0 (fun _ => true) true n 30 cs = some z) : ∃ r, cs = eRaw.enc r ∧ ∃ v, Rv w.heap r v ∧ Fits v := by
  obtain ⟨k, s, p1, c1, ps, p2, c2, ts, p3, c3, zs, rfl, gk, gs, s1, g1, s2, g2, s3, g3⟩ := read_value h
  exact ⟨⟨k, s, p1, ps.length, c1, p2, ts.length, c2, p3, zs.length, c3⟩, rfl, ⟨k, s, ps, ts, zs⟩, ⟨rfl, rfl, rfl, rfl, rfl, s1, s2, s3⟩, ⟨gk, gs, g1, g2, g3⟩⟩
end
end Go.Proofs.Ytomgghelhalaeaa
namespace Go.Proofs.Ytomgghelhalaeaa.valueApart
open Go.V Go.RowKit Go.ChangeShapes Go.WideShapes Go.ChangeAt
theorem own : ownKnob Try.prog.godebug = none := by kernel_rfl
theorem laidOut : laidOutB Try.prog = true := by kernel_rfl

set_option maxRecDepth 100000 in
theorem lifted (os : Os) (started : os.Started) (H : Type) (enc : TypeId × Value → H) :
    ReturnsInHanded {} Try.checked os 4 .any (Rows.valueApartSpec.pre6 enc Try.prog Try.f4 Rows.valueApartRow.domain false) (Rows.valueApartSpec.post enc Try.prog Try.f4 false true false false) := by
  refine returnsInHanded_of_change (C := Try.checked) own started (by kernel_rfl) Try.func4
    (ChangeSpec.witness6 (enc := enc) (C := Try.checked) false ⟨#[], #[(.agg #[.int .i64 0, .string ⟨#[]⟩, .slice none 0 0, .slice none 0 0, .slice none 0 0]), (.agg #[.int .i64 0, .string ⟨#[]⟩, .slice none 0 0, .slice none 0 0, .slice none 0 0])], []⟩ 8 (by kernel_rfl) (by kernel_rfl) (by kernel_rfl) (by kernel_rfl)) ?_
  intro W base args ds gs before hval0 hW hcnd _
  have hval : ∀ (j : Nat) t v, Try.f4.params[j]? = some t → args[j]? = some v → Value.okWide Try.prog W .any base t v := hval0
  have hW' := hW
  obtain ⟨p, q, hA0, hV, rfl, hfz, hnd⟩ := hW
  have hA : DataW.TrodAll enc Try.prog W 0 (fun _ => true) true Try.f4.params.toList args.toList ds p := hA0
  rw [Try.params4] at hA hval
  obtain ⟨v0, vs0, d0, ds0, p0, q0, hargs, rfl, rfl, h0, r0⟩ := trodAll_cons hA
  obtain ⟨v1, vs1, d1, ds1, p1, q1, rfl, rfl, rfl, h1, r1⟩ := trodAll_cons r0
  obtain ⟨rfl, rfl, rfl⟩ := trodAll_nil r1
  obtain rfl : args = #[v0, v1] := by cases args; simp_all
  obtain ⟨rfl, rfl⟩ := trodVars_none hV
  have k0 := hval 0 30 v0 rfl rfl
  have k1 := hval 1 30 v1 rfl rfl
  clear hA0 hval0
  obtain ⟨cs, n, z, rfl, hz⟩ := arg_struct Try.underlying30 k0 h0
  obtain ⟨r1, rfl, a, qA, fa⟩ := read_raw _ _ _ hz
  obtain ⟨cs2, n2, z2, rfl, hz2⟩ := arg_struct Try.underlying30 k1 h1
  obtain ⟨r2, rfl, b, qB, fb⟩ := read_raw _ _ _ hz2
  refine (valueApart_spec qA qB fa fb).calls.mono fun e W' he => ?_
  obtain ⟨_, rfl, rfl, hx⟩ := he
  exact ⟨_, rfl, law_post laidOut (by kernel_rfl) Try.underlying4 rfl rfl hW' rfl hx⟩

theorem over : Rows.valueApartRow.holds Try.pinned (OpenSpec.ofChange Rows.valueApartSpec) :=
  OpenClaim.holds_of_wide 4 Try.f4 rfl rfl rfl rfl rfl rfl rfl ⟨rfl, rfl, rfl, rfl, rfl⟩ rfl rfl rfl rfl rfl (by kernel_rfl) Try.func4 (by kernel_rfl)
    (of_decide_eq_true (by kernel_rfl)) (by unfold Func.isWrapper; first | (rw [if_pos (by decide +kernel)]; kernel_rfl) | (rw [if_neg (by decide +kernel)]; exact ⟨rfl, rfl⟩))
    (fun os started H enc _ => lifted os started H enc)

theorem proved : Rows.ValueApartSaid := over

#print axioms proved
end Go.Proofs.Ytomgghelhalaeaa.valueApart
