/- ZsetBack: a new member added and removed leaves a sorted set as it was. -/
import Derived.Test.YtdnhagiokdnopaaVFZsetJoins
import Derived.Test.YtdnhagiokdnopaaVLZsetBack
namespace Go.Proofs.Ytdnhagiokdnopaa.zsetBack
open Go.V Go.RowKit Go.ChangeShapes Go.WideShapes Go.ChangeAt
theorem read_member2 {H : Type} {enc : TypeId × Value → H} {w : World} (n : Nat) (cs : List Value) (z : DataW H × List MemPlace) (h : DataW.trod enc Try.prog w 0 (fun _ => true) true n 34 cs = some z) : ∃ x, cs = eMem.enc x ∧ fit64 x.1 ∧ x.2.size ≤ maxLen := by
  obtain ⟨a, b, m, z0, z1, rfl, h0, h1⟩ := read_two Try.underlying34 rfl rfl (by kernel_rfl) (by kernel_rfl) (by kernel_rfl) h
  obtain ⟨s, e0, l0⟩ := read_int Try.underlying3 _ _ _ h0
  obtain ⟨t, e1, l1⟩ := read_str Try.underlying9 _ _ _ h1
  simp [eInt] at e0
  simp [eStr] at e1
  subst e0 e1
  exact ⟨(s, t), rfl, l0, l1⟩
theorem own : ownKnob Try.prog.godebug = none := by kernel_rfl
theorem laidOut : laidOutB Try.prog = true := by kernel_rfl

set_option maxRecDepth 100000 in
theorem lifted (os : Os) (started : os.Started) (H : Type) (enc : TypeId × Value → H) :
    ReturnsInHanded {} Try.checked os 4 .any (Rows.zsetBackSpec.pre6 enc Try.prog Try.f4 Rows.zsetBackRow.domain false) (Rows.zsetBackSpec.post enc Try.prog Try.f4 false true false false) := by
  refine returnsInHanded_of_change (C := Try.checked) own started (by kernel_rfl) Try.func4
    (ChangeSpec.witness6 (enc := enc) (C := Try.checked) false ⟨#[], #[(.slice none 0 0), (.agg #[.int .i64 0, .string ⟨#[]⟩])], []⟩ 8 (by kernel_rfl) (by kernel_rfl) (by kernel_rfl) (by kernel_rfl)) ?_
  intro W base args ds gs before hval0 hW hcnd _
  have hval : ∀ (j : Nat) t v, Try.f4.params[j]? = some t → args[j]? = some v → Value.okWide Try.prog W .any base t v := hval0
  have hW' := hW
  obtain ⟨p, q, hA0, hV, rfl, hfz, hnd⟩ := hW
  have hA : DataW.TrodAll enc Try.prog W 0 (fun _ => true) true Try.f4.params.toList args.toList ds p := hA0
  rw [Try.params4] at hA hval
  obtain ⟨v0, vs0, d0, ds0, p0, q0, hargs, rfl, rfl, h0, r0⟩ := trodAll_cons hA
  obtain ⟨v1, vs1, d1, ds1, p1, q1, rfl, rfl, rfl, h1, r1⟩ := trodAll_cons r0
  obtain ⟨rfl, rfl, rfl⟩ := trodAll_nil r1
  obtain rfl : args = #[v0, v1] := by cases args; simp_all
  obtain ⟨rfl, rfl⟩ := trodVars_none hV
  have k0 := hval 0 24 v0 rfl rfl
  have k1 := hval 1 34 v1 rfl rfl
  clear hA0 hval0
  obtain ⟨p, c, xs, rfl, hs, hg⟩ := arg_slice eMem _ Try.underlying24 (by kernel_rfl) read_member k0 h0
  obtain ⟨cs, n, z, rfl, hz⟩ := arg_struct Try.underlying34 k1 h1
  obtain ⟨m, rfl, hm, hmx⟩ := read_member2 n cs z hz
  refine (zsetBack_spec hs hg hm hmx).calls.mono fun e W' he => ?_
  obtain ⟨_, rfl, rfl, hx⟩ := he
  exact ⟨_, rfl, law_post laidOut (by kernel_rfl) Try.underlying4 rfl rfl hW' rfl hx⟩

theorem over : Rows.zsetBackRow.holds Try.pinned (OpenSpec.ofChange Rows.zsetBackSpec) :=
  OpenClaim.holds_of_wide 4 Try.f4 rfl rfl rfl rfl rfl rfl rfl ⟨rfl, rfl, rfl, rfl, rfl⟩ rfl rfl rfl rfl rfl (by kernel_rfl) Try.func4 (by kernel_rfl)
    (of_decide_eq_true (by kernel_rfl)) (by unfold Func.isWrapper; first | (rw [if_pos (by decide +kernel)]; kernel_rfl) | (rw [if_neg (by decide +kernel)]; exact ⟨rfl, rfl⟩))
    (fun os started H enc _ => lifted os started H enc)

theorem proved : Rows.ZsetBackSaid := over

#print axioms proved
end Go.Proofs.Ytdnhagiokdnopaa.zsetBack
