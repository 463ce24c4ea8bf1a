/- ZsetJoins: Sum and Common of sorted sets are the document's. -/
import Derived.Test.YtdnhagiokdnopaaRows
import Derived.Test.YtdnhagiokdnopaaVRead
import Derived.WalkKit
import Derived.Test.YtdnhagiokdnopaaVLZsetJoins
namespace Go.Proofs.Ytdnhagiokdnopaa
open Go.V Go.RowKit Go.ChangeShapes Go.WideShapes Go.ChangeAt
section
variable {H : Type} {enc : TypeId × Value → H} {w : World}
theorem read_member (n : Nat) (cs : List Value) (z : DataW H × List MemPlace) (h : DataW.trod enc Try.prog w 0 (fun _ => true) true n 34 cs = some z) : ∃ x, cs = eMem.enc x ∧ fit64 x.1 := by
  obtain ⟨a, b, m, z0, z1, rfl, h0, h1⟩ := read_two Try.underlying34 rfl rfl (by kernel_rfl) (by kernel_rfl) (by kernel_rfl) h
  obtain ⟨s, e0, l0⟩ := read_int Try.underlying3 _ _ _ h0
  obtain ⟨t, e1, l1⟩ := read_str Try.underlying9 _ _ _ h1
  simp [eInt] at e0
  simp [eStr] at e1
  subst e0 e1
  exact ⟨(s, t), rfl, l0⟩
theorem read_mems (n : Nat) (cs : List Value) (z : DataW H × List MemPlace) (h : DataW.trod enc Try.prog w 0 (fun _ => true) true n 24 cs = some z) : ∃ r, cs = eSl.enc r ∧ (∃ v : List Mem, r.2.1 = v.length ∧ Sl w.heap eMem r.1 r.2.2 v ∧ ∀ x ∈ v, fit64 x.1) := by
  obtain ⟨p, c, xs, e, hs, hg⟩ := read_slice eMem _ Try.underlying24 (by kernel_rfl) read_member h
  exact ⟨(p, xs.length, c), e, xs, rfl, hs, hg⟩
end
theorem mems_of {w : World} {p : Option Addr} {c : Nat} {rs : List (Option Addr × Nat × Nat)} (hs : Sl w.heap eSl p c rs) (hg : ∀ r ∈ rs, ∃ v : List Mem, r.2.1 = v.length ∧ Sl w.heap eMem r.1 r.2.2 v ∧ ∀ x ∈ v, fit64 x.1) : ∃ vs, MemsAt w.heap p c rs vs ∧ ∀ v ∈ vs, ∀ x ∈ v, fit64 x.1 := by
  obtain ⟨vs, hl, hq⟩ := list_of (Q := fun i (v : List Mem) => ∃ r, rs[i]? = some r ∧ r.2.1 = v.length ∧ Sl w.heap eMem r.1 r.2.2 v ∧ ∀ x ∈ v, fit64 x.1) rs.length (fun i hi => by
    obtain ⟨r, hr⟩ := get_some hi
    obtain ⟨v, hv⟩ := hg r (List.mem_of_getElem? hr)
    exact ⟨v, r, hr, hv⟩)
  refine ⟨vs, ⟨hs, hl.symm, fun i r v hr hv => ?_⟩, fun v hv => ?_⟩
  · obtain ⟨r', hr', h1, h2, _⟩ := hq i v hv
    rw [hr] at hr'
    injection hr' with hr'
    rw [hr']
    exact ⟨h1, h2⟩
  · obtain ⟨i, hi⟩ := List.getElem?_of_mem hv
    obtain ⟨_, _, _, _, h3⟩ := hq i v hi
    exact h3
end Go.Proofs.Ytdnhagiokdnopaa
namespace Go.Proofs.Ytdnhagiokdnopaa.zsetJoins
open Go.V Go.RowKit Go.ChangeShapes Go.WideShapes Go.ChangeAt
theorem own : ownKnob Try.prog.godebug = none := by kernel_rfl
theorem laidOut : laidOutB Try.prog = true := by kernel_rfl

set_option maxRecDepth 100000 in
theorem lifted (os : Os) (started : os.Started) (H : Type) (enc : TypeId × Value → H) :
    ReturnsInHanded {} Try.checked os 3 .any (Rows.zsetJoinsSpec.pre6 enc Try.prog Try.f3 Rows.zsetJoinsRow.domain false) (Rows.zsetJoinsSpec.post enc Try.prog Try.f3 false true false false) := by
  refine returnsInHanded_of_change (C := Try.checked) own started (by kernel_rfl) Try.func3
    (ChangeSpec.witness6 (enc := enc) (C := Try.checked) false ⟨#[], #[(.slice none 0 0)], []⟩ 8 (by kernel_rfl) (by kernel_rfl) (by kernel_rfl) (by kernel_rfl)) ?_
  intro W base args ds gs before hval0 hW hcnd _
  have hval : ∀ (j : Nat) t v, Try.f3.params[j]? = some t → args[j]? = some v → Value.okWide Try.prog W .any base t v := hval0
  have hW' := hW
  obtain ⟨p, q, hA0, hV, rfl, hfz, hnd⟩ := hW
  have hA : DataW.TrodAll enc Try.prog W 0 (fun _ => true) true Try.f3.params.toList args.toList ds p := hA0
  rw [Try.params3] at hA hval
  obtain ⟨v0, vs0, d0, ds0, p0, q0, hargs, rfl, rfl, h0, r0⟩ := trodAll_cons hA
  obtain ⟨rfl, rfl, rfl⟩ := trodAll_nil r0
  obtain rfl : args = #[v0] := by cases args; simp_all
  obtain ⟨rfl, rfl⟩ := trodVars_none hV
  have k0 := hval 0 22 v0 rfl rfl
  clear hA0 hval0
  obtain ⟨p, c, rs, rfl, hs, hg⟩ := arg_slice eSl _ Try.underlying22 (by kernel_rfl) read_mems k0 h0
  obtain ⟨vs, hS, hf⟩ := mems_of hs hg
  refine (zsetJoins_spec hS hf).calls.mono fun e W' he => ?_
  obtain ⟨_, rfl, rfl, hx⟩ := he
  exact ⟨_, rfl, law_post laidOut (by kernel_rfl) Try.underlying4 rfl rfl hW' rfl hx⟩

theorem over : Rows.zsetJoinsRow.holds Try.pinned (OpenSpec.ofChange Rows.zsetJoinsSpec) :=
  OpenClaim.holds_of_wide 3 Try.f3 rfl rfl rfl rfl rfl rfl rfl ⟨rfl, rfl, rfl, rfl, rfl⟩ rfl rfl rfl rfl rfl (by kernel_rfl) Try.func3 (by kernel_rfl)
    (of_decide_eq_true (by kernel_rfl)) (by unfold Func.isWrapper; first | (rw [if_pos (by decide +kernel)]; kernel_rfl) | (rw [if_neg (by decide +kernel)]; exact ⟨rfl, rfl⟩))
    (fun os started H enc _ => lifted os started H enc)

theorem proved : Rows.ZsetJoinsSaid := over

#print axioms proved
end Go.Proofs.Ytdnhagiokdnopaa.zsetJoins
