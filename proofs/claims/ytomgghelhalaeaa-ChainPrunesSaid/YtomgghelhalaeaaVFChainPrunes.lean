/- ChainPrunes: for every right chain, Prune is the document's, and later reads do not change. -/
import Derived.Test.YtomgghelhalaeaaVReadVer
import Derived.Test.YtomgghelhalaeaaVL2ChainPrunes
namespace Go.Proofs.Ytomgghelhalaeaa
open Go.V Go.RowKit Go.ChangeShapes Go.WideShapes Go.ChangeAt
section
variable {H : Type} {enc : TypeId × Value → H} {w : World}
theorem arg_array2 {P : Program} {t e : TypeId} {v : Value} {d : DataW H} {ps : List MemPlace} {r : Reach} {base : Nat} (ht : P.underlying t = some (.array 2 e)) (he : P.underlying e = some (.int .i64)) (hce : P.cellsOf e = 1) (hct : P.cellsOf t = 2)
    (hv : Value.okWide P w r base t v) (h : DataW.Trod enc P w 0 (fun _ => true) true t v d ps) : ∃ a b, v = .agg #[.int .i64 a, .int .i64 b] := by
  simp only [Value.okWide, ht] at hv
  obtain ⟨cs, rfl, hsz, _⟩ := hv
  obtain ⟨n, h⟩ := h
  have hc : (Value.agg cs).cells.toList = cs.toList := rfl
  rw [hc] at h
  obtain ⟨xs, m, _, _, hl, hxl, hx⟩ := DataW.trod_array ht h
  have h0 := hx 0 (by omega)
  have h1 := hx 1 (by omega)
  rw [hce] at h0 h1
  rw [hct] at hl
  have hcs : cs = cs.toList.toArray := rfl
  rw [hcs]
  match hh : cs.toList, hl with
  | [a, b], _ =>
    rw [hh] at h0 h1
    match xs, hxl with
    | [x0, x1], _ =>
      obtain ⟨a', ha, _⟩ := read_int he _ _ _ (by simpa using h0)
      obtain ⟨b', hb, _⟩ := read_int he _ _ _ (by simpa using h1)
      simp [eInt] at ha hb
      exact ⟨a', b', by rw [ha, hb]⟩
end
end Go.Proofs.Ytomgghelhalaeaa
namespace Go.Proofs.Ytomgghelhalaeaa.chainPrunes
open Go.V Go.RowKit Go.ChangeShapes Go.WideShapes Go.ChangeAt
theorem own : ownKnob Try.prog.godebug = none := by kernel_rfl
theorem laidOut : laidOutB Try.prog = true := by kernel_rfl

set_option maxRecDepth 100000 in
theorem lifted (os : Os) (started : os.Started) (H : Type) (enc : TypeId × Value → H) :
    ReturnsInHanded {} Try.checked os 6 .any (Rows.chainPrunesSpec.pre6 enc Try.prog Try.f6 Rows.chainPrunesRow.domain false) (Rows.chainPrunesSpec.post enc Try.prog Try.f6 false true false false) := by
  refine returnsInHanded_of_change (C := Try.checked) own started (by kernel_rfl) Try.func6
    (ChangeSpec.witness6 (enc := enc) (C := Try.checked) false ⟨#[], #[(.slice none 0 0), (.agg #[.int .i64 0, .int .i64 0]), (.agg #[.int .i64 0, .int .i64 0])], []⟩ 8 (by kernel_rfl) (by kernel_rfl) (by kernel_rfl) (by kernel_rfl)) ?_
  intro W base args ds gs before hval0 hW hcnd _
  have hval : ∀ (j : Nat) t v, Try.f6.params[j]? = some t → args[j]? = some v → Value.okWide Try.prog W .any base t v := hval0
  have hW' := hW
  obtain ⟨p, q, hA0, hV, rfl, hfz, hnd⟩ := hW
  have hA : DataW.TrodAll enc Try.prog W 0 (fun _ => true) true Try.f6.params.toList args.toList ds p := hA0
  rw [Try.params6] at hA hval
  obtain ⟨v0, vs0, d0, ds0, p0, q0, hargs, rfl, rfl, h0, r0⟩ := trodAll_cons hA
  obtain ⟨v1, vs1, d1, ds1, p1, q1, rfl, rfl, rfl, h1, r1⟩ := trodAll_cons r0
  obtain ⟨v2, vs2, d2, ds2, p2, q2, rfl, rfl, rfl, h2, r2⟩ := trodAll_cons r1
  obtain ⟨rfl, rfl, rfl⟩ := trodAll_nil r2
  obtain rfl : args = #[v0, v1, v2] := by cases args; simp_all
  obtain ⟨rfl, rfl⟩ := trodVars_none hV
  have k0 := hval 0 22 v0 rfl rfl
  have k1 := hval 1 46 v1 rfl rfl
  have k2 := hval 2 46 v2 rfl rfl
  clear hA0 hval0
  obtain ⟨p, c, rs, rfl, hs, hg⟩ := arg_slice eVer _ Try.underlying22 (by kernel_rfl) read_version k0 h0
  obtain ⟨vs, hch, hf⟩ := chain_of hs hg
  obtain ⟨s0, s1, rfl⟩ := arg_array2 Try.underlying46 Try.underlying3 (by kernel_rfl) (by kernel_rfl) k1 h1
  obtain ⟨c0, c1, rfl⟩ := arg_array2 Try.underlying46 Try.underlying3 (by kernel_rfl) (by kernel_rfl) k2 h2
  refine (chainPrunes_spec hch hf).calls.mono fun e W' he => ?_
  obtain ⟨_, rfl, rfl, hx⟩ := he
  exact ⟨_, rfl, law_post laidOut (by kernel_rfl) Try.underlying4 rfl rfl hW' rfl hx⟩

theorem over : Rows.chainPrunesRow.holds Try.pinned (OpenSpec.ofChange Rows.chainPrunesSpec) :=
  OpenClaim.holds_of_wide 6 Try.f6 rfl rfl rfl rfl rfl rfl rfl ⟨rfl, rfl, rfl, rfl, rfl⟩ rfl rfl rfl rfl rfl (by kernel_rfl) Try.func6 (by kernel_rfl)
    (of_decide_eq_true (by kernel_rfl)) (by unfold Func.isWrapper; first | (rw [if_pos (by decide +kernel)]; kernel_rfl) | (rw [if_neg (by decide +kernel)]; exact ⟨rfl, rfl⟩))
    (fun os started H enc _ => lifted os started H enc)

theorem proved : Rows.ChainPrunesSaid := over

#print axioms proved
end Go.Proofs.Ytomgghelhalaeaa.chainPrunes
