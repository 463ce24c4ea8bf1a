/- AuditReads: what was written and answered on a connection is told as the document says. -/
import Derived.Test.YtipbakiecocioaaGreatDoorVM8
namespace Go.Proofs.YtipbakiecocioaaGreatDoor
open Go.V Go.ChangeShapes Go.WideShapes Go.ChangeAt Go.RowKit
theorem read_wire {H : Type} {enc : TypeId × Value → H} {w : World} {n : Nat} {cs : List Value} {z : DataW H × List MemPlace} (h : DataW.trod enc Tryz.prog w 0 (fun _ => true) true n 24 cs = some z) :
    ∃ life p1 c1 inp p2 c2 out over, cs = [.int .i64 life, .slice p1 inp.length c1, .slice p2 out.length c2, .bool over] ∧ Sl w.heap eByte p1 c1 inp ∧ Sl w.heap eByte p2 c2 out := by
  have hl := read_len Tryz.underlying24 h (sz := 4) (by kernel_rfl)
  obtain ⟨m0, y0, h0⟩ := read_field Tryz.underlying24 h 0 0 1 3 rfl (by kernel_rfl)
  obtain ⟨m1, y1, h1⟩ := read_field Tryz.underlying24 h 1 1 1 22 rfl (by kernel_rfl)
  obtain ⟨m2, y2, h2⟩ := read_field Tryz.underlying24 h 2 2 1 22 rfl (by kernel_rfl)
  obtain ⟨m3, y3, h3⟩ := read_field Tryz.underlying24 h 3 3 1 4 rfl (by kernel_rfl)
  clear h
  match cs, hl with
  | [a, b, c, d], _ =>
    simp only [List.drop_zero, List.drop_succ_cons, List.take_succ_cons, List.take_zero] at h0 h1 h2 h3
    obtain ⟨k, hk, gk⟩ := read_int Tryz.underlying3 _ _ _ h0
    obtain ⟨p1, c1, xs, hs, hs1, _⟩ := read_slice eByte _ Tryz.underlying22 (by kernel_rfl) (read_byte Tryz.underlying5) h1
    obtain ⟨p2, c2, ys, hu, hs2, _⟩ := read_slice eByte _ Tryz.underlying22 (by kernel_rfl) (read_byte Tryz.underlying5) h2
    obtain ⟨t, ht, _⟩ := DataW.trod_bool Tryz.underlying4 h3
    simp [eInt] at hk hs hu ht
    subst hk hs hu ht
    exact ⟨k, p1, c1, xs, p2, c2, ys, t, rfl, hs1, hs2⟩
namespace auditReads
set_option maxRecDepth 100000 in
theorem contract (H : Type) (enc : TypeId × Value → H) (W : World) (base : Nat) (args : Array Value) (ds gs : List (DataW H)) (before : List MemPlace)
    (hval0 : ∀ (j : Nat) t v, Tryz.f3.params[j]? = some t → args[j]? = some v → Value.okWide Tryz.prog W .any base t v)
    (hW : DataW.Whole enc Tryz.prog Tryz.f3.params.toList Rows.auditReadsSpec.vars false W args.toList ds gs before) (hL : laidMetH Tryz.prog Rows.auditReadsRow.laid W) (hS : W.ShapedOpen Tryz.prog) :
    Calls Tryz.prog 3 args W fun e W' => ∃ v, e = .returned v ∧ Rows.auditReadsSpec.post enc Tryz.prog Tryz.f3 false true false false W args v W' := by
  have hT : Pow W := pow_of hL
  have hval := hval0
  have hW' := hW
  obtain ⟨p, q, hA0, hV, rfl, hfz, hnd⟩ := hW
  have hA : DataW.TrodAll enc Tryz.prog W 0 (fun _ => true) true Tryz.f3.params.toList args.toList ds p := hA0
  rw [Tryz.params3] at hA hval
  obtain ⟨v0, vs0, d0, ds0, p0, q0, hargs, rfl, rfl, h0, r0⟩ := trodAll_cons hA
  obtain ⟨rfl, rfl, rfl⟩ := trodAll_nil r0
  obtain rfl : args = #[v0] := by cases args; simp_all
  obtain ⟨rfl, rfl⟩ := trodVars_none hV
  have k0 := hval 0 24 v0 rfl rfl
  clear hA0 hval0
  have hE : Errs W := errs_of hL
  have hU : Utf W := utf_of hL hS
  obtain ⟨cs, n, z, rfl, hz⟩ := arg_struct Tryz.underlying24 k0 h0
  obtain ⟨life, p1, c1, inp, p2, c2, out, over, rfl, hI, hO⟩ := read_wire hz
  refine (auditReads_spec (life := life) (over := over) hI hO hU hT hE).calls.mono fun e W' he => ?_
  obtain ⟨_, rfl, rfl, hx⟩ := he
  exact ⟨_, rfl, law_post laidOut (by kernel_rfl) Tryz.underlying4 rfl rfl hW' rfl hx⟩
theorem laid_met (os : Os) : laidMet Tryz.prog Rows.auditReadsRow.laid ((laidWorld os).forCall (fun _ _ => 0) ⟨#[], #[(.agg #[.int .i64 0, .slice none 0 0, .slice none 0 0, .bool false])], []⟩).memory :=
  laidMet_of_run' 8 (by kernel_rfl) (by kernel_rfl)
theorem reads (os : Os) {H : Type} (enc : TypeId × Value → H) : ∃ places, DataW.whole enc Tryz.prog ((laidWorld os).forCall (fun _ _ => 0) ⟨#[], #[(.agg #[.int .i64 0, .slice none 0 0, .slice none 0 0, .bool false])], []⟩).memory Tryz.f3.params.toList Rows.auditReadsSpec.vars false #[(.agg #[.int .i64 0, .slice none 0 0, .slice none 0 0, .bool false])].toList 8 = some ([.agg [.lit (.int .i64 0), .nil, .nil, .lit (.bool false)]], [], places) :=
  ⟨[], by kernel_rfl⟩
set_option maxRecDepth 100000 in
theorem lifted (os : Os) (started : os.Started) (H : Type) (enc : TypeId × Value → H) (F : Stop.Interp) :
    ReturnsInHanded {} Tryz.checked os 3 .any ((OpenSpec.ofChange Rows.auditReadsSpec).preRow enc Tryz.prog Tryz.f3 Rows.auditReadsRow.domain false Rows.auditReadsRow.laid) (((OpenSpec.ofChange Rows.auditReadsSpec).at F).post enc Tryz.prog Tryz.f3 false true false false) := by
  obtain ⟨places, hx⟩ := reads os enc
  refine returnsInHanded_of_row (C := Tryz.checked) (s := OpenSpec.ofChange Rows.auditReadsSpec) own started (by kernel_rfl) Tryz.func3
    (witness_row_at (enc := enc) (C := Tryz.checked) false (laidWorld os) #[(.agg #[.int .i64 0, .slice none 0 0, .slice none 0 0, .bool false])] rfl (by kernel_rfl) (by kernel_rfl) (by kernel_rfl)
      (OpenSpec.preRow_of_cond 8 hx (by kernel_rfl) (fun k hk => by cases hk) (by kernel_rfl) (laid_met os))) ?_
  intro W base args ds gs before hval hW _ _ _ hL hS _
  exact contract H enc W base args ds gs before hval hW hL hS
theorem said : Rows.AuditReadsSaid :=
  OpenClaim.holds_of_cond 3 Tryz.f3 rfl rfl rfl rfl rfl rfl rfl ⟨rfl, rfl, rfl, rfl, rfl⟩ rfl rfl rfl rfl rfl (by kernel_rfl) Tryz.func3 (by kernel_rfl)
    (of_decide_eq_true (by kernel_rfl)) (by unfold Func.isWrapper; first | (rw [if_pos (by decide +kernel)]; kernel_rfl) | (rw [if_neg (by decide +kernel)]; exact ⟨rfl, rfl⟩))
    (fun os started H enc _ F => by rw [OpenClaim.pre_eq_preRow]; exact lifted os started H enc F)
theorem plain (f : FuncId) (fn : Func) (hf : Tryz.pinned.checked.prog.funcNamed "pentimento/pentimentolaw30.AuditReads" = some f) (hfn : Tryz.pinned.checked.prog.funcs[f]? = some fn) :
    true = Tryz.pinned.checked.prog.looks [] ∧ ∀ (j : Nat) t, fn.params[j]? = some t → Tryz.pinned.checked.prog.wantsStandIn t = false := by
  obtain rfl : f = 3 := Option.some.inj ((show Tryz.prog.funcNamed "pentimento/pentimentolaw30.AuditReads" = some 3 by kernel_rfl).symm.trans hf) |>.symm
  obtain rfl : fn = Tryz.f3 := (Option.some.inj (Tryz.func3.symm.trans hfn)).symm
  refine ⟨by kernel_rfl, fun j t ht => ?_⟩
  rw [Tryz.params3] at ht
  have hm : t ∈ #[24] := Array.mem_of_getElem? ht
  have hm2 : t = 24 := by simpa using hm
  subst hm2
  exact (show Tryz.prog.wantsStandIn 24 = false by kernel_rfl)
theorem proved : Rows.AuditReadsCardSaid :=
  Claim7.holds_tied_plain_at .later [] _ _ _ _ said (fun _ h => by cases h) (by kernel_rfl) (fun _ h => by cases h) auditReads_row_tie rfl ⟨rfl, rfl⟩ (by kernel_rfl) rfl plain (by kernel_rfl)

end auditReads
#print axioms auditReads.proved
end Go.Proofs.YtipbakiecocioaaGreatDoor
