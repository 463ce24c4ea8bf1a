/- Values as they lie in memory: Small, Same, Clone. -/
import Derived.Test.YtomgghelhalaeaaVRef14Right
import Derived.Test.YtomgghelhalaeaaVVers
import Derived.Test.YtomgghelhalaeaaVVal
import Derived.Test.YtomgghelhalaeaaVSmall
namespace Go.Proofs.Ytomgghelhalaeaa
open Go.V
attribute [local irreducible] Blk Own hcell IntT SliceT PlainT AggT SizeT StrT FieldT ZeroT EqT ArrT

theorem small_raw {r : RawV} {v : Val} {w : World} (h : Rv w.heap r v) : Ctr Try.prog 17 [.agg (eRaw.enc r).toArray] w (fun x w' => x = .bool (smallV v.text v.ps v.ts v.zs) ∧ Ext w w') := by
  rw [h.enc]; exact small_spec h.s1 h.s2 h.s3
theorem same_raw {r r' : RawV} {v v' : Val} {w : World} (h : Rv w.heap r v) (h' : Rv w.heap r' v') : Ctr Try.prog 20 [.agg (eRaw.enc r).toArray, .agg (eRaw.enc r').toArray] w (fun x w' => ∃ b, x = .bool b ∧ (b = true ↔ v = v') ∧ Ext w w') := by
  rw [h.enc, h'.enc]
  refine (ref_same h.s1 h.s2 h.s3 h'.s1 h'.s2 h'.s3).mono fun x w' ⟨e, hx⟩ => ⟨_, e, ?_, hx⟩
  rw [decide_eq_true_iff]
  cases v; cases v'; simp
theorem clone_raw {r : RawV} {v : Val} {w : World} (h : Rv w.heap r v) (b1 : v.ps.length ≤ 1000000) (b2 : v.ts.length ≤ 1000000) (b3 : v.zs.length ≤ 1000000) :
    Ctr Try.prog 21 [.agg (eRaw.enc r).toArray] w (fun x w' => ∃ r', x = .agg (eRaw.enc r').toArray ∧ Rv w'.heap r' v ∧ NewR w.heap.size r' ∧ OldR w'.heap.size r' ∧ Ext w w') := by
  rw [h.enc]
  refine (value_clone h.s1 h.s2 h.s3 b1 b2 b3).mono ?_
  rintro x w' ⟨q1, d1, q2, d2, q3, d3, rfl, o1, o2, o3, hx⟩
  refine ⟨⟨v.kind, v.text, q1, v.ps.length, d1, q2, v.ts.length, d2, q3, v.zs.length, d3⟩, rfl, ⟨rfl, rfl, rfl, rfl, rfl, o1.sl, o2.sl, o3.sl⟩, ?_, ?_, hx⟩
  · rintro a (h | h | h)
    · exact (o1.ge a.block (by simp only at h; rw [h]; rfl)).1
    · exact (o2.ge a.block (by simp only at h; rw [h]; rfl)).1
    · exact (o3.ge a.block (by simp only at h; rw [h]; rfl)).1
  · rintro a (h | h | h)
    · exact (o1.ge a.block (by simp only at h; rw [h]; rfl)).2
    · exact (o2.ge a.block (by simp only at h; rw [h]; rfl)).2
    · exact (o3.ge a.block (by simp only at h; rw [h]; rfl)).2

def smallVal (v : Val) : Prop := smallV v.text v.ps v.ts v.zs = true
theorem small_raw2 {r : RawV} {v : Val} {w : World} (h : Rv w.heap r v) : Ctr Try.prog 17 [.agg (eRaw.enc r).toArray] w (fun x w' => ∃ b, x = .bool b ∧ (b = true ↔ smallVal v) ∧ Ext w w') := by
  rw [h.enc]
  exact (small_spec h.s1 h.s2 h.s3).mono fun x w' ⟨e, hx⟩ => ⟨_, e, Iff.rfl, hx⟩
theorem smallVal.lens {v : Val} (h : smallVal v) : v.text.size ≤ 5000 ∧ v.ps.length ≤ 60 ∧ v.ts.length ≤ 600 ∧ v.zs.length ≤ 60 := by
  simp only [smallVal, smallV, Bool.and_eq_true, decide_eq_true_eq] at h
  omega

theorem bld_raw0 (w : World) : (Instr.build 30 [].toArray).run Try.prog w = .ok (.agg (eRaw.enc raw0).toArray) w := by kernel_rfl

theorem small_yes {r : RawV} {v : Val} {w : World} (h : Rv w.heap r v) (hs : smallVal v) : Ctr Try.prog 17 [.agg (eRaw.enc r).toArray] w (fun x w' => x = .bool true ∧ Ext w w') :=
  (small_raw2 h).mono fun x w' ⟨b, e, hb, hx⟩ => ⟨by rw [e, hb.2 hs], hx⟩
theorem small_no {r : RawV} {v : Val} {w : World} (h : Rv w.heap r v) (hs : ¬ smallVal v) : Ctr Try.prog 17 [.agg (eRaw.enc r).toArray] w (fun x w' => x = .bool false ∧ Ext w w') :=
  (small_raw2 h).mono fun x w' ⟨b, e, hb, hx⟩ => ⟨by rw [e]; cases b with | false => rfl | true => exact absurd (hb.1 rfl) hs, hx⟩

end Go.Proofs.Ytomgghelhalaeaa
