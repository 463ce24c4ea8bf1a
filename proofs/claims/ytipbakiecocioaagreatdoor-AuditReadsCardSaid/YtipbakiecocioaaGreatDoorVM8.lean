/- Texts of this proof laid together: AudMake, AudMake2, AudMake3, LAuditReads. -/
import Derived.Test.YtipbakiecocioaaGreatDoorVM7
/- Audit: a wire's calls; plain facts and the walks. -/
namespace Go.V
theorem frs_toS2 {w w' : World} {ar n : Nat} (h : FrS (fun k => k = ar ∨ blk (none : Option Addr) = some k ∨ blk (none : Option Addr) = some k) w w') (hn : n ≤ ar) : ExtS [n, n] w w' :=
  ⟨h.os, h.tape, h.output, h.size, fun k hk hs => h.block k hk (fun e => by
    rcases e with e | e | e
    · have h1 : Nat.ble n k = true := Nat.ble_eq_true_of_le (by rw [e]; exact hn)
      have h2 : exempt [n, n] k = true := by
        unfold exempt
        show (List.contains [n, n] k || Nat.ble n k) = true
        rw [h1, Bool.or_true]
      rw [h2] at hs
      cases hs
    · cases e
    · cases e)⟩
end Go.V
namespace Go.Proofs.YtipbakiecocioaaGreatDoor
open Go.V
attribute [local irreducible] Blk Own hcell IntT SliceT PlainT AggT SizeT StrT FieldT ZeroT EqT ArrT
/-- words that a reader gives are no longer than what came -/
theorem step_small {r r' : RS} {cs : List UInt8} {k B : Nat} {out : List (List ByteArray)} (hr : ∀ w ∈ r.words, w.size ≤ B) (hc : cs.length ≤ B) (h : stepP r cs = .go r' k out) : (∀ w ∈ r'.words, w.size ≤ B) ∧ ∀ l ∈ out, ∀ w ∈ l, w.size ≤ B := by
  have htk : ∀ n, (mkStr (cs.take n)).size ≤ B := fun n => by rw [mkStr_size, List.length_take]; omega
  unfold stepP at h
  split at h
  · split at h
    · cases h
    · cases h
    · rename_i s k' hl
      have h1 := line_len hl
      split at h
      · split at h
        · cases h
        · cases h
          exact ⟨by simp, by simp⟩
      · split at h
        · cases h
        · cases h
          refine ⟨by simp [rs0], fun l hl' w hw => ?_⟩
          split at hl'
          · simp at hl'
          · rw [List.mem_singleton.1 hl'] at hw
            obtain ⟨x, hx, rfl⟩ := List.mem_map.1 hw
            have := (cutG_len s []).2 x hx
            rw [mkStr_size]
            simp only [List.length_nil] at this
            omega
  split at h
  · split at h
    · cases h
    · cases h
    · split at h
      · cases h
      · cases h
        exact ⟨hr, by simp⟩
  split at h
  · cases h
  split at h
  · split at h
    · cases h
      refine ⟨by simp [rs0], fun l hl w hw => ?_⟩
      rw [List.mem_singleton.1 hl] at hw
      rcases List.mem_append.1 hw with hw | hw
      · exact hr w hw
      · rw [List.mem_singleton.1 hw]; exact htk _
    · cases h
      refine ⟨fun w hw => ?_, by simp⟩
      rcases List.mem_append.1 hw with hw | hw
      · exact hr w hw
      · rw [List.mem_singleton.1 hw]; exact htk _
  · cases h
theorem run_small : ∀ (n : Nat) {r : RS} {cs : List UInt8} {B : Nat}, cs.length < n → (∀ w ∈ r.words, w.size ≤ B) → cs.length ≤ B → ∀ l ∈ (runP r cs).out, ∀ w ∈ l, w.size ≤ B
  | 0, _, _, _, h, _, _ => by omega
  | n + 1, r, cs, B, hn, hr, hc => by
    cases h : stepP r cs with
    | stop => rw [run_stop h]; intro l hl; simp at hl
    | fault e => rw [run_fault h]; intro l hl; simp at hl
    | go r' k out =>
      have hk := step_go h
      obtain ⟨g1, g2⟩ := step_small hr hc h
      have ih := run_small n (r := r') (cs := cs.drop k) (B := B) (by rw [List.length_drop]; omega) g1 (by rw [List.length_drop]; omega)
      rw [run_go h]
      intro l hl
      rcases List.mem_append.1 hl with hl | hl
      · exact g2 l hl
      · exact ih l hl
def zT : Rep := .mk 0 ⟨#[]⟩ 0 []
def callP (cmds : List (List ByteArray)) (ts : List Rep) (i : Nat) : CallD := ⟨cmds.getD i [], ts.getD i zT, decide (i < ts.length)⟩
def callN (cmds : List (List ByteArray)) (ts : List Rep) : Nat := if cmds.length < ts.length then cmds.length + 1 else cmds.length
def callsP (cmds : List (List ByteArray)) (ts : List Rep) : List CallD := (List.range (callN cmds ts)).map (callP cmds ts)
theorem callsP_get {cmds : List (List ByteArray)} {ts : List Rep} {i : Nat} (h : i < callN cmds ts) : (callsP cmds ts)[i]? = some (callP cmds ts i) := by
  unfold callsP
  rw [List.getElem?_map, List.getElem?_range h]; rfl
theorem zRep_at5 {H : Array Obj} : RepAt H 5 zRep zT := RepAt.mono (d := 1) (e := 5) (leaf_at nil_size fit0) (by decide)
/-- the row of calls while it is made; all that they lead to is older -/
structure MakeI (wB w' : World) (p : Option Addr) (c : Nat) (rs : List RawC) (cmds : List (List ByteArray)) (ts : List Rep) (i : Nat) : Prop where
  ext : Ext wB w'
  own : Own w' wB.heap.size 53 eCall p c rs
  len : rs.length = i
  at_ : ∀ (j : Nat) r, rs[j]? = some r → CallAt wB.heap r (callP cmds ts j)
theorem MakeI.xt {wB w w' : World} {p : Option Addr} {c : Nat} {rs : List RawC} {cmds : List (List ByteArray)} {ts : List Rep} {i : Nat} (h : MakeI wB w p c rs cmds ts i) (hx : Ext w w') : MakeI wB w' p c rs cmds ts i := ⟨h.ext.trans hx, h.own.ext hx, h.len, h.at_⟩
theorem MakeI.push {wB w w1 w2 : World} {p p' : Option Addr} {c c' : Nat} {rs : List RawC} {cmds : List (List ByteArray)} {ts : List Rep} {i : Nat} {r : RawC} (h : MakeI wB w p c rs cmds ts i) (hx : Ext w w1) (hr : CallAt wB.heap r (callP cmds ts i)) (ha : App w1 w2 wB.heap.size 53 eCall p p' c' (rs ++ [r])) : MakeI wB w2 p' c' (rs ++ [r]) cmds ts (i + 1) := by
  refine ⟨(h.ext.trans hx).app ha (fun k hk => (h.own.ge k hk).1), ha.own, by simp [h.len], fun j x hj => ?_⟩
  by_cases hi : j < rs.length
  · rw [List.getElem?_append_left hi] at hj
    exact h.at_ j x hj
  · have e1 := get_lt hj
    rw [List.length_append, List.length_singleton] at e1
    have e2 : j = rs.length := by omega
    rw [e2, List.getElem?_append_right (Nat.le_refl _), Nat.sub_self] at hj
    obtain rfl : r = x := by simpa using hj
    rw [e2, h.len]
    exact hr
theorem MakeI.done {wB w' : World} {p : Option Addr} {c : Nat} {rs : List RawC} {cmds : List (List ByteArray)} {ts : List Rep} (h : MakeI wB w' p c rs cmds ts (callN cmds ts)) : CallsAt w'.heap p c rs (callsP cmds ts) := by
  have hl : (callsP cmds ts).length = callN cmds ts := by unfold callsP; simp
  refine ⟨h.own.sl, by rw [h.len, hl], fun i r x hr hx => ?_⟩
  have hi := get_lt hr
  rw [h.len] at hi
  rw [callsP_get hi] at hx
  injection hx with hx
  rw [← hx]
  exact (h.at_ i r hr).ext h.ext
theorem bldCall (q : Option Addr) (m d : Nat) (w : World) : (Instr.build 53 [(0, Value.slice q m d)].toArray).run Tryz.prog w = .ok (.agg (eCall.enc ⟨q, m, d, zRep, false⟩).toArray) w := by kernel_rfl
theorem new_words {w w' : World} {q : Option Addr} {d : Nat} {hs : List Hdr} {ls : List (List ByteArray)} (h : NewCmds w w' q d hs ls) : CmdsAt w'.heap hs ls := h.at_.shown
theorem new_reps {w w' : World} {q : Option Addr} {d : Nat} {rs : List RawR} {ts : List Rep} (h : NewReps w w' q d rs ts) : ∀ (i : Nat) r t, rs[i]? = some r → ts[i]? = some t → RepAt w'.heap 5 r t := fun i r t hr ht => (h.at_ i r t hr ht).shown
theorem getD_some {α : Type} {xs : List α} {i : Nat} {x z : α} (h : xs[i]? = some x) : xs.getD i z = x := by rw [List.getD_eq_getElem?_getD, h]; rfl
theorem getD_none {α : Type} {xs : List α} {i : Nat} {z : α} (h : xs.length ≤ i) : xs.getD i z = z := by rw [List.getD_eq_getElem?_getD, List.getElem?_eq_none h]; rfl
end Go.Proofs.YtipbakiecocioaaGreatDoor

/- Audit: a wire's calls; the walks. -/
namespace Go.V
section
variable {P : Program} {n : Nat} {E : Env} {w : World} {Q : Exit → Act → World → Prop}
theorem W_cutRI {ι : Type} {id : Nat} {l : Array Oper} {b : Bool} {y : Code} (E0 : ι → Env) (J : ι → World → Prop) (h1 : W P n (.region id l b) (fun e a w' => e = .normal ∧ ∃ i, Holds n (E0 i) a ∧ J i w') E w) (h2 : ∀ i w', J i w' → W P n y Q (E0 i) w') : W P n (.seq (.region id l b) y) Q E w := by
  unfold W at *
  exact fun a ha => wp_seq (wp_mono (h1 a ha) (fun e a w' ⟨he, i, hh, hj⟩ => by subst he; exact h2 i w' hj a hh))
end
end Go.V
namespace Go.Proofs.YtipbakiecocioaaGreatDoor
open Go.V
attribute [local irreducible] Blk Own hcell IntT SliceT PlainT AggT SizeT StrT FieldT ZeroT EqT ArrT
def wireV (life : Int) (p1 : Option Addr) (n1 c1 : Nat) (p2 : Option Addr) (n2 c2 : Nat) (over : Bool) : Value := .agg #[.int .i64 life, .slice p1 n1 c1, .slice p2 n2 c2, .bool over]
set_option maxHeartbeats 4000000 in
theorem calls_spec {life : Int} {over : Bool} {p1 p2 : Option Addr} {c1 c2 : Nat} {inp out : List UInt8} {w : World} (hI : Sl w.heap eByte p1 c1 inp) (hO : Sl w.heap eByte p2 c2 out) (hb1 : inp.length ≤ 1000000) (hb2 : out.length ≤ 1000000) (hU : Utf w) (hT : Pow w) (hE : Errs w) :
    Ctr Tryz.prog 9 [wireV life p1 inp.length c1 p2 out.length c2 over] w (fun v w' => ∃ q d rs, v = .slice q rs.length d ∧ CallsAt w'.heap q d rs (callsP (runP rs0 inp).out (repsP out).1) ∧ Ext w w') := by
  refine Ctr_of Tryz.func9 Tryz.ntmps9 rfl rfl rfl ?_
  repeat' (first | apply W_seq | apply W_region)
  apply G_on; exact rfl; apply G1_box; exact rfl; exact rfl; exact rfl; intro a1 w1 ha1 hA1 hx1 hs1
  replace hA1 : Blk w1.heap a1 24 [.int .i64 life, .slice p1 inp.length c1, .slice p2 out.length c2, .bool over] := hA1
  have hex : exempt [w1.heap.size, w1.heap.size] a1 = false := by
    have h1 : Nat.ble w1.heap.size a1 = false := by
      cases h : Nat.ble w1.heap.size a1 with
      | false => rfl
      | true => have := Nat.le_of_ble_eq_true h; omega
    unfold exempt
    show (List.contains [w1.heap.size, w1.heap.size] a1 || Nat.ble w1.heap.size a1) = false
    rw [h1, Bool.or_false]
    simp
    omega
  repeat' (first | (refine W_cutRI (id := 1) (ι := Option Addr × Nat × List Hdr) (fun y => [(1, .pointer (some (adr (bx a1) 0))), (3, .slice y.1 y.2.2.length y.2.1)]) (fun y w' => Ext w1 w' ∧ Own w' w1.heap.size 37 eSlc y.1 y.2.1 y.2.2 ∧ ∃ X, WordsAt w'.heap X y.2.2 (runP rs0 inp).out) ?_ ?_) | (apply G_on; exact rfl; (apply G1_assign; exact rfl; exact rfl)) | apply G_nil | apply Post_next)
  · refine W_drawnT 1 [w1.heap.size, w1.heap.size] (.node [1,2] (.alt 0 (.leaf [3,4,5,6,7,8,9]) (.alt 3 (.leaf [0,4,5,6,7,8,9]) .stop))) mixed (by decide +kernel) ?_
    repeat' (first | (apply G_on; exact rfl; first | (apply G1_loadBS; exact T.p22; exact rfl; exact hA1.ext (by repeat first | assumption | exact Ext.rfl' | apply Ext.drew | apply Ext.alloc | refine Ext.trans ?_ (by assumption)); exact rfl; exact hex; exact rfl) | (apply G1_fieldAddr; exact T.f24_1; exact rfl; exact rfl)) | apply G_nil | (refine GT_node ?_) | (apply GT_alt) | (exact GT_stop))
    · obtain ⟨wb, hwb⟩ : ∃ wb, wb = w1.drew := ⟨_, rfl⟩
      have hx1b : Ext w1 wb := by rw [hwb]; exact Ext.drew Ext.rfl'
      apply G_on; exact rfl; apply G1_call (f := 17); exact rfl; exact rfl; exact rfl; exact new_spec; rintro _ w2 ⟨hx2, ar, rfl, hR2⟩; refine ⟨.inr hx2, ?_⟩
      rw [← hwb] at hx2 hR2
      have har := hR2.h0
      have hz1b := hx1b.size
      have hz1 := hx1.size
      repeat' (first | apply G_nil | (refine GT_leaf ?_))
      apply G_on; exact rfl
      apply G1_build1 eSlc (p1, inp.length, c1); exact T.s110; exact rfl; exact rfl; exact rfl; decide; exact rfl; exact rfl
      intro p3 w3 hp3 hs3 _ hx3 hz3
      have hsz4 : w1.heap.size ≤ w3.heap.size := by have := hx2.size; have := hx3.size; omega
      have hfd := feed_spec (hR2.xt hx3) (ks := [(p1, inp.length, c1)]) (parts := [inp]) hs3 (fun x hx' _ => by rw [hp3] at hx'; injection hx' with hx'; rw [← hx']; exact rd_apart hR2 (Nat.le_refl _)) (parts_one (hI.ext ((hx1.trans hx1b).trans (hx2.trans hx3))) (fun x hx' hne e => by
        rcases e with e | e
        · exact hI.ne (b := ar) (by omega) x hx' hne (by rw [e])
        · cases e)) (by simp; omega) (Nat.zero_le _) (TabIs.ext hT (hx1.trans hx1b)) (hE.ext (hx1.trans hx1b)) good0
      have hfl : [] ++ [inp].flatten = inp := by simp
      rw [hfl] at hfd
      skip
      apply G_on; exact rfl; apply G1_callS (f := 18); exact rfl; exact rfl; exact rfl; exact hfd; intro v w4 hv; refine ⟨.inr (frs_toS2 hv.fr (by omega)), ?_⟩
      obtain ⟨hf4, pd, cd, hs, p', c', pw', cw', rfl, hO4, hC4, _, _, hok4, hbad4⟩ := hv
      have hxb : Ext wb w4 := by
        by_cases e : (runP rs0 inp).err = 0
        · exact (hok4 e).ext
        · exact (hbad4 e).ext
      repeat' (first | (apply G_on; exact rfl; first | ((first | apply G1_assign | apply G1_move); exact rfl; exact rfl) | (apply G1_extract; exact rfl; exact rfl; exact rfl)) | apply G_nil)
      exact Post_cutI (pd, cd, hs) ⟨rfl, rfl, trivial⟩ ⟨hx1b.trans hxb, hO4.base hsz4, _, hC4⟩
    · apply G_on; exact rfl
      apply G1_build1 eSlc (p1, inp.length, c1); exact T.s110; exact rfl; exact rfl; exact rfl; decide; exact rfl; exact rfl
      intro p3 wb hp3 hs3 _ hx3 hz3
      have hx1b : Ext w1 wb := (Ext.drew Ext.rfl').trans hx3
      repeat' (first | apply G_nil | (refine GT_leaf ?_))
      apply G_on; exact rfl; apply G1_call (f := 17); exact rfl; exact rfl; exact rfl; exact new_spec; rintro _ w3 ⟨hx2, ar, rfl, hR2⟩; refine ⟨.inr hx2, ?_⟩
      have har := hR2.h0
      have hz1b := hx1b.size
      have hz1 := hx1.size
      have hsz4 : w1.heap.size ≤ w3.heap.size := by have := hx2.size; omega
      have hfd := feed_spec hR2 (ks := [(p1, inp.length, c1)]) (parts := [inp]) (hs3.ext hx2) (fun x hx' _ e => by
        rw [hp3] at hx'
        injection hx' with hx'
        rcases e with e | e
        · rw [← hx'] at e
          have h1 : w1.drew.heap.size < wb.heap.size := by omega
          simp only at e
          omega
        · cases e) (parts_one (hI.ext ((hx1.trans hx1b).trans hx2)) (fun x hx' hne e => by
        rcases e with e | e
        · exact hI.ne (b := ar) (by omega) x hx' hne (by rw [e])
        · cases e)) (by simp; omega) (Nat.zero_le _) (TabIs.ext hT (hx1.trans hx1b)) (hE.ext (hx1.trans hx1b)) good0
      have hfl : [] ++ [inp].flatten = inp := by simp
      rw [hfl] at hfd
      skip
      apply G_on; exact rfl; apply G1_callS (f := 18); exact rfl; exact rfl; exact rfl; exact hfd; intro v w4 hv; refine ⟨.inr (frs_toS2 hv.fr (by omega)), ?_⟩
      obtain ⟨hf4, pd, cd, hs, p', c', pw', cw', rfl, hO4, hC4, _, _, hok4, hbad4⟩ := hv
      have hxb : Ext wb w4 := by
        by_cases e : (runP rs0 inp).err = 0
        · exact (hok4 e).ext
        · exact (hbad4 e).ext
      repeat' (first | (apply G_on; exact rfl; first | ((first | apply G1_assign | apply G1_move); exact rfl; exact rfl) | (apply G1_extract; exact rfl; exact rfl; exact rfl)) | apply G_nil)
      exact Post_cutI (pd, cd, hs) ⟨rfl, rfl, trivial⟩ ⟨hx1b.trans hxb, hO4.base hsz4, _, hC4⟩
  rintro ⟨pd, cd, hs⟩ w5 ⟨hx5, hO5, X, hW5⟩
  simp only at hO5 hW5
  refine W_keep [(1, .pointer (some (adr (bx a1) 0))), (3, .slice pd hs.length cd)] ⟨rfl, rfl, trivial⟩ ?_
  have hA5 := hA1.ext hx5
  have hx05 := hx1.trans hx5
  have hrp := replies_spec (hO.ext hx05) hb2 (hU.ext hx05) (TabIs.ext hT hx05) (hE.ext hx05)
  repeat' (first | (apply G_on; exact rfl; first | (apply G1_fieldAddr; exact T.f24_2; exact rfl; exact rfl) | (apply G1_loadB; exact T.p22; exact rfl; assumption; exact rfl; exact rfl)) | apply W_seq | apply W_region)
  apply G_on; exact rfl; apply G1_call (f := 6); exact rfl; exact rfl; exact rfl; exact hrp; rintro _ w6 ⟨q6, d6, rs, rfl, hN6, hrl⟩; refine ⟨.inl rfl, ?_⟩
  obtain ⟨cmds, hcm⟩ : ∃ cmds, (runP rs0 inp).out = cmds := ⟨_, rfl⟩
  obtain ⟨ts, hts⟩ : ∃ ts, (repsP out).1 = ts := ⟨_, rfl⟩
  have hsmall := run_small _ (r := rs0) (cs := inp) (B := 1000000000) (Nat.lt_succ_self _) (by simp [rs0]) (by omega)
  have hgd := (run_good _ (r := rs0) (cs := inp) (Nat.lt_succ_self _) good0).2.2.2.1
  rw [hcm] at hW5 hsmall hgd
  rw [hts] at hN6
  rw [hcm, hts]
  have hhl := hW5.shown.len
  have hrl2 := hN6.len
  have hx6 := hN6.ext
  have hA6 := hA5.ext hx6
  have hO6 := hO5.ext hx6
  have hW6 := hW5.ext hx6
  have hgeO := hO5.ge
  obtain ⟨ls, hls⟩ : ∃ ls, (if cmds.length < ts.length then cmds ++ [[]] else cmds) = ls := ⟨_, rfl⟩
  have hlsl : ls.length = callN cmds ts := by
    rw [← hls]; unfold callN; split <;> simp
  have hlsg : ∀ i, ls.getD i [] = cmds.getD i [] := fun i => by
    rw [← hls]
    split
    · by_cases h : i < cmds.length
      · rw [List.getD_eq_getElem?_getD, List.getElem?_append_left h, ← List.getD_eq_getElem?_getD]
      · rw [List.getD_eq_getElem?_getD, List.getD_eq_getElem?_getD, List.getElem?_append_right (Nat.le_of_not_lt h), List.getElem?_eq_none (l := cmds) (Nat.le_of_not_lt h)]
        cases i - cmds.length with
        | zero => rfl
        | succ k => rfl
    · rfl
  have hlss : ∀ l ∈ ls, ∀ x ∈ l, x.size ≤ 1000000000 := fun l hl => by
    rw [← hls] at hl
    split at hl
    · rcases List.mem_append.1 hl with hl | hl
      · exact hsmall l hl
      · rw [List.mem_singleton.1 hl]; simp
    · exact hsmall l hl
  have hcn : callN cmds ts ≤ 1000001 := by unfold callN; split <;> omega
  repeat' (first | (refine W_cutC (c := .tmp 29) (ι := Option Addr × Nat × List Hdr) (fun y => [(3, .slice y.1 y.2.2.length y.2.1), (5, .slice q6 rs.length d6)]) (fun y w' => Ext w1 w' ∧ CmdsAt w'.heap y.2.2 ls ∧ Sl w'.heap eSlc y.1 y.2.1 y.2.2 ∧ Sl w'.heap eRep q6 d6 rs ∧ ∀ (i : Nat) r t, rs[i]? = some r → ts[i]? = some t → RepAt w'.heap 5 r t) ?_ ?_) | (apply G_on; exact rfl; first | ((first | apply G1_assign | apply G1_move); exact rfl; exact rfl) | ((first | apply G1_extract | apply G1_gtr); exact rfl; exact rfl; exact rfl) | (apply G1_len; (first | exact T.s26 | exact T.s58); exact rfl; exact rfl)) | apply G_nil | apply Post_next | apply W_seq | apply W_region | (apply W_cond_dec; exact rfl; all_goals (intro h; try (exfalso; omega))) | apply W_skip)
  · have hlt2 : cmds.length < ts.length := by omega
    rw [if_pos hlt2] at hls
    apply G_on; exact rfl
    apply G1_build1 eSlc (none, 0, 0); exact T.s58; exact rfl; exact rfl; exact rfl; decide; exact rfl; exact rfl
    intro p7 w7 hp7 hs7 _ hx7 hz7
    have hz1 : w1.heap.size ≤ w7.heap.size := by have := hx5.size; have := hx6.size; have := hx7.size; omega
    repeat' (first | (apply G_on; exact rfl; first | (apply G1_assign; exact rfl; exact rfl) | (apply G1_appendA; exact T.s58; exact rfl; exact rfl; exact hO6.ext hx7; exact hs7; exact rfl; exact hz1; (simp only [List.length_cons, List.length_nil]; omega); (simp only [List.length_cons, List.length_nil]; omega); exact rfl; exact rfl; exact rfl; intro p8 c8 w8 ha8)) | apply G_nil)
    have hf8 : FrS (fun k => blk pd = some k) w7 w8 := FrS.of_grown ha8.grown (fun k hk => hk)
    have hN7 := hN6.xt hx7
    refine Post_cutI (p8, c8, hs ++ [(none, 0, 0)]) ⟨rfl, rfl, trivial⟩ ⟨((hx5.trans hx6).trans hx7).app ha8 (fun k hk => (hgeO k hk).1), ?_, ha8.own.sl, (hN7.own.fr hf8 (fun k hk e => blk_apart hN7.own (hO6.ext hx7) (by decide) hk e)).sl, fun i r t hr ht => ?_⟩
    · rw [← hls]
      exact CmdsAt.snoc (l := []) ((hW6.ext hx7).fr hf8 (X' := fun _ => False) (fun k _ hs _ => ⟨fun e => own_noStr (hO6.ext hx7) (by decide) e hs, id⟩)).shown Sl.nil
    · refine ((hN7.at_ i r t hr ht).hide (S' := fun _ => False) (H' := w8.heap) (fun b hb hl => ⟨id, hf8.block b hl (fun e => hb (.inl (hgeO b e).2))⟩)).shown
  · have hlt2 : ¬ cmds.length < ts.length := by omega
    rw [if_neg hlt2] at hls
    exact Post_cutI (pd, cd, hs) ⟨rfl, rfl, trivial⟩ ⟨hx5.trans hx6, by rw [← hls]; exact hW6.shown, hO6.sl, hN6.own.sl, fun i r t hr ht => (hN6.at_ i r t hr ht).shown⟩
  clear hls hW6 hO6 hO5 hW5 hN6 hA6 hA5
  rintro ⟨pe, ce, hz⟩ w7 ⟨hx7, hC7, hS7, hR7, hT7⟩
  simp only at hC7 hS7
  refine W_keep [(3, .slice pe hz.length ce), (5, .slice q6 rs.length d6)] ⟨rfl, rfl, trivial⟩ ?_
  have hzl := hC7.len
  have hokS := hS7.ok
  have hokR := hR7.ok
  repeat' (first | (apply G_on; exact rfl; first | (apply G1_move; exact rfl; exact rfl) | (apply G1_len; exact T.s58; exact rfl; exact rfl)) | apply W_seq | apply W_region)
  apply G_on; exact rfl
  apply G1_make0 eCall; exact T.s32; exact rfl; exact rfl; exact rfl; omega; omega; omega; exact rfl; exact rfl
  intro p8 w8 hO8 hx8 hs8
  repeat' (first | (apply G_on; exact rfl; first | ((first | apply G1_assign | apply G1_move); exact rfl; exact rfl) | (apply G1_len; exact T.s58; exact rfl; exact rfl)) | apply G_nil | apply Post_next | apply W_seq | apply W_region | apply W_block)
  have hx07 := hx1.trans hx7
  refine W_loop (ι := Nat × Option Addr × Nat × List RawC) (fun y => [(5, .slice q6 rs.length d6), (7, .slice y.2.1 y.2.2.2.length y.2.2.1), (36, .slice pe hz.length ce), (37, .int .i64 (hz.length : Int)), (38, .int .i64 (y.1 : Int))])
    (fun y w' => y.1 ≤ hz.length ∧ MakeI w7 w' y.2.1 y.2.2.1 y.2.2.2 cmds ts y.1) (fun y => hz.length - y.1) (0, p8, hz.length, []) ⟨rfl, by simp; rfl, rfl, rfl, rfl, trivial⟩
    ⟨Nat.zero_le _, ⟨by first | exact hx8 | exact hx8.trans (by repeat first | assumption | exact Ext.rfl' | apply Ext.drew | apply Ext.alloc | refine Ext.trans ?_ (by assumption)), by first | exact hO8 | exact hO8.ext (by repeat first | assumption | exact Ext.rfl' | apply Ext.drew | apply Ext.alloc | refine Ext.trans ?_ (by assumption)), rfl, fun j r hj => by simp at hj⟩⟩ ?_
  rintro ⟨i, pc, cc, rcs⟩ w9 ⟨hi, hM⟩
  simp only at hi hM
  refine W_keep [(5, .slice q6 rs.length d6), (7, .slice pc rcs.length cc), (36, .slice pe hz.length ce), (37, .int .i64 (hz.length : Int)), (38, .int .i64 (i : Int))] ⟨rfl, rfl, rfl, rfl, rfl, trivial⟩ ?_
  have hx79 := hM.ext
  have hml := hM.len
  by_cases hlt : i < hz.length
  rotate_left
  · have hin : i = callN cmds ts := by omega
    rw [hin] at hM
    repeat' (first | (apply G_on; exact rfl; first | ((first | apply G1_assign | apply G1_move); exact rfl; exact rfl) | (apply G1_lss; exact rfl; exact rfl; exact rfl)) | apply G_nil | apply Post_next | apply W_seq | apply W_region | (apply W_cond_dec; exact rfl; all_goals (intro h; try (exfalso; omega))) | apply W_exit | apply W_ret | apply Post_then_exit | apply Post_block_exit)
    all_goals try (exfalso; omega)
    refine Post_ret Tryz.results9 ⟨_, _, rfl, rfl, rfl⟩ ?_
    exact ⟨pc, cc, rcs, rfl, (hM.xt (by repeat first | assumption | exact Ext.rfl' | apply Ext.drew | apply Ext.alloc | refine Ext.trans ?_ (by assumption))).done, (hx07.trans hx79).trans (by repeat first | assumption | exact Ext.rfl' | apply Ext.drew | apply Ext.alloc | refine Ext.trans ?_ (by assumption))⟩
  obtain ⟨⟨q1, u1, d1⟩, hq1⟩ := get_some hlt
  obtain ⟨l, hl⟩ := get_some (xs := ls) (k := i) (by omega)
  obtain ⟨e1, hSl⟩ := hC7.get i _ l hq1 hl
  simp only at e1 hSl
  have hgi : cmds.getD i [] = l := by rw [← hlsg, getD_some hl]
  have hS9 := hS7.ext hx79
  have hR9 := hR7.ext hx79
  repeat' (first | (apply G_on; exact rfl; first | ((first | apply G1_assign | apply G1_move); exact rfl; exact rfl) | (apply G1_indexAddrJ (q := i); exact T.s58; exact rfl; exact rfl; exact rfl; exact hokS; exact hlt; exact rfl) | (apply G1_loadEl1 (q := i) (e := eSlc) (v := .slice q1 u1 d1); exact T.p37; exact rfl; exact hS9.ext (by repeat first | assumption | exact Ext.rfl' | apply Ext.drew | apply Ext.alloc | refine Ext.trans ?_ (by assumption)); exact hq1; exact rfl; exact rfl; exact rfl) | (apply G1_build (.agg (eCall.enc ⟨q1, u1, d1, zRep, false⟩).toArray); exact rfl; exact bldCall q1 u1 d1; exact rfl) | (apply G1_lss; exact rfl; exact rfl; exact rfl)) | apply G_nil | apply Post_next | apply W_seq | apply W_region | (apply W_cond_dec; exact rfl; all_goals (intro h; try (exfalso; omega))) | apply W_skip | apply W_block)
  all_goals try (exfalso; omega)
  apply G_on; exact rfl; apply G1_alloc; exact T.zero53; exact rfl; exact rfl; intro a10 w10 ha10 hA10 hx10 hs10
  skip
  apply G_on; exact rfl; apply G1_storeB; exact T.z53; exact rfl; exact rfl; exact hA10; exact rfl; exact rfl; (first | exact Nat.le_of_ble_eq_true rfl | (focus (simp [Value.cells]; done))); (first | exact Enc.one _ _ | (focus (simp [Value.oneCell']; done)) | (focus (simp [Value.cells, Value.oneCell']; done)) | exact Enc.oneAgg _ _); exact rfl; (first | exact .inl rfl | exact .inr (by simp [exempt])); exact rfl; intro w11 hA11 hg11 hs11
  replace hA11 : Blk w11.heap a10 53 (eCall.enc ⟨q1, u1, d1, zRep, false⟩) := hA11
  have hx911 : Ext w9 w11 := hx10.own hg11 (fun k hk => by injection hk with hk; omega)
  have hz79 := hx79.size
  have hge := hM.own.ge
  by_cases hir : i < rs.length
  · obtain ⟨r, hr⟩ := get_some hir
    obtain ⟨t, ht⟩ := get_some (xs := ts) (k := i) (by omega)
    have hrt := hT7 i r t hr ht
    repeat' (first | (apply G_on; exact rfl; first | (apply G1_move; exact rfl; exact rfl) | (apply G1_indexAddrJ (q := i); exact T.s26; exact rfl; exact rfl; exact rfl; exact hokR; exact hir; exact rfl) | (apply G1_loadEl (e := eRep) (q := i); exact T.a31; exact rfl; exact hR9.ext (by repeat first | assumption | exact Ext.rfl' | apply Ext.drew | apply Ext.alloc | refine Ext.trans ?_ (by assumption)); exact hr; exact rfl; exact rfl) | (apply G1_fieldAddr; exact T.f53_1; exact rfl; exact rfl) | (apply G1_lss; exact rfl; exact rfl; exact rfl) | (apply G1_len; exact T.s26; exact rfl; exact rfl)) | apply G_nil | apply Post_next | apply W_seq | apply W_region | (apply W_cond_dec; exact rfl; all_goals (intro h; try (exfalso; omega))))
    all_goals try (exfalso; omega)
    apply G_on; exact rfl; apply G1_storeB; exact T.z31; exact rfl; exact rfl; exact hA11; exact rfl; exact rfl; (first | exact Nat.le_of_ble_eq_true rfl | (focus (simp [Value.cells]; done))); (first | exact Enc.one _ _ | (focus (simp [Value.oneCell']; done)) | (focus (simp [Value.cells, Value.oneCell']; done)) | exact Enc.oneAgg _ _); exact rfl; (first | exact .inl rfl | exact .inr (by simp [exempt])); exact rfl; intro w12 hA12 hg12 hs12
    replace hA12 : Blk w12.heap a10 53 (eCall.enc ⟨q1, u1, d1, r, false⟩) := hA12
    repeat' (apply G_on; exact rfl; (apply G1_fieldAddr; exact T.f53_2; exact rfl; exact rfl))
    apply G_on; exact rfl; apply G1_storeB; exact T.z4; exact rfl; exact rfl; exact hA12; exact rfl; exact rfl; (first | exact Nat.le_of_ble_eq_true rfl | (focus (simp [Value.cells]; done))); (first | exact Enc.one _ _ | (focus (simp [Value.oneCell']; done)) | (focus (simp [Value.cells, Value.oneCell']; done)) | exact Enc.oneAgg _ _); exact rfl; (first | exact .inl rfl | exact .inr (by simp [exempt])); exact rfl; intro w13 hA13 hg13 hs13
    replace hA13 : Blk w13.heap a10 53 (eCall.enc ⟨q1, u1, d1, r, true⟩) := hA13
    have hx913 : Ext w9 w13 := (hx911.own hg12 (fun k hk => by injection hk with hk; omega)).own hg13 (fun k hk => by injection hk with hk; omega)
    have hcd : CallAt w7.heap ⟨q1, u1, d1, r, true⟩ (callP cmds ts i) := ⟨e1.trans (by show _ = (cmds.getD i []).length; rw [hgi]), (decide_eq_true (by omega)).symm, by show Sl w7.heap eStr q1 d1 (cmds.getD i []); rw [hgi]; exact hSl, fun x hx => hlss l (List.mem_of_getElem? hl) x (by rw [← hgi]; exact hx), by show RepAt w7.heap 5 r (ts.getD i zT); rw [getD_some ht]; exact hrt⟩
    repeat' (first | (apply G_on; exact rfl; first | (apply G1_move; exact rfl; exact rfl) | (apply G1_loadBAgg; exact T.a53; exact rfl; assumption; exact rfl; exact rfl)) | apply G_nil | apply Post_next | apply W_region)
    apply G_on; exact rfl
    apply G1_build1 eCall (⟨q1, u1, d1, r, true⟩ : RawC); exact T.s32; exact rfl; exact rfl; exact rfl; decide; exact rfl; exact rfl
    intro p14 w14 hp14 hs14 _ hx14 hz14
    have hx914 : Ext w9 w14 := hx913.trans hx14
    have hz914 := hx914.size
    repeat' (first | (apply G_on; exact rfl; first | ((first | apply G1_assign | apply G1_move); exact rfl; exact rfl) | (apply G1_appendA; exact T.s32; exact rfl; exact rfl; exact hM.own.ext hx914; exact hs14; exact rfl; omega; (simp only [List.length_cons, List.length_nil]; omega); (simp only [List.length_cons, List.length_nil]; omega); exact rfl; exact rfl; exact rfl; intro p15 c15 w15 ha15) | (apply G1_add; exact rfl; exact rfl; omega; omega; exact rfl)) | apply G_nil | apply Post_next | apply W_region | apply Post_block_normal)
    exact Post_round (i + 1, p15, c15, rcs ++ [⟨q1, u1, d1, r, true⟩]) ⟨rfl, rfl, rfl, rfl, rfl, trivial⟩ ⟨hlt, hM.push hx914 hcd ha15⟩ (by simp only; omega)
  · have hcd : CallAt w7.heap ⟨q1, u1, d1, zRep, false⟩ (callP cmds ts i) := ⟨e1.trans (by show _ = (cmds.getD i []).length; rw [hgi]), (decide_eq_false (by omega)).symm, by show Sl w7.heap eStr q1 d1 (cmds.getD i []); rw [hgi]; exact hSl, fun x hx => hlss l (List.mem_of_getElem? hl) x (by rw [← hgi]; exact hx), by show RepAt w7.heap 5 zRep (ts.getD i zT); rw [getD_none (by omega)]; exact zRep_at5⟩
    repeat' (first | (apply G_on; exact rfl; first | (apply G1_move; exact rfl; exact rfl) | (apply G1_lss; exact rfl; exact rfl; exact rfl) | (apply G1_len; exact T.s26; exact rfl; exact rfl) | (apply G1_loadBAgg; exact T.a53; exact rfl; assumption; exact rfl; exact rfl)) | apply G_nil | apply Post_next | apply W_seq | apply W_region | (apply W_cond_dec; exact rfl; all_goals (intro h; try (exfalso; omega))) | apply W_skip)
    all_goals try (exfalso; omega)
    apply G_on; exact rfl
    apply G1_build1 eCall (⟨q1, u1, d1, zRep, false⟩ : RawC); exact T.s32; exact rfl; exact rfl; exact rfl; decide; exact rfl; exact rfl
    intro p14 w14 hp14 hs14 _ hx14 hz14
    have hx914 : Ext w9 w14 := hx911.trans hx14
    have hz914 := hx914.size
    repeat' (first | (apply G_on; exact rfl; first | ((first | apply G1_assign | apply G1_move); exact rfl; exact rfl) | (apply G1_appendA; exact T.s32; exact rfl; exact rfl; exact hM.own.ext hx914; exact hs14; exact rfl; omega; (simp only [List.length_cons, List.length_nil]; omega); (simp only [List.length_cons, List.length_nil]; omega); exact rfl; exact rfl; exact rfl; intro p15 c15 w15 ha15) | (apply G1_add; exact rfl; exact rfl; omega; omega; exact rfl)) | apply G_nil | apply Post_next | apply W_region | apply Post_block_normal)
    exact Post_round (i + 1, p15, c15, rcs ++ [⟨q1, u1, d1, zRep, false⟩]) ⟨rfl, rfl, rfl, rfl, rfl, trivial⟩ ⟨hlt, hM.push hx914 hcd ha15⟩ (by simp only; omega)
end Go.Proofs.YtipbakiecocioaaGreatDoor

/- Audit: the document's calls; the walk. -/
namespace Go.Proofs.YtipbakiecocioaaGreatDoor
open Go.V
attribute [local irreducible] Blk Own hcell IntT SliceT PlainT AggT SizeT StrT FieldT ZeroT EqT ArrT

theorem callN_iff {cmds : List (List ByteArray)} {ts : List Rep} {i : Nat} : i < callN cmds ts ↔ i < cmds.length ∨ (i < ts.length ∧ i = cmds.length) := by
  unfold callN
  split <;> omega
set_option maxHeartbeats 4000000 in
theorem rcalls_spec {life : Int} {over : Bool} {p1 p2 : Option Addr} {c1 c2 : Nat} {inp out : List UInt8} {w : World} (hI : Sl w.heap eByte p1 c1 inp) (hO : Sl w.heap eByte p2 c2 out) (hb1 : inp.length ≤ 1000000) (hb2 : out.length ≤ 1000000) :
    Ctr Tryz.prog 11 [wireV life p1 inp.length c1 p2 out.length c2 over] w (fun v w' => ∃ q d rs, v = .slice q rs.length d ∧ CallsAt w'.heap q d rs (callsP (runP rs0 inp).out (repsP out).1) ∧ Ext w w') := by
  refine Ctr_of Tryz.func11 Tryz.ntmps11 rfl rfl rfl ?_
  repeat' (first | apply W_seq | apply W_region)
  apply G_on; exact rfl; apply G1_box; exact rfl; exact rfl; exact rfl; intro a1 w1 ha1 hA1 hx1 hs1
  replace hA1 : Blk w1.heap a1 24 [.int .i64 life, .slice p1 inp.length c1, .slice p2 out.length c2, .bool over] := hA1
  have htd := refTold_spec (hI.ext hx1) hb1
  have htr : toldP inp = ⟨(runP rs0 inp).out, if (runP rs0 inp).err = 0 then (runP rs0 inp).st.held + (runP rs0 inp).rest.length else 0, (runP rs0 inp).err⟩ := told_run _ inp (Nat.lt_succ_self _)
  repeat' (first | (apply G_on; exact rfl; first | (apply G1_assign; exact rfl; exact rfl) | (apply G1_fieldAddr; exact T.f24_1; exact rfl; exact rfl) | (apply G1_loadB; exact T.p22; exact rfl; assumption; exact rfl; exact rfl)) | apply G_nil | apply Post_next | apply W_seq | apply W_region)
  apply G_on; exact rfl; apply G1_call (f := 20); exact rfl; exact rfl; exact rfl; exact htd; rintro _ w2 ⟨pe, ce, hz, rfl, hN2⟩; refine ⟨.inl rfl, ?_⟩
  rw [htr] at hN2 ⊢
  have hx2 := hN2.ext
  have hA2 := hA1.ext hx2
  have hrp := rreplies_spec (hO.ext (hx1.trans hx2)) hb2
  repeat' (first | (apply G_on; exact rfl; first | ((first | apply G1_assign | apply G1_move); exact rfl; exact rfl) | (apply G1_fieldAddr; exact T.f24_2; exact rfl; exact rfl) | (apply G1_loadB; exact T.p22; exact rfl; assumption; exact rfl; exact rfl) | (apply G1_extract; exact rfl; exact rfl; exact rfl)) | apply G_nil | apply Post_next | apply W_seq | apply W_region)
  apply G_on; exact rfl; apply G1_call (f := 7); exact rfl; exact rfl; exact rfl; exact hrp; rintro _ w7 ⟨q6, d6, rs, rfl, hN7, hrl⟩; refine ⟨.inl rfl, ?_⟩
  have hsmall := run_small _ (r := rs0) (cs := inp) (B := 1000000000) (Nat.lt_succ_self _) (by simp [rs0]) (by omega)
  have hgd := (run_good _ (r := rs0) (cs := inp) (Nat.lt_succ_self _) good0).2.2.2.1
  have hx7 := hN7.ext
  have hC7 := (hN2.ext' hx7).at_.shown
  have hS7 := hN2.own.sl.ext hx7
  have hR7 := hN7.own.sl
  have hT7 := new_reps hN7
  have hrl2 := hN7.len
  have hx07 : Ext w w7 := (hx1.trans hx2).trans hx7
  simp only at hC7
  clear hN7 hN2 htr htd hrp
  obtain ⟨cmds, hcm⟩ : ∃ cmds, (runP rs0 inp).out = cmds := ⟨_, rfl⟩
  obtain ⟨ts, hts⟩ : ∃ ts, (repsP out).1 = ts := ⟨_, rfl⟩
  rw [hcm] at hsmall hgd hC7
  rw [hts] at hT7 hrl2
  rw [hcm, hts]
  have hzl := hC7.len
  have hokS := hS7.ok
  have hokR := hR7.ok
  have hcn : callN cmds ts ≤ 1000001 := by unfold callN; split <;> omega
  repeat' (first | (apply G_on; exact rfl; first | ((first | apply G1_assign | apply G1_move); exact rfl; exact rfl) | (apply G1_extract; exact rfl; exact rfl; exact rfl)) | apply G_nil | apply Post_next | apply W_seq | apply W_region | apply W_block)
  refine W_loop (ι := Nat × Option Addr × Nat × List RawC) (fun y => [(3, .slice pe hz.length ce), (6, .slice q6 rs.length d6), (8, .slice y.2.1 y.2.2.2.length y.2.2.1), (9, .int .i64 (y.1 : Int))])
    (fun y w' => y.1 ≤ callN cmds ts ∧ MakeI w7 w' y.2.1 y.2.2.1 y.2.2.2 cmds ts y.1) (fun y => callN cmds ts - y.1) (0, none, 0, []) ⟨rfl, rfl, rfl, rfl, trivial⟩
    ⟨Nat.zero_le _, ⟨(by repeat first | assumption | exact Ext.rfl' | apply Ext.drew | apply Ext.alloc | refine Ext.trans ?_ (by assumption)), Own.nil _ _ _ _, rfl, fun j r hj => by simp at hj⟩⟩ ?_
  rintro ⟨i, pc, cc, rcs⟩ w9 ⟨hi, hM⟩
  simp only at hi hM
  refine W_keep [(3, .slice pe hz.length ce), (6, .slice q6 rs.length d6), (8, .slice pc rcs.length cc), (9, .int .i64 (i : Int))] ⟨rfl, rfl, rfl, rfl, trivial⟩ ?_
  have hx79 := hM.ext
  have hml := hM.len
  have hz79 := hx79.size
  have hiff := @callN_iff cmds ts i
  by_cases hlt : i < callN cmds ts
  rotate_left
  · have hin : i = callN cmds ts := by omega
    have hno := fun h => hlt (hiff.2 h)
    have h1 : ¬ i < cmds.length := fun h => hno (.inl h)
    have h2 : ¬ (i < ts.length ∧ i = cmds.length) := fun h => hno (.inr h)
    rw [hin] at hM
    repeat' (first | (apply G_on; exact rfl; first | ((first | apply G1_assign | apply G1_move); exact rfl; exact rfl) | ((first | apply G1_lss | apply G1_eql); exact rfl; exact rfl; exact rfl) | (apply G1_len; (first | exact T.s58 | exact T.s26); exact rfl; exact rfl) | (apply G1_pick_t; exact rfl; exact rfl; exact rfl) | (apply G1_pick_f; exact rfl; exact rfl; exact rfl)) | apply G_nil | apply Post_next | apply W_seq | apply W_region | (apply W_cond_false; exact rfl) | (apply W_cond_dec; exact rfl; all_goals (intro h; try (exfalso; omega))) | (apply G_off; exact rfl; exact rfl) | ((fail_if_success (apply G_on; exact rfl)); apply G_split_dec; exact rfl; exact rfl; all_goals (intro h; try (exfalso; omega))) | apply W_exit | apply W_ret | apply Post_then_exit | apply Post_block_exit)
    all_goals try (exfalso; omega)
    all_goals
      refine Post_ret Tryz.results11 ⟨_, _, rfl, rfl, rfl⟩ ?_
      exact ⟨pc, cc, rcs, rfl, (hM.xt (by repeat first | assumption | exact Ext.rfl' | apply Ext.drew | apply Ext.alloc | refine Ext.trans ?_ (by assumption))).done, (hx07.trans hx79).trans (by repeat first | assumption | exact Ext.rfl' | apply Ext.drew | apply Ext.alloc | refine Ext.trans ?_ (by assumption))⟩
  have hcase := hiff.1 hlt
  have hS9 := hS7.ext hx79
  have hR9 := hR7.ext hx79
  have hge := hM.own.ge
  by_cases hic : i < cmds.length
  · obtain ⟨⟨q1, u1, d1⟩, hq1⟩ := get_some (xs := hz) (k := i) (by omega)
    obtain ⟨l, hl⟩ := get_some hic
    obtain ⟨e1, hSl⟩ := hC7.get i _ l hq1 hl
    simp only at e1 hSl
    have hgi : cmds.getD i [] = l := getD_some hl
    by_cases hit : i < ts.length
    · obtain ⟨r, hr⟩ := get_some (xs := rs) (k := i) (by omega)
      obtain ⟨t, ht⟩ := get_some hit
      have hrt := hT7 i r t hr ht
      have hcd : CallAt w7.heap ⟨q1, u1, d1, r, true⟩ (callP cmds ts i) := ⟨e1.trans (by show _ = (cmds.getD i []).length; rw [hgi]), (decide_eq_true (by omega)).symm, by show Sl w7.heap eStr q1 d1 (cmds.getD i []); rw [hgi]; exact hSl, fun x hx => hsmall l (List.mem_of_getElem? hl) x (by rw [← hgi]; exact hx), by show RepAt w7.heap 5 r (ts.getD i zT); rw [getD_some ht]; exact hrt⟩
      repeat' (first | (apply G_on; exact rfl; first | (apply G1_move; exact rfl; exact rfl) | (apply G1_lss; exact rfl; exact rfl; exact rfl) | (apply G1_len; exact T.s58; exact rfl; exact rfl) | (apply G1_pick_t; exact rfl; exact rfl; exact rfl)) | apply G_nil | apply Post_next | apply W_seq | apply W_region | (apply W_cond_true; exact rfl) | (apply G_off; exact rfl; exact rfl) | ((fail_if_success (apply G_on; exact rfl)); apply G_split_dec; exact rfl; exact rfl; all_goals (intro h; try (exfalso; omega))) | apply W_skip | apply W_block)
      all_goals try (exfalso; omega)
      all_goals
        apply G_on; exact rfl; apply G1_alloc; exact T.zero53; exact rfl; exact rfl; intro a10 w10 ha10 hA10 hx10 hs10
        replace hA10 : Blk w10.heap a10 53 (eCall.enc ⟨none, 0, 0, zRep, false⟩) := hA10
        have hx910 : Ext w9 w10 := (by repeat first | assumption | exact Ext.rfl' | apply Ext.drew | apply Ext.alloc | refine Ext.trans ?_ (by assumption))
        repeat' (first | (apply G_on; exact rfl; first | (apply G1_move; exact rfl; exact rfl) | (apply G1_indexAddrJ (q := i); exact T.s58; exact rfl; exact rfl; exact rfl; exact hokS; omega; exact rfl) | (apply G1_loadEl1 (q := i) (e := eSlc) (v := .slice q1 u1 d1); exact T.p37; exact rfl; exact hS9.ext hx910; exact hq1; exact rfl; exact rfl; exact rfl) | (apply G1_fieldAddr; exact T.f53_0; exact rfl; exact rfl) | (apply G1_lss; exact rfl; exact rfl; exact rfl) | (apply G1_len; exact T.s58; exact rfl; exact rfl)) | apply G_nil | apply Post_next | apply W_seq | apply W_region | (apply W_cond_dec; exact rfl; all_goals (intro h; try (exfalso; omega))))
        all_goals try (exfalso; omega)
        apply G_on; exact rfl; apply G1_storeB; exact T.z37; exact rfl; exact rfl; exact hA10; exact rfl; exact rfl; (first | exact Nat.le_of_ble_eq_true rfl | (focus (simp [Value.cells]; done))); (first | exact Enc.one _ _ | (focus (simp [Value.oneCell']; done)) | (focus (simp [Value.cells, Value.oneCell']; done)) | exact Enc.oneAgg _ _); exact rfl; (first | exact .inl rfl | exact .inr (by simp [exempt])); exact rfl; intro w11 hA11 hg11 hs11
        replace hA11 : Blk w11.heap a10 53 (eCall.enc ⟨q1, u1, d1, zRep, false⟩) := hA11
        have hx911 : Ext w9 w11 := hx910.own hg11 (fun k hk => by injection hk with hk; have := hx10.size; omega)
        repeat' (first | (apply G_on; exact rfl; first | (apply G1_move; exact rfl; exact rfl) | (apply G1_indexAddrJ (q := i); exact T.s26; exact rfl; exact rfl; exact rfl; exact hokR; omega; exact rfl) | (apply G1_loadEl (e := eRep) (q := i); exact T.a31; exact rfl; exact hR9.ext hx911; exact hr; exact rfl; exact rfl) | (apply G1_fieldAddr; exact T.f53_1; exact rfl; exact rfl) | (apply G1_lss; exact rfl; exact rfl; exact rfl) | (apply G1_len; exact T.s26; exact rfl; exact rfl)) | apply G_nil | apply Post_next | apply W_seq | apply W_region | (apply W_cond_dec; exact rfl; all_goals (intro h; try (exfalso; omega))))
        all_goals try (exfalso; omega)
        apply G_on; exact rfl; apply G1_storeB; exact T.z31; exact rfl; exact rfl; exact hA11; exact rfl; exact rfl; (first | exact Nat.le_of_ble_eq_true rfl | (focus (simp [Value.cells]; done))); (first | exact Enc.one _ _ | (focus (simp [Value.oneCell']; done)) | (focus (simp [Value.cells, Value.oneCell']; done)) | exact Enc.oneAgg _ _); exact rfl; (first | exact .inl rfl | exact .inr (by simp [exempt])); exact rfl; intro w12 hA12 hg12 hs12
        replace hA12 : Blk w12.heap a10 53 (eCall.enc ⟨q1, u1, d1, r, false⟩) := hA12
        repeat' (first | (apply G_on; exact rfl; (apply G1_fieldAddr; exact T.f53_2; exact rfl; exact rfl)) | apply G_nil | apply Post_next | apply W_region)
        apply G_on; exact rfl; apply G1_storeB; exact T.z4; exact rfl; exact rfl; exact hA12; exact rfl; exact rfl; (first | exact Nat.le_of_ble_eq_true rfl | (focus (simp [Value.cells]; done))); (first | exact Enc.one _ _ | (focus (simp [Value.oneCell']; done)) | (focus (simp [Value.cells, Value.oneCell']; done)) | exact Enc.oneAgg _ _); exact rfl; (first | exact .inl rfl | exact .inr (by simp [exempt])); exact rfl; intro w13 hA13 hg13 hs13
        replace hA13 : Blk w13.heap a10 53 (eCall.enc ⟨q1, u1, d1, r, true⟩) := hA13
        have hx913 : Ext w9 w13 := (hx911.own hg12 (fun k hk => by injection hk with hk; have := hx10.size; omega)).own hg13 (fun k hk => by injection hk with hk; have := hx10.size; omega)
        repeat' (first | (apply G_on; exact rfl; first | (apply G1_move; exact rfl; exact rfl) | (apply G1_loadBAgg; exact T.a53; exact rfl; assumption; exact rfl; exact rfl)) | apply G_nil | apply Post_next | apply W_region)
        apply G_on; exact rfl
        apply G1_build1 eCall (⟨q1, u1, d1, r, true⟩ : RawC); exact T.s32; exact rfl; exact rfl; exact rfl; decide; exact rfl; exact rfl
        intro p14 w14 hp14 hs14 _ hx14 hz14
        have hx914 : Ext w9 w14 := (hx913).trans hx14
        have hz914 := hx914.size
        repeat' (first | (apply G_on; exact rfl; first | ((first | apply G1_assign | apply G1_move); exact rfl; exact rfl) | (apply G1_appendA; exact T.s32; exact rfl; exact rfl; exact hM.own.ext hx914; exact hs14; exact rfl; omega; (simp only [List.length_cons, List.length_nil]; omega); (simp only [List.length_cons, List.length_nil]; omega); exact rfl; exact rfl; exact rfl; intro p15 c15 w15 ha15) | (apply G1_add; exact rfl; exact rfl; omega; omega; exact rfl)) | apply G_nil | apply Post_next | apply W_region | apply Post_block_normal)
        exact Post_round (i + 1, p15, c15, rcs ++ [⟨q1, u1, d1, r, true⟩]) ⟨rfl, rfl, rfl, rfl, trivial⟩ ⟨by simp only; omega, hM.push hx914 hcd ha15⟩ (by simp only; omega)
    · have hcd : CallAt w7.heap ⟨q1, u1, d1, zRep, false⟩ (callP cmds ts i) := ⟨e1.trans (by show _ = (cmds.getD i []).length; rw [hgi]), (decide_eq_false (by omega)).symm, by show Sl w7.heap eStr q1 d1 (cmds.getD i []); rw [hgi]; exact hSl, fun x hx => hsmall l (List.mem_of_getElem? hl) x (by rw [← hgi]; exact hx), by show RepAt w7.heap 5 zRep (ts.getD i zT); rw [getD_none (by omega)]; exact zRep_at5⟩
      repeat' (first | (apply G_on; exact rfl; first | (apply G1_move; exact rfl; exact rfl) | (apply G1_lss; exact rfl; exact rfl; exact rfl) | (apply G1_len; exact T.s58; exact rfl; exact rfl) | (apply G1_pick_t; exact rfl; exact rfl; exact rfl)) | apply G_nil | apply Post_next | apply W_seq | apply W_region | (apply W_cond_true; exact rfl) | (apply G_off; exact rfl; exact rfl) | ((fail_if_success (apply G_on; exact rfl)); apply G_split_dec; exact rfl; exact rfl; all_goals (intro h; try (exfalso; omega))) | apply W_skip | apply W_block)
      all_goals try (exfalso; omega)
      all_goals
        apply G_on; exact rfl; apply G1_alloc; exact T.zero53; exact rfl; exact rfl; intro a10 w10 ha10 hA10 hx10 hs10
        replace hA10 : Blk w10.heap a10 53 (eCall.enc ⟨none, 0, 0, zRep, false⟩) := hA10
        have hx910 : Ext w9 w10 := (by repeat first | assumption | exact Ext.rfl' | apply Ext.drew | apply Ext.alloc | refine Ext.trans ?_ (by assumption))
        repeat' (first | (apply G_on; exact rfl; first | (apply G1_move; exact rfl; exact rfl) | (apply G1_indexAddrJ (q := i); exact T.s58; exact rfl; exact rfl; exact rfl; exact hokS; omega; exact rfl) | (apply G1_loadEl1 (q := i) (e := eSlc) (v := .slice q1 u1 d1); exact T.p37; exact rfl; exact hS9.ext hx910; exact hq1; exact rfl; exact rfl; exact rfl) | (apply G1_fieldAddr; exact T.f53_0; exact rfl; exact rfl) | (apply G1_lss; exact rfl; exact rfl; exact rfl) | (apply G1_len; exact T.s58; exact rfl; exact rfl)) | apply G_nil | apply Post_next | apply W_seq | apply W_region | (apply W_cond_dec; exact rfl; all_goals (intro h; try (exfalso; omega))))
        all_goals try (exfalso; omega)
        apply G_on; exact rfl; apply G1_storeB; exact T.z37; exact rfl; exact rfl; exact hA10; exact rfl; exact rfl; (first | exact Nat.le_of_ble_eq_true rfl | (focus (simp [Value.cells]; done))); (first | exact Enc.one _ _ | (focus (simp [Value.oneCell']; done)) | (focus (simp [Value.cells, Value.oneCell']; done)) | exact Enc.oneAgg _ _); exact rfl; (first | exact .inl rfl | exact .inr (by simp [exempt])); exact rfl; intro w11 hA11 hg11 hs11
        replace hA11 : Blk w11.heap a10 53 (eCall.enc ⟨q1, u1, d1, zRep, false⟩) := hA11
        have hx911 : Ext w9 w11 := hx910.own hg11 (fun k hk => by injection hk with hk; have := hx10.size; omega)
        repeat' (first | (apply G_on; exact rfl; first | (apply G1_move; exact rfl; exact rfl) | (apply G1_lss; exact rfl; exact rfl; exact rfl) | (apply G1_len; exact T.s26; exact rfl; exact rfl) | (apply G1_loadBAgg; exact T.a53; exact rfl; assumption; exact rfl; exact rfl)) | apply G_nil | apply Post_next | apply W_seq | apply W_region | (apply W_cond_dec; exact rfl; all_goals (intro h; try (exfalso; omega))) | apply W_skip)
        all_goals try (exfalso; omega)
        skip
        apply G_on; exact rfl
        apply G1_build1 eCall (⟨q1, u1, d1, zRep, false⟩ : RawC); exact T.s32; exact rfl; exact rfl; exact rfl; decide; exact rfl; exact rfl
        intro p14 w14 hp14 hs14 _ hx14 hz14
        have hx914 : Ext w9 w14 := (hx911).trans hx14
        have hz914 := hx914.size
        repeat' (first | (apply G_on; exact rfl; first | ((first | apply G1_assign | apply G1_move); exact rfl; exact rfl) | (apply G1_appendA; exact T.s32; exact rfl; exact rfl; exact hM.own.ext hx914; exact hs14; exact rfl; omega; (simp only [List.length_cons, List.length_nil]; omega); (simp only [List.length_cons, List.length_nil]; omega); exact rfl; exact rfl; exact rfl; intro p15 c15 w15 ha15) | (apply G1_add; exact rfl; exact rfl; omega; omega; exact rfl)) | apply G_nil | apply Post_next | apply W_region | apply Post_block_normal)
        exact Post_round (i + 1, p15, c15, rcs ++ [⟨q1, u1, d1, zRep, false⟩]) ⟨rfl, rfl, rfl, rfl, trivial⟩ ⟨by simp only; omega, hM.push hx914 hcd ha15⟩ (by simp only; omega)
  · obtain ⟨hit, hie⟩ := hcase.resolve_left hic
    obtain ⟨r, hr⟩ := get_some (xs := rs) (k := i) (by omega)
    obtain ⟨t, ht⟩ := get_some hit
    have hrt := hT7 i r t hr ht
    have hgi : cmds.getD i [] = [] := getD_none (by omega)
    have hcd : CallAt w7.heap ⟨none, 0, 0, r, true⟩ (callP cmds ts i) := ⟨by show 0 = (cmds.getD i []).length; rw [hgi]; rfl, (decide_eq_true (by omega)).symm, by show Sl w7.heap eStr none 0 (cmds.getD i []); rw [hgi]; exact Sl.nil, fun x hx => by have h2 : x ∈ cmds.getD i [] := hx; rw [hgi] at h2; simp at h2, by show RepAt w7.heap 5 r (ts.getD i zT); rw [getD_some ht]; exact hrt⟩
    repeat' (first | (apply G_on; exact rfl; first | (apply G1_move; exact rfl; exact rfl) | ((first | apply G1_lss | apply G1_eql); exact rfl; exact rfl; exact rfl) | (apply G1_len; (first | exact T.s58 | exact T.s26); exact rfl; exact rfl) | (apply G1_pick_t; exact rfl; exact rfl; exact rfl) | (apply G1_pick_f; exact rfl; exact rfl; exact rfl)) | apply G_nil | apply Post_next | apply W_seq | apply W_region | (apply W_cond_dec; exact rfl; all_goals (intro h; try (exfalso; omega))) | ((fail_if_success (apply G_on; exact rfl)); apply G_split_dec; exact rfl; exact rfl; all_goals (intro h; try (exfalso; omega))) | apply W_skip | apply W_block)
    all_goals try (exfalso; omega)
    all_goals
      apply G_on; exact rfl; apply G1_alloc; exact T.zero53; exact rfl; exact rfl; intro a10 w10 ha10 hA10 hx10 hs10
      replace hA10 : Blk w10.heap a10 53 (eCall.enc ⟨none, 0, 0, zRep, false⟩) := hA10
      have hx910 : Ext w9 w10 := (by repeat first | assumption | exact Ext.rfl' | apply Ext.drew | apply Ext.alloc | refine Ext.trans ?_ (by assumption))
      repeat' (first | (apply G_on; exact rfl; first | (apply G1_move; exact rfl; exact rfl) | (apply G1_indexAddrJ (q := i); exact T.s26; exact rfl; exact rfl; exact rfl; exact hokR; omega; exact rfl) | (apply G1_loadEl (e := eRep) (q := i); exact T.a31; exact rfl; exact hR9.ext hx910; exact hr; exact rfl; exact rfl) | (apply G1_fieldAddr; exact T.f53_1; exact rfl; exact rfl) | (apply G1_lss; exact rfl; exact rfl; exact rfl) | (apply G1_len; (first | exact T.s58 | exact T.s26); exact rfl; exact rfl)) | apply G_nil | apply Post_next | apply W_seq | apply W_region | (apply W_cond_dec; exact rfl; all_goals (intro h; try (exfalso; omega))) | apply W_skip)
      all_goals try (exfalso; omega)
      apply G_on; exact rfl; apply G1_storeB; exact T.z31; exact rfl; exact rfl; exact hA10; exact rfl; exact rfl; (first | exact Nat.le_of_ble_eq_true rfl | (focus (simp [Value.cells]; done))); (first | exact Enc.one _ _ | (focus (simp [Value.oneCell']; done)) | (focus (simp [Value.cells, Value.oneCell']; done)) | exact Enc.oneAgg _ _); exact rfl; (first | exact .inl rfl | exact .inr (by simp [exempt])); exact rfl; intro w12 hA12 hg12 hs12
      replace hA12 : Blk w12.heap a10 53 (eCall.enc ⟨none, 0, 0, r, false⟩) := hA12
      repeat' (first | (apply G_on; exact rfl; (apply G1_fieldAddr; exact T.f53_2; exact rfl; exact rfl)) | apply G_nil | apply Post_next | apply W_region)
      apply G_on; exact rfl; apply G1_storeB; exact T.z4; exact rfl; exact rfl; exact hA12; exact rfl; exact rfl; (first | exact Nat.le_of_ble_eq_true rfl | (focus (simp [Value.cells]; done))); (first | exact Enc.one _ _ | (focus (simp [Value.oneCell']; done)) | (focus (simp [Value.cells, Value.oneCell']; done)) | exact Enc.oneAgg _ _); exact rfl; (first | exact .inl rfl | exact .inr (by simp [exempt])); exact rfl; intro w13 hA13 hg13 hs13
      replace hA13 : Blk w13.heap a10 53 (eCall.enc ⟨none, 0, 0, r, true⟩) := hA13
      have hx913 : Ext w9 w13 := (hx910.own hg12 (fun k hk => by injection hk with hk; have := hx10.size; omega)).own hg13 (fun k hk => by injection hk with hk; have := hx10.size; omega)
      repeat' (first | (apply G_on; exact rfl; first | (apply G1_move; exact rfl; exact rfl) | (apply G1_loadBAgg; exact T.a53; exact rfl; assumption; exact rfl; exact rfl)) | apply G_nil | apply Post_next | apply W_region)
      apply G_on; exact rfl
      apply G1_build1 eCall (⟨none, 0, 0, r, true⟩ : RawC); exact T.s32; exact rfl; exact rfl; exact rfl; decide; exact rfl; exact rfl
      intro p14 w14 hp14 hs14 _ hx14 hz14
      have hx914 : Ext w9 w14 := (hx913).trans hx14
      have hz914 := hx914.size
      repeat' (first | (apply G_on; exact rfl; first | ((first | apply G1_assign | apply G1_move); exact rfl; exact rfl) | (apply G1_appendA; exact T.s32; exact rfl; exact rfl; exact hM.own.ext hx914; exact hs14; exact rfl; omega; (simp only [List.length_cons, List.length_nil]; omega); (simp only [List.length_cons, List.length_nil]; omega); exact rfl; exact rfl; exact rfl; intro p15 c15 w15 ha15) | (apply G1_add; exact rfl; exact rfl; omega; omega; exact rfl)) | apply G_nil | apply Post_next | apply W_region | apply Post_block_normal)
      exact Post_round (i + 1, p15, c15, rcs ++ [⟨none, 0, 0, r, true⟩]) ⟨rfl, rfl, rfl, rfl, trivial⟩ ⟨by simp only; omega, hM.push hx914 hcd ha15⟩ (by simp only; omega)
end Go.Proofs.YtipbakiecocioaaGreatDoor

/- AuditReads: the law's walk. -/
namespace Go.V
section
variable {P : Program} {n : Nat} {ops : Array Oper} {dr : Nat × List Nat} {l : List Oper} {E : Env} {w : World} {K : Env → World → Prop}
variable {d : Option Nat} {ty : TypeId} {pos : String} {af : Array Edge} {g : Option (Nat × Bool)} {x y : Operand} {t t' : TypeId} {b b' : Bool}
theorem G1_bneF (hu : P.underlying t = some .bool) (hx : E.look x = some (.bool b)) (hy : E.look y = some (.bool b')) (hb : b = b') (hd : dstOk n d = true) (h : G P n ops dr l (E.put d (.bool false)) w K) : G1 P n ops dr ⟨d, .binOp .neq t x y t', ty, pos, af, g⟩ l E w K :=
  G1_bneq hu hx hy hd (by subst hb; simpa using h)
end
end Go.V
namespace Go.Proofs.YtipbakiecocioaaGreatDoor
open Go.V
attribute [local irreducible] Blk Own hcell IntT SliceT PlainT AggT SizeT StrT FieldT ZeroT EqT ArrT
theorem same30_spec {p q : Option Addr} {c d : Nat} {rs rs' : List RawC} {cs : List CallD} {w : World} (hA : CallsAt w.heap p c rs cs) (hB : CallsAt w.heap q d rs' cs) :
    Ctr Tryz.prog 10 [.slice p rs.length c, .slice q rs'.length d] w (fun v w' => v = .bool true ∧ Ext w w') := by
  have n1 := hA.sl.bound
  have n2 := hB.sl.bound
  have l1 := hA.len
  have l2 := hB.len
  have ok1 := hA.sl.ok
  have ok2 := hB.sl.ok
  refine Ctr_of Tryz.func10 Tryz.ntmps10 rfl rfl rfl ?_
  repeat' (first | (apply G_on; exact rfl; first | ((first | apply G1_assign | apply G1_move); exact rfl; exact rfl) | (apply G1_len; exact T.s32; exact rfl; exact rfl) | (apply G1_neq; exact rfl; exact rfl; exact rfl)) | apply G_nil | apply Post_next | apply W_seq | apply W_region | (apply W_cond_dec; exact rfl; all_goals (intro h; try (exfalso; omega))) | apply W_skip | apply W_block)
  all_goals try (exfalso; omega)
  refine W_loop (ι := Nat) (fun y => [(0, .slice p rs.length c), (1, .slice q rs'.length d), (5, .int .i64 (y : Int))]) (fun y w' => Ext w w' ∧ y ≤ rs.length) (fun y => rs.length - y) 0 ⟨rfl, rfl, rfl, trivial⟩ ⟨(by repeat first | assumption | exact Ext.rfl' | apply Ext.drew | apply Ext.alloc | refine Ext.trans ?_ (by assumption)), Nat.zero_le _⟩ ?_
  rintro i w2 ⟨hx2, hi⟩
  refine W_keep [(0, .slice p rs.length c), (1, .slice q rs'.length d), (5, .int .i64 (i : Int))] ⟨rfl, rfl, rfl, trivial⟩ ?_
  by_cases hlt : i < rs.length
  rotate_left
  · repeat' (first | (apply G_on; exact rfl; first | ((first | apply G1_assign | apply G1_move); exact rfl; exact rfl) | (apply G1_len; exact T.s32; exact rfl; exact rfl) | (apply G1_lss; exact rfl; exact rfl; exact rfl)) | apply G_nil | apply Post_next | apply W_seq | apply W_region | (apply W_cond_dec; exact rfl; all_goals (intro h; try (exfalso; omega))) | apply W_exit | apply W_ret | apply Post_then_exit | apply Post_block_exit)
    all_goals try (exfalso; omega)
    refine Post_ret Tryz.results10 ⟨_, _, rfl, rfl, rfl⟩ ?_
    exact ⟨rfl, (by repeat first | assumption | exact Ext.rfl' | apply Ext.drew | apply Ext.alloc | refine Ext.trans ?_ (by assumption))⟩
  obtain ⟨r, hr⟩ := get_some hlt
  obtain ⟨s, hs⟩ := get_some (xs := rs') (k := i) (by omega)
  obtain ⟨x, hx⟩ := get_some (xs := cs) (k := i) (by omega)
  have ha := (hA.get i r x hr hx).ext hx2
  have hb := (hB.get i s x hs hx).ext hx2
  have hA2 := hA.ext hx2
  have hB2 := hB.ext hx2
  have hwd := fun w' (hy : Ext w2 w') => same_words (w := w') (ha.ws.ext hy) (hb.ws.ext hy)
  have hrs := fun w' (hy : Ext w2 w') => refsame_spec 5 5 (ha.rep.ext hy) (hb.rep.ext hy)
  simp only [decide_true] at hwd
  have f0 : (eCall.enc r)[0]? = some (.slice r.q x.words.length r.d) := by rw [← ha.m]; rfl
  have f5 : (eCall.enc r)[5]? = some (.bool x.done) := by rw [← ha.done]; rfl
  have g0 : (eCall.enc s)[0]? = some (.slice s.q x.words.length s.d) := by rw [← hb.m]; rfl
  have g5 : (eCall.enc s)[5]? = some (.bool x.done) := by rw [← hb.done]; rfl
  repeat' (first | (apply G_on; exact rfl; first | ((first | apply G1_assign | apply G1_move); exact rfl; exact rfl) | (apply G1_indexAddrJ (q := i); exact T.s32; exact rfl; exact rfl; exact rfl; (first | exact ok1 | exact ok2); omega; exact rfl) | (apply G1_loadFld (e := eCall) (q := i) (off := 5); exact T.p4; exact rfl; (first | exact hA2.sl.ext (by repeat first | assumption | exact Ext.rfl' | apply Ext.drew | apply Ext.alloc | refine Ext.trans ?_ (by assumption)) | exact hB2.sl.ext (by repeat first | assumption | exact Ext.rfl' | apply Ext.drew | apply Ext.alloc | refine Ext.trans ?_ (by assumption))); (first | exact hr | exact hs); exact rfl; (first | exact f5 | exact g5); exact rfl) | (apply G1_loadFld (e := eCall) (q := i) (off := 0); exact T.p37; exact rfl; (first | exact hA2.sl.ext (by repeat first | assumption | exact Ext.rfl' | apply Ext.drew | apply Ext.alloc | refine Ext.trans ?_ (by assumption)) | exact hB2.sl.ext (by repeat first | assumption | exact Ext.rfl' | apply Ext.drew | apply Ext.alloc | refine Ext.trans ?_ (by assumption))); (first | exact hr | exact hs); exact rfl; (first | exact f0 | exact g0); exact rfl) | (apply G1_bneF (t := 4); exact Tryz.underlying4; exact rfl; exact rfl; exact rfl; exact rfl) | (apply G1_loadElSub (e := eCall) (q := i) (off := 1); exact T.a31; exact rfl; (first | exact hA2.sl.ext (by repeat first | assumption | exact Ext.rfl' | apply Ext.drew | apply Ext.alloc | refine Ext.trans ?_ (by assumption)) | exact hB2.sl.ext (by repeat first | assumption | exact Ext.rfl' | apply Ext.drew | apply Ext.alloc | refine Ext.trans ?_ (by assumption))); (first | exact hr | exact hs); exact rfl; exact rfl; exact rfl; exact rfl) | (apply G1_call (f := 19); exact rfl; exact rfl; exact rfl; exact hwd _ (by repeat first | assumption | exact Ext.rfl' | apply Ext.drew | apply Ext.alloc | refine Ext.trans ?_ (by assumption)); rintro _ w3 ⟨rfl, hx3⟩; refine ⟨(by first | exact .inl rfl | exact .inr (by assumption)), ?_⟩) | (apply G1_call (f := 8); exact rfl; exact rfl; exact rfl; exact hrs _ (by repeat first | assumption | exact Ext.rfl' | apply Ext.drew | apply Ext.alloc | refine Ext.trans ?_ (by assumption)); rintro _ w4 ⟨b4, rfl, hb4, hx4⟩; refine ⟨(by first | exact .inl rfl | exact .inr hx4), ?_⟩) | (apply G1_len; exact T.s32; exact rfl; exact rfl) | (apply G1_lss; exact rfl; exact rfl; exact rfl) | (apply G1_fieldAddr; (first | exact T.f53_2 | exact T.f53_0 | exact T.f53_1); exact rfl; exact rfl) | (apply G1_not_t; exact rfl; exact rfl) | (apply G1_not; exact rfl; exact rfl) | (apply G1_pick_f; exact rfl; exact rfl; exact rfl) | (apply G1_add; exact rfl; exact rfl; omega; omega; exact rfl)) | apply G_nil | apply Post_next | apply W_seq | apply W_region | (apply W_cond_dec; exact rfl; all_goals (intro h; try (exfalso; omega))) | (apply W_cond; exact rfl; all_goals intro h) | refine W_drawn 1 [] [0,1,2,3,4,5,6,7,8,9,10,11,12,13,14,15,16,17,18,19,20,21,22,23,24,25,26,27,28,29,30,31,32,33,34,35,36,37,38] mixed (by decide +kernel) ?_ | apply W_skip | apply W_ret | apply W_block | apply Post_then_ret | apply Post_block_ret | apply Post_block_normal)
  all_goals try (exfalso; rw [hb4.2 rfl] at h; cases h; done)
  exact Post_round (i + 1) ⟨rfl, rfl, rfl, trivial⟩ ⟨(by repeat first | assumption | exact Ext.rfl' | apply Ext.drew | apply Ext.alloc | refine Ext.trans ?_ (by assumption)), hlt⟩ (by omega)
def inB : List UInt8 := [80, 73, 78, 71, 13, 10, 80, 73, 78, 71, 13, 10]
def outB : List UInt8 := [43, 80, 79, 78, 71, 13, 10]
def pingL : List UInt8 := [80, 73, 78, 71]
def pongT : Rep := .mk 0 ⟨#[80, 79, 78, 71]⟩ 0 []
theorem ping_step (m : List UInt8) : stepP rs0 (pingL ++ 13 :: 10 :: m) = .go rs0 6 [[mkStr pingL]] := by
  have h := step_inline (s := pingL) m (by decide) (by decide) (by decide) (by decide)
  rw [if_neg (by decide)] at h
  exact h
theorem runP_ping : (runP rs0 inB).out = [[mkStr pingL], [mkStr pingL]] := by
  have e1 : inB = pingL ++ 13 :: 10 :: (pingL ++ 13 :: 10 :: []) := rfl
  have d1 : (pingL ++ 13 :: 10 :: (pingL ++ 13 :: 10 :: [])).drop 6 = pingL ++ 13 :: 10 :: [] := rfl
  have d2 : (pingL ++ 13 :: 10 :: ([] : List UInt8)).drop 6 = [] := rfl
  rw [e1, run_go (ping_step _), d1, run_go (ping_step _), d2, run_nil]
  rfl
theorem rd_pong : rdT 4 outB = some (pongT, 7) := by
  have h := rdT_w 4 pongT (by decide) ⟨⟨by unfold fit64; decide, by decide, by decide⟩, fun x hx => by simp [pongT, Rep.l] at hx⟩ []
  have e : wT 4 pongT = outB := by decide +kernel
  rw [e, List.append_nil] at h
  exact h
theorem reps_pong : (repsP outB).1 = [pongT] := by
  rw [repsP_some rd_pong]
  have d : outB.drop 7 = [] := rfl
  have hn : rdT 4 ([] : List UInt8) = none := by
    cases h : rdT 4 ([] : List UInt8) with
    | none => rfl
    | some x =>
      have := rdT_len _ _ x.1 x.2 h
      simp at this
      omega
  rw [d, repsP_none hn]
theorem bldWire (p1 : Option Addr) (n1 c1 : Nat) (p2 : Option Addr) (n2 c2 : Nat) (w : World) : (Instr.build 24 [(1, Value.slice p1 n1 c1), (2, Value.slice p2 n2 c2)].toArray).run Tryz.prog w = .ok (wireV 0 p1 n1 c1 p2 n2 c2 false) w := by kernel_rfl
set_option maxHeartbeats 4000000 in
theorem awake30 {w : World} (hU : Utf w) (hT : Pow w) (hE : Errs w) : Ctr Tryz.prog 5 [] w (fun v w' => v = .bool true ∧ Ext w w') := by
  refine Ctr_of Tryz.func5 Tryz.ntmps5 rfl rfl rfl ?_
  repeat' (first | (apply G_on; exact rfl; (apply G1_assign; exact rfl; exact rfl)) | apply G_nil | apply Post_next | apply W_seq | apply W_region)
  apply G_on; exact rfl
  apply G1_buildN eByte inB; exact T.s22; exact rfl; exact rfl; exact rfl; exact rfl; exact rfl; exact Nat.succ_pos _; exact Nat.le_of_ble_eq_true rfl; exact rfl; exact rfl
  intro p2 w2 ho2 hx2 hs2
  obtain ⟨g2, cs2, rfl, hgB2, hV2, _⟩ := ho2.toBlk (fun e => by have := ho2.sl.ok.nul e; cases this)
  apply G_on; exact rfl
  apply G1_convMark (bs := inB); exact Tryz.underlying22; exact Tryz.underlying5; exact rfl; exact hV2; exact ho2.sl; exact rfl; exact rfl; exact rfl
  intro w3 hs3 hg3 hz3
  have hx3 : Ext w w3 := hx2.own hg3 (fun k hk => by injection hk with hk; omega)
  apply G_on; exact rfl
  apply G1_buildN eByte outB; exact T.s22; exact rfl; exact rfl; exact rfl; exact rfl; exact rfl; exact Nat.succ_pos _; exact Nat.le_of_ble_eq_true rfl; exact rfl; exact rfl
  intro p4 w4 ho4 hx4 hs4
  obtain ⟨g4, cs4, rfl, hgB4, hV4, _⟩ := ho4.toBlk (fun e => by have := ho4.sl.ok.nul e; cases this)
  apply G_on; exact rfl
  apply G1_convMark (bs := outB); exact Tryz.underlying22; exact Tryz.underlying5; exact rfl; exact hV4; exact ho4.sl; exact rfl; exact rfl; exact rfl
  intro w5 hs5 hg5 hz5
  have hx35 : Ext w3 w5 := hx4.own hg5 (fun k hk => by injection hk with hk; omega)
  have hx5 := hx3.trans hx35
  have hcl := calls_spec (life := 0) (over := false) (hs3.ext hx35) hs5 (by decide) (by decide) (hU.ext hx5) (TabIs.ext hT hx5) (hE.ext hx5)
  rw [runP_ping, reps_pong] at hcl
  repeat' (apply G_on; exact rfl; (apply G1_build (wireV 0 (bx g2) inB.length inB.length (bx g4) outB.length outB.length false); exact rfl; exact bldWire _ _ _ _ _ _; exact rfl))
  apply G_on; exact rfl; apply G1_call (f := 9); exact rfl; exact rfl; exact rfl; exact hcl; rintro _ w6 ⟨q, d, rs, rfl, hC6, hx6⟩; refine ⟨.inl rfl, ?_⟩
  have hcs : callsP [[mkStr pingL], [mkStr pingL]] [pongT] = [⟨[mkStr pingL], pongT, true⟩, ⟨[mkStr pingL], zT, false⟩] := rfl
  rw [hcs] at hC6
  have hlen : rs.length = 2 := hC6.len
  have hok := hC6.sl.ok
  obtain ⟨r0, hr0⟩ := get_some (xs := rs) (k := 0) (by omega)
  obtain ⟨r1, hr1⟩ := get_some (xs := rs) (k := 1) (by omega)
  have h0 := call_enc (hC6.get 0 r0 _ hr0 rfl)
  have h1 := call_enc (hC6.get 1 r1 _ hr1 rfl)
  have f5 : (eCall.enc r0)[5]? = some (.bool true) := by rw [h0]; rfl
  have f2 : (eCall.enc r0)[2]? = some (.string ⟨#[80, 79, 78, 71]⟩) := by rw [h0]; rfl
  have g5 : (eCall.enc r1)[5]? = some (.bool false) := by rw [h1]; rfl
  rw [hlen] at hok ⊢
  repeat' (first | (apply G_on; exact rfl; first | ((first | apply G1_assign | apply G1_move); exact rfl; exact rfl) | (apply G1_indexAddrJ (q := 0); exact T.s32; exact rfl; exact rfl; exact rfl; exact hok; omega; exact rfl) | (apply G1_indexAddrJ (q := 1); exact T.s32; exact rfl; exact rfl; exact rfl; exact hok; omega; exact rfl) | (apply G1_loadFld (e := eCall) (q := 0) (off := 5); exact T.p4; exact rfl; exact hC6.sl.ext (by repeat first | assumption | exact Ext.rfl' | apply Ext.drew | apply Ext.alloc | refine Ext.trans ?_ (by assumption)); exact hr0; exact rfl; exact f5; exact rfl) | (apply G1_loadFld (e := eCall) (q := 1) (off := 5); exact T.p4; exact rfl; exact hC6.sl.ext (by repeat first | assumption | exact Ext.rfl' | apply Ext.drew | apply Ext.alloc | refine Ext.trans ?_ (by assumption)); exact hr1; exact rfl; exact g5; exact rfl) | (apply G1_loadFld (e := eCall) (q := 0) (off := 2); exact T.p9; exact rfl; exact hC6.sl.ext (by repeat first | assumption | exact Ext.rfl' | apply Ext.drew | apply Ext.alloc | refine Ext.trans ?_ (by assumption)); exact hr0; exact rfl; exact f2; exact rfl) | (apply G1_len; exact T.s32; exact rfl; exact rfl) | (apply G1_eql; exact rfl; exact rfl; exact rfl) | (apply G1_fieldAddr; (first | exact T.f53_2 | exact T.f53_1 | exact T.f31_1); exact rfl; exact rfl) | (apply G1_pick_t; exact rfl; exact rfl; exact rfl) | (apply G1_seql; exact rfl; exact rfl; exact rfl) | (apply G1_not_f; exact rfl; exact rfl)) | apply G_nil | apply Post_next | apply W_seq | apply W_region | apply W_ret)
  all_goals try (exfalso; first | omega | exact absurd rfl (by assumption))
  all_goals
    refine Post_ret Tryz.results5 ⟨_, _, rfl, rfl, rfl⟩ ?_
    exact ⟨rfl, (hx5.trans hx6).trans (by repeat first | assumption | exact Ext.rfl' | apply Ext.drew | apply Ext.alloc | refine Ext.trans ?_ (by assumption))⟩
set_option maxHeartbeats 4000000 in
theorem auditReads_spec {life : Int} {over : Bool} {p1 p2 : Option Addr} {c1 c2 : Nat} {inp out : List UInt8} {w : World} (hI : Sl w.heap eByte p1 c1 inp) (hO : Sl w.heap eByte p2 c2 out) (hU : Utf w) (hT : Pow w) (hE : Errs w) :
    Ctr Tryz.prog 3 [wireV life p1 inp.length c1 p2 out.length c2 over] w (fun v w' => v = .bool true ∧ Ext w w') := by
  have n1 := hI.bound
  have n2 := hO.bound
  have haw := fun w' (hx : Ext w w') => awake30 (hU.ext hx) (TabIs.ext hT hx) (hE.ext hx)
  refine Ctr_of Tryz.func3 Tryz.ntmps3 rfl rfl rfl ?_
  repeat' (first | apply W_seq | apply W_region)
  apply G_on; exact rfl; apply G1_box; exact rfl; exact rfl; exact rfl; intro a1 w1 ha1 hA1 hx1 hs1
  replace hA1 : Blk w1.heap a1 24 [.int .i64 life, .slice p1 inp.length c1, .slice p2 out.length c2, .bool over] := hA1
  repeat' (first | (apply G_on; exact rfl; first | ((first | apply G1_assign | apply G1_move); exact rfl; exact rfl) | (apply G1_call (f := 5); exact rfl; exact rfl; exact rfl; exact haw _ (by repeat first | assumption | exact Ext.rfl' | apply Ext.drew | apply Ext.alloc | refine Ext.trans ?_ (by assumption)); rintro _ w2 ⟨rfl, hx2⟩; refine ⟨(by first | exact .inl rfl | exact .inr (by assumption)), ?_⟩; (first | replace hA1 := hA1.ext hx2 | replace hA1 := hA1.ext ((Ext.drew Ext.rfl').trans hx2))) | (apply G1_not_t; exact rfl; exact rfl) | (apply G1_fieldAddr; (first | exact T.f24_1 | exact T.f24_2); exact rfl; exact rfl) | (apply G1_loadB; exact T.p22; exact rfl; assumption; exact rfl; exact rfl) | (apply G1_len; exact T.s22; exact rfl; exact rfl) | (apply G1_gtr; exact rfl; exact rfl; exact rfl) | (apply G1_pick_t; exact rfl; exact rfl; exact rfl) | (apply G1_pick_f; exact rfl; exact rfl; exact rfl)) | apply G_nil | apply Post_next | apply W_seq | apply W_region | (apply W_cond_true; exact rfl) | (apply W_cond_dec; exact rfl; all_goals (intro h; try (exfalso; omega))) | (apply G_off; exact rfl; exact rfl) | ((fail_if_success (apply G_on; exact rfl)); apply G_split_dec; exact rfl; exact rfl; all_goals (intro h; try (exfalso; omega))) | apply W_skip | apply W_ret | apply Post_then_ret)
  all_goals try (
    refine Post_ret Tryz.results3 ⟨_, _, rfl, rfl, rfl⟩ ?_
    exact ⟨rfl, (by repeat first | assumption | exact Ext.rfl' | apply Ext.drew | apply Ext.alloc | refine Ext.trans ?_ (by assumption))⟩)
  have hx02 : Ext w w2 := (by repeat first | assumption | exact Ext.rfl' | apply Ext.drew | apply Ext.alloc | refine Ext.trans ?_ (by assumption))
  have hA2 := hA1
  have hrp := replies_spec (hO.ext hx02) (by omega) (hU.ext hx02) (TabIs.ext hT hx02) (hE.ext hx02)
  apply G_on; exact rfl; apply G1_call (f := 6); exact rfl; exact rfl; exact rfl; exact hrp; rintro _ w3 ⟨q3, d3, rs, rfl, hN3, hrl⟩; refine ⟨.inl rfl, ?_⟩
  have hx3 := hN3.ext
  have hx03 : Ext w w3 := hx02.trans hx3
  have hA3 := hA2.ext hx3
  have hrr := rreplies_spec (hO.ext hx03) (by omega)
  repeat' (first | (apply G_on; exact rfl; first | ((first | apply G1_assign | apply G1_move); exact rfl; exact rfl) | (apply G1_fieldAddr; exact T.f24_2; exact rfl; exact rfl) | (apply G1_loadB; exact T.p22; exact rfl; assumption; exact rfl; exact rfl) | (apply G1_extract; exact rfl; exact rfl; exact rfl)) | apply G_nil | apply Post_next | apply W_seq | apply W_region)
  apply G_on; exact rfl; apply G1_call (f := 7); exact rfl; exact rfl; exact rfl; exact hrr; rintro _ w4 ⟨q4, d4, rs', rfl, hN4, hrl'⟩; refine ⟨.inl rfl, ?_⟩
  have hx4 := hN4.ext
  have hx04 : Ext w w4 := hx03.trans hx4
  have hA4 := hA3.ext hx4
  have hS3 := hN3.own.sl.ext hx4
  have hS4 := hN4.own.sl
  have hT3 := fun i r t (a : rs[i]? = some r) b => (new_reps hN3 i r t a b).ext hx4
  have hT4 := new_reps hN4
  have e3 := hN3.len
  have e4 := hN4.len
  have ok3 := hS3.ok
  have ok4 := hS4.ok
  repeat' (first | (apply G_on; exact rfl; first | ((first | apply G1_assign | apply G1_move); exact rfl; exact rfl) | (apply G1_len; exact T.s26; exact rfl; exact rfl) | ((first | apply G1_extract | apply G1_neq); exact rfl; exact rfl; exact rfl) | (apply G1_pick_f; exact rfl; exact rfl; exact rfl)) | apply G_nil | apply Post_next | apply W_seq | apply W_region | (apply W_cond_dec; exact rfl; all_goals (intro h; try (exfalso; omega))) | ((fail_if_success (apply G_on; exact rfl)); apply G_split_dec; exact rfl; exact rfl; all_goals (intro h; try (exfalso; omega))) | apply W_skip | apply W_block)
  all_goals try (exfalso; first | omega | exact absurd rfl (by assumption))
  refine W_loop (ι := Nat) (fun y => [(1, .pointer (some (adr (bx a1) 0))), (3, .slice q3 rs.length d3), (5, .slice q4 rs'.length d4), (7, .int .i64 (y : Int))]) (fun y w' => Ext w4 w' ∧ y ≤ rs.length) (fun y => rs.length - y) 0 ⟨rfl, rfl, rfl, rfl, trivial⟩ ⟨(by repeat first | assumption | exact Ext.rfl' | apply Ext.drew | apply Ext.alloc | refine Ext.trans ?_ (by assumption)), Nat.zero_le _⟩ ?_
  rintro i w5 ⟨hx5, hi⟩
  refine W_keep [(1, .pointer (some (adr (bx a1) 0))), (3, .slice q3 rs.length d3), (5, .slice q4 rs'.length d4), (7, .int .i64 (i : Int))] ⟨rfl, rfl, rfl, rfl, trivial⟩ ?_
  by_cases hlt : i < rs.length
  · obtain ⟨r, hr⟩ := get_some hlt
    obtain ⟨s, hs⟩ := get_some (xs := rs') (k := i) (by omega)
    obtain ⟨t, ht⟩ := get_some (xs := (repsP out).1) (k := i) (by omega)
    have ha := (hT3 i r t hr ht).ext hx5
    have hb := (hT4 i s t hs ht).ext hx5
    have hrs := fun w' (hy : Ext w5 w') => refsame_spec 5 5 (ha.ext hy) (hb.ext hy)
    repeat' (first | (apply G_on; exact rfl; first | ((first | apply G1_assign | apply G1_move); exact rfl; exact rfl) | (apply G1_indexAddrJ (q := i); exact T.s26; exact rfl; exact rfl; exact rfl; (first | exact ok3 | exact ok4); omega; exact rfl) | (apply G1_loadEl (e := eRep) (q := i); exact T.a31; exact rfl; (first | exact hS3.ext (by repeat first | assumption | exact Ext.rfl' | apply Ext.drew | apply Ext.alloc | refine Ext.trans ?_ (by assumption)) | exact hS4.ext (by repeat first | assumption | exact Ext.rfl' | apply Ext.drew | apply Ext.alloc | refine Ext.trans ?_ (by assumption))); (first | exact hr | exact hs); exact rfl; exact rfl) | (apply G1_call (f := 8); exact rfl; exact rfl; exact rfl; exact hrs _ (by repeat first | assumption | exact Ext.rfl' | apply Ext.drew | apply Ext.alloc | refine Ext.trans ?_ (by assumption)); rintro _ w6 ⟨b6, rfl, hb6, hx6⟩; refine ⟨(by first | exact .inl rfl | exact .inr hx6), ?_⟩) | (apply G1_not; exact rfl; exact rfl) | (apply G1_len; exact T.s26; exact rfl; exact rfl) | (apply G1_lss; exact rfl; exact rfl; exact rfl) | (apply G1_add; exact rfl; exact rfl; omega; omega; exact rfl)) | apply G_nil | apply Post_next | apply W_seq | apply W_region | (apply W_cond_dec; exact rfl; all_goals (intro h; try (exfalso; omega))) | (apply W_cond; exact rfl; all_goals intro h) | refine W_drawn 1 [] [0,1,2,3,4,5,6,7,8,9] mixed (by decide +kernel) ?_ | apply W_skip | apply W_ret | apply W_block | apply Post_then_ret | apply Post_block_ret | apply Post_block_normal)
    all_goals try (exfalso; rw [hb6.2 rfl] at h; cases h; done)
    all_goals exact Post_round (i + 1) ⟨rfl, rfl, rfl, rfl, trivial⟩ ⟨(by repeat first | assumption | exact Ext.rfl' | apply Ext.drew | apply Ext.alloc | refine Ext.trans ?_ (by assumption)), hlt⟩ (by omega)
  have hx05 : Ext w w5 := hx04.trans hx5
  have hA5 := hA4.ext hx5
  have hcl := calls_spec (life := life) (over := over) (hI.ext hx05) (hO.ext hx05) (by omega) (by omega) (hU.ext hx05) (TabIs.ext hT hx05) (hE.ext hx05)
  have hgd := (run_good _ (r := rs0) (cs := inp) (Nat.lt_succ_self _) good0).2.2.2.1
  have hcn : (callsP (runP rs0 inp).out (repsP out).1).length ≤ 1000000 := by
    unfold callsP
    rw [List.length_map, List.length_range]
    unfold callN
    split <;> omega
  repeat' (first | (apply G_on; exact rfl; first | (apply G1_move; exact rfl; exact rfl) | (apply G1_len; exact T.s26; exact rfl; exact rfl) | (apply G1_lss; exact rfl; exact rfl; exact rfl) | (apply G1_loadBAgg; exact T.a24; exact rfl; assumption; exact rfl; exact rfl)) | apply G_nil | apply Post_next | apply W_seq | apply W_region | (apply W_cond_dec; exact rfl; all_goals (intro h; try (exfalso; omega))) | apply W_exit | apply Post_then_exit | apply Post_block_exit)
  all_goals try (exfalso; omega)
  apply G_on; exact rfl; apply G1_call (f := 9); exact rfl; exact rfl; exact rfl; exact hcl; rintro _ w6 ⟨q6, d6, cs, rfl, hC6, hx6⟩; refine ⟨.inl rfl, ?_⟩
  have hx06 : Ext w w6 := hx05.trans hx6
  have hA6 := hA5.ext hx6
  have hrc := rcalls_spec (life := life) (over := over) (hI.ext hx06) (hO.ext hx06) (by omega) (by omega)
  repeat' (first | (apply G_on; exact rfl; first | ((first | apply G1_assign | apply G1_move); exact rfl; exact rfl) | (apply G1_loadBAgg; exact T.a24; exact rfl; assumption; exact rfl; exact rfl)) | apply G_nil | apply Post_next | apply W_seq | apply W_region)
  all_goals try (exfalso; omega)
  apply G_on; exact rfl; apply G1_call (f := 11); exact rfl; exact rfl; exact rfl; exact hrc; rintro _ w7 ⟨q7, d7, cs', rfl, hC7, hx7⟩; refine ⟨.inl rfl, ?_⟩
  have hx07 : Ext w w7 := hx06.trans hx7
  have hsm := fun w' (hy : Ext w7 w') => same30_spec ((hC6.ext hx7).ext hy) (hC7.ext hy)
  have htl := fun w' (hy : Ext w7 w') => tells_spec ((hC6.ext hx7).ext hy) hcn
  repeat' (first | (apply G_on; exact rfl; first | ((first | apply G1_assign | apply G1_move); exact rfl; exact rfl) | (apply G1_call (f := 10); exact rfl; exact rfl; exact rfl; exact hsm _ (by repeat first | assumption | exact Ext.rfl' | apply Ext.drew | apply Ext.alloc | refine Ext.trans ?_ (by assumption)); rintro _ w8 ⟨rfl, hx8⟩; refine ⟨(by first | exact .inl rfl | exact .inr (by assumption)), ?_⟩) | (apply G1_call (f := 12); exact rfl; exact rfl; exact rfl; exact htl _ (by repeat first | assumption | exact Ext.rfl' | apply Ext.drew | apply Ext.alloc | refine Ext.trans ?_ (by assumption)); rintro _ w9 ⟨rfl, hx9⟩; refine ⟨(by first | exact .inl rfl | exact .inr (by assumption)), ?_⟩) | (apply G1_pick_t; exact rfl; exact rfl; exact rfl)) | apply G_nil | apply Post_next | apply W_ret)
  all_goals try (exfalso; first | omega | exact absurd rfl (by assumption))
  all_goals
    refine Post_ret Tryz.results3 ⟨_, _, rfl, rfl, rfl⟩ ?_
    exact ⟨rfl, (by repeat first | assumption | exact Ext.rfl' | apply Ext.drew | apply Ext.alloc | refine Ext.trans ?_ (by assumption))⟩
end Go.Proofs.YtipbakiecocioaaGreatDoor
