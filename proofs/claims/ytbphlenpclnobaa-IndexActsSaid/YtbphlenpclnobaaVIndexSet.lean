/- (*Index).Set. -/
import Derived.Test.YtbphlenpclnobaaVIndexRem
namespace Go.V
abbrev KV := ByteArray × List Ver
def kv (e : Ent) : KV := (e.key, e.vs)
def cont (bl : List Blok) : List KV := (bl.flatMap Blok.es).map kv
def SortedK (L : List KV) : Prop := L.Pairwise (fun a b => blt a.1 b.1 = true)
theorem sortedE_iff {es : List Ent} : SortedE es ↔ SortedK (es.map kv) := by
  unfold SortedE SortedK; rw [List.pairwise_map]; rfl
/-- with the chain of key set to vs -/
def setL (L : List KV) (key : ByteArray) (vs : List Ver) : List KV := L.filter (fun x => blt x.1 key) ++ (if vs = [] then [] else [(key, vs)]) ++ L.filter (fun x => blt key x.1)
theorem filt_all {α : Type} {p : α → Bool} {l : List α} (h : ∀ x ∈ l, p x = true) : l.filter p = l := List.filter_eq_self.2 h
theorem filt_none {α : Type} {p : α → Bool} {l : List α} (h : ∀ x ∈ l, p x = false) : l.filter p = [] := List.filter_eq_nil_iff.2 (fun x hx => by rw [h x hx]; decide)
theorem setL_new {X Y : List KV} {key : ByteArray} {vs : List Ver} (hX : ∀ x ∈ X, blt x.1 key = true) (hY : ∀ y ∈ Y, blt key y.1 = true) : setL (X ++ Y) key vs = X ++ (if vs = [] then [] else [(key, vs)]) ++ Y := by
  unfold setL
  rw [List.filter_append, List.filter_append, filt_all hX, filt_none (l := Y) (fun y hy => blt_asymm (hY y hy)), filt_none (l := X) (fun x hx => blt_asymm (hX x hx)), filt_all hY]
  simp
theorem setL_old {X Y : List KV} {key : ByteArray} {vs v0 : List Ver} (hX : ∀ x ∈ X, blt x.1 key = true) (hY : ∀ y ∈ Y, blt key y.1 = true) : setL (X ++ (key, v0) :: Y) key vs = X ++ (if vs = [] then [] else [(key, vs)]) ++ Y := by
  have := setL_new (vs := vs) hX hY
  unfold setL at *
  rw [List.filter_append, List.filter_append] at this ⊢
  rw [List.filter_cons_of_neg (by simp [blt_irrefl]), List.filter_cons_of_neg (by simp [blt_irrefl])]
  exact this
theorem setL_sorted {L : List KV} {key : ByteArray} {vs : List Ver} (h : SortedK L) : SortedK (setL L key vs) := by
  unfold setL SortedK at *
  have h1 : (L.filter (fun x => blt x.1 key)).Pairwise (fun a b => blt a.1 b.1 = true) := h.sublist List.filter_sublist
  have h2 : (L.filter (fun x => blt key x.1)).Pairwise (fun a b => blt a.1 b.1 = true) := h.sublist List.filter_sublist
  rw [List.pairwise_append, List.pairwise_append]
  refine ⟨⟨h1, ?_, ?_⟩, h2, ?_⟩
  · split
    · exact List.Pairwise.nil
    · exact List.pairwise_singleton _ _
  · intro a ha b hb
    split at hb
    · simp at hb
    · simp at hb; subst hb; exact (List.mem_filter.1 ha).2
  · intro a ha b hb
    have hb' := (List.mem_filter.1 hb).2
    rcases List.mem_append.1 ha with ha | ha
    · exact blt_trans (List.mem_filter.1 ha).2 hb'
    · split at ha
      · simp at ha
      · simp at ha; subst ha; exact hb'
theorem setL_len {L : List KV} {key : ByteArray} {vs : List Ver} : (setL L key vs).length ≤ L.length + 1 := by
  unfold setL
  have h1 : (L.filter (fun x => blt x.1 key)).length + (L.filter (fun x => blt key x.1)).length ≤ L.length := by
    induction L with
    | nil => simp
    | cons a L ih =>
      rw [List.filter_cons, List.filter_cons]
      cases h1 : blt a.1 key with
      | true => rw [blt_asymm h1]; simp; omega
      | false => cases h2 : blt key a.1 <;> simp <;> omega
  split <;> simp <;> omega
/-- behind a sorted list's first that is greater all are greater -/
theorem greater_all {Y : List KV} {key : ByteArray} (hs : SortedK Y) (h : ∀ y, Y.head? = some y → blt key y.1 = true) : ∀ y ∈ Y, blt key y.1 = true := by
  cases Y with
  | nil => simp
  | cons a Y =>
    have h0 := h a rfl
    intro y hy
    rcases List.mem_cons.1 hy with rfl | hy
    · exact h0
    · exact blt_trans h0 ((List.pairwise_cons.1 hs).1 y hy)
theorem SortedK.right {X Y : List KV} (h : SortedK (X ++ Y)) : SortedK Y := (List.pairwise_append.1 h).2.1
end Go.V
namespace Go.Proofs.Ytbphlenpclnobaa
open Go.V
attribute [local irreducible] Blk Own hcell IntT SliceT PlainT AggT SizeT StrT FieldT ZeroT EqT ArrT
theorem IxAt.monoF {w : World} {ix : Nat} {F F' : Nat → Prop} {pb : Option Addr} {cb : Nat} {bl : List Blok} (h : IxAt w ix F pb cb bl) (hF : ∀ k, F k → F' k) (ht : ∀ k, F' k → NoB w k) : IxAt w ix F' pb cb bl :=
  ⟨h.box, h.rows, h.blok, h.apart, fun b hb e he => by obtain ⟨rs, hr⟩ := h.ent b hb e he; exact ⟨rs, hr.mono hF⟩, ht, h.low⟩
theorem bld_ent (k : ByteArray) (p : Option Addr) (n c : Nat) (w : World) : (Instr.build 72 [(0, Value.string k), (1, Value.slice p n c)].toArray).run Try.prog w = .ok (.agg #[.string k, .slice p n c]) w := by kernel_rfl
theorem idx_set {w : World} {ix : Nat} {F : Nat → Prop} {pb : Option Addr} {cb : Nat} {bl : List Blok} {key : ByteArray} {p : Option Addr} {c n : Nat} {rs : List RawVer} {vs : List Ver} (hI : IxAt w ix F pb cb bl) (hS : SortedK (cont bl)) (hn : (cont bl).length ≤ 900) (hC : ChainAt w.heap p c rs vs) (hsm : small_vs vs) (hnl : vs.length = n) :
    Ctr Try.prog 13 [.pointer (some (adr (bx ix) 0)), .string key, .slice p n c] w (fun _ w' => ∃ F' pb' cb' bl', IxAt w' ix F' pb' cb' bl' ∧ cont bl' = setL (cont bl) key vs ∧ (∀ k, F' k → F k ∨ w.heap.size ≤ k) ∧ ChgT ix w w') := by
  have hSE : SortedE (bl.flatMap Blok.es) := sortedE_iff.2 hS
  have hnE : (bl.flatMap Blok.es).length ≤ 1000 := by unfold cont at hn; rw [List.length_map] at hn; omega
  subst hnl
  refine Ctr_of Try.func13 Try.ntmps13 rfl rfl rfl ?_
  repeat' (first | (apply G_on; exact rfl; first | ((first | apply G1_move | apply G1_assign | apply G1_nilCheck); exact rfl; exact rfl) | ((first | apply G1_extract | apply G1_gtr); exact rfl; exact rfl; exact rfl) | (apply G1_len; exact T.s30; exact rfl; exact rfl) | (apply G1_pick_t; exact rfl; exact rfl; exact rfl) | (apply G1_pick_f; exact rfl; exact rfl; exact rfl) | (apply G1_nilCheckF; exact rfl; exact rfl) | (apply G1_fieldAddr; (first | exact T.f67_0 | exact T.f72_1); exact rfl; exact rfl) | (apply G1_loadB; (first | exact T.p65 | exact T.p73); exact rfl; assumption; exact rfl; exact rfl) | (apply G1_loadBS; (first | exact T.p65 | exact T.p73); exact rfl; assumption; exact rfl; (first | assumption | (focus (simp [exempt]; omega))); exact rfl) | (apply G1_loadFld; (first | exact T.p65 | exact T.p73); exact rfl; assumption; assumption; exact rfl; exact rfl; exact rfl) | (apply G1_loadEl1; (first | exact T.p65 | exact T.p73); exact rfl; assumption; assumption; exact rfl; exact rfl; exact rfl) | (apply G1_indexAddrN; exact T.s65; exact rfl; exact rfl; (first | assumption | exact Sl.ok (by assumption) | exact (Own.sl (by assumption)).ok); omega; exact rfl) | (apply G1_indexAddr; exact T.s65; exact rfl; exact rfl; (first | assumption | exact Sl.ok (by assumption) | exact (Own.sl (by assumption)).ok); omega; omega; exact rfl) | (apply G1_indexAddrN; exact T.s73; exact rfl; exact rfl; (first | assumption | exact Sl.ok (by assumption) | exact (Own.sl (by assumption)).ok); omega; exact rfl) | (apply G1_indexAddr; exact T.s73; exact rfl; exact rfl; (first | assumption | exact Sl.ok (by assumption) | exact (Own.sl (by assumption)).ok); omega; omega; exact rfl)) | apply G_nil | apply Post_next | apply W_seq | apply W_region | (apply W_cond_true; exact rfl) | (apply W_cond_false; exact rfl) | (apply W_cond_dec; exact rfl; all_goals (intro h; try (exfalso; omega))) | (apply W_cond; exact rfl; all_goals intro h) | (apply G_off; exact rfl; exact rfl) | ((fail_if_success (apply G_on; exact rfl)); apply G_split_dec; exact rfl; exact rfl; all_goals (intro h; try (exfalso; omega))) | ((fail_if_success (apply G_on; exact rfl)); apply G_split; exact rfl; exact rfl; all_goals intro h) | refine W_drawn 1 [] [0,1,2,3,4,5,6,7,8,9,10,11,12] mixed (by decide +kernel) ?_ | apply W_skip | apply W_exit | apply W_ret | apply W_block | apply Post_then_ret | apply Post_block_ret | apply Post_then_exit | apply Post_block_exit | (apply Post_block_other; exact rfl) | apply Post_block_normal)
  apply G_on; exact rfl; apply G1_call; exact rfl; exact rfl; exact rfl; exact idx_find (key := key) hI hSE hnE; rintro _ w1 ⟨i, j, ok, rfl, hf, hx1⟩; refine ⟨(by first | exact .inl rfl | exact .inr (by assumption)), ?_⟩
  have hI1 := hI.ext hx1
  have z1 := hx1.size
  have hC1 := hC.ext hx1
  have hc1 : ChgT ix w w1 := Chg.ext hx1
  by_cases hv0 : vs.length = 0
  · obtain rfl : vs = [] := List.eq_nil_of_length_eq_zero hv0
    cases ok with
    | false =>
      repeat' (first | (apply G_on; exact rfl; first | ((first | apply G1_move | apply G1_assign | apply G1_nilCheck); exact rfl; exact rfl) | ((first | apply G1_extract | apply G1_gtr); exact rfl; exact rfl; exact rfl) | (apply G1_len; exact T.s30; exact rfl; exact rfl) | (apply G1_pick_t; exact rfl; exact rfl; exact rfl) | (apply G1_pick_f; exact rfl; exact rfl; exact rfl) | (apply G1_nilCheckF; exact rfl; exact rfl) | (apply G1_fieldAddr; (first | exact T.f67_0 | exact T.f72_1); exact rfl; exact rfl) | (apply G1_loadB; (first | exact T.p65 | exact T.p73); exact rfl; assumption; exact rfl; exact rfl) | (apply G1_loadBS; (first | exact T.p65 | exact T.p73); exact rfl; assumption; exact rfl; (first | assumption | (focus (simp [exempt]; omega))); exact rfl) | (apply G1_loadFld; (first | exact T.p65 | exact T.p73); exact rfl; assumption; assumption; exact rfl; exact rfl; exact rfl) | (apply G1_loadEl1; (first | exact T.p65 | exact T.p73); exact rfl; assumption; assumption; exact rfl; exact rfl; exact rfl) | (apply G1_indexAddrN; exact T.s65; exact rfl; exact rfl; (first | assumption | exact Sl.ok (by assumption) | exact (Own.sl (by assumption)).ok); omega; exact rfl) | (apply G1_indexAddr; exact T.s65; exact rfl; exact rfl; (first | assumption | exact Sl.ok (by assumption) | exact (Own.sl (by assumption)).ok); omega; omega; exact rfl) | (apply G1_indexAddrN; exact T.s73; exact rfl; exact rfl; (first | assumption | exact Sl.ok (by assumption) | exact (Own.sl (by assumption)).ok); omega; exact rfl) | (apply G1_indexAddr; exact T.s73; exact rfl; exact rfl; (first | assumption | exact Sl.ok (by assumption) | exact (Own.sl (by assumption)).ok); omega; omega; exact rfl)) | apply G_nil | apply Post_next | apply W_seq | apply W_region | (apply W_cond_true; exact rfl) | (apply W_cond_false; exact rfl) | (apply W_cond_dec; exact rfl; all_goals (intro h; try (exfalso; omega))) | (apply W_cond; exact rfl; all_goals intro h) | (apply G_off; exact rfl; exact rfl) | ((fail_if_success (apply G_on; exact rfl)); apply G_split_dec; exact rfl; exact rfl; all_goals (intro h; try (exfalso; omega))) | ((fail_if_success (apply G_on; exact rfl)); apply G_split; exact rfl; exact rfl; all_goals intro h) | refine W_drawn 1 [] [0,1,2,3,4,5,6,7,8,9,10,11,12] mixed (by decide +kernel) ?_ | apply W_skip | apply W_exit | apply W_ret | apply W_block | apply Post_then_ret | apply Post_block_ret | apply Post_then_exit | apply Post_block_exit | (apply Post_block_other; exact rfl) | apply Post_block_normal)
      refine Post_end Try.results13 (vs := []) rfl ?_
      refine ⟨F, pb, cb, bl, hI1, ?_, fun k hk => .inl hk, hc1⟩
      rcases hf with ⟨_, _, _, h0⟩ | ⟨A, b, B, C, e0, D, h1, h2, h3, h4, h5, h6, h7⟩
      · have := setL_new (X := cont bl) (Y := []) (key := key) (vs := []) (fun x hx => by
          unfold cont at hx; obtain ⟨e, he, rfl⟩ := List.mem_map.1 hx; exact h0 e he) (fun y hy => by cases hy)
        simpa using this.symm
      · have hfl : cont bl = (A.flatMap Blok.es ++ C).map kv ++ (e0 :: (D ++ B.flatMap Blok.es)).map kv := by unfold cont; rw [h1]; simp [h2]
        have hg := greater_all (key := key) (by rw [hfl] at hS; exact hS.right) (fun y hy => by
          simp at hy; subst hy
          rcases blt_total key e0.key with h | h | h
          · exact h
          · rw [h] at h5; simp at h5
          · rw [h] at h7; cases h7)
        have := setL_new (X := (A.flatMap Blok.es ++ C).map kv) (key := key) (vs := []) (fun x hx => by obtain ⟨e, he, rfl⟩ := List.mem_map.1 hx; exact h6 e he) hg
        rw [← hfl] at this
        rw [this, if_pos rfl, List.append_nil, hfl]
    | true =>
      obtain ⟨A, b, B, C, e, D, h1, h2, rfl, rfl, h5, h6⟩ : ∃ A b B C e D, bl = A ++ b :: B ∧ b.es = C ++ e :: D ∧ i = A.length ∧ j = C.length ∧ e.key = key ∧ (∀ x ∈ A.flatMap Blok.es ++ C, blt x.key key = true) := by
        rcases hf with ⟨_, _, h, _⟩ | ⟨A, b, B, C, e0, D, h1, h2, h3, h4, h5, h6, h7⟩
        · cases h
        · exact ⟨A, b, B, C, e0, D, h1, h2, h3, h4, by simpa using h5.symm, h6⟩
      repeat' (first | (apply G_on; exact rfl; first | ((first | apply G1_move | apply G1_assign | apply G1_nilCheck); exact rfl; exact rfl) | ((first | apply G1_extract | apply G1_gtr); exact rfl; exact rfl; exact rfl) | (apply G1_len; exact T.s30; exact rfl; exact rfl) | (apply G1_pick_t; exact rfl; exact rfl; exact rfl) | (apply G1_pick_f; exact rfl; exact rfl; exact rfl) | (apply G1_nilCheckF; exact rfl; exact rfl) | (apply G1_fieldAddr; (first | exact T.f67_0 | exact T.f72_1); exact rfl; exact rfl) | (apply G1_loadB; (first | exact T.p65 | exact T.p73); exact rfl; assumption; exact rfl; exact rfl) | (apply G1_loadBS; (first | exact T.p65 | exact T.p73); exact rfl; assumption; exact rfl; (first | assumption | (focus (simp [exempt]; omega))); exact rfl) | (apply G1_loadFld; (first | exact T.p65 | exact T.p73); exact rfl; assumption; assumption; exact rfl; exact rfl; exact rfl) | (apply G1_loadEl1; (first | exact T.p65 | exact T.p73); exact rfl; assumption; assumption; exact rfl; exact rfl; exact rfl) | (apply G1_indexAddrN; exact T.s65; exact rfl; exact rfl; (first | assumption | exact Sl.ok (by assumption) | exact (Own.sl (by assumption)).ok); omega; exact rfl) | (apply G1_indexAddr; exact T.s65; exact rfl; exact rfl; (first | assumption | exact Sl.ok (by assumption) | exact (Own.sl (by assumption)).ok); omega; omega; exact rfl) | (apply G1_indexAddrN; exact T.s73; exact rfl; exact rfl; (first | assumption | exact Sl.ok (by assumption) | exact (Own.sl (by assumption)).ok); omega; exact rfl) | (apply G1_indexAddr; exact T.s73; exact rfl; exact rfl; (first | assumption | exact Sl.ok (by assumption) | exact (Own.sl (by assumption)).ok); omega; omega; exact rfl)) | apply G_nil | apply Post_next | apply W_seq | apply W_region | (apply W_cond_true; exact rfl) | (apply W_cond_false; exact rfl) | (apply W_cond_dec; exact rfl; all_goals (intro h; try (exfalso; omega))) | (apply W_cond; exact rfl; all_goals intro h) | (apply G_off; exact rfl; exact rfl) | ((fail_if_success (apply G_on; exact rfl)); apply G_split_dec; exact rfl; exact rfl; all_goals (intro h; try (exfalso; omega))) | ((fail_if_success (apply G_on; exact rfl)); apply G_split; exact rfl; exact rfl; all_goals intro h) | refine W_drawn 1 [] [0,1,2,3,4,5,6,7,8,9,10,11,12] mixed (by decide +kernel) ?_ | apply W_skip | apply W_exit | apply W_ret | apply W_block | apply Post_then_ret | apply Post_block_ret | apply Post_then_exit | apply Post_block_exit | (apply Post_block_other; exact rfl) | apply Post_block_normal)
      apply G_on; exact rfl; apply G1_call; exact rfl; exact rfl; exact rfl; exact idx_remove hI1 hnE h1 h2; rintro v2 w2 ⟨pb2, cb2, bl2, hI2, hc2, hf2⟩; refine ⟨(by first | exact .inl rfl | exact .inr (by assumption)), ?_⟩
      repeat' (first | (apply G_on; exact rfl; first | ((first | apply G1_move | apply G1_assign | apply G1_nilCheck); exact rfl; exact rfl) | ((first | apply G1_extract | apply G1_gtr); exact rfl; exact rfl; exact rfl) | (apply G1_len; exact T.s30; exact rfl; exact rfl) | (apply G1_pick_t; exact rfl; exact rfl; exact rfl) | (apply G1_pick_f; exact rfl; exact rfl; exact rfl) | (apply G1_nilCheckF; exact rfl; exact rfl) | (apply G1_fieldAddr; (first | exact T.f67_0 | exact T.f72_1); exact rfl; exact rfl) | (apply G1_loadB; (first | exact T.p65 | exact T.p73); exact rfl; assumption; exact rfl; exact rfl) | (apply G1_loadBS; (first | exact T.p65 | exact T.p73); exact rfl; assumption; exact rfl; (first | assumption | (focus (simp [exempt]; omega))); exact rfl) | (apply G1_loadFld; (first | exact T.p65 | exact T.p73); exact rfl; assumption; assumption; exact rfl; exact rfl; exact rfl) | (apply G1_loadEl1; (first | exact T.p65 | exact T.p73); exact rfl; assumption; assumption; exact rfl; exact rfl; exact rfl) | (apply G1_indexAddrN; exact T.s65; exact rfl; exact rfl; (first | assumption | exact Sl.ok (by assumption) | exact (Own.sl (by assumption)).ok); omega; exact rfl) | (apply G1_indexAddr; exact T.s65; exact rfl; exact rfl; (first | assumption | exact Sl.ok (by assumption) | exact (Own.sl (by assumption)).ok); omega; omega; exact rfl) | (apply G1_indexAddrN; exact T.s73; exact rfl; exact rfl; (first | assumption | exact Sl.ok (by assumption) | exact (Own.sl (by assumption)).ok); omega; exact rfl) | (apply G1_indexAddr; exact T.s73; exact rfl; exact rfl; (first | assumption | exact Sl.ok (by assumption) | exact (Own.sl (by assumption)).ok); omega; omega; exact rfl)) | apply G_nil | apply Post_next | apply W_seq | apply W_region | (apply W_cond_true; exact rfl) | (apply W_cond_false; exact rfl) | (apply W_cond_dec; exact rfl; all_goals (intro h; try (exfalso; omega))) | (apply W_cond; exact rfl; all_goals intro h) | (apply G_off; exact rfl; exact rfl) | ((fail_if_success (apply G_on; exact rfl)); apply G_split_dec; exact rfl; exact rfl; all_goals (intro h; try (exfalso; omega))) | ((fail_if_success (apply G_on; exact rfl)); apply G_split; exact rfl; exact rfl; all_goals intro h) | refine W_drawn 1 [] [0,1,2,3,4,5,6,7,8,9,10,11,12] mixed (by decide +kernel) ?_ | apply W_skip | apply W_exit | apply W_ret | apply W_block | apply Post_then_ret | apply Post_block_ret | apply Post_then_exit | apply Post_block_exit | (apply Post_block_other; exact rfl) | apply Post_block_normal)
      refine Post_end Try.results13 (vs := []) rfl ?_
      refine ⟨F, pb2, cb2, bl2, hI2, ?_, fun k hk => .inl hk, hc1.trans hc2⟩
      have hfl : cont bl = (A.flatMap Blok.es ++ C).map kv ++ (key, e.vs) :: (D ++ B.flatMap Blok.es).map kv := by unfold cont; rw [h1, ← h5]; simp [h2, kv]
      have hg : ∀ y ∈ (D ++ B.flatMap Blok.es).map kv, blt key y.1 = true := by
        rw [hfl] at hS
        exact (List.pairwise_cons.1 hS.right).1
      rw [hfl, setL_old (fun x hx => by obtain ⟨e, he, rfl⟩ := List.mem_map.1 hx; exact h6 e he) hg]
      unfold cont; rw [hf2]; simp
  · have hvne : vs ≠ [] := fun e => hv0 (by rw [e]; rfl)
    cases ok with
    | false =>
      repeat' (first | (apply G_on; exact rfl; first | ((first | apply G1_move | apply G1_assign | apply G1_nilCheck); exact rfl; exact rfl) | ((first | apply G1_extract | apply G1_gtr); exact rfl; exact rfl; exact rfl) | (apply G1_len; exact T.s30; exact rfl; exact rfl) | (apply G1_pick_t; exact rfl; exact rfl; exact rfl) | (apply G1_pick_f; exact rfl; exact rfl; exact rfl) | (apply G1_nilCheckF; exact rfl; exact rfl) | (apply G1_fieldAddr; (first | exact T.f67_0 | exact T.f72_1); exact rfl; exact rfl) | (apply G1_loadB; (first | exact T.p65 | exact T.p73); exact rfl; assumption; exact rfl; exact rfl) | (apply G1_loadBS; (first | exact T.p65 | exact T.p73); exact rfl; assumption; exact rfl; (first | assumption | (focus (simp [exempt]; omega))); exact rfl) | (apply G1_loadFld; (first | exact T.p65 | exact T.p73); exact rfl; assumption; assumption; exact rfl; exact rfl; exact rfl) | (apply G1_loadEl1; (first | exact T.p65 | exact T.p73); exact rfl; assumption; assumption; exact rfl; exact rfl; exact rfl) | (apply G1_indexAddrN; exact T.s65; exact rfl; exact rfl; (first | assumption | exact Sl.ok (by assumption) | exact (Own.sl (by assumption)).ok); omega; exact rfl) | (apply G1_indexAddr; exact T.s65; exact rfl; exact rfl; (first | assumption | exact Sl.ok (by assumption) | exact (Own.sl (by assumption)).ok); omega; omega; exact rfl) | (apply G1_indexAddrN; exact T.s73; exact rfl; exact rfl; (first | assumption | exact Sl.ok (by assumption) | exact (Own.sl (by assumption)).ok); omega; exact rfl) | (apply G1_indexAddr; exact T.s73; exact rfl; exact rfl; (first | assumption | exact Sl.ok (by assumption) | exact (Own.sl (by assumption)).ok); omega; omega; exact rfl)) | apply G_nil | apply Post_next | apply W_seq | apply W_region | (apply W_cond_true; exact rfl) | (apply W_cond_false; exact rfl) | (apply W_cond_dec; exact rfl; all_goals (intro h; try (exfalso; omega))) | (apply W_cond; exact rfl; all_goals intro h) | (apply G_off; exact rfl; exact rfl) | ((fail_if_success (apply G_on; exact rfl)); apply G_split_dec; exact rfl; exact rfl; all_goals (intro h; try (exfalso; omega))) | ((fail_if_success (apply G_on; exact rfl)); apply G_split; exact rfl; exact rfl; all_goals intro h) | apply W_skip | apply W_exit | apply W_ret | apply W_block | apply Post_then_ret | apply Post_block_ret | apply Post_then_exit | apply Post_block_exit | (apply Post_block_other; exact rfl) | apply Post_block_normal)
      all_goals try (exfalso; omega)
      apply G_on; exact rfl; apply G1_call; exact rfl; exact rfl; exact rfl; exact idx_clone hC1 hsm rfl; rintro _ w2 ⟨p2, c2, rs2, rfl, hch, hx2⟩; refine ⟨(by first | exact .inl rfl | exact .inr (by assumption)), ?_⟩
      have hI2 := (hI1.ext hx2).monoF (F' := fun k => F k ∨ (w1.heap.size ≤ k ∧ NoB w2 k)) (fun k hk => .inl hk) (fun k hk => by
        rcases hk with hk | hk
        · exact (hI1.ext hx2).typ k hk
        · exact hk.2)
      obtain ⟨e, he⟩ : ∃ e : Ent, e = ⟨key, p2, c2, vs⟩ := ⟨_, rfl⟩
      have hek : e.key = key := by rw [he]
      have hev : e.vs = vs := by rw [he]
      have hbld : ∀ w, (Instr.build 72 [(0, Value.string key), (1, Value.slice p2 vs.length c2)].toArray).run Try.prog w = .ok (.agg (eEnt.enc e).toArray) w := by
        intro w; rw [he]; exact bld_ent key p2 vs.length c2 w
      repeat' (first | (apply G_on; exact rfl; first | ((first | apply G1_move | apply G1_assign | apply G1_nilCheck); exact rfl; exact rfl) | (apply G1_build; exact rfl; exact hbld; exact rfl) | ((first | apply G1_extract | apply G1_gtr); exact rfl; exact rfl; exact rfl) | (apply G1_len; exact T.s30; exact rfl; exact rfl) | (apply G1_pick_t; exact rfl; exact rfl; exact rfl) | (apply G1_pick_f; exact rfl; exact rfl; exact rfl) | (apply G1_nilCheckF; exact rfl; exact rfl) | (apply G1_fieldAddr; (first | exact T.f67_0 | exact T.f72_1); exact rfl; exact rfl) | (apply G1_loadB; (first | exact T.p65 | exact T.p73); exact rfl; assumption; exact rfl; exact rfl) | (apply G1_loadBS; (first | exact T.p65 | exact T.p73); exact rfl; assumption; exact rfl; (first | assumption | (focus (simp [exempt]; omega))); exact rfl) | (apply G1_loadFld; (first | exact T.p65 | exact T.p73); exact rfl; assumption; assumption; exact rfl; exact rfl; exact rfl) | (apply G1_loadEl1; (first | exact T.p65 | exact T.p73); exact rfl; assumption; assumption; exact rfl; exact rfl; exact rfl) | (apply G1_indexAddrN; exact T.s65; exact rfl; exact rfl; (first | assumption | exact Sl.ok (by assumption) | exact (Own.sl (by assumption)).ok); omega; exact rfl) | (apply G1_indexAddr; exact T.s65; exact rfl; exact rfl; (first | assumption | exact Sl.ok (by assumption) | exact (Own.sl (by assumption)).ok); omega; omega; exact rfl) | (apply G1_indexAddrN; exact T.s73; exact rfl; exact rfl; (first | assumption | exact Sl.ok (by assumption) | exact (Own.sl (by assumption)).ok); omega; exact rfl) | (apply G1_indexAddr; exact T.s73; exact rfl; exact rfl; (first | assumption | exact Sl.ok (by assumption) | exact (Own.sl (by assumption)).ok); omega; omega; exact rfl)) | apply G_nil | apply Post_next | apply W_seq | apply W_region | (apply W_cond_true; exact rfl) | (apply W_cond_false; exact rfl) | (apply W_cond_dec; exact rfl; all_goals (intro h; try (exfalso; omega))) | (apply W_cond; exact rfl; all_goals intro h) | (apply G_off; exact rfl; exact rfl) | ((fail_if_success (apply G_on; exact rfl)); apply G_split_dec; exact rfl; exact rfl; all_goals (intro h; try (exfalso; omega))) | ((fail_if_success (apply G_on; exact rfl)); apply G_split; exact rfl; exact rfl; all_goals intro h) | refine W_drawn 1 [] [0,1,2,3,4,5,6,7,8,9,10,11,12] mixed (by decide +kernel) ?_ | apply W_skip | apply W_exit | apply W_ret | apply W_block | apply Post_then_ret | apply Post_block_ret | apply Post_then_exit | apply Post_block_exit | (apply Post_block_other; exact rfl) | apply Post_block_normal)
      apply G_on; exact rfl; apply G1_call; exact rfl; exact rfl; exact rfl; exact idx_insert (e := e) (rs := rs2) hI2 hnE (by rw [hek]; exact hf) (by rw [he]; exact hch.mono (fun k hk => .inr hk)); rintro v3 w3 ⟨pb3, cb3, bl3, hI3, hc3, X, Y, hX, hY, hx, hy⟩; refine ⟨(by first | exact .inl rfl | exact .inr (by assumption)), ?_⟩
      repeat' (first | (apply G_on; exact rfl; first | ((first | apply G1_move | apply G1_assign | apply G1_nilCheck); exact rfl; exact rfl) | ((first | apply G1_extract | apply G1_gtr); exact rfl; exact rfl; exact rfl) | (apply G1_len; exact T.s30; exact rfl; exact rfl) | (apply G1_pick_t; exact rfl; exact rfl; exact rfl) | (apply G1_pick_f; exact rfl; exact rfl; exact rfl) | (apply G1_nilCheckF; exact rfl; exact rfl) | (apply G1_fieldAddr; (first | exact T.f67_0 | exact T.f72_1); exact rfl; exact rfl) | (apply G1_loadB; (first | exact T.p65 | exact T.p73); exact rfl; assumption; exact rfl; exact rfl) | (apply G1_loadBS; (first | exact T.p65 | exact T.p73); exact rfl; assumption; exact rfl; (first | assumption | (focus (simp [exempt]; omega))); exact rfl) | (apply G1_loadFld; (first | exact T.p65 | exact T.p73); exact rfl; assumption; assumption; exact rfl; exact rfl; exact rfl) | (apply G1_loadEl1; (first | exact T.p65 | exact T.p73); exact rfl; assumption; assumption; exact rfl; exact rfl; exact rfl) | (apply G1_indexAddrN; exact T.s65; exact rfl; exact rfl; (first | assumption | exact Sl.ok (by assumption) | exact (Own.sl (by assumption)).ok); omega; exact rfl) | (apply G1_indexAddr; exact T.s65; exact rfl; exact rfl; (first | assumption | exact Sl.ok (by assumption) | exact (Own.sl (by assumption)).ok); omega; omega; exact rfl) | (apply G1_indexAddrN; exact T.s73; exact rfl; exact rfl; (first | assumption | exact Sl.ok (by assumption) | exact (Own.sl (by assumption)).ok); omega; exact rfl) | (apply G1_indexAddr; exact T.s73; exact rfl; exact rfl; (first | assumption | exact Sl.ok (by assumption) | exact (Own.sl (by assumption)).ok); omega; omega; exact rfl)) | apply G_nil | apply Post_next | apply W_seq | apply W_region | (apply W_cond_true; exact rfl) | (apply W_cond_false; exact rfl) | (apply W_cond_dec; exact rfl; all_goals (intro h; try (exfalso; omega))) | (apply W_cond; exact rfl; all_goals intro h) | (apply G_off; exact rfl; exact rfl) | ((fail_if_success (apply G_on; exact rfl)); apply G_split_dec; exact rfl; exact rfl; all_goals (intro h; try (exfalso; omega))) | ((fail_if_success (apply G_on; exact rfl)); apply G_split; exact rfl; exact rfl; all_goals intro h) | refine W_drawn 1 [] [0,1,2,3,4,5,6,7,8,9,10,11,12] mixed (by decide +kernel) ?_ | apply W_skip | apply W_exit | apply W_ret | apply W_block | apply Post_then_ret | apply Post_block_ret | apply Post_then_exit | apply Post_block_exit | (apply Post_block_other; exact rfl) | apply Post_block_normal)
      refine Post_end Try.results13 (vs := []) rfl ?_
      refine ⟨_, pb3, cb3, bl3, hI3, ?_, fun k hk => ?_, (hc1.trans (Chg.ext hx2)).trans hc3⟩
      · rw [hek] at hx hy
        have hfl : cont bl = X.map kv ++ Y.map kv := by unfold cont; rw [hX]; simp
        have hg := greater_all (key := key) (by rw [hfl] at hS; exact hS.right) (fun y hy' => by
          rw [List.head?_map] at hy'
          obtain ⟨y', h1, h2⟩ := Option.map_eq_some_iff.1 hy'
          obtain ⟨h3, h4⟩ := hy y' h1
          rw [← h2]
          rcases blt_total key y'.key with h | h | h
          · exact h
          · exact absurd h.symm h4
          · rw [h] at h3; cases h3)
        rw [hfl, setL_new (fun x hx' => by obtain ⟨x', h1, rfl⟩ := List.mem_map.1 hx'; exact hx x' h1) hg, if_neg hvne]
        unfold cont; rw [hY]; simp [kv, hek, hev]
      · rcases hk with hk | hk
        · exact .inl hk
        · exact .inr (by omega)
    | true =>
      obtain ⟨A, b, B, C, e, D, h1, h2, rfl, rfl, h5, h6⟩ : ∃ A b B C e D, bl = A ++ b :: B ∧ b.es = C ++ e :: D ∧ i = A.length ∧ j = C.length ∧ e.key = key ∧ (∀ x ∈ A.flatMap Blok.es ++ C, blt x.key key = true) := by
        rcases hf with ⟨_, _, h, _⟩ | ⟨A, b, B, C, e0, D, h1, h2, h3, h4, h5, h6, h7⟩
        · cases h
        · exact ⟨A, b, B, C, e0, D, h1, h2, h3, h4, by simpa using h5.symm, h6⟩
      have hbm : b ∈ bl := by rw [h1]; simp
      have hbi : bl[A.length]? = some b := by rw [h1]; simp
      have hei : b.es[C.length]? = some e := by rw [h2]; simp
      have hbox := hI1.box
      have hrs := hI1.rows.sl
      have hes := (hI1.blok b hbm).1.sl
      have hbb := hrs.bound
      have hbb2 := hes.bound
      have hlen : bl.length = A.length + 1 + B.length := by rw [h1]; simp; omega
      have hlen2 : b.es.length = C.length + 1 + D.length := by rw [h2]; simp; omega
      repeat' (first | (apply G_on; exact rfl; first | ((first | apply G1_move | apply G1_assign | apply G1_nilCheck); exact rfl; exact rfl) | (apply G1_indexAddrN (q := A.length); exact T.s65; exact rfl; exact rfl; exact hrs.ok; omega; exact rfl) | (apply G1_loadEl1 (q := A.length) (e := eBlok); exact T.p73; exact rfl; exact hrs.ext (Ext.drew Ext.rfl'); exact hbi; exact rfl; exact rfl; exact rfl) | ((first | apply G1_extract | apply G1_gtr); exact rfl; exact rfl; exact rfl) | (apply G1_len; exact T.s30; exact rfl; exact rfl) | (apply G1_pick_t; exact rfl; exact rfl; exact rfl) | (apply G1_pick_f; exact rfl; exact rfl; exact rfl) | (apply G1_nilCheckF; exact rfl; exact rfl) | (apply G1_fieldAddr; (first | exact T.f67_0 | exact T.f72_1); exact rfl; exact rfl) | (apply G1_loadB; (first | exact T.p65 | exact T.p73); exact rfl; assumption; exact rfl; exact rfl) | (apply G1_loadBS; (first | exact T.p65 | exact T.p73); exact rfl; assumption; exact rfl; (first | assumption | (focus (simp [exempt]; omega))); exact rfl) | (apply G1_loadFld; (first | exact T.p65 | exact T.p73); exact rfl; assumption; assumption; exact rfl; exact rfl; exact rfl) | (apply G1_loadEl1; (first | exact T.p65 | exact T.p73); exact rfl; assumption; assumption; exact rfl; exact rfl; exact rfl) | (apply G1_indexAddrN; exact T.s65; exact rfl; exact rfl; (first | assumption | exact Sl.ok (by assumption) | exact (Own.sl (by assumption)).ok); omega; exact rfl) | (apply G1_indexAddr; exact T.s65; exact rfl; exact rfl; (first | assumption | exact Sl.ok (by assumption) | exact (Own.sl (by assumption)).ok); omega; omega; exact rfl) | (apply G1_indexAddrN; exact T.s73; exact rfl; exact rfl; (first | assumption | exact Sl.ok (by assumption) | exact (Own.sl (by assumption)).ok); omega; exact rfl) | (apply G1_indexAddr; exact T.s73; exact rfl; exact rfl; (first | assumption | exact Sl.ok (by assumption) | exact (Own.sl (by assumption)).ok); omega; omega; exact rfl)) | apply G_nil | apply Post_next | apply W_seq | apply W_region | (apply W_cond_true; exact rfl) | (apply W_cond_false; exact rfl) | (apply W_cond_dec; exact rfl; all_goals (intro h; try (exfalso; omega))) | (apply W_cond; exact rfl; all_goals intro h) | (apply G_off; exact rfl; exact rfl) | ((fail_if_success (apply G_on; exact rfl)); apply G_split_dec; exact rfl; exact rfl; all_goals (intro h; try (exfalso; omega))) | ((fail_if_success (apply G_on; exact rfl)); apply G_split; exact rfl; exact rfl; all_goals intro h) | refine W_drawn 1 [] [0,1,2,3,4,5,6,7,8,9,10,11,12] mixed (by decide +kernel) ?_ | apply W_skip | apply W_exit | apply W_ret | apply W_block | apply Post_then_ret | apply Post_block_ret | apply Post_then_exit | apply Post_block_exit | (apply Post_block_other; exact rfl) | apply Post_block_normal)
      all_goals try (exfalso; omega)
      apply G_on; exact rfl; apply G1_call; exact rfl; exact rfl; exact rfl; exact idx_clone (hC1.ext (Ext.drew Ext.rfl')) hsm rfl; rintro _ w2 ⟨p2, c2, rs2, rfl, hch, hx2⟩; refine ⟨(by first | exact .inl rfl | exact .inr (by assumption)), ?_⟩
      replace hx2 : Ext w1 w2 := (Ext.drew Ext.rfl').trans hx2
      replace hch : ChainF w2 (fun k => w1.heap.size ≤ k ∧ NoB w2 k) p2 c2 rs2 vs := hch
      have hI2 := (hI1.ext hx2).monoF (F' := fun k => F k ∨ (w1.heap.size ≤ k ∧ NoB w2 k)) (fun k hk => .inl hk) (fun k hk => by
        rcases hk with hk | hk
        · exact (hI1.ext hx2).typ k hk
        · exact hk.2)
      have hob2 := (hI2.blok b hbm).1
      repeat' (first | (apply G_on; exact rfl; first | ((first | apply G1_move | apply G1_assign | apply G1_nilCheck); exact rfl; exact rfl) | (apply G1_indexAddrN (q := C.length); exact T.s73; exact rfl; exact rfl; exact hes.ok; omega; exact rfl) | ((first | apply G1_extract | apply G1_gtr); exact rfl; exact rfl; exact rfl) | (apply G1_len; exact T.s30; exact rfl; exact rfl) | (apply G1_pick_t; exact rfl; exact rfl; exact rfl) | (apply G1_pick_f; exact rfl; exact rfl; exact rfl) | (apply G1_nilCheckF; exact rfl; exact rfl) | (apply G1_fieldAddr; (first | exact T.f67_0 | exact T.f72_1); exact rfl; exact rfl) | (apply G1_loadB; (first | exact T.p65 | exact T.p73); exact rfl; assumption; exact rfl; exact rfl) | (apply G1_loadBS; (first | exact T.p65 | exact T.p73); exact rfl; assumption; exact rfl; (first | assumption | (focus (simp [exempt]; omega))); exact rfl) | (apply G1_loadFld; (first | exact T.p65 | exact T.p73); exact rfl; assumption; assumption; exact rfl; exact rfl; exact rfl) | (apply G1_loadEl1; (first | exact T.p65 | exact T.p73); exact rfl; assumption; assumption; exact rfl; exact rfl; exact rfl) | (apply G1_indexAddrN; exact T.s65; exact rfl; exact rfl; (first | assumption | exact Sl.ok (by assumption) | exact (Own.sl (by assumption)).ok); omega; exact rfl) | (apply G1_indexAddr; exact T.s65; exact rfl; exact rfl; (first | assumption | exact Sl.ok (by assumption) | exact (Own.sl (by assumption)).ok); omega; omega; exact rfl) | (apply G1_indexAddrN; exact T.s73; exact rfl; exact rfl; (first | assumption | exact Sl.ok (by assumption) | exact (Own.sl (by assumption)).ok); omega; exact rfl) | (apply G1_indexAddr; exact T.s73; exact rfl; exact rfl; (first | assumption | exact Sl.ok (by assumption) | exact (Own.sl (by assumption)).ok); omega; omega; exact rfl)) | apply G_nil | apply Post_next | apply W_seq | apply W_region | (apply W_cond_true; exact rfl) | (apply W_cond_false; exact rfl) | (apply W_cond_dec; exact rfl; all_goals (intro h; try (exfalso; omega))) | (apply W_cond; exact rfl; all_goals intro h) | (apply G_off; exact rfl; exact rfl) | ((fail_if_success (apply G_on; exact rfl)); apply G_split_dec; exact rfl; exact rfl; all_goals (intro h; try (exfalso; omega))) | ((fail_if_success (apply G_on; exact rfl)); apply G_split; exact rfl; exact rfl; all_goals intro h) | refine W_drawn 1 [] [0,1,2,3,4,5,6,7,8,9,10,11,12] mixed (by decide +kernel) ?_ | apply W_skip | apply W_exit | apply W_ret | apply W_block | apply Post_then_ret | apply Post_block_ret | apply Post_then_exit | apply Post_block_exit | (apply Post_block_other; exact rfl) | apply Post_block_normal)
      apply G_on; exact rfl
      apply G1_storeEl (off := 1) (q := C.length) (⟨e.key, p2, c2, vs⟩ : Ent); exact T.z30; exact rfl; exact rfl; exact hob2; exact hei; exact rfl; exact rfl; decide; exact rfl; exact rfl; omega; exact rfl; exact rfl; exact rfl
      intro w3 ha3 hz3
      repeat' (first | (apply G_on; exact rfl; first | ((first | apply G1_move | apply G1_assign | apply G1_nilCheck); exact rfl; exact rfl) | ((first | apply G1_extract | apply G1_gtr); exact rfl; exact rfl; exact rfl) | (apply G1_len; exact T.s30; exact rfl; exact rfl) | (apply G1_pick_t; exact rfl; exact rfl; exact rfl) | (apply G1_pick_f; exact rfl; exact rfl; exact rfl) | (apply G1_nilCheckF; exact rfl; exact rfl) | (apply G1_fieldAddr; (first | exact T.f67_0 | exact T.f72_1); exact rfl; exact rfl) | (apply G1_loadB; (first | exact T.p65 | exact T.p73); exact rfl; assumption; exact rfl; exact rfl) | (apply G1_loadBS; (first | exact T.p65 | exact T.p73); exact rfl; assumption; exact rfl; (first | assumption | (focus (simp [exempt]; omega))); exact rfl) | (apply G1_loadFld; (first | exact T.p65 | exact T.p73); exact rfl; assumption; assumption; exact rfl; exact rfl; exact rfl) | (apply G1_loadEl1; (first | exact T.p65 | exact T.p73); exact rfl; assumption; assumption; exact rfl; exact rfl; exact rfl) | (apply G1_indexAddrN; exact T.s65; exact rfl; exact rfl; (first | assumption | exact Sl.ok (by assumption) | exact (Own.sl (by assumption)).ok); omega; exact rfl) | (apply G1_indexAddr; exact T.s65; exact rfl; exact rfl; (first | assumption | exact Sl.ok (by assumption) | exact (Own.sl (by assumption)).ok); omega; omega; exact rfl) | (apply G1_indexAddrN; exact T.s73; exact rfl; exact rfl; (first | assumption | exact Sl.ok (by assumption) | exact (Own.sl (by assumption)).ok); omega; exact rfl) | (apply G1_indexAddr; exact T.s73; exact rfl; exact rfl; (first | assumption | exact Sl.ok (by assumption) | exact (Own.sl (by assumption)).ok); omega; omega; exact rfl)) | apply G_nil | apply Post_next | apply W_seq | apply W_region | (apply W_cond_true; exact rfl) | (apply W_cond_false; exact rfl) | (apply W_cond_dec; exact rfl; all_goals (intro h; try (exfalso; omega))) | (apply W_cond; exact rfl; all_goals intro h) | (apply G_off; exact rfl; exact rfl) | ((fail_if_success (apply G_on; exact rfl)); apply G_split_dec; exact rfl; exact rfl; all_goals (intro h; try (exfalso; omega))) | ((fail_if_success (apply G_on; exact rfl)); apply G_split; exact rfl; exact rfl; all_goals intro h) | refine W_drawn 1 [] [0,1,2,3,4,5,6,7,8,9,10,11,12] mixed (by decide +kernel) ?_ | apply W_skip | apply W_exit | apply W_ret | apply W_block | apply Post_then_ret | apply Post_block_ret | apply Post_then_exit | apply Post_block_exit | (apply Post_block_other; exact rfl) | apply Post_block_normal)
      refine Post_end Try.results13 (vs := []) rfl ?_
      have ho3 := ha3.own
      rw [h2, set_mid] at ho3
      obtain ⟨gb, hgb⟩ := hI2.bk hbm
      obtain ⟨N1, hN1⟩ : ∃ N1 : Blok, N1 = ⟨b.p, b.c, C ++ (⟨e.key, p2, c2, vs⟩ : Ent) :: D⟩ := ⟨_, rfl⟩
      have hI' : IxAt w2 ix (fun k => F k ∨ (w1.heap.size ≤ k ∧ NoB w2 k)) pb cb (A ++ [b] ++ B) := by rw [h1] at hI2; simpa using hI2
      have hmb : ∀ b' ∈ [b], b' ∈ A ++ [b] ++ B := fun b' hb' => by simp at hb'; simp [hb']
      have hc3 : Chg (OwnB ix pb [b]) w2 w3 := Chg.grown ha3.grown (fun k hk => .inr (.inr ⟨b, by simp, hk⟩))
      have hB3 := hI2.box.grown ha3.grown (hob2.neB hI2.box (by decide))
      have hr3 : Go.V.Own w3 0 73 eBlok pb cb bl := hI2.rows.kept ha3.grown (fun a ha e0 => hob2.neT hI2.rows (by decide) a ha e0)
      have hcl : hcell w3.heap (adr pb (A.length * 1 + 0)) = some (.slice b.p b.es.length b.c) := hr3.sl.cell A.length b hbi 0 _ rfl
      have hre : Go.V.Own w3 0 73 eBlok pb cb (A ++ [N1] ++ B) := by
        have hen : ∀ xs ys : List Blok, xs.map eBlok.enc = ys.map eBlok.enc → xs.flatMap eBlok.enc = ys.flatMap eBlok.enc := fun xs ys h => by rw [List.flatMap_def, List.flatMap_def, h]
        have hel : eBlok.enc N1 = eBlok.enc b := by rw [hN1]; show [Value.slice b.p (C ++ (⟨e.key, p2, c2, vs⟩ : Ent) :: D).length b.c] = [Value.slice b.p b.es.length b.c]; rw [h2]; simp
        have h5' : (A ++ [N1] ++ B).flatMap eBlok.enc = bl.flatMap eBlok.enc := by rw [h1]; simp [hel]
        have h6' : (A ++ [N1] ++ B).length = bl.length := by rw [hlen]; simp; omega
        unfold Go.V.Own at hr3 ⊢
        rw [h5', h6']; exact hr3
      have hf3 : (A ++ [N1] ++ B).flatMap Blok.es = (A.flatMap Blok.es ++ C) ++ (⟨e.key, p2, c2, vs⟩ : Ent) :: (D ++ B.flatMap Blok.es) := by simp [hN1]
      have hl3 : bl.length = (A ++ [N1] ++ B).length := by rw [hlen]; simp; omega
      have hn3 : (bl.flatMap Blok.es).length = ((A ++ [N1] ++ B).flatMap Blok.es).length := by rw [hf3, h1]; simp [h2]
      rw [hl3, hn3] at hB3
      refine ⟨_, pb, cb, A ++ [N1] ++ B, hI'.patch hc3 hB3 hre (fun b' hb' => ?_) (List.pairwise_singleton _ _) (fun b' hb' k hk => ?_) (fun k hk => .inr hk) (fun b' hb' x hx => ?_), ?_, fun k hk => ?_, (hc1.trans (Chg.ext hx2)).trans (hI'.chgT (M := [b]) hmb hc3)⟩
      · simp at hb'; rw [hb', hN1]; exact ⟨ho3, by simp⟩
      · simp at hb'; rw [hb', hN1] at hk; exact .inr ⟨b, by simp, hk⟩
      · simp at hb'; rw [hb', hN1] at hx
        simp only [List.mem_append, List.mem_cons] at hx
        have hold : ∀ x, x ∈ b.es → ∃ rs, ChainF w3 (fun k => F k ∨ (w1.heap.size ≤ k ∧ NoB w2 k)) x.p x.c rs x.vs := fun x hx => hI'.keep (M := [b]) hmb hc3 b (by simp) x hx
        rcases hx with hx | hx | hx
        · exact hold x (by rw [h2]; simp [hx])
        · subst hx
          exact ⟨rs2, (hch.mono (fun k hk => .inr hk)).chg hc3 fun k hk hG => (hI'.typ k hk).not (hI'.ixb hmb hG)⟩
        · exact hold x (by rw [h2]; simp [hx])
      · have hfl : cont bl = (A.flatMap Blok.es ++ C).map kv ++ (key, e.vs) :: (D ++ B.flatMap Blok.es).map kv := by unfold cont; rw [h1, ← h5]; simp [h2, kv]
        have hg : ∀ y ∈ (D ++ B.flatMap Blok.es).map kv, blt key y.1 = true := by
          rw [hfl] at hS
          exact (List.pairwise_cons.1 hS.right).1
        rw [hfl, setL_old (fun x hx => by obtain ⟨e, he, rfl⟩ := List.mem_map.1 hx; exact h6 e he) hg, if_neg hvne]
        unfold cont; rw [hf3]; simp [kv, h5]
      · rcases hk with hk | hk
        · exact .inl hk
        · exact .inr (by omega)
end Go.Proofs.Ytbphlenpclnobaa
