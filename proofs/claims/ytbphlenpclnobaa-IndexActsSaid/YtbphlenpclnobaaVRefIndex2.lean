/- The document's index: Get, From; the index's Get. -/
import Derived.Test.YtbphlenpclnobaaVLIndexOrder
import Derived.Test.YtbphlenpclnobaaVSame15
namespace Go.V
theorem key_uniq {L : List KV} (h : SortedK L) {a b : KV} (ha : a ∈ L) (hb : b ∈ L) (e : a.1 = b.1) : a = b := by
  induction L with
  | nil => cases ha
  | cons x L ih =>
    obtain ⟨h1, h2⟩ := List.pairwise_cons.1 h
    rcases List.mem_cons.1 ha with ea | ha'
    · rcases List.mem_cons.1 hb with eb | hb'
      · rw [ea, eb]
      · have := h1 b hb'; rw [← ea, e, blt_irrefl] at this; cases this
    · rcases List.mem_cons.1 hb with eb | hb'
      · have := h1 a ha'; rw [← eb, e, blt_irrefl] at this; cases this
      · exact ih h2 ha' hb'
end Go.V
namespace Go.Proofs.Ytbphlenpclnobaa
open Go.V
attribute [local irreducible] Blk Own hcell IntT SliceT PlainT AggT SizeT StrT FieldT ZeroT EqT ArrT
theorem ix_get_yes {w : World} {ix : Nat} {F : Nat → Prop} {L : List KV} {key : ByteArray} {vs : List Ver} (hI : Ix w ix F L) (hn : L.length ≤ 900) (hk : (key, vs) ∈ L) (hs : small_vs vs) :
    Ctr Try.prog 18 [.pointer (some (adr (bx ix) 0)), .string key] w (fun v w' => ∃ p' c' rs', v = .slice p' vs.length c' ∧ ChainF w' (fun k => w.heap.size ≤ k ∧ NoB w' k) p' c' rs' vs ∧ Ext w w') := by
  obtain ⟨pb, cb, bl, h1, rfl, h3⟩ := hI
  unfold cont at hn hk
  rw [List.length_map] at hn
  obtain ⟨e, he, hek⟩ := List.mem_map.1 hk
  injection hek with e1 e2
  subst e1 e2
  exact idx_get_yes h1 (sortedE_iff.2 h3) (by omega) he hs
theorem atOk_true {es A B : List Ent} {key : ByteArray} (h : AtR es A B key) (hs : SortedK (es.map kv)) : atOk B key = true ↔ ∃ e ∈ es, e.key = key := by
  obtain ⟨rfl, h1, h2⟩ := h
  constructor
  · intro h3
    cases B with
    | nil => simp [atOk] at h3
    | cons e B => exact ⟨e, by simp, by simpa [atOk] using h3⟩
  · rintro ⟨e, he, rfl⟩
    cases B with
    | nil =>
      have := h1 e (by simpa using he); rw [blt_irrefl] at this; cases this
    | cons b B =>
      have h3 := h2 b rfl
      rcases List.mem_append.1 he with he | he
      · have := h1 e he; rw [blt_irrefl] at this; cases this
      · rcases List.mem_cons.1 he with rfl | he
        · simp [atOk]
        · rw [List.map_append] at hs
          have h4 := (List.pairwise_cons.1 hs.right).1 (kv e) (List.mem_map_of_mem he)
          have h5 : blt b.key e.key = true := h4
          rw [h5] at h3; cases h3
theorem rx_get_no {w : World} {rx : Nat} {F : Nat → Prop} {L : List KV} {key : ByteArray} (hR : Rx w rx F L) (hS : SortedK L) (hn : L.length ≤ 900) (hk : key.size ≤ 300) (hks : ∀ x ∈ L, x.1.size ≤ 300) (hno : ∀ x ∈ L, x.1 ≠ key) :
    Ctr Try.prog 21 [.pointer (some (adr (bx rx) 0)), .string key] w (fun v w' => v = .slice none 0 0 ∧ Ext w w') := by
  obtain ⟨pk, ck, pc, cc, es, h1, rfl⟩ := hR
  rw [List.length_map] at hn
  refine Ctr_of Try.func21 Try.ntmps21 rfl rfl rfl ?_
  repeat' (first | (apply G_on; exact rfl; first | ((first | apply G1_assign | apply G1_move | apply G1_nilCheck); exact rfl; exact rfl) | (apply G1_extract; exact rfl; exact rfl; exact rfl) | (apply G1_not_t; exact rfl; exact rfl) | (apply G1_not_f; exact rfl; exact rfl) | (apply G1_not_dec; exact rfl; exact rfl) | (apply G1_not; exact rfl; exact rfl) | (apply G1_nilCheckF; exact rfl; exact rfl) | (apply G1_fieldAddr; exact T.f38_1; exact rfl; exact rfl) | (apply G1_loadB; (first | exact T.p36 | exact T.p30); exact rfl; assumption; exact rfl; exact rfl) | (apply G1_loadBS; (first | exact T.p36 | exact T.p30); exact rfl; assumption; exact rfl; (first | assumption | (focus (simp [exempt]; omega))); exact rfl) | (apply G1_loadFld; (first | exact T.p36 | exact T.p30); exact rfl; assumption; assumption; exact rfl; exact rfl; exact rfl) | (apply G1_loadEl1; (first | exact T.p36 | exact T.p30); exact rfl; assumption; assumption; exact rfl; exact rfl; exact rfl) | (apply G1_indexAddrN; exact T.s36; exact rfl; exact rfl; (first | assumption | exact Sl.ok (by assumption) | exact (Own.sl (by assumption)).ok); omega; exact rfl) | (apply G1_indexAddr; exact T.s36; exact rfl; exact rfl; (first | assumption | exact Sl.ok (by assumption) | exact (Own.sl (by assumption)).ok); omega; omega; exact rfl)) | apply G_nil | apply Post_next | apply W_seq | apply W_region | (apply W_cond_true; exact rfl) | (apply W_cond_false; exact rfl) | (apply W_cond_dec; exact rfl; all_goals (intro h; try (exfalso; omega))) | (apply W_cond; exact rfl; all_goals intro h) | (apply G_off; exact rfl; exact rfl) | ((fail_if_success (apply G_on; exact rfl)); apply G_split_dec; exact rfl; exact rfl; all_goals (intro h; try (exfalso; omega))) | ((fail_if_success (apply G_on; exact rfl)); apply G_split; exact rfl; exact rfl; all_goals intro h) | apply W_skip | apply W_exit | apply W_ret | apply W_block | apply Post_then_ret | apply Post_block_ret | apply Post_then_exit | apply Post_block_exit | (apply Post_block_other; exact rfl) | apply Post_block_normal)
  apply G_on; exact rfl; apply G1_call; exact rfl; exact rfl; exact rfl; exact rx_at (key := key) h1 (by omega) hk (fun e he => hks (kv e) (List.mem_map_of_mem he)); rintro _ w1 ⟨A, B, rfl, hat, hx1⟩; refine ⟨(by first | exact .inl rfl | exact .inr (by assumption)), ?_⟩
  have hf : atOk B key = false := by
    cases h : atOk B key with
    | false => rfl
    | true => obtain ⟨e, he, hek⟩ := (atOk_true hat hS).1 h; exact absurd hek (hno (kv e) (List.mem_map_of_mem he))
  rw [hf]
  repeat' (first | (apply G_on; exact rfl; first | ((first | apply G1_assign | apply G1_move | apply G1_nilCheck); exact rfl; exact rfl) | (apply G1_extract; exact rfl; exact rfl; exact rfl) | (apply G1_not_t; exact rfl; exact rfl) | (apply G1_not_f; exact rfl; exact rfl) | (apply G1_not_dec; exact rfl; exact rfl) | (apply G1_not; exact rfl; exact rfl) | (apply G1_nilCheckF; exact rfl; exact rfl) | (apply G1_fieldAddr; exact T.f38_1; exact rfl; exact rfl) | (apply G1_loadB; (first | exact T.p36 | exact T.p30); exact rfl; assumption; exact rfl; exact rfl) | (apply G1_loadBS; (first | exact T.p36 | exact T.p30); exact rfl; assumption; exact rfl; (first | assumption | (focus (simp [exempt]; omega))); exact rfl) | (apply G1_loadFld; (first | exact T.p36 | exact T.p30); exact rfl; assumption; assumption; exact rfl; exact rfl; exact rfl) | (apply G1_loadEl1; (first | exact T.p36 | exact T.p30); exact rfl; assumption; assumption; exact rfl; exact rfl; exact rfl) | (apply G1_indexAddrN; exact T.s36; exact rfl; exact rfl; (first | assumption | exact Sl.ok (by assumption) | exact (Own.sl (by assumption)).ok); omega; exact rfl) | (apply G1_indexAddr; exact T.s36; exact rfl; exact rfl; (first | assumption | exact Sl.ok (by assumption) | exact (Own.sl (by assumption)).ok); omega; omega; exact rfl)) | apply G_nil | apply Post_next | apply W_seq | apply W_region | (apply W_cond_true; exact rfl) | (apply W_cond_false; exact rfl) | (apply W_cond_dec; exact rfl; all_goals (intro h; try (exfalso; omega))) | (apply W_cond; exact rfl; all_goals intro h) | (apply G_off; exact rfl; exact rfl) | ((fail_if_success (apply G_on; exact rfl)); apply G_split_dec; exact rfl; exact rfl; all_goals (intro h; try (exfalso; omega))) | ((fail_if_success (apply G_on; exact rfl)); apply G_split; exact rfl; exact rfl; all_goals intro h) | apply W_skip | apply W_exit | apply W_ret | apply W_block | apply Post_then_ret | apply Post_block_ret | apply Post_then_exit | apply Post_block_exit | (apply Post_block_other; exact rfl) | apply Post_block_normal)
  refine Post_ret Try.results21 ⟨_, _, rfl, rfl, rfl⟩ ?_
  exact ⟨rfl, hx1⟩
theorem rx_get_yes {w : World} {rx : Nat} {F : Nat → Prop} {L : List KV} {key : ByteArray} {vs : List Ver} (hR : Rx w rx F L) (hS : SortedK L) (hn : L.length ≤ 900) (hk : key.size ≤ 300) (hks : ∀ x ∈ L, x.1.size ≤ 300) (hm : (key, vs) ∈ L) :
    Ctr Try.prog 21 [.pointer (some (adr (bx rx) 0)), .string key] w (fun v w' => ∃ p c rs, v = .slice p vs.length c ∧ ChainAt w'.heap p c rs vs ∧ Ext w w') := by
  obtain ⟨pk, ck, pc, cc, es, h1, rfl⟩ := hR
  rw [List.length_map] at hn
  obtain ⟨e, he, hek⟩ := List.mem_map.1 hm
  injection hek with e1 e2
  refine Ctr_of Try.func21 Try.ntmps21 rfl rfl rfl ?_
  repeat' (first | (apply G_on; exact rfl; first | ((first | apply G1_assign | apply G1_move | apply G1_nilCheck); exact rfl; exact rfl) | (apply G1_extract; exact rfl; exact rfl; exact rfl) | (apply G1_not_t; exact rfl; exact rfl) | (apply G1_not_f; exact rfl; exact rfl) | (apply G1_not_dec; exact rfl; exact rfl) | (apply G1_not; exact rfl; exact rfl) | (apply G1_nilCheckF; exact rfl; exact rfl) | (apply G1_fieldAddr; exact T.f38_1; exact rfl; exact rfl) | (apply G1_loadB; (first | exact T.p36 | exact T.p30); exact rfl; assumption; exact rfl; exact rfl) | (apply G1_loadBS; (first | exact T.p36 | exact T.p30); exact rfl; assumption; exact rfl; (first | assumption | (focus (simp [exempt]; omega))); exact rfl) | (apply G1_loadFld; (first | exact T.p36 | exact T.p30); exact rfl; assumption; assumption; exact rfl; exact rfl; exact rfl) | (apply G1_loadEl1; (first | exact T.p36 | exact T.p30); exact rfl; assumption; assumption; exact rfl; exact rfl; exact rfl) | (apply G1_indexAddrN; exact T.s36; exact rfl; exact rfl; (first | assumption | exact Sl.ok (by assumption) | exact (Own.sl (by assumption)).ok); omega; exact rfl) | (apply G1_indexAddr; exact T.s36; exact rfl; exact rfl; (first | assumption | exact Sl.ok (by assumption) | exact (Own.sl (by assumption)).ok); omega; omega; exact rfl)) | apply G_nil | apply Post_next | apply W_seq | apply W_region | (apply W_cond_true; exact rfl) | (apply W_cond_false; exact rfl) | (apply W_cond_dec; exact rfl; all_goals (intro h; try (exfalso; omega))) | (apply W_cond; exact rfl; all_goals intro h) | (apply G_off; exact rfl; exact rfl) | ((fail_if_success (apply G_on; exact rfl)); apply G_split_dec; exact rfl; exact rfl; all_goals (intro h; try (exfalso; omega))) | ((fail_if_success (apply G_on; exact rfl)); apply G_split; exact rfl; exact rfl; all_goals intro h) | apply W_skip | apply W_exit | apply W_ret | apply W_block | apply Post_then_ret | apply Post_block_ret | apply Post_then_exit | apply Post_block_exit | (apply Post_block_other; exact rfl) | apply Post_block_normal)
  apply G_on; exact rfl; apply G1_call; exact rfl; exact rfl; exact rfl; exact rx_at (key := key) h1 (by omega) hk (fun e he => hks (kv e) (List.mem_map_of_mem he)); rintro _ w1 ⟨A, B, rfl, hat, hx1⟩; refine ⟨(by first | exact .inl rfl | exact .inr (by assumption)), ?_⟩
  have ht : atOk B key = true := (atOk_true hat hS).2 ⟨e, he, e1⟩
  rw [ht]
  obtain ⟨b, B, rfl⟩ : ∃ b B', B = b :: B' := by
    cases B with
    | nil => simp [atOk] at ht
    | cons b B' => exact ⟨b, B', rfl⟩
  have hbk : b.key = key := by simpa [atOk] using ht
  have hbi : es[A.length]? = some b := by rw [hat.eq]; simp
  have hbm := List.mem_of_getElem? hbi
  have hbe : kv b = kv e := key_uniq hS (List.mem_map_of_mem hbm) (List.mem_map_of_mem he) (by show b.key = e.key; rw [hbk, e1])
  have hvs : b.vs = vs := by rw [← e2]; exact congrArg Prod.snd hbe
  have hR1 := h1.ext hx1
  have hbox := hR1.box
  have hch := hR1.chs.sl
  have hbl := hch.bound
  have hil := get_lt hbi
  repeat' (first | (apply G_on; exact rfl; first | ((first | apply G1_assign | apply G1_move | apply G1_nilCheck); exact rfl; exact rfl) | (apply G1_indexAddrN (q := A.length); exact T.s36; exact rfl; exact rfl; exact hch.ok; omega; exact rfl) | (apply G1_loadEl1 (q := A.length) (e := eChn); exact T.p30; exact rfl; exact hch; exact hbi; exact rfl; exact rfl; exact rfl) | (apply G1_extract; exact rfl; exact rfl; exact rfl) | (apply G1_not_t; exact rfl; exact rfl) | (apply G1_not_f; exact rfl; exact rfl) | (apply G1_not_dec; exact rfl; exact rfl) | (apply G1_not; exact rfl; exact rfl) | (apply G1_nilCheckF; exact rfl; exact rfl) | (apply G1_fieldAddr; exact T.f38_1; exact rfl; exact rfl) | (apply G1_loadB; (first | exact T.p36 | exact T.p30); exact rfl; assumption; exact rfl; exact rfl) | (apply G1_loadBS; (first | exact T.p36 | exact T.p30); exact rfl; assumption; exact rfl; (first | assumption | (focus (simp [exempt]; omega))); exact rfl) | (apply G1_loadFld; (first | exact T.p36 | exact T.p30); exact rfl; assumption; assumption; exact rfl; exact rfl; exact rfl) | (apply G1_loadEl1; (first | exact T.p36 | exact T.p30); exact rfl; assumption; assumption; exact rfl; exact rfl; exact rfl) | (apply G1_indexAddrN; exact T.s36; exact rfl; exact rfl; (first | assumption | exact Sl.ok (by assumption) | exact (Own.sl (by assumption)).ok); omega; exact rfl) | (apply G1_indexAddr; exact T.s36; exact rfl; exact rfl; (first | assumption | exact Sl.ok (by assumption) | exact (Own.sl (by assumption)).ok); omega; omega; exact rfl)) | apply G_nil | apply Post_next | apply W_seq | apply W_region | (apply W_cond_true; exact rfl) | (apply W_cond_false; exact rfl) | (apply W_cond_dec; exact rfl; all_goals (intro h; try (exfalso; omega))) | (apply W_cond; exact rfl; all_goals intro h) | (apply G_off; exact rfl; exact rfl) | ((fail_if_success (apply G_on; exact rfl)); apply G_split_dec; exact rfl; exact rfl; all_goals (intro h; try (exfalso; omega))) | ((fail_if_success (apply G_on; exact rfl)); apply G_split; exact rfl; exact rfl; all_goals intro h) | apply W_skip | apply W_exit | apply W_ret | apply W_block | apply Post_then_ret | apply Post_block_ret | apply Post_then_exit | apply Post_block_exit | (apply Post_block_other; exact rfl) | apply Post_block_normal)
  refine Post_ret Try.results21 ⟨_, _, rfl, rfl, rfl⟩ ?_
  obtain ⟨rs, hr⟩ := hR1.ent b hbm
  rw [← hvs]
  exact ⟨b.p, b.c, rs, rfl, hr.at, hx1⟩
theorem rx_from {w : World} {rx : Nat} {F : Nat → Prop} {L : List KV} {key : ByteArray} {most : Int} (hR : Rx w rx F L) (hS : SortedK L) (hn : L.length ≤ 900) (hk : key.size ≤ 300) (hks : ∀ x ∈ L, x.1.size ≤ 300) :
    Ctr Try.prog 22 [.pointer (some (adr (bx rx) 0)), .string key, .int .i64 most] w (fun v w' => ∃ p' c', v = .slice p' (fromK L key most).length c' ∧ Sl w'.heap eStr p' c' (fromK L key most) ∧ Ext w w') := by
  obtain ⟨pk, ck, pc, cc, es, h1, rfl⟩ := hR
  rw [List.length_map] at hn
  refine Ctr_of Try.func22 Try.ntmps22 rfl rfl rfl ?_
  repeat' (first | (apply G_on; exact rfl; first | ((first | apply G1_assign | apply G1_move | apply G1_nilCheck); exact rfl; exact rfl) | ((first | apply G1_extract | apply G1_lss); exact rfl; exact rfl; exact rfl) | (apply G1_nilCheckF; exact rfl; exact rfl) | (apply G1_fieldAddr; exact T.f38_0; exact rfl; exact rfl) | (apply G1_loadB; (first | exact T.p26 | exact T.p9); exact rfl; assumption; exact rfl; exact rfl) | (apply G1_loadBS; (first | exact T.p26 | exact T.p9); exact rfl; assumption; exact rfl; (first | assumption | (focus (simp [exempt]; omega))); exact rfl) | (apply G1_loadFld; (first | exact T.p26 | exact T.p9); exact rfl; assumption; assumption; exact rfl; exact rfl; exact rfl) | (apply G1_loadEl1; (first | exact T.p26 | exact T.p9); exact rfl; assumption; assumption; exact rfl; exact rfl; exact rfl) | (apply G1_len; exact T.s26; exact rfl; exact rfl) | (apply G1_pick_t; exact rfl; exact rfl; exact rfl) | (apply G1_pick_f; exact rfl; exact rfl; exact rfl) | (apply G1_indexAddrN; exact T.s26; exact rfl; exact rfl; (first | assumption | exact Sl.ok (by assumption) | exact (Own.sl (by assumption)).ok); omega; exact rfl) | (apply G1_indexAddr; exact T.s26; exact rfl; exact rfl; (first | assumption | exact Sl.ok (by assumption) | exact (Own.sl (by assumption)).ok); omega; omega; exact rfl) | (apply G1_add; exact rfl; exact rfl; omega; omega; exact rfl)) | apply G_nil | apply Post_next | apply W_seq | apply W_region | (apply W_cond_true; exact rfl) | (apply W_cond_false; exact rfl) | (apply W_cond_dec; exact rfl; all_goals (intro h; try (exfalso; omega))) | (apply W_cond; exact rfl; all_goals intro h) | (apply G_off; exact rfl; exact rfl) | ((fail_if_success (apply G_on; exact rfl)); apply G_split_dec; exact rfl; exact rfl; all_goals (intro h; try (exfalso; omega))) | ((fail_if_success (apply G_on; exact rfl)); apply G_split; exact rfl; exact rfl; all_goals intro h) | apply W_skip | apply W_exit | apply W_ret | apply W_block | apply Post_then_ret | apply Post_block_ret | apply Post_then_exit | apply Post_block_exit | (apply Post_block_other; exact rfl) | apply Post_block_normal)
  apply G_on; exact rfl; apply G1_call; exact rfl; exact rfl; exact rfl; exact rx_at (key := key) h1 (by omega) hk (fun e he => hks (kv e) (List.mem_map_of_mem he)); rintro _ w1 ⟨A, B, rfl, hat, hx1⟩; refine ⟨(by first | exact .inl rfl | exact .inr (by assumption)), ?_⟩
  have hRK : ((es.map kv).filter (fun x => !blt x.1 key)).map (·.1) = B.map Ent.key := by
    have hsB : SortedK (B.map kv) := by have := hS; rw [hat.eq, List.map_append] at this; exact this.right
    rw [hat.eq, List.map_append, fromK_split (fun x hx => by obtain ⟨e, he, rfl⟩ := List.mem_map.1 hx; exact hat.less e he) (notless_all hsB (fun y hy => by
      rw [List.head?_map] at hy
      obtain ⟨y', h1, h2⟩ := Option.map_eq_some_iff.1 hy
      rw [← h2]; exact hat.head y' h1)), List.map_map]
    rfl
  have hlen : es.length = A.length + B.length := by rw [hat.eq]; simp
  have hres : fromK (es.map kv) key most = if most < 1 then B.map Ent.key else (B.map Ent.key).take most.toNat := by unfold fromK; rw [hRK]
  rw [hres]
  have hR1 := h1.ext hx1
  have hml : (es.map Ent.key).length = es.length := List.length_map _
  have hbl : (B.map Ent.key).length = B.length := List.length_map _
  repeat' (first | (apply G_on; exact rfl; first | ((first | apply G1_assign | apply G1_move | apply G1_nilCheck); exact rfl; exact rfl) | ((first | apply G1_extract | apply G1_lss); exact rfl; exact rfl; exact rfl) | (apply G1_nilCheckF; exact rfl; exact rfl) | (apply G1_fieldAddr; exact T.f38_0; exact rfl; exact rfl) | (apply G1_loadB; (first | exact T.p26 | exact T.p9); exact rfl; assumption; exact rfl; exact rfl) | (apply G1_loadBS; (first | exact T.p26 | exact T.p9); exact rfl; assumption; exact rfl; (first | assumption | (focus (simp [exempt]; omega))); exact rfl) | (apply G1_loadFld; (first | exact T.p26 | exact T.p9); exact rfl; assumption; assumption; exact rfl; exact rfl; exact rfl) | (apply G1_loadEl1; (first | exact T.p26 | exact T.p9); exact rfl; assumption; assumption; exact rfl; exact rfl; exact rfl) | (apply G1_len; exact T.s26; exact rfl; exact rfl) | (apply G1_pick_t; exact rfl; exact rfl; exact rfl) | (apply G1_pick_f; exact rfl; exact rfl; exact rfl) | (apply G1_indexAddrN; exact T.s26; exact rfl; exact rfl; (first | assumption | exact Sl.ok (by assumption) | exact (Own.sl (by assumption)).ok); omega; exact rfl) | (apply G1_indexAddr; exact T.s26; exact rfl; exact rfl; (first | assumption | exact Sl.ok (by assumption) | exact (Own.sl (by assumption)).ok); omega; omega; exact rfl) | (apply G1_add; exact rfl; exact rfl; omega; omega; exact rfl)) | apply G_nil | apply Post_next | apply W_seq | apply W_region | (apply W_cond_true; exact rfl) | (apply W_cond_false; exact rfl) | (apply W_cond_dec; exact rfl; all_goals (intro h; try (exfalso; omega))) | (apply W_cond; exact rfl; all_goals intro h) | (apply G_off; exact rfl; exact rfl) | ((fail_if_success (apply G_on; exact rfl)); apply G_split_dec; exact rfl; exact rfl; all_goals (intro h; try (exfalso; omega))) | ((fail_if_success (apply G_on; exact rfl)); apply G_split; exact rfl; exact rfl; all_goals intro h) | apply W_skip | apply W_exit | apply W_ret | apply W_block | apply Post_then_ret | apply Post_block_ret | apply Post_then_exit | apply Post_block_exit | (apply Post_block_other; exact rfl) | apply Post_block_normal)
  refine W_loop (ι := Nat × Option Addr × Nat) (fun y => [(0, .pointer (some (adr (bx rx) 0))), (2, .int .i64 most), (7, .int .i64 ((A.length + y.1 : Nat) : Int)), (9, .slice y.2.1 ((B.map Ent.key).take y.1).length y.2.2)])
    (fun y w' => Ext w1 w' ∧ y.1 ≤ B.length ∧ (most < 1 ∨ (y.1 : Int) ≤ most) ∧ Go.V.Own w' w1.heap.size 9 eStr y.2.1 y.2.2 ((B.map Ent.key).take y.1)) (fun y => B.length - y.1) (0, none, 0) ⟨rfl, rfl, rfl, rfl, trivial⟩ ⟨Ext.rfl', Nat.zero_le _, by simp only; omega, Own.nil _ _ _ _⟩ ?_
  rintro ⟨k, po, co⟩ w2 ⟨hx2, hk2, hm2, hO⟩
  simp only at hk2 hm2 hO
  refine W_keep [(0, .pointer (some (adr (bx rx) 0))), (2, .int .i64 most), (7, .int .i64 ((A.length + k : Nat) : Int)), (9, .slice po ((B.map Ent.key).take k).length co)] ⟨rfl, rfl, rfl, rfl, trivial⟩ ?_
  have htl : ((B.map Ent.key).take k).length = k := by rw [List.length_take]; omega
  have hR2 := hR1.ext hx2
  have hbox := hR2.box
  have hks2 := hR2.keys.sl
  have hok2 : Okp pk es.length ck := by have := hks2.ok; rw [hml] at this; exact this
  have z2 := hx2.size
  by_cases hgo : k < B.length ∧ (most < 1 ∨ (k : Int) < most)
  · obtain ⟨e, he⟩ := get_some hgo.1
    have hek : (B.map Ent.key)[k]? = some e.key := by rw [List.getElem?_map, he]; rfl
    have hek2 : (es.map Ent.key)[A.length + k]? = some e.key := by rw [hat.eq, List.map_append, List.getElem?_append_right (by simp)]; simp [he]
    repeat' (first | (apply G_on; exact rfl; first | ((first | apply G1_assign | apply G1_move | apply G1_nilCheck); exact rfl; exact rfl) | (apply G1_indexAddrN (q := A.length + k); exact T.s26; exact rfl; exact rfl; exact hok2; omega; exact rfl) | (apply G1_loadEl1 (q := A.length + k) (e := eStr); exact T.p9; exact rfl; exact hks2; exact hek2; exact rfl; exact rfl; exact rfl) | ((first | apply G1_extract | apply G1_lss); exact rfl; exact rfl; exact rfl) | (apply G1_nilCheckF; exact rfl; exact rfl) | (apply G1_fieldAddr; exact T.f38_0; exact rfl; exact rfl) | (apply G1_loadB; (first | exact T.p26 | exact T.p9); exact rfl; assumption; exact rfl; exact rfl) | (apply G1_loadBS; (first | exact T.p26 | exact T.p9); exact rfl; assumption; exact rfl; (first | assumption | (focus (simp [exempt]; omega))); exact rfl) | (apply G1_loadFld; (first | exact T.p26 | exact T.p9); exact rfl; assumption; assumption; exact rfl; exact rfl; exact rfl) | (apply G1_loadEl1; (first | exact T.p26 | exact T.p9); exact rfl; assumption; assumption; exact rfl; exact rfl; exact rfl) | (apply G1_len; exact T.s26; exact rfl; exact rfl) | (apply G1_pick_t; exact rfl; exact rfl; exact rfl) | (apply G1_pick_f; exact rfl; exact rfl; exact rfl) | (apply G1_indexAddrN; exact T.s26; exact rfl; exact rfl; (first | assumption | exact Sl.ok (by assumption) | exact (Own.sl (by assumption)).ok); omega; exact rfl) | (apply G1_indexAddr; exact T.s26; exact rfl; exact rfl; (first | assumption | exact Sl.ok (by assumption) | exact (Own.sl (by assumption)).ok); omega; omega; exact rfl) | (apply G1_add; exact rfl; exact rfl; omega; omega; exact rfl)) | apply G_nil | apply Post_next | apply W_seq | apply W_region | (apply W_cond_true; exact rfl) | (apply W_cond_false; exact rfl) | (apply W_cond_dec; exact rfl; all_goals (intro h; try (exfalso; omega))) | (apply W_cond; exact rfl; all_goals intro h) | (apply G_off; exact rfl; exact rfl) | ((fail_if_success (apply G_on; exact rfl)); apply G_split_dec; exact rfl; exact rfl; all_goals (intro h; try (exfalso; omega))) | ((fail_if_success (apply G_on; exact rfl)); apply G_split; exact rfl; exact rfl; all_goals intro h) | apply W_skip | apply W_exit | apply W_ret | apply W_block | apply Post_then_ret | apply Post_block_ret | apply Post_then_exit | apply Post_block_exit | (apply Post_block_other; exact rfl) | apply Post_block_normal)
    all_goals try (exfalso; omega)
    all_goals
      apply G_on; exact rfl
      apply G1_build1 eStr e.key; exact T.s26; exact rfl; exact rfl; exact rfl; decide; exact rfl; exact rfl
      intro p6 w6 hp6 hs6 _ hx6 hz6
      have hO6 := hO.ext hx6
      repeat' (first | (apply G_on; exact rfl; first | ((first | apply G1_assign | apply G1_move | apply G1_nilCheck); exact rfl; exact rfl) | (apply G1_appendA (xs := (B.map Ent.key).take k) (ys := [e.key]); exact T.s26; exact rfl; exact rfl; exact hO6; exact hs6; exact rfl; omega; (simp only [List.length_cons, List.length_nil]; omega); (simp only [List.length_cons, List.length_nil]; omega); exact rfl; exact rfl; exact rfl; intro p7 c7 w7 ha7) | ((first | apply G1_extract | apply G1_lss); exact rfl; exact rfl; exact rfl) | (apply G1_nilCheckF; exact rfl; exact rfl) | (apply G1_fieldAddr; exact T.f38_0; exact rfl; exact rfl) | (apply G1_loadB; (first | exact T.p26 | exact T.p9); exact rfl; assumption; exact rfl; exact rfl) | (apply G1_loadBS; (first | exact T.p26 | exact T.p9); exact rfl; assumption; exact rfl; (first | assumption | (focus (simp [exempt]; omega))); exact rfl) | (apply G1_loadFld; (first | exact T.p26 | exact T.p9); exact rfl; assumption; assumption; exact rfl; exact rfl; exact rfl) | (apply G1_loadEl1; (first | exact T.p26 | exact T.p9); exact rfl; assumption; assumption; exact rfl; exact rfl; exact rfl) | (apply G1_len; exact T.s26; exact rfl; exact rfl) | (apply G1_pick_t; exact rfl; exact rfl; exact rfl) | (apply G1_pick_f; exact rfl; exact rfl; exact rfl) | (apply G1_indexAddrN; exact T.s26; exact rfl; exact rfl; (first | assumption | exact Sl.ok (by assumption) | exact (Own.sl (by assumption)).ok); omega; exact rfl) | (apply G1_indexAddr; exact T.s26; exact rfl; exact rfl; (first | assumption | exact Sl.ok (by assumption) | exact (Own.sl (by assumption)).ok); omega; omega; exact rfl) | (apply G1_add; exact rfl; exact rfl; omega; omega; exact rfl)) | apply G_nil | apply Post_next | apply W_seq | apply W_region | (apply W_cond_true; exact rfl) | (apply W_cond_false; exact rfl) | (apply W_cond_dec; exact rfl; all_goals (intro h; try (exfalso; omega))) | (apply W_cond; exact rfl; all_goals intro h) | (apply G_off; exact rfl; exact rfl) | ((fail_if_success (apply G_on; exact rfl)); apply G_split_dec; exact rfl; exact rfl; all_goals (intro h; try (exfalso; omega))) | ((fail_if_success (apply G_on; exact rfl)); apply G_split; exact rfl; exact rfl; all_goals intro h) | apply W_skip | apply W_exit | apply W_ret | apply W_block | apply Post_then_ret | apply Post_block_ret | apply Post_then_exit | apply Post_block_exit | (apply Post_block_other; exact rfl) | apply Post_block_normal)
      rw [← take_snoc hek] at ha7 ⊢
      exact Post_round (k + 1, p7, c7) ⟨rfl, rfl, by show some (Value.int .i64 _) = _; simp only; congr 2 <;> omega, rfl, trivial⟩ ⟨(hx2.trans hx6).app ha7 (fun j hj => (hO6.ge j hj).1), by simp only; omega, by simp only; omega, ha7.own⟩ (by simp only; omega)
  · have hfin : (if most < 1 then B.map Ent.key else (B.map Ent.key).take most.toNat) = (B.map Ent.key).take k := by
      by_cases hm : most < 1
      · rw [if_pos hm, List.take_of_length_le (by omega)]
      · rw [if_neg hm, List.take_eq_take_iff]; omega
    rw [hfin]
    repeat' (first | (apply G_on; exact rfl; first | ((first | apply G1_assign | apply G1_move | apply G1_nilCheck); exact rfl; exact rfl) | ((first | apply G1_extract | apply G1_lss); exact rfl; exact rfl; exact rfl) | (apply G1_nilCheckF; exact rfl; exact rfl) | (apply G1_fieldAddr; exact T.f38_0; exact rfl; exact rfl) | (apply G1_loadB; (first | exact T.p26 | exact T.p9); exact rfl; assumption; exact rfl; exact rfl) | (apply G1_loadBS; (first | exact T.p26 | exact T.p9); exact rfl; assumption; exact rfl; (first | assumption | (focus (simp [exempt]; omega))); exact rfl) | (apply G1_loadFld; (first | exact T.p26 | exact T.p9); exact rfl; assumption; assumption; exact rfl; exact rfl; exact rfl) | (apply G1_loadEl1; (first | exact T.p26 | exact T.p9); exact rfl; assumption; assumption; exact rfl; exact rfl; exact rfl) | (apply G1_len; exact T.s26; exact rfl; exact rfl) | (apply G1_pick_t; exact rfl; exact rfl; exact rfl) | (apply G1_pick_f; exact rfl; exact rfl; exact rfl) | (apply G1_indexAddrN; exact T.s26; exact rfl; exact rfl; (first | assumption | exact Sl.ok (by assumption) | exact (Own.sl (by assumption)).ok); omega; exact rfl) | (apply G1_indexAddr; exact T.s26; exact rfl; exact rfl; (first | assumption | exact Sl.ok (by assumption) | exact (Own.sl (by assumption)).ok); omega; omega; exact rfl) | (apply G1_add; exact rfl; exact rfl; omega; omega; exact rfl)) | apply G_nil | apply Post_next | apply W_seq | apply W_region | (apply W_cond_true; exact rfl) | (apply W_cond_false; exact rfl) | (apply W_cond_dec; exact rfl; all_goals (intro h; try (exfalso; omega))) | (apply W_cond; exact rfl; all_goals intro h) | (apply G_off; exact rfl; exact rfl) | ((fail_if_success (apply G_on; exact rfl)); apply G_split_dec; exact rfl; exact rfl; all_goals (intro h; try (exfalso; omega))) | ((fail_if_success (apply G_on; exact rfl)); apply G_split; exact rfl; exact rfl; all_goals intro h) | apply W_skip | apply W_exit | apply W_ret | apply W_block | apply Post_then_ret | apply Post_block_ret | apply Post_then_exit | apply Post_block_exit | (apply Post_block_other; exact rfl) | apply Post_block_normal)
    all_goals try (exfalso; omega)
    all_goals
      refine Post_ret Try.results22 ⟨_, _, rfl, rfl, rfl⟩ ?_
      exact ⟨po, co, rfl, hO.sl, hx1.trans hx2⟩
end Go.Proofs.Ytbphlenpclnobaa
