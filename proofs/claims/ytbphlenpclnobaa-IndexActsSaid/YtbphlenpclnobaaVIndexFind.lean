/- (*Index).find. -/
import Derived.Test.YtbphlenpclnobaaVIndexClone
import Derived.Test.YtbphlenpclnobaaVSearch
import Derived.Test.YtbphlenpclnobaaVRows2
namespace Go.V
def SortedE (es : List Ent) : Prop := es.Pairwise (fun a b => blt a.key b.key = true)
/-- where key is, or belongs -/
def FindR (bl : List Blok) (key : ByteArray) (i j : Nat) (ok : Bool) : Prop :=
  (i = bl.length ∧ j = 0 ∧ ok = false ∧ ∀ e ∈ bl.flatMap Blok.es, blt e.key key = true) ∨
  ∃ A b B C e D, bl = A ++ b :: B ∧ b.es = C ++ e :: D ∧ i = A.length ∧ j = C.length ∧ ok = decide (e.key = key) ∧ (∀ x ∈ A.flatMap Blok.es ++ C, blt x.key key = true) ∧ blt e.key key = false
def lastK (b : Blok) : ByteArray := (b.es.getD (b.es.length - 1) ⟨⟨#[]⟩, none, 0, []⟩).key
theorem lastK_at {b : Blok} {e : Ent} (h : b.es[b.es.length - 1]? = some e) : lastK b = e.key := by
  unfold lastK; rw [List.getD_eq_getElem?_getD, h]; rfl
theorem split_get {α : Type} {xs : List α} {i : Nat} {x : α} (h : xs[i]? = some x) : xs = xs.take i ++ x :: xs.drop (i + 1) := by
  obtain ⟨hk, e⟩ := List.getElem?_eq_some_iff.1 h
  rw [← e, ← List.drop_eq_getElem_cons hk, List.take_append_drop]
theorem pw_append {α : Type} {R : α → α → Prop} {a b : List α} (h : (a ++ b).Pairwise R) : ∀ x ∈ a, ∀ y ∈ b, R x y := (List.pairwise_append.1 h).2.2
/-- all up to one that is less are less -/
theorem less_upto {es : List Ent} (hs : SortedE es) {k : Nat} {e : Ent} {key : ByteArray} (he : es[k]? = some e) (hl : blt e.key key = true) : ∀ x ∈ es.take (k + 1), blt x.key key = true := by
  intro x hx
  rw [take_snoc he] at hx
  rcases List.mem_append.1 hx with h | h
  · have h0 := split_get he
    unfold SortedE at hs
    rw [h0] at hs
    exact blt_trans (pw_append hs x h e (by simp)) hl
  · simp at h; rw [h]; exact hl
end Go.V
namespace Go.Proofs.Ytbphlenpclnobaa
open Go.V
attribute [local irreducible] Blk Own hcell IntT SliceT PlainT AggT SizeT StrT FieldT ZeroT EqT ArrT
theorem find1 {w : World} {ix a1 a2 : Nat} {F : Nat → Prop} {pb : Option Addr} {cb : Nat} {bl : List Blok} {key : ByteArray} {i : Nat} {b : Blok} (hI : IxAt w ix F pb cb bl) (hA1 : Blk w.heap a1 27 [.pointer (some (adr (bx ix) 0))]) (hA2 : Blk w.heap a2 9 [.string key]) (hb : bl[i]? = some b) (hlen : b.es.length ≤ 1000000) :
    Ctr Try.prog 40 [.int .i64 (i : Int), .pointer (some (adr (bx a1) 0)), .pointer (some (adr (bx a2) 0))] w (fun v w' => v = .bool (!blt (lastK b) key) ∧ Ext w w') := by
  have hbm := List.mem_of_getElem? hb
  obtain ⟨ho, hne⟩ := hI.blok b hbm
  have hpos := List.length_pos_iff.2 hne
  obtain ⟨e, he⟩ := get_some (xs := b.es) (k := b.es.length - 1) (by omega)
  rw [lastK_at he]
  have hbox := hI.box
  have hrows := hI.rows.sl
  have hs := ho.sl
  have hil := get_lt hb
  refine Ctr_of Try.func40 Try.ntmps40 rfl rfl rfl ?_
  repeat' (first | (apply G_on; exact rfl; first | ((first | apply G1_assign | apply G1_move | apply G1_nilCheck); exact rfl; exact rfl) | (apply G1_indexAddrJ (q := b.es.length - 1); exact T.s73; exact rfl; exact rfl; omega; exact hs.ok; omega; exact rfl) | (apply G1_loadEl1 (q := i) (e := eBlok); exact T.p73; exact rfl; exact hrows; exact hb; exact rfl; exact rfl; exact rfl) | (apply G1_loadFld (q := b.es.length - 1) (e := eEnt); exact T.p9; exact rfl; exact hs.ext (Ext.drew Ext.rfl'); exact he; exact rfl; exact rfl; exact rfl) | (apply G1_loadB; (first | exact T.p27 | exact T.p65 | exact T.p73 | exact T.p9); exact rfl; assumption; exact rfl; exact rfl) | (apply G1_loadBS; (first | exact T.p27 | exact T.p65 | exact T.p73 | exact T.p9); exact rfl; assumption; exact rfl; (first | assumption | (focus (simp [exempt]; omega))); exact rfl) | (apply G1_loadFld; (first | exact T.p27 | exact T.p65 | exact T.p73 | exact T.p9); exact rfl; assumption; assumption; exact rfl; exact rfl; exact rfl) | (apply G1_loadEl1; (first | exact T.p27 | exact T.p65 | exact T.p73 | exact T.p9); exact rfl; assumption; assumption; exact rfl; exact rfl; exact rfl) | (apply G1_nilCheckF; exact rfl; exact rfl) | (apply G1_fieldAddr; (first | exact T.f67_0 | exact T.f72_0); exact rfl; exact rfl) | (apply G1_indexAddrN; exact T.s65; exact rfl; exact rfl; (first | assumption | exact Sl.ok (by assumption) | exact (Own.sl (by assumption)).ok); omega; exact rfl) | (apply G1_indexAddr; exact T.s65; exact rfl; exact rfl; (first | assumption | exact Sl.ok (by assumption) | exact (Own.sl (by assumption)).ok); omega; omega; exact rfl) | (apply G1_len; exact T.s73; exact rfl; exact rfl) | (apply G1_sub; exact rfl; exact rfl; omega; omega; exact rfl) | (apply G1_indexAddrN; exact T.s73; exact rfl; exact rfl; (first | assumption | exact Sl.ok (by assumption) | exact (Own.sl (by assumption)).ok); omega; exact rfl) | (apply G1_indexAddr; exact T.s73; exact rfl; exact rfl; (first | assumption | exact Sl.ok (by assumption) | exact (Own.sl (by assumption)).ok); omega; omega; exact rfl) | (apply G1_sgeq; exact rfl; exact rfl; exact rfl)) | apply G_nil | apply Post_next | apply W_seq | apply W_region | (apply W_cond_true; exact rfl) | (apply W_cond_false; exact rfl) | (apply W_cond_dec; exact rfl; all_goals (intro h; try (exfalso; omega))) | (apply W_cond; exact rfl; all_goals intro h) | (apply G_off; exact rfl; exact rfl) | ((fail_if_success (apply G_on; exact rfl)); apply G_split_dec; exact rfl; exact rfl; all_goals (intro h; try (exfalso; omega))) | ((fail_if_success (apply G_on; exact rfl)); apply G_split; exact rfl; exact rfl; all_goals intro h) | refine W_drawn 1 [] [0,1,2,3,4,5,6,7,8,9] mixed (by decide +kernel) ?_ | apply W_skip | apply W_exit | apply W_ret | apply W_block | apply Post_then_ret | apply Post_block_ret | apply Post_then_exit | apply Post_block_exit | (apply Post_block_other; exact rfl) | apply Post_block_normal)
  refine Post_ret Try.results40 ⟨_, _, rfl, rfl, rfl⟩ ?_
  exact ⟨rfl, (by repeat first | assumption | exact Ext.rfl' | apply Ext.drew | apply Ext.alloc | refine Ext.trans ?_ (by assumption))⟩
theorem find2 {w : World} {a1 a2 : Nat} {p : Option Addr} {c : Nat} {es : List Ent} {key : ByteArray} {j : Nat} {e : Ent} (hs : Sl w.heap eEnt p c es) (hA1 : Blk w.heap a1 73 [.slice p es.length c]) (hA2 : Blk w.heap a2 9 [.string key]) (he : es[j]? = some e) :
    Ctr Try.prog 41 [.int .i64 (j : Int), .pointer (some (adr (bx a1) 0)), .pointer (some (adr (bx a2) 0))] w (fun v w' => v = .bool (!blt e.key key) ∧ Ext w w') := by
  have hjl := get_lt he
  have hb := hs.bound
  refine Ctr_of Try.func41 Try.ntmps41 rfl rfl rfl ?_
  repeat' (first | (apply G_on; exact rfl; first | ((first | apply G1_assign | apply G1_move); exact rfl; exact rfl) | (apply G1_indexAddrN (q := j); exact T.s73; exact rfl; exact rfl; exact hs.ok; omega; exact rfl) | (apply G1_loadFld (q := j) (e := eEnt); exact T.p9; exact rfl; exact hs.ext (Ext.drew Ext.rfl'); exact he; exact rfl; exact rfl; exact rfl) | (apply G1_loadB; (first | exact T.p73 | exact T.p9); exact rfl; assumption; exact rfl; exact rfl) | (apply G1_loadBS; (first | exact T.p73 | exact T.p9); exact rfl; assumption; exact rfl; (first | assumption | (focus (simp [exempt]; omega))); exact rfl) | (apply G1_loadFld; (first | exact T.p73 | exact T.p9); exact rfl; assumption; assumption; exact rfl; exact rfl; exact rfl) | (apply G1_loadEl1; (first | exact T.p73 | exact T.p9); exact rfl; assumption; assumption; exact rfl; exact rfl; exact rfl) | (apply G1_indexAddrN; exact T.s73; exact rfl; exact rfl; (first | assumption | exact Sl.ok (by assumption) | exact (Own.sl (by assumption)).ok); omega; exact rfl) | (apply G1_indexAddr; exact T.s73; exact rfl; exact rfl; (first | assumption | exact Sl.ok (by assumption) | exact (Own.sl (by assumption)).ok); omega; omega; exact rfl) | (apply G1_fieldAddr; exact T.f72_0; exact rfl; exact rfl) | (apply G1_sgeq; exact rfl; exact rfl; exact rfl)) | apply G_nil | apply Post_next | apply W_seq | apply W_region | (apply W_cond_true; exact rfl) | (apply W_cond_false; exact rfl) | (apply W_cond_dec; exact rfl; all_goals (intro h; try (exfalso; omega))) | (apply W_cond; exact rfl; all_goals intro h) | (apply G_off; exact rfl; exact rfl) | ((fail_if_success (apply G_on; exact rfl)); apply G_split_dec; exact rfl; exact rfl; all_goals (intro h; try (exfalso; omega))) | ((fail_if_success (apply G_on; exact rfl)); apply G_split; exact rfl; exact rfl; all_goals intro h) | refine W_drawn 1 [] [0,1,2,3,4,5,6,7] mixed (by decide +kernel) ?_ | apply W_skip | apply W_exit | apply W_ret | apply W_block | apply Post_then_ret | apply Post_block_ret | apply Post_then_exit | apply Post_block_exit | (apply Post_block_other; exact rfl) | apply Post_block_normal)
  refine Post_ret Try.results41 ⟨_, _, rfl, rfl, rfl⟩ ?_
  exact ⟨rfl, (by repeat first | assumption | exact Ext.rfl' | apply Ext.drew | apply Ext.alloc | refine Ext.trans ?_ (by assumption))⟩
theorem idx_find {w : World} {ix : Nat} {F : Nat → Prop} {pb : Option Addr} {cb : Nat} {bl : List Blok} {key : ByteArray} (hI : IxAt w ix F pb cb bl) (hS : SortedE (bl.flatMap Blok.es)) (hn : (bl.flatMap Blok.es).length ≤ 1000) :
    Ctr Try.prog 28 [.pointer (some (adr (bx ix) 0)), .string key] w (fun v w' => ∃ i j : Nat, ∃ ok, v = .tuple #[.int .i64 (i : Int), .int .i64 (j : Int), .bool ok] ∧ FindR bl key i j ok ∧ Ext w w') := by
  have hbl : bl.length ≤ (bl.flatMap Blok.es).length := by
    have hne : ∀ b ∈ bl, b.es ≠ [] := fun b hb => (hI.blok b hb).2
    clear hI hS hn
    induction bl with
    | nil => simp
    | cons b bl ih =>
      have h1 := ih (fun b' hb' => hne b' (by simp [hb']))
      have h2 := List.length_pos_iff.2 (hne b (by simp))
      simp only [List.flatMap_cons, List.length_append, List.length_cons] at *; omega
  have hbe : ∀ b ∈ bl, b.es.length ≤ 1000 := fun b hb => by
    have : b.es.length ≤ (bl.flatMap Blok.es).length := by
      rw [List.flatMap_def]; exact List.Sublist.length_le (List.sublist_flatten_of_mem (List.mem_map_of_mem hb))
    omega
  refine Ctr_of Try.func28 Try.ntmps28 rfl rfl rfl ?_
  repeat' (first | (apply G_on; exact rfl; first | ((first | apply G1_assign | apply G1_move | apply G1_nilCheck | apply G1_makeFunc); exact rfl; exact rfl) | (apply G1_loadB; (first | exact T.p27 | exact T.p65 | exact T.p73 | exact T.p9); exact rfl; assumption; exact rfl; exact rfl) | (apply G1_loadBS; (first | exact T.p27 | exact T.p65 | exact T.p73 | exact T.p9); exact rfl; assumption; exact rfl; (first | assumption | (focus (simp [exempt]; omega))); exact rfl) | (apply G1_loadFld; (first | exact T.p27 | exact T.p65 | exact T.p73 | exact T.p9); exact rfl; assumption; assumption; exact rfl; exact rfl; exact rfl) | (apply G1_loadEl1; (first | exact T.p27 | exact T.p65 | exact T.p73 | exact T.p9); exact rfl; assumption; assumption; exact rfl; exact rfl; exact rfl) | (apply G1_nilCheckF; exact rfl; exact rfl) | (apply G1_fieldAddr; (first | exact T.f67_0 | exact T.f72_0); exact rfl; exact rfl) | (apply G1_len; (first | exact T.s65 | exact T.s73); exact rfl; exact rfl) | (apply G1_eql; exact rfl; exact rfl; exact rfl) | (apply G1_indexAddrN; exact T.s65; exact rfl; exact rfl; (first | assumption | exact Sl.ok (by assumption) | exact (Own.sl (by assumption)).ok); omega; exact rfl) | (apply G1_indexAddr; exact T.s65; exact rfl; exact rfl; (first | assumption | exact Sl.ok (by assumption) | exact (Own.sl (by assumption)).ok); omega; omega; exact rfl) | (apply G1_indexAddrN; exact T.s73; exact rfl; exact rfl; (first | assumption | exact Sl.ok (by assumption) | exact (Own.sl (by assumption)).ok); omega; exact rfl) | (apply G1_indexAddr; exact T.s73; exact rfl; exact rfl; (first | assumption | exact Sl.ok (by assumption) | exact (Own.sl (by assumption)).ok); omega; omega; exact rfl) | (apply G1_seql; exact rfl; exact rfl; exact rfl)) | apply G_nil | apply Post_next | apply W_seq | apply W_region | (apply W_cond_true; exact rfl) | (apply W_cond_false; exact rfl) | (apply W_cond_dec; exact rfl; all_goals (intro h; try (exfalso; omega))) | (apply W_cond; exact rfl; all_goals intro h) | (apply G_off; exact rfl; exact rfl) | ((fail_if_success (apply G_on; exact rfl)); apply G_split_dec; exact rfl; exact rfl; all_goals (intro h; try (exfalso; omega))) | ((fail_if_success (apply G_on; exact rfl)); apply G_split; exact rfl; exact rfl; all_goals intro h) | refine W_drawn 1 [] [0,1,2,3,4,5,6,7,8,9,10,11] mixed (by decide +kernel) ?_ | apply W_skip | apply W_exit | apply W_ret | apply W_block | apply Post_then_ret | apply Post_block_ret | apply Post_then_exit | apply Post_block_exit | (apply Post_block_other; exact rfl) | apply Post_block_normal)
  apply G_on; exact rfl; apply G1_box; exact rfl; exact rfl; exact rfl; intro a1 w1 ha1 hA1 hx1 hs1
  replace hA1 : Blk w1.heap a1 27 [.pointer (some (adr (bx ix) 0))] := hA1
  repeat' (first | (apply G_on; exact rfl; first | ((first | apply G1_assign | apply G1_move | apply G1_nilCheck | apply G1_makeFunc); exact rfl; exact rfl) | (apply G1_loadB; (first | exact T.p27 | exact T.p65 | exact T.p73 | exact T.p9); exact rfl; assumption; exact rfl; exact rfl) | (apply G1_loadBS; (first | exact T.p27 | exact T.p65 | exact T.p73 | exact T.p9); exact rfl; assumption; exact rfl; (first | assumption | (focus (simp [exempt]; omega))); exact rfl) | (apply G1_loadFld; (first | exact T.p27 | exact T.p65 | exact T.p73 | exact T.p9); exact rfl; assumption; assumption; exact rfl; exact rfl; exact rfl) | (apply G1_loadEl1; (first | exact T.p27 | exact T.p65 | exact T.p73 | exact T.p9); exact rfl; assumption; assumption; exact rfl; exact rfl; exact rfl) | (apply G1_nilCheckF; exact rfl; exact rfl) | (apply G1_fieldAddr; (first | exact T.f67_0 | exact T.f72_0); exact rfl; exact rfl) | (apply G1_len; (first | exact T.s65 | exact T.s73); exact rfl; exact rfl) | (apply G1_eql; exact rfl; exact rfl; exact rfl) | (apply G1_indexAddrN; exact T.s65; exact rfl; exact rfl; (first | assumption | exact Sl.ok (by assumption) | exact (Own.sl (by assumption)).ok); omega; exact rfl) | (apply G1_indexAddr; exact T.s65; exact rfl; exact rfl; (first | assumption | exact Sl.ok (by assumption) | exact (Own.sl (by assumption)).ok); omega; omega; exact rfl) | (apply G1_indexAddrN; exact T.s73; exact rfl; exact rfl; (first | assumption | exact Sl.ok (by assumption) | exact (Own.sl (by assumption)).ok); omega; exact rfl) | (apply G1_indexAddr; exact T.s73; exact rfl; exact rfl; (first | assumption | exact Sl.ok (by assumption) | exact (Own.sl (by assumption)).ok); omega; omega; exact rfl) | (apply G1_seql; exact rfl; exact rfl; exact rfl)) | apply G_nil | apply Post_next | apply W_seq | apply W_region | (apply W_cond_true; exact rfl) | (apply W_cond_false; exact rfl) | (apply W_cond_dec; exact rfl; all_goals (intro h; try (exfalso; omega))) | (apply W_cond; exact rfl; all_goals intro h) | (apply G_off; exact rfl; exact rfl) | ((fail_if_success (apply G_on; exact rfl)); apply G_split_dec; exact rfl; exact rfl; all_goals (intro h; try (exfalso; omega))) | ((fail_if_success (apply G_on; exact rfl)); apply G_split; exact rfl; exact rfl; all_goals intro h) | refine W_drawn 1 [] [0,1,2,3,4,5,6,7,8,9,10,11] mixed (by decide +kernel) ?_ | apply W_skip | apply W_exit | apply W_ret | apply W_block | apply Post_then_ret | apply Post_block_ret | apply Post_then_exit | apply Post_block_exit | (apply Post_block_other; exact rfl) | apply Post_block_normal)
  apply G_on; exact rfl; apply G1_box; exact rfl; exact rfl; exact rfl; intro a2 w2 ha2 hA2 hx2 hs2
  replace hA2 : Blk w2.heap a2 9 [.string key] := hA2
  replace hA1 := hA1.ext hx2
  have hx02 := hx1.trans hx2
  have hI2 := hI.ext hx02
  have hbox := hI2.box
  have hrows := hI2.rows.sl
  have hrb := hrows.bound
  repeat' (first | (apply G_on; exact rfl; first | ((first | apply G1_assign | apply G1_move | apply G1_nilCheck | apply G1_makeFunc); exact rfl; exact rfl) | (apply G1_loadB; (first | exact T.p27 | exact T.p65 | exact T.p73 | exact T.p9); exact rfl; assumption; exact rfl; exact rfl) | (apply G1_loadBS; (first | exact T.p27 | exact T.p65 | exact T.p73 | exact T.p9); exact rfl; assumption; exact rfl; (first | assumption | (focus (simp [exempt]; omega))); exact rfl) | (apply G1_loadFld; (first | exact T.p27 | exact T.p65 | exact T.p73 | exact T.p9); exact rfl; assumption; assumption; exact rfl; exact rfl; exact rfl) | (apply G1_loadEl1; (first | exact T.p27 | exact T.p65 | exact T.p73 | exact T.p9); exact rfl; assumption; assumption; exact rfl; exact rfl; exact rfl) | (apply G1_nilCheckF; exact rfl; exact rfl) | (apply G1_fieldAddr; (first | exact T.f67_0 | exact T.f72_0); exact rfl; exact rfl) | (apply G1_len; (first | exact T.s65 | exact T.s73); exact rfl; exact rfl) | (apply G1_eql; exact rfl; exact rfl; exact rfl) | (apply G1_indexAddrN; exact T.s65; exact rfl; exact rfl; (first | assumption | exact Sl.ok (by assumption) | exact (Own.sl (by assumption)).ok); omega; exact rfl) | (apply G1_indexAddr; exact T.s65; exact rfl; exact rfl; (first | assumption | exact Sl.ok (by assumption) | exact (Own.sl (by assumption)).ok); omega; omega; exact rfl) | (apply G1_indexAddrN; exact T.s73; exact rfl; exact rfl; (first | assumption | exact Sl.ok (by assumption) | exact (Own.sl (by assumption)).ok); omega; exact rfl) | (apply G1_indexAddr; exact T.s73; exact rfl; exact rfl; (first | assumption | exact Sl.ok (by assumption) | exact (Own.sl (by assumption)).ok); omega; omega; exact rfl) | (apply G1_seql; exact rfl; exact rfl; exact rfl)) | apply G_nil | apply Post_next | apply W_seq | apply W_region | (apply W_cond_true; exact rfl) | (apply W_cond_false; exact rfl) | (apply W_cond_dec; exact rfl; all_goals (intro h; try (exfalso; omega))) | (apply W_cond; exact rfl; all_goals intro h) | (apply G_off; exact rfl; exact rfl) | ((fail_if_success (apply G_on; exact rfl)); apply G_split_dec; exact rfl; exact rfl; all_goals (intro h; try (exfalso; omega))) | ((fail_if_success (apply G_on; exact rfl)); apply G_split; exact rfl; exact rfl; all_goals intro h) | refine W_drawn 1 [] [0,1,2,3,4,5,6,7,8,9,10,11] mixed (by decide +kernel) ?_ | apply W_skip | apply W_exit | apply W_ret | apply W_block | apply Post_then_ret | apply Post_block_ret | apply Post_then_exit | apply Post_block_exit | (apply Post_block_other; exact rfl) | apply Post_block_normal)
  apply G_on; exact rfl; apply G1_call; exact rfl; exact rfl; exact rfl; exact search_spec (pr := fun i => match bl[i.toNat]? with | some b => !blt (lastK b) key | none => true) (by omega) (by omega) (fun i w3 h0 h1 hx3 => by
    obtain ⟨b, hb⟩ := get_some (xs := bl) (k := i.toNat) (by omega)
    rw [hb]
    have := find1 (key := key) (hI2.ext hx3) (hA1.ext hx3) (hA2.ext hx3) hb (by have := hbe b (List.mem_of_getElem? hb); omega)
    rw [show ((i.toNat : Nat) : Int) = i by omega] at this
    exact this); rintro _ w3 ⟨i1, rfl, hi0, hi1, hi2, hi3, hx3⟩; refine ⟨(by first | exact .inl rfl | exact .inr (by assumption)), ?_⟩
  obtain ⟨i, rfl⟩ : ∃ i : Nat, i1 = (i : Int) := ⟨i1.toNat, by omega⟩
  have hbefore : ∀ x ∈ (bl.take i).flatMap Blok.es, blt x.key key = true := by
    intro x hx
    rcases hi3 with h | h
    · rw [show i = 0 by omega] at hx; simp at hx
    · obtain ⟨i', rfl⟩ : ∃ i', i = i' + 1 := by
        cases i with
        | zero => simp at hx
        | succ i' => exact ⟨i', rfl⟩
      obtain ⟨b, hb⟩ := get_some (xs := bl) (k := i') (by omega)
      have e0 : (((i' + 1 : Nat) : Int) - 1).toNat = i' := by omega
      rw [e0, hb] at h
      simp only [Bool.not_eq_false'] at h
      have hne := (hI.blok b (List.mem_of_getElem? hb)).2
      obtain ⟨e, he⟩ := get_some (xs := b.es) (k := b.es.length - 1) (by have := List.length_pos_iff.2 hne; omega)
      rw [lastK_at he] at h
      have h0 := split_get hb
      have h1 : (bl.take (i' + 1)).flatMap Blok.es = (bl.take i').flatMap Blok.es ++ b.es := by rw [take_snoc hb]; simp
      have hs1 : SortedE ((bl.take (i' + 1)).flatMap Blok.es) := by
        unfold SortedE at hS ⊢
        rw [← List.take_append_drop (i' + 1) bl, List.flatMap_append] at hS
        exact (List.pairwise_append.1 hS).1
      have hg : ((bl.take (i' + 1)).flatMap Blok.es)[((bl.take (i' + 1)).flatMap Blok.es).length - 1]? = some e := by
        rw [h1, List.length_append, List.getElem?_append_right (by have := List.length_pos_iff.2 hne; omega), ← he]
        congr 1; have := List.length_pos_iff.2 hne; omega
      have := less_upto hs1 hg h
      rw [List.take_of_length_le (by omega)] at this
      exact this x hx
  replace hA1 := hA1.ext hx3
  replace hA2 := hA2.ext hx3
  have hI3 := hI2.ext hx3
  have l2 := hA2.lt
  have hbox3 := hI3.box
  have hx03 := hx02.trans hx3
  by_cases hil : i = bl.length
  · subst hil
    repeat' (first | (apply G_on; exact rfl; first | ((first | apply G1_assign | apply G1_move | apply G1_nilCheck | apply G1_makeFunc); exact rfl; exact rfl) | (apply G1_loadB; (first | exact T.p27 | exact T.p65 | exact T.p73 | exact T.p9); exact rfl; assumption; exact rfl; exact rfl) | (apply G1_loadBS; (first | exact T.p27 | exact T.p65 | exact T.p73 | exact T.p9); exact rfl; assumption; exact rfl; (first | assumption | (focus (simp [exempt]; omega))); exact rfl) | (apply G1_loadFld; (first | exact T.p27 | exact T.p65 | exact T.p73 | exact T.p9); exact rfl; assumption; assumption; exact rfl; exact rfl; exact rfl) | (apply G1_loadEl1; (first | exact T.p27 | exact T.p65 | exact T.p73 | exact T.p9); exact rfl; assumption; assumption; exact rfl; exact rfl; exact rfl) | (apply G1_nilCheckF; exact rfl; exact rfl) | (apply G1_fieldAddr; (first | exact T.f67_0 | exact T.f72_0); exact rfl; exact rfl) | (apply G1_len; (first | exact T.s65 | exact T.s73); exact rfl; exact rfl) | (apply G1_eql; exact rfl; exact rfl; exact rfl) | (apply G1_indexAddrN; exact T.s65; exact rfl; exact rfl; (first | assumption | exact Sl.ok (by assumption) | exact (Own.sl (by assumption)).ok); omega; exact rfl) | (apply G1_indexAddr; exact T.s65; exact rfl; exact rfl; (first | assumption | exact Sl.ok (by assumption) | exact (Own.sl (by assumption)).ok); omega; omega; exact rfl) | (apply G1_indexAddrN; exact T.s73; exact rfl; exact rfl; (first | assumption | exact Sl.ok (by assumption) | exact (Own.sl (by assumption)).ok); omega; exact rfl) | (apply G1_indexAddr; exact T.s73; exact rfl; exact rfl; (first | assumption | exact Sl.ok (by assumption) | exact (Own.sl (by assumption)).ok); omega; omega; exact rfl) | (apply G1_seql; exact rfl; exact rfl; exact rfl)) | apply G_nil | apply Post_next | apply W_seq | apply W_region | (apply W_cond_true; exact rfl) | (apply W_cond_false; exact rfl) | (apply W_cond_dec; exact rfl; all_goals (intro h; try (exfalso; omega))) | (apply W_cond; exact rfl; all_goals intro h) | (apply G_off; exact rfl; exact rfl) | ((fail_if_success (apply G_on; exact rfl)); apply G_split_dec; exact rfl; exact rfl; all_goals (intro h; try (exfalso; omega))) | ((fail_if_success (apply G_on; exact rfl)); apply G_split; exact rfl; exact rfl; all_goals intro h) | refine W_drawn 1 [] [0,1,2,3,4,5,6,7,8,9,10,11] mixed (by decide +kernel) ?_ | apply W_skip | apply W_exit | apply W_ret | apply W_block | apply Post_then_ret | apply Post_block_ret | apply Post_then_exit | apply Post_block_exit | (apply Post_block_other; exact rfl) | apply Post_block_normal)
    all_goals try (exfalso; omega)
    refine Post_ret Try.results28 ⟨_, _, rfl, rfl, _, _, rfl, rfl, _, _, rfl, rfl, rfl⟩ ?_
    refine ⟨bl.length, 0, false, rfl, .inl ⟨rfl, rfl, rfl, fun e he => hbefore e (by rw [List.take_length]; exact he)⟩, hx03⟩
  have hlt : i < bl.length := by omega
  obtain ⟨b, hb⟩ := get_some hlt
  have hbm := List.mem_of_getElem? hb
  have hrows3 := hI3.rows.sl
  have hbl2 := hbe b hbm
  obtain ⟨hob, hne⟩ := hI3.blok b hbm
  have hpos := List.length_pos_iff.2 hne
  have hlast : blt (lastK b) key = false := by
    rcases hi2 with h | h
    · omega
    · rw [show ((i : Nat) : Int).toNat = i by omega, hb] at h
      simpa using h
  repeat' (first | (apply G_on; exact rfl; first | ((first | apply G1_assign | apply G1_move | apply G1_nilCheck | apply G1_makeFunc); exact rfl; exact rfl) | (apply G1_loadEl1 (q := i) (e := eBlok); exact T.p73; exact rfl; exact hrows3; exact hb; exact rfl; exact rfl; exact rfl) | (apply G1_loadB; (first | exact T.p27 | exact T.p65 | exact T.p73 | exact T.p9); exact rfl; assumption; exact rfl; exact rfl) | (apply G1_loadBS; (first | exact T.p27 | exact T.p65 | exact T.p73 | exact T.p9); exact rfl; assumption; exact rfl; (first | assumption | (focus (simp [exempt]; omega))); exact rfl) | (apply G1_loadFld; (first | exact T.p27 | exact T.p65 | exact T.p73 | exact T.p9); exact rfl; assumption; assumption; exact rfl; exact rfl; exact rfl) | (apply G1_loadEl1; (first | exact T.p27 | exact T.p65 | exact T.p73 | exact T.p9); exact rfl; assumption; assumption; exact rfl; exact rfl; exact rfl) | (apply G1_nilCheckF; exact rfl; exact rfl) | (apply G1_fieldAddr; (first | exact T.f67_0 | exact T.f72_0); exact rfl; exact rfl) | (apply G1_len; (first | exact T.s65 | exact T.s73); exact rfl; exact rfl) | (apply G1_eql; exact rfl; exact rfl; exact rfl) | (apply G1_indexAddrN; exact T.s65; exact rfl; exact rfl; (first | assumption | exact Sl.ok (by assumption) | exact (Own.sl (by assumption)).ok); omega; exact rfl) | (apply G1_indexAddr; exact T.s65; exact rfl; exact rfl; (first | assumption | exact Sl.ok (by assumption) | exact (Own.sl (by assumption)).ok); omega; omega; exact rfl) | (apply G1_indexAddrN; exact T.s73; exact rfl; exact rfl; (first | assumption | exact Sl.ok (by assumption) | exact (Own.sl (by assumption)).ok); omega; exact rfl) | (apply G1_indexAddr; exact T.s73; exact rfl; exact rfl; (first | assumption | exact Sl.ok (by assumption) | exact (Own.sl (by assumption)).ok); omega; omega; exact rfl) | (apply G1_seql; exact rfl; exact rfl; exact rfl)) | apply G_nil | apply Post_next | apply W_seq | apply W_region | (apply W_cond_true; exact rfl) | (apply W_cond_false; exact rfl) | (apply W_cond_dec; exact rfl; all_goals (intro h; try (exfalso; omega))) | (apply W_cond; exact rfl; all_goals intro h) | (apply G_off; exact rfl; exact rfl) | ((fail_if_success (apply G_on; exact rfl)); apply G_split_dec; exact rfl; exact rfl; all_goals (intro h; try (exfalso; omega))) | ((fail_if_success (apply G_on; exact rfl)); apply G_split; exact rfl; exact rfl; all_goals intro h) | refine W_drawn 1 [] [0,1,2,3,4,5,6,7,8,9,10,11] mixed (by decide +kernel) ?_ | apply W_skip | apply W_exit | apply W_ret | apply W_block | apply Post_then_ret | apply Post_block_ret | apply Post_then_exit | apply Post_block_exit | (apply Post_block_other; exact rfl) | apply Post_block_normal)
  all_goals try (exfalso; omega)
  apply G_on; exact rfl; apply G1_alloc; exact T.zero73; exact rfl; exact rfl; intro a4 w4 ha4 hA4 hx4 hs4
  have hrows4 := hrows3.ext hx4
  replace hA1 := hA1.ext hx4
  replace hA2 := hA2.ext hx4
  have hbox4 := hbox3.ext hx4
  repeat' (first | (apply G_on; exact rfl; first | ((first | apply G1_assign | apply G1_move | apply G1_nilCheck | apply G1_makeFunc); exact rfl; exact rfl) | (apply G1_loadEl1 (q := i) (e := eBlok); exact T.p73; exact rfl; exact hrows4; exact hb; exact rfl; exact rfl; exact rfl) | (apply G1_loadB; (first | exact T.p27 | exact T.p65 | exact T.p73 | exact T.p9); exact rfl; assumption; exact rfl; exact rfl) | (apply G1_loadBS; (first | exact T.p27 | exact T.p65 | exact T.p73 | exact T.p9); exact rfl; assumption; exact rfl; (first | assumption | (focus (simp [exempt]; omega))); exact rfl) | (apply G1_loadFld; (first | exact T.p27 | exact T.p65 | exact T.p73 | exact T.p9); exact rfl; assumption; assumption; exact rfl; exact rfl; exact rfl) | (apply G1_loadEl1; (first | exact T.p27 | exact T.p65 | exact T.p73 | exact T.p9); exact rfl; assumption; assumption; exact rfl; exact rfl; exact rfl) | (apply G1_nilCheckF; exact rfl; exact rfl) | (apply G1_fieldAddr; (first | exact T.f67_0 | exact T.f72_0); exact rfl; exact rfl) | (apply G1_len; (first | exact T.s65 | exact T.s73); exact rfl; exact rfl) | (apply G1_eql; exact rfl; exact rfl; exact rfl) | (apply G1_indexAddrN; exact T.s65; exact rfl; exact rfl; (first | assumption | exact Sl.ok (by assumption) | exact (Own.sl (by assumption)).ok); omega; exact rfl) | (apply G1_indexAddr; exact T.s65; exact rfl; exact rfl; (first | assumption | exact Sl.ok (by assumption) | exact (Own.sl (by assumption)).ok); omega; omega; exact rfl) | (apply G1_indexAddrN; exact T.s73; exact rfl; exact rfl; (first | assumption | exact Sl.ok (by assumption) | exact (Own.sl (by assumption)).ok); omega; exact rfl) | (apply G1_indexAddr; exact T.s73; exact rfl; exact rfl; (first | assumption | exact Sl.ok (by assumption) | exact (Own.sl (by assumption)).ok); omega; omega; exact rfl) | (apply G1_seql; exact rfl; exact rfl; exact rfl)) | apply G_nil | apply Post_next | apply W_seq | apply W_region | (apply W_cond_true; exact rfl) | (apply W_cond_false; exact rfl) | (apply W_cond_dec; exact rfl; all_goals (intro h; try (exfalso; omega))) | (apply W_cond; exact rfl; all_goals intro h) | (apply G_off; exact rfl; exact rfl) | ((fail_if_success (apply G_on; exact rfl)); apply G_split_dec; exact rfl; exact rfl; all_goals (intro h; try (exfalso; omega))) | ((fail_if_success (apply G_on; exact rfl)); apply G_split; exact rfl; exact rfl; all_goals intro h) | refine W_drawn 1 [] [0,1,2,3,4,5,6,7,8,9,10,11] mixed (by decide +kernel) ?_ | apply W_skip | apply W_exit | apply W_ret | apply W_block | apply Post_then_ret | apply Post_block_ret | apply Post_then_exit | apply Post_block_exit | (apply Post_block_other; exact rfl) | apply Post_block_normal)
  apply G_on; exact rfl; apply G1_storeB; exact T.z73; exact rfl; exact rfl; exact hA4; exact rfl; exact rfl; (first | exact Nat.le_of_ble_eq_true rfl | (focus (simp [Value.cells]; done))); (first | exact Enc.one _ _ | (focus (simp [Value.oneCell']; done)) | (focus (simp [Value.cells, Value.oneCell']; done)) | exact Enc.oneAgg _ _); exact rfl; (first | exact .inl rfl | exact .inr (by simp [exempt])); exact rfl; intro w5 hA5 hg5 hs5
  replace hA5 : Blk w5.heap a4 73 [.slice b.p b.es.length b.c] := hA5
  have hx5 : Ext w3 w5 := hx4.own hg5 (fun k hk => by injection hk; omega)
  replace hA2 := hA2.grown hg5 (by intro e; injection e with e; omega)
  have hs5' := hob.sl.ext hx5
  have hx05 := hx03.trans hx5
  repeat' (first | (apply G_on; exact rfl; first | ((first | apply G1_assign | apply G1_move | apply G1_nilCheck | apply G1_makeFunc); exact rfl; exact rfl) | (apply G1_loadB; (first | exact T.p27 | exact T.p65 | exact T.p73 | exact T.p9); exact rfl; assumption; exact rfl; exact rfl) | (apply G1_loadBS; (first | exact T.p27 | exact T.p65 | exact T.p73 | exact T.p9); exact rfl; assumption; exact rfl; (first | assumption | (focus (simp [exempt]; omega))); exact rfl) | (apply G1_loadFld; (first | exact T.p27 | exact T.p65 | exact T.p73 | exact T.p9); exact rfl; assumption; assumption; exact rfl; exact rfl; exact rfl) | (apply G1_loadEl1; (first | exact T.p27 | exact T.p65 | exact T.p73 | exact T.p9); exact rfl; assumption; assumption; exact rfl; exact rfl; exact rfl) | (apply G1_nilCheckF; exact rfl; exact rfl) | (apply G1_fieldAddr; (first | exact T.f67_0 | exact T.f72_0); exact rfl; exact rfl) | (apply G1_len; (first | exact T.s65 | exact T.s73); exact rfl; exact rfl) | (apply G1_eql; exact rfl; exact rfl; exact rfl) | (apply G1_indexAddrN; exact T.s65; exact rfl; exact rfl; (first | assumption | exact Sl.ok (by assumption) | exact (Own.sl (by assumption)).ok); omega; exact rfl) | (apply G1_indexAddr; exact T.s65; exact rfl; exact rfl; (first | assumption | exact Sl.ok (by assumption) | exact (Own.sl (by assumption)).ok); omega; omega; exact rfl) | (apply G1_indexAddrN; exact T.s73; exact rfl; exact rfl; (first | assumption | exact Sl.ok (by assumption) | exact (Own.sl (by assumption)).ok); omega; exact rfl) | (apply G1_indexAddr; exact T.s73; exact rfl; exact rfl; (first | assumption | exact Sl.ok (by assumption) | exact (Own.sl (by assumption)).ok); omega; omega; exact rfl) | (apply G1_seql; exact rfl; exact rfl; exact rfl)) | apply G_nil | apply Post_next | apply W_seq | apply W_region | (apply W_cond_true; exact rfl) | (apply W_cond_false; exact rfl) | (apply W_cond_dec; exact rfl; all_goals (intro h; try (exfalso; omega))) | (apply W_cond; exact rfl; all_goals intro h) | (apply G_off; exact rfl; exact rfl) | ((fail_if_success (apply G_on; exact rfl)); apply G_split_dec; exact rfl; exact rfl; all_goals (intro h; try (exfalso; omega))) | ((fail_if_success (apply G_on; exact rfl)); apply G_split; exact rfl; exact rfl; all_goals intro h) | refine W_drawn 1 [] [0,1,2,3,4,5,6,7,8,9,10,11] mixed (by decide +kernel) ?_ | apply W_skip | apply W_exit | apply W_ret | apply W_block | apply Post_then_ret | apply Post_block_ret | apply Post_then_exit | apply Post_block_exit | (apply Post_block_other; exact rfl) | apply Post_block_normal)
  apply G_on; exact rfl; apply G1_call; exact rfl; exact rfl; exact rfl; exact search_spec (pr := fun j => match b.es[j.toNat]? with | some e => !blt e.key key | none => true) (by omega) (by omega) (fun j w6 h0 h1 hx6 => by
    obtain ⟨e, he⟩ := get_some (xs := b.es) (k := j.toNat) (by omega)
    rw [he]
    have := find2 (key := key) (hs5'.ext hx6) (hA5.ext hx6) (hA2.ext hx6) he
    rw [show ((j.toNat : Nat) : Int) = j by omega] at this
    exact this); rintro _ w6 ⟨j1, rfl, hj0, hj1, hj2, hj3, hx6⟩; refine ⟨(by first | exact .inl rfl | exact .inr (by assumption)), ?_⟩
  obtain ⟨j, rfl⟩ : ∃ j : Nat, j1 = (j : Int) := ⟨j1.toNat, by omega⟩
  have hsb : SortedE b.es := by
    unfold SortedE at hS ⊢
    have h0 := split_get hb
    rw [h0, List.flatMap_append, List.flatMap_cons] at hS
    exact (List.pairwise_append.1 (List.pairwise_append.1 hS).2.1).1
  have hjb : ∀ x ∈ b.es.take j, blt x.key key = true := by
    intro x hx
    rcases hj3 with h | h
    · rw [show j = 0 by omega] at hx; simp at hx
    · obtain ⟨j', rfl⟩ : ∃ j', j = j' + 1 := by
        cases j with
        | zero => simp at hx
        | succ j' => exact ⟨j', rfl⟩
      obtain ⟨e, he⟩ := get_some (xs := b.es) (k := j') (by omega)
      have e0 : (((j' + 1 : Nat) : Int) - 1).toNat = j' := by omega
      rw [e0, he] at h
      simp only [Bool.not_eq_false'] at h
      exact less_upto hsb he h x hx
  have hjl : j < b.es.length := by
    rcases Nat.lt_or_ge j b.es.length with h | h
    · exact h
    · exfalso
      obtain ⟨e, he⟩ := get_some (xs := b.es) (k := b.es.length - 1) (by omega)
      have h1 := hjb e (by rw [List.take_of_length_le h]; exact List.mem_of_getElem? he)
      rw [lastK_at he, h1] at hlast
      cases hlast
  obtain ⟨e, he⟩ := get_some hjl
  have hel : blt e.key key = false := by
    rcases hj2 with h | h
    · omega
    · rw [show ((j : Nat) : Int).toNat = j by omega, he] at h
      simpa using h
  have hs6 := hs5'.ext hx6
  replace hA5 := hA5.ext hx6
  replace hA2 := hA2.ext hx6
  repeat' (first | (apply G_on; exact rfl; first | ((first | apply G1_assign | apply G1_move | apply G1_nilCheck | apply G1_makeFunc); exact rfl; exact rfl) | (apply G1_indexAddrN (q := j); exact T.s73; exact rfl; exact rfl; exact hs6.ok; omega; exact rfl) | (apply G1_loadFld (q := j) (e := eEnt); exact T.p9; exact rfl; exact hs6.ext (Ext.drew Ext.rfl'); exact he; exact rfl; exact rfl; exact rfl) | (apply G1_loadB; (first | exact T.p27 | exact T.p65 | exact T.p73 | exact T.p9); exact rfl; assumption; exact rfl; exact rfl) | (apply G1_loadBS; (first | exact T.p27 | exact T.p65 | exact T.p73 | exact T.p9); exact rfl; assumption; exact rfl; (first | assumption | (focus (simp [exempt]; omega))); exact rfl) | (apply G1_loadFld; (first | exact T.p27 | exact T.p65 | exact T.p73 | exact T.p9); exact rfl; assumption; assumption; exact rfl; exact rfl; exact rfl) | (apply G1_loadEl1; (first | exact T.p27 | exact T.p65 | exact T.p73 | exact T.p9); exact rfl; assumption; assumption; exact rfl; exact rfl; exact rfl) | (apply G1_nilCheckF; exact rfl; exact rfl) | (apply G1_fieldAddr; (first | exact T.f67_0 | exact T.f72_0); exact rfl; exact rfl) | (apply G1_len; (first | exact T.s65 | exact T.s73); exact rfl; exact rfl) | (apply G1_eql; exact rfl; exact rfl; exact rfl) | (apply G1_indexAddrN; exact T.s65; exact rfl; exact rfl; (first | assumption | exact Sl.ok (by assumption) | exact (Own.sl (by assumption)).ok); omega; exact rfl) | (apply G1_indexAddr; exact T.s65; exact rfl; exact rfl; (first | assumption | exact Sl.ok (by assumption) | exact (Own.sl (by assumption)).ok); omega; omega; exact rfl) | (apply G1_indexAddrN; exact T.s73; exact rfl; exact rfl; (first | assumption | exact Sl.ok (by assumption) | exact (Own.sl (by assumption)).ok); omega; exact rfl) | (apply G1_indexAddr; exact T.s73; exact rfl; exact rfl; (first | assumption | exact Sl.ok (by assumption) | exact (Own.sl (by assumption)).ok); omega; omega; exact rfl) | (apply G1_seql; exact rfl; exact rfl; exact rfl)) | apply G_nil | apply Post_next | apply W_seq | apply W_region | (apply W_cond_true; exact rfl) | (apply W_cond_false; exact rfl) | (apply W_cond_dec; exact rfl; all_goals (intro h; try (exfalso; omega))) | (apply W_cond; exact rfl; all_goals intro h) | (apply G_off; exact rfl; exact rfl) | ((fail_if_success (apply G_on; exact rfl)); apply G_split_dec; exact rfl; exact rfl; all_goals (intro h; try (exfalso; omega))) | ((fail_if_success (apply G_on; exact rfl)); apply G_split; exact rfl; exact rfl; all_goals intro h) | refine W_drawn 1 [] [0,1,2,3,4,5,6,7,8,9,10,11] mixed (by decide +kernel) ?_ | apply W_skip | apply W_exit | apply W_ret | apply W_block | apply Post_then_ret | apply Post_block_ret | apply Post_then_exit | apply Post_block_exit | (apply Post_block_other; exact rfl) | apply Post_block_normal)
  refine Post_ret Try.results28 ⟨_, _, rfl, rfl, _, _, rfl, rfl, _, _, rfl, rfl, rfl⟩ ?_
  refine ⟨i, j, decide (e.key = key), rfl, .inr ⟨bl.take i, b, bl.drop (i + 1), b.es.take j, e, b.es.drop (j + 1), split_get hb, split_get he, by rw [List.length_take]; omega, by rw [List.length_take]; omega, rfl, fun x hx => ?_, hel⟩, (hx05.trans hx6).trans (by repeat first | assumption | exact Ext.rfl' | apply Ext.drew | apply Ext.alloc | refine Ext.trans ?_ (by assumption))⟩
  rcases List.mem_append.1 hx with h | h
  · exact hbefore x h
  · exact hjb x h
end Go.Proofs.Ytbphlenpclnobaa
