/- The document's Unpack. -/
import Derived.Test.YtomgghelhalaeaaVUnpack
namespace Go.V
section
variable {P : Program} {n : Nat} {ops : Array Oper} {dr : Nat × List Nat} {l : List Oper} {E : Env} {w : World} {K : Env → World → Prop}
variable {d : Option Nat} {ty : TypeId} {pos : String} {af : Array Edge} {g : Option (Nat × Bool)} {x y z : Operand} {k k' : IntKind} {i j : Int} {t u sz by_ : Nat} {p : Option Addr} {c len : Nat}
theorem G1_sliceI {q r : Nat} (hu : SliceT P t u sz by_) (hx : E.look x = some (.slice p len c)) (hy : E.look y = some (.int k i)) (hz : E.look z = some (.int k' j)) (e1 : i = (q : Int)) (e2 : j = (r : Int)) (hq : q ≤ r) (hr : r ≤ c) (hd : dstOk n d = true)
    (h : G P n ops dr l (E.put d (.slice (subp p c q sz) (r - q) (c - q))) w K) : G1 P n ops dr ⟨d, .slice t x (some y) (some z) none, ty, pos, af, g⟩ l E w K := by
  subst e1 e2; exact G1_sliceBoth hu hx hy hz hq hr hd h
end
end Go.V
namespace Go.Proofs.Ytomgghelhalaeaa
open Go.V
attribute [local irreducible] Blk Own hcell IntT SliceT PlainT AggT SizeT StrT FieldT ZeroT EqT ArrT

def AtR (bs : List UInt8) (at_ : Int) (st : Option (List UInt8)) : Prop := (at_ = -1 ∧ st = none) ∨ ∃ pos : Nat, pos ≤ bs.length ∧ at_ = pos ∧ st = some (bs.drop pos)

theorem drop_two {bs : List UInt8} {pos : Nat} {a b : UInt8} (h1 : bs[pos]? = some a) (h2 : bs[pos + 1]? = some b) : bs.drop pos = a :: b :: bs.drop (pos + 2) := by
  have l1 := get_lt h1; have l2 := get_lt h2
  rw [List.drop_eq_getElem_cons l1, List.drop_eq_getElem_cons l2]
  rw [List.getElem?_eq_getElem l1] at h1
  rw [List.getElem?_eq_getElem l2] at h2
  simp at h1 h2
  rw [h1, h2]

theorem word_spec {p : Option Addr} {c : Nat} {bs : List UInt8} {at_ : Int} {st : Option (List UInt8)} {w : World} (hS : Sl w.heap eByte p c bs) (hb : bs.length ≤ 1000000000) (hat : AtR bs at_ st) :
    Ctr Try.prog 56 [.slice p bs.length c, .int .i64 at_] w (fun x w' => ∃ at', x = .tuple #[.string (textP st).2, .int .i64 at'] ∧ AtR bs at' (textP st).1 ∧ Ext w w') := by
  refine Ctr_of Try.func56 Try.ntmps56 rfl rfl rfl ?_
  rcases hat with ⟨rfl, rfl⟩ | ⟨pos, hpos, rfl, rfl⟩
  · repeat' (first | (apply G_on; exact rfl; first | ((first | apply G1_assign | apply G1_move); exact rfl; exact rfl) | (apply G1_lss; exact rfl; exact rfl; exact rfl) | (apply G1_len; exact T.s38; exact rfl; exact rfl) | (apply G1_sub; exact rfl; exact rfl; omega; omega; exact rfl) | (apply G1_pick_t; exact rfl; exact rfl; exact rfl) | (apply G1_pick_f; exact rfl; exact rfl; exact rfl) | (apply G1_indexAddrN; exact T.s38; exact rfl; exact rfl; (first | assumption | exact Sl.ok (by assumption) | exact (Own.sl (by assumption)).ok); omega; exact rfl) | (apply G1_indexAddr; exact T.s38; exact rfl; exact rfl; (first | assumption | exact Sl.ok (by assumption) | exact (Own.sl (by assumption)).ok); omega; omega; exact rfl) | (apply G1_loadB; exact T.p5; exact rfl; assumption; exact rfl; exact rfl) | (apply G1_loadBS; exact T.p5; exact rfl; assumption; exact rfl; (first | assumption | (focus (simp [exempt]; omega))); exact rfl) | (apply G1_loadFld; exact T.p5; exact rfl; assumption; assumption; exact rfl; exact rfl; exact rfl) | (apply G1_loadEl1; exact T.p5; exact rfl; assumption; assumption; exact rfl; exact rfl; exact rfl) | (apply G1_convi64; exact rfl; exact T.i5; exact T.i3; omega; omega; exact rfl) | (apply G1_mul; exact rfl; exact rfl; omega; omega; exact rfl) | (apply G1_add; exact rfl; exact rfl; omega; omega; exact rfl)) | apply G_nil | apply Post_next | apply W_seq | apply W_region | (apply W_cond_true; exact rfl) | (apply W_cond_false; exact rfl) | (apply W_cond_dec; exact rfl; all_goals (intro h; try (exfalso; omega))) | (apply W_cond; exact rfl; all_goals intro h) | (apply G_off; exact rfl; exact rfl) | ((fail_if_success (apply G_on; exact rfl)); apply G_split_dec; exact rfl; exact rfl; all_goals (intro h; try (exfalso; omega))) | ((fail_if_success (apply G_on; exact rfl)); apply G_split; exact rfl; exact rfl; all_goals intro h) | refine W_drawn 1 [] [0,1,2,3,4,5,6,7,8,9,10,11,12,13] mixed (by decide +kernel) ?_ | apply W_skip | apply W_exit | apply W_ret | apply W_block | apply Post_then_ret | apply Post_block_ret | apply Post_then_exit | apply Post_block_exit | (apply Post_block_other; exact rfl) | apply Post_block_normal)
    refine Post_ret Try.results56 ⟨_, _, rfl, rfl, _, _, rfl, rfl, rfl⟩ ?_
    exact ⟨-1, rfl, .inl ⟨rfl, rfl⟩, (by repeat first | assumption | exact Ext.rfl' | apply Ext.drew | apply Ext.alloc | refine Ext.trans ?_ (by assumption))⟩
  · by_cases h2 : bs.length - pos < 2
    · have e : textP (some (bs.drop pos)) = (none, mkStr []) := by
        rw [textP_some]
        have : takeO 2 (bs.drop pos) = none := by unfold takeO; rw [if_pos (by simpa using h2)]
        simp [textO, this]
      rw [e]
      repeat' (first | (apply G_on; exact rfl; first | ((first | apply G1_assign | apply G1_move); exact rfl; exact rfl) | (apply G1_lss; exact rfl; exact rfl; exact rfl) | (apply G1_len; exact T.s38; exact rfl; exact rfl) | (apply G1_sub; exact rfl; exact rfl; omega; omega; exact rfl) | (apply G1_pick_t; exact rfl; exact rfl; exact rfl) | (apply G1_pick_f; exact rfl; exact rfl; exact rfl) | (apply G1_indexAddrN; exact T.s38; exact rfl; exact rfl; (first | assumption | exact Sl.ok (by assumption) | exact (Own.sl (by assumption)).ok); omega; exact rfl) | (apply G1_indexAddr; exact T.s38; exact rfl; exact rfl; (first | assumption | exact Sl.ok (by assumption) | exact (Own.sl (by assumption)).ok); omega; omega; exact rfl) | (apply G1_loadB; exact T.p5; exact rfl; assumption; exact rfl; exact rfl) | (apply G1_loadBS; exact T.p5; exact rfl; assumption; exact rfl; (first | assumption | (focus (simp [exempt]; omega))); exact rfl) | (apply G1_loadFld; exact T.p5; exact rfl; assumption; assumption; exact rfl; exact rfl; exact rfl) | (apply G1_loadEl1; exact T.p5; exact rfl; assumption; assumption; exact rfl; exact rfl; exact rfl) | (apply G1_convi64; exact rfl; exact T.i5; exact T.i3; omega; omega; exact rfl) | (apply G1_mul; exact rfl; exact rfl; omega; omega; exact rfl) | (apply G1_add; exact rfl; exact rfl; omega; omega; exact rfl)) | apply G_nil | apply Post_next | apply W_seq | apply W_region | (apply W_cond_true; exact rfl) | (apply W_cond_false; exact rfl) | (apply W_cond_dec; exact rfl; all_goals (intro h; try (exfalso; omega))) | (apply W_cond; exact rfl; all_goals intro h) | (apply G_off; exact rfl; exact rfl) | ((fail_if_success (apply G_on; exact rfl)); apply G_split_dec; exact rfl; exact rfl; all_goals (intro h; try (exfalso; omega))) | ((fail_if_success (apply G_on; exact rfl)); apply G_split; exact rfl; exact rfl; all_goals intro h) | refine W_drawn 1 [] [0,1,2,3,4,5,6,7,8,9,10,11,12,13] mixed (by decide +kernel) ?_ | apply W_skip | apply W_exit | apply W_ret | apply W_block | apply Post_then_ret | apply Post_block_ret | apply Post_then_exit | apply Post_block_exit | (apply Post_block_other; exact rfl) | apply Post_block_normal)
      refine Post_ret Try.results56 ⟨_, _, rfl, rfl, _, _, rfl, rfl, rfl⟩ ?_
      exact ⟨-1, rfl, .inl ⟨rfl, rfl⟩, (by repeat first | assumption | exact Ext.rfl' | apply Ext.drew | apply Ext.alloc | refine Ext.trans ?_ (by assumption))⟩
    · obtain ⟨a, ha⟩ := get_some (xs := bs) (k := pos) (by omega)
      obtain ⟨b, hb2⟩ := get_some (xs := bs) (k := ((pos : Int) + 1).toNat) (by omega)
      have hb2' : bs[pos + 1]? = some b := by rw [← hb2]; congr 1
      have hal := byte_lt a; have hbl := byte_lt b
      have hd := drop_two ha hb2'
      have ht : takeO 2 (bs.drop pos) = some ([a, b], bs.drop (pos + 2)) := by
        rw [hd]; exact takeO_app (a := [a, b])
      have hbw := beW2 a b
      obtain ⟨n, hn⟩ : ∃ n : Nat, (a.toNat : Int) * 256 + b.toNat = n := ⟨a.toNat * 256 + b.toNat, by omega⟩
      by_cases h3 : bs.length - pos - 2 < n
      · have e : textP (some (bs.drop pos)) = (none, mkStr []) := by
          rw [textP_some]
          have h4 : takeO (beW [a, b]).toNat (bs.drop (pos + 2)) = none := by unfold takeO; rw [if_pos (by rw [hbw, hn, List.length_drop]; omega)]
          simp [textO, ht, h4]
        rw [e]
        repeat' (first | (apply G_on; exact rfl; first | ((first | apply G1_assign | apply G1_move); exact rfl; exact rfl) | (apply G1_lss; exact rfl; exact rfl; exact rfl) | (apply G1_len; exact T.s38; exact rfl; exact rfl) | (apply G1_sub; exact rfl; exact rfl; omega; omega; exact rfl) | (apply G1_pick_t; exact rfl; exact rfl; exact rfl) | (apply G1_pick_f; exact rfl; exact rfl; exact rfl) | (apply G1_indexAddrN; exact T.s38; exact rfl; exact rfl; (first | assumption | exact Sl.ok (by assumption) | exact (Own.sl (by assumption)).ok); omega; exact rfl) | (apply G1_indexAddr; exact T.s38; exact rfl; exact rfl; (first | assumption | exact Sl.ok (by assumption) | exact (Own.sl (by assumption)).ok); omega; omega; exact rfl) | (apply G1_loadB; exact T.p5; exact rfl; assumption; exact rfl; exact rfl) | (apply G1_loadBS; exact T.p5; exact rfl; assumption; exact rfl; (first | assumption | (focus (simp [exempt]; omega))); exact rfl) | (apply G1_loadFld; exact T.p5; exact rfl; assumption; assumption; exact rfl; exact rfl; exact rfl) | (apply G1_loadEl1; exact T.p5; exact rfl; assumption; assumption; exact rfl; exact rfl; exact rfl) | (apply G1_convi64; exact rfl; exact T.i5; exact T.i3; omega; omega; exact rfl) | (apply G1_mul; exact rfl; exact rfl; omega; omega; exact rfl) | (apply G1_add; exact rfl; exact rfl; omega; omega; exact rfl)) | apply G_nil | apply Post_next | apply W_seq | apply W_region | (apply W_cond_true; exact rfl) | (apply W_cond_false; exact rfl) | (apply W_cond_dec; exact rfl; all_goals (intro h; try (exfalso; omega))) | (apply W_cond; exact rfl; all_goals intro h) | (apply G_off; exact rfl; exact rfl) | ((fail_if_success (apply G_on; exact rfl)); apply G_split_dec; exact rfl; exact rfl; all_goals (intro h; try (exfalso; omega))) | ((fail_if_success (apply G_on; exact rfl)); apply G_split; exact rfl; exact rfl; all_goals intro h) | refine W_drawn 1 [] [0,1,2,3,4,5,6,7,8,9,10,11,12,13] mixed (by decide +kernel) ?_ | apply W_skip | apply W_exit | apply W_ret | apply W_block | apply Post_then_ret | apply Post_block_ret | apply Post_then_exit | apply Post_block_exit | (apply Post_block_other; exact rfl) | apply Post_block_normal)
        refine Post_ret Try.results56 ⟨_, _, rfl, rfl, _, _, rfl, rfl, rfl⟩ ?_
        exact ⟨-1, rfl, .inl ⟨rfl, rfl⟩, (by repeat first | assumption | exact Ext.rfl' | apply Ext.drew | apply Ext.alloc | refine Ext.trans ?_ (by assumption))⟩
      · have e : textP (some (bs.drop pos)) = (some (bs.drop (pos + 2 + n)), mkStr ((bs.take (pos + 2 + n)).drop (pos + 2))) := by
          rw [textP_some]
          have h4 : takeO (beW [a, b]).toNat (bs.drop (pos + 2)) = some ((bs.drop (pos + 2)).take n, (bs.drop (pos + 2)).drop n) := by
            have e1 : (beW [a, b]).toNat = n := by rw [hbw, hn]; simp
            unfold takeO; rw [e1, if_neg (by rw [List.length_drop]; omega)]
          simp only [textO, ht, h4, List.drop_drop]
          rw [List.drop_take]
          congr 3
          omega
        rw [e]
        have hcap := hS.ok.le
        have hs1 : Sl w.heap eByte (subp p c (pos + 2) 1) (c - (pos + 2)) ((bs.take (pos + 2 + n)).drop (pos + 2)) := (hS.take (pos + 2 + n)).drop (by omega)
        have hl1 : ((bs.take (pos + 2 + n)).drop (pos + 2)).length = pos + 2 + n - (pos + 2) := by simp; omega
        repeat' (first | (apply G_on; exact rfl; first | ((first | apply G1_assign | apply G1_move); exact rfl; exact rfl) | (apply G1_sliceI (q := pos + 2) (r := pos + 2 + n); exact T.s38; exact rfl; exact rfl; exact rfl; (push_cast; omega); (push_cast; omega); omega; omega; exact rfl) | (apply G1_toString (bs := (bs.take (pos + 2 + n)).drop (pos + 2)); exact T.s38; exact T.i5; exact T.str9; (rw [hl1]; exact rfl); exact hs1; exact rfl) | (apply G1_lss; exact rfl; exact rfl; exact rfl) | (apply G1_len; exact T.s38; exact rfl; exact rfl) | (apply G1_sub; exact rfl; exact rfl; omega; omega; exact rfl) | (apply G1_pick_t; exact rfl; exact rfl; exact rfl) | (apply G1_pick_f; exact rfl; exact rfl; exact rfl) | (apply G1_indexAddrN; exact T.s38; exact rfl; exact rfl; (first | assumption | exact Sl.ok (by assumption) | exact (Own.sl (by assumption)).ok); omega; exact rfl) | (apply G1_indexAddr; exact T.s38; exact rfl; exact rfl; (first | assumption | exact Sl.ok (by assumption) | exact (Own.sl (by assumption)).ok); omega; omega; exact rfl) | (apply G1_loadB; exact T.p5; exact rfl; assumption; exact rfl; exact rfl) | (apply G1_loadBS; exact T.p5; exact rfl; assumption; exact rfl; (first | assumption | (focus (simp [exempt]; omega))); exact rfl) | (apply G1_loadFld; exact T.p5; exact rfl; assumption; assumption; exact rfl; exact rfl; exact rfl) | (apply G1_loadEl1; exact T.p5; exact rfl; assumption; assumption; exact rfl; exact rfl; exact rfl) | (apply G1_convi64; exact rfl; exact T.i5; exact T.i3; omega; omega; exact rfl) | (apply G1_mul; exact rfl; exact rfl; omega; omega; exact rfl) | (apply G1_add; exact rfl; exact rfl; omega; omega; exact rfl)) | apply G_nil | apply Post_next | apply W_seq | apply W_region | (apply W_cond_true; exact rfl) | (apply W_cond_false; exact rfl) | (apply W_cond_dec; exact rfl; all_goals (intro h; try (exfalso; omega))) | (apply W_cond; exact rfl; all_goals intro h) | (apply G_off; exact rfl; exact rfl) | ((fail_if_success (apply G_on; exact rfl)); apply G_split_dec; exact rfl; exact rfl; all_goals (intro h; try (exfalso; omega))) | ((fail_if_success (apply G_on; exact rfl)); apply G_split; exact rfl; exact rfl; all_goals intro h) | refine W_drawn 1 [] [0,1,2,3,4,5,6,7,8,9,10,11,12,13] mixed (by decide +kernel) ?_ | apply W_skip | apply W_exit | apply W_ret | apply W_block | apply Post_then_ret | apply Post_block_ret | apply Post_then_exit | apply Post_block_exit | (apply Post_block_other; exact rfl) | apply Post_block_normal)
        refine Post_ret Try.results56 ⟨_, _, rfl, rfl, _, _, rfl, rfl, rfl⟩ ?_
        exact ⟨_, rfl, .inr ⟨pos + 2 + n, by omega, by push_cast; omega, rfl⟩, (by repeat first | assumption | exact Ext.rfl' | apply Ext.drew | apply Ext.alloc | refine Ext.trans ?_ (by assumption))⟩

/-- what the document's Unpack reads -/
def parseR (l : List UInt8) : Option (Val × List UInt8) :=
  match takeO 1 l with
  | none => none
  | some (k, l1) =>
    if beW k = 1 then (match textO l1 with
      | none => none
      | some (s, r) => some (⟨1, s, [], [], []⟩, r))
    else match takeO 2 l1 with
      | none => none
      | some (m, l2) =>
        if beW k = 2 then (match itemsO pairO (beW m).toNat l2 with
          | none => none
          | some (ps, r) => some (⟨2, ⟨#[]⟩, ps, [], []⟩, r))
        else if beW k = 5 then (match itemsO memO (beW m).toNat l2 with
          | none => none
          | some (zs, r) => some (⟨5, ⟨#[]⟩, [], [], zs⟩, r))
        else (match itemsO textO (beW m).toNat l2 with
          | none => none
          | some (ts, r) => some (⟨beW k, ⟨#[]⟩, [], ts, []⟩, r))

theorem parseR_iff {l r : List UInt8} {v : Val} (hR : RightV v) : parseR l = some (v, r) ↔ parseV l = some (v, r) := by
  have hk := hR.kind
  unfold parseR parseV
  cases h1 : takeO 1 l with
  | none => simp
  | some y =>
    obtain ⟨k, l1⟩ := y
    simp only
    by_cases hk1 : beW k = 1
    · simp only [hk1, if_true]; exact Iff.rfl
    · simp only [hk1, if_false]
      cases h2 : takeO 2 l1 with
      | none => simp
      | some z =>
        obtain ⟨m, l2⟩ := z
        obtain ⟨_, hm⟩ := takeO_some h2
        have hm0 := be2_nonneg hm
        simp only
        by_cases hbig : 512 < beW m
        · simp only [hbig, if_true]
          constructor
          · intro h
            exfalso
            by_cases hk2 : beW k = 2
            · simp only [hk2, if_true] at h
              cases h3 : itemsO pairO (beW m).toNat l2 with
              | none => simp [h3] at h
              | some q =>
                obtain ⟨ps, r'⟩ := q
                simp only [h3] at h
                injection h with h; injection h with e1 e2
                subst e1
                have hl := (items_some (f := encP) (ok := fun _ => True) (fun l x r h => ⟨(pairO_some h).1, trivial⟩) _ _ _ _ h3).2.1
                have := (hR.hash rfl).2.1
                simp only at this
                omega
            · simp only [hk2, if_false] at h
              by_cases hk5 : beW k = 5
              · simp only [hk5, if_true] at h
                cases h3 : itemsO memO (beW m).toNat l2 with
                | none => simp [h3] at h
                | some q =>
                  obtain ⟨zs, r'⟩ := q
                  simp only [h3] at h
                  injection h with h; injection h with e1 e2
                  subst e1
                  have hl := (items_some (f := encZ) (ok := fun _ => True) (fun l x r h => ⟨(memO_some h).1, trivial⟩) _ _ _ _ h3).2.1
                  have := (hR.zset rfl).2.1
                  simp only at this
                  omega
              · simp only [hk5, if_false] at h
                cases h3 : itemsO textO (beW m).toNat l2 with
                | none => simp [h3] at h
                | some q =>
                  obtain ⟨ts, r'⟩ := q
                  simp only [h3] at h
                  injection h with h; injection h with e1 e2
                  subst e1
                  simp only at hk
                  have hl := (items_some (f := encT) (ok := fun _ => True) (fun l x r h => ⟨(textO_some h).1, trivial⟩) _ _ _ _ h3).2.1
                  have hk34 : beW k = 3 ∨ beW k = 4 := by omega
                  rcases hk34 with h | h
                  · have := (hR.list h).2.1; simp only at this; omega
                  · have := (hR.set h).2.1; simp only at this; omega
          · intro h; cases h
        · simp only [hbig, if_false]
          by_cases hk2 : beW k = 2
          · simp only [hk2, if_true]; exact Iff.rfl
          · simp only [hk2, if_false]
            by_cases hk34 : beW k = 3 ∨ beW k = 4
            · have hk5 : ¬ beW k = 5 := by omega
              simp only [hk34, hk5, if_true, if_false]; exact Iff.rfl
            · by_cases hk5 : beW k = 5
              · simp only [hk5, if_true, if_false, show ¬ ((5 : Int) = 3 ∨ (5 : Int) = 4) by omega]; exact Iff.rfl
              · simp only [hk34, hk5, if_false]
                constructor
                · intro h
                  exfalso
                  cases h3 : itemsO textO (beW m).toNat l2 with
                  | none => simp [h3] at h
                  | some q =>
                    obtain ⟨ts, r'⟩ := q
                    simp only [h3] at h
                    injection h with h; injection h with e1 e2
                    subst e1
                    simp only at hk
                    omega
                · intro h
                  exfalso
                  split at h
                  · injection h with h; injection h with e1 e2
                    subst e1
                    simp only at hk
                    omega
                  · cases h

/-- the document's Unpack has read v, and st is left -/
def PRR (l : List UInt8) (v : Val) (st : Option (List UInt8)) : Prop :=
  match parseR l with
  | none => st = none
  | some (v0, rest) => st = some rest ∧ v = v0
end Go.Proofs.Ytomgghelhalaeaa
