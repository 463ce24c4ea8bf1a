/- The walk of RespApart. -/
import Derived.Test.YtikjnmpijflnaaaDoorVRepAwake
import Derived.Test.YtikjnmpijflnaaaDoorVTree
import Derived.Lib.ItoaLen
namespace Go.V
theorem pre_of_take {a b : List UInt8} {n : Nat} (hn : n = min a.length b.length) (h : a.take n = b.take n) : ∃ x y, a ++ x = b ++ y := by
  rcases Nat.le_total a.length b.length with hl | hl
  · have e : n = a.length := by omega
    rw [e, List.take_length] at h
    refine ⟨b.drop a.length, [], ?_⟩
    rw [List.append_nil]
    have h2 := List.take_append_drop a.length b
    rw [← h] at h2
    exact h2
  · have e : n = b.length := by omega
    rw [e, List.take_length] at h
    refine ⟨[], a.drop b.length, ?_⟩
    rw [List.append_nil]
    have h2 := List.take_append_drop b.length a
    rw [h] at h2
    exact h2.symm
end Go.V
namespace Go.Proofs.YtikjnmpijflnaaaDoor
open Go.V
attribute [local irreducible] Blk Own hcell IntT SliceT PlainT AggT SizeT StrT FieldT ZeroT EqT ArrT
theorem rapart_key {a b : Rep} (ra : rightT 4 a = true) (rb : rightT 4 b = true) {n : Nat} (hn : n = min (wT 4 a).length (wT 4 b).length) :
    (mkStr (wT 4 a)).extract 0 n = (mkStr (wT 4 b)).extract 0 n ↔ a = b := by
  rw [mkStr_take, mkStr_take, mkStr_inj]
  constructor
  · intro h
    obtain ⟨x, y, e⟩ := pre_of_take hn h
    exact (w_inj 4 a b x y ra rb e).1
  · rintro rfl; rfl
/-- how long a reply's writing is -/
theorem head_len {t : Rep} (hs : t.s.size ≤ 2000) (hn : -9223372036854775808 ≤ t.n ∧ t.n ≤ 9223372036854775807) (hl : t.l.length ≤ 1000000) : (wHead t).length ≤ 2100 := by
  have l1 := Lib.itoa_length_le t.n hn.1 hn.2
  have l2 := Lib.itoa_length_le t.s.size (by omega) (by omega)
  have l3 := Lib.itoa_length_le t.l.length (by omega) (by omega)
  have hss : t.s.data.toList.length = t.s.size := by rw [Array.length_toList]; rfl
  unfold wHead
  split
  · simp only [List.length_cons, List.length_append, crlf, List.length_nil, hss]; omega
  split
  · simp only [List.length_cons, List.length_append, crlf, List.length_nil, hss]; omega
  split
  · simp only [List.length_cons, List.length_append, crlf, List.length_nil]; omega
  split
  · simp only [List.length_cons, List.length_append, crlf, List.length_nil, hss]; omega
  split
  · simp [crlf]
  · simp only [List.length_cons, List.length_append, crlf, List.length_nil]; omega
theorem size_list_le (f : Rep → Int) (hf : ∀ x, 0 ≤ f x) : ∀ (l : List Rep) (n : Int), 0 ≤ n → sizeL f l n < 100000 → ∃ g : List Int, g = l.map f ∧ n + g.sum = sizeL f l n
  | [], n, _, _ => ⟨[], rfl, by simp [sizeL]⟩
  | x :: l, n, h0, h => by
    unfold sizeL at h ⊢
    split at h
    · rename_i h3
      rw [if_pos h3]
      obtain ⟨g, hg, e⟩ := size_list_le f hf l (n + f x) (by have := hf x; omega) h
      exact ⟨f x :: g, by rw [hg]; rfl, by rw [List.sum_cons, ← e]; omega⟩
    · rename_i h3; exact absurd h h3
theorem sizeT_pos (d : Nat) (t : Rep) (h : sizeT d t < 100000) : 1 ≤ sizeT d t := by
  cases d with
  | zero => simp [sizeT] at h
  | succ d =>
    unfold sizeT at h ⊢
    split at h
    · omega
    · rename_i h2
      rw [if_neg h2]
      obtain ⟨g, hg, hsum⟩ := size_list_le (sizeT d) (fun x => (sizeT_le d x).1) t.l 1 (by omega) h
      have : 0 ≤ g.sum := by
        rw [hg]
        generalize t.l = l
        induction l with
        | nil => simp
        | cons z l ih2 => rw [List.map_cons, List.sum_cons]; have := (sizeT_le d z).1; omega
      omega
theorem sum_le (s : Rep → Int) (hs : ∀ x, 0 ≤ s x) : ∀ (l : List Rep), 0 ≤ (l.map s).sum ∧ ∀ x ∈ l, s x ≤ (l.map s).sum
  | [] => by simp
  | y :: l => by
    have h := sum_le s hs l
    have hy := hs y
    rw [List.map_cons, List.sum_cons]
    refine ⟨by omega, fun x hx => ?_⟩
    rcases List.mem_cons.1 hx with rfl | hx
    · omega
    · have := h.2 x hx; omega
theorem flat_sum (f : Rep → List UInt8) (s : Rep → Int) : ∀ (l : List Rep), (∀ x ∈ l, ((f x).length : Int) ≤ 2100 * s x ∧ 1 ≤ s x) → ((l.flatMap f).length : Int) ≤ 2100 * (l.map s).sum ∧ (l.length : Int) ≤ (l.map s).sum
  | [], _ => by simp
  | x :: l, h => by
    have h1 := h x (by simp)
    have h2 := flat_sum f s l (fun y hy => h y (List.mem_cons_of_mem _ hy))
    rw [List.flatMap_cons, List.length_append, List.map_cons, List.sum_cons, List.length_cons]
    constructor <;> push_cast <;> omega
theorem wT_len : ∀ (d e : Nat) {H : Array Obj} {k : Nat} {r : RawR} {t : Rep}, d < e → RepAt H k r t → sizeT e t < 100000 → ((wT d t).length : Int) ≤ 2100 * sizeT e t
  | d, 0, _, _, _, _, h, _, _ => by omega
  | d, e + 1, H, k, r, t, hde, hr, h => by
    obtain ⟨k, rs, rfl, hk, hs, hn, hl, hsz, hfit, hL⟩ := hr.open
    have h' := h
    unfold sizeT at h ⊢
    split at h
    · omega
    · rename_i h2
      rw [if_neg h2]
      obtain ⟨g, hg, hsum⟩ := size_list_le (sizeT e) (fun x => (sizeT_le e x).1) t.l 1 (by omega) h
      have hle := sum_le (sizeT e) (fun x => (sizeT_le e x).1) t.l
      rw [← hg] at hle
      have hlt : ∀ x ∈ t.l, sizeT e x < 100000 := fun x hx => by have := hle.2 x hx; omega
      have at' : ∀ x ∈ t.l, ∃ r', RepAt H k r' x := fun x hx => by
        obtain ⟨i, hi⟩ := List.getElem?_of_mem hx
        obtain ⟨r', hr'⟩ := get_some (xs := rs) (k := i) (by rw [hL.len]; exact get_lt hi)
        exact ⟨r', hL.get i r' x hr' hi⟩
      cases d with
      | zero =>
        have hc := flat_sum (fun _ => []) (sizeT e) t.l (fun x hx => ⟨by have := sizeT_pos e x (hlt x hx); simp; omega, sizeT_pos e x (hlt x hx)⟩)
        rw [← hg] at hc
        have := head_len (t := t) (by omega) hfit (by omega)
        unfold wT
        omega
      | succ d =>
        have hc := flat_sum (wT d) (sizeT e) t.l (fun x hx => by
          obtain ⟨r', hr'⟩ := at' x hx
          exact ⟨wT_len d e (by omega) hr' (hlt x hx), sizeT_pos e x (hlt x hx)⟩)
        rw [← hg] at hc
        have := head_len (t := t) (by omega) hfit (by omega)
        unfold wT
        rw [List.length_append]
        split
        · push_cast; omega
        · simp only [List.length_nil]; omega
theorem write_one {e : Nat} {p : Option Addr} {r : RawR} {t : Rep} {w : World} (hS : Sl w.heap eRep p 1 [r]) (hR : RepAt w.heap e r t) (hz : sizeT 9 t ≤ 300) (hr : rightT 4 t = true) (hT : Pow w) :
    Ctr Tryd.prog 15 [.slice p [r].length 1] w (fun v w' => ∃ p' c', v = .slice p' (wT 4 t).length c' ∧ Sl w'.heap eByte p' c' (wT 4 t) ∧ Ext w w') := by
  have hl := wT_len 4 9 (by omega) hR (by omega)
  have e1 : wR [t] = wT 4 t := by unfold wR; simp [hr]
  have h := write_spec (repsAt_one hS hR) (by intro u hu; rw [List.mem_singleton.1 hu]; exact (small_of 9 t (by omega)).mono (by omega)) (by rw [e1]; omega) hT
  rw [e1] at h
  exact h
set_option maxHeartbeats 4000000 in
theorem respApart_spec {r1 r2 : RawR} {a b : Rep} {e1 e2 : Nat} {w : World} (hA : RepAt w.heap e1 r1 a) (hB : RepAt w.heap e2 r2 b) (hT : Pow w) :
    Ctr Tryd.prog 3 [.agg (eRep.enc r1).toArray, .agg (eRep.enc r2).toArray] w (fun v w' => v = .bool true ∧ Ext w w') := by
  refine Ctr_of Tryd.func3 Tryd.ntmps3 rfl rfl rfl ?_
  repeat' (first | apply W_seq | apply W_region)
  apply G_on; exact rfl; apply G1_box; exact rfl; exact rfl; exact rfl; intro a1 w1 ha1 hA1 hx1 hs1
  replace hA1 : Blk w1.heap a1 24 (eRep.enc r1) := hA1
  skip
  apply G_on; exact rfl; apply G1_box; exact rfl; exact rfl; exact rfl; intro a2 w2 ha2 hA2 hx2 hs2
  replace hA2 : Blk w2.heap a2 24 (eRep.enc r2) := hA2
  replace hA1 := hA1.ext hx2
  have hx0 := hx1.trans hx2
  clear hx1 hx2
  rcases hra : rightT 4 a with _ | _
  · repeat' (first | (apply G_on; exact rfl; first | ((first | apply G1_assign | apply G1_move); exact rfl; exact rfl) | (apply G1_call (f := 12); exact rfl; exact rfl; exact rfl; exact awake04 (TabIs.ext hT (by repeat first | assumption | exact Ext.rfl' | apply Ext.drew | apply Ext.alloc | refine Ext.trans ?_ (by assumption))); rintro _ w3 ⟨rfl, hx3⟩; refine ⟨(by first | exact .inl rfl | exact .inr (by assumption)), ?_⟩; (first | replace hA1 := hA1.ext hx3 | replace hA1 := hA1.ext ((Ext.drew Ext.rfl').trans hx3)); (first | replace hA2 := hA2.ext hx3 | replace hA2 := hA2.ext ((Ext.drew Ext.rfl').trans hx3))) | (apply G1_call (f := 13); exact rfl; exact rfl; exact rfl; exact (by first | exact size_spec 9 e1 (by omega) (hA.ext (by repeat first | assumption | exact Ext.rfl' | apply Ext.drew | apply Ext.alloc | refine Ext.trans ?_ (by assumption))) | exact size_spec 9 e2 (by omega) (hB.ext (by repeat first | assumption | exact Ext.rfl' | apply Ext.drew | apply Ext.alloc | refine Ext.trans ?_ (by assumption)))); rintro _ w4 ⟨rfl, hx4⟩; refine ⟨(by first | exact .inl rfl | exact .inr (by assumption)), ?_⟩; (first | replace hA1 := hA1.ext hx4 | replace hA1 := hA1.ext ((Ext.drew Ext.rfl').trans hx4)); (first | replace hA2 := hA2.ext hx4 | replace hA2 := hA2.ext ((Ext.drew Ext.rfl').trans hx4))) | (apply G1_call (f := 14); exact rfl; exact rfl; exact rfl; exact (by first | exact right_spec 4 e1 (by omega) (hA.ext (by repeat first | assumption | exact Ext.rfl' | apply Ext.drew | apply Ext.alloc | refine Ext.trans ?_ (by assumption))) | exact right_spec 4 e2 (by omega) (hB.ext (by repeat first | assumption | exact Ext.rfl' | apply Ext.drew | apply Ext.alloc | refine Ext.trans ?_ (by assumption)))); rintro _ w5 ⟨rfl, hx5⟩; refine ⟨(by first | exact .inl rfl | exact .inr (by assumption)), ?_⟩; (first | replace hA1 := hA1.ext hx5 | replace hA1 := hA1.ext ((Ext.drew Ext.rfl').trans hx5)); (first | replace hA2 := hA2.ext hx5 | replace hA2 := hA2.ext ((Ext.drew Ext.rfl').trans hx5))) | (apply G1_not_t; exact rfl; exact rfl) | (apply G1_not; exact rfl; exact rfl) | (apply G1_loadBAgg; exact T.a24; exact rfl; assumption; exact rfl; exact rfl) | (apply G1_gtr; exact rfl; exact rfl; exact rfl) | (apply G1_pick_t; exact rfl; exact rfl; exact rfl) | (apply G1_pick_f; exact rfl; exact rfl; exact rfl)) | apply G_nil | apply Post_next | apply W_seq | apply W_region | (apply W_cond_true; exact rfl) | (apply W_cond; exact rfl; all_goals intro h) | (apply G_off; exact rfl; exact rfl) | ((fail_if_success (apply G_on; exact rfl)); apply G_split_dec; exact rfl; exact rfl; all_goals (intro h; try (exfalso; omega))) | ((fail_if_success (apply G_on; exact rfl)); apply G_split; exact rfl; exact rfl; all_goals intro h) | refine W_drawnT 1 [] (.node [0,4] (.alt 1 (.node [] (.alt 2 (.leaf [3,5,6,7,8,9]) (.alt 5 (.leaf [2,3,6,7,8,9]) .stop))) (.alt 5 (.leaf [1,2,3,6,7,8,9]) .stop))) mixed (by decide +kernel) ?_ | apply GT_node | apply GT_alt | exact GT_stop | apply W_skip | apply W_ret | apply Post_then_ret)
    all_goals first
      | contradiction
      | (rw [hra] at *; contradiction)
      | (refine Post_ret Tryd.results3 ⟨_, _, rfl, rfl, rfl⟩ ?_
         exact ⟨rfl, (by repeat first | assumption | exact Ext.rfl' | apply Ext.drew | apply Ext.alloc | refine Ext.trans ?_ (by assumption))⟩)
  rcases hrb : rightT 4 b with _ | _
  · repeat' (first | (apply G_on; exact rfl; first | ((first | apply G1_assign | apply G1_move); exact rfl; exact rfl) | (apply G1_call (f := 12); exact rfl; exact rfl; exact rfl; exact awake04 (TabIs.ext hT (by repeat first | assumption | exact Ext.rfl' | apply Ext.drew | apply Ext.alloc | refine Ext.trans ?_ (by assumption))); rintro _ w3 ⟨rfl, hx3⟩; refine ⟨(by first | exact .inl rfl | exact .inr (by assumption)), ?_⟩; (first | replace hA1 := hA1.ext hx3 | replace hA1 := hA1.ext ((Ext.drew Ext.rfl').trans hx3)); (first | replace hA2 := hA2.ext hx3 | replace hA2 := hA2.ext ((Ext.drew Ext.rfl').trans hx3))) | (apply G1_call (f := 13); exact rfl; exact rfl; exact rfl; exact (by first | exact size_spec 9 e1 (by omega) (hA.ext (by repeat first | assumption | exact Ext.rfl' | apply Ext.drew | apply Ext.alloc | refine Ext.trans ?_ (by assumption))) | exact size_spec 9 e2 (by omega) (hB.ext (by repeat first | assumption | exact Ext.rfl' | apply Ext.drew | apply Ext.alloc | refine Ext.trans ?_ (by assumption)))); rintro _ w4 ⟨rfl, hx4⟩; refine ⟨(by first | exact .inl rfl | exact .inr (by assumption)), ?_⟩; (first | replace hA1 := hA1.ext hx4 | replace hA1 := hA1.ext ((Ext.drew Ext.rfl').trans hx4)); (first | replace hA2 := hA2.ext hx4 | replace hA2 := hA2.ext ((Ext.drew Ext.rfl').trans hx4))) | (apply G1_call (f := 14); exact rfl; exact rfl; exact rfl; exact (by first | exact right_spec 4 e1 (by omega) (hA.ext (by repeat first | assumption | exact Ext.rfl' | apply Ext.drew | apply Ext.alloc | refine Ext.trans ?_ (by assumption))) | exact right_spec 4 e2 (by omega) (hB.ext (by repeat first | assumption | exact Ext.rfl' | apply Ext.drew | apply Ext.alloc | refine Ext.trans ?_ (by assumption)))); rintro _ w5 ⟨rfl, hx5⟩; refine ⟨(by first | exact .inl rfl | exact .inr (by assumption)), ?_⟩; (first | replace hA1 := hA1.ext hx5 | replace hA1 := hA1.ext ((Ext.drew Ext.rfl').trans hx5)); (first | replace hA2 := hA2.ext hx5 | replace hA2 := hA2.ext ((Ext.drew Ext.rfl').trans hx5))) | (apply G1_not_t; exact rfl; exact rfl) | (apply G1_not; exact rfl; exact rfl) | (apply G1_loadBAgg; exact T.a24; exact rfl; assumption; exact rfl; exact rfl) | (apply G1_gtr; exact rfl; exact rfl; exact rfl) | (apply G1_pick_t; exact rfl; exact rfl; exact rfl) | (apply G1_pick_f; exact rfl; exact rfl; exact rfl)) | apply G_nil | apply Post_next | apply W_seq | apply W_region | (apply W_cond_true; exact rfl) | (apply W_cond; exact rfl; all_goals intro h) | (apply G_off; exact rfl; exact rfl) | ((fail_if_success (apply G_on; exact rfl)); apply G_split_dec; exact rfl; exact rfl; all_goals (intro h; try (exfalso; omega))) | ((fail_if_success (apply G_on; exact rfl)); apply G_split; exact rfl; exact rfl; all_goals intro h) | refine W_drawnT 1 [] (.node [0,4] (.alt 1 (.node [] (.alt 2 (.leaf [3,5,6,7,8,9]) (.alt 5 (.leaf [2,3,6,7,8,9]) .stop))) (.alt 5 (.leaf [1,2,3,6,7,8,9]) .stop))) mixed (by decide +kernel) ?_ | apply GT_node | apply GT_alt | exact GT_stop | apply W_skip | apply W_ret | apply Post_then_ret)
    all_goals first
      | contradiction
      | (rw [hra] at *; contradiction)
      | (rw [hrb] at *; contradiction)
      | (refine Post_ret Tryd.results3 ⟨_, _, rfl, rfl, rfl⟩ ?_
         exact ⟨rfl, (by repeat first | assumption | exact Ext.rfl' | apply Ext.drew | apply Ext.alloc | refine Ext.trans ?_ (by assumption))⟩)
  by_cases hsz : sizeT 9 a ≤ 300 ∧ sizeT 9 b ≤ 300
  rotate_left
  · repeat' (first | (apply G_on; exact rfl; first | ((first | apply G1_assign | apply G1_move); exact rfl; exact rfl) | (apply G1_call (f := 12); exact rfl; exact rfl; exact rfl; exact awake04 (TabIs.ext hT (by repeat first | assumption | exact Ext.rfl' | apply Ext.drew | apply Ext.alloc | refine Ext.trans ?_ (by assumption))); rintro _ w3 ⟨rfl, hx3⟩; refine ⟨(by first | exact .inl rfl | exact .inr (by assumption)), ?_⟩; (first | replace hA1 := hA1.ext hx3 | replace hA1 := hA1.ext ((Ext.drew Ext.rfl').trans hx3)); (first | replace hA2 := hA2.ext hx3 | replace hA2 := hA2.ext ((Ext.drew Ext.rfl').trans hx3))) | (apply G1_call (f := 13); exact rfl; exact rfl; exact rfl; exact (by first | exact size_spec 9 e1 (by omega) (hA.ext (by repeat first | assumption | exact Ext.rfl' | apply Ext.drew | apply Ext.alloc | refine Ext.trans ?_ (by assumption))) | exact size_spec 9 e2 (by omega) (hB.ext (by repeat first | assumption | exact Ext.rfl' | apply Ext.drew | apply Ext.alloc | refine Ext.trans ?_ (by assumption)))); rintro _ w4 ⟨rfl, hx4⟩; refine ⟨(by first | exact .inl rfl | exact .inr (by assumption)), ?_⟩; (first | replace hA1 := hA1.ext hx4 | replace hA1 := hA1.ext ((Ext.drew Ext.rfl').trans hx4)); (first | replace hA2 := hA2.ext hx4 | replace hA2 := hA2.ext ((Ext.drew Ext.rfl').trans hx4))) | (apply G1_not_t; exact rfl; exact rfl) | (apply G1_loadBAgg; exact T.a24; exact rfl; assumption; exact rfl; exact rfl) | (apply G1_gtr; exact rfl; exact rfl; exact rfl) | (apply G1_pick_t; exact rfl; exact rfl; exact rfl) | (apply G1_pick_f; exact rfl; exact rfl; exact rfl)) | apply G_nil | apply Post_next | apply W_seq | apply W_region | (apply W_cond_true; exact rfl) | (apply G_off; exact rfl; exact rfl) | ((fail_if_success (apply G_on; exact rfl)); apply G_split_dec; exact rfl; exact rfl; all_goals (intro h; try (exfalso; omega))) | apply W_ret | apply Post_then_ret)
    all_goals first
      | contradiction
      | (rw [hra] at *; contradiction)
      | (rw [hrb] at *; contradiction)
      | (refine Post_ret Tryd.results3 ⟨_, _, rfl, rfl, rfl⟩ ?_
         exact ⟨rfl, (by repeat first | assumption | exact Ext.rfl' | apply Ext.drew | apply Ext.alloc | refine Ext.trans ?_ (by assumption))⟩)
      | (exfalso; omega)
  obtain ⟨sa, sb⟩ := hsz
  repeat' (first | (apply G_on; exact rfl; first | ((first | apply G1_assign | apply G1_move); exact rfl; exact rfl) | (apply G1_call (f := 12); exact rfl; exact rfl; exact rfl; exact awake04 (TabIs.ext hT (by repeat first | assumption | exact Ext.rfl' | apply Ext.drew | apply Ext.alloc | refine Ext.trans ?_ (by assumption))); rintro _ w3 ⟨rfl, hx3⟩; refine ⟨(by first | exact .inl rfl | exact .inr (by assumption)), ?_⟩; (first | replace hA1 := hA1.ext hx3 | replace hA1 := hA1.ext ((Ext.drew Ext.rfl').trans hx3)); (first | replace hA2 := hA2.ext hx3 | replace hA2 := hA2.ext ((Ext.drew Ext.rfl').trans hx3))) | (apply G1_call (f := 13); exact rfl; exact rfl; exact rfl; exact (by first | exact size_spec 9 e1 (by omega) (hA.ext (by repeat first | assumption | exact Ext.rfl' | apply Ext.drew | apply Ext.alloc | refine Ext.trans ?_ (by assumption))) | exact size_spec 9 e2 (by omega) (hB.ext (by repeat first | assumption | exact Ext.rfl' | apply Ext.drew | apply Ext.alloc | refine Ext.trans ?_ (by assumption)))); rintro _ w4 ⟨rfl, hx4⟩; refine ⟨(by first | exact .inl rfl | exact .inr (by assumption)), ?_⟩; (first | replace hA1 := hA1.ext hx4 | replace hA1 := hA1.ext ((Ext.drew Ext.rfl').trans hx4)); (first | replace hA2 := hA2.ext hx4 | replace hA2 := hA2.ext ((Ext.drew Ext.rfl').trans hx4))) | (apply G1_call (f := 14); exact rfl; exact rfl; exact rfl; exact (by first | exact right_spec 4 e1 (by omega) (hA.ext (by repeat first | assumption | exact Ext.rfl' | apply Ext.drew | apply Ext.alloc | refine Ext.trans ?_ (by assumption))) | exact right_spec 4 e2 (by omega) (hB.ext (by repeat first | assumption | exact Ext.rfl' | apply Ext.drew | apply Ext.alloc | refine Ext.trans ?_ (by assumption)))); rintro _ w5 ⟨rfl, hx5⟩; refine ⟨(by first | exact .inl rfl | exact .inr (by assumption)), ?_⟩; (first | replace hA1 := hA1.ext hx5 | replace hA1 := hA1.ext ((Ext.drew Ext.rfl').trans hx5)); (first | replace hA2 := hA2.ext hx5 | replace hA2 := hA2.ext ((Ext.drew Ext.rfl').trans hx5))) | (apply G1_not_t; exact rfl; exact rfl) | (apply G1_not; exact rfl; exact rfl) | (apply G1_loadBAgg; exact T.a24; exact rfl; assumption; exact rfl; exact rfl) | (apply G1_gtr; exact rfl; exact rfl; exact rfl) | (apply G1_pick_t; exact rfl; exact rfl; exact rfl) | (apply G1_pick_f; exact rfl; exact rfl; exact rfl)) | apply G_nil | apply Post_next | apply W_seq | apply W_region | (apply W_cond_true; exact rfl) | (apply W_cond; exact rfl; all_goals intro h) | (apply G_off; exact rfl; exact rfl) | ((fail_if_success (apply G_on; exact rfl)); apply G_split_dec; exact rfl; exact rfl; all_goals (intro h; try (exfalso; omega))) | ((fail_if_success (apply G_on; exact rfl)); apply G_split; exact rfl; exact rfl; all_goals intro h) | apply W_skip | apply W_ret | apply Post_then_ret)
  · refine Post_ret Tryd.results3 ⟨_, _, rfl, rfl, rfl⟩ ?_
    exact ⟨rfl, (by repeat first | assumption | exact Ext.rfl' | apply Ext.drew | apply Ext.alloc | refine Ext.trans ?_ (by assumption))⟩
  · refine Post_ret Tryd.results3 ⟨_, _, rfl, rfl, rfl⟩ ?_
    exact ⟨rfl, (by repeat first | assumption | exact Ext.rfl' | apply Ext.drew | apply Ext.alloc | refine Ext.trans ?_ (by assumption))⟩
  have hx5w : Ext w w5 := (by repeat first | assumption | exact Ext.rfl' | apply Ext.drew | apply Ext.alloc | refine Ext.trans ?_ (by assumption))
  have gA := hA.ext hx5w
  have gB := hB.ext hx5w
  have hT5 := TabIs.ext hT hx5w
  clear hA hB hT
  repeat' (first | (apply G_on; exact rfl; first | ((first | apply G1_assign | apply G1_move); exact rfl; exact rfl) | (apply G1_build1 eRep r1; exact T.s22; exact rfl; exact rfl; exact rfl; decide; exact rfl; exact rfl; intro p6 w6 hp6 hs6 _ hx6 hz6; (first | replace hA1 := hA1.ext hx6 | replace hA1 := hA1.ext ((Ext.drew Ext.rfl').trans hx6)); (first | replace hA2 := hA2.ext hx6 | replace hA2 := hA2.ext ((Ext.drew Ext.rfl').trans hx6))) | (apply G1_build1 eRep r2; exact T.s22; exact rfl; exact rfl; exact rfl; decide; exact rfl; exact rfl; intro p7 w7 hp7 hs7 _ hx7 hz7; (first | replace hA1 := hA1.ext hx7 | replace hA1 := hA1.ext ((Ext.drew Ext.rfl').trans hx7)); (first | replace hA2 := hA2.ext hx7 | replace hA2 := hA2.ext ((Ext.drew Ext.rfl').trans hx7))) | (apply G1_call (f := 15); exact rfl; exact rfl; exact rfl; exact write_one (hs6.ext (by repeat first | assumption | exact Ext.rfl' | apply Ext.drew | apply Ext.alloc | refine Ext.trans ?_ (by assumption))) (gA.ext (by repeat first | assumption | exact Ext.rfl' | apply Ext.drew | apply Ext.alloc | refine Ext.trans ?_ (by assumption))) sa hra (TabIs.ext hT5 (by repeat first | assumption | exact Ext.rfl' | apply Ext.drew | apply Ext.alloc | refine Ext.trans ?_ (by assumption))); rintro _ w8 ⟨p8, c8, rfl, o8, hx8⟩; refine ⟨(by first | exact .inl rfl | exact .inr (by assumption)), ?_⟩; (first | replace hA1 := hA1.ext hx8 | replace hA1 := hA1.ext ((Ext.drew Ext.rfl').trans hx8)); (first | replace hA2 := hA2.ext hx8 | replace hA2 := hA2.ext ((Ext.drew Ext.rfl').trans hx8))) | (apply G1_call (f := 15); exact rfl; exact rfl; exact rfl; exact write_one (hs7.ext (by repeat first | assumption | exact Ext.rfl' | apply Ext.drew | apply Ext.alloc | refine Ext.trans ?_ (by assumption))) (gB.ext (by repeat first | assumption | exact Ext.rfl' | apply Ext.drew | apply Ext.alloc | refine Ext.trans ?_ (by assumption))) sb hrb (TabIs.ext hT5 (by repeat first | assumption | exact Ext.rfl' | apply Ext.drew | apply Ext.alloc | refine Ext.trans ?_ (by assumption))); rintro _ w9 ⟨p9, c9, rfl, o9, hx9⟩; refine ⟨(by first | exact .inl rfl | exact .inr (by assumption)), ?_⟩; (first | replace hA1 := hA1.ext hx9 | replace hA1 := hA1.ext ((Ext.drew Ext.rfl').trans hx9)); (first | replace hA2 := hA2.ext hx9 | replace hA2 := hA2.ext ((Ext.drew Ext.rfl').trans hx9))) | (apply G1_toString; exact T.s28; exact T.i5; exact T.str9; exact rfl; (first | exact o8.ext (by repeat first | assumption | exact Ext.rfl' | apply Ext.drew | apply Ext.alloc | refine Ext.trans ?_ (by assumption)) | exact o9.ext (by repeat first | assumption | exact Ext.rfl' | apply Ext.drew | apply Ext.alloc | refine Ext.trans ?_ (by assumption))); exact rfl) | (apply G1_call (f := 16); exact rfl; exact rfl; exact rfl; exact refsame_spec e1 e2 (gA.ext (by repeat first | assumption | exact Ext.rfl' | apply Ext.drew | apply Ext.alloc | refine Ext.trans ?_ (by assumption))) (gB.ext (by repeat first | assumption | exact Ext.rfl' | apply Ext.drew | apply Ext.alloc | refine Ext.trans ?_ (by assumption))); rintro _ wa ⟨ba, rfl, hba, hxa⟩; refine ⟨(by first | exact .inl rfl | exact .inr (by assumption)), ?_⟩) | (apply G1_loadBAgg; exact T.a24; exact rfl; assumption; exact rfl; exact rfl) | (apply G1_min; exact rfl; exact rfl; exact rfl) | (apply G1_slen; exact T.str9; exact rfl; exact rfl) | (apply G1_ssliceHi; exact T.str9; exact rfl; exact rfl; omega; omega; exact rfl) | (apply G1_seql; exact rfl; exact rfl; exact rfl) | (apply G1_beql; exact Tryd.underlying4; exact rfl; exact rfl; exact rfl)) | apply G_nil | apply Post_next | apply W_seq | apply W_region | refine W_drawn 1 [] [0,1,2,3,4,5,6,7,8,9,10,11] mixed (by decide +kernel) ?_ | refine W_drawnT 1 [] (.node [0,4] (.alt 1 (.node [] (.alt 2 (.leaf [3,5,6,7,8,9]) (.alt 5 (.leaf [2,3,6,7,8,9]) .stop))) (.alt 5 (.leaf [1,2,3,6,7,8,9]) .stop))) mixed (by decide +kernel) ?_ | apply GT_leaf | apply GT_node | apply GT_alt | exact GT_stop | apply W_ret)
  all_goals
    refine Post_ret Tryd.results3 ⟨_, _, rfl, rfl, rfl⟩ ?_
    refine ⟨?_, (by repeat first | assumption | exact Ext.rfl' | apply Ext.drew | apply Ext.alloc | refine Ext.trans ?_ (by assumption))⟩
    have key := rapart_key hra hrb (n := (min ((mkStr (wT 4 a)).size : Int) ((mkStr (wT 4 b)).size : Int)).toNat) (by rw [mkStr_size, mkStr_size]; omega)
    show Value.bool _ = _
    congr 1
    by_cases hab : a = b
    · rw [decide_eq_true (key.2 hab), hba.2 hab]; rfl
    · rw [decide_eq_false (fun e => hab (key.1 e))]
      have : ba = false := by
        cases ba with
        | false => rfl
        | true => exact absurd (hba.1 rfl) hab
      rw [this]; rfl
end Go.Proofs.YtikjnmpijflnaaaDoor
