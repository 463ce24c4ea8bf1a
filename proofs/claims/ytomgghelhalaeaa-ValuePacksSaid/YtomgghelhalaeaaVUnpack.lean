/- Unpack. -/
import Derived.Test.YtomgghelhalaeaaVReadValue
namespace Go.Proofs.Ytomgghelhalaeaa
open Go.V
attribute [local irreducible] Blk Own hcell IntT SliceT PlainT AggT SizeT StrT FieldT ZeroT EqT ArrT

theorem take1_app {x : UInt8} {l : List UInt8} : takeO 1 (x :: l) = some ([x], l) := by
  have := takeO_app (a := [x]) (r := l); simpa using this
theorem kind_be {k : Int} (h : 1 ≤ k ∧ k ≤ 5) : beW [octet k 0] = k := by
  rw [beW1, octet_nat]; simp only [Nat.mul_zero, Int.pow_zero, Int.ediv_one]; omega

theorem parse_complete {v : Val} {r : List UInt8} (hR : RightV v) (hf : Fits v) : parseV (encV v ++ r) = some (v, r) := by
  have hk := hR.kind
  have hb := right_bits hR hf
  have hkb := kind_be hk
  have hl := hR.lens
  unfold encV parseV
  rw [List.cons_append]
  simp only [take1_app, hkb]
  by_cases h1 : v.kind = 1
  · simp only [h1, if_true, textO_app hb.text]
    have q1 := hR.ps (by omega); have q3 := hR.ts (by omega) (by omega); have q5 := hR.zs (by omega)
    obtain ⟨k, s, ps, ts, zs⟩ := v
    simp_all
  · simp only [h1, if_false, List.append_assoc]
    have hle : 0 ≤ sizeV v ∧ sizeV v < 65536 := by
      have := hb.lens
      unfold sizeV; rw [if_neg h1]; omega
    have ht2 : ∀ X, takeO 2 (octets (sizeV v) 2 ++ X) = some (octets (sizeV v) 2, X) := fun X => by
      have := takeO_app (a := octets (sizeV v) 2) (r := X)
      rwa [octets_len] at this
    have hsz : sizeV v = v.ps.length + v.ts.length + v.zs.length := by unfold sizeV; rw [if_neg h1]
    have q0 := hR.text h1
    simp only [ht2, be_oct2 hle]
    by_cases h2 : v.kind = 2
    · have q3 := hR.ts (by omega) (by omega); have q5 := hR.zs (by omega)
      have hlen := (hR.hash h2).2.1
      have e : (sizeV v).toNat = v.ps.length := by rw [hsz, q3, q5]; simp
      have hi := items_app (one := pairO) (f := encP) (fun x r h => pairO_app h) hb.ps r v.ps.length (Nat.le_refl _)
      rw [List.take_length, List.drop_length] at hi
      have hbig : ¬ 512 < sizeV v := by omega
      rw [q3, q5]
      simp only [List.flatMap_nil, List.nil_append] at hi ⊢
      simp only [h2, hbig, if_false, if_true, e, hi]
      obtain ⟨k, s, ps, ts, zs⟩ := v
      simp_all
    · by_cases h34 : v.kind = 3 ∨ v.kind = 4
      · have q1 := hR.ps (by omega); have q5 := hR.zs (by omega)
        have hlen : v.ts.length ≤ 512 := by
          rcases h34 with h | h
          · exact (hR.list h).2.1
          · exact (hR.set h).2.1
        have e : (sizeV v).toNat = v.ts.length := by rw [hsz, q1, q5]; simp
        have hi := items_app (one := textO) (f := encT) (fun x r h => textO_app h) hb.ts r v.ts.length (Nat.le_refl _)
        rw [List.take_length, List.drop_length] at hi
        have hbig : ¬ 512 < sizeV v := by rw [hsz, q1, q5]; simp; omega
        rw [q1, q5]
        simp only [List.flatMap_nil, List.nil_append] at hi ⊢
        simp only [h2, h34, hbig, if_false, if_true, e, hi]
        obtain ⟨k, s, ps, ts, zs⟩ := v
        simp_all
      · have h5 : v.kind = 5 := by omega
        have q1 := hR.ps (by omega); have q3 := hR.ts (by omega) (by omega)
        have hlen := (hR.zset h5).2.1
        have e : (sizeV v).toNat = v.zs.length := by rw [hsz, q1, q3]; simp
        have hi := items_app (one := memO) (f := encZ) (fun x r h => memO_app h) hb.zs r v.zs.length (Nat.le_refl _)
        rw [List.take_length, List.drop_length] at hi
        have hbig : ¬ 512 < sizeV v := by rw [hsz, q1, q3]; simp; omega
        rw [q1, q3]
        simp only [List.flatMap_nil, List.nil_append] at hi ⊢
        simp only [h5, hbig, if_false, if_true, e, hi, show ¬ (5 : Int) = 2 by omega, show ¬ ((5 : Int) = 3 ∨ (5 : Int) = 4) by omega]
        obtain ⟨k, s, ps, ts, zs⟩ := v
        simp_all

theorem octet_be {x : UInt8} : octet (beW [x]) 0 = x := by
  rw [beW1]; exact octet_eq (by have := byte_lt x; simp only [Nat.mul_zero, Int.pow_zero, Int.ediv_one]; omega)
theorem octets_be2 {m : List UInt8} (h : m.length = 2) : octets (beW m) 2 = m := octets_beW h (by omega)
theorem be2_nonneg {m : List UInt8} (h : m.length = 2) : 0 ≤ beW m := by
  obtain ⟨a, b, rfl⟩ := len2 h
  have := byte_lt a; have := byte_lt b
  rw [beW2]; omega

theorem parse_sound {l r : List UInt8} {v : Val} (h : parseV l = some (v, r)) (hR : RightV v) : l = encV v ++ r := by
  have hk := hR.kind
  unfold parseV at h
  cases h1 : takeO 1 l with
  | none => simp [h1] at h
  | some y =>
    obtain ⟨k, l1⟩ := y
    obtain ⟨rfl, hkl⟩ := takeO_some h1
    simp only [h1] at h
    match k, hkl with
    | [x], _ =>
      by_cases hk1 : beW [x] = 1
      · simp only [hk1, if_true] at h
        cases h2 : textO l1 with
        | none => simp [h2] at h
        | some z =>
          obtain ⟨s, r'⟩ := z
          simp only [h2] at h
          injection h with h; injection h with e1 e2
          subst e1 e2
          obtain ⟨rfl, _⟩ := textO_some h2
          have := octet_be (x := x)
          rw [hk1] at this
          simp [encV, this]
      · simp only [hk1, if_false] at h
        cases h2 : takeO 2 l1 with
        | none => simp [h2] at h
        | some z =>
          obtain ⟨m, l2⟩ := z
          obtain ⟨rfl, hm⟩ := takeO_some h2
          have hm0 := be2_nonneg hm
          simp only [h2] at h
          by_cases hbig : 512 < beW m
          · simp [hbig] at h
          · simp only [hbig, if_false] at h
            have ho := octet_be (x := x)
            have hom := octets_be2 hm
            by_cases hk2 : beW [x] = 2
            · simp only [hk2, if_true] at h
              cases h3 : itemsO pairO (beW m).toNat l2 with
              | none => simp [h3] at h
              | some q =>
                obtain ⟨ps, r'⟩ := q
                simp only [h3] at h
                injection h with h; injection h with e1 e2
                subst e1 e2
                obtain ⟨e3, e4, _⟩ := items_some (f := encP) (ok := fun _ => True) (fun l x r h => ⟨(pairO_some h).1, trivial⟩) _ _ _ _ h3
                rw [hk2] at ho
                have e5 : ((ps.length : Int) + 0 + 0) = beW m := by omega
                simp only [encV, sizeV, show ¬ (2 : Int) = 1 by omega, if_false, List.length_nil, Int.natCast_zero, ho, List.flatMap_nil, List.append_nil]
                first | rw [show ((0 : Nat) : Int) = 0 from rfl, e5, hom, e3] | rw [e5, hom, e3]
                simp
            · simp only [hk2, if_false] at h
              by_cases hk34 : beW [x] = 3 ∨ beW [x] = 4
              · simp only [hk34, if_true] at h
                cases h3 : itemsO textO (beW m).toNat l2 with
                | none => simp [h3] at h
                | some q =>
                  obtain ⟨ts, r'⟩ := q
                  simp only [h3] at h
                  injection h with h; injection h with e1 e2
                  subst e1 e2
                  obtain ⟨e3, e4, _⟩ := items_some (f := encT) (ok := fun _ => True) (fun l x r h => ⟨(textO_some h).1, trivial⟩) _ _ _ _ h3
                  have e5 : ((0 : Int) + ts.length + 0) = beW m := by omega
                  simp only [encV, sizeV, hk1, if_false, List.length_nil, ho, List.flatMap_nil, List.append_nil, List.nil_append]
                  first | rw [show ((0 : Nat) : Int) = 0 from rfl, e5, hom, e3] | rw [e5, hom, e3]
                  simp
              · simp only [hk34, if_false] at h
                by_cases hk5 : beW [x] = 5
                · simp only [hk5, if_true] at h
                  cases h3 : itemsO memO (beW m).toNat l2 with
                  | none => simp [h3] at h
                  | some q =>
                    obtain ⟨zs, r'⟩ := q
                    simp only [h3] at h
                    injection h with h; injection h with e1 e2
                    subst e1 e2
                    obtain ⟨e3, e4, _⟩ := items_some (f := encZ) (ok := fun _ => True) (fun l x r h => ⟨(memO_some h).1, trivial⟩) _ _ _ _ h3
                    rw [hk5] at ho
                    have e5 : ((0 : Int) + 0 + zs.length) = beW m := by omega
                    simp only [encV, sizeV, show ¬ (5 : Int) = 1 by omega, if_false, List.length_nil, ho, List.flatMap_nil, List.append_nil, List.nil_append]
                    first | rw [show ((0 : Nat) : Int) = 0 from rfl, e5, hom, e3] | rw [e5, hom, e3]
                    simp
                · simp only [hk5, if_false] at h
                  by_cases hm00 : beW m = 0
                  · simp only [hm00, if_true] at h
                    injection h with h; injection h with e1 e2
                    subst e1
                    simp only at hk
                    omega
                  · simp [hm00] at h

/-- what Unpack says of bs -/
def UnpR (bs : List UInt8) (v : Val) (n : Int) (ok : Bool) : Prop :=
  (ok = true ∧ RightV v ∧ Fits v ∧ ∃ r, bs = encV v ++ r ∧ n = (encV v).length) ∨ (ok = false ∧ n = 0 ∧ v = val0 ∧ ∀ u r, RightV u → Fits u → bs ≠ encV u ++ r)
theorem UnpR.same {bs : List UInt8} {v v' : Val} {n n' : Int} {ok ok' : Bool} (h : UnpR bs v n ok) (h' : UnpR bs v' n' ok') : v = v' ∧ n = n' ∧ ok = ok' := by
  rcases h with ⟨rfl, a1, a2, r, a3, a4⟩ | ⟨rfl, rfl, rfl, a⟩ <;> rcases h' with ⟨rfl, b1, b2, r', b3, b4⟩ | ⟨rfl, rfl, rfl, b⟩
  · have := encV_pf a1 b1 a2 b2 (by rw [← a3, ← b3])
    exact ⟨this.1, by rw [a4, b4, this.1], rfl⟩
  · exact absurd a3 (b v r a1 a2)
  · exact absurd b3 (a v' r' b1 b2)
  · exact ⟨rfl, rfl, rfl⟩

theorem rsame_self {r r' : RawV} {v : Val} {w : World} (h : Rv w.heap r v) (h' : Rv w.heap r' v) : Ctr Try.prog 20 [.agg (eRaw.enc r).toArray, .agg (eRaw.enc r').toArray] w (fun x w' => x = .bool true ∧ Ext w w') :=
  (same_raw h h').mono fun x w' ⟨b, e, hb, hx⟩ => ⟨by rw [e, hb.2 rfl], hx⟩

theorem bld_reader (p : Option Addr) (n c : Nat) (w : World) : (Instr.build 78 [(0, Value.slice p n c)].toArray).run Try.prog w = .ok (.agg #[.slice p n c, .int .i64 0, .bool false]) w := by kernel_rfl

theorem unpack_spec {p : Option Addr} {c : Nat} {bs : List UInt8} {w : World} (hS : Sl w.heap eByte p c bs) (hb : bs.length ≤ 1000000000) :
    Ctr Try.prog 28 [.slice p bs.length c] w (fun x w' => ∃ r v n ok, x = .tuple #[.agg (eRaw.enc r).toArray, .int .i64 n, .bool ok] ∧ Rv w'.heap r v ∧ UnpR bs v n ok ∧ Ext w w') := by
  refine Ctr_of Try.func28 Try.ntmps28 rfl rfl rfl ?_
  repeat' (first | (apply G_on; exact rfl; first | ((first | apply G1_assign | apply G1_move | apply G1_nilCheck); exact rfl; exact rfl) | (apply G1_nilCheckF; exact rfl; exact rfl) | (apply G1_fieldAddr; (first | exact T.f78_2 | exact T.f78_1); exact rfl; exact rfl) | (apply G1_loadB; (first | exact T.p4 | exact T.p3); exact rfl; assumption; exact rfl; exact rfl) | (apply G1_loadBS; (first | exact T.p4 | exact T.p3); exact rfl; assumption; exact rfl; (first | assumption | (focus (simp [exempt]; omega))); exact rfl) | (apply G1_loadFld; (first | exact T.p4 | exact T.p3); exact rfl; assumption; assumption; exact rfl; exact rfl; exact rfl) | (apply G1_loadEl1; (first | exact T.p4 | exact T.p3); exact rfl; assumption; assumption; exact rfl; exact rfl; exact rfl) | (apply G1_loadBAgg; exact T.a30; exact rfl; assumption; exact rfl; exact rfl) | (apply G1_loadEl; exact T.a30; exact rfl; assumption; assumption; exact rfl; exact rfl) | (apply G1_loadElSub; exact T.a30; exact rfl; assumption; assumption; exact rfl; exact rfl; exact rfl; exact rfl) | (apply G1_loadBSub; exact T.a30; exact rfl; assumption; exact rfl; exact rfl; exact rfl) | (apply G1_not_t; exact rfl; exact rfl) | (apply G1_not_f; exact rfl; exact rfl) | (apply G1_not_dec; exact rfl; exact rfl) | (apply G1_not; exact rfl; exact rfl) | (apply G1_pick_t; exact rfl; exact rfl; exact rfl) | (apply G1_pick_f; exact rfl; exact rfl; exact rfl)) | apply G_nil | apply Post_next | apply W_seq | apply W_region | (apply W_cond_true; exact rfl) | (apply W_cond_false; exact rfl) | (apply W_cond_dec; exact rfl; all_goals (intro h; try (exfalso; omega))) | (apply W_cond; exact rfl; all_goals intro h) | (apply G_off; exact rfl; exact rfl) | ((fail_if_success (apply G_on; exact rfl)); apply G_split_dec; exact rfl; exact rfl; all_goals (intro h; try (exfalso; omega))) | ((fail_if_success (apply G_on; exact rfl)); apply G_split; exact rfl; exact rfl; all_goals intro h) | refine W_drawn 1 [] [0,1,2,3,4,5,6,7] mixed (by decide +kernel) ?_ | apply W_skip | apply W_exit | apply W_ret | apply W_block | apply Post_then_ret | apply Post_block_ret | apply Post_then_exit | apply Post_block_exit | (apply Post_block_other; exact rfl) | apply Post_block_normal)
  apply G_on; exact rfl; apply G1_alloc; exact T.zero30; exact rfl; exact rfl; intro a1 w1 ha1 hA1 hx1 hs1
  replace hA1 : Blk w1.heap a1 30 (eRaw.enc raw0) := hA1
  repeat' (first | (apply G_on; exact rfl; first | ((first | apply G1_assign | apply G1_move | apply G1_nilCheck); exact rfl; exact rfl) | (apply G1_build (.agg #[.slice p bs.length c, .int .i64 0, .bool false]); exact rfl; exact bld_reader p bs.length c; exact rfl) | (apply G1_nilCheckF; exact rfl; exact rfl) | (apply G1_fieldAddr; (first | exact T.f78_2 | exact T.f78_1); exact rfl; exact rfl) | (apply G1_loadB; (first | exact T.p4 | exact T.p3); exact rfl; assumption; exact rfl; exact rfl) | (apply G1_loadBS; (first | exact T.p4 | exact T.p3); exact rfl; assumption; exact rfl; (first | assumption | (focus (simp [exempt]; omega))); exact rfl) | (apply G1_loadFld; (first | exact T.p4 | exact T.p3); exact rfl; assumption; assumption; exact rfl; exact rfl; exact rfl) | (apply G1_loadEl1; (first | exact T.p4 | exact T.p3); exact rfl; assumption; assumption; exact rfl; exact rfl; exact rfl) | (apply G1_loadBAgg; exact T.a30; exact rfl; assumption; exact rfl; exact rfl) | (apply G1_loadEl; exact T.a30; exact rfl; assumption; assumption; exact rfl; exact rfl) | (apply G1_loadElSub; exact T.a30; exact rfl; assumption; assumption; exact rfl; exact rfl; exact rfl; exact rfl) | (apply G1_loadBSub; exact T.a30; exact rfl; assumption; exact rfl; exact rfl; exact rfl) | (apply G1_not_t; exact rfl; exact rfl) | (apply G1_not_f; exact rfl; exact rfl) | (apply G1_not_dec; exact rfl; exact rfl) | (apply G1_not; exact rfl; exact rfl) | (apply G1_pick_t; exact rfl; exact rfl; exact rfl) | (apply G1_pick_f; exact rfl; exact rfl; exact rfl)) | apply G_nil | apply Post_next | apply W_seq | apply W_region | (apply W_cond_true; exact rfl) | (apply W_cond_false; exact rfl) | (apply W_cond_dec; exact rfl; all_goals (intro h; try (exfalso; omega))) | (apply W_cond; exact rfl; all_goals intro h) | (apply G_off; exact rfl; exact rfl) | ((fail_if_success (apply G_on; exact rfl)); apply G_split_dec; exact rfl; exact rfl; all_goals (intro h; try (exfalso; omega))) | ((fail_if_success (apply G_on; exact rfl)); apply G_split; exact rfl; exact rfl; all_goals intro h) | refine W_drawn 1 [] [0,1,2,3,4,5,6,7] mixed (by decide +kernel) ?_ | apply W_skip | apply W_exit | apply W_ret | apply W_block | apply Post_then_ret | apply Post_block_ret | apply Post_then_exit | apply Post_block_exit | (apply Post_block_other; exact rfl) | apply Post_block_normal)
  apply G_on; exact rfl; apply G1_box; exact rfl; exact rfl; exact rfl; intro rb w2 hrb hB hx2 hs2
  replace hB : Blk w2.heap rb 78 [.slice p bs.length c, .int .i64 ((0 : Nat) : Int), .bool false] := hB
  replace hA1 := hA1.ext hx2
  have hx := hx1.trans hx2
  have hR : RdAt w2.heap rb p c bs (some bs) := ⟨0, false, hB, Nat.zero_le _, .inr ⟨rfl, by simp⟩⟩
  have hA : Aside rb p bs := hS.ne (by omega)
  repeat' (first | (apply G_on; exact rfl; first | ((first | apply G1_assign | apply G1_move | apply G1_nilCheck); exact rfl; exact rfl) | (apply G1_nilCheckF; exact rfl; exact rfl) | (apply G1_fieldAddr; (first | exact T.f78_2 | exact T.f78_1); exact rfl; exact rfl) | (apply G1_loadB; (first | exact T.p4 | exact T.p3); exact rfl; assumption; exact rfl; exact rfl) | (apply G1_loadBS; (first | exact T.p4 | exact T.p3); exact rfl; assumption; exact rfl; (first | assumption | (focus (simp [exempt]; omega))); exact rfl) | (apply G1_loadFld; (first | exact T.p4 | exact T.p3); exact rfl; assumption; assumption; exact rfl; exact rfl; exact rfl) | (apply G1_loadEl1; (first | exact T.p4 | exact T.p3); exact rfl; assumption; assumption; exact rfl; exact rfl; exact rfl) | (apply G1_loadBAgg; exact T.a30; exact rfl; assumption; exact rfl; exact rfl) | (apply G1_loadEl; exact T.a30; exact rfl; assumption; assumption; exact rfl; exact rfl) | (apply G1_loadElSub; exact T.a30; exact rfl; assumption; assumption; exact rfl; exact rfl; exact rfl; exact rfl) | (apply G1_loadBSub; exact T.a30; exact rfl; assumption; exact rfl; exact rfl; exact rfl) | (apply G1_not_t; exact rfl; exact rfl) | (apply G1_not_f; exact rfl; exact rfl) | (apply G1_not_dec; exact rfl; exact rfl) | (apply G1_not; exact rfl; exact rfl) | (apply G1_pick_t; exact rfl; exact rfl; exact rfl) | (apply G1_pick_f; exact rfl; exact rfl; exact rfl)) | apply G_nil | apply Post_next | apply W_seq | apply W_region | (apply W_cond_true; exact rfl) | (apply W_cond_false; exact rfl) | (apply W_cond_dec; exact rfl; all_goals (intro h; try (exfalso; omega))) | (apply W_cond; exact rfl; all_goals intro h) | (apply G_off; exact rfl; exact rfl) | ((fail_if_success (apply G_on; exact rfl)); apply G_split_dec; exact rfl; exact rfl; all_goals (intro h; try (exfalso; omega))) | ((fail_if_success (apply G_on; exact rfl)); apply G_split; exact rfl; exact rfl; all_goals intro h) | refine W_drawn 1 [] [0,1,2,3,4,5,6,7] mixed (by decide +kernel) ?_ | apply W_skip | apply W_exit | apply W_ret | apply W_block | apply Post_then_ret | apply Post_block_ret | apply Post_then_exit | apply Post_block_exit | (apply Post_block_other; exact rfl) | apply Post_block_normal)
  apply G_on; exact rfl; apply G1_call; exact rfl; exact rfl; exact rfl; exact readValue_spec hR (hS.ext hx) hA hb; rintro _ w3 ⟨r, v, st, hO⟩; refine ⟨(by first | exact .inl rfl | exact .inr (by assumption)), ?_⟩
  obtain ⟨rfl, hrv, hR, hg3, hpr, hfv, hlv, hold, hnew⟩ := hO
  have z3 := hg3.size
  replace hA1 := hA1.grown hg3 (by simp; omega)
  replace hx : Ext w w3 := hx.own hg3 (fun k hk => by injection hk; omega)
  repeat' (first | (apply G_on; exact rfl; first | ((first | apply G1_assign | apply G1_move | apply G1_nilCheck); exact rfl; exact rfl) | (apply G1_nilCheckF; exact rfl; exact rfl) | (apply G1_fieldAddr; (first | exact T.f78_2 | exact T.f78_1); exact rfl; exact rfl) | (apply G1_loadB; (first | exact T.p4 | exact T.p3); exact rfl; assumption; exact rfl; exact rfl) | (apply G1_loadBS; (first | exact T.p4 | exact T.p3); exact rfl; assumption; exact rfl; (first | assumption | (focus (simp [exempt]; omega))); exact rfl) | (apply G1_loadFld; (first | exact T.p4 | exact T.p3); exact rfl; assumption; assumption; exact rfl; exact rfl; exact rfl) | (apply G1_loadEl1; (first | exact T.p4 | exact T.p3); exact rfl; assumption; assumption; exact rfl; exact rfl; exact rfl) | (apply G1_loadBAgg; exact T.a30; exact rfl; assumption; exact rfl; exact rfl) | (apply G1_loadEl; exact T.a30; exact rfl; assumption; assumption; exact rfl; exact rfl) | (apply G1_loadElSub; exact T.a30; exact rfl; assumption; assumption; exact rfl; exact rfl; exact rfl; exact rfl) | (apply G1_loadBSub; exact T.a30; exact rfl; assumption; exact rfl; exact rfl; exact rfl) | (apply G1_not_t; exact rfl; exact rfl) | (apply G1_not_f; exact rfl; exact rfl) | (apply G1_not_dec; exact rfl; exact rfl) | (apply G1_not; exact rfl; exact rfl) | (apply G1_pick_t; exact rfl; exact rfl; exact rfl) | (apply G1_pick_f; exact rfl; exact rfl; exact rfl)) | apply G_nil | apply Post_next | apply W_seq | apply W_region | (apply W_cond_true; exact rfl) | (apply W_cond_false; exact rfl) | (apply W_cond_dec; exact rfl; all_goals (intro h; try (exfalso; omega))) | (apply W_cond; exact rfl; all_goals intro h) | (apply G_off; exact rfl; exact rfl) | ((fail_if_success (apply G_on; exact rfl)); apply G_split_dec; exact rfl; exact rfl; all_goals (intro h; try (exfalso; omega))) | ((fail_if_success (apply G_on; exact rfl)); apply G_split; exact rfl; exact rfl; all_goals intro h) | refine W_drawn 1 [] [0,1,2,3,4,5,6,7] mixed (by decide +kernel) ?_ | apply W_skip | apply W_exit | apply W_ret | apply W_block | apply Post_then_ret | apply Post_block_ret | apply Post_then_exit | apply Post_block_exit | (apply Post_block_other; exact rfl) | apply Post_block_normal)
  apply G_on; exact rfl; apply G1_alloc; exact T.zero30; exact rfl; exact rfl; intro a4 w4 ha4 hA4 hx4 hs4
  repeat' (first | (apply G_on; exact rfl; first | ((first | apply G1_assign | apply G1_move | apply G1_nilCheck); exact rfl; exact rfl) | (apply G1_nilCheckF; exact rfl; exact rfl) | (apply G1_fieldAddr; (first | exact T.f78_2 | exact T.f78_1); exact rfl; exact rfl) | (apply G1_loadB; (first | exact T.p4 | exact T.p3); exact rfl; assumption; exact rfl; exact rfl) | (apply G1_loadBS; (first | exact T.p4 | exact T.p3); exact rfl; assumption; exact rfl; (first | assumption | (focus (simp [exempt]; omega))); exact rfl) | (apply G1_loadFld; (first | exact T.p4 | exact T.p3); exact rfl; assumption; assumption; exact rfl; exact rfl; exact rfl) | (apply G1_loadEl1; (first | exact T.p4 | exact T.p3); exact rfl; assumption; assumption; exact rfl; exact rfl; exact rfl) | (apply G1_loadBAgg; exact T.a30; exact rfl; assumption; exact rfl; exact rfl) | (apply G1_loadEl; exact T.a30; exact rfl; assumption; assumption; exact rfl; exact rfl) | (apply G1_loadElSub; exact T.a30; exact rfl; assumption; assumption; exact rfl; exact rfl; exact rfl; exact rfl) | (apply G1_loadBSub; exact T.a30; exact rfl; assumption; exact rfl; exact rfl; exact rfl) | (apply G1_not_t; exact rfl; exact rfl) | (apply G1_not_f; exact rfl; exact rfl) | (apply G1_not_dec; exact rfl; exact rfl) | (apply G1_not; exact rfl; exact rfl) | (apply G1_pick_t; exact rfl; exact rfl; exact rfl) | (apply G1_pick_f; exact rfl; exact rfl; exact rfl)) | apply G_nil | apply Post_next | apply W_seq | apply W_region | (apply W_cond_true; exact rfl) | (apply W_cond_false; exact rfl) | (apply W_cond_dec; exact rfl; all_goals (intro h; try (exfalso; omega))) | (apply W_cond; exact rfl; all_goals intro h) | (apply G_off; exact rfl; exact rfl) | ((fail_if_success (apply G_on; exact rfl)); apply G_split_dec; exact rfl; exact rfl; all_goals (intro h; try (exfalso; omega))) | ((fail_if_success (apply G_on; exact rfl)); apply G_split; exact rfl; exact rfl; all_goals intro h) | refine W_drawn 1 [] [0,1,2,3,4,5,6,7] mixed (by decide +kernel) ?_ | apply W_skip | apply W_exit | apply W_ret | apply W_block | apply Post_then_ret | apply Post_block_ret | apply Post_then_exit | apply Post_block_exit | (apply Post_block_other; exact rfl) | apply Post_block_normal)
  apply G_on; exact rfl; apply G1_storeB; exact T.z30; exact rfl; exact rfl; exact hA4; exact rfl; exact rfl; (first | exact Nat.le_of_ble_eq_true rfl | (focus (simp [Value.cells]; done))); (first | exact Enc.one _ _ | (focus (simp [Value.oneCell']; done)) | (focus (simp [Value.cells, Value.oneCell']; done)) | exact Enc.oneAgg _ _); exact rfl; (first | exact .inl rfl | exact .inr (by simp [exempt])); exact rfl; intro w5 hA4 hg5 hs5
  replace hA4 : Blk w5.heap a4 30 (eRaw.enc r) := hA4
  have hx35 : Ext w3 w5 := hx4.own hg5 (fun k hk => by injection hk; omega)
  replace hA1 := hA1.ext hx35
  replace hR := hR.ext hx35
  replace hrv := hrv.ext hx35
  replace hx := hx.trans hx35
  have hrbl := hR.lt
  obtain ⟨pos, sh, hB, hpos, hst⟩ := hR
  unfold PR at hpr
  rcases hst with ⟨rfl, rfl⟩ | ⟨rfl, rfl⟩
  · have hp : parseV bs = none := by
      cases h : parseV bs with
      | none => rfl
      | some y => obtain ⟨v0, r0⟩ := y; simp only [h] at hpr; cases hpr.1
    repeat' (first | (apply G_on; exact rfl; first | ((first | apply G1_assign | apply G1_move | apply G1_nilCheck); exact rfl; exact rfl) | (apply G1_build (.agg (eRaw.enc raw0).toArray); exact rfl; exact bld_raw0; exact rfl) | (apply G1_nilCheckF; exact rfl; exact rfl) | (apply G1_fieldAddr; (first | exact T.f78_2 | exact T.f78_1); exact rfl; exact rfl) | (apply G1_loadB; (first | exact T.p4 | exact T.p3); exact rfl; assumption; exact rfl; exact rfl) | (apply G1_loadBS; (first | exact T.p4 | exact T.p3); exact rfl; assumption; exact rfl; (first | assumption | (focus (simp [exempt]; omega))); exact rfl) | (apply G1_loadFld; (first | exact T.p4 | exact T.p3); exact rfl; assumption; assumption; exact rfl; exact rfl; exact rfl) | (apply G1_loadEl1; (first | exact T.p4 | exact T.p3); exact rfl; assumption; assumption; exact rfl; exact rfl; exact rfl) | (apply G1_loadBAgg; exact T.a30; exact rfl; assumption; exact rfl; exact rfl) | (apply G1_loadEl; exact T.a30; exact rfl; assumption; assumption; exact rfl; exact rfl) | (apply G1_loadElSub; exact T.a30; exact rfl; assumption; assumption; exact rfl; exact rfl; exact rfl; exact rfl) | (apply G1_loadBSub; exact T.a30; exact rfl; assumption; exact rfl; exact rfl; exact rfl) | (apply G1_not_t; exact rfl; exact rfl) | (apply G1_not_f; exact rfl; exact rfl) | (apply G1_not_dec; exact rfl; exact rfl) | (apply G1_not; exact rfl; exact rfl) | (apply G1_pick_t; exact rfl; exact rfl; exact rfl) | (apply G1_pick_f; exact rfl; exact rfl; exact rfl)) | apply G_nil | apply Post_next | apply W_seq | apply W_region | (apply W_cond_true; exact rfl) | (apply W_cond_false; exact rfl) | (apply W_cond_dec; exact rfl; all_goals (intro h; try (exfalso; omega))) | (apply W_cond; exact rfl; all_goals intro h) | (apply G_off; exact rfl; exact rfl) | ((fail_if_success (apply G_on; exact rfl)); apply G_split_dec; exact rfl; exact rfl; all_goals (intro h; try (exfalso; omega))) | ((fail_if_success (apply G_on; exact rfl)); apply G_split; exact rfl; exact rfl; all_goals intro h) | refine W_drawn 1 [] [0,1,2,3,4,5,6,7] mixed (by decide +kernel) ?_ | apply W_skip | apply W_exit | apply W_ret | apply W_block | apply Post_then_ret | apply Post_block_ret | apply Post_then_exit | apply Post_block_exit | (apply Post_block_other; exact rfl) | apply Post_block_normal)
    apply G_on; exact rfl; apply G1_storeB; exact T.z30; exact rfl; exact rfl; exact hA1; exact rfl; exact rfl; (first | exact Nat.le_of_ble_eq_true rfl | (focus (simp [Value.cells]; done))); (first | exact Enc.one _ _ | (focus (simp [Value.oneCell']; done)) | (focus (simp [Value.cells, Value.oneCell']; done)) | exact Enc.oneAgg _ _); exact rfl; (first | exact .inl rfl | exact .inr (by simp [exempt])); exact rfl; intro w6 hA1 hg6 hs6
    replace hA1 : Blk w6.heap a1 30 (eRaw.enc raw0) := hA1
    replace hx : Ext w w6 := hx.own hg6 (fun k hk => by injection hk; omega)
    repeat' (first | (apply G_on; exact rfl; first | ((first | apply G1_assign | apply G1_move | apply G1_nilCheck); exact rfl; exact rfl) | (apply G1_nilCheckF; exact rfl; exact rfl) | (apply G1_fieldAddr; (first | exact T.f78_2 | exact T.f78_1); exact rfl; exact rfl) | (apply G1_loadB; (first | exact T.p4 | exact T.p3); exact rfl; assumption; exact rfl; exact rfl) | (apply G1_loadBS; (first | exact T.p4 | exact T.p3); exact rfl; assumption; exact rfl; (first | assumption | (focus (simp [exempt]; omega))); exact rfl) | (apply G1_loadFld; (first | exact T.p4 | exact T.p3); exact rfl; assumption; assumption; exact rfl; exact rfl; exact rfl) | (apply G1_loadEl1; (first | exact T.p4 | exact T.p3); exact rfl; assumption; assumption; exact rfl; exact rfl; exact rfl) | (apply G1_loadBAgg; exact T.a30; exact rfl; assumption; exact rfl; exact rfl) | (apply G1_loadEl; exact T.a30; exact rfl; assumption; assumption; exact rfl; exact rfl) | (apply G1_loadElSub; exact T.a30; exact rfl; assumption; assumption; exact rfl; exact rfl; exact rfl; exact rfl) | (apply G1_loadBSub; exact T.a30; exact rfl; assumption; exact rfl; exact rfl; exact rfl) | (apply G1_not_t; exact rfl; exact rfl) | (apply G1_not_f; exact rfl; exact rfl) | (apply G1_not_dec; exact rfl; exact rfl) | (apply G1_not; exact rfl; exact rfl) | (apply G1_pick_t; exact rfl; exact rfl; exact rfl) | (apply G1_pick_f; exact rfl; exact rfl; exact rfl)) | apply G_nil | apply Post_next | apply W_seq | apply W_region | (apply W_cond_true; exact rfl) | (apply W_cond_false; exact rfl) | (apply W_cond_dec; exact rfl; all_goals (intro h; try (exfalso; omega))) | (apply W_cond; exact rfl; all_goals intro h) | (apply G_off; exact rfl; exact rfl) | ((fail_if_success (apply G_on; exact rfl)); apply G_split_dec; exact rfl; exact rfl; all_goals (intro h; try (exfalso; omega))) | ((fail_if_success (apply G_on; exact rfl)); apply G_split; exact rfl; exact rfl; all_goals intro h) | refine W_drawn 1 [] [0,1,2,3,4,5,6,7] mixed (by decide +kernel) ?_ | apply W_skip | apply W_exit | apply W_ret | apply W_block | apply Post_then_ret | apply Post_block_ret | apply Post_then_exit | apply Post_block_exit | (apply Post_block_other; exact rfl) | apply Post_block_normal)
    refine Post_ret Try.results28 ⟨_, _, _, rfl, rfl, run_loadVar_box T.a30 (by assumption) rfl, _, _, rfl, rfl, _, _, rfl, rfl, rfl⟩ ?_
    refine ⟨raw0, val0, 0, false, rfl, rv0, .inr ⟨rfl, rfl, rfl, fun u r hu hf e => ?_⟩, hx⟩
    rw [e, parse_complete hu hf] at hp
    cases hp
  · have hp : parseV bs = some (v, bs.drop pos) := by
      cases h : parseV bs with
      | none => simp only [h] at hpr; cases hpr
      | some y =>
        obtain ⟨v0, r0⟩ := y
        simp only [h] at hpr
        injection hpr.1 with e1
        rw [hpr.2, e1]
    repeat' (first | (apply G_on; exact rfl; first | ((first | apply G1_assign | apply G1_move | apply G1_nilCheck); exact rfl; exact rfl) | (apply G1_nilCheckF; exact rfl; exact rfl) | (apply G1_fieldAddr; (first | exact T.f78_2 | exact T.f78_1); exact rfl; exact rfl) | (apply G1_loadB; (first | exact T.p4 | exact T.p3); exact rfl; assumption; exact rfl; exact rfl) | (apply G1_loadBS; (first | exact T.p4 | exact T.p3); exact rfl; assumption; exact rfl; (first | assumption | (focus (simp [exempt]; omega))); exact rfl) | (apply G1_loadFld; (first | exact T.p4 | exact T.p3); exact rfl; assumption; assumption; exact rfl; exact rfl; exact rfl) | (apply G1_loadEl1; (first | exact T.p4 | exact T.p3); exact rfl; assumption; assumption; exact rfl; exact rfl; exact rfl) | (apply G1_loadBAgg; exact T.a30; exact rfl; assumption; exact rfl; exact rfl) | (apply G1_loadEl; exact T.a30; exact rfl; assumption; assumption; exact rfl; exact rfl) | (apply G1_loadElSub; exact T.a30; exact rfl; assumption; assumption; exact rfl; exact rfl; exact rfl; exact rfl) | (apply G1_loadBSub; exact T.a30; exact rfl; assumption; exact rfl; exact rfl; exact rfl) | (apply G1_not_t; exact rfl; exact rfl) | (apply G1_not_f; exact rfl; exact rfl) | (apply G1_not_dec; exact rfl; exact rfl) | (apply G1_not; exact rfl; exact rfl) | (apply G1_pick_t; exact rfl; exact rfl; exact rfl) | (apply G1_pick_f; exact rfl; exact rfl; exact rfl)) | apply G_nil | apply Post_next | apply W_seq | apply W_region | (apply W_cond_true; exact rfl) | (apply W_cond_false; exact rfl) | (apply W_cond_dec; exact rfl; all_goals (intro h; try (exfalso; omega))) | (apply W_cond; exact rfl; all_goals intro h) | (apply G_off; exact rfl; exact rfl) | ((fail_if_success (apply G_on; exact rfl)); apply G_split_dec; exact rfl; exact rfl; all_goals (intro h; try (exfalso; omega))) | ((fail_if_success (apply G_on; exact rfl)); apply G_split; exact rfl; exact rfl; all_goals intro h) | refine W_drawn 1 [] [0,1,2,3,4,5,6,7] mixed (by decide +kernel) ?_ | apply W_skip | apply W_exit | apply W_ret | apply W_block | apply Post_then_ret | apply Post_block_ret | apply Post_then_exit | apply Post_block_exit | (apply Post_block_other; exact rfl) | apply Post_block_normal)
    apply G_on; exact rfl; apply G1_call; exact rfl; exact rfl; exact rfl; exact value_right hrv hfv hlv; rintro _ w6 ⟨b, rfl, hbR, hx6⟩; refine ⟨(by first | exact .inl rfl | exact .inr (by assumption)), ?_⟩
    replace hA1 := hA1.ext hx6
    replace hA4 := hA4.ext hx6
    replace hB := hB.ext hx6
    replace hrv := hrv.ext hx6
    replace hx := hx.trans hx6
    by_cases hbb : b = true
    · subst hbb
      have hRv := hbR.1 rfl
      have hsnd := parse_sound hp hRv
      have hlen : (encV v).length = pos := by
        have h1 : bs.length = (encV v).length + (bs.drop pos).length := by
          conv => lhs; rw [hsnd]
          simp
        rw [List.length_drop] at h1
        omega
      have ha14 : a1 ≠ a4 := by omega
      have ha1r : a1 ≠ rb := by omega
      repeat' (first | (apply G_on; exact rfl; first | ((first | apply G1_assign | apply G1_move | apply G1_nilCheck); exact rfl; exact rfl) | (apply G1_nilCheckF; exact rfl; exact rfl) | (apply G1_fieldAddr; (first | exact T.f78_2 | exact T.f78_1); exact rfl; exact rfl) | (apply G1_loadB; (first | exact T.p4 | exact T.p3); exact rfl; assumption; exact rfl; exact rfl) | (apply G1_loadBS; (first | exact T.p4 | exact T.p3); exact rfl; assumption; exact rfl; (first | assumption | (focus (simp [exempt]; omega))); exact rfl) | (apply G1_loadFld; (first | exact T.p4 | exact T.p3); exact rfl; assumption; assumption; exact rfl; exact rfl; exact rfl) | (apply G1_loadEl1; (first | exact T.p4 | exact T.p3); exact rfl; assumption; assumption; exact rfl; exact rfl; exact rfl) | (apply G1_loadBAgg; exact T.a30; exact rfl; assumption; exact rfl; exact rfl) | (apply G1_loadEl; exact T.a30; exact rfl; assumption; assumption; exact rfl; exact rfl) | (apply G1_loadElSub; exact T.a30; exact rfl; assumption; assumption; exact rfl; exact rfl; exact rfl; exact rfl) | (apply G1_loadBSub; exact T.a30; exact rfl; assumption; exact rfl; exact rfl; exact rfl) | (apply G1_not_t; exact rfl; exact rfl) | (apply G1_not_f; exact rfl; exact rfl) | (apply G1_not_dec; exact rfl; exact rfl) | (apply G1_not; exact rfl; exact rfl) | (apply G1_pick_t; exact rfl; exact rfl; exact rfl) | (apply G1_pick_f; exact rfl; exact rfl; exact rfl)) | apply G_nil | apply Post_next | apply W_seq | apply W_region | (apply W_cond_true; exact rfl) | (apply W_cond_false; exact rfl) | (apply W_cond_dec; exact rfl; all_goals (intro h; try (exfalso; omega))) | (apply W_cond; exact rfl; all_goals intro h) | (apply G_off; exact rfl; exact rfl) | ((fail_if_success (apply G_on; exact rfl)); apply G_split_dec; exact rfl; exact rfl; all_goals (intro h; try (exfalso; omega))) | ((fail_if_success (apply G_on; exact rfl)); apply G_split; exact rfl; exact rfl; all_goals intro h) | apply W_skip | apply W_exit | apply W_ret | apply W_block | apply Post_then_ret | apply Post_block_ret | apply Post_then_exit | apply Post_block_exit | (apply Post_block_other; exact rfl) | apply Post_block_normal)
      refine W_drawn 3 [a1] [0,1,2,3,4,5,6,7] mixed (by decide +kernel) ?_
      have hS1 : exempt [a1] a4 = false := by simp [exempt]; omega
      have hS2 : exempt [a1] rb = false := by simp [exempt]; omega
      repeat' (first | (apply G_on; exact rfl; first | ((first | apply G1_assign | apply G1_move | apply G1_nilCheck); exact rfl; exact rfl) | (apply G1_loadBAggS; exact T.a30; exact rfl; exact hA4; exact rfl; exact hS1; exact rfl) | (apply G1_nilCheckF; exact rfl; exact rfl) | (apply G1_fieldAddr; (first | exact T.f78_2 | exact T.f78_1); exact rfl; exact rfl) | (apply G1_loadB; (first | exact T.p4 | exact T.p3); exact rfl; assumption; exact rfl; exact rfl) | (apply G1_loadBS; (first | exact T.p4 | exact T.p3); exact rfl; assumption; exact rfl; (first | assumption | (focus (simp [exempt]; omega))); exact rfl) | (apply G1_loadFld; (first | exact T.p4 | exact T.p3); exact rfl; assumption; assumption; exact rfl; exact rfl; exact rfl) | (apply G1_loadEl1; (first | exact T.p4 | exact T.p3); exact rfl; assumption; assumption; exact rfl; exact rfl; exact rfl) | (apply G1_loadBAgg; exact T.a30; exact rfl; assumption; exact rfl; exact rfl) | (apply G1_loadEl; exact T.a30; exact rfl; assumption; assumption; exact rfl; exact rfl) | (apply G1_loadElSub; exact T.a30; exact rfl; assumption; assumption; exact rfl; exact rfl; exact rfl; exact rfl) | (apply G1_loadBSub; exact T.a30; exact rfl; assumption; exact rfl; exact rfl; exact rfl) | (apply G1_not_t; exact rfl; exact rfl) | (apply G1_not_f; exact rfl; exact rfl) | (apply G1_not_dec; exact rfl; exact rfl) | (apply G1_not; exact rfl; exact rfl) | (apply G1_pick_t; exact rfl; exact rfl; exact rfl) | (apply G1_pick_f; exact rfl; exact rfl; exact rfl)) | apply G_nil | apply Post_next | apply W_seq | apply W_region | (apply W_cond_true; exact rfl) | (apply W_cond_false; exact rfl) | (apply W_cond_dec; exact rfl; all_goals (intro h; try (exfalso; omega))) | (apply W_cond; exact rfl; all_goals intro h) | (apply G_off; exact rfl; exact rfl) | ((fail_if_success (apply G_on; exact rfl)); apply G_split_dec; exact rfl; exact rfl; all_goals (intro h; try (exfalso; omega))) | ((fail_if_success (apply G_on; exact rfl)); apply G_split; exact rfl; exact rfl; all_goals intro h) | refine W_drawn 1 [] [0,1,2,3,4,5,6,7] mixed (by decide +kernel) ?_ | apply W_skip | apply W_exit | apply W_ret | apply W_block | apply Post_then_ret | apply Post_block_ret | apply Post_then_exit | apply Post_block_exit | (apply Post_block_other; exact rfl) | apply Post_block_normal)
      apply G_on; exact rfl; apply G1_storeB; exact T.z30; exact rfl; exact rfl; exact hA1; exact rfl; exact rfl; (first | exact Nat.le_of_ble_eq_true rfl | (focus (simp [Value.cells]; done))); (first | exact Enc.one _ _ | (focus (simp [Value.oneCell']; done)) | (focus (simp [Value.cells, Value.oneCell']; done)) | exact Enc.oneAgg _ _); exact rfl; (first | exact .inl rfl | exact .inr (by simp [exempt])); exact rfl; intro w7 hA1 hg7 hs7
      replace hA1 : Blk w7.heap a1 30 (eRaw.enc r) := hA1
      have hx7 : Ext w w7 := hx.drew.own hg7 (fun k hk => by injection hk; omega)
      have hrv7 : Rv w7.heap r v := hrv.grownN (grown_drew hg7) (fun a ha e => by have := hnew a ha; injection e with e; omega)
      repeat' (first | (apply G_on; exact rfl; first | ((first | apply G1_assign | apply G1_move | apply G1_nilCheck); exact rfl; exact rfl) | (apply G1_nilCheckF; exact rfl; exact rfl) | (apply G1_fieldAddr; (first | exact T.f78_2 | exact T.f78_1); exact rfl; exact rfl) | (apply G1_loadB; (first | exact T.p4 | exact T.p3); exact rfl; assumption; exact rfl; exact rfl) | (apply G1_loadBS; (first | exact T.p4 | exact T.p3); exact rfl; assumption; exact rfl; (first | assumption | (focus (simp [exempt]; omega))); exact rfl) | (apply G1_loadFld; (first | exact T.p4 | exact T.p3); exact rfl; assumption; assumption; exact rfl; exact rfl; exact rfl) | (apply G1_loadEl1; (first | exact T.p4 | exact T.p3); exact rfl; assumption; assumption; exact rfl; exact rfl; exact rfl) | (apply G1_loadBAgg; exact T.a30; exact rfl; assumption; exact rfl; exact rfl) | (apply G1_loadEl; exact T.a30; exact rfl; assumption; assumption; exact rfl; exact rfl) | (apply G1_loadElSub; exact T.a30; exact rfl; assumption; assumption; exact rfl; exact rfl; exact rfl; exact rfl) | (apply G1_loadBSub; exact T.a30; exact rfl; assumption; exact rfl; exact rfl; exact rfl) | (apply G1_not_t; exact rfl; exact rfl) | (apply G1_not_f; exact rfl; exact rfl) | (apply G1_not_dec; exact rfl; exact rfl) | (apply G1_not; exact rfl; exact rfl) | (apply G1_pick_t; exact rfl; exact rfl; exact rfl) | (apply G1_pick_f; exact rfl; exact rfl; exact rfl)) | apply G_nil | apply Post_next | apply W_seq | apply W_region | (apply W_cond_true; exact rfl) | (apply W_cond_false; exact rfl) | (apply W_cond_dec; exact rfl; all_goals (intro h; try (exfalso; omega))) | (apply W_cond; exact rfl; all_goals intro h) | (apply G_off; exact rfl; exact rfl) | ((fail_if_success (apply G_on; exact rfl)); apply G_split_dec; exact rfl; exact rfl; all_goals (intro h; try (exfalso; omega))) | ((fail_if_success (apply G_on; exact rfl)); apply G_split; exact rfl; exact rfl; all_goals intro h) | refine W_drawn 1 [] [0,1,2,3,4,5,6,7] mixed (by decide +kernel) ?_ | apply W_skip | apply W_exit | apply W_ret | apply W_block | apply Post_then_ret | apply Post_block_ret | apply Post_then_exit | apply Post_block_exit | (apply Post_block_other; exact rfl) | apply Post_block_normal)
      refine Post_ret Try.results28 ⟨_, _, _, rfl, rfl, run_loadVar_box T.a30 (by assumption) rfl, _, _, rfl, rfl, _, _, rfl, rfl, rfl⟩ ?_
      exact ⟨r, v, pos, true, rfl, hrv7, .inl ⟨rfl, hRv, hfv, bs.drop pos, hsnd, by rw [hlen]⟩, hx7⟩
    · have hbf : b = false := by simpa using hbb
      subst hbf
      repeat' (first | (apply G_on; exact rfl; first | ((first | apply G1_assign | apply G1_move | apply G1_nilCheck); exact rfl; exact rfl) | (apply G1_build (.agg (eRaw.enc raw0).toArray); exact rfl; exact bld_raw0; exact rfl) | (apply G1_nilCheckF; exact rfl; exact rfl) | (apply G1_fieldAddr; (first | exact T.f78_2 | exact T.f78_1); exact rfl; exact rfl) | (apply G1_loadB; (first | exact T.p4 | exact T.p3); exact rfl; assumption; exact rfl; exact rfl) | (apply G1_loadBS; (first | exact T.p4 | exact T.p3); exact rfl; assumption; exact rfl; (first | assumption | (focus (simp [exempt]; omega))); exact rfl) | (apply G1_loadFld; (first | exact T.p4 | exact T.p3); exact rfl; assumption; assumption; exact rfl; exact rfl; exact rfl) | (apply G1_loadEl1; (first | exact T.p4 | exact T.p3); exact rfl; assumption; assumption; exact rfl; exact rfl; exact rfl) | (apply G1_loadBAgg; exact T.a30; exact rfl; assumption; exact rfl; exact rfl) | (apply G1_loadEl; exact T.a30; exact rfl; assumption; assumption; exact rfl; exact rfl) | (apply G1_loadElSub; exact T.a30; exact rfl; assumption; assumption; exact rfl; exact rfl; exact rfl; exact rfl) | (apply G1_loadBSub; exact T.a30; exact rfl; assumption; exact rfl; exact rfl; exact rfl) | (apply G1_not_t; exact rfl; exact rfl) | (apply G1_not_f; exact rfl; exact rfl) | (apply G1_not_dec; exact rfl; exact rfl) | (apply G1_not; exact rfl; exact rfl) | (apply G1_pick_t; exact rfl; exact rfl; exact rfl) | (apply G1_pick_f; exact rfl; exact rfl; exact rfl)) | apply G_nil | apply Post_next | apply W_seq | apply W_region | (apply W_cond_true; exact rfl) | (apply W_cond_false; exact rfl) | (apply W_cond_dec; exact rfl; all_goals (intro h; try (exfalso; omega))) | (apply W_cond; exact rfl; all_goals intro h) | (apply G_off; exact rfl; exact rfl) | ((fail_if_success (apply G_on; exact rfl)); apply G_split_dec; exact rfl; exact rfl; all_goals (intro h; try (exfalso; omega))) | ((fail_if_success (apply G_on; exact rfl)); apply G_split; exact rfl; exact rfl; all_goals intro h) | refine W_drawn 1 [] [0,1,2,3,4,5,6,7] mixed (by decide +kernel) ?_ | apply W_skip | apply W_exit | apply W_ret | apply W_block | apply Post_then_ret | apply Post_block_ret | apply Post_then_exit | apply Post_block_exit | (apply Post_block_other; exact rfl) | apply Post_block_normal)
      apply G_on; exact rfl; apply G1_storeB; exact T.z30; exact rfl; exact rfl; exact hA1; exact rfl; exact rfl; (first | exact Nat.le_of_ble_eq_true rfl | (focus (simp [Value.cells]; done))); (first | exact Enc.one _ _ | (focus (simp [Value.oneCell']; done)) | (focus (simp [Value.cells, Value.oneCell']; done)) | exact Enc.oneAgg _ _); exact rfl; (first | exact .inl rfl | exact .inr (by simp [exempt])); exact rfl; intro w7 hA1 hg7 hs7
      replace hA1 : Blk w7.heap a1 30 (eRaw.enc raw0) := hA1
      replace hx : Ext w w7 := hx.own hg7 (fun k hk => by injection hk; omega)
      repeat' (first | (apply G_on; exact rfl; first | ((first | apply G1_assign | apply G1_move | apply G1_nilCheck); exact rfl; exact rfl) | (apply G1_nilCheckF; exact rfl; exact rfl) | (apply G1_fieldAddr; (first | exact T.f78_2 | exact T.f78_1); exact rfl; exact rfl) | (apply G1_loadB; (first | exact T.p4 | exact T.p3); exact rfl; assumption; exact rfl; exact rfl) | (apply G1_loadBS; (first | exact T.p4 | exact T.p3); exact rfl; assumption; exact rfl; (first | assumption | (focus (simp [exempt]; omega))); exact rfl) | (apply G1_loadFld; (first | exact T.p4 | exact T.p3); exact rfl; assumption; assumption; exact rfl; exact rfl; exact rfl) | (apply G1_loadEl1; (first | exact T.p4 | exact T.p3); exact rfl; assumption; assumption; exact rfl; exact rfl; exact rfl) | (apply G1_loadBAgg; exact T.a30; exact rfl; assumption; exact rfl; exact rfl) | (apply G1_loadEl; exact T.a30; exact rfl; assumption; assumption; exact rfl; exact rfl) | (apply G1_loadElSub; exact T.a30; exact rfl; assumption; assumption; exact rfl; exact rfl; exact rfl; exact rfl) | (apply G1_loadBSub; exact T.a30; exact rfl; assumption; exact rfl; exact rfl; exact rfl) | (apply G1_not_t; exact rfl; exact rfl) | (apply G1_not_f; exact rfl; exact rfl) | (apply G1_not_dec; exact rfl; exact rfl) | (apply G1_not; exact rfl; exact rfl) | (apply G1_pick_t; exact rfl; exact rfl; exact rfl) | (apply G1_pick_f; exact rfl; exact rfl; exact rfl)) | apply G_nil | apply Post_next | apply W_seq | apply W_region | (apply W_cond_true; exact rfl) | (apply W_cond_false; exact rfl) | (apply W_cond_dec; exact rfl; all_goals (intro h; try (exfalso; omega))) | (apply W_cond; exact rfl; all_goals intro h) | (apply G_off; exact rfl; exact rfl) | ((fail_if_success (apply G_on; exact rfl)); apply G_split_dec; exact rfl; exact rfl; all_goals (intro h; try (exfalso; omega))) | ((fail_if_success (apply G_on; exact rfl)); apply G_split; exact rfl; exact rfl; all_goals intro h) | refine W_drawn 1 [] [0,1,2,3,4,5,6,7] mixed (by decide +kernel) ?_ | apply W_skip | apply W_exit | apply W_ret | apply W_block | apply Post_then_ret | apply Post_block_ret | apply Post_then_exit | apply Post_block_exit | (apply Post_block_other; exact rfl) | apply Post_block_normal)
      refine Post_ret Try.results28 ⟨_, _, _, rfl, rfl, run_loadVar_box T.a30 (by assumption) rfl, _, _, rfl, rfl, _, _, rfl, rfl, rfl⟩ ?_
      refine ⟨raw0, val0, 0, false, rfl, rv0, .inr ⟨rfl, rfl, rfl, fun u r hu hf e => ?_⟩, hx⟩
      rw [e, parse_complete hu hf] at hp
      injection hp with hp; injection hp with e1 e2
      exact hbb (hbR.2 (by rw [← e1]; exact hu))
end Go.Proofs.Ytomgghelhalaeaa
