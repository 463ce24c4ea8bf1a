/- list.Push at the front. -/
import Derived.Test.YtkibkldikjkokaaVListIter
import Derived.Test.YtkibkldikjkokaaVListRight
import Derived.RangeFuncNested
namespace Go.V
variable {P : Program} {w : World}
theorem Ctr_ofM {f : FuncId} {fn : Func} {c : Code} {args : List Value} {Φ : Value → World → Prop} {m : Nat} (hf : P.funcs[f]? = some fn) (hm : fn.ntmps = m) (hb : fn.body = some c)
    (hname : (fn.name == "runtime.NumGoroutine") = false) (hn : Nat.ble args.length m = true) (h : W P m c (bodyPostM Fence.wide 3 P fn (Ret Φ)) (argEnv 0 args) w) : Ctr P f args w Φ := by
  unfold Ctr
  refine ⟨⟨fn, hf, by simpa using hname, by simp [hb]⟩, ?_⟩
  unfold W at h
  refine (callsIn_wide (n := 3)).1 (callsIn_of_wp_marks hf hb trivial (wpIn_wide.2 (h _ ⟨rfl, ?_, fun t v ht => ?_⟩)) rfl)
  · have := Nat.le_of_ble_eq_true hn
    simp [hm]; omega
  · obtain ⟨_, h2⟩ := argEnv_get args 0 t v ht
    simp only [Nat.sub_zero] at h2
    have hlt : t < args.length := by
      rcases Nat.lt_or_ge t args.length with h | h
      · exact h
      · rw [List.getElem?_eq_none h] at h2; cases h2
    rw [Array.getElem?_append_left (by simpa using hlt)]
    simpa using h2
theorem W_wide {n : Nat} {c : Code} {Q : Exit → Act → World → Prop} {E : Env} (h : ∀ t : Array Value, t.size = n → (∀ k v, E.get k = some v → t[k]? = some v) → c.wpIn Fence.wide 3 P Q { tmps := t, defers := [] } w) : W P n c Q E w := by
  unfold W
  intro a ha
  have hd := ha.defers
  obtain ⟨t, d⟩ := a
  simp only at hd
  subst hd
  exact wpIn_wide.1 (h t ha.size ha.get)
theorem wpListIn_appW {F : Fence} {m : Nat} {α : Type} {e : Enc α} {B sz by_ : Nat} {xs ys : List α} {p q : Option Addr} {c c2 : Nat} {t u : TypeId} {ops : Array Oper} {rest : List Oper} {o : Oper} {a : Act} {Q : Exit → Act → World → Prop}
    (hg : o.guard = none) (s x : Operand) (hop : o.op = Op.call { callee := Callee.builtin Builtin.append, args := #[s, x], argTypes := #[t, t] })
    (hs : a.eval s = .slice p xs.length c) (hx : a.eval x = .slice q ys.length c2) (hu : SliceT P t u sz by_) (hown : Go.V.Own w B u e p c xs) (hsl : Sl w.heap e q c2 ys) (hsz : e.sz = sz) (hB : B ≤ w.heap.size) (hlen : (xs.length + ys.length) * by_ ≤ 140737488355328) (hmax : xs.length + ys.length ≤ 9223372036854775807)
    (hK : ∀ p' c' w', Go.V.Own w' B u e p' c' (xs ++ ys) → w.grownBy w' (blk p) → wpListIn F m P ops Q rest (a.put o.dst (.slice p' (xs ++ ys).length c')) w') : wpListIn F m P ops Q (o :: rest) a w := by
  refine wpListIn_plain hg fun K hK' => ?_
  obtain ⟨p', c', w', hrun, r1, r2, r3⟩ := run_append hu hsz hB hown hsl hlen hmax o.type
  unfold Oper.wpIn
  refine ⟨?_, ?_⟩
  · simp [Oper.about, hop, resolve, Target.leads, Sem.run_pure]
  · rw [Oper.semAt_plain F _ _ (by rw [hop]; intro c hc'; cases hc')]
    simp only [execOp, hop, resolve, invoke, builtin]
    simp [hs, hx, hrun, Result.andThen]
    exact hK' _ _ (by simpa using hK p' c' w' r1 r2)
end Go.V
namespace Go.Proofs.Ytkibkldikjkokaa
open Go.V
attribute [local irreducible] Blk Own hcell IntT SliceT PlainT AggT SizeT StrT FieldT ZeroT EqT ArrT
open Go.RowKit Go.Shelf
attribute [local go_sem] Oper.semAt_some
theorem strsAt_of {w : World} {q : Option Addr} {d : Nat} {ss : List ByteArray} (hs : Sl w.heap eStr q d ss) : StrsAt w.heap.size w q ss.length (fun j => ss.getD j ⟨#[]⟩) := by
  by_cases h0 : ss.length = 0
  · exact .inl h0
  · have hle := hs.ok.le
    cases q with
    | none => exact absurd (hs.ok.nul rfl) (by omega)
    | some a =>
      have hsp := hs.ok.spot a rfl (by omega)
      obtain ⟨b, off, sp⟩ := a
      simp only at hsp
      subst hsp
      have key : ∀ j, j < ss.length → hcell w.heap ⟨b, off + j, none⟩ = some (.string (ss.getD j ⟨#[]⟩)) := fun j hj => by
        have := hs.cell j (ss[j]) (List.getElem?_eq_getElem hj) 0 (.string ss[j]) rfl
        rw [List.getD_eq_getElem?_getD, List.getElem?_eq_getElem hj]
        simpa [eStr, adr] using this
      refine .inr ⟨b, off, rfl, ?_, fun j hj => by have h3 := key j hj; unfold hcell at h3; simp only [World.cell?]; exact h3⟩
      have := key 0 (by omega)
      unfold hcell at this
      cases hb : w.heap[b]? with
      | none => simp only [hb] at this; cases this
      | some o => exact (Array.getElem?_eq_some_iff.1 hb).1
theorem back_list (ss : List ByteArray) : (uptoB (fun j => (ss.length - 1 - j, ss.getD (ss.length - 1 - j) ⟨#[]⟩)) ss.length).map (fun x => Value.string x.2) = ss.reverse.flatMap eStr.enc := by
  have e : ss.reverse.flatMap eStr.enc = ss.reverse.map Value.string := by
    generalize ss.reverse = l
    induction l with
    | nil => rfl
    | cons a l ih => rw [List.flatMap_cons, ih]; rfl
  rw [e]
  apply List.ext_getElem
  · simp [uptoB]
  · intro i h1 h2
    have hi : i < ss.length := by simpa using h2
    have hj : ss.length - 1 - i < ss.length := by omega
    simp [uptoB, hj]
theorem infoStr : ((Try.prog).info? 9).map (fun i => (i.zero, i.size, i.bytes)) = some (some (.string ⟨#[]⟩), 1, 16) := by kernel_rfl
theorem back_ctr {a : Option Addr} {len cap : Nat} {w : World} : Ctr Try.prog 71 [.slice a len cap] w (fun v w' => v = .func (.func 91) #[] #[.pointer (some ⟨w.heap.size, 0, none⟩)] ∧ w' = w.alloc (.cells #[.slice a len cap] 37)) := by
  unfold Ctr
  refine ⟨⟨Try.f71, Try.func71, by decide, rfl⟩, ?_⟩
  exact ((callsIn_wide (n := 3)).1 (back_in Fence.wide 3 trivial rfl a len cap w)).mono fun e w' ⟨h1, h2⟩ => ⟨_, h1, rfl, h2⟩
set_option maxRecDepth 100000 in
set_option maxHeartbeats 2000000 in
theorem push_front {p q : Option Addr} {c d : Nat} {l ss : List ByteArray} {w : World} (hl : Sl w.heap eStr p c l) (hs : Sl w.heap eStr q d ss) (hsm : ∀ x ∈ ss, x.size ≤ 4096) (hlen : l.length + ss.length ≤ 512) :
    Ctr Try.prog 38 [.slice p l.length c, .bool true, .slice q ss.length d] w (fun v w' => ∃ p' c', v = .tuple #[.slice p' (ss.reverse ++ l).length c', .int .i64 0] ∧ Go.V.Own w' w.heap.size 9 eStr p' c' (ss.reverse ++ l) ∧ Ext w w') := by
  have hany : (ss.any fun x => decide (4096 < x.size)) = false := by
    rw [List.any_eq_false]; intro x hx; have := hsm x hx; simp; omega
  refine Ctr_ofM Try.func38 Try.ntmps38 rfl rfl rfl ?_
  repeat' (first | (apply G_on; exact rfl; first | ((first | apply G1_assign | apply G1_move); exact rfl; exact rfl) | (apply G1_call (f := 69); exact rfl; exact rfl; exact rfl; exact any_strs (pr := fun x => decide (4096 < x.size)) hs (fun x _ w1 _ => list_long); rintro _ w1 ⟨rfl, hx1⟩; refine ⟨(by first | exact .inl rfl | exact .inr (by assumption)), ?_⟩) | (apply G1_len; exact T.s37; exact rfl; exact rfl) | (apply G1_add; exact rfl; exact rfl; omega; omega; exact rfl) | (apply G1_gtr; exact rfl; exact rfl; exact rfl) | (apply G1_not_t; exact rfl; exact rfl) | (apply G1_not_f; exact rfl; exact rfl) | (apply G1_not_dec; exact rfl; exact rfl) | (apply G1_not; exact rfl; exact rfl) | (apply G1_loadB; exact T.p37; exact rfl; assumption; exact rfl; exact rfl) | (apply G1_loadBS; exact T.p37; exact rfl; assumption; exact rfl; (first | assumption | (focus (simp [exempt]; omega))); exact rfl) | (apply G1_loadFld; exact T.p37; exact rfl; assumption; assumption; exact rfl; exact rfl; exact rfl) | (apply G1_loadEl1; exact T.p37; exact rfl; assumption; assumption; exact rfl; exact rfl; exact rfl)) | apply G_nil | apply Post_next | apply W_seq | apply W_region | (apply W_cond_true; exact rfl) | (apply W_cond_false; exact rfl) | (apply W_cond_dec; exact rfl; all_goals (intro h; try (exfalso; omega))) | (apply W_cond; exact rfl; all_goals intro h) | (apply G_off; exact rfl; exact rfl) | ((fail_if_success (apply G_on; exact rfl)); apply G_split_dec; exact rfl; exact rfl; all_goals (intro h; try (exfalso; omega))) | ((fail_if_success (apply G_on; exact rfl)); apply G_split; exact rfl; exact rfl; all_goals intro h) | apply W_skip | apply W_exit | apply W_ret | apply W_block | apply Post_then_ret | apply Post_block_ret | apply Post_then_exit | apply Post_block_exit | (apply Post_block_other; exact rfl) | apply Post_block_normal)
  all_goals try (exfalso; rw [hany] at h; exact absurd h (by decide))
  apply G_on; exact rfl
  apply G1_make0 eStr; exact T.s37; exact rfl; exact rfl; exact rfl; omega; omega; omega; exact rfl; exact rfl
  intro p2 w2 ho2 hx2 hz2
  obtain ⟨N, hN⟩ : ∃ N, ((l.length : Int) + (ss.length : Int)).toNat = N := ⟨_, rfl⟩
  rw [hN] at ho2 ⊢
  repeat' (first | (apply G_on; exact rfl; first | ((first | apply G1_assign | apply G1_move); exact rfl; exact rfl) | (apply G1_len; exact T.s37; exact rfl; exact rfl) | (apply G1_add; exact rfl; exact rfl; omega; omega; exact rfl) | (apply G1_gtr; exact rfl; exact rfl; exact rfl) | (apply G1_not_t; exact rfl; exact rfl) | (apply G1_not_f; exact rfl; exact rfl) | (apply G1_not_dec; exact rfl; exact rfl) | (apply G1_not; exact rfl; exact rfl) | (apply G1_loadB; exact T.p37; exact rfl; assumption; exact rfl; exact rfl) | (apply G1_loadBS; exact T.p37; exact rfl; assumption; exact rfl; (first | assumption | (focus (simp [exempt]; omega))); exact rfl) | (apply G1_loadFld; exact T.p37; exact rfl; assumption; assumption; exact rfl; exact rfl; exact rfl) | (apply G1_loadEl1; exact T.p37; exact rfl; assumption; assumption; exact rfl; exact rfl; exact rfl)) | apply G_nil | apply Post_next | apply W_seq | apply W_region | (apply W_cond_true; exact rfl) | (apply W_cond_false; exact rfl) | (apply W_cond_dec; exact rfl; all_goals (intro h; try (exfalso; omega))) | (apply W_cond; exact rfl; all_goals intro h) | (apply G_off; exact rfl; exact rfl) | ((fail_if_success (apply G_on; exact rfl)); apply G_split_dec; exact rfl; exact rfl; all_goals (intro h; try (exfalso; omega))) | ((fail_if_success (apply G_on; exact rfl)); apply G_split; exact rfl; exact rfl; all_goals intro h) | apply W_skip | apply W_exit | apply W_ret | apply W_block | apply Post_then_ret | apply Post_block_ret | apply Post_then_exit | apply Post_block_exit | (apply Post_block_other; exact rfl) | apply Post_block_normal)
  apply G_on; exact rfl; apply G1_alloc; exact T.zero37; exact rfl; exact rfl; intro a3 w3 ha3 hA3 hx3 hs3
  replace ho2 := ho2.ext hx3
  repeat' (first | (apply G_on; exact rfl; first | ((first | apply G1_assign | apply G1_move); exact rfl; exact rfl) | (apply G1_len; exact T.s37; exact rfl; exact rfl) | (apply G1_add; exact rfl; exact rfl; omega; omega; exact rfl) | (apply G1_gtr; exact rfl; exact rfl; exact rfl) | (apply G1_not_t; exact rfl; exact rfl) | (apply G1_not_f; exact rfl; exact rfl) | (apply G1_not_dec; exact rfl; exact rfl) | (apply G1_not; exact rfl; exact rfl) | (apply G1_loadB; exact T.p37; exact rfl; assumption; exact rfl; exact rfl) | (apply G1_loadBS; exact T.p37; exact rfl; assumption; exact rfl; (first | assumption | (focus (simp [exempt]; omega))); exact rfl) | (apply G1_loadFld; exact T.p37; exact rfl; assumption; assumption; exact rfl; exact rfl; exact rfl) | (apply G1_loadEl1; exact T.p37; exact rfl; assumption; assumption; exact rfl; exact rfl; exact rfl)) | apply G_nil | apply Post_next | apply W_seq | apply W_region | (apply W_cond_true; exact rfl) | (apply W_cond_false; exact rfl) | (apply W_cond_dec; exact rfl; all_goals (intro h; try (exfalso; omega))) | (apply W_cond; exact rfl; all_goals intro h) | (apply G_off; exact rfl; exact rfl) | ((fail_if_success (apply G_on; exact rfl)); apply G_split_dec; exact rfl; exact rfl; all_goals (intro h; try (exfalso; omega))) | ((fail_if_success (apply G_on; exact rfl)); apply G_split; exact rfl; exact rfl; all_goals intro h) | apply W_skip | apply W_exit | apply W_ret | apply W_block | apply Post_then_ret | apply Post_block_ret | apply Post_then_exit | apply Post_block_exit | (apply Post_block_other; exact rfl) | apply Post_block_normal)
  apply G_on; exact rfl; apply G1_storeB; exact T.z37; exact rfl; exact rfl; exact hA3; exact rfl; exact rfl; (first | exact Nat.le_of_ble_eq_true rfl | (focus (simp [Value.cells]; done))); (first | exact Enc.one _ _ | (focus (simp [Value.oneCell']; done)) | (focus (simp [Value.cells, Value.oneCell']; done)) | exact Enc.oneAgg _ _); exact rfl; (first | exact .inl rfl | exact .inr (by simp [exempt])); exact rfl; intro w4 hA4 hg4 hs4
  replace ho2 : Go.V.Own w4 w1.heap.size 9 eStr p2 N [] := ho2.kept hg4 (fun a ha e => (ho2.neB hA3 (by decide)) (by rw [ha]; exact e.symm))
  have hx4 : Ext w w4 := ((hx1.trans hx2).trans hx3).own hg4 (fun k hk => by injection hk with hk; have := (hx1.trans hx2).size; omega)
  repeat' (first | (apply G_on; exact rfl; first | ((first | apply G1_assign | apply G1_move); exact rfl; exact rfl) | (apply G1_len; exact T.s37; exact rfl; exact rfl) | (apply G1_add; exact rfl; exact rfl; omega; omega; exact rfl) | (apply G1_gtr; exact rfl; exact rfl; exact rfl) | (apply G1_not_t; exact rfl; exact rfl) | (apply G1_not_f; exact rfl; exact rfl) | (apply G1_not_dec; exact rfl; exact rfl) | (apply G1_not; exact rfl; exact rfl) | (apply G1_loadB; exact T.p37; exact rfl; assumption; exact rfl; exact rfl) | (apply G1_loadBS; exact T.p37; exact rfl; assumption; exact rfl; (first | assumption | (focus (simp [exempt]; omega))); exact rfl) | (apply G1_loadFld; exact T.p37; exact rfl; assumption; assumption; exact rfl; exact rfl; exact rfl) | (apply G1_loadEl1; exact T.p37; exact rfl; assumption; assumption; exact rfl; exact rfl; exact rfl)) | apply G_nil | apply Post_next | apply W_seq | apply W_region | (apply W_cond_true; exact rfl) | (apply W_cond_false; exact rfl) | (apply W_cond_dec; exact rfl; all_goals (intro h; try (exfalso; omega))) | (apply W_cond; exact rfl; all_goals intro h) | (apply G_off; exact rfl; exact rfl) | ((fail_if_success (apply G_on; exact rfl)); apply G_split_dec; exact rfl; exact rfl; all_goals (intro h; try (exfalso; omega))) | ((fail_if_success (apply G_on; exact rfl)); apply G_split; exact rfl; exact rfl; all_goals intro h) | apply W_skip | apply W_exit | apply W_ret | apply W_block | apply Post_then_ret | apply Post_block_ret | apply Post_then_exit | apply Post_block_exit | (apply Post_block_other; exact rfl) | apply Post_block_normal)
  apply G_on; exact rfl; apply G1_call; exact rfl; exact rfl; exact rfl; exact back_ctr; rintro _ w5 ⟨rfl, rfl⟩; refine ⟨(by first | exact .inl rfl | exact .inr (by assumption)), ?_⟩
  repeat' (first | (apply G_on; exact rfl; first | ((first | apply G1_assign | apply G1_move); exact rfl; exact rfl) | (apply G1_len; exact T.s37; exact rfl; exact rfl) | (apply G1_add; exact rfl; exact rfl; omega; omega; exact rfl) | (apply G1_gtr; exact rfl; exact rfl; exact rfl) | (apply G1_not_t; exact rfl; exact rfl) | (apply G1_not_f; exact rfl; exact rfl) | (apply G1_not_dec; exact rfl; exact rfl) | (apply G1_not; exact rfl; exact rfl) | (apply G1_loadB; exact T.p37; exact rfl; assumption; exact rfl; exact rfl) | (apply G1_loadBS; exact T.p37; exact rfl; assumption; exact rfl; (first | assumption | (focus (simp [exempt]; omega))); exact rfl) | (apply G1_loadFld; exact T.p37; exact rfl; assumption; assumption; exact rfl; exact rfl; exact rfl) | (apply G1_loadEl1; exact T.p37; exact rfl; assumption; assumption; exact rfl; exact rfl; exact rfl)) | apply G_nil | apply Post_next | apply W_seq | apply W_region | (apply W_cond_true; exact rfl) | (apply W_cond_false; exact rfl) | (apply W_cond_dec; exact rfl; all_goals (intro h; try (exfalso; omega))) | (apply W_cond; exact rfl; all_goals intro h) | (apply G_off; exact rfl; exact rfl) | ((fail_if_success (apply G_on; exact rfl)); apply G_split_dec; exact rfl; exact rfl; all_goals (intro h; try (exfalso; omega))) | ((fail_if_success (apply G_on; exact rfl)); apply G_split; exact rfl; exact rfl; all_goals intro h) | apply W_skip | apply W_exit | apply W_ret | apply W_block | apply Post_then_ret | apply Post_block_ret | apply Post_then_exit | apply Post_block_exit | (apply Post_block_other; exact rfl) | apply Post_block_normal)
  refine W_wide (fun t ht hget => ?_)
  have g0 := hget 0 _ rfl
  have g8 : t[8]? = some (.pointer (some ⟨a3, 0, none⟩)) := hget 8 _ rfl
  have g34 := hget 34 _ rfl
  clear hget
  obtain ⟨tl⟩ := t
  rcases tl with _ | ⟨t0, _ | ⟨t1, _ | ⟨t2, _ | ⟨t3, _ | ⟨t4, _ | ⟨t5, _ | ⟨t6, _ | ⟨t7, _ | ⟨t8, _ | ⟨t9, _ | ⟨t10, _ | ⟨t11, _ | ⟨t12, _ | ⟨t13, _ | ⟨t14, _ | ⟨t15, _ | ⟨t16, _ | ⟨t17, _ | ⟨t18, _ | ⟨t19, _ | ⟨t20, _ | ⟨t21, _ | ⟨t22, _ | ⟨t23, _ | ⟨t24, _ | ⟨t25, _ | ⟨t26, _ | ⟨t27, _ | ⟨t28, _ | ⟨t29, _ | ⟨t30, _ | ⟨t31, _ | ⟨t32, _ | ⟨t33, _ | ⟨t34, _ | ⟨t35, _ | ⟨t36, _ | ⟨t37, _ | ⟨t38, _ | ⟨t39, _ | ⟨t40, _ | ⟨t41, _ | ⟨t42, _ | ⟨t43, _ | ⟨_, _⟩⟩⟩⟩⟩⟩⟩⟩⟩⟩⟩⟩⟩⟩⟩⟩⟩⟩⟩⟩⟩⟩⟩⟩⟩⟩⟩⟩⟩⟩⟩⟩⟩⟩⟩⟩⟩⟩⟩⟩⟩⟩⟩⟩⟩
  all_goals try (exfalso; simp at ht; done)
  simp at g0 g8 g34
  subst g0 g8 g34
  clear ht
  obtain ⟨i0, hi, hz0, hz1, hz2'⟩ := info_parts infoStr
  have hbase := ho2.base (B' := w.heap.size) hx1.size
  have bO : Boxed w4 a3 37 (.slice p2 0 N) := by unfold Blk at hA4; exact hA4
  have bN := Boxed.new w4 37 (.slice q ss.length d)
  have hsz1 := hx1.size
  have hsz4 := hx4.size
  obtain ⟨w5, hw5⟩ : ∃ w5, w4.alloc (.cells #[.slice q ss.length d] 37) = w5 := ⟨_, rfl⟩
  have hz5 : w5.heap.size = w4.heap.size + 1 := by rw [← hw5]; simp
  have hx5 : Ext w w5 := by rw [← hw5]; exact hx4.trans (Ext.alloc Ext.rfl' _)
  have bO5 : Boxed w5 a3 37 (.slice p2 0 N) := by rw [← hw5]; exact bO.alloc _
  have hrow5 : w5.ownsRow w.heap.size 9 1 (.slice p2 0 N) 0 [] := by rw [← hw5]; exact (show w4.ownsRow w.heap.size 9 1 (.slice p2 0 N) 0 [] from hbase).alloc _
  rw [hw5] at bN ⊢
  obtain ⟨bs, hbs⟩ : ∃ b, w4.heap.size = b := ⟨_, rfl⟩
  rw [hbs] at bN hz5 hs4 ⊢
  have f1 : w.heap.size ≤ a3 := by omega
  have f2 : a3 < bs := by omega
  have f3 : bs < w5.heap.size := by omega
  have hlen2 : ss.length ≤ 512 := by omega
  clear hw5 hbs hz5 hs4 hs3 ha3 hz2 hA3 hA4 hg4 ho2 hbase bO hx4 hx3 hx2 hx1 hany hN hsz1 hsz4
  refine wpIn_rangeFunc_ownG rfl (by decide) (gf := 91) (lb := #[.pointer (some ⟨bs, 0, none⟩)]) rfl trivial (enters_of Try.func91 (by kernel_rfl) rfl)
    (back_stops Fence.wide (3 - 1) trivial rfl (by decide) bs w.heap.size q ss.length d (fun j => ss.getD j ⟨#[]⟩) (by omega) w5 (by omega) (by omega) bN.cell ((strsAt_of hs).below hx5)) KB.trans ?hKb (Below.refl _ _) (fun _ => rfl)
    (fun (pre : List (Nat × ByteArray)) (W : World) => (∃ v, Boxed W a3 37 v ∧ W.ownsRow w.heap.size 9 1 v pre.length (pre.map fun x => Value.string x.2) ∧ True) ∧ Below w.heap.size w W ∧ Boxed W bs 37 (.slice q ss.length d))
    (fun _ _ _ => False)
    (OwnFrom.and (Own.from (holdsRow_own w.heap.size a3 37 9 1 (fun (pre : List (Nat × ByteArray)) => pre.length) (fun (pre : List (Nat × ByteArray)) => pre.map fun x => Value.string x.2) (fun pre v => True)) _) (OwnFrom.and (ownFrom_below (Nat.le_refl _) (by omega)) (Own.from (boxed_own _ _ _) _)))
    (fun _ _ _ _ _ hs _ _ => hs)
    ⟨⟨_, bO5, hrow5, trivial⟩, hx5, bN⟩
    (fun x => { tmps := #[.slice p l.length c, t1, t2, t3, t4, t5, t6, t7, .pointer (some ⟨a3, 0, none⟩), t9, .string x.2, t11, t12, t13, t14, t15, t16, t17, t18, t19, t20, t21, t22, t23, t24, t25, t26, t27, t28, t29, t30, t31, t32, t33, .func (.func 91) #[] #[.pointer (some ⟨bs, 0, none⟩)], .int .i64 (x.1 : Int), .string x.2, t37, t38, t39, t40, t41, t42, t43], defers := [] }) ?assign ?body ?done ?stop
  case hKb =>
    intro W l o o' hl ho h1 h2
    exact ⟨belowK_b (w := w5) (by omega) W l o o' hl ho h1 h2, World.putObj_heap_other (by omega)⟩
  case assign =>
    intro l x W K hK
    gi_wp2
    exact hK
  case body =>
    rintro l pre x W ⟨⟨v, hv, hrow, _⟩, hB, hBs⟩ hlt
    have hc := hv.cell
    have hBsz := hB.size
    gi_wp2_with (gi_at_builtin; refine wpListIn_append_own _ rfl _ _ 37 rfl w.heap.size 9 i0 (.string ⟨#[]⟩) 1 16 Try.underlying37 hi hz0 hz1 hz2' rfl (by decide) _ _ _ rfl (hrow.alloc _) ⟨W.heap.size, 0, none⟩ 1 1 [.string x.2] rfl rfl (cell_one_new _ _ _) (by simp [Value.oneCell']) (by simp [maxLen]; omega) (by omega) (by simp; omega) ?_; intro v' w1' hown' hgrow _; obtain ⟨g', cap', rfl⟩ := ownsRow_succ hown'; obtain ⟨hv1, hv2, hr2, hk2, hb2⟩ := hv.appended (by decide) hrow hB.size (by omega) hown' hgrow; have hc1 := hv1.cell; have hf1 := hv1.frozen)
    have hBs1 : Boxed w1' bs 37 (.slice q ss.length d) := (hBs.alloc _).kept hgrow (hBs.not_row (by decide) hrow)
    have hBs2 := hBs1.kept (grownBy_setCell' w1' a3 (Value.slice (some ⟨g', 0, none⟩) (pre.length + 1) cap')) (by simp; omega)
    refine ⟨hk2.from _, ⟨hb2, (show _ = _ from hBs2).trans (show _ = _ from hBs).symm⟩, ?_, hB.trans hb2, hBs2⟩
    exact ⟨_, hv2, by simpa using hr2⟩
  case done =>
    rintro D ys W hD rfl ⟨⟨v, hv, hrow, _⟩, hB, hBs⟩ hK
    rw [back_list, uptoB_length] at hrow
    obtain ⟨pv, cv, rfl⟩ : ∃ pv cv, v = .slice pv ss.length cv := by
      rcases hrow.2 with ⟨rfl, h0⟩ | ⟨g, cap, cur, rfl, _⟩
      · exact ⟨none, 0, by rw [h0]⟩
      · exact ⟨_, _, rfl⟩
    have hown : Go.V.Own W w.heap.size 9 eStr pv cv ss.reverse := by
      unfold Go.V.Own; rw [List.length_reverse]; exact hrow
    have hlW := hl.ext hB
    have hc := hv.cell
    have hBsz := hB.size
    have hrl : ss.reverse.length = ss.length := List.length_reverse
    refine (wpIn_wide (n := 3)).1 ?_
    gi_wp2_with (gi_at_builtin; refine wpListIn_appW (xs := ss.reverse) (ys := l) (p := pv) (c := cv) (q := p) (c2 := c) rfl _ _ rfl (by rw [hrl]; rfl) rfl T.s37 hown hlW rfl hBsz (by rw [hrl]; omega) (by rw [hrl]; omega) ?_; intro p6 c6 w6 ho6 hg6)
    have hDlt : D < W.heap.size := (Array.getElem?_eq_some_iff.1 hK).1
    have hK6 : w6.heap[D]? = some (.deferred (some [])) := (hg6.block D hDlt (fun e => by
      obtain ⟨cur, hcur⟩ := hown.at (k := D) e.symm
      rw [hK] at hcur; cases hcur)).trans hK
    have hx6 : Ext w w6 := Ext.own (show Ext w W from hB) hg6 (fun k hk => (hown.ge k hk).1)
    refine ⟨by simp, .inl ⟨_, _, rfl, run_takeDeferred hK6, ?_⟩⟩
    have ho7 : Go.V.Own (w6.putObj D (.deferred none)) w.heap.size 9 eStr p6 c6 (ss.reverse ++ l) := ownsRow_putObj ho6 _ hK6 rfl
    have hx7 : Ext w (w6.putObj D (.deferred none)) := Below.trans hx6 (belowK_b (w := w5) hx5.size w6 D _ _ hD hK6 rfl rfl)
    exact ⟨_, results_tmp2 rfl _ _ _, _, rfl, p6, c6, rfl, ho7, hx7⟩
  case stop =>
    rintro D c pre W _ _ h _
    exact h.elim
end Go.Proofs.Ytkibkldikjkokaa
