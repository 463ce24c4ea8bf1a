/- The document's index. -/
import Derived.Test.YtbphlenpclnobaaVIndexLaw
namespace Go.V
def eChn : Enc Ent := ⟨1, fun e => [.slice e.p e.vs.length e.c], fun _ => rfl, fun _ v hv => by simp at hv; rw [hv]; rfl, by decide⟩
section
variable {P : Program} {n : Nat} {ops : Array Oper} {dr : Nat × List Nat} {l : List Oper} {E : Env} {w : World} {K : Env → World → Prop}
variable {d : Option Nat} {ty : TypeId} {pos : String} {af : Array Edge} {g : Option (Nat × Bool)} {x y : Operand} {t u sz by_ : Nat} {p : Option Addr} {c : Nat}
theorem G1_appendB {α : Type} {e : Enc α} {B xl yl : Nat} {xs ys : List α} {q : Option Addr} {c2 : Nat} (hu : SliceT P t u sz by_) (hx : E.look x = some (.slice p xl c)) (hy : E.look y = some (.slice q yl c2)) (hxl : xl = xs.length) (hyl : yl = ys.length) (hown : Own w B u e p c xs) (hsl : Sl w.heap e q c2 ys)
    (hsz : e.sz = sz) (hB : B ≤ w.heap.size) (hlen : (xs.length + ys.length) * by_ ≤ 140737488355328) (hmax : xs.length + ys.length ≤ 9223372036854775807)
    (he : effects P dr.1 ⟨d, .call ⟨.builtin .append, #[x, y], #[t, t]⟩, ty, pos, af, g⟩ = true) (hw : writes dr.1 ⟨d, .call ⟨.builtin .append, #[x, y], #[t, t]⟩, ty, pos, af, g⟩ = true) (hd : dstOk n d = true)
    (h : ∀ p' c' w', App w w' B u e p p' c' (xs ++ ys) → G P n ops dr l (E.put d (.slice p' (xs ++ ys).length c')) w' K) : G1 P n ops dr ⟨d, .call ⟨.builtin .append, #[x, y], #[t, t]⟩, ty, pos, af, g⟩ l E w K := by
  subst hxl hyl; exact G1_appendA hu hx hy hown hsl hsz hB hlen hmax he hw hd h
end
/-- A: those that are less; B: the others -/
structure AtR (es A B : List Ent) (key : ByteArray) : Prop where
  eq : es = A ++ B
  less : ∀ x ∈ A, blt x.key key = true
  head : ∀ y, B.head? = some y → blt y.key key = false
def atOk (B : List Ent) (key : ByteArray) : Bool := match B with | [] => false | e :: _ => decide (e.key = key)
theorem atR_set {es A B : List Ent} {key : ByteArray} {vs : List Ver} (h : AtR es A B key) (hs : SortedK (es.map kv)) : setL (es.map kv) key vs = A.map kv ++ (if vs = [] then [] else [(key, vs)]) ++ (B.drop (if atOk B key = true then 1 else 0)).map kv := by
  obtain ⟨rfl, h1, h2⟩ := h
  have hA : ∀ x ∈ A.map kv, blt x.1 key = true := fun x hx => by obtain ⟨e, he, rfl⟩ := List.mem_map.1 hx; exact h1 e he
  rw [List.map_append] at hs ⊢
  cases B with
  | nil => rw [List.map_nil, setL_new hA (fun y hy => by cases hy)]; simp
  | cons e B =>
    have h3 := h2 e rfl
    have hr := hs.right
    by_cases hk : e.key = key
    · have hg : ∀ y ∈ B.map kv, blt key y.1 = true := fun y hy => by rw [← hk]; exact (List.pairwise_cons.1 hr).1 y hy
      have : (e :: B).map kv = (key, e.vs) :: B.map kv := by rw [List.map_cons, ← hk]; rfl
      rw [this, setL_old hA hg]
      simp [atOk, hk]
    · have hg := greater_all (key := key) hr (fun y hy => by
        simp at hy; subst hy
        rcases blt_total key e.key with h | h | h
        · exact h
        · exact absurd h.symm hk
        · rw [h] at h3; cases h3)
      rw [setL_new hA hg]
      simp [atOk, hk]
end Go.V
namespace Go.Proofs.Ytbphlenpclnobaa
open Go.V
attribute [local irreducible] Blk Own hcell IntT SliceT PlainT AggT SizeT StrT FieldT ZeroT EqT ArrT
theorem less_spec {s t : ByteArray} {w : World} (hs : s.size ≤ 9223372036854775807) (ht : t.size ≤ 9223372036854775807) :
    Ctr Try.prog 48 [.string s, .string t] w (fun v w' => v = .bool (blt s t) ∧ Ext w w') := by
  refine Ctr_of Try.func48 Try.ntmps48 rfl rfl rfl ?_
  repeat' (first | (apply G_on; exact rfl; first | ((first | apply G1_assign | apply G1_move); exact rfl; exact rfl) | (apply G1_slen; exact T.str9; exact rfl; exact rfl) | ((first | apply G1_lss | apply G1_neq); exact rfl; exact rfl; exact rfl) | (apply G1_pick_t; exact rfl; exact rfl; exact rfl) | (apply G1_pick_f; exact rfl; exact rfl; exact rfl) | (apply G1_sindex; exact T.str9; exact rfl; exact rfl; omega; omega; exact rfl) | (apply G1_add; exact rfl; exact rfl; omega; omega; exact rfl)) | apply G_nil | apply Post_next | apply W_seq | apply W_region | (apply W_cond_true; exact rfl) | (apply W_cond_false; exact rfl) | (apply W_cond_dec; exact rfl; all_goals (intro h; try (exfalso; omega))) | (apply W_cond; exact rfl; all_goals intro h) | (apply G_off; exact rfl; exact rfl) | ((fail_if_success (apply G_on; exact rfl)); apply G_split_dec; exact rfl; exact rfl; all_goals (intro h; try (exfalso; omega))) | ((fail_if_success (apply G_on; exact rfl)); apply G_split; exact rfl; exact rfl; all_goals intro h) | refine W_drawn 1 [] [0,1,2,3,4,5,6] mixed (by decide +kernel) ?_ | refine W_drawn 1 [] [0,1,2,3,4,5,6,7] mixed (by decide +kernel) ?_ | apply W_skip | apply W_exit | apply W_ret | apply W_block | apply Post_then_ret | apply Post_block_ret | apply Post_then_exit | apply Post_block_exit | (apply Post_block_other; exact rfl) | apply Post_block_normal)
  refine W_loop (ι := Nat) (fun k => [(0, .string s), (1, .string t), (5, .int .i64 k)]) (fun k w' => Ext w w' ∧ k ≤ s.size ∧ k ≤ t.size ∧ ∀ j, j < k → bget s j = bget t j) (fun k => s.size - k) 0 ⟨rfl, rfl, rfl, trivial⟩ ⟨Ext.rfl', by omega, by omega, fun j hj => by omega⟩ ?_
  intro k w1 ⟨hx, hk1, hk2, he⟩
  repeat' (first | (apply G_on; exact rfl; first | ((first | apply G1_assign | apply G1_move); exact rfl; exact rfl) | (apply G1_slen; exact T.str9; exact rfl; exact rfl) | ((first | apply G1_lss | apply G1_neq); exact rfl; exact rfl; exact rfl) | (apply G1_pick_t; exact rfl; exact rfl; exact rfl) | (apply G1_pick_f; exact rfl; exact rfl; exact rfl) | (apply G1_sindex; exact T.str9; exact rfl; exact rfl; omega; omega; exact rfl) | (apply G1_add; exact rfl; exact rfl; omega; omega; exact rfl)) | apply G_nil | apply Post_next | apply W_seq | apply W_region | (apply W_cond_true; exact rfl) | (apply W_cond_false; exact rfl) | (apply W_cond_dec; exact rfl; all_goals (intro h; try (exfalso; omega))) | (apply W_cond; exact rfl; all_goals intro h) | (apply G_off; exact rfl; exact rfl) | ((fail_if_success (apply G_on; exact rfl)); apply G_split_dec; exact rfl; exact rfl; all_goals (intro h; try (exfalso; omega))) | ((fail_if_success (apply G_on; exact rfl)); apply G_split; exact rfl; exact rfl; all_goals intro h) | refine W_drawn 1 [] [0,1,2,3,4,5,6] mixed (by decide +kernel) ?_ | refine W_drawn 1 [] [0,1,2,3,4,5,6,7] mixed (by decide +kernel) ?_ | apply W_skip | apply W_exit | apply W_ret | apply W_block | apply Post_then_ret | apply Post_block_ret | apply Post_then_exit | apply Post_block_exit | (apply Post_block_other; exact rfl) | apply Post_block_normal)
  · refine Post_ret Try.results48 ⟨_, _, rfl, rfl, rfl⟩ ?_
    exact ⟨by rw [blt_at he (by omega) (by omega) h]; rfl, (by repeat first | assumption | exact Ext.rfl' | apply Ext.drew | apply Ext.alloc | refine Ext.trans ?_ (by assumption))⟩
  · refine Post_round (k + 1) ⟨rfl, rfl, rfl, trivial⟩ ⟨(by repeat first | assumption | exact Ext.rfl' | apply Ext.drew | apply Ext.alloc | refine Ext.trans ?_ (by assumption)), by omega, by omega, fun j hj => ?_⟩ (by omega)
    by_cases e : j = k
    · subst e; apply UInt8.toNat_inj.1; simp at h; omega
    · exact he j (by omega)
  · refine Post_ret Try.results48 ⟨_, _, rfl, rfl, rfl⟩ ?_
    exact ⟨by rw [blt_end he hk1 hk2 (by omega)]; rfl, (by repeat first | assumption | exact Ext.rfl' | apply Ext.drew | apply Ext.alloc | refine Ext.trans ?_ (by assumption))⟩
  · refine Post_ret Try.results48 ⟨_, _, rfl, rfl, rfl⟩ ?_
    exact ⟨by rw [blt_end he hk1 hk2 (by omega)]; rfl, (by repeat first | assumption | exact Ext.rfl' | apply Ext.drew | apply Ext.alloc | refine Ext.trans ?_ (by assumption))⟩
/-- the document's index in blocks of F -/
structure RxAt (w : World) (rx : Nat) (F : Nat → Prop) (pk : Option Addr) (ck : Nat) (pc : Option Addr) (cc : Nat) (es : List Ent) : Prop where
  box : Blk w.heap rx 38 [.slice pk es.length ck, .slice pc es.length cc]
  keys : Go.V.Own w 0 9 eStr pk ck (es.map Ent.key)
  chs : Go.V.Own w 0 30 eChn pc cc es
  ent : ∀ e ∈ es, ∃ rs, ChainF w F e.p e.c rs e.vs
  fx : F rx
  fk : ∀ k, blk pk = some k → F k
  fc : ∀ k, blk pc = some k → F k
  typ : ∀ k, F k → NoB w k
theorem RxAt.chg {w w' : World} {rx : Nat} {F G : Nat → Prop} {pk pc : Option Addr} {ck cc : Nat} {es : List Ent} (h : RxAt w rx F pk ck pc cc es) (hc : Chg G w w') (hn : ∀ k, F k → ¬ G k) : RxAt w' rx F pk ck pc cc es :=
  ⟨Blk.chg h.box hc (hn _ h.fx), Own.chg h.keys hc (fun k hk => hn k (h.fk k hk)), Own.chg h.chs hc (fun k hk => hn k (h.fc k hk)),
    fun e he => by obtain ⟨rs, hr⟩ := h.ent e he; exact ⟨rs, hr.chg hc hn⟩, h.fx, h.fk, h.fc, fun k hk => (h.typ k hk).same (hc.block k (h.typ k hk).lt (hn k hk))⟩
theorem RxAt.ext {w w' : World} {rx : Nat} {F : Nat → Prop} {pk pc : Option Addr} {ck cc : Nat} {es : List Ent} (h : RxAt w rx F pk ck pc cc es) (hx : Ext w w') : RxAt w' rx F pk ck pc cc es := h.chg (G := fun _ => False) (Chg.ext hx) (fun _ _ h => h)
theorem RxAt.chgT {w w' : World} {ix rx : Nat} {F : Nat → Prop} {pk pc : Option Addr} {ck cc : Nat} {es : List Ent} (h : RxAt w rx F pk ck pc cc es) (hc : ChgT ix w w') : RxAt w' rx F pk ck pc cc es := h.chg hc (fun k hk hG => (h.typ k hk).not hG.2)
theorem rx_at {w : World} {rx : Nat} {F : Nat → Prop} {pk pc : Option Addr} {ck cc : Nat} {es : List Ent} {key : ByteArray} (hR : RxAt w rx F pk ck pc cc es) (hn : es.length ≤ 1000) (hk : key.size ≤ 300) (hks : ∀ e ∈ es, e.key.size ≤ 300) :
    Ctr Try.prog 32 [.pointer (some (adr (bx rx) 0)), .string key] w (fun v w' => ∃ A B, v = .tuple #[.int .i64 (A.length : Int), .bool (atOk B key)] ∧ AtR es A B key ∧ Ext w w') := by
  have hml : (es.map Ent.key).length = es.length := List.length_map _
  refine Ctr_of Try.func32 Try.ntmps32 rfl rfl rfl ?_
  repeat' (first | (apply G_on; exact rfl; first | ((first | apply G1_assign | apply G1_move | apply G1_nilCheck); exact rfl; exact rfl) | (apply G1_nilCheckF; exact rfl; exact rfl) | (apply G1_fieldAddr; exact T.f38_0; exact rfl; exact rfl) | (apply G1_loadB; (first | exact T.p26 | exact T.p9); exact rfl; assumption; exact rfl; exact rfl) | (apply G1_loadBS; (first | exact T.p26 | exact T.p9); exact rfl; assumption; exact rfl; (first | assumption | (focus (simp [exempt]; omega))); exact rfl) | (apply G1_loadFld; (first | exact T.p26 | exact T.p9); exact rfl; assumption; assumption; exact rfl; exact rfl; exact rfl) | (apply G1_loadEl1; (first | exact T.p26 | exact T.p9); exact rfl; assumption; assumption; exact rfl; exact rfl; exact rfl) | (apply G1_len; exact T.s26; exact rfl; exact rfl) | ((first | apply G1_lss | apply G1_seql); exact rfl; exact rfl; exact rfl) | (apply G1_indexAddrN; exact T.s26; exact rfl; exact rfl; (first | assumption | exact Sl.ok (by assumption) | exact (Own.sl (by assumption)).ok); omega; exact rfl) | (apply G1_indexAddr; exact T.s26; exact rfl; exact rfl; (first | assumption | exact Sl.ok (by assumption) | exact (Own.sl (by assumption)).ok); omega; omega; exact rfl) | (apply G1_pick_t; exact rfl; exact rfl; exact rfl) | (apply G1_pick_f; exact rfl; exact rfl; exact rfl) | (apply G1_add; exact rfl; exact rfl; omega; omega; exact rfl)) | apply G_nil | apply Post_next | apply W_seq | apply W_region | (apply W_cond_true; exact rfl) | (apply W_cond_false; exact rfl) | (apply W_cond_dec; exact rfl; all_goals (intro h; try (exfalso; omega))) | (apply W_cond; exact rfl; all_goals intro h) | (apply G_off; exact rfl; exact rfl) | ((fail_if_success (apply G_on; exact rfl)); apply G_split_dec; exact rfl; exact rfl; all_goals (intro h; try (exfalso; omega))) | ((fail_if_success (apply G_on; exact rfl)); apply G_split; exact rfl; exact rfl; all_goals intro h) | refine W_drawn 1 [] [0,1,2,3,4,5,6,7,8,9,10,11,12,13,14,15,16,17,18,19,20] mixed (by decide +kernel) ?_ | apply W_skip | apply W_exit | apply W_ret | apply W_block | apply Post_then_ret | apply Post_block_ret | apply Post_then_exit | apply Post_block_exit | (apply Post_block_other; exact rfl) | apply Post_block_normal)
  refine W_loop (ι := Nat) (fun k => [(0, .pointer (some (adr (bx rx) 0))), (1, .string key), (6, .int .i64 (k : Int))]) (fun k w' => Ext w w' ∧ k ≤ es.length ∧ ∀ x ∈ es.take k, blt x.key key = true) (fun k => es.length - k) 0 ⟨rfl, rfl, rfl, trivial⟩ ⟨(by repeat first | assumption | exact Ext.rfl' | apply Ext.drew | apply Ext.alloc | refine Ext.trans ?_ (by assumption)), Nat.zero_le _, fun x hx => by simp at hx⟩ ?_
  rintro k w1 ⟨hx1, hk1, hall⟩
  have hR1 := hR.ext hx1
  have hbox := hR1.box
  have hks1 := hR1.keys.sl
  have hok1 : Okp pk es.length ck := by have := hks1.ok; rw [hml] at this; exact this
  by_cases hlt : k < es.length
  · obtain ⟨e, he⟩ := get_some hlt
    have hek : (es.map Ent.key)[k]? = some e.key := by rw [List.getElem?_map, he]; rfl
    have hes := hks e (List.mem_of_getElem? he)
    repeat' (first | (apply G_on; exact rfl; first | ((first | apply G1_assign | apply G1_move | apply G1_nilCheck); exact rfl; exact rfl) | (apply G1_indexAddrN (q := k); exact T.s26; exact rfl; exact rfl; exact hok1; omega; exact rfl) | (apply G1_loadEl1 (q := k) (e := eStr); exact T.p9; exact rfl; exact hks1; exact hek; exact rfl; exact rfl; exact rfl) | (apply G1_nilCheckF; exact rfl; exact rfl) | (apply G1_fieldAddr; exact T.f38_0; exact rfl; exact rfl) | (apply G1_loadB; (first | exact T.p26 | exact T.p9); exact rfl; assumption; exact rfl; exact rfl) | (apply G1_loadBS; (first | exact T.p26 | exact T.p9); exact rfl; assumption; exact rfl; (first | assumption | (focus (simp [exempt]; omega))); exact rfl) | (apply G1_loadFld; (first | exact T.p26 | exact T.p9); exact rfl; assumption; assumption; exact rfl; exact rfl; exact rfl) | (apply G1_loadEl1; (first | exact T.p26 | exact T.p9); exact rfl; assumption; assumption; exact rfl; exact rfl; exact rfl) | (apply G1_len; exact T.s26; exact rfl; exact rfl) | ((first | apply G1_lss | apply G1_seql); exact rfl; exact rfl; exact rfl) | (apply G1_indexAddrN; exact T.s26; exact rfl; exact rfl; (first | assumption | exact Sl.ok (by assumption) | exact (Own.sl (by assumption)).ok); omega; exact rfl) | (apply G1_indexAddr; exact T.s26; exact rfl; exact rfl; (first | assumption | exact Sl.ok (by assumption) | exact (Own.sl (by assumption)).ok); omega; omega; exact rfl) | (apply G1_pick_t; exact rfl; exact rfl; exact rfl) | (apply G1_pick_f; exact rfl; exact rfl; exact rfl) | (apply G1_add; exact rfl; exact rfl; omega; omega; exact rfl)) | apply G_nil | apply Post_next | apply W_seq | apply W_region | (apply W_cond_true; exact rfl) | (apply W_cond_false; exact rfl) | (apply W_cond_dec; exact rfl; all_goals (intro h; try (exfalso; omega))) | (apply W_cond; exact rfl; all_goals intro h) | (apply G_off; exact rfl; exact rfl) | ((fail_if_success (apply G_on; exact rfl)); apply G_split_dec; exact rfl; exact rfl; all_goals (intro h; try (exfalso; omega))) | ((fail_if_success (apply G_on; exact rfl)); apply G_split; exact rfl; exact rfl; all_goals intro h) | apply W_skip | apply W_exit | apply W_ret | apply W_block | apply Post_then_ret | apply Post_block_ret | apply Post_then_exit | apply Post_block_exit | (apply Post_block_other; exact rfl) | apply Post_block_normal)
    all_goals try (exfalso; omega)
    apply G_on; exact rfl; apply G1_call; exact rfl; exact rfl; exact rfl; exact less_spec (s := e.key) (t := key) (by omega) (by omega); rintro _ w2 ⟨rfl, hx2⟩; refine ⟨(by first | exact .inl rfl | exact .inr (by assumption)), ?_⟩
    cases hb : blt e.key key with
    | true =>
      repeat' (first | (apply G_on; exact rfl; first | ((first | apply G1_assign | apply G1_move | apply G1_nilCheck); exact rfl; exact rfl) | (apply G1_nilCheckF; exact rfl; exact rfl) | (apply G1_fieldAddr; exact T.f38_0; exact rfl; exact rfl) | (apply G1_loadB; (first | exact T.p26 | exact T.p9); exact rfl; assumption; exact rfl; exact rfl) | (apply G1_loadBS; (first | exact T.p26 | exact T.p9); exact rfl; assumption; exact rfl; (first | assumption | (focus (simp [exempt]; omega))); exact rfl) | (apply G1_loadFld; (first | exact T.p26 | exact T.p9); exact rfl; assumption; assumption; exact rfl; exact rfl; exact rfl) | (apply G1_loadEl1; (first | exact T.p26 | exact T.p9); exact rfl; assumption; assumption; exact rfl; exact rfl; exact rfl) | (apply G1_len; exact T.s26; exact rfl; exact rfl) | ((first | apply G1_lss | apply G1_seql); exact rfl; exact rfl; exact rfl) | (apply G1_indexAddrN; exact T.s26; exact rfl; exact rfl; (first | assumption | exact Sl.ok (by assumption) | exact (Own.sl (by assumption)).ok); omega; exact rfl) | (apply G1_indexAddr; exact T.s26; exact rfl; exact rfl; (first | assumption | exact Sl.ok (by assumption) | exact (Own.sl (by assumption)).ok); omega; omega; exact rfl) | (apply G1_pick_t; exact rfl; exact rfl; exact rfl) | (apply G1_pick_f; exact rfl; exact rfl; exact rfl) | (apply G1_add; exact rfl; exact rfl; omega; omega; exact rfl)) | apply G_nil | apply Post_next | apply W_seq | apply W_region | (apply W_cond_true; exact rfl) | (apply W_cond_false; exact rfl) | (apply W_cond_dec; exact rfl; all_goals (intro h; try (exfalso; omega))) | (apply W_cond; exact rfl; all_goals intro h) | (apply G_off; exact rfl; exact rfl) | ((fail_if_success (apply G_on; exact rfl)); apply G_split_dec; exact rfl; exact rfl; all_goals (intro h; try (exfalso; omega))) | ((fail_if_success (apply G_on; exact rfl)); apply G_split; exact rfl; exact rfl; all_goals intro h) | refine W_drawn 1 [] [0,1,2,3,4,5,6,7,8,9,10,11,12,13,14,15,16,17,18,19,20] mixed (by decide +kernel) ?_ | apply W_skip | apply W_exit | apply W_ret | apply W_block | apply Post_then_ret | apply Post_block_ret | apply Post_then_exit | apply Post_block_exit | (apply Post_block_other; exact rfl) | apply Post_block_normal)
      all_goals try (exfalso; omega)
      exact Post_round (k + 1) ⟨rfl, rfl, rfl, trivial⟩ ⟨hx1.trans hx2, by omega, fun x hx => by
        rw [take_snoc he] at hx
        rcases List.mem_append.1 hx with h | h
        · exact hall x h
        · simp at h; rw [h]; exact hb⟩ (by omega)
    | false =>
      have hR2 := hR1.ext hx2
      have hbox2 := hR2.box
      have hks2 := hR2.keys.sl
      repeat' (first | (apply G_on; exact rfl; first | ((first | apply G1_assign | apply G1_move | apply G1_nilCheck); exact rfl; exact rfl) | (apply G1_indexAddrN (q := k); exact T.s26; exact rfl; exact rfl; exact hok1; omega; exact rfl) | (apply G1_loadEl1 (q := k) (e := eStr); exact T.p9; exact rfl; exact hks2.ext (Ext.drew Ext.rfl'); exact hek; exact rfl; exact rfl; exact rfl) | (apply G1_nilCheckF; exact rfl; exact rfl) | (apply G1_fieldAddr; exact T.f38_0; exact rfl; exact rfl) | (apply G1_loadB; (first | exact T.p26 | exact T.p9); exact rfl; assumption; exact rfl; exact rfl) | (apply G1_loadBS; (first | exact T.p26 | exact T.p9); exact rfl; assumption; exact rfl; (first | assumption | (focus (simp [exempt]; omega))); exact rfl) | (apply G1_loadFld; (first | exact T.p26 | exact T.p9); exact rfl; assumption; assumption; exact rfl; exact rfl; exact rfl) | (apply G1_loadEl1; (first | exact T.p26 | exact T.p9); exact rfl; assumption; assumption; exact rfl; exact rfl; exact rfl) | (apply G1_len; exact T.s26; exact rfl; exact rfl) | ((first | apply G1_lss | apply G1_seql); exact rfl; exact rfl; exact rfl) | (apply G1_indexAddrN; exact T.s26; exact rfl; exact rfl; (first | assumption | exact Sl.ok (by assumption) | exact (Own.sl (by assumption)).ok); omega; exact rfl) | (apply G1_indexAddr; exact T.s26; exact rfl; exact rfl; (first | assumption | exact Sl.ok (by assumption) | exact (Own.sl (by assumption)).ok); omega; omega; exact rfl) | (apply G1_pick_t; exact rfl; exact rfl; exact rfl) | (apply G1_pick_f; exact rfl; exact rfl; exact rfl) | (apply G1_add; exact rfl; exact rfl; omega; omega; exact rfl)) | apply G_nil | apply Post_next | apply W_seq | apply W_region | (apply W_cond_true; exact rfl) | (apply W_cond_false; exact rfl) | (apply W_cond_dec; exact rfl; all_goals (intro h; try (exfalso; omega))) | (apply W_cond; exact rfl; all_goals intro h) | (apply G_off; exact rfl; exact rfl) | ((fail_if_success (apply G_on; exact rfl)); apply G_split_dec; exact rfl; exact rfl; all_goals (intro h; try (exfalso; omega))) | ((fail_if_success (apply G_on; exact rfl)); apply G_split; exact rfl; exact rfl; all_goals intro h) | refine W_drawn 1 [] [0,1,2,3,4,5,6,7,8,9,10,11,12,13,14,15,16,17,18,19,20] mixed (by decide +kernel) ?_ | apply W_skip | apply W_exit | apply W_ret | apply W_block | apply Post_then_ret | apply Post_block_ret | apply Post_then_exit | apply Post_block_exit | (apply Post_block_other; exact rfl) | apply Post_block_normal)
      all_goals try (exfalso; omega)
      refine Post_ret Try.results32 ⟨_, _, rfl, rfl, _, _, rfl, rfl, rfl⟩ ?_
      have hdk : es.drop k = e :: es.drop (k + 1) := by
        obtain ⟨h1, h2⟩ := List.getElem?_eq_some_iff.1 he
        rw [List.drop_eq_getElem_cons h1, h2]
      have htl : (es.take k).length = k := by rw [List.length_take]; omega
      refine ⟨es.take k, es.drop k, by rw [htl, hdk]; rfl, ⟨(List.take_append_drop k es).symm, hall, fun y hy => ?_⟩, (hx1.trans hx2).trans (by repeat first | assumption | exact Ext.rfl' | apply Ext.drew | apply Ext.alloc | refine Ext.trans ?_ (by assumption))⟩
      rw [hdk] at hy; simp at hy; rw [← hy]; exact hb
  · obtain rfl : k = es.length := by omega
    repeat' (first | (apply G_on; exact rfl; first | ((first | apply G1_assign | apply G1_move | apply G1_nilCheck); exact rfl; exact rfl) | (apply G1_nilCheckF; exact rfl; exact rfl) | (apply G1_fieldAddr; exact T.f38_0; exact rfl; exact rfl) | (apply G1_loadB; (first | exact T.p26 | exact T.p9); exact rfl; assumption; exact rfl; exact rfl) | (apply G1_loadBS; (first | exact T.p26 | exact T.p9); exact rfl; assumption; exact rfl; (first | assumption | (focus (simp [exempt]; omega))); exact rfl) | (apply G1_loadFld; (first | exact T.p26 | exact T.p9); exact rfl; assumption; assumption; exact rfl; exact rfl; exact rfl) | (apply G1_loadEl1; (first | exact T.p26 | exact T.p9); exact rfl; assumption; assumption; exact rfl; exact rfl; exact rfl) | (apply G1_len; exact T.s26; exact rfl; exact rfl) | ((first | apply G1_lss | apply G1_seql); exact rfl; exact rfl; exact rfl) | (apply G1_indexAddrN; exact T.s26; exact rfl; exact rfl; (first | assumption | exact Sl.ok (by assumption) | exact (Own.sl (by assumption)).ok); omega; exact rfl) | (apply G1_indexAddr; exact T.s26; exact rfl; exact rfl; (first | assumption | exact Sl.ok (by assumption) | exact (Own.sl (by assumption)).ok); omega; omega; exact rfl) | (apply G1_pick_t; exact rfl; exact rfl; exact rfl) | (apply G1_pick_f; exact rfl; exact rfl; exact rfl) | (apply G1_add; exact rfl; exact rfl; omega; omega; exact rfl)) | apply G_nil | apply Post_next | apply W_seq | apply W_region | (apply W_cond_true; exact rfl) | (apply W_cond_false; exact rfl) | (apply W_cond_dec; exact rfl; all_goals (intro h; try (exfalso; omega))) | (apply W_cond; exact rfl; all_goals intro h) | (apply G_off; exact rfl; exact rfl) | ((fail_if_success (apply G_on; exact rfl)); apply G_split_dec; exact rfl; exact rfl; all_goals (intro h; try (exfalso; omega))) | ((fail_if_success (apply G_on; exact rfl)); apply G_split; exact rfl; exact rfl; all_goals intro h) | refine W_drawn 1 [] [0,1,2,3,4,5,6,7,8,9,10,11,12,13,14,15,16,17,18,19,20] mixed (by decide +kernel) ?_ | apply W_skip | apply W_exit | apply W_ret | apply W_block | apply Post_then_ret | apply Post_block_ret | apply Post_then_exit | apply Post_block_exit | (apply Post_block_other; exact rfl) | apply Post_block_normal)
    all_goals try (exfalso; omega)
    refine Post_ret Try.results32 ⟨_, _, rfl, rfl, _, _, rfl, rfl, rfl⟩ ?_
    have htl : (es.take es.length).length = es.length := by rw [List.take_length]
    refine ⟨es.take es.length, [], by rw [htl]; rfl, ⟨by simp, hall, fun y hy => by cases hy⟩, hx1.trans (by repeat first | assumption | exact Ext.rfl' | apply Ext.drew | apply Ext.alloc | refine Ext.trans ?_ (by assumption))⟩
theorem ChainF.refine {w : World} {F Q : Nat → Prop} {p : Option Addr} {c : Nat} {rs : List RawVer} {vs : List Ver} (h : ChainF w F p c rs vs) (hQ : ∀ k T cur, (T = 50 ∨ T = 101 ∨ T = 9 ∨ T = 105) → w.heap[k]? = some (.cells cur T (0, 0)) → Q k) : ChainF w (fun k => F k ∧ Q k) p c rs vs :=
  ⟨h.own, fun k hk => ⟨h.f k hk, by obtain ⟨cur, h1⟩ := Go.V.Own.at h.own hk; exact hQ k _ cur (.inl rfl) h1⟩, h.len, fun i r v h1 h2 => by
    obtain ⟨a, b, d, e⟩ := h.get i r v h1 h2
    refine ⟨a, b, d, e.kind, e.text, e.n1, e.n2, e.n3, e.o1, e.o2, e.o3, fun k hk => ⟨e.f k hk, ?_⟩⟩
    rcases hk with hk | hk | hk
    · obtain ⟨cur, h1⟩ := Go.V.Own.at e.o1 hk; exact hQ k _ cur (.inr (.inl rfl)) h1
    · obtain ⟨cur, h1⟩ := Go.V.Own.at e.o2 hk; exact hQ k _ cur (.inr (.inr (.inl rfl))) h1
    · obtain ⟨cur, h1⟩ := Go.V.Own.at e.o3 hk; exact hQ k _ cur (.inr (.inr (.inr rfl))) h1⟩

theorem rx_set {w : World} {rx : Nat} {F FC : Nat → Prop} {pk pc : Option Addr} {ck cc : Nat} {es : List Ent} {key : ByteArray} {p : Option Addr} {c n : Nat} {rs : List RawVer} {vs : List Ver} (hR : RxAt w rx F pk ck pc cc es) (hn : es.length ≤ 900) (hk : key.size ≤ 300) (hks : ∀ e ∈ es, e.key.size ≤ 300) (hS : SortedK (es.map kv))
    (hC : ChainF w FC p c rs vs) (hFC : ∀ k, FC k → NoB w k ∧ k ≠ rx) (hnl : vs.length = n) :
    Ctr Try.prog 17 [.pointer (some (adr (bx rx) 0)), .string key, .slice p n c] w (fun _ w' => ∃ F' pk' ck' pc' cc' es', RxAt w' rx F' pk' ck' pc' cc' es' ∧ es'.map kv = setL (es.map kv) key vs ∧ (∀ k, F' k → F k ∨ FC k ∨ w.heap.size ≤ k) ∧ Chg (fun k => k = rx) w w') := by
  subst hnl
  refine Ctr_of Try.func17 Try.ntmps17 rfl rfl rfl ?_
  repeat' (first | (apply G_on; exact rfl; first | ((first | apply G1_move | apply G1_assign | apply G1_nilCheck); exact rfl; exact rfl) | ((first | apply G1_extract | apply G1_gtr); exact rfl; exact rfl; exact rfl) | (apply G1_nilCheckF; exact rfl; exact rfl) | (apply G1_fieldAddr; (first | exact T.f38_0 | exact T.f38_1); exact rfl; exact rfl) | (apply G1_loadB; (first | exact T.p26 | exact T.p36); exact rfl; assumption; exact rfl; exact rfl) | (apply G1_loadBS; (first | exact T.p26 | exact T.p36); exact rfl; assumption; exact rfl; (first | assumption | (focus (simp [exempt]; omega))); exact rfl) | (apply G1_loadFld; (first | exact T.p26 | exact T.p36); exact rfl; assumption; assumption; exact rfl; exact rfl; exact rfl) | (apply G1_loadEl1; (first | exact T.p26 | exact T.p36); exact rfl; assumption; assumption; exact rfl; exact rfl; exact rfl) | (apply G1_len; exact T.s30; exact rfl; exact rfl) | (apply G1_add; exact rfl; exact rfl; omega; omega; exact rfl)) | apply G_nil | apply Post_next | apply W_seq | apply W_region | (apply W_cond_true; exact rfl) | (apply W_cond_false; exact rfl) | (apply W_cond_dec; exact rfl; all_goals (intro h; try (exfalso; omega))) | (apply W_cond; exact rfl; all_goals intro h) | (apply G_off; exact rfl; exact rfl) | ((fail_if_success (apply G_on; exact rfl)); apply G_split_dec; exact rfl; exact rfl; all_goals (intro h; try (exfalso; omega))) | ((fail_if_success (apply G_on; exact rfl)); apply G_split; exact rfl; exact rfl; all_goals intro h) | apply W_skip | apply W_exit | apply W_ret | apply W_block | apply Post_then_ret | apply Post_block_ret | apply Post_then_exit | apply Post_block_exit | (apply Post_block_other; exact rfl) | apply Post_block_normal)
  apply G_on; exact rfl; apply G1_call; exact rfl; exact rfl; exact rfl; exact rx_at (key := key) hR (by omega) hk hks; rintro _ w1 ⟨A, B, rfl, hat, hx1⟩; refine ⟨(by first | exact .inl rfl | exact .inr (by assumption)), ?_⟩
  have hset := atR_set (vs := vs) hat hS
  rw [hset]
  clear hset
  obtain ⟨hes, _, _⟩ := hat
  obtain ⟨ok, hok⟩ : ∃ ok, atOk B key = ok := ⟨_, rfl⟩
  rw [hok]
  obtain ⟨D, hD⟩ : ∃ D : Nat, (if ok = true then 1 else 0) = D := ⟨_, rfl⟩
  rw [hD]
  have hDl : D ≤ B.length := by
    rw [← hD]
    cases B with
    | nil => rw [← hok]; simp [atOk]
    | cons e B => split <;> simp
  have hR1 := hR.ext hx1
  have hbox := hR1.box
  have hlen : es.length = A.length + B.length := by rw [hes]; simp
  have hkl : (es.map Ent.key).length = es.length := List.length_map _
  have hkA : (es.map Ent.key).take A.length = A.map Ent.key := by rw [hes, List.map_append, List.take_left' (by simp)]
  have hcA : es.take A.length = A := by rw [hes, List.take_left' rfl]
  have hkB : (es.map Ent.key).drop (A.length + D) = (B.drop D).map Ent.key := by rw [hes, List.map_append, ← List.drop_drop, List.drop_left' (by simp), List.map_drop]
  have hcB : es.drop (A.length + D) = B.drop D := by rw [hes, ← List.drop_drop, List.drop_left' rfl]
  have hks1 := hR1.keys.sl
  have hcs1 := hR1.chs.sl
  have ok1 := hks1.ok.le
  have ok2 := hcs1.ok.le
  have hO : ∀ w T, Go.V.Own w w1.heap.size T eStr none 0 ([] : List ByteArray) := fun _ _ => Own.nil _ _ _ _
  have hlA : A.length = (A.map Ent.key).length := by simp
  have hsA : Sl w1.heap eStr pk ck (A.map Ent.key) := by have := hks1.take A.length; rw [hkA] at this; exact this
  have hsC : Sl w1.heap eChn pc cc A := by have := hcs1.take A.length; rw [hcA] at this; exact this
  repeat' (first | (apply G_on; exact rfl; first | ((first | apply G1_move | apply G1_assign | apply G1_nilCheck); exact rfl; exact rfl) | (apply G1_sliceHiJ (q := A.length); exact T.s26; exact rfl; exact rfl; exact rfl; omega; exact rfl) | (apply G1_appendB (xs := []) (ys := A.map Ent.key) (p := none) (c := 0); exact T.s26; exact rfl; exact rfl; exact rfl; exact hlA; exact hO _ _; exact hsA; exact rfl; omega; (simp only [List.length_nil]; omega); (simp only [List.length_nil]; omega); exact rfl; exact rfl; exact rfl; intro p2 c2 w2 ha2) | ((first | apply G1_extract | apply G1_gtr); exact rfl; exact rfl; exact rfl) | (apply G1_nilCheckF; exact rfl; exact rfl) | (apply G1_fieldAddr; (first | exact T.f38_0 | exact T.f38_1); exact rfl; exact rfl) | (apply G1_loadB; (first | exact T.p26 | exact T.p36); exact rfl; assumption; exact rfl; exact rfl) | (apply G1_loadBS; (first | exact T.p26 | exact T.p36); exact rfl; assumption; exact rfl; (first | assumption | (focus (simp [exempt]; omega))); exact rfl) | (apply G1_loadFld; (first | exact T.p26 | exact T.p36); exact rfl; assumption; assumption; exact rfl; exact rfl; exact rfl) | (apply G1_loadEl1; (first | exact T.p26 | exact T.p36); exact rfl; assumption; assumption; exact rfl; exact rfl; exact rfl) | (apply G1_len; exact T.s30; exact rfl; exact rfl) | (apply G1_add; exact rfl; exact rfl; omega; omega; exact rfl)) | apply G_nil | apply Post_next | apply W_seq | apply W_region | (apply W_cond_true; exact rfl) | (apply W_cond_false; exact rfl) | (apply W_cond_dec; exact rfl; all_goals (intro h; try (exfalso; omega))) | (apply W_cond; exact rfl; all_goals intro h) | (apply G_off; exact rfl; exact rfl) | ((fail_if_success (apply G_on; exact rfl)); apply G_split_dec; exact rfl; exact rfl; all_goals (intro h; try (exfalso; omega))) | ((fail_if_success (apply G_on; exact rfl)); apply G_split; exact rfl; exact rfl; all_goals intro h) | apply W_skip | apply W_exit | apply W_ret | apply W_block | apply Post_then_ret | apply Post_block_ret | apply Post_then_exit | apply Post_block_exit | (apply Post_block_other; exact rfl) | apply Post_block_normal)
  rw [List.nil_append] at ha2 ⊢
  have hx2 : Ext w1 w2 := Ext.rfl'.app ha2 (fun k hk => by cases hk)
  have hb2 := hbox.ext hx2
  have z2 := hx2.size
  have ho2 := ha2.own
  repeat' (first | (apply G_on; exact rfl; first | ((first | apply G1_move | apply G1_assign | apply G1_nilCheck); exact rfl; exact rfl) | (apply G1_sliceHiJ (q := A.length); exact T.s36; exact rfl; exact rfl; exact rfl; omega; exact rfl) | ((first | apply G1_extract | apply G1_gtr); exact rfl; exact rfl; exact rfl) | (apply G1_nilCheckF; exact rfl; exact rfl) | (apply G1_fieldAddr; (first | exact T.f38_0 | exact T.f38_1); exact rfl; exact rfl) | (apply G1_loadB; (first | exact T.p26 | exact T.p36); exact rfl; assumption; exact rfl; exact rfl) | (apply G1_loadBS; (first | exact T.p26 | exact T.p36); exact rfl; assumption; exact rfl; (first | assumption | (focus (simp [exempt]; omega))); exact rfl) | (apply G1_loadFld; (first | exact T.p26 | exact T.p36); exact rfl; assumption; assumption; exact rfl; exact rfl; exact rfl) | (apply G1_loadEl1; (first | exact T.p26 | exact T.p36); exact rfl; assumption; assumption; exact rfl; exact rfl; exact rfl) | (apply G1_len; exact T.s30; exact rfl; exact rfl) | (apply G1_add; exact rfl; exact rfl; omega; omega; exact rfl)) | apply G_nil | apply Post_next | apply W_seq | apply W_region | (apply W_cond_true; exact rfl) | (apply W_cond_false; exact rfl) | (apply W_cond_dec; exact rfl; all_goals (intro h; try (exfalso; omega))) | (apply W_cond; exact rfl; all_goals intro h) | (apply G_off; exact rfl; exact rfl) | ((fail_if_success (apply G_on; exact rfl)); apply G_split_dec; exact rfl; exact rfl; all_goals (intro h; try (exfalso; omega))) | ((fail_if_success (apply G_on; exact rfl)); apply G_split; exact rfl; exact rfl; all_goals intro h) | apply W_skip | apply W_exit | apply W_ret | apply W_block | apply Post_then_ret | apply Post_block_ret | apply Post_then_exit | apply Post_block_exit | (apply Post_block_other; exact rfl) | apply Post_block_normal)
  apply G_on; exact rfl
  (apply G1_appendB (e := eChn) (B := w1.heap.size) (xs := []) (ys := A) (p := none) (c := 0); exact T.s36; exact rfl; exact rfl; exact rfl; exact rfl; exact Own.nil _ _ _ _; exact hsC.ext hx2; exact rfl; omega; (simp only [List.length_nil]; omega); (simp only [List.length_nil]; omega); exact rfl; exact rfl; exact rfl; intro p3 c3 w3 ha3)
  rw [List.nil_append] at ha3 ⊢
  have hx3 : Ext w2 w3 := Ext.rfl'.app ha3 (fun k hk => by cases hk)
  have hb3 := hb2.ext hx3
  have z3 := hx3.size
  replace ho2 := ho2.ext hx3
  have ho3 := ha3.own
  have hx13 := hx2.trans hx3
  obtain ⟨N, hN⟩ : ∃ N : List Ent, N = if vs = [] then [] else [⟨key, p, c, vs⟩] := ⟨_, rfl⟩
  have hNl : N.length ≤ 1 := by rw [hN]; split <;> simp
  have hok1 : Okp pk es.length ck := by have := hks1.ok; rw [hkl] at this; exact this
  have hes' : ∀ e ∈ A ++ N ++ B.drop D, e ∈ es ∨ (vs ≠ [] ∧ e = ⟨key, p, c, vs⟩) := fun e he => by
    rcases List.mem_append.1 he with he | he
    · rcases List.mem_append.1 he with he | he
      · left; rw [hes]; simp [he]
      · rw [hN] at he
        split at he
        · cases he
        · right; simp at he; exact ⟨by assumption, he⟩
    · left; rw [hes]; simp [List.mem_of_mem_drop he]
  have hfin : (A ++ N ++ B.drop D).map kv = A.map kv ++ (if vs = [] then [] else [(key, vs)]) ++ (B.drop D).map kv := by
    rw [List.map_append, List.map_append]
    congr 2
    rw [hN]; split <;> simp [kv]
  rw [← hfin]
  by_cases hv0 : vs.length = 0
  · have hvn : vs = [] := List.eq_nil_of_length_eq_zero hv0
    have hN0 : N = [] := by rw [hN, if_pos hvn]
    have ho4 : Go.V.Own w3 w1.heap.size 9 eStr p2 c2 ((A ++ N).map Ent.key) := by rw [hN0, List.append_nil]; exact ho2
    have ho5 : Go.V.Own w3 w1.heap.size 30 eChn p3 c3 (A ++ N) := by rw [hN0, List.append_nil]; exact ho3
    have hl4 : (A.map Ent.key).length = ((A ++ N).map Ent.key).length := by rw [hN0, List.append_nil]
    have hl5 : A.length = (A ++ N).length := by rw [hN0, List.append_nil]
    cases ok with
    | true =>
      have hDv : D = 1 := by rw [← hD]; rfl
      have hb4 := hbox.ext hx13
      have z4 := (show Ext w1 w3 from hx13).size
      have hyl : es.length - (A.length + D) = ((B.drop D).map Ent.key).length := by rw [hlen]; simp; omega
      have hyl2 : es.length - (A.length + D) = (B.drop D).length := by rw [hlen]; simp; omega
      have hkB4 : Sl w3.heap eStr (subp pk ck (A.length + D) 1) (ck - (A.length + D)) ((B.drop D).map Ent.key) := by have := (hks1.ext hx13).drop (l := A.length + D) (by omega); rw [hkB] at this; exact this
      have hxl2 : ((A ++ N).map Ent.key).length ≤ 901 := by simp; omega
      have hxl3 : (A ++ N).length ≤ 901 := by simp; omega
      have hyl3 : (B.drop D).length ≤ 900 := by omega
      have hyl4 : ((B.drop D).map Ent.key).length ≤ 900 := by omega
      repeat' (first | (apply G_on; exact rfl; first | ((first | apply G1_move | apply G1_assign | apply G1_nilCheck); exact rfl; exact rfl) | (apply G1_sliceLoJ (q := A.length + D); exact T.s26; exact rfl; exact rfl; omega; exact hok1; omega; exact rfl) | (apply G1_appendB (xs := (A ++ N).map Ent.key) (ys := (B.drop D).map Ent.key); exact T.s26; exact rfl; exact rfl; exact hl4; exact hyl; exact ho4; exact hkB4; exact rfl; omega; omega; omega; exact rfl; exact rfl; exact rfl; intro p6 c6 w6 ha6) | ((first | apply G1_extract | apply G1_gtr); exact rfl; exact rfl; exact rfl) | (apply G1_nilCheckF; exact rfl; exact rfl) | (apply G1_fieldAddr; (first | exact T.f38_0 | exact T.f38_1); exact rfl; exact rfl) | (apply G1_loadB; (first | exact T.p26 | exact T.p36); exact rfl; assumption; exact rfl; exact rfl) | (apply G1_loadBS; (first | exact T.p26 | exact T.p36); exact rfl; assumption; exact rfl; (first | assumption | (focus (simp [exempt]; omega))); exact rfl) | (apply G1_loadFld; (first | exact T.p26 | exact T.p36); exact rfl; assumption; assumption; exact rfl; exact rfl; exact rfl) | (apply G1_loadEl1; (first | exact T.p26 | exact T.p36); exact rfl; assumption; assumption; exact rfl; exact rfl; exact rfl) | (apply G1_len; exact T.s30; exact rfl; exact rfl) | (apply G1_add; exact rfl; exact rfl; omega; omega; exact rfl)) | apply G_nil | apply Post_next | apply W_seq | apply W_region | (apply W_cond_true; exact rfl) | (apply W_cond_false; exact rfl) | (apply W_cond_dec; exact rfl; all_goals (intro h; try (exfalso; omega))) | (apply W_cond; exact rfl; all_goals intro h) | (apply G_off; exact rfl; exact rfl) | ((fail_if_success (apply G_on; exact rfl)); apply G_split_dec; exact rfl; exact rfl; all_goals (intro h; try (exfalso; omega))) | ((fail_if_success (apply G_on; exact rfl)); apply G_split; exact rfl; exact rfl; all_goals intro h) | apply W_skip | apply W_exit | apply W_ret | apply W_block | apply Post_then_ret | apply Post_block_ret | apply Post_then_exit | apply Post_block_exit | (apply Post_block_other; exact rfl) | apply Post_block_normal)
      all_goals try (exfalso; omega)
      have hx6 : Ext w1 w6 := Ext.app hx13 ha6 (fun k hk => (ho4.ge k hk).1)
      have z6 := hx6.size
      have hb6 := hbox.ext hx6
      have ho56 : Go.V.Own w6 w1.heap.size 30 eChn p3 c3 (A ++ N) := ho5.kept ha6.grown (fun a ha e0 => ho4.neT ho5 (by decide) a ha e0)
      have ho66 := ha6.own
      apply G_on; exact rfl; apply G1_storeB; exact T.z26; exact rfl; exact rfl; exact hb6; exact rfl; exact rfl; (first | exact Nat.le_of_ble_eq_true rfl | (focus (simp [Value.cells]; done))); (first | exact Enc.one _ _ | (focus (simp [Value.oneCell']; done)) | (focus (simp [Value.cells, Value.oneCell']; done)) | exact Enc.oneAgg _ _); exact rfl; (first | exact .inl rfl | exact .inr (by simp [exempt])); exact rfl; intro w7 hb7 hg7 hs7
      have ho57 : Go.V.Own w7 w1.heap.size 30 eChn p3 c3 (A ++ N) := ho56.kept hg7 (fun a ha e0 => ho56.neB hb6 (by decide) (by rw [ha]; exact e0.symm))
      have ho67 : Go.V.Own w7 w1.heap.size 9 eStr p6 c6 ((A ++ N).map Ent.key ++ (B.drop D).map Ent.key) := ho66.kept hg7 (fun a ha e0 => ho66.neB hb6 (by decide) (by rw [ha]; exact e0.symm))
      have hch6 := hR1.chs.ext hx6
      have hch7 : Go.V.Own w7 0 30 eChn pc cc es := hch6.kept hg7 (fun a ha e0 => hch6.neB hb6 (by decide) (by rw [ha]; exact e0.symm))
      have hcB7 : Sl w7.heap eChn (subp pc cc (A.length + D) 1) (cc - (A.length + D)) (B.drop D) := by have := hch7.sl.drop (l := A.length + D) (by omega); rw [hcB] at this; exact this
      repeat' (first | (apply G_on; exact rfl; first | ((first | apply G1_move | apply G1_assign | apply G1_nilCheck); exact rfl; exact rfl) | (apply G1_sliceLoJ (q := A.length + D); exact T.s36; exact rfl; exact rfl; omega; exact hch7.sl.ok; omega; exact rfl) | (apply G1_appendB (e := eChn) (xs := A ++ N) (ys := B.drop D); exact T.s36; exact rfl; exact rfl; exact hl5; exact hyl2; exact ho57; exact hcB7; exact rfl; omega; omega; omega; exact rfl; exact rfl; exact rfl; intro p8 c8 w8 ha8) | ((first | apply G1_extract | apply G1_gtr); exact rfl; exact rfl; exact rfl) | (apply G1_nilCheckF; exact rfl; exact rfl) | (apply G1_fieldAddr; (first | exact T.f38_0 | exact T.f38_1); exact rfl; exact rfl) | (apply G1_loadB; (first | exact T.p26 | exact T.p36); exact rfl; assumption; exact rfl; exact rfl) | (apply G1_loadBS; (first | exact T.p26 | exact T.p36); exact rfl; assumption; exact rfl; (first | assumption | (focus (simp [exempt]; omega))); exact rfl) | (apply G1_loadFld; (first | exact T.p26 | exact T.p36); exact rfl; assumption; assumption; exact rfl; exact rfl; exact rfl) | (apply G1_loadEl1; (first | exact T.p26 | exact T.p36); exact rfl; assumption; assumption; exact rfl; exact rfl; exact rfl) | (apply G1_len; exact T.s30; exact rfl; exact rfl) | (apply G1_add; exact rfl; exact rfl; omega; omega; exact rfl)) | apply G_nil | apply Post_next | apply W_seq | apply W_region | (apply W_cond_true; exact rfl) | (apply W_cond_false; exact rfl) | (apply W_cond_dec; exact rfl; all_goals (intro h; try (exfalso; omega))) | (apply W_cond; exact rfl; all_goals intro h) | (apply G_off; exact rfl; exact rfl) | ((fail_if_success (apply G_on; exact rfl)); apply G_split_dec; exact rfl; exact rfl; all_goals (intro h; try (exfalso; omega))) | ((fail_if_success (apply G_on; exact rfl)); apply G_split; exact rfl; exact rfl; all_goals intro h) | apply W_skip | apply W_exit | apply W_ret | apply W_block | apply Post_then_ret | apply Post_block_ret | apply Post_then_exit | apply Post_block_exit | (apply Post_block_other; exact rfl) | apply Post_block_normal)
      have hb8 := hb7.grown ha8.grown (ho57.neB hb7 (by decide))
      have ho68 : Go.V.Own w8 w1.heap.size 9 eStr p6 c6 ((A ++ N).map Ent.key ++ (B.drop D).map Ent.key) := ho67.kept ha8.grown (fun a ha e0 => ho57.neT ho67 (by decide) a ha e0)
      have ho88 := ha8.own
      apply G_on; exact rfl; apply G1_storeB; exact T.z36; exact rfl; exact rfl; exact hb8; exact rfl; exact rfl; (first | exact Nat.le_of_ble_eq_true rfl | (focus (simp [Value.cells]; done))); (first | exact Enc.one _ _ | (focus (simp [Value.oneCell']; done)) | (focus (simp [Value.cells, Value.oneCell']; done)) | exact Enc.oneAgg _ _); exact rfl; (first | exact .inl rfl | exact .inr (by simp [exempt])); exact rfl; intro w9 hb9 hg9 hs9
      have ho69 : Go.V.Own w9 w1.heap.size 9 eStr p6 c6 ((A ++ N).map Ent.key ++ (B.drop D).map Ent.key) := ho68.kept hg9 (fun a ha e0 => ho68.neB hb8 (by decide) (by rw [ha]; exact e0.symm))
      have ho89 : Go.V.Own w9 w1.heap.size 30 eChn p8 c8 (A ++ N ++ B.drop D) := ho88.kept hg9 (fun a ha e0 => ho88.neB hb8 (by decide) (by rw [ha]; exact e0.symm))
      repeat' (first | (apply G_on; exact rfl; first | ((first | apply G1_move | apply G1_assign | apply G1_nilCheck); exact rfl; exact rfl) | ((first | apply G1_extract | apply G1_gtr); exact rfl; exact rfl; exact rfl) | (apply G1_nilCheckF; exact rfl; exact rfl) | (apply G1_fieldAddr; (first | exact T.f38_0 | exact T.f38_1); exact rfl; exact rfl) | (apply G1_loadB; (first | exact T.p26 | exact T.p36); exact rfl; assumption; exact rfl; exact rfl) | (apply G1_loadBS; (first | exact T.p26 | exact T.p36); exact rfl; assumption; exact rfl; (first | assumption | (focus (simp [exempt]; omega))); exact rfl) | (apply G1_loadFld; (first | exact T.p26 | exact T.p36); exact rfl; assumption; assumption; exact rfl; exact rfl; exact rfl) | (apply G1_loadEl1; (first | exact T.p26 | exact T.p36); exact rfl; assumption; assumption; exact rfl; exact rfl; exact rfl) | (apply G1_len; exact T.s30; exact rfl; exact rfl) | (apply G1_add; exact rfl; exact rfl; omega; omega; exact rfl)) | apply G_nil | apply Post_next | apply W_seq | apply W_region | (apply W_cond_true; exact rfl) | (apply W_cond_false; exact rfl) | (apply W_cond_dec; exact rfl; all_goals (intro h; try (exfalso; omega))) | (apply W_cond; exact rfl; all_goals intro h) | (apply G_off; exact rfl; exact rfl) | ((fail_if_success (apply G_on; exact rfl)); apply G_split_dec; exact rfl; exact rfl; all_goals (intro h; try (exfalso; omega))) | ((fail_if_success (apply G_on; exact rfl)); apply G_split; exact rfl; exact rfl; all_goals intro h) | apply W_skip | apply W_exit | apply W_ret | apply W_block | apply Post_then_ret | apply Post_block_ret | apply Post_then_exit | apply Post_block_exit | (apply Post_block_other; exact rfl) | apply Post_block_normal)
      refine Post_end Try.results17 (vs := []) rfl ?_
      have hix : ∀ k, some rx = some k → k = rx := fun k hk => by injection hk with hk; exact hk.symm
      have zw := hx1.size
      have hc : Chg (fun k => k = rx) w w9 := (((Chg.ext (hx1.trans hx6)).step hg7 (fun k hk _ => hix k hk)).step ha8.grown (fun k hk hlt => by have := (ho57.ge k hk).1; omega)).step hg9 (fun k hk _ => hix k hk)
      have hkm : (A ++ N).map Ent.key ++ (B.drop D).map Ent.key = (A ++ N ++ B.drop D).map Ent.key := by rw [List.map_append (l₂ := B.drop D)]
      rw [hkm] at ho69
      replace hb9 : Blk w9.heap rx 38 [.slice p6 ((A ++ N).map Ent.key ++ (B.drop D).map Ent.key).length c6, .slice p8 (A ++ N ++ B.drop D).length c8] := hb9
      rw [hkm, List.length_map] at hb9
      have hnorx : ∀ k T cur, (T = 50 ∨ T = 101 ∨ T = 9 ∨ T = 105) → w.heap[k]? = some (.cells cur T (0, 0)) → k ≠ rx := fun k T cur hT hk e0 => by
        have h2 := hR.box
        unfold Blk at h2
        rw [e0, h2] at hk
        injection hk with hk; injection hk with _ hk
        rcases hT with h | h | h | h <;> (rw [h] at hk; exact absurd hk (by decide))
      refine ⟨fun k => F k ∨ FC k ∨ (w.heap.size ≤ k ∧ NoB w9 k), p6, c6, p8, c8, A ++ N ++ B.drop D, ⟨hb9, ho69.base (Nat.zero_le _), ho89.base (Nat.zero_le _), fun e he => ?_, .inl hR.fx, fun k hk => .inr (.inr ⟨by have := (ho69.ge k hk).1; omega, Own.noB ho69 notIx.2.2.1 hk⟩), fun k hk => .inr (.inr ⟨by have := (ho89.ge k hk).1; omega, Own.noB ho89 (by unfold ixT; decide) hk⟩), fun k hk => ?_⟩, rfl, fun k hk => ?_, hc⟩
      · rcases hes' e he with h1 | ⟨h1, h2⟩
        · obtain ⟨rs', hr'⟩ := hR.ent e h1
          exact ⟨rs', ((hr'.refine hnorx).chg hc (fun k hk e0 => hk.2 e0)).mono (fun k hk => .inl hk.1)⟩
        · rw [h2]
          exact ⟨rs, (hC.chg hc (fun k hk e0 => (hFC k hk).2 e0)).mono (fun k hk => .inr (.inl hk))⟩
      · rcases hk with hk | hk | hk
        · by_cases e0 : k = rx
          · rw [e0]; exact Blk.noB hb9 (by unfold ixT; decide)
          · exact (hR.typ k hk).same (hc.block k (hR.typ k hk).lt e0)
        · exact (hFC k hk).1.same (hc.block k (hFC k hk).1.lt (hFC k hk).2)
        · exact hk.2
      · rcases hk with hk | hk | hk
        · exact .inl hk
        · exact .inr (.inl hk)
        · exact .inr (.inr hk.1)
    | false =>
      have hDv : D = 0 := by rw [← hD]; rfl
      have hb4 := hbox.ext hx13
      have z4 := (show Ext w1 w3 from hx13).size
      have hyl : es.length - (A.length + D) = ((B.drop D).map Ent.key).length := by rw [hlen]; simp; omega
      have hyl2 : es.length - (A.length + D) = (B.drop D).length := by rw [hlen]; simp; omega
      have hkB4 : Sl w3.heap eStr (subp pk ck (A.length + D) 1) (ck - (A.length + D)) ((B.drop D).map Ent.key) := by have := (hks1.ext hx13).drop (l := A.length + D) (by omega); rw [hkB] at this; exact this
      have hxl2 : ((A ++ N).map Ent.key).length ≤ 901 := by simp; omega
      have hxl3 : (A ++ N).length ≤ 901 := by simp; omega
      have hyl3 : (B.drop D).length ≤ 900 := by omega
      have hyl4 : ((B.drop D).map Ent.key).length ≤ 900 := by omega
      repeat' (first | (apply G_on; exact rfl; first | ((first | apply G1_move | apply G1_assign | apply G1_nilCheck); exact rfl; exact rfl) | (apply G1_sliceLoJ (q := A.length + D); exact T.s26; exact rfl; exact rfl; omega; exact hok1; omega; exact rfl) | (apply G1_appendB (xs := (A ++ N).map Ent.key) (ys := (B.drop D).map Ent.key); exact T.s26; exact rfl; exact rfl; exact hl4; exact hyl; exact ho4; exact hkB4; exact rfl; omega; omega; omega; exact rfl; exact rfl; exact rfl; intro p6 c6 w6 ha6) | ((first | apply G1_extract | apply G1_gtr); exact rfl; exact rfl; exact rfl) | (apply G1_nilCheckF; exact rfl; exact rfl) | (apply G1_fieldAddr; (first | exact T.f38_0 | exact T.f38_1); exact rfl; exact rfl) | (apply G1_loadB; (first | exact T.p26 | exact T.p36); exact rfl; assumption; exact rfl; exact rfl) | (apply G1_loadBS; (first | exact T.p26 | exact T.p36); exact rfl; assumption; exact rfl; (first | assumption | (focus (simp [exempt]; omega))); exact rfl) | (apply G1_loadFld; (first | exact T.p26 | exact T.p36); exact rfl; assumption; assumption; exact rfl; exact rfl; exact rfl) | (apply G1_loadEl1; (first | exact T.p26 | exact T.p36); exact rfl; assumption; assumption; exact rfl; exact rfl; exact rfl) | (apply G1_len; exact T.s30; exact rfl; exact rfl) | (apply G1_add; exact rfl; exact rfl; omega; omega; exact rfl)) | apply G_nil | apply Post_next | apply W_seq | apply W_region | (apply W_cond_true; exact rfl) | (apply W_cond_false; exact rfl) | (apply W_cond_dec; exact rfl; all_goals (intro h; try (exfalso; omega))) | (apply W_cond; exact rfl; all_goals intro h) | (apply G_off; exact rfl; exact rfl) | ((fail_if_success (apply G_on; exact rfl)); apply G_split_dec; exact rfl; exact rfl; all_goals (intro h; try (exfalso; omega))) | ((fail_if_success (apply G_on; exact rfl)); apply G_split; exact rfl; exact rfl; all_goals intro h) | apply W_skip | apply W_exit | apply W_ret | apply W_block | apply Post_then_ret | apply Post_block_ret | apply Post_then_exit | apply Post_block_exit | (apply Post_block_other; exact rfl) | apply Post_block_normal)
      all_goals try (exfalso; omega)
      have hx6 : Ext w1 w6 := Ext.app hx13 ha6 (fun k hk => (ho4.ge k hk).1)
      have z6 := hx6.size
      have hb6 := hbox.ext hx6
      have ho56 : Go.V.Own w6 w1.heap.size 30 eChn p3 c3 (A ++ N) := ho5.kept ha6.grown (fun a ha e0 => ho4.neT ho5 (by decide) a ha e0)
      have ho66 := ha6.own
      apply G_on; exact rfl; apply G1_storeB; exact T.z26; exact rfl; exact rfl; exact hb6; exact rfl; exact rfl; (first | exact Nat.le_of_ble_eq_true rfl | (focus (simp [Value.cells]; done))); (first | exact Enc.one _ _ | (focus (simp [Value.oneCell']; done)) | (focus (simp [Value.cells, Value.oneCell']; done)) | exact Enc.oneAgg _ _); exact rfl; (first | exact .inl rfl | exact .inr (by simp [exempt])); exact rfl; intro w7 hb7 hg7 hs7
      have ho57 : Go.V.Own w7 w1.heap.size 30 eChn p3 c3 (A ++ N) := ho56.kept hg7 (fun a ha e0 => ho56.neB hb6 (by decide) (by rw [ha]; exact e0.symm))
      have ho67 : Go.V.Own w7 w1.heap.size 9 eStr p6 c6 ((A ++ N).map Ent.key ++ (B.drop D).map Ent.key) := ho66.kept hg7 (fun a ha e0 => ho66.neB hb6 (by decide) (by rw [ha]; exact e0.symm))
      have hch6 := hR1.chs.ext hx6
      have hch7 : Go.V.Own w7 0 30 eChn pc cc es := hch6.kept hg7 (fun a ha e0 => hch6.neB hb6 (by decide) (by rw [ha]; exact e0.symm))
      have hcB7 : Sl w7.heap eChn (subp pc cc (A.length + D) 1) (cc - (A.length + D)) (B.drop D) := by have := hch7.sl.drop (l := A.length + D) (by omega); rw [hcB] at this; exact this
      repeat' (first | (apply G_on; exact rfl; first | ((first | apply G1_move | apply G1_assign | apply G1_nilCheck); exact rfl; exact rfl) | (apply G1_sliceLoJ (q := A.length + D); exact T.s36; exact rfl; exact rfl; omega; exact hch7.sl.ok; omega; exact rfl) | (apply G1_appendB (e := eChn) (xs := A ++ N) (ys := B.drop D); exact T.s36; exact rfl; exact rfl; exact hl5; exact hyl2; exact ho57; exact hcB7; exact rfl; omega; omega; omega; exact rfl; exact rfl; exact rfl; intro p8 c8 w8 ha8) | ((first | apply G1_extract | apply G1_gtr); exact rfl; exact rfl; exact rfl) | (apply G1_nilCheckF; exact rfl; exact rfl) | (apply G1_fieldAddr; (first | exact T.f38_0 | exact T.f38_1); exact rfl; exact rfl) | (apply G1_loadB; (first | exact T.p26 | exact T.p36); exact rfl; assumption; exact rfl; exact rfl) | (apply G1_loadBS; (first | exact T.p26 | exact T.p36); exact rfl; assumption; exact rfl; (first | assumption | (focus (simp [exempt]; omega))); exact rfl) | (apply G1_loadFld; (first | exact T.p26 | exact T.p36); exact rfl; assumption; assumption; exact rfl; exact rfl; exact rfl) | (apply G1_loadEl1; (first | exact T.p26 | exact T.p36); exact rfl; assumption; assumption; exact rfl; exact rfl; exact rfl) | (apply G1_len; exact T.s30; exact rfl; exact rfl) | (apply G1_add; exact rfl; exact rfl; omega; omega; exact rfl)) | apply G_nil | apply Post_next | apply W_seq | apply W_region | (apply W_cond_true; exact rfl) | (apply W_cond_false; exact rfl) | (apply W_cond_dec; exact rfl; all_goals (intro h; try (exfalso; omega))) | (apply W_cond; exact rfl; all_goals intro h) | (apply G_off; exact rfl; exact rfl) | ((fail_if_success (apply G_on; exact rfl)); apply G_split_dec; exact rfl; exact rfl; all_goals (intro h; try (exfalso; omega))) | ((fail_if_success (apply G_on; exact rfl)); apply G_split; exact rfl; exact rfl; all_goals intro h) | apply W_skip | apply W_exit | apply W_ret | apply W_block | apply Post_then_ret | apply Post_block_ret | apply Post_then_exit | apply Post_block_exit | (apply Post_block_other; exact rfl) | apply Post_block_normal)
      have hb8 := hb7.grown ha8.grown (ho57.neB hb7 (by decide))
      have ho68 : Go.V.Own w8 w1.heap.size 9 eStr p6 c6 ((A ++ N).map Ent.key ++ (B.drop D).map Ent.key) := ho67.kept ha8.grown (fun a ha e0 => ho57.neT ho67 (by decide) a ha e0)
      have ho88 := ha8.own
      apply G_on; exact rfl; apply G1_storeB; exact T.z36; exact rfl; exact rfl; exact hb8; exact rfl; exact rfl; (first | exact Nat.le_of_ble_eq_true rfl | (focus (simp [Value.cells]; done))); (first | exact Enc.one _ _ | (focus (simp [Value.oneCell']; done)) | (focus (simp [Value.cells, Value.oneCell']; done)) | exact Enc.oneAgg _ _); exact rfl; (first | exact .inl rfl | exact .inr (by simp [exempt])); exact rfl; intro w9 hb9 hg9 hs9
      have ho69 : Go.V.Own w9 w1.heap.size 9 eStr p6 c6 ((A ++ N).map Ent.key ++ (B.drop D).map Ent.key) := ho68.kept hg9 (fun a ha e0 => ho68.neB hb8 (by decide) (by rw [ha]; exact e0.symm))
      have ho89 : Go.V.Own w9 w1.heap.size 30 eChn p8 c8 (A ++ N ++ B.drop D) := ho88.kept hg9 (fun a ha e0 => ho88.neB hb8 (by decide) (by rw [ha]; exact e0.symm))
      repeat' (first | (apply G_on; exact rfl; first | ((first | apply G1_move | apply G1_assign | apply G1_nilCheck); exact rfl; exact rfl) | ((first | apply G1_extract | apply G1_gtr); exact rfl; exact rfl; exact rfl) | (apply G1_nilCheckF; exact rfl; exact rfl) | (apply G1_fieldAddr; (first | exact T.f38_0 | exact T.f38_1); exact rfl; exact rfl) | (apply G1_loadB; (first | exact T.p26 | exact T.p36); exact rfl; assumption; exact rfl; exact rfl) | (apply G1_loadBS; (first | exact T.p26 | exact T.p36); exact rfl; assumption; exact rfl; (first | assumption | (focus (simp [exempt]; omega))); exact rfl) | (apply G1_loadFld; (first | exact T.p26 | exact T.p36); exact rfl; assumption; assumption; exact rfl; exact rfl; exact rfl) | (apply G1_loadEl1; (first | exact T.p26 | exact T.p36); exact rfl; assumption; assumption; exact rfl; exact rfl; exact rfl) | (apply G1_len; exact T.s30; exact rfl; exact rfl) | (apply G1_add; exact rfl; exact rfl; omega; omega; exact rfl)) | apply G_nil | apply Post_next | apply W_seq | apply W_region | (apply W_cond_true; exact rfl) | (apply W_cond_false; exact rfl) | (apply W_cond_dec; exact rfl; all_goals (intro h; try (exfalso; omega))) | (apply W_cond; exact rfl; all_goals intro h) | (apply G_off; exact rfl; exact rfl) | ((fail_if_success (apply G_on; exact rfl)); apply G_split_dec; exact rfl; exact rfl; all_goals (intro h; try (exfalso; omega))) | ((fail_if_success (apply G_on; exact rfl)); apply G_split; exact rfl; exact rfl; all_goals intro h) | apply W_skip | apply W_exit | apply W_ret | apply W_block | apply Post_then_ret | apply Post_block_ret | apply Post_then_exit | apply Post_block_exit | (apply Post_block_other; exact rfl) | apply Post_block_normal)
      refine Post_end Try.results17 (vs := []) rfl ?_
      have hix : ∀ k, some rx = some k → k = rx := fun k hk => by injection hk with hk; exact hk.symm
      have zw := hx1.size
      have hc : Chg (fun k => k = rx) w w9 := (((Chg.ext (hx1.trans hx6)).step hg7 (fun k hk _ => hix k hk)).step ha8.grown (fun k hk hlt => by have := (ho57.ge k hk).1; omega)).step hg9 (fun k hk _ => hix k hk)
      have hkm : (A ++ N).map Ent.key ++ (B.drop D).map Ent.key = (A ++ N ++ B.drop D).map Ent.key := by rw [List.map_append (l₂ := B.drop D)]
      rw [hkm] at ho69
      replace hb9 : Blk w9.heap rx 38 [.slice p6 ((A ++ N).map Ent.key ++ (B.drop D).map Ent.key).length c6, .slice p8 (A ++ N ++ B.drop D).length c8] := hb9
      rw [hkm, List.length_map] at hb9
      have hnorx : ∀ k T cur, (T = 50 ∨ T = 101 ∨ T = 9 ∨ T = 105) → w.heap[k]? = some (.cells cur T (0, 0)) → k ≠ rx := fun k T cur hT hk e0 => by
        have h2 := hR.box
        unfold Blk at h2
        rw [e0, h2] at hk
        injection hk with hk; injection hk with _ hk
        rcases hT with h | h | h | h <;> (rw [h] at hk; exact absurd hk (by decide))
      refine ⟨fun k => F k ∨ FC k ∨ (w.heap.size ≤ k ∧ NoB w9 k), p6, c6, p8, c8, A ++ N ++ B.drop D, ⟨hb9, ho69.base (Nat.zero_le _), ho89.base (Nat.zero_le _), fun e he => ?_, .inl hR.fx, fun k hk => .inr (.inr ⟨by have := (ho69.ge k hk).1; omega, Own.noB ho69 notIx.2.2.1 hk⟩), fun k hk => .inr (.inr ⟨by have := (ho89.ge k hk).1; omega, Own.noB ho89 (by unfold ixT; decide) hk⟩), fun k hk => ?_⟩, rfl, fun k hk => ?_, hc⟩
      · rcases hes' e he with h1 | ⟨h1, h2⟩
        · obtain ⟨rs', hr'⟩ := hR.ent e h1
          exact ⟨rs', ((hr'.refine hnorx).chg hc (fun k hk e0 => hk.2 e0)).mono (fun k hk => .inl hk.1)⟩
        · rw [h2]
          exact ⟨rs, (hC.chg hc (fun k hk e0 => (hFC k hk).2 e0)).mono (fun k hk => .inr (.inl hk))⟩
      · rcases hk with hk | hk | hk
        · by_cases e0 : k = rx
          · rw [e0]; exact Blk.noB hb9 (by unfold ixT; decide)
          · exact (hR.typ k hk).same (hc.block k (hR.typ k hk).lt e0)
        · exact (hFC k hk).1.same (hc.block k (hFC k hk).1.lt (hFC k hk).2)
        · exact hk.2
      · rcases hk with hk | hk | hk
        · exact .inl hk
        · exact .inr (.inl hk)
        · exact .inr (.inr hk.1)
  · have hvn : vs ≠ [] := fun e => hv0 (by rw [e]; rfl)
    have hN0 : N = [⟨key, p, c, vs⟩] := by rw [hN, if_neg hvn]
    repeat' (first | (apply G_on; exact rfl; first | ((first | apply G1_move | apply G1_assign | apply G1_nilCheck); exact rfl; exact rfl) | ((first | apply G1_extract | apply G1_gtr); exact rfl; exact rfl; exact rfl) | (apply G1_nilCheckF; exact rfl; exact rfl) | (apply G1_fieldAddr; (first | exact T.f38_0 | exact T.f38_1); exact rfl; exact rfl) | (apply G1_loadB; (first | exact T.p26 | exact T.p36); exact rfl; assumption; exact rfl; exact rfl) | (apply G1_loadBS; (first | exact T.p26 | exact T.p36); exact rfl; assumption; exact rfl; (first | assumption | (focus (simp [exempt]; omega))); exact rfl) | (apply G1_loadFld; (first | exact T.p26 | exact T.p36); exact rfl; assumption; assumption; exact rfl; exact rfl; exact rfl) | (apply G1_loadEl1; (first | exact T.p26 | exact T.p36); exact rfl; assumption; assumption; exact rfl; exact rfl; exact rfl) | (apply G1_len; exact T.s30; exact rfl; exact rfl) | (apply G1_add; exact rfl; exact rfl; omega; omega; exact rfl)) | apply G_nil | apply Post_next | apply W_seq | apply W_region | (apply W_cond_true; exact rfl) | (apply W_cond_false; exact rfl) | (apply W_cond_dec; exact rfl; all_goals (intro h; try (exfalso; omega))) | (apply W_cond; exact rfl; all_goals intro h) | (apply G_off; exact rfl; exact rfl) | ((fail_if_success (apply G_on; exact rfl)); apply G_split_dec; exact rfl; exact rfl; all_goals (intro h; try (exfalso; omega))) | ((fail_if_success (apply G_on; exact rfl)); apply G_split; exact rfl; exact rfl; all_goals intro h) | apply W_skip | apply W_exit | apply W_ret | apply W_block | apply Post_then_ret | apply Post_block_ret | apply Post_then_exit | apply Post_block_exit | (apply Post_block_other; exact rfl) | apply Post_block_normal)
    all_goals try (exfalso; omega)
    apply G_on; exact rfl
    apply G1_build1 eStr key; exact T.s26; exact rfl; exact rfl; exact rfl; decide; exact rfl; exact rfl
    intro pm wm hpm hsm _ hxm hzm
    have hom := ho2.ext hxm
    repeat' (first | (apply G_on; exact rfl; first | ((first | apply G1_move | apply G1_assign | apply G1_nilCheck); exact rfl; exact rfl) | (apply G1_appendA (xs := A.map Ent.key) (ys := [key]); exact T.s26; exact rfl; exact rfl; exact hom; exact hsm; exact rfl; omega; (simp only [List.length_cons, List.length_nil]; omega); (simp only [List.length_cons, List.length_nil]; omega); exact rfl; exact rfl; exact rfl; intro pn cn wn han) | ((first | apply G1_extract | apply G1_gtr); exact rfl; exact rfl; exact rfl) | (apply G1_nilCheckF; exact rfl; exact rfl) | (apply G1_fieldAddr; (first | exact T.f38_0 | exact T.f38_1); exact rfl; exact rfl) | (apply G1_loadB; (first | exact T.p26 | exact T.p36); exact rfl; assumption; exact rfl; exact rfl) | (apply G1_loadBS; (first | exact T.p26 | exact T.p36); exact rfl; assumption; exact rfl; (first | assumption | (focus (simp [exempt]; omega))); exact rfl) | (apply G1_loadFld; (first | exact T.p26 | exact T.p36); exact rfl; assumption; assumption; exact rfl; exact rfl; exact rfl) | (apply G1_loadEl1; (first | exact T.p26 | exact T.p36); exact rfl; assumption; assumption; exact rfl; exact rfl; exact rfl) | (apply G1_len; exact T.s30; exact rfl; exact rfl) | (apply G1_add; exact rfl; exact rfl; omega; omega; exact rfl)) | apply G_nil | apply Post_next | apply W_seq | apply W_region | (apply W_cond_true; exact rfl) | (apply W_cond_false; exact rfl) | (apply W_cond_dec; exact rfl; all_goals (intro h; try (exfalso; omega))) | (apply W_cond; exact rfl; all_goals intro h) | (apply G_off; exact rfl; exact rfl) | ((fail_if_success (apply G_on; exact rfl)); apply G_split_dec; exact rfl; exact rfl; all_goals (intro h; try (exfalso; omega))) | ((fail_if_success (apply G_on; exact rfl)); apply G_split; exact rfl; exact rfl; all_goals intro h) | apply W_skip | apply W_exit | apply W_ret | apply W_block | apply Post_then_ret | apply Post_block_ret | apply Post_then_exit | apply Post_block_exit | (apply Post_block_other; exact rfl) | apply Post_block_normal)
    have hxn : Ext w1 wn := (hx13.trans hxm).app han (fun k hk => (hom.ge k hk).1)
    have hon := han.own
    have ho3n : Go.V.Own wn w1.heap.size 30 eChn p3 c3 A := (ho3.ext hxm).kept han.grown (fun a ha e0 => hom.neT (ho3.ext hxm) (by decide) a ha e0)
    have zn := hxn.size
    repeat' (first | (apply G_on; exact rfl; first | ((first | apply G1_move | apply G1_assign | apply G1_nilCheck); exact rfl; exact rfl) | ((first | apply G1_extract | apply G1_gtr); exact rfl; exact rfl; exact rfl) | (apply G1_nilCheckF; exact rfl; exact rfl) | (apply G1_fieldAddr; (first | exact T.f38_0 | exact T.f38_1); exact rfl; exact rfl) | (apply G1_loadB; (first | exact T.p26 | exact T.p36); exact rfl; assumption; exact rfl; exact rfl) | (apply G1_loadBS; (first | exact T.p26 | exact T.p36); exact rfl; assumption; exact rfl; (first | assumption | (focus (simp [exempt]; omega))); exact rfl) | (apply G1_loadFld; (first | exact T.p26 | exact T.p36); exact rfl; assumption; assumption; exact rfl; exact rfl; exact rfl) | (apply G1_loadEl1; (first | exact T.p26 | exact T.p36); exact rfl; assumption; assumption; exact rfl; exact rfl; exact rfl) | (apply G1_len; exact T.s30; exact rfl; exact rfl) | (apply G1_add; exact rfl; exact rfl; omega; omega; exact rfl)) | apply G_nil | apply Post_next | apply W_seq | apply W_region | (apply W_cond_true; exact rfl) | (apply W_cond_false; exact rfl) | (apply W_cond_dec; exact rfl; all_goals (intro h; try (exfalso; omega))) | (apply W_cond; exact rfl; all_goals intro h) | (apply G_off; exact rfl; exact rfl) | ((fail_if_success (apply G_on; exact rfl)); apply G_split_dec; exact rfl; exact rfl; all_goals (intro h; try (exfalso; omega))) | ((fail_if_success (apply G_on; exact rfl)); apply G_split; exact rfl; exact rfl; all_goals intro h) | apply W_skip | apply W_exit | apply W_ret | apply W_block | apply Post_then_ret | apply Post_block_ret | apply Post_then_exit | apply Post_block_exit | (apply Post_block_other; exact rfl) | apply Post_block_normal)
    apply G_on; exact rfl
    apply G1_build1 eChn ⟨key, p, c, vs⟩; exact T.s36; exact rfl; exact rfl; exact rfl; decide; exact rfl; exact rfl
    intro pq wq hpq hsq _ hxq hzq
    have hoq := ho3n.ext hxq
    repeat' (first | (apply G_on; exact rfl; first | ((first | apply G1_move | apply G1_assign | apply G1_nilCheck); exact rfl; exact rfl) | ((first | apply G1_extract | apply G1_gtr); exact rfl; exact rfl; exact rfl) | (apply G1_nilCheckF; exact rfl; exact rfl) | (apply G1_fieldAddr; (first | exact T.f38_0 | exact T.f38_1); exact rfl; exact rfl) | (apply G1_loadB; (first | exact T.p26 | exact T.p36); exact rfl; assumption; exact rfl; exact rfl) | (apply G1_loadBS; (first | exact T.p26 | exact T.p36); exact rfl; assumption; exact rfl; (first | assumption | (focus (simp [exempt]; omega))); exact rfl) | (apply G1_loadFld; (first | exact T.p26 | exact T.p36); exact rfl; assumption; assumption; exact rfl; exact rfl; exact rfl) | (apply G1_loadEl1; (first | exact T.p26 | exact T.p36); exact rfl; assumption; assumption; exact rfl; exact rfl; exact rfl) | (apply G1_len; exact T.s30; exact rfl; exact rfl) | (apply G1_add; exact rfl; exact rfl; omega; omega; exact rfl)) | apply G_nil | apply Post_next | apply W_seq | apply W_region | (apply W_cond_true; exact rfl) | (apply W_cond_false; exact rfl) | (apply W_cond_dec; exact rfl; all_goals (intro h; try (exfalso; omega))) | (apply W_cond; exact rfl; all_goals intro h) | (apply G_off; exact rfl; exact rfl) | ((fail_if_success (apply G_on; exact rfl)); apply G_split_dec; exact rfl; exact rfl; all_goals (intro h; try (exfalso; omega))) | ((fail_if_success (apply G_on; exact rfl)); apply G_split; exact rfl; exact rfl; all_goals intro h) | apply W_skip | apply W_exit | apply W_ret | apply W_block | apply Post_then_ret | apply Post_block_ret | apply Post_then_exit | apply Post_block_exit | (apply Post_block_other; exact rfl) | apply Post_block_normal)
    apply G_on; exact rfl
    (apply G1_appendA (e := eChn) (xs := A) (ys := [⟨key, p, c, vs⟩]); exact T.s36; exact rfl; exact rfl; exact hoq; exact hsq; exact rfl; omega; (simp only [List.length_cons, List.length_nil]; omega); (simp only [List.length_cons, List.length_nil]; omega); exact rfl; exact rfl; exact rfl; intro p3 c3 wr har)
    have hxr : Ext w1 wr := (hxn.trans hxq).app har (fun k hk => (hoq.ge k hk).1)
    obtain ⟨p2, c2, hp2, hc2⟩ : ∃ p2 c2, p2 = pn ∧ c2 = cn := ⟨_, _, rfl, rfl⟩
    subst hp2 hc2
    have ho4 : Go.V.Own wr w1.heap.size 9 eStr p2 c2 ((A ++ N).map Ent.key) := by
      have := (hon.ext hxq).kept har.grown (fun a ha e0 => hoq.neT (hon.ext hxq) (by decide) a ha e0)
      rw [hN0, List.map_append]; exact this
    have ho5 : Go.V.Own wr w1.heap.size 30 eChn p3 c3 (A ++ N) := by rw [hN0]; exact har.own
    have hl4 : (A.map Ent.key ++ [key]).length = ((A ++ N).map Ent.key).length := by rw [hN0]; simp
    have hl5 : (A ++ [(⟨key, p, c, vs⟩ : Ent)]).length = (A ++ N).length := by rw [hN0]
    cases ok with
    | true =>
      have hDv : D = 1 := by rw [← hD]; rfl
      have hb4 := hbox.ext hxr
      have z4 := (show Ext w1 wr from hxr).size
      have hyl : es.length - (A.length + D) = ((B.drop D).map Ent.key).length := by rw [hlen]; simp; omega
      have hyl2 : es.length - (A.length + D) = (B.drop D).length := by rw [hlen]; simp; omega
      have hkB4 : Sl wr.heap eStr (subp pk ck (A.length + D) 1) (ck - (A.length + D)) ((B.drop D).map Ent.key) := by have := (hks1.ext hxr).drop (l := A.length + D) (by omega); rw [hkB] at this; exact this
      have hxl2 : ((A ++ N).map Ent.key).length ≤ 901 := by simp; omega
      have hxl3 : (A ++ N).length ≤ 901 := by simp; omega
      have hyl3 : (B.drop D).length ≤ 900 := by omega
      have hyl4 : ((B.drop D).map Ent.key).length ≤ 900 := by omega
      repeat' (first | (apply G_on; exact rfl; first | ((first | apply G1_move | apply G1_assign | apply G1_nilCheck); exact rfl; exact rfl) | (apply G1_sliceLoJ (q := A.length + D); exact T.s26; exact rfl; exact rfl; omega; exact hok1; omega; exact rfl) | (apply G1_appendB (xs := (A ++ N).map Ent.key) (ys := (B.drop D).map Ent.key); exact T.s26; exact rfl; exact rfl; exact hl4; exact hyl; exact ho4; exact hkB4; exact rfl; omega; omega; omega; exact rfl; exact rfl; exact rfl; intro p6 c6 w6 ha6) | ((first | apply G1_extract | apply G1_gtr); exact rfl; exact rfl; exact rfl) | (apply G1_nilCheckF; exact rfl; exact rfl) | (apply G1_fieldAddr; (first | exact T.f38_0 | exact T.f38_1); exact rfl; exact rfl) | (apply G1_loadB; (first | exact T.p26 | exact T.p36); exact rfl; assumption; exact rfl; exact rfl) | (apply G1_loadBS; (first | exact T.p26 | exact T.p36); exact rfl; assumption; exact rfl; (first | assumption | (focus (simp [exempt]; omega))); exact rfl) | (apply G1_loadFld; (first | exact T.p26 | exact T.p36); exact rfl; assumption; assumption; exact rfl; exact rfl; exact rfl) | (apply G1_loadEl1; (first | exact T.p26 | exact T.p36); exact rfl; assumption; assumption; exact rfl; exact rfl; exact rfl) | (apply G1_len; exact T.s30; exact rfl; exact rfl) | (apply G1_add; exact rfl; exact rfl; omega; omega; exact rfl)) | apply G_nil | apply Post_next | apply W_seq | apply W_region | (apply W_cond_true; exact rfl) | (apply W_cond_false; exact rfl) | (apply W_cond_dec; exact rfl; all_goals (intro h; try (exfalso; omega))) | (apply W_cond; exact rfl; all_goals intro h) | (apply G_off; exact rfl; exact rfl) | ((fail_if_success (apply G_on; exact rfl)); apply G_split_dec; exact rfl; exact rfl; all_goals (intro h; try (exfalso; omega))) | ((fail_if_success (apply G_on; exact rfl)); apply G_split; exact rfl; exact rfl; all_goals intro h) | apply W_skip | apply W_exit | apply W_ret | apply W_block | apply Post_then_ret | apply Post_block_ret | apply Post_then_exit | apply Post_block_exit | (apply Post_block_other; exact rfl) | apply Post_block_normal)
      all_goals try (exfalso; omega)
      have hx6 : Ext w1 w6 := Ext.app hxr ha6 (fun k hk => (ho4.ge k hk).1)
      have z6 := hx6.size
      have hb6 := hbox.ext hx6
      have ho56 : Go.V.Own w6 w1.heap.size 30 eChn p3 c3 (A ++ N) := ho5.kept ha6.grown (fun a ha e0 => ho4.neT ho5 (by decide) a ha e0)
      have ho66 := ha6.own
      apply G_on; exact rfl; apply G1_storeB; exact T.z26; exact rfl; exact rfl; exact hb6; exact rfl; exact rfl; (first | exact Nat.le_of_ble_eq_true rfl | (focus (simp [Value.cells]; done))); (first | exact Enc.one _ _ | (focus (simp [Value.oneCell']; done)) | (focus (simp [Value.cells, Value.oneCell']; done)) | exact Enc.oneAgg _ _); exact rfl; (first | exact .inl rfl | exact .inr (by simp [exempt])); exact rfl; intro w7 hb7 hg7 hs7
      have ho57 : Go.V.Own w7 w1.heap.size 30 eChn p3 c3 (A ++ N) := ho56.kept hg7 (fun a ha e0 => ho56.neB hb6 (by decide) (by rw [ha]; exact e0.symm))
      have ho67 : Go.V.Own w7 w1.heap.size 9 eStr p6 c6 ((A ++ N).map Ent.key ++ (B.drop D).map Ent.key) := ho66.kept hg7 (fun a ha e0 => ho66.neB hb6 (by decide) (by rw [ha]; exact e0.symm))
      have hch6 := hR1.chs.ext hx6
      have hch7 : Go.V.Own w7 0 30 eChn pc cc es := hch6.kept hg7 (fun a ha e0 => hch6.neB hb6 (by decide) (by rw [ha]; exact e0.symm))
      have hcB7 : Sl w7.heap eChn (subp pc cc (A.length + D) 1) (cc - (A.length + D)) (B.drop D) := by have := hch7.sl.drop (l := A.length + D) (by omega); rw [hcB] at this; exact this
      repeat' (first | (apply G_on; exact rfl; first | ((first | apply G1_move | apply G1_assign | apply G1_nilCheck); exact rfl; exact rfl) | (apply G1_sliceLoJ (q := A.length + D); exact T.s36; exact rfl; exact rfl; omega; exact hch7.sl.ok; omega; exact rfl) | (apply G1_appendB (e := eChn) (xs := A ++ N) (ys := B.drop D); exact T.s36; exact rfl; exact rfl; exact hl5; exact hyl2; exact ho57; exact hcB7; exact rfl; omega; omega; omega; exact rfl; exact rfl; exact rfl; intro p8 c8 w8 ha8) | ((first | apply G1_extract | apply G1_gtr); exact rfl; exact rfl; exact rfl) | (apply G1_nilCheckF; exact rfl; exact rfl) | (apply G1_fieldAddr; (first | exact T.f38_0 | exact T.f38_1); exact rfl; exact rfl) | (apply G1_loadB; (first | exact T.p26 | exact T.p36); exact rfl; assumption; exact rfl; exact rfl) | (apply G1_loadBS; (first | exact T.p26 | exact T.p36); exact rfl; assumption; exact rfl; (first | assumption | (focus (simp [exempt]; omega))); exact rfl) | (apply G1_loadFld; (first | exact T.p26 | exact T.p36); exact rfl; assumption; assumption; exact rfl; exact rfl; exact rfl) | (apply G1_loadEl1; (first | exact T.p26 | exact T.p36); exact rfl; assumption; assumption; exact rfl; exact rfl; exact rfl) | (apply G1_len; exact T.s30; exact rfl; exact rfl) | (apply G1_add; exact rfl; exact rfl; omega; omega; exact rfl)) | apply G_nil | apply Post_next | apply W_seq | apply W_region | (apply W_cond_true; exact rfl) | (apply W_cond_false; exact rfl) | (apply W_cond_dec; exact rfl; all_goals (intro h; try (exfalso; omega))) | (apply W_cond; exact rfl; all_goals intro h) | (apply G_off; exact rfl; exact rfl) | ((fail_if_success (apply G_on; exact rfl)); apply G_split_dec; exact rfl; exact rfl; all_goals (intro h; try (exfalso; omega))) | ((fail_if_success (apply G_on; exact rfl)); apply G_split; exact rfl; exact rfl; all_goals intro h) | apply W_skip | apply W_exit | apply W_ret | apply W_block | apply Post_then_ret | apply Post_block_ret | apply Post_then_exit | apply Post_block_exit | (apply Post_block_other; exact rfl) | apply Post_block_normal)
      have hb8 := hb7.grown ha8.grown (ho57.neB hb7 (by decide))
      have ho68 : Go.V.Own w8 w1.heap.size 9 eStr p6 c6 ((A ++ N).map Ent.key ++ (B.drop D).map Ent.key) := ho67.kept ha8.grown (fun a ha e0 => ho57.neT ho67 (by decide) a ha e0)
      have ho88 := ha8.own
      apply G_on; exact rfl; apply G1_storeB; exact T.z36; exact rfl; exact rfl; exact hb8; exact rfl; exact rfl; (first | exact Nat.le_of_ble_eq_true rfl | (focus (simp [Value.cells]; done))); (first | exact Enc.one _ _ | (focus (simp [Value.oneCell']; done)) | (focus (simp [Value.cells, Value.oneCell']; done)) | exact Enc.oneAgg _ _); exact rfl; (first | exact .inl rfl | exact .inr (by simp [exempt])); exact rfl; intro w9 hb9 hg9 hs9
      have ho69 : Go.V.Own w9 w1.heap.size 9 eStr p6 c6 ((A ++ N).map Ent.key ++ (B.drop D).map Ent.key) := ho68.kept hg9 (fun a ha e0 => ho68.neB hb8 (by decide) (by rw [ha]; exact e0.symm))
      have ho89 : Go.V.Own w9 w1.heap.size 30 eChn p8 c8 (A ++ N ++ B.drop D) := ho88.kept hg9 (fun a ha e0 => ho88.neB hb8 (by decide) (by rw [ha]; exact e0.symm))
      repeat' (first | (apply G_on; exact rfl; first | ((first | apply G1_move | apply G1_assign | apply G1_nilCheck); exact rfl; exact rfl) | ((first | apply G1_extract | apply G1_gtr); exact rfl; exact rfl; exact rfl) | (apply G1_nilCheckF; exact rfl; exact rfl) | (apply G1_fieldAddr; (first | exact T.f38_0 | exact T.f38_1); exact rfl; exact rfl) | (apply G1_loadB; (first | exact T.p26 | exact T.p36); exact rfl; assumption; exact rfl; exact rfl) | (apply G1_loadBS; (first | exact T.p26 | exact T.p36); exact rfl; assumption; exact rfl; (first | assumption | (focus (simp [exempt]; omega))); exact rfl) | (apply G1_loadFld; (first | exact T.p26 | exact T.p36); exact rfl; assumption; assumption; exact rfl; exact rfl; exact rfl) | (apply G1_loadEl1; (first | exact T.p26 | exact T.p36); exact rfl; assumption; assumption; exact rfl; exact rfl; exact rfl) | (apply G1_len; exact T.s30; exact rfl; exact rfl) | (apply G1_add; exact rfl; exact rfl; omega; omega; exact rfl)) | apply G_nil | apply Post_next | apply W_seq | apply W_region | (apply W_cond_true; exact rfl) | (apply W_cond_false; exact rfl) | (apply W_cond_dec; exact rfl; all_goals (intro h; try (exfalso; omega))) | (apply W_cond; exact rfl; all_goals intro h) | (apply G_off; exact rfl; exact rfl) | ((fail_if_success (apply G_on; exact rfl)); apply G_split_dec; exact rfl; exact rfl; all_goals (intro h; try (exfalso; omega))) | ((fail_if_success (apply G_on; exact rfl)); apply G_split; exact rfl; exact rfl; all_goals intro h) | apply W_skip | apply W_exit | apply W_ret | apply W_block | apply Post_then_ret | apply Post_block_ret | apply Post_then_exit | apply Post_block_exit | (apply Post_block_other; exact rfl) | apply Post_block_normal)
      refine Post_end Try.results17 (vs := []) rfl ?_
      have hix : ∀ k, some rx = some k → k = rx := fun k hk => by injection hk with hk; exact hk.symm
      have zw := hx1.size
      have hc : Chg (fun k => k = rx) w w9 := (((Chg.ext (hx1.trans hx6)).step hg7 (fun k hk _ => hix k hk)).step ha8.grown (fun k hk hlt => by have := (ho57.ge k hk).1; omega)).step hg9 (fun k hk _ => hix k hk)
      have hkm : (A ++ N).map Ent.key ++ (B.drop D).map Ent.key = (A ++ N ++ B.drop D).map Ent.key := by rw [List.map_append (l₂ := B.drop D)]
      rw [hkm] at ho69
      replace hb9 : Blk w9.heap rx 38 [.slice p6 ((A ++ N).map Ent.key ++ (B.drop D).map Ent.key).length c6, .slice p8 (A ++ N ++ B.drop D).length c8] := hb9
      rw [hkm, List.length_map] at hb9
      have hnorx : ∀ k T cur, (T = 50 ∨ T = 101 ∨ T = 9 ∨ T = 105) → w.heap[k]? = some (.cells cur T (0, 0)) → k ≠ rx := fun k T cur hT hk e0 => by
        have h2 := hR.box
        unfold Blk at h2
        rw [e0, h2] at hk
        injection hk with hk; injection hk with _ hk
        rcases hT with h | h | h | h <;> (rw [h] at hk; exact absurd hk (by decide))
      refine ⟨fun k => F k ∨ FC k ∨ (w.heap.size ≤ k ∧ NoB w9 k), p6, c6, p8, c8, A ++ N ++ B.drop D, ⟨hb9, ho69.base (Nat.zero_le _), ho89.base (Nat.zero_le _), fun e he => ?_, .inl hR.fx, fun k hk => .inr (.inr ⟨by have := (ho69.ge k hk).1; omega, Own.noB ho69 notIx.2.2.1 hk⟩), fun k hk => .inr (.inr ⟨by have := (ho89.ge k hk).1; omega, Own.noB ho89 (by unfold ixT; decide) hk⟩), fun k hk => ?_⟩, rfl, fun k hk => ?_, hc⟩
      · rcases hes' e he with h1 | ⟨h1, h2⟩
        · obtain ⟨rs', hr'⟩ := hR.ent e h1
          exact ⟨rs', ((hr'.refine hnorx).chg hc (fun k hk e0 => hk.2 e0)).mono (fun k hk => .inl hk.1)⟩
        · rw [h2]
          exact ⟨rs, (hC.chg hc (fun k hk e0 => (hFC k hk).2 e0)).mono (fun k hk => .inr (.inl hk))⟩
      · rcases hk with hk | hk | hk
        · by_cases e0 : k = rx
          · rw [e0]; exact Blk.noB hb9 (by unfold ixT; decide)
          · exact (hR.typ k hk).same (hc.block k (hR.typ k hk).lt e0)
        · exact (hFC k hk).1.same (hc.block k (hFC k hk).1.lt (hFC k hk).2)
        · exact hk.2
      · rcases hk with hk | hk | hk
        · exact .inl hk
        · exact .inr (.inl hk)
        · exact .inr (.inr hk.1)
    | false =>
      have hDv : D = 0 := by rw [← hD]; rfl
      have hb4 := hbox.ext hxr
      have z4 := (show Ext w1 wr from hxr).size
      have hyl : es.length - (A.length + D) = ((B.drop D).map Ent.key).length := by rw [hlen]; simp; omega
      have hyl2 : es.length - (A.length + D) = (B.drop D).length := by rw [hlen]; simp; omega
      have hkB4 : Sl wr.heap eStr (subp pk ck (A.length + D) 1) (ck - (A.length + D)) ((B.drop D).map Ent.key) := by have := (hks1.ext hxr).drop (l := A.length + D) (by omega); rw [hkB] at this; exact this
      have hxl2 : ((A ++ N).map Ent.key).length ≤ 901 := by simp; omega
      have hxl3 : (A ++ N).length ≤ 901 := by simp; omega
      have hyl3 : (B.drop D).length ≤ 900 := by omega
      have hyl4 : ((B.drop D).map Ent.key).length ≤ 900 := by omega
      repeat' (first | (apply G_on; exact rfl; first | ((first | apply G1_move | apply G1_assign | apply G1_nilCheck); exact rfl; exact rfl) | (apply G1_sliceLoJ (q := A.length + D); exact T.s26; exact rfl; exact rfl; omega; exact hok1; omega; exact rfl) | (apply G1_appendB (xs := (A ++ N).map Ent.key) (ys := (B.drop D).map Ent.key); exact T.s26; exact rfl; exact rfl; exact hl4; exact hyl; exact ho4; exact hkB4; exact rfl; omega; omega; omega; exact rfl; exact rfl; exact rfl; intro p6 c6 w6 ha6) | ((first | apply G1_extract | apply G1_gtr); exact rfl; exact rfl; exact rfl) | (apply G1_nilCheckF; exact rfl; exact rfl) | (apply G1_fieldAddr; (first | exact T.f38_0 | exact T.f38_1); exact rfl; exact rfl) | (apply G1_loadB; (first | exact T.p26 | exact T.p36); exact rfl; assumption; exact rfl; exact rfl) | (apply G1_loadBS; (first | exact T.p26 | exact T.p36); exact rfl; assumption; exact rfl; (first | assumption | (focus (simp [exempt]; omega))); exact rfl) | (apply G1_loadFld; (first | exact T.p26 | exact T.p36); exact rfl; assumption; assumption; exact rfl; exact rfl; exact rfl) | (apply G1_loadEl1; (first | exact T.p26 | exact T.p36); exact rfl; assumption; assumption; exact rfl; exact rfl; exact rfl) | (apply G1_len; exact T.s30; exact rfl; exact rfl) | (apply G1_add; exact rfl; exact rfl; omega; omega; exact rfl)) | apply G_nil | apply Post_next | apply W_seq | apply W_region | (apply W_cond_true; exact rfl) | (apply W_cond_false; exact rfl) | (apply W_cond_dec; exact rfl; all_goals (intro h; try (exfalso; omega))) | (apply W_cond; exact rfl; all_goals intro h) | (apply G_off; exact rfl; exact rfl) | ((fail_if_success (apply G_on; exact rfl)); apply G_split_dec; exact rfl; exact rfl; all_goals (intro h; try (exfalso; omega))) | ((fail_if_success (apply G_on; exact rfl)); apply G_split; exact rfl; exact rfl; all_goals intro h) | apply W_skip | apply W_exit | apply W_ret | apply W_block | apply Post_then_ret | apply Post_block_ret | apply Post_then_exit | apply Post_block_exit | (apply Post_block_other; exact rfl) | apply Post_block_normal)
      all_goals try (exfalso; omega)
      have hx6 : Ext w1 w6 := Ext.app hxr ha6 (fun k hk => (ho4.ge k hk).1)
      have z6 := hx6.size
      have hb6 := hbox.ext hx6
      have ho56 : Go.V.Own w6 w1.heap.size 30 eChn p3 c3 (A ++ N) := ho5.kept ha6.grown (fun a ha e0 => ho4.neT ho5 (by decide) a ha e0)
      have ho66 := ha6.own
      apply G_on; exact rfl; apply G1_storeB; exact T.z26; exact rfl; exact rfl; exact hb6; exact rfl; exact rfl; (first | exact Nat.le_of_ble_eq_true rfl | (focus (simp [Value.cells]; done))); (first | exact Enc.one _ _ | (focus (simp [Value.oneCell']; done)) | (focus (simp [Value.cells, Value.oneCell']; done)) | exact Enc.oneAgg _ _); exact rfl; (first | exact .inl rfl | exact .inr (by simp [exempt])); exact rfl; intro w7 hb7 hg7 hs7
      have ho57 : Go.V.Own w7 w1.heap.size 30 eChn p3 c3 (A ++ N) := ho56.kept hg7 (fun a ha e0 => ho56.neB hb6 (by decide) (by rw [ha]; exact e0.symm))
      have ho67 : Go.V.Own w7 w1.heap.size 9 eStr p6 c6 ((A ++ N).map Ent.key ++ (B.drop D).map Ent.key) := ho66.kept hg7 (fun a ha e0 => ho66.neB hb6 (by decide) (by rw [ha]; exact e0.symm))
      have hch6 := hR1.chs.ext hx6
      have hch7 : Go.V.Own w7 0 30 eChn pc cc es := hch6.kept hg7 (fun a ha e0 => hch6.neB hb6 (by decide) (by rw [ha]; exact e0.symm))
      have hcB7 : Sl w7.heap eChn (subp pc cc (A.length + D) 1) (cc - (A.length + D)) (B.drop D) := by have := hch7.sl.drop (l := A.length + D) (by omega); rw [hcB] at this; exact this
      repeat' (first | (apply G_on; exact rfl; first | ((first | apply G1_move | apply G1_assign | apply G1_nilCheck); exact rfl; exact rfl) | (apply G1_sliceLoJ (q := A.length + D); exact T.s36; exact rfl; exact rfl; omega; exact hch7.sl.ok; omega; exact rfl) | (apply G1_appendB (e := eChn) (xs := A ++ N) (ys := B.drop D); exact T.s36; exact rfl; exact rfl; exact hl5; exact hyl2; exact ho57; exact hcB7; exact rfl; omega; omega; omega; exact rfl; exact rfl; exact rfl; intro p8 c8 w8 ha8) | ((first | apply G1_extract | apply G1_gtr); exact rfl; exact rfl; exact rfl) | (apply G1_nilCheckF; exact rfl; exact rfl) | (apply G1_fieldAddr; (first | exact T.f38_0 | exact T.f38_1); exact rfl; exact rfl) | (apply G1_loadB; (first | exact T.p26 | exact T.p36); exact rfl; assumption; exact rfl; exact rfl) | (apply G1_loadBS; (first | exact T.p26 | exact T.p36); exact rfl; assumption; exact rfl; (first | assumption | (focus (simp [exempt]; omega))); exact rfl) | (apply G1_loadFld; (first | exact T.p26 | exact T.p36); exact rfl; assumption; assumption; exact rfl; exact rfl; exact rfl) | (apply G1_loadEl1; (first | exact T.p26 | exact T.p36); exact rfl; assumption; assumption; exact rfl; exact rfl; exact rfl) | (apply G1_len; exact T.s30; exact rfl; exact rfl) | (apply G1_add; exact rfl; exact rfl; omega; omega; exact rfl)) | apply G_nil | apply Post_next | apply W_seq | apply W_region | (apply W_cond_true; exact rfl) | (apply W_cond_false; exact rfl) | (apply W_cond_dec; exact rfl; all_goals (intro h; try (exfalso; omega))) | (apply W_cond; exact rfl; all_goals intro h) | (apply G_off; exact rfl; exact rfl) | ((fail_if_success (apply G_on; exact rfl)); apply G_split_dec; exact rfl; exact rfl; all_goals (intro h; try (exfalso; omega))) | ((fail_if_success (apply G_on; exact rfl)); apply G_split; exact rfl; exact rfl; all_goals intro h) | apply W_skip | apply W_exit | apply W_ret | apply W_block | apply Post_then_ret | apply Post_block_ret | apply Post_then_exit | apply Post_block_exit | (apply Post_block_other; exact rfl) | apply Post_block_normal)
      have hb8 := hb7.grown ha8.grown (ho57.neB hb7 (by decide))
      have ho68 : Go.V.Own w8 w1.heap.size 9 eStr p6 c6 ((A ++ N).map Ent.key ++ (B.drop D).map Ent.key) := ho67.kept ha8.grown (fun a ha e0 => ho57.neT ho67 (by decide) a ha e0)
      have ho88 := ha8.own
      apply G_on; exact rfl; apply G1_storeB; exact T.z36; exact rfl; exact rfl; exact hb8; exact rfl; exact rfl; (first | exact Nat.le_of_ble_eq_true rfl | (focus (simp [Value.cells]; done))); (first | exact Enc.one _ _ | (focus (simp [Value.oneCell']; done)) | (focus (simp [Value.cells, Value.oneCell']; done)) | exact Enc.oneAgg _ _); exact rfl; (first | exact .inl rfl | exact .inr (by simp [exempt])); exact rfl; intro w9 hb9 hg9 hs9
      have ho69 : Go.V.Own w9 w1.heap.size 9 eStr p6 c6 ((A ++ N).map Ent.key ++ (B.drop D).map Ent.key) := ho68.kept hg9 (fun a ha e0 => ho68.neB hb8 (by decide) (by rw [ha]; exact e0.symm))
      have ho89 : Go.V.Own w9 w1.heap.size 30 eChn p8 c8 (A ++ N ++ B.drop D) := ho88.kept hg9 (fun a ha e0 => ho88.neB hb8 (by decide) (by rw [ha]; exact e0.symm))
      repeat' (first | (apply G_on; exact rfl; first | ((first | apply G1_move | apply G1_assign | apply G1_nilCheck); exact rfl; exact rfl) | ((first | apply G1_extract | apply G1_gtr); exact rfl; exact rfl; exact rfl) | (apply G1_nilCheckF; exact rfl; exact rfl) | (apply G1_fieldAddr; (first | exact T.f38_0 | exact T.f38_1); exact rfl; exact rfl) | (apply G1_loadB; (first | exact T.p26 | exact T.p36); exact rfl; assumption; exact rfl; exact rfl) | (apply G1_loadBS; (first | exact T.p26 | exact T.p36); exact rfl; assumption; exact rfl; (first | assumption | (focus (simp [exempt]; omega))); exact rfl) | (apply G1_loadFld; (first | exact T.p26 | exact T.p36); exact rfl; assumption; assumption; exact rfl; exact rfl; exact rfl) | (apply G1_loadEl1; (first | exact T.p26 | exact T.p36); exact rfl; assumption; assumption; exact rfl; exact rfl; exact rfl) | (apply G1_len; exact T.s30; exact rfl; exact rfl) | (apply G1_add; exact rfl; exact rfl; omega; omega; exact rfl)) | apply G_nil | apply Post_next | apply W_seq | apply W_region | (apply W_cond_true; exact rfl) | (apply W_cond_false; exact rfl) | (apply W_cond_dec; exact rfl; all_goals (intro h; try (exfalso; omega))) | (apply W_cond; exact rfl; all_goals intro h) | (apply G_off; exact rfl; exact rfl) | ((fail_if_success (apply G_on; exact rfl)); apply G_split_dec; exact rfl; exact rfl; all_goals (intro h; try (exfalso; omega))) | ((fail_if_success (apply G_on; exact rfl)); apply G_split; exact rfl; exact rfl; all_goals intro h) | apply W_skip | apply W_exit | apply W_ret | apply W_block | apply Post_then_ret | apply Post_block_ret | apply Post_then_exit | apply Post_block_exit | (apply Post_block_other; exact rfl) | apply Post_block_normal)
      refine Post_end Try.results17 (vs := []) rfl ?_
      have hix : ∀ k, some rx = some k → k = rx := fun k hk => by injection hk with hk; exact hk.symm
      have zw := hx1.size
      have hc : Chg (fun k => k = rx) w w9 := (((Chg.ext (hx1.trans hx6)).step hg7 (fun k hk _ => hix k hk)).step ha8.grown (fun k hk hlt => by have := (ho57.ge k hk).1; omega)).step hg9 (fun k hk _ => hix k hk)
      have hkm : (A ++ N).map Ent.key ++ (B.drop D).map Ent.key = (A ++ N ++ B.drop D).map Ent.key := by rw [List.map_append (l₂ := B.drop D)]
      rw [hkm] at ho69
      replace hb9 : Blk w9.heap rx 38 [.slice p6 ((A ++ N).map Ent.key ++ (B.drop D).map Ent.key).length c6, .slice p8 (A ++ N ++ B.drop D).length c8] := hb9
      rw [hkm, List.length_map] at hb9
      have hnorx : ∀ k T cur, (T = 50 ∨ T = 101 ∨ T = 9 ∨ T = 105) → w.heap[k]? = some (.cells cur T (0, 0)) → k ≠ rx := fun k T cur hT hk e0 => by
        have h2 := hR.box
        unfold Blk at h2
        rw [e0, h2] at hk
        injection hk with hk; injection hk with _ hk
        rcases hT with h | h | h | h <;> (rw [h] at hk; exact absurd hk (by decide))
      refine ⟨fun k => F k ∨ FC k ∨ (w.heap.size ≤ k ∧ NoB w9 k), p6, c6, p8, c8, A ++ N ++ B.drop D, ⟨hb9, ho69.base (Nat.zero_le _), ho89.base (Nat.zero_le _), fun e he => ?_, .inl hR.fx, fun k hk => .inr (.inr ⟨by have := (ho69.ge k hk).1; omega, Own.noB ho69 notIx.2.2.1 hk⟩), fun k hk => .inr (.inr ⟨by have := (ho89.ge k hk).1; omega, Own.noB ho89 (by unfold ixT; decide) hk⟩), fun k hk => ?_⟩, rfl, fun k hk => ?_, hc⟩
      · rcases hes' e he with h1 | ⟨h1, h2⟩
        · obtain ⟨rs', hr'⟩ := hR.ent e h1
          exact ⟨rs', ((hr'.refine hnorx).chg hc (fun k hk e0 => hk.2 e0)).mono (fun k hk => .inl hk.1)⟩
        · rw [h2]
          exact ⟨rs, (hC.chg hc (fun k hk e0 => (hFC k hk).2 e0)).mono (fun k hk => .inr (.inl hk))⟩
      · rcases hk with hk | hk | hk
        · by_cases e0 : k = rx
          · rw [e0]; exact Blk.noB hb9 (by unfold ixT; decide)
          · exact (hR.typ k hk).same (hc.block k (hR.typ k hk).lt e0)
        · exact (hFC k hk).1.same (hc.block k (hFC k hk).1.lt (hFC k hk).2)
        · exact hk.2
      · rcases hk with hk | hk | hk
        · exact .inl hk
        · exact .inr (.inl hk)
        · exact .inr (.inr hk.1)
end Go.Proofs.Ytbphlenpclnobaa
