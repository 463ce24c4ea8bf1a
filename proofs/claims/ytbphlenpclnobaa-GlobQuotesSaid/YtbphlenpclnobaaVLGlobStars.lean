/- The walk of GlobStars. -/
import Derived.Test.YtbphlenpclnobaaVGlobQuote
import Derived.Test.YtbphlenpclnobaaVGlobMatch
namespace Go.V
/-- patterns without a class, divided -/
inductive Divs : List UInt8 → List RawPart → Prop
  | nil : Divs [] []
  | star {l ps} : Divs l ps → Divs (42 :: l) (starP :: ps)
  | any {l ps} : Divs l ps → Divs (63 :: l) (anyP :: ps)
  | esc {c l ps} : Divs l ps → Divs (92 :: c :: l) (oneP c.toNat :: ps)
  | lit {c l ps} : isSign c = false → Divs l ps → Divs (c :: l) (oneP c.toNat :: ps)
theorem drop_get {s : ByteArray} {i : Nat} {c : UInt8} {l : List UInt8} (h : s.data.toList.drop i = c :: l) : i < s.size ∧ bget s i = c ∧ s.data.toList.drop (i + 1) = l := by
  have hlen : (s.data.toList.drop i).length = (c :: l).length := by rw [h]
  rw [List.length_drop, Array.length_toList] at hlen
  simp only [List.length_cons] at hlen
  have hi : i < s.size := by show i < s.data.size; omega
  have hc := list_bget hi
  rw [drop_cons hc] at h
  injection h with h1 h2
  exact ⟨hi, h1, h2⟩
theorem Divs.divF {s : ByteArray} {l : List UInt8} {ps : List RawPart} (h : Divs l ps) : ∀ (i f : Nat) (ended : Bool), s.data.toList.drop i = l → s.size + 1 - i ≤ f → Go.V.divF s f i ended = ps := by
  have key : ∀ {f i : Nat}, i < s.size → s.size + 1 - i ≤ f → ∃ f', f = f' + 1 := fun {f i} hi hf => ⟨f - 1, by omega⟩
  induction h with
  | nil =>
    intro i f ended hd hf
    have : s.size ≤ i := by
      have := congrArg List.length hd
      rw [List.length_drop, Array.length_toList] at this
      simp only [List.length_nil] at this
      show s.data.size ≤ i; omega
    cases f with
    | zero => rfl
    | succ f => rw [Go.V.divF, if_neg (by omega)]
  | star _ ih =>
    intro i f ended hd hf
    obtain ⟨hi, hc, hn⟩ := drop_get hd
    obtain ⟨f, rfl⟩ := key hi hf
    rw [Go.V.divF, if_pos hi, hc, if_pos (by decide), ih (i + 1) f ended hn (by omega)]
  | any _ ih =>
    intro i f ended hd hf
    obtain ⟨hi, hc, hn⟩ := drop_get hd
    obtain ⟨f, rfl⟩ := key hi hf
    rw [Go.V.divF, if_pos hi, hc, if_neg (by decide), if_pos (by decide), ih (i + 1) f ended hn (by omega)]
  | esc _ ih =>
    intro i f ended hd hf
    obtain ⟨hi, hc, hn⟩ := drop_get hd
    obtain ⟨hi2, hc2, hn2⟩ := drop_get hn
    obtain ⟨f, rfl⟩ := key hi hf
    rw [Go.V.divF, if_pos hi, hc, if_neg (by decide), if_neg (by decide), if_neg (fun h => absurd h.1 (by decide)), if_pos ⟨by decide, hi2⟩, hc2, ih (i + 2) f ended hn2 (by omega)]
  | @lit c l ps hs _ ih =>
    intro i f ended hd hf
    obtain ⟨hi, hc, hn⟩ := drop_get hd
    obtain ⟨f, rfl⟩ := key hi hf
    have hne : c.toNat ≠ 42 ∧ c.toNat ≠ 63 ∧ c.toNat ≠ 91 ∧ c.toNat ≠ 92 := by
      have inj : ∀ d : UInt8, c.toNat = d.toNat → c = d := fun d => UInt8.toNat_inj.1
      refine ⟨fun h => ?_, fun h => ?_, fun h => ?_, fun h => ?_⟩
      · rw [inj 42 h] at hs; exact absurd hs (by decide)
      · rw [inj 63 h] at hs; exact absurd hs (by decide)
      · rw [inj 91 h] at hs; exact absurd hs (by decide)
      · rw [inj 92 h] at hs; exact absurd hs (by decide)
    rw [Go.V.divF, if_pos hi, hc, if_neg hne.1, if_neg hne.2.1, if_neg (fun h => hne.2.2.1 h.1), if_neg (fun h => hne.2.2.2 h.1), ih (i + 1) f ended hn (by omega)]
theorem Divs.parts {s : ByteArray} {ps : List RawPart} (h : Divs s.data.toList ps) : partsOf s = ps := h.divF 0 (s.size + 1) true rfl (by omega)
def ones (p : List UInt8) : List RawPart := p.map fun c => oneP c.toNat
theorem quote_divs {p l : List UInt8} {ps : List RawPart} (h : Divs l ps) : Divs (quoteL p ++ l) (ones p ++ ps) := by
  induction p with
  | nil => exact h
  | cons c p ih =>
    have e : quoteL (c :: p) = (if isSign c = true then [92, c] else [c]) ++ quoteL p := rfl
    rw [e]
    show Divs _ (oneP c.toNat :: (ones p ++ ps))
    cases hs : isSign c with
    | true => simp only [if_true, List.cons_append, List.nil_append]; exact .esc ih
    | false => simp only [Bool.false_eq_true, if_false, List.cons_append, List.nil_append]; exact .lit hs ih
theorem oneP_has (c e : UInt8) : (oneP c.toNat).has e.toNat = decide (e = c) := by
  unfold oneP
  rw [RawPart.add_has (UInt8.toNat_lt c) (UInt8.toNat_lt e), part0_has, Bool.false_or, decide_eq_decide]
  exact UInt8.toNat_inj
theorem oneP_star (c : Nat) : (oneP c).star = false := RawPart.add_star part0 c
theorem anyP_has (c : UInt8) : anyP.has c.toNat = true := by
  unfold anyP
  rw [RawPart.inv_has (UInt8.toNat_lt c), part0_has]; rfl
theorem match_ones {p l : List UInt8} {ps : List RawPart} : matchP (ones p ++ ps) (p ++ l) = matchP ps l := by
  induction p with
  | nil => rfl
  | cons c p ih =>
    show matchP (oneP c.toNat :: (ones p ++ ps)) (c :: (p ++ l)) = _
    rw [matchP_one (oneP_star _), oneP_has, ih]; simp
theorem match_end (l : List UInt8) : matchP [starP] l = true := (matchP_star rfl).2 ⟨l.length, Nat.le_refl _, by simp [matchP]⟩
theorem match_skip {s l : List UInt8} {ps : List RawPart} (h : matchP ps l = true) : matchP (starP :: ps) (s ++ l) = true := (matchP_star rfl).2 ⟨s.length, by simp, by rw [List.drop_left' rfl]; exact h⟩
theorem bytes_app (a b : ByteArray) : (a ++ b).data.toList = a.data.toList ++ b.data.toList := by simp
theorem size_app (a b : ByteArray) : (a ++ b).size = a.size + b.size := by simp
theorem mkStr_size' (l : List UInt8) : (mkStr l).size = l.length := by simp [mkStr, ByteArray.size]
theorem bytes_mk (l : List UInt8) : (mkStr l).data.toList = l := by simp [mkStr]
end Go.V
namespace Go.Proofs.Ytbphlenpclnobaa
open Go.V
attribute [local irreducible] Blk Own hcell IntT SliceT PlainT AggT SizeT StrT FieldT ZeroT EqT ArrT
theorem match_at {pat s : ByteArray} {w : World} {b : Bool} (hp : pat.size ≤ 100000) (hs : s.size ≤ 100000) (h : matchP (partsOf pat) s.data.toList = b) : Ctr Try.prog 9 [.string pat, .string s] w (fun v w' => v = .bool b ∧ Ext w w') := by
  subst h; exact match_spec hp hs
theorem ex1 : matchP (partsOf ⟨#[104, 91, 97, 45, 99, 93, 42, 111]⟩) (⟨#[104, 98, 101, 108, 108, 111]⟩ : ByteArray).data.toList = true := by decide +kernel
theorem ex2 : matchP (partsOf ⟨#[104, 91, 94, 97, 93, 111]⟩) (⟨#[104, 97, 111]⟩ : ByteArray).data.toList = false := by decide +kernel
theorem ex3 : matchP (partsOf ⟨#[92, 42]⟩) (⟨#[42]⟩ : ByteArray).data.toList = true := by decide +kernel
theorem ex4 : matchP (partsOf ⟨#[91]⟩) (⟨#[91]⟩ : ByteArray).data.toList = true := by decide +kernel
theorem awake02 {w : World} : Ctr Try.prog 8 [] w (fun v w' => v = .bool true ∧ Ext w w') := by
  refine Ctr_of Try.func8 Try.ntmps8 rfl rfl rfl ?_
  repeat' (first | (apply G_on; exact rfl; first | ((first | apply G1_assign | apply G1_move); exact rfl; exact rfl) | (apply G1_call (f := 9); exact rfl; exact rfl; exact rfl; exact match_at (by decide) (by decide) ex1; rintro _ w2 ⟨rfl, hx2⟩; refine ⟨(by first | exact .inl rfl | exact .inr (by assumption)), ?_⟩) | (apply G1_call (f := 9); exact rfl; exact rfl; exact rfl; exact match_at (by decide) (by decide) ex2; rintro _ w3 ⟨rfl, hx3⟩; refine ⟨(by first | exact .inl rfl | exact .inr (by assumption)), ?_⟩) | (apply G1_call (f := 9); exact rfl; exact rfl; exact rfl; exact match_at (by decide) (by decide) ex3; rintro _ w4 ⟨rfl, hx4⟩; refine ⟨(by first | exact .inl rfl | exact .inr (by assumption)), ?_⟩) | (apply G1_call (f := 9); exact rfl; exact rfl; exact rfl; exact match_at (by decide) (by decide) ex4; rintro _ w5 ⟨rfl, hx5⟩; refine ⟨(by first | exact .inl rfl | exact .inr (by assumption)), ?_⟩) | (apply G1_not_t; exact rfl; exact rfl) | (apply G1_not_f; exact rfl; exact rfl) | (apply G1_not_dec; exact rfl; exact rfl) | (apply G1_not; exact rfl; exact rfl) | (apply G1_pick_t; exact rfl; exact rfl; exact rfl) | (apply G1_pick_f; exact rfl; exact rfl; exact rfl)) | apply G_nil | apply Post_next | apply W_seq | apply W_region | (apply W_cond_true; exact rfl) | (apply W_cond_false; exact rfl) | (apply W_cond_dec; exact rfl; all_goals (intro h; try (exfalso; omega))) | (apply W_cond; exact rfl; all_goals intro h) | (apply G_off; exact rfl; exact rfl) | ((fail_if_success (apply G_on; exact rfl)); apply G_split_dec; exact rfl; exact rfl; all_goals (intro h; try (exfalso; omega))) | ((fail_if_success (apply G_on; exact rfl)); apply G_split; exact rfl; exact rfl; all_goals intro h) | apply W_skip | apply W_exit | apply W_ret | apply W_block | apply Post_then_ret | apply Post_block_ret | apply Post_then_exit | apply Post_block_exit | (apply Post_block_other; exact rfl) | apply Post_block_normal)
  refine Post_ret Try.results8 ⟨_, _, rfl, rfl, rfl⟩ ?_
  exact ⟨rfl, (by repeat first | assumption | exact Ext.rfl' | apply Ext.drew | apply Ext.alloc | refine Ext.trans ?_ (by assumption))⟩
theorem globStars_spec {p s t : ByteArray} {w : World} (bp : p.size ≤ maxLen) (bs : s.size ≤ maxLen) (bt : t.size ≤ maxLen) :
    Ctr Try.prog 3 [.string p, .string s, .string t] w (fun v w' => v = .bool true ∧ Ext w w') := by
  simp only [maxLen] at bp bs bt
  refine Ctr_of Try.func3 Try.ntmps3 rfl rfl rfl ?_
  by_cases h2 : p.size ≤ 200 ∧ s.size ≤ 200 ∧ t.size ≤ 200
  rotate_left
  · repeat' (first | (apply G_on; exact rfl; first | ((first | apply G1_assign | apply G1_move); exact rfl; exact rfl) | (apply G1_call (f := 8); exact rfl; exact rfl; exact rfl; exact awake02; rintro _ w1 ⟨rfl, hx1⟩; refine ⟨(by first | exact .inl rfl | exact .inr (by assumption)), ?_⟩) | (apply G1_not_t; exact rfl; exact rfl) | (apply G1_not_f; exact rfl; exact rfl) | (apply G1_not_dec; exact rfl; exact rfl) | (apply G1_not; exact rfl; exact rfl) | (apply G1_slen; exact T.str9; exact rfl; exact rfl) | (apply G1_gtr; exact rfl; exact rfl; exact rfl) | (apply G1_pick_t; exact rfl; exact rfl; exact rfl) | (apply G1_pick_f; exact rfl; exact rfl; exact rfl) | (apply G1_sadd; exact rfl; exact rfl; omega; exact rfl)) | apply G_nil | apply Post_next | apply W_seq | apply W_region | (apply W_cond_true; exact rfl) | (apply W_cond_false; exact rfl) | (apply W_cond_dec; exact rfl; all_goals (intro h; try (exfalso; omega))) | (apply W_cond; exact rfl; all_goals intro h) | (apply G_off; exact rfl; exact rfl) | ((fail_if_success (apply G_on; exact rfl)); apply G_split_dec; exact rfl; exact rfl; all_goals (intro h; try (exfalso; omega))) | ((fail_if_success (apply G_on; exact rfl)); apply G_split; exact rfl; exact rfl; all_goals intro h) | apply W_skip | apply W_exit | apply W_ret | apply W_block | apply Post_then_ret | apply Post_block_ret | apply Post_then_exit | apply Post_block_exit | (apply Post_block_other; exact rfl) | apply Post_block_normal)
    all_goals
      refine Post_ret Try.results3 ⟨_, _, rfl, rfl, rfl⟩ ?_
      exact ⟨rfl, (by repeat first | assumption | exact Ext.rfl' | apply Ext.drew | apply Ext.alloc | refine Ext.trans ?_ (by assumption))⟩
  have m1 : matchP (partsOf ⟨#[42]⟩) s.data.toList = true := by rw [Divs.parts (s := ⟨#[42]⟩) (.star .nil)]; exact match_end _
  have m2 : matchP (partsOf ⟨#[42, 42]⟩) t.data.toList = true := by
    rw [Divs.parts (s := ⟨#[42, 42]⟩) (.star (.star .nil))]
    exact match_skip (s := []) (match_end _)
  have m3 : matchP (partsOf ⟨#[63, 42]⟩) (⟨#[]⟩ : ByteArray).data.toList = false := by decide +kernel
  have hq := quoteL_len p.data.toList
  have hpl : p.data.toList.length = p.size := by rw [Array.length_toList]; rfl
  obtain ⟨q, hqe⟩ : ∃ q, q = mkStr (quoteL p.data.toList) := ⟨_, rfl⟩
  have hqs : q.size ≤ 400 := by rw [hqe, mkStr_size']; omega
  have hqd : q.data.toList = quoteL p.data.toList := by rw [hqe]; exact bytes_mk _
  have m4 : matchP (partsOf (⟨#[42]⟩ ++ q ++ ⟨#[42]⟩)) (s ++ p ++ t).data.toList = true := by
    have hd : Divs (⟨#[42]⟩ ++ q ++ ⟨#[42]⟩ : ByteArray).data.toList (starP :: (ones p.data.toList ++ [starP])) := by
      rw [bytes_app, bytes_app, hqd]
      exact .star (quote_divs (.star .nil))
    rw [hd.parts, bytes_app, bytes_app, List.append_assoc]
    exact match_skip (by rw [match_ones]; exact match_end _)
  have m5 : matchP (partsOf (q ++ ⟨#[42]⟩)) (p ++ t).data.toList = true := by
    have hd : Divs (q ++ ⟨#[42]⟩ : ByteArray).data.toList (ones p.data.toList ++ [starP]) := by
      rw [bytes_app, hqd]
      exact quote_divs (.star .nil)
    rw [hd.parts, bytes_app, match_ones]
    exact match_end _
  have m6 : matchP (partsOf (⟨#[42]⟩ ++ q)) (s ++ p).data.toList = true := by
    have hd : Divs (⟨#[42]⟩ ++ q : ByteArray).data.toList (starP :: (ones p.data.toList ++ [])) := by
      rw [bytes_app, hqd]
      have := quote_divs (p := p.data.toList) .nil
      rw [List.append_nil] at this
      exact .star this
    rw [hd.parts, bytes_app]
    have := match_ones (p := p.data.toList) (l := []) (ps := [])
    rw [List.append_nil p.data.toList] at this
    exact match_skip (by rw [this]; rfl)
  have m7 : matchP (partsOf (⟨#[63]⟩ ++ q)) (⟨#[120]⟩ ++ p : ByteArray).data.toList = true := by
    have hd : Divs (⟨#[63]⟩ ++ q : ByteArray).data.toList (anyP :: (ones p.data.toList ++ [])) := by
      rw [bytes_app, hqd]
      have := quote_divs (p := p.data.toList) .nil
      rw [List.append_nil] at this
      exact .any this
    rw [hd.parts, bytes_app]
    show matchP (anyP :: (ones p.data.toList ++ [])) (120 :: p.data.toList) = true
    have := match_ones (p := p.data.toList) (l := []) (ps := [])
    rw [List.append_nil p.data.toList] at this
    rw [matchP_one rfl, anyP_has, this]; rfl
  have hquote : ∀ w, Ctr Try.prog 10 [.string p] w (fun v w' => v = .string q ∧ Ext w w') := fun w => by rw [hqe]; exact quote_spec (by omega)
  clear hqe
  have z1 : (⟨#[42]⟩ : ByteArray).size = 1 := rfl
  have z2 : (⟨#[63]⟩ : ByteArray).size = 1 := rfl
  have z3 : (⟨#[120]⟩ : ByteArray).size = 1 := rfl
  have z4 : (⟨#[42]⟩ ++ q : ByteArray).size = 1 + q.size := by rw [size_app, z1]
  have z5 : (s ++ p : ByteArray).size = s.size + p.size := size_app _ _
  repeat' (first | (apply G_on; exact rfl; first | ((first | apply G1_assign | apply G1_move); exact rfl; exact rfl) | (apply G1_call (f := 8); exact rfl; exact rfl; exact rfl; exact awake02; rintro _ w1 ⟨rfl, hx1⟩; refine ⟨(by first | exact .inl rfl | exact .inr (by assumption)), ?_⟩) | (apply G1_call (f := 10); exact rfl; exact rfl; exact rfl; exact hquote _; rintro _ w2 ⟨rfl, hx2⟩; refine ⟨(by first | exact .inl rfl | exact .inr (by assumption)), ?_⟩) | (apply G1_call (f := 9); exact rfl; exact rfl; exact rfl; exact match_at (by decide) (by omega) m1; rintro _ w3 ⟨rfl, hx3⟩; refine ⟨(by first | exact .inl rfl | exact .inr (by assumption)), ?_⟩) | (apply G1_call (f := 9); exact rfl; exact rfl; exact rfl; exact match_at (by decide) (by omega) m2; rintro _ w4 ⟨rfl, hx4⟩; refine ⟨(by first | exact .inl rfl | exact .inr (by assumption)), ?_⟩) | (apply G1_call (f := 9); exact rfl; exact rfl; exact rfl; exact match_at (by decide) (by decide) m3; rintro _ w5 ⟨rfl, hx5⟩; refine ⟨(by first | exact .inl rfl | exact .inr (by assumption)), ?_⟩) | (apply G1_call (f := 9); exact rfl; exact rfl; exact rfl; exact match_at (by rw [size_app, size_app]; show 1 + q.size + 1 ≤ _; omega) (by rw [size_app, size_app]; omega) m4; rintro _ w6 ⟨rfl, hx6⟩; refine ⟨(by first | exact .inl rfl | exact .inr (by assumption)), ?_⟩) | (apply G1_call (f := 9); exact rfl; exact rfl; exact rfl; exact match_at (by rw [size_app]; show q.size + 1 ≤ _; omega) (by rw [size_app]; omega) m5; rintro _ w7 ⟨rfl, hx7⟩; refine ⟨(by first | exact .inl rfl | exact .inr (by assumption)), ?_⟩) | (apply G1_call (f := 9); exact rfl; exact rfl; exact rfl; exact match_at (by rw [size_app]; show 1 + q.size ≤ _; omega) (by rw [size_app]; omega) m6; rintro _ w8 ⟨rfl, hx8⟩; refine ⟨(by first | exact .inl rfl | exact .inr (by assumption)), ?_⟩) | (apply G1_call (f := 9); exact rfl; exact rfl; exact rfl; exact match_at (by rw [size_app]; show 1 + q.size ≤ _; omega) (by rw [size_app]; show 1 + p.size ≤ _; omega) m7; rintro _ w9 ⟨rfl, hx9⟩; refine ⟨(by first | exact .inl rfl | exact .inr (by assumption)), ?_⟩) | (apply G1_not_t; exact rfl; exact rfl) | (apply G1_not_f; exact rfl; exact rfl) | (apply G1_not_dec; exact rfl; exact rfl) | (apply G1_not; exact rfl; exact rfl) | (apply G1_slen; exact T.str9; exact rfl; exact rfl) | (apply G1_gtr; exact rfl; exact rfl; exact rfl) | (apply G1_pick_t; exact rfl; exact rfl; exact rfl) | (apply G1_pick_f; exact rfl; exact rfl; exact rfl) | (apply G1_sadd; exact rfl; exact rfl; omega; exact rfl)) | apply G_nil | apply Post_next | apply W_seq | apply W_region | (apply W_cond_true; exact rfl) | (apply W_cond_false; exact rfl) | (apply W_cond_dec; exact rfl; all_goals (intro h; try (exfalso; omega))) | (apply W_cond; exact rfl; all_goals intro h) | (apply G_off; exact rfl; exact rfl) | ((fail_if_success (apply G_on; exact rfl)); apply G_split_dec; exact rfl; exact rfl; all_goals (intro h; try (exfalso; omega))) | ((fail_if_success (apply G_on; exact rfl)); apply G_split; exact rfl; exact rfl; all_goals intro h) | apply W_skip | apply W_exit | apply W_ret | apply W_block | apply Post_then_ret | apply Post_block_ret | apply Post_then_exit | apply Post_block_exit | (apply Post_block_other; exact rfl) | apply Post_block_normal)
  refine Post_ret Try.results3 ⟨_, _, rfl, rfl, rfl⟩ ?_
  exact ⟨rfl, (by repeat first | assumption | exact Ext.rfl' | apply Ext.drew | apply Ext.alloc | refine Ext.trans ?_ (by assumption))⟩
end Go.Proofs.Ytbphlenpclnobaa
