/- num.Parse at every string; the document's Print and Parse. -/
import Derived.Test.YtikjnmpijflnaaaDoorVNumRead
import Derived.Test.YtikjnmpijflnaaaDoorVStrRule
import Derived.Shelf.Strconv.ErrVarParseInt
namespace Go.Proofs.YtikjnmpijflnaaaDoor
open Go.V
attribute [local irreducible] Blk Own hcell IntT SliceT PlainT AggT SizeT StrT FieldT ZeroT EqT ArrT
def Errs (w : World) : Prop := ∃ t1 p1 t2 p2, w.var? Tryd.prog "strconv.ErrSyntax" = some #[.iface t1 p1] ∧ w.var? Tryd.prog "strconv.ErrRange" = some #[.iface t2 p2]
theorem Errs.ext {w w' : World} (h : Errs w) (hx : Ext w w') : Errs w' := by
  obtain ⟨t1, p1, t2, p2, h1, h2⟩ := h
  exact ⟨t1, p1, t2, p2, var_ext h1 hx, var_ext h2 hx⟩
theorem pi_bad {s : ByteArray} {w : World} (hs : s.size ≤ 1000000) (hno : ∀ v, Lib.parseIntB 64 s.data.toList ≠ .ok v) (hE : Errs w) : Ctr Tryd.prog 76 [.string s, .int .i64 10, .int .i64 64] w (fun r w' => ∃ v t p, r = .tuple #[.int .i64 v, .iface t p] ∧ Ext w w') := by
  obtain ⟨t1, p1, t2, p2, h1, h2⟩ := hE
  unfold Ctr
  refine ⟨⟨Tryd.f76, Tryd.func76, by decide, rfl⟩, ?_⟩
  rcases hp : Lib.parseIntB 64 s.data.toList with v | _ | _
  · exact absurd hp (hno v)
  · exact Calls.mono (Any.strconv_ParseInt_10_at64_syntax_var Tryd.layPI s (by omega) hp t1 p1 w h1) fun e w' ⟨N, he, _, _, hb⟩ => ⟨_, he, ⟨_, _, _, rfl, hb⟩⟩
  · exact Calls.mono (Any.strconv_ParseInt_10_at64_range_var Tryd.layPI s (by omega) hp t2 p2 w h2) fun e w' ⟨N, he, _, _, hb⟩ => ⟨_, he, ⟨_, _, _, rfl, hb⟩⟩
theorem nparse_yes {s : ByteArray} {n : Int} {w : World} (h : IsNum s n) (hT : Pow w) : Ctr Tryd.prog 60 [.string s] w (fun r w' => r = .tuple #[.int .i64 n, .bool true] ∧ Ext w w') := by
  obtain ⟨hf, rfl⟩ := h
  exact parse_ok (itoa_size hf) (by rw [itoaB_list]; exact parse_itoa hf) hf.1 hf.2 rfl hT
theorem nparse_nb {s : ByteArray} {w : World} (hno : ∀ n, ¬ IsNum s n) (hT : Pow w) (hE : Errs w) : Ctr Tryd.prog 60 [.string s] w (fun r w' => r = .tuple #[.int .i64 0, .bool false] ∧ Ext w w') := by
  refine Ctr_of Tryd.func60 Tryd.ntmps60 rfl rfl rfl ?_
  by_cases hok : ∃ v, Lib.parseIntB 64 s.data.toList = .ok v
  · obtain ⟨v, hp⟩ := hok
    have hfv := parse_fit hp
    have hne : ¬ itoaB v = s := fun he => hno v ⟨hfv, he⟩
    repeat' (first | (apply G_on; exact rfl; first | ((first | apply G1_assign | apply G1_move); exact rfl; exact rfl) | (apply G1_call (f := 76); exact rfl; exact rfl; exact rfl; exact pi_ok (by omega) hp; rintro _ w2 ⟨rfl, hx2⟩; refine ⟨(by first | exact .inl rfl | exact .inr (by assumption)), ?_⟩) | (apply G1_errNil; exact Tryd.underlying117; exact rfl; exact rfl) | (apply G1_call (f := 40); exact rfl; exact rfl; exact rfl; exact print_spec hfv.1 hfv.2 (TabIs.ext hT hx2); rintro _ w3 ⟨rfl, hx3⟩; refine ⟨(by first | exact .inl rfl | exact .inr (by assumption)), ?_⟩) | (apply G1_slen; exact T.str9; exact rfl; exact rfl) | ((first | apply G1_gtr | apply G1_extract | apply G1_sneq); exact rfl; exact rfl; exact rfl)) | apply G_nil | apply Post_next | apply W_seq | apply W_region | (apply W_cond_false; exact rfl) | (apply W_cond_dec; exact rfl; all_goals (intro h; try (exfalso; omega))) | apply W_skip | apply W_ret | apply Post_then_ret)
    all_goals try (exfalso; exact hne (by first | assumption | simpa using h); done)
    all_goals
      refine Post_ret Tryd.results60 ⟨_, _, rfl, rfl, _, _, rfl, rfl, rfl⟩ ?_
      exact ⟨rfl, (by repeat first | assumption | exact Ext.rfl' | apply Ext.drew | apply Ext.alloc | refine Ext.trans ?_ (by assumption))⟩
  · have hb : ∀ v, Lib.parseIntB 64 s.data.toList ≠ .ok v := fun v hv => hok ⟨v, hv⟩
    repeat' (first | (apply G_on; exact rfl; first | ((first | apply G1_assign | apply G1_move); exact rfl; exact rfl) | (apply G1_call (f := 76); exact rfl; exact rfl; exact rfl; exact pi_bad (by omega) hb hE; rintro _ w2 ⟨v, t, p, rfl, hx2⟩; refine ⟨(by first | exact .inl rfl | exact .inr (by assumption)), ?_⟩) | (apply G1_errNot; exact Tryd.underlying117; exact rfl; exact rfl) | (apply G1_slen; exact T.str9; exact rfl; exact rfl) | ((first | apply G1_gtr | apply G1_extract); exact rfl; exact rfl; exact rfl)) | apply G_nil | apply Post_next | apply W_seq | apply W_region | (apply W_cond_true; exact rfl) | (apply W_cond_dec; exact rfl; all_goals (intro h; try (exfalso; omega))) | apply W_skip | apply W_ret | apply Post_then_ret)
    all_goals
      refine Post_ret Tryd.results60 ⟨_, _, rfl, rfl, _, _, rfl, rfl, rfl⟩ ?_
      exact ⟨rfl, (by repeat first | assumption | exact Ext.rfl' | apply Ext.drew | apply Ext.alloc | refine Ext.trans ?_ (by assumption))⟩
theorem nparse_no {s : ByteArray} {w : World} (hno : ∀ n, ¬ IsNum s n) (_ : s.size ≤ 1000000) (hT : Pow w) (hE : Errs w) : Ctr Tryd.prog 60 [.string s] w (fun r w' => r = .tuple #[.int .i64 0, .bool false] ∧ Ext w w') := nparse_nb hno hT hE
end Go.Proofs.YtikjnmpijflnaaaDoor
