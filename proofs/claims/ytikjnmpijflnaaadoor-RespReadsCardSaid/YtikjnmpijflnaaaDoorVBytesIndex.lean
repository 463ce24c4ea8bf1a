/- bytes.IndexAny at the ends of lines: the walk. -/
import Derived.Test.YtikjnmpijflnaaaDoorVBytesAny
import Derived.Test.YtikjnmpijflnaaaDoorVRepRd
import Derived.Shelf.Spec.DecodeRune
namespace Go.V
open Go.RowKit
theorem enc_size (c : Nat) (hv : Utf8.valid (c : Int) = true) : (Utf8.encode (c : Int)).size = if c < 0x80 then 1 else if c < 0x800 then 2 else if c < 0x10000 then 3 else 4 := by
  unfold Utf8.encode
  simp only [hv, if_true, Int.toNat_natCast]
  split
  · rfl
  · split
    · rfl
    · split <;> rfl
/-- a rune that is read is written as long as it was -/
theorem enc_width (s : ByteArray) (i : Nat) (h : i < s.size) (hb : 128 ≤ (bget s i).toNat) (hr : (Utf8.decode s i).1 ≠ 65533) : (Utf8.encode ((Utf8.decode s i).1 : Int)).size = (Utf8.decode s i).2 := by
  have h0 : (s.get! i).toNat = (bget s i).toNat := by rw [bget_get' h]
  have hn : ¬ (s.get! i).toNat < 128 := by omega
  have vd : ∀ c : Nat, c < 0xD800 → Utf8.valid (c : Int) = true := fun c hc => by
    unfold Utf8.valid
    simp only [Bool.or_eq_true, Bool.and_eq_true, decide_eq_true_eq]
    omega
  generalize hd : Utf8.decode s i = d at hr ⊢
  simp only [Utf8.decode, Nat.add_zero, hn, if_false] at hd
  split at hd
  · rename_i q1
    split at hd
    · rename_i q2
      subst hd
      simp only [Bool.and_eq_true, beq_iff_eq] at q1
      rw [enc_size _ (vd _ (by omega)), if_neg (by omega), if_pos (by omega)]
    · subst hd; exact absurd rfl hr
  · split at hd
    · rename_i q2
      split at hd
      · rename_i q3
        subst hd
        simp only [Bool.and_eq_true, beq_iff_eq, decide_eq_true_eq] at q2 q3
        rw [enc_size _ q3.2, if_neg (by omega), if_neg (by omega), if_pos (by omega)]
      · subst hd; exact absurd rfl hr
    · split at hd
      · rename_i q3
        split at hd
        · rename_i q4
          subst hd
          simp only [Bool.and_eq_true, beq_iff_eq, decide_eq_true_eq] at q3 q4
          rw [enc_size _ q4.2, if_neg (by omega), if_neg (by omega), if_neg (by omega)]
        · subst hd; exact absurd rfl hr
      · subst hd; exact absurd rfl hr
section
variable {P : Program} {n : Nat} {ops : Array Oper} {dr : Nat × List Nat} {l : List Oper} {E : Env} {w : World} {K : Env → World → Prop}
variable {d : Option Nat} {ty : TypeId} {pos : String} {af : Array Edge} {g : Option (Nat × Bool)} {x y : Operand} {i : Int}
/-- a longer text is not found in a shorter one -/
theorem run_indexS (P : Program) (a b : ByteArray) {m : Int} {gm : Nat} (w : World) (hg : P.globals.findIdx? (·.name == "internal/bytealg.MaxLen") = some gm) (hm : hcell w.heap ⟨gm, 0, none⟩ = some (.int .i64 m)) (h1 : 2 ≤ b.size) (h2 : (b.size : Int) ≤ m) (h3 : a.size < b.size) (h4 : a.size < 1000) :
    (Extern.BytealgIndex.index #[.string a, .string b]).run P w = .ok (.int .i64 (-1)) w := by
  have hml : (Extern.BytealgIndex.maxLen).run P w = .ok m w := by
    unfold Extern.BytealgIndex.maxLen
    simp [globalAddr, hg, load, Sem.run, cell_eq, hm, asInt, asIntOf]
  have hr : a.size + 1 - b.size = 0 := by omega
  change Sem.run P (bind (Extern.Bytes.bytesOf (.string a)) _) w = _
  have ea : (Extern.Bytes.bytesOf (.string a)).run P w = .ok a w := rfl
  have eb : (Extern.Bytes.bytesOf (.string b)).run P w = .ok b w := rfl
  rw [Sem.run_bind, ea, Result.andThen_ok]
  change Sem.run P (bind (Extern.Bytes.bytesOf (.string b)) _) w = _
  rw [Sem.run_bind, eb, Result.andThen_ok]
  rw [Sem.run_bind, hml, Result.andThen_ok]
  have e1 : (decide (b.size < 2) || decide ((b.size : Int) > m)) = false := by
    simp only [Bool.or_eq_false_iff, decide_eq_false_iff_not]; omega
  rw [if_neg (by rw [e1]; decide)]
  simp only [Sem.run_bind, Sem.run_pure, Result.andThen_ok]
  rw [if_neg (by omega), hr]
  rfl
theorem G1_indexS {f : FuncId} {fn : Func} {a b : ByteArray} {m : Int} {gm : Nat} {tys : Array TypeId} (hf : P.funcs[f]? = some fn) (hname : (fn.name == "runtime.NumGoroutine") = false) (hb : fn.body.isNone = true) (hn : Extern.findNext fn = none) (hfi : Extern.find fn = some Extern.BytealgIndex.index)
    (hx : E.look x = some (.string a)) (hy : E.look y = some (.string b)) (hg : P.globals.findIdx? (·.name == "internal/bytealg.MaxLen") = some gm) (hm : hcell w.heap ⟨gm, 0, none⟩ = some (.int .i64 m)) (h1 : 2 ≤ b.size) (h2 : (b.size : Int) ≤ m) (h3 : a.size < b.size) (h4 : a.size < 1000) (he : effects P dr.1 ⟨d, .call ⟨.value (.func f), #[x, y], tys⟩, ty, pos, af, g⟩ = true) (hd : dstOk n d = true)
    (h : G P n ops dr l (E.put d (.int .i64 (-1))) w K) : G1 P n ops dr ⟨d, .call ⟨.value (.func f), #[x, y], tys⟩, ty, pos, af, g⟩ l E w K := by
  have hr : (callFunc f #[.string a, .string b]).run P w = .ok (.value (.int .i64 (-1))) w := by
    rw [run_callFunc_extern hf hname hb hn hfi, run_indexS P a b w hg hm h1 h2 h3 h4]
    rfl
  exact G1_eff _ w he hd (fun a ha => by
    have e0 : a.eval (.func f) = .func (.func f) #[] #[] := rfl
    simp [execOp, resolve, Deferred.ofValue, e0, invoke, ha.eval hx, ha.eval hy, hr]) (.inr ExtS.rfl') h
end
end Go.V
namespace Go.Proofs.YtikjnmpijflnaaaDoor
open Go.V
attribute [local irreducible] Blk Own hcell IntT SliceT PlainT AggT SizeT StrT FieldT ZeroT EqT ArrT
/-- the library's tables of runes, and a number in the variable MaxLen -/
structure Utf (w : World) : Prop where
  tabs : Lib.Utf8Tabs (Tryd.layDR_ren.g 2) (Tryd.layDR_ren.g 3) w
  most : ∃ m : Int, hcell w.heap ⟨0, 0, none⟩ = some (.int .i64 m)
theorem Utf.ext {w w' : World} (h : Utf w) (hx : Ext w w') : Utf w' := ⟨Utf8Tabs_below h.tabs hx, h.most.imp fun _ hm => hx.cell hm⟩
theorem gMax : Tryd.prog.globals.findIdx? (·.name == "internal/bytealg.MaxLen") = some 0 := by kernel_rfl
theorem is0 : Extern.findNext Tryd.f75 = none := by kernel_rfl
theorem is1 : Extern.find Tryd.f75 = some Extern.BytealgIndex.index := by kernel_rfl
theorem wrap_i32_u8 (x : UInt8) : IntKind.i32.wrap (x.toNat : Int) = (x.toNat : Int) := by
  have := x.toNat_lt
  simp only [IntKind.wrap_i32]; omega
theorem decodeRune_spec {p : Option Addr} {c : Nat} {xs : List UInt8} {w : World} (hs : Sl w.heap eByte p c xs) (h0 : xs ≠ []) (hU : Utf w) :
    Ctr Tryd.prog 74 [.slice p xs.length c] w (fun v w' => v = .tuple #[.int .i32 (Utf8.decode (mkStr xs) 0).1, .int .i64 (Utf8.decode (mkStr xs) 0).2] ∧ Ext w w') := by
  have hl : 0 < xs.length := List.length_pos_iff.2 h0
  have hle := hs.ok.le
  obtain ⟨a, rfl⟩ : ∃ a, p = some a := by
    cases p with
    | none => have := hs.ok.nul rfl; omega
    | some a => exact ⟨a, rfl⟩
  have hsp := hs.ok.spot a rfl (by omega)
  obtain ⟨b, off, sp⟩ := a
  simp only at hsp
  subst hsp
  have hsz : (mkStr xs).size = xs.length := mkStr_size xs
  have key := Any7.utf8_DecodeRune Tryd.layDR (mkStr xs) b off c w hU.tabs (fun j hj => by
    rw [hsz] at hj
    obtain ⟨x, hx⟩ := get_some hj
    have h1 := hs.cell j x hx 0 (.int .u8 (x.toNat : Int)) rfl
    have h2 : ((mkStr xs).get! j) = x := by
      rw [bget_get' (by rw [hsz]; exact hj), bget_list]
      have : (mkStr xs).data.toList = xs := by unfold mkStr; simp
      rw [this, List.getD_eq_getElem?_getD, hx]
      rfl
    rw [h2]
    have e : adr (some ⟨b, off, none⟩) (j * eByte.sz + 0) = ⟨b, off + j, none⟩ := by
      simp [adr, Addr.add, eByte]
    rw [e] at h1
    rw [cell_eq]
    exact h1)
  unfold Ctr
  refine ⟨⟨Tryd.f74, Tryd.func74, by decide, rfl⟩, ?_⟩
  rw [hsz] at key
  refine Calls.mono key fun e w' ⟨he, hw⟩ => ⟨_, he, ?_, hw⟩
  unfold Lib.decodeGo
  rw [if_neg (by omega)]
theorem drop_at {α : Type} {xs : List α} {k : Nat} {x : α} (h : xs[k]? = some x) : xs.drop k = x :: xs.drop (k + 1) := by
  rw [List.drop_eq_getElem_cons (get_lt h)]
  rw [List.getElem?_eq_getElem (get_lt h)] at h
  injection h with h
  rw [h]
/-- where the first end-of-line sign is, or -1 -/
def brI (bs : List UInt8) : Int := if brAt bs < bs.length then (brAt bs : Int) else -1
theorem brI_at {bs : List UInt8} {k : Nat} {x : UInt8} (hk : bs[k]? = some x) (hx : isBr x = true) (hn : ∀ b ∈ bs.take k, isBr b = false) : brI bs = (k : Int) := by
  have hlt := get_lt hk
  have e : bs = bs.take k ++ x :: bs.drop (k + 1) := by
    rw [← drop_at hk, List.take_append_drop]
  have hb : brAt bs = k := by
    rw [e, brAt_app _ _ _ hn hx, List.length_take]
    omega
  unfold brI
  rw [hb, if_pos hlt]
theorem brI_no {bs : List UInt8} (hn : ∀ b ∈ bs, isBr b = false) : brI bs = -1 := by
  have hb : ¬ brAt bs < bs.length := fun h => by
    obtain ⟨c, h1, h2⟩ := brAt_is bs h
    rw [hn c (List.mem_of_getElem? h1)] at h2
    cases h2
  unfold brI
  rw [if_neg hb]
theorem no_snoc {bs : List UInt8} {k : Nat} {x : UInt8} (hk : bs[k]? = some x) (hx : isBr x = false) (hn : ∀ b ∈ bs.take k, isBr b = false) : ∀ b ∈ bs.take (k + 1), isBr b = false := by
  intro b hb
  rw [take_snoc hk] at hb
  rcases List.mem_append.1 hb with hb | hb
  · exact hn b hb
  · rw [List.mem_singleton.1 hb]; exact hx
theorem isBr_hi {x : UInt8} (h : 128 ≤ x.toNat) : isBr x = false := by
  cases e : isBr x with
  | false => rfl
  | true => have := br_lo e; omega
theorem isBr_of (x : UInt8) : isBr x = ((decide (x.toNat = 13) && decide (0 < 2)) || (decide (x.toNat = 10) && decide (1 < 2))) := by
  have key : ∀ n : Fin 256, isBr (UInt8.ofNat n.val) = ((decide ((UInt8.ofNat n.val).toNat = 13) && decide (0 < 2)) || (decide ((UInt8.ofNat n.val).toNat = 10) && decide (1 < 2))) := by decide +kernel
  have h := key ⟨x.toNat, UInt8.toNat_lt x⟩
  simpa using h

set_option maxRecDepth 100000 in
theorem bytesIndex_spec {p : Option Addr} {c : Nat} {bs : List UInt8} {w : World} (hC : Sl w.heap eByte p c bs) (hU : Utf w) :
    Ctr Tryd.prog 59 [.slice p bs.length c, .string brs] w (fun v w' => v = .int .i64 (brI bs) ∧ Ext w w') := by
  have hse : ¬ brs = ⟨#[]⟩ := by decide
  have hss := br_size
  have n1 := hC.bound
  have hok := hC.ok
  refine Ctr_of Tryd.func59 Tryd.ntmps59 rfl rfl rfl ?_
  rcases (show bs.length = 0 ∨ bs.length = 1 ∨ (2 ≤ bs.length ∧ bs.length ≤ 8) ∨ 8 < bs.length by omega) with h0 | h1 | h2 | h8
  · obtain rfl := List.eq_nil_of_length_eq_zero h0
    have hsu : ∀ w, Ctr Tryd.prog 71 [.int .i64 (([] : List UInt8).length : Int)] w (fun v w' => v = .bool false ∧ Ext w w') := fun w => should_spec.mono fun v w' ⟨a1, a2⟩ => ⟨a1, a2⟩
    repeat' (first | (apply G_on; exact rfl; first | ((first | apply G1_assign | apply G1_move); exact rfl; exact rfl) | (apply G1_call (f := 71); exact rfl; exact rfl; exact rfl; exact hsu _; rintro _ w1 ⟨rfl, hx1⟩; refine ⟨(by first | exact .inl rfl | exact .inr (by assumption)), ?_⟩) | (apply G1_seql; exact rfl; exact rfl; exact rfl) | (apply G1_len; exact T.s28; exact rfl; exact rfl) | (apply G1_eql; exact rfl; exact rfl; exact rfl) | (apply G1_slen; exact T.str9; exact rfl; exact rfl)) | apply G_nil | apply Post_next | apply W_seq | apply W_region | (apply W_cond_false; exact rfl) | apply W_skip | apply W_block)
    refine W_loop (ι := Unit) (fun _ => [(0, .slice p ([] : List UInt8).length c), (12, .int .i64 0)]) (fun _ w' => Ext w w') (fun _ => 0) () ⟨rfl, rfl, trivial⟩ (by repeat first | assumption | exact Ext.rfl' | apply Ext.drew | apply Ext.alloc | refine Ext.trans ?_ (by assumption)) ?_
    rintro _ w3 hx3
    repeat' (first | (apply G_on; exact rfl; first | ((first | apply G1_assign | apply G1_move); exact rfl; exact rfl) | (apply G1_len; exact T.s28; exact rfl; exact rfl) | (apply G1_lss; exact rfl; exact rfl; exact rfl)) | apply G_nil | apply Post_next | apply W_seq | apply W_region | (apply W_cond_false; exact rfl) | apply W_exit | apply W_ret | apply Post_then_exit | apply Post_block_exit)
    refine Post_ret Tryd.results59 ⟨_, _, rfl, rfl, rfl⟩ ?_
    exact ⟨rfl, (by repeat first | assumption | exact Ext.rfl' | apply Ext.drew | apply Ext.alloc | refine Ext.trans ?_ (by assumption))⟩
  · obtain ⟨x, rfl⟩ : ∃ x, bs = [x] := by
      cases bs with
      | nil => cases h1
      | cons x l => cases l with
        | nil => exact ⟨x, rfl⟩
        | cons y l => simp at h1
    have hq : [x][0]? = some x := rfl
    have hxl := x.toNat_lt
    have hsg := br_idx x
    by_cases hb : x.toNat < 128
    · repeat' (first | (apply G_on; exact rfl; first | ((first | apply G1_assign | apply G1_move); exact rfl; exact rfl) | (apply G1_convE (j := (x.toNat : Int)); exact rfl; exact T.i5; exact T.i21; exact wrap_i32_u8 x; exact rfl) | (apply G1_indexByte; exact Tryd.func69; exact rfl; exact rfl; exact ib0; exact ib1; exact rfl; exact rfl; exact rfl; exact rfl) | (apply G1_seql; exact rfl; exact rfl; exact rfl) | (apply G1_len; exact T.s28; exact rfl; exact rfl) | (apply G1_eql; exact rfl; exact rfl; exact rfl) | (apply G1_indexAddr; exact T.s28; exact rfl; exact rfl; (first | assumption | exact Sl.ok (by assumption) | exact (Own.sl (by assumption)).ok); omega; omega; exact rfl) | (apply G1_loadEl1; exact T.p5; exact rfl; assumption; assumption; exact rfl; exact rfl; exact rfl) | (apply G1_geq; exact rfl; exact rfl; exact rfl)) | apply G_nil | apply Post_next | apply W_seq | apply W_region | (apply W_cond_true; exact rfl) | (apply W_cond_false; exact rfl) | (apply W_cond_dec; exact rfl; all_goals (intro h; try (exfalso; omega))) | apply W_skip | apply W_ret | apply Post_then_ret)
      · refine Post_ret Tryd.results59 ⟨_, _, rfl, rfl, rfl⟩ ?_
        rw [toUInt8_nat] at h
        exact ⟨by rw [brI_at (k := 0) hq (by rw [← hsg]; exact decide_eq_true h) (by simp)]; rfl, (by repeat first | assumption | exact Ext.rfl' | apply Ext.drew | apply Ext.alloc | refine Ext.trans ?_ (by assumption))⟩
      · refine Post_ret Tryd.results59 ⟨_, _, rfl, rfl, rfl⟩ ?_
        rw [toUInt8_nat] at h
        have hno : isBr x = false := by rw [← hsg]; exact decide_eq_false h
        exact ⟨by rw [brI_no (by intro b hb; rw [List.mem_singleton.1 hb]; exact hno)]; rfl, (by repeat first | assumption | exact Ext.rfl' | apply Ext.drew | apply Ext.alloc | refine Ext.trans ?_ (by assumption))⟩
    · have hno := isBr_hi (x := x) (by omega)
      repeat' (first | (apply G_on; exact rfl; first | ((first | apply G1_assign | apply G1_move); exact rfl; exact rfl) | (apply G1_convE (j := (x.toNat : Int)); exact rfl; exact T.i5; exact T.i21; exact wrap_i32_u8 x; exact rfl) | (apply G1_seql; exact rfl; exact rfl; exact rfl) | (apply G1_len; exact T.s28; exact rfl; exact rfl) | (apply G1_eql; exact rfl; exact rfl; exact rfl) | (apply G1_indexAddr; exact T.s28; exact rfl; exact rfl; (first | assumption | exact Sl.ok (by assumption) | exact (Own.sl (by assumption)).ok); omega; omega; exact rfl) | (apply G1_loadEl1; exact T.p5; exact rfl; assumption; assumption; exact rfl; exact rfl; exact rfl) | (apply G1_geq; exact rfl; exact rfl; exact rfl)) | apply G_nil | apply Post_next | apply W_seq | apply W_region | (apply W_cond_true; exact rfl) | (apply W_cond_false; exact rfl) | (apply W_cond_dec; exact rfl; all_goals (intro h; try (exfalso; omega))) | apply W_skip)
      apply G_on; exact rfl
      apply G1_rangeS; exact T.str9; exact rfl; exact rfl; exact rfl
      intro wi hii hxi hzi
      obtain ⟨kb, hkb⟩ : ∃ k, w.heap.size = k := ⟨_, rfl⟩
      rw [hkb] at hii ⊢
      have hkw : w.heap.size ≤ kb := by have := (show Ext w w from (by repeat first | assumption | exact Ext.rfl' | apply Ext.drew | apply Ext.alloc | refine Ext.trans ?_ (by assumption))).size; omega
      replace hxi : Ext w wi := (show Ext w w from (by repeat first | assumption | exact Ext.rfl' | apply Ext.drew | apply Ext.alloc | refine Ext.trans ?_ (by assumption))).trans hxi
      repeat' (first | apply G_nil | apply Post_next | apply W_block)
      refine W_loop (ι := Nat) (fun _ => [(28, .pointer (some ⟨kb, 0, none⟩))]) (fun k w' => Ext w w' ∧ Itr w' kb brs k ∧ k ≤ 2) (fun k => 2 - k) 0 ⟨rfl, trivial⟩ ⟨hxi, hii, Nat.zero_le _⟩ ?_
      clear hii hxi hzi
      rintro kk wj ⟨hxj, hij, hkk⟩
      by_cases hlk : kk < 2
      · have hdk := br_dec (k := kk) (by omega)
        have hbk := br_get hlk
        repeat' (first | apply W_seq | apply W_region)
        apply G_on; exact rfl
        apply G1_nextS (s := brs) (m := kk); exact rfl; exact hij; omega; exact hdk; exact rfl; exact rfl; exact rfl
        intro wk hik hgk hzk
        have hxk : Ext w wk := hxj.own hgk (fun k hk => by injection hk with hk; omega)
        repeat' (first | (apply G_on; exact rfl; first | ((first | apply G1_assign | apply G1_move); exact rfl; exact rfl) | (apply G1_eql; exact rfl; exact rfl; exact rfl) | (apply G1_extract; exact rfl; exact rfl; exact rfl)) | apply G_nil | apply Post_next | apply W_seq | apply W_region | (apply W_cond_true; exact rfl) | (apply W_cond_dec; exact rfl; all_goals (intro h; try (exfalso; omega))) | apply W_skip | apply W_block | apply Post_block_normal)
        all_goals exact Post_round (kk + 1) ⟨rfl, trivial⟩ ⟨hxk, hik, by omega⟩ (by omega)
      · repeat' (first | apply W_seq | apply W_region)
        apply G_on; exact rfl
        apply G1_nextE (s := brs) (m := kk); exact rfl; exact hij; omega; exact rfl; exact rfl; exact rfl
        repeat' (first | (apply G_on; exact rfl; first | (apply G1_assign; exact rfl; exact rfl) | (apply G1_extract; exact rfl; exact rfl; exact rfl)) | apply G_nil | apply Post_next | apply W_seq | apply W_region | (apply W_cond_false; exact rfl) | apply W_exit | apply W_ret | apply Post_then_ret | apply Post_then_exit | apply Post_block_exit)
        refine Post_ret Tryd.results59 ⟨_, _, rfl, rfl, rfl⟩ ?_
        exact ⟨by rw [brI_no (by intro b hb; rw [List.mem_singleton.1 hb]; exact hno)]; rfl, (by repeat first | assumption | exact Ext.rfl' | apply Ext.drew | apply Ext.alloc | refine Ext.trans ?_ (by assumption))⟩
  · have hsu : ∀ w, Ctr Tryd.prog 71 [.int .i64 (bs.length : Int)] w (fun v w' => v = .bool false ∧ Ext w w') := fun w => should_spec.mono fun v w' ⟨a1, a2⟩ => ⟨by rw [a1, decide_eq_false (by omega)], a2⟩
    repeat' (first | (apply G_on; exact rfl; first | ((first | apply G1_assign | apply G1_move); exact rfl; exact rfl) | (apply G1_call (f := 71); exact rfl; exact rfl; exact rfl; exact hsu _; rintro _ w1 ⟨rfl, hx1⟩; refine ⟨(by first | exact .inl rfl | exact .inr (by assumption)), ?_⟩) | (apply G1_seql; exact rfl; exact rfl; exact rfl) | (apply G1_len; exact T.s28; exact rfl; exact rfl) | (apply G1_eql; exact rfl; exact rfl; exact rfl) | (apply G1_slen; exact T.str9; exact rfl; exact rfl)) | apply G_nil | apply Post_next | apply W_seq | apply W_region | (apply W_cond_false; exact rfl) | (apply W_cond_dec; exact rfl; all_goals (intro h; try (exfalso; omega))) | apply W_skip | apply W_block)
    refine W_loop (ι := Nat) (fun k => [(0, .slice p bs.length c), (1, .string brs), (12, .int .i64 (k : Int))]) (fun k w' => Ext w w' ∧ k ≤ bs.length ∧ ∀ b ∈ bs.take k, isBr b = false) (fun k => bs.length - k) 0 ⟨rfl, rfl, rfl, trivial⟩ ⟨(by repeat first | assumption | exact Ext.rfl' | apply Ext.drew | apply Ext.alloc | refine Ext.trans ?_ (by assumption)), Nat.zero_le _, by simp⟩ ?_
    clear hx1 w1
    rintro k w1 ⟨hx1, hk, hn⟩
    have hC1 := hC.ext hx1
    have hU1 := hU.ext hx1
    by_cases hlt : k < bs.length
    · obtain ⟨x, hq⟩ := get_some hlt
      have hxl := x.toNat_lt
      have hsg := br_idx x
      by_cases hb : x.toNat < 128
      · repeat' (first | (apply G_on; exact rfl; first | ((first | apply G1_assign | apply G1_move); exact rfl; exact rfl) | (apply G1_convE (j := (x.toNat : Int)); exact rfl; exact T.i5; exact T.i21; exact wrap_i32_u8 x; exact rfl) | (apply G1_indexByte; exact Tryd.func69; exact rfl; exact rfl; exact ib0; exact ib1; exact rfl; exact rfl; exact rfl; exact rfl) | (apply G1_len; exact T.s28; exact rfl; exact rfl) | (apply G1_indexAddrN; exact T.s28; exact rfl; exact rfl; (first | assumption | exact Sl.ok (by assumption) | exact (Own.sl (by assumption)).ok); omega; exact rfl) | (apply G1_loadEl1; exact T.p5; exact rfl; assumption; assumption; exact rfl; exact rfl; exact rfl) | ((first | apply G1_geq | apply G1_lss); exact rfl; exact rfl; exact rfl) | (apply G1_add; exact rfl; exact rfl; omega; omega; exact rfl)) | apply G_nil | apply Post_next | apply W_seq | apply W_region | (apply W_cond_dec; exact rfl; all_goals (intro h; try (exfalso; omega))) | apply W_skip | apply W_exit | apply W_ret | apply W_block | apply Post_then_ret | apply Post_block_ret | apply Post_then_exit | apply Post_block_exit)
        · refine Post_ret Tryd.results59 ⟨_, _, rfl, rfl, rfl⟩ ?_
          rw [toUInt8_nat] at h
          exact ⟨by rw [brI_at hq (by rw [← hsg]; exact decide_eq_true h) hn]; rfl, (by repeat first | assumption | exact Ext.rfl' | apply Ext.drew | apply Ext.alloc | refine Ext.trans ?_ (by assumption))⟩
        · rw [toUInt8_nat] at h
          have hno : isBr x = false := by rw [← hsg]; exact decide_eq_false h
          exact Post_round (k + 1) ⟨rfl, rfl, rfl, trivial⟩ ⟨(by repeat first | assumption | exact Ext.rfl' | apply Ext.drew | apply Ext.alloc | refine Ext.trans ?_ (by assumption)), by omega, no_snoc hq hno hn⟩ (by omega)
      · obtain ⟨s, hs⟩ : ∃ s, mkStr (bs.drop k) = s := ⟨_, rfl⟩
        have hssz : s.size = bs.length - k := by rw [← hs, mkStr_size, List.length_drop]
        have hsl : s.data.toList = bs.drop k := by rw [← hs]; unfold mkStr; simp
        have hsg2 : ∀ j, bget s j = (bs.drop k).getD j 0 := fun j => by rw [bget_list, hsl]
        have hb0 : 128 ≤ (bget s 0).toNat := by
          rw [hsg2, List.getD_eq_getElem?_getD, List.getElem?_drop, Nat.add_zero, hq]
          show 128 ≤ x.toNat
          omega
        obtain ⟨d1, d2, d3, d4, d5⟩ := decode_skip s 0 (by omega) hb0
        have hew := enc_width s 0 (by omega) hb0
        have hd := hC1.drop (l := k) (by have := hok.le; omega)
        have hdr := fun w2 (hx : Ext w1 w2) => decodeRune_spec (hd.ext hx) (by intro e; have := congrArg List.length e; simp at this; omega) (hU1.ext hx)
        rw [hs] at hdr
        simp only [List.length_drop] at hdr
        obtain ⟨v, hv⟩ : ∃ v, Utf8.decode s 0 = v := ⟨_, rfl⟩
        rw [hv] at d1 d2 d3 d4 d5 hew hdr
        obtain ⟨rf1, rf2, rf3⟩ := rune_facts v.1 d1
        have hno2 : ∀ b ∈ bs.take (k + v.2), isBr b = false := by
          intro b hb
          obtain ⟨j, hj⟩ := List.getElem?_of_mem hb
          have hjl := get_lt hj
          rw [List.length_take] at hjl
          rw [List.getElem?_take] at hj
          rw [if_pos (by omega)] at hj
          by_cases hjk : j < k
          · exact hn b (List.mem_of_getElem? (show (bs.take k)[j]? = some b by rw [List.getElem?_take, if_pos hjk]; exact hj))
          · have := d5 (j - k) (by omega) (by omega)
            rw [hsg2, List.getD_eq_getElem?_getD, List.getElem?_drop, show k + (j - k) = j by omega, hj] at this
            exact isBr_hi this
        have hns : ¬ brs = Utf8.encode (v.1 : Int) := fun e => by
          rw [← e] at rf3
          revert rf3
          decide
        obtain ⟨mx, hmx⟩ := hU1.most
        obtain ⟨rI, hrI⟩ : ∃ r : Int, r = (v.1 : Int) := ⟨_, rfl⟩
        obtain ⟨wI, hwI⟩ : ∃ r : Int, r = (v.2 : Int) := ⟨_, rfl⟩
        rw [← hrI] at hns hew rf1 rf2
        simp only [← hrI, ← hwI] at hdr
        have hew2 : ¬ rI = 65533 → (Utf8.encode rI).size = v.2 := fun e => hew (by omega)
        clear hew
        repeat' (first | (apply G_on; exact rfl; first | ((first | apply G1_assign | apply G1_move); exact rfl; exact rfl) | (apply G1_convE (j := (x.toNat : Int)); exact rfl; exact T.i5; exact T.i21; exact wrap_i32_u8 x; exact rfl) | (apply G1_sliceLoJ (q := k); exact T.s28; exact rfl; exact rfl; exact rfl; exact hok; omega; exact rfl) | (apply G1_call (f := 74); exact rfl; exact rfl; exact rfl; exact hdr _ (by repeat first | assumption | exact Ext.rfl' | apply Ext.drew | apply Ext.alloc | refine Ext.trans ?_ (by assumption)); rintro _ w2 ⟨rfl, hx2⟩; refine ⟨(by first | exact .inl rfl | exact .inr (by assumption)), ?_⟩) | (apply G1_runeStr; exact T.i21; exact T.str9; exact rfl; exact rfl) | (apply G1_load (p := some ⟨0, 0, none⟩) (m := 0); exact T.p3; exact rfl; exact Ext.cell (by repeat first | assumption | exact Ext.rfl' | apply Ext.drew | apply Ext.alloc | refine Ext.trans ?_ (by assumption)) hmx; exact rfl) | (apply G1_indexS (a := brs) (b := Utf8.encode rI) (m := mx); exact Tryd.func75; exact rfl; exact rfl; exact is0; exact is1; exact rfl; exact rfl; exact gMax; exact Ext.cell (by repeat first | assumption | exact Ext.rfl' | apply Ext.drew | apply Ext.alloc | refine Ext.trans ?_ (by assumption)) hmx; exact rf1; (have := hew2 (by assumption); omega); (have := hew2 (by assumption); omega); omega; exact rfl; exact rfl) | (apply G1_seql; exact rfl; exact rfl; exact rfl) | (apply G1_len; exact T.s28; exact rfl; exact rfl) | (apply G1_eql; exact rfl; exact rfl; exact rfl) | (apply G1_indexAddrN; exact T.s28; exact rfl; exact rfl; (first | assumption | exact Sl.ok (by assumption) | exact (Own.sl (by assumption)).ok); omega; exact rfl) | (apply G1_loadEl1; exact T.p5; exact rfl; assumption; assumption; exact rfl; exact rfl; exact rfl) | ((first | apply G1_geq | apply G1_extract | apply G1_lss | apply G1_neq); exact rfl; exact rfl; exact rfl) | (apply G1_slen; exact T.str9; exact rfl; exact rfl) | (apply G1_add; exact rfl; exact rfl; omega; omega; exact rfl)) | apply G_nil | apply Post_next | apply W_seq | apply W_region | (apply W_cond_false; exact rfl) | (apply W_cond_dec; exact rfl; all_goals (intro h; try (exfalso; omega))) | apply W_skip | apply W_exit | apply W_ret | apply W_block | apply Post_then_ret | apply Post_block_ret | apply Post_then_exit | apply Post_block_exit)
        · exact absurd (by assumption) hns
        · exact Post_round (k + v.2) ⟨rfl, rfl, by show some (Value.int .i64 _) = some (Value.int .i64 _); congr 2; omega, trivial⟩ ⟨(by repeat first | assumption | exact Ext.rfl' | apply Ext.drew | apply Ext.alloc | refine Ext.trans ?_ (by assumption)), by omega, hno2⟩ (by omega)
        · exact Post_round (k + v.2) ⟨rfl, rfl, by show some (Value.int .i64 _) = some (Value.int .i64 _); congr 2; omega, trivial⟩ ⟨(by repeat first | assumption | exact Ext.rfl' | apply Ext.drew | apply Ext.alloc | refine Ext.trans ?_ (by assumption)), by omega, hno2⟩ (by omega)
        · apply G_on; exact rfl
          apply G1_rangeS; exact T.str9; exact rfl; exact rfl; exact rfl
          intro wi hii hxi hzi
          obtain ⟨kb, hkb⟩ : ∃ k, w2.heap.size = k := ⟨_, rfl⟩
          rw [hkb] at hii ⊢
          have hkw : w.heap.size ≤ kb := by have := (show Ext w w2 from (by repeat first | assumption | exact Ext.rfl' | apply Ext.drew | apply Ext.alloc | refine Ext.trans ?_ (by assumption))).size; omega
          replace hxi : Ext w wi := (show Ext w w2 from (by repeat first | assumption | exact Ext.rfl' | apply Ext.drew | apply Ext.alloc | refine Ext.trans ?_ (by assumption))).trans hxi
          repeat' (first | apply G_nil | apply Post_next | apply W_block)
          refine W_loop (ι := Nat) (fun _ => [(0, .slice p bs.length c), (1, .string brs), (11, .int .i64 wI), (12, .int .i64 (k : Int)), (13, .int .i32 rI), (121, .pointer (some ⟨kb, 0, none⟩))]) (fun k w' => Ext w w' ∧ Itr w' kb brs k ∧ k ≤ 2) (fun k => 2 - k) 0 ⟨rfl, rfl, rfl, rfl, rfl, rfl, trivial⟩ ⟨hxi, hii, Nat.zero_le _⟩ ?_
          clear hii hxi hzi
          rintro kk wj ⟨hxj, hij, hkk⟩
          by_cases hlk : kk < 2
          · have hdk := br_dec (k := kk) (by omega)
            have hbk := br_get hlk
            repeat' (first | apply W_seq | apply W_region)
            apply G_on; exact rfl
            apply G1_nextS (s := brs) (m := kk); exact rfl; exact hij; omega; exact hdk; exact rfl; exact rfl; exact rfl
            intro wk hik hgk hzk
            have hxk : Ext w wk := hxj.own hgk (fun k hk => by injection hk with hk; omega)
            repeat' (first | (apply G_on; exact rfl; first | ((first | apply G1_assign | apply G1_move); exact rfl; exact rfl) | (apply G1_eql; exact rfl; exact rfl; exact rfl) | (apply G1_extract; exact rfl; exact rfl; exact rfl)) | apply G_nil | apply Post_next | apply W_seq | apply W_region | (apply W_cond_true; exact rfl) | (apply W_cond_dec; exact rfl; all_goals (intro h; try (exfalso; omega))) | apply W_skip | apply W_block | apply Post_block_normal)
            all_goals exact Post_round (kk + 1) ⟨rfl, rfl, rfl, rfl, rfl, rfl, trivial⟩ ⟨hxk, hik, by omega⟩ (by omega)
          · repeat' (first | apply W_seq | apply W_region)
            apply G_on; exact rfl
            apply G1_nextE (s := brs) (m := kk); exact rfl; exact hij; omega; exact rfl; exact rfl; exact rfl
            repeat' (first | (apply G_on; exact rfl; first | ((first | apply G1_assign | apply G1_move); exact rfl; exact rfl) | (apply G1_extract; exact rfl; exact rfl; exact rfl) | (apply G1_add; exact rfl; exact rfl; omega; omega; exact rfl)) | apply G_nil | apply Post_next | apply W_seq | apply W_region | (apply W_cond_false; exact rfl) | apply W_exit | apply Post_then_exit | apply Post_block_exit | apply Post_block_normal)
            exact Post_round (k + v.2) ⟨rfl, rfl, by show some (Value.int .i64 _) = some (Value.int .i64 _); congr 2; omega, trivial⟩ ⟨(by repeat first | assumption | exact Ext.rfl' | apply Ext.drew | apply Ext.alloc | refine Ext.trans ?_ (by assumption)), by omega, hno2⟩ (by omega)
        · apply G_on; exact rfl
          apply G1_rangeS; exact T.str9; exact rfl; exact rfl; exact rfl
          intro wi hii hxi hzi
          obtain ⟨kb, hkb⟩ : ∃ k, w2.heap.size = k := ⟨_, rfl⟩
          rw [hkb] at hii ⊢
          have hkw : w.heap.size ≤ kb := by have := (show Ext w w2 from (by repeat first | assumption | exact Ext.rfl' | apply Ext.drew | apply Ext.alloc | refine Ext.trans ?_ (by assumption))).size; omega
          replace hxi : Ext w wi := (show Ext w w2 from (by repeat first | assumption | exact Ext.rfl' | apply Ext.drew | apply Ext.alloc | refine Ext.trans ?_ (by assumption))).trans hxi
          repeat' (first | apply G_nil | apply Post_next | apply W_block)
          refine W_loop (ι := Nat) (fun _ => [(0, .slice p bs.length c), (1, .string brs), (11, .int .i64 wI), (12, .int .i64 (k : Int)), (13, .int .i32 rI), (121, .pointer (some ⟨kb, 0, none⟩))]) (fun k w' => Ext w w' ∧ Itr w' kb brs k ∧ k ≤ 2) (fun k => 2 - k) 0 ⟨rfl, rfl, rfl, rfl, rfl, rfl, trivial⟩ ⟨hxi, hii, Nat.zero_le _⟩ ?_
          clear hii hxi hzi
          rintro kk wj ⟨hxj, hij, hkk⟩
          by_cases hlk : kk < 2
          · have hdk := br_dec (k := kk) (by omega)
            have hbk := br_get hlk
            repeat' (first | apply W_seq | apply W_region)
            apply G_on; exact rfl
            apply G1_nextS (s := brs) (m := kk); exact rfl; exact hij; omega; exact hdk; exact rfl; exact rfl; exact rfl
            intro wk hik hgk hzk
            have hxk : Ext w wk := hxj.own hgk (fun k hk => by injection hk with hk; omega)
            repeat' (first | (apply G_on; exact rfl; first | ((first | apply G1_assign | apply G1_move); exact rfl; exact rfl) | (apply G1_eql; exact rfl; exact rfl; exact rfl) | (apply G1_extract; exact rfl; exact rfl; exact rfl)) | apply G_nil | apply Post_next | apply W_seq | apply W_region | (apply W_cond_true; exact rfl) | (apply W_cond_dec; exact rfl; all_goals (intro h; try (exfalso; omega))) | apply W_skip | apply W_block | apply Post_block_normal)
            all_goals exact Post_round (kk + 1) ⟨rfl, rfl, rfl, rfl, rfl, rfl, trivial⟩ ⟨hxk, hik, by omega⟩ (by omega)
          · repeat' (first | apply W_seq | apply W_region)
            apply G_on; exact rfl
            apply G1_nextE (s := brs) (m := kk); exact rfl; exact hij; omega; exact rfl; exact rfl; exact rfl
            repeat' (first | (apply G_on; exact rfl; first | ((first | apply G1_assign | apply G1_move); exact rfl; exact rfl) | (apply G1_extract; exact rfl; exact rfl; exact rfl) | (apply G1_add; exact rfl; exact rfl; omega; omega; exact rfl)) | apply G_nil | apply Post_next | apply W_seq | apply W_region | (apply W_cond_false; exact rfl) | apply W_exit | apply Post_then_exit | apply Post_block_exit | apply Post_block_normal)
            exact Post_round (k + v.2) ⟨rfl, rfl, by show some (Value.int .i64 _) = some (Value.int .i64 _); congr 2; omega, trivial⟩ ⟨(by repeat first | assumption | exact Ext.rfl' | apply Ext.drew | apply Ext.alloc | refine Ext.trans ?_ (by assumption)), by omega, hno2⟩ (by omega)
    · have hk' : k = bs.length := by omega
      subst hk'
      rw [List.take_of_length_le (Nat.le_refl _)] at hn
      repeat' (first | (apply G_on; exact rfl; first | ((first | apply G1_assign | apply G1_move); exact rfl; exact rfl) | (apply G1_len; exact T.s28; exact rfl; exact rfl) | (apply G1_lss; exact rfl; exact rfl; exact rfl)) | apply G_nil | apply Post_next | apply W_seq | apply W_region | (apply W_cond_dec; exact rfl; all_goals (intro h; try (exfalso; omega))) | apply W_exit | apply W_ret | apply Post_then_exit | apply Post_block_exit)
      refine Post_ret Tryd.results59 ⟨_, _, rfl, rfl, rfl⟩ ?_
      exact ⟨by rw [brI_no hn]; rfl, (by repeat first | assumption | exact Ext.rfl' | apply Ext.drew | apply Ext.alloc | refine Ext.trans ?_ (by assumption))⟩
  · have hsu : ∀ w, Ctr Tryd.prog 71 [.int .i64 (bs.length : Int)] w (fun v w' => v = .bool true ∧ Ext w w') := fun w => should_spec.mono fun v w' ⟨a1, a2⟩ => ⟨by rw [a1, decide_eq_true (by omega)], a2⟩
    repeat' (first | (apply G_on; exact rfl; first | ((first | apply G1_assign | apply G1_move); exact rfl; exact rfl) | (apply G1_call (f := 71); exact rfl; exact rfl; exact rfl; exact hsu _; rintro _ w1 ⟨rfl, hx1⟩; refine ⟨(by first | exact .inl rfl | exact .inr (by assumption)), ?_⟩) | (apply G1_call (f := 72); exact rfl; exact rfl; exact rfl; exact mkset_spec; rintro _ w2 ⟨rfl, hx2⟩; refine ⟨(by first | exact .inl rfl | exact .inr (by assumption)), ?_⟩) | (apply G1_seql; exact rfl; exact rfl; exact rfl) | (apply G1_len; exact T.s28; exact rfl; exact rfl) | (apply G1_eql; exact rfl; exact rfl; exact rfl) | (apply G1_extract; exact rfl; exact rfl; exact rfl) | (apply G1_slen; exact T.str9; exact rfl; exact rfl)) | apply G_nil | apply Post_next | apply W_seq | apply W_region | (apply W_cond_true; exact rfl) | (apply W_cond_false; exact rfl) | (apply W_cond_dec; exact rfl; all_goals (intro h; try (exfalso; omega))) | apply W_skip)
    apply G_on; exact rfl; apply G1_alloc; exact zrSet; exact rfl; exact rfl; intro a3 w3 ha3 hA3 hx3 hs3
    replace hA3 : Blk w3.heap a3 109 (setC 0) := hA3
    skip
    apply G_on; exact rfl
    apply G1_storeB (m := 0) (vs := setC 2); exact T.z109; exact rfl; exact rfl; exact hA3; exact rfl; (simp [setC]); (simp [setC]); (intro v hv; simp only [setC, List.mem_map] at hv; obtain ⟨i, _, rfl⟩ := hv; rfl); exact rfl; exact .inl rfl; exact rfl
    intro w4 hA4 hg4 hs4
    replace hA4 : Blk w4.heap a3 109 (setC 2) := (by kernel_rfl : ((setC 0).take 0 ++ setC 2 ++ (setC 0).drop (0 + (setC 2).length)) = setC 2) ▸ hA4
    have hx4 : Ext w w4 := ((hx1.trans hx2).trans hx3).own hg4 (fun k hk => by injection hk; have := (hx1.trans hx2).size; omega)
    repeat' (first | (apply G_on; exact rfl; first | ((first | apply G1_assign | apply G1_move); exact rfl; exact rfl) | (apply G1_len; exact T.s28; exact rfl; exact rfl)) | apply G_nil | apply Post_next | apply W_seq | apply W_region | (apply W_cond_true; exact rfl) | apply W_block)
    refine W_loop (ι := Nat) (fun k => [(7, .pointer (some (adr (bx a3) 0))), (60, .slice p bs.length c), (61, .int .i64 (bs.length : Int)), (62, .int .i64 (k : Int))]) (fun k w' => Ext w4 w' ∧ k ≤ bs.length ∧ ∀ b ∈ bs.take k, isBr b = false) (fun k => bs.length - k) 0 ⟨rfl, rfl, rfl, rfl, trivial⟩ ⟨(by repeat first | assumption | exact Ext.rfl' | apply Ext.drew | apply Ext.alloc | refine Ext.trans ?_ (by assumption)), Nat.zero_le _, by simp⟩ ?_
    rintro k w5 ⟨hx5, hk, hn⟩
    have hx05 := hx4.trans hx5
    have hC5 := hC.ext hx05
    have hA5 := hA4.ext hx5
    by_cases hlt : k < bs.length
    · obtain ⟨x, hq⟩ := get_some hlt
      have hib := isBr_of x
      repeat' (first | (apply G_on; exact rfl; first | ((first | apply G1_assign | apply G1_move); exact rfl; exact rfl) | (apply G1_call (f := 73); exact rfl; exact rfl; exact rfl; exact contains_spec (k := 2) (c := x) hA5; rintro _ w6 ⟨rfl, hx6⟩; refine ⟨(by first | exact .inl rfl | exact .inr (by assumption)), ?_⟩) | (apply G1_indexAddrN; exact T.s28; exact rfl; exact rfl; (first | assumption | exact Sl.ok (by assumption) | exact (Own.sl (by assumption)).ok); omega; exact rfl) | (apply G1_loadEl1; exact T.p5; exact rfl; assumption; assumption; exact rfl; exact rfl; exact rfl) | (apply G1_lss; exact rfl; exact rfl; exact rfl) | (apply G1_add; exact rfl; exact rfl; omega; omega; exact rfl)) | apply G_nil | apply Post_next | apply W_seq | apply W_region | (apply W_cond_dec; exact rfl; all_goals (intro h; try (exfalso; omega))) | (apply W_cond; exact rfl; all_goals intro h) | apply W_skip | apply W_ret | apply W_block | apply Post_then_ret | apply Post_block_ret | apply Post_block_normal)
      · refine Post_ret Tryd.results59 ⟨_, _, rfl, rfl, rfl⟩ ?_
        exact ⟨by rw [brI_at hq (by rw [hib]; exact h) hn]; rfl, (by repeat first | assumption | exact Ext.rfl' | apply Ext.drew | apply Ext.alloc | refine Ext.trans ?_ (by assumption))⟩
      · exact Post_round (k + 1) ⟨rfl, rfl, rfl, rfl, trivial⟩ ⟨(by repeat first | assumption | exact Ext.rfl' | apply Ext.drew | apply Ext.alloc | refine Ext.trans ?_ (by assumption)), by omega, no_snoc hq (by rw [hib]; exact h) hn⟩ (by omega)
    · have hk' : k = bs.length := by omega
      subst hk'
      rw [List.take_of_length_le (Nat.le_refl _)] at hn
      repeat' (first | (apply G_on; exact rfl; first | (apply G1_assign; exact rfl; exact rfl) | (apply G1_lss; exact rfl; exact rfl; exact rfl)) | apply G_nil | apply Post_next | apply W_seq | apply W_region | (apply W_cond_dec; exact rfl; all_goals (intro h; try (exfalso; omega))) | apply W_exit | apply W_ret | apply Post_then_ret | apply Post_then_exit | apply Post_block_exit)
      refine Post_ret Tryd.results59 ⟨_, _, rfl, rfl, rfl⟩ ?_
      exact ⟨by rw [brI_no hn]; rfl, (by repeat first | assumption | exact Ext.rfl' | apply Ext.drew | apply Ext.alloc | refine Ext.trans ?_ (by assumption))⟩
end Go.Proofs.YtikjnmpijflnaaaDoor
