/- Texts of this proof laid together: LaidRead, RepRdW, ReqPlain, ReqTold, RefNum, StrPiece, RefParse, RepHid, RepList, RepRef, RepRight, RepWrite. -/
import Derived.Test.YtipbakiecocioaaGreatDoorVM2
import Derived.Test.YtipbakiecocioaaGreatDoorCards
import Derived.Test.YtipbakiecocioaaGreatDoorTie
import Derived.WalkKit
import Derived.ProofKit
import Derived.OpenShut
import Derived.Deep.DeepHandedRow
import Derived.Lib.LaidTab
import Derived.LaidSub
import Derived.SevenTiedAt
import Derived.Stop.LaidErr
import Derived.Lib.LaidU8T
import Derived.PinnedBridge
import Derived.Shelf.Vars
/- The package-level variables that the reading laws' rows list: what they give a walk, and a world that holds them. -/
namespace Go.Proofs.YtipbakiecocioaaGreatDoor
open Go.V Go.ChangeShapes Go.WideShapes Go.ChangeAt Go.RowKit
theorem own : ownKnob Tryz.prog.godebug = none := by kernel_rfl
theorem laidOut : laidOutB Tryz.prog = true := by kernel_rfl
theorem gPow : Tryz.prog.globalNamed "internal/strconv.uint64pow10" = some 5 := by kernel_rfl
theorem gPowType : (Tryz.prog.globals[5]?).map (·.type) = some 211 := by kernel_rfl
theorem cellsPow : Tryz.prog.cellsOf 211 = 20 := by kernel_rfl
theorem cellsU64 : Tryz.prog.cellsOf 151 = 1 := by kernel_rfl
/-- the list that all rows of this seat bear -/
abbrev laidAll : List (String × DataW Unit) := [("math/bits.deBruijn32tab", Rows.laid_math_bits_deBruijn32tab), ("math/bits.deBruijn64tab", Rows.laid_math_bits_deBruijn64tab), ("internal/strconv.uint64pow10", Rows.laid_internal_strconv_uint64pow10), ("unicode/utf8.acceptRanges", Rows.laid_unicode_utf8_acceptRanges), ("strconv.ErrRange", Rows.laid_strconv_ErrRange), ("strconv.ErrSyntax", Rows.laid_strconv_ErrSyntax), ("unicode/utf8.first", Rows.laid_unicode_utf8_first)]
theorem met_of {W : World} (h : laidMetH Tryz.prog laidAll W) : laidMet Tryz.prog laidAll W := h
theorem pow_of {W : World} (h : laidMetH Tryz.prog laidAll W) : Pow W := by
  have h1 := laidMet.filter (fun x => x.1 == "internal/strconv.uint64pow10") (met_of h)
  exact Lib.tabIs_of_head (k := .u64) (zs := Lib.pow10Tab) (rest := []) gPow gPowType Tryz.underlying211 Tryz.underlying151 cellsU64 cellsPow h1
theorem gES : Tryz.prog.globalNamed "strconv.ErrSyntax" = some 3 := by kernel_rfl
theorem gEST : (Tryz.prog.globals[3]?).map (·.type) = some 147 := by kernel_rfl
theorem gER : Tryz.prog.globalNamed "strconv.ErrRange" = some 4 := by kernel_rfl
theorem gERT : (Tryz.prog.globals[4]?).map (·.type) = some 147 := by kernel_rfl
theorem cellsES : Tryz.prog.cellsOf 209 = 1 := by kernel_rfl
theorem cellsStr : Tryz.prog.cellsOf 9 = 1 := by kernel_rfl
theorem star : "*" ++ "errors.errorString" = "*errors.errorString" := by decide
theorem rowES (u : TypeId) (h : Tryz.prog.typeName? 3 u = some "*errors.errorString") : u = 207 :=
  typeName_ptr_named (nm := "errors.errorString") (by rw [star]; kernel_rfl) (by kernel_rfl) (by decide) u (by rw [star]; exact h)
theorem errs_of {W : World} (h : laidMetH Tryz.prog laidAll W) : Errs W := by
  have h1 := laidMet.filter (fun x => x.1 == "strconv.ErrSyntax") (met_of h)
  have h2 := laidMet.filter (fun x => x.1 == "strconv.ErrRange") (met_of h)
  obtain ⟨a1, s1, hv1, -, -, -⟩ := laid_sentinel h1 gES gEST Tryz.underlying147 rowES Tryz.underlying207 Tryz.underlying209 rfl rfl Tryz.underlying9 cellsES cellsStr
  obtain ⟨a2, s2, hv2, -, -, -⟩ := laid_sentinel h2 gER gERT Tryz.underlying147 rowES Tryz.underlying207 Tryz.underlying209 rfl rfl Tryz.underlying9 cellsES cellsStr
  exact ⟨_, _, _, _, hv1, hv2⟩
def ren8 : Go.Shelf.Ren := ⟨fun n => n, fun | 5 => 5 | 119 => 187 | 138 => 189 | 139 => 190 | n => n, fun | 3 => 1 | 4 => 2 | n => n⟩
theorem u8t : U8Types Tryz.prog ren8 := ⟨Tryz.underlying5, Tryz.underlying187, Tryz.underlying189, Tryz.underlying190⟩
theorem u8x : U8Extra Tryz.prog ren8 := ⟨by kernel_rfl, by kernel_rfl, by kernel_rfl, by kernel_rfl, by kernel_rfl, by kernel_rfl, by kernel_rfl⟩
theorem accept_eq : (Rows.laid_unicode_utf8_acceptRanges : DataW Unit) = Lib.acceptData := by kernel_rfl
theorem utf_of {W : World} (h : laidMetH Tryz.prog laidAll W) (hS : W.ShapedOpen Tryz.prog) : Utf W := by
  have hm := met_of h
  have h3 := Lib.laidMet.reads hm (.tail _ (.tail _ (.tail _ (.tail _ (.tail _ (.tail _ (.head _)))))))
  have h4 := Lib.laidMet.reads hm (.tail _ (.tail _ (.tail _ (.head _))))
  rw [show Rows.laid_unicode_utf8_first = Lib.firstData from Pinned.utf8First_eq] at h3
  rw [accept_eq] at h4
  exact ⟨utf8Tabs_of_readsT u8t u8x h3 h4, cell_of_shapedOpen_int (P := Tryz.prog) (g := 0) (t := 3) (zero := #[.int .i64 0]) hS (of_decide_eq_true (by kernel_rfl)) (by kernel_rfl) rfl (by kernel_rfl) (by kernel_rfl) Tryz.underlying3⟩
def setc (cs : Array Value) : Obj → Obj
  | .cells _ t frozen => .cells cs t frozen
  | o => o
def tab32 : Array Value := #[.int .u8 0, .int .u8 1, .int .u8 28, .int .u8 2, .int .u8 29, .int .u8 14, .int .u8 24, .int .u8 3, .int .u8 30, .int .u8 22, .int .u8 20, .int .u8 15, .int .u8 25, .int .u8 17, .int .u8 4, .int .u8 8, .int .u8 31, .int .u8 27, .int .u8 13, .int .u8 23, .int .u8 21, .int .u8 19, .int .u8 16, .int .u8 7, .int .u8 26, .int .u8 12, .int .u8 18, .int .u8 6, .int .u8 11, .int .u8 5, .int .u8 10, .int .u8 9]
def tab64 : Array Value := #[.int .u8 0, .int .u8 1, .int .u8 56, .int .u8 2, .int .u8 57, .int .u8 49, .int .u8 28, .int .u8 3, .int .u8 61, .int .u8 58, .int .u8 42, .int .u8 50, .int .u8 38, .int .u8 29, .int .u8 17, .int .u8 4, .int .u8 62, .int .u8 47, .int .u8 59, .int .u8 36, .int .u8 45, .int .u8 43, .int .u8 51, .int .u8 22, .int .u8 53, .int .u8 39, .int .u8 33, .int .u8 30, .int .u8 24, .int .u8 18, .int .u8 12, .int .u8 5, .int .u8 63, .int .u8 55, .int .u8 48, .int .u8 27, .int .u8 60, .int .u8 41, .int .u8 37, .int .u8 16, .int .u8 46, .int .u8 35, .int .u8 44, .int .u8 21, .int .u8 52, .int .u8 32, .int .u8 23, .int .u8 11, .int .u8 54, .int .u8 26, .int .u8 40, .int .u8 15, .int .u8 34, .int .u8 20, .int .u8 31, .int .u8 10, .int .u8 25, .int .u8 14, .int .u8 19, .int .u8 9, .int .u8 13, .int .u8 8, .int .u8 7, .int .u8 6]
def setAt (hp : Array Obj) (n : Nat) (cs : Array Value) : Array Obj := hp.modify n (setc cs)
def heap0 (hp : Array Obj) : Array Obj :=
  let h1 := setAt hp 5 (Lib.pow10Tab.map (Value.int .u64)).toArray
  let h2 := setAt h1 6 tab32
  let h3 := setAt h2 7 tab64
  let h4 := setAt h3 4 #[.iface 207 (.pointer (some ⟨hp.size, 0, none⟩))]
  let h5 := setAt h4 3 #[.iface 207 (.pointer (some ⟨hp.size + 1, 0, none⟩))]
  let h6 := setAt h5 1 ((List.range 256).map fun c => Value.int .u8 (Lib.firstT c)).toArray
  let h7 := setAt h6 2 ((List.range 16).flatMap fun i => [Value.int .u8 (Lib.accLo i), Value.int .u8 (Lib.accHi i)]).toArray
  (h7.push (.cells #[.string ⟨#[118, 97, 108, 117, 101, 32, 111, 117, 116, 32, 111, 102, 32, 114, 97, 110, 103, 101]⟩] 209)).push
    (.cells #[.string ⟨#[105, 110, 118, 97, 108, 105, 100, 32, 115, 121, 110, 116, 97, 120]⟩] 209)
noncomputable def laidWorld (os : Os) : World :=
  { World.holding Tryz.prog os ⟨#[], #[], []⟩ with heap := heap0 (World.holding Tryz.prog os ⟨#[], #[], []⟩).heap }
end Go.Proofs.YtipbakiecocioaaGreatDoor

/- What is written of a right reply is read as it; in plain Lean. -/
namespace Go.Proofs.YtipbakiecocioaaGreatDoor
open Go.V
attribute [local irreducible] Blk Own hcell IntT SliceT PlainT AggT SizeT StrT FieldT ZeroT EqT ArrT
def fitsT : Nat → Rep → Prop
  | 0, t => fit64 t.n ∧ t.s.size ≤ 9223372036854775807 ∧ t.l.length ≤ 9223372036854775807
  | d + 1, t => (fit64 t.n ∧ t.s.size ≤ 9223372036854775807 ∧ t.l.length ≤ 9223372036854775807) ∧ ∀ x ∈ t.l, fitsT d x
theorem fitsT.one {d : Nat} {t : Rep} (h : fitsT d t) : fit64 t.n ∧ t.s.size ≤ 9223372036854775807 ∧ t.l.length ≤ 9223372036854775807 := by
  cases d with
  | zero => exact h
  | succ d => exact h.1
theorem fits_of {H : Array Obj} : ∀ (e : Nat) {r : RawR} {t : Rep}, RepAt H e r t → ∀ d, fitsT d t
  | 0, _, _, h, _ => h.elim
  | e + 1, r, t, h, d => by
    obtain ⟨e', rs, he, hk, hs, hn, hl, hsz, hfit, hL⟩ := h.open
    obtain rfl : e = e' := by omega
    have h1 := hL.sl.bound
    have h2 := hL.len
    have h0 : fit64 t.n ∧ t.s.size ≤ 9223372036854775807 ∧ t.l.length ≤ 9223372036854775807 := ⟨hfit, by simp only [maxLen] at hsz; omega, by omega⟩
    cases d with
    | zero => exact h0
    | succ d =>
      refine ⟨h0, fun x hx => ?_⟩
      obtain ⟨i, hi⟩ := List.getElem?_of_mem hx
      obtain ⟨r', hr'⟩ := get_some (xs := rs) (k := i) (by rw [h2]; exact get_lt hi)
      exact fits_of e (hL.get i r' x hr' hi) d
theorem mkStr_list (s : ByteArray) : mkStr s.data.toList = s := by
  cases s with | mk a => simp [mkStr]
theorem itoa_nobr (n : Int) : ∀ b ∈ Lib.itoa n, isBr b = false := by
  intro b hb
  unfold isBr
  unfold Lib.itoa at hb
  have key : 48 ≤ b.toNat ∨ b = 45 → (b == 13 || b == 10) = false := by
    intro h
    have h1 : b ≠ 13 := by rintro rfl; revert h; decide
    have h2 : b ≠ 10 := by rintro rfl; revert h; decide
    simp [h1, h2]
  split at hb
  · rcases List.mem_cons.1 hb with rfl | hb
    · exact key (.inr rfl)
    · exact key (.inl (dec_ge _ _ hb))
  · exact key (.inl (dec_ge _ _ hb))
theorem num_itoa {n : Int} (h : fit64 n) : numOf (Lib.itoa n) = some n := by
  refine numOf_some ⟨h, ?_⟩
  show (⟨(Lib.itoa n).toArray⟩ : ByteArray) = mkStr _
  unfold mkStr
  rfl
theorem nobr_isBr {s : ByteArray} (h : nobr s = true) : ∀ b ∈ s.data.toList, isBr b = false := by
  intro b hb
  have := List.all_eq_true.1 h b hb
  simp only [Bool.and_eq_true, decide_eq_true_eq] at this
  unfold isBr
  simp [this.1, this.2]
theorem fit_nat {k : Nat} (h : k ≤ 9223372036854775807) : fit64 (k : Int) := by
  unfold fit64
  omega
theorem rdHead_w {t : Rep} (ht : Leaf t) (hf : fit64 t.n ∧ t.s.size ≤ 9223372036854775807 ∧ t.l.length ≤ 9223372036854775807) (r : List UInt8) :
    rdHead (wHead t ++ r) = if t.kind = 5 then .list t.l.length (wHead t).length else .leaf t (wHead t).length := by
  have t1 := ht.lo
  have t2 := ht.hi
  rcases (show t.kind = 0 ∨ t.kind = 1 ∨ t.kind = 2 ∨ t.kind = 3 ∨ t.kind = 4 ∨ t.kind = 5 by omega) with h | h | h | h | h | h
  · have e : wHead t = 43 :: (t.s.data.toList ++ crlf) := by simp [wHead, h]
    rw [e, rdHead_at (by decide) (nobr_isBr (ht.line (.inl h))), if_neg (by omega)]
    unfold rdLine
    rw [if_pos rfl]
    congr 1
    · exact Rep.ext' h.symm (mkStr_list _) (ht.num (by omega)).symm (ht.list (by omega)).symm
    · simp [crlf]
  · have e : wHead t = 45 :: (t.s.data.toList ++ crlf) := by simp [wHead, h]
    rw [e, rdHead_at (by decide) (nobr_isBr (ht.line (.inr h))), if_neg (by omega)]
    unfold rdLine
    rw [if_neg (by decide), if_pos rfl]
    congr 1
    · exact Rep.ext' h.symm (mkStr_list _) (ht.num (by omega)).symm (ht.list (by omega)).symm
    · simp [crlf]
  · have e : wHead t = 58 :: (Lib.itoa t.n ++ crlf) := by simp [wHead, h]
    rw [e, rdHead_at (by decide) (itoa_nobr _), if_neg (by omega)]
    unfold rdLine
    rw [if_neg (by decide), if_neg (by decide), num_itoa hf.1]
    simp only
    rw [if_pos trivial]
    congr 1
    · exact Rep.ext' h.symm (ht.text (.inl h)).symm rfl (ht.list (by omega)).symm
    · simp [crlf]
  · have e : wHead t ++ r = (36 :: (Lib.itoa t.s.size ++ crlf)) ++ (t.s.data.toList ++ (crlf ++ r)) := by simp [wHead, h]
    have el : (wHead t).length = (Lib.itoa t.s.size).length + 3 + t.s.size + 2 := by
      simp [wHead, h, crlf]
      omega
    rw [e, el, rdHead_at (by decide) (itoa_nobr _), if_neg (by omega)]
    unfold rdLine
    rw [if_neg (by decide), if_neg (by decide), num_itoa (fit_nat hf.2.1)]
    simp only
    have hl : t.s.data.toList.length = t.s.size := by rw [Array.length_toList]; rfl
    have e2 : (t.s.data.toList ++ (crlf ++ r)).drop ((t.s.size : Int)).toNat = crlf ++ r := by rw [Int.toNat_natCast]; exact List.drop_left' hl
    have e3 : (t.s.data.toList ++ (crlf ++ r)).take ((t.s.size : Int)).toNat = t.s.data.toList := by rw [Int.toNat_natCast]; exact List.take_left' hl
    rw [if_neg (by decide), if_pos trivial, if_neg (by omega), if_pos ⟨by omega, by simp only [List.length_append, hl]; push_cast; omega, by rw [e2]; rfl⟩, e3, Int.toNat_natCast]
    congr 1
    exact Rep.ext' h.symm (mkStr_list _) (ht.num (by omega)).symm (ht.list (by omega)).symm
  · have e : wHead t = 36 :: (Lib.itoa (-1) ++ crlf) := by
      have e : Lib.itoa (-1) = [45, 49] := (by decide +kernel)
      rw [e]; simp [wHead, h]
    rw [e, rdHead_at (by decide) (itoa_nobr _), if_neg (by omega)]
    unfold rdLine
    rw [if_neg (by decide), if_neg (by decide), num_itoa (by unfold fit64; omega)]
    simp only
    rw [if_neg (by decide), if_pos trivial, if_pos trivial]
    congr 1
    · exact Rep.ext' h.symm (ht.text (.inr (.inl h))).symm (ht.num (by omega)).symm (ht.list (by omega)).symm
    · simp [crlf]
  · have e : wHead t = 42 :: (Lib.itoa t.l.length ++ crlf) := by simp [wHead, h]
    rw [e, rdHead_at (by decide) (itoa_nobr _), if_pos h]
    unfold rdLine
    rw [if_neg (by decide), if_neg (by decide), num_itoa (fit_nat hf.2.2)]
    simp only
    rw [if_neg (by decide), if_neg (by decide), if_pos ⟨trivial, by omega⟩]
    congr 1
    simp [crlf]
theorem rdL_w {f : List UInt8 → Option (Rep × Nat)} {g : Rep → List UInt8} : ∀ (l : List Rep), (∀ x ∈ l, ∀ r, f (g x ++ r) = some (x, (g x).length)) → ∀ r, rdL f l.length (l.flatMap g ++ r) = some (l, (l.flatMap g).length)
  | [], _, r => rfl
  | x :: l, h, r => by
    have e : (x :: l).flatMap g ++ r = g x ++ (l.flatMap g ++ r) := by simp
    rw [e]
    simp only [List.length_cons, rdL]
    rw [h x (by simp)]
    simp only
    rw [List.drop_left' rfl, rdL_w l (fun y hy => h y (List.mem_cons_of_mem _ hy)) r]
    simp
theorem rdT_w : ∀ (d : Nat) (t : Rep), rightT d t = true → fitsT d t → ∀ r, rdT d (wT d t ++ r) = some (t, (wT d t).length)
  | 0, t, ht, hf, r => by
    have h := rdHead_w (right_leaf ht) hf.one r
    simp only [rightT, Bool.and_eq_true, decide_eq_true_eq] at ht
    rw [if_neg ht.2] at h
    unfold wT
    exact rdT_leaf h
  | d + 1, t, ht, hf, r => by
    have hlf := right_leaf ht
    simp only [rightT, Bool.and_eq_true] at ht
    have e : wT (d + 1) t = wHead t ++ (if t.kind = 5 then t.l.flatMap (wT d) else []) := rfl
    rw [e, List.append_assoc]
    have h := rdHead_w hlf hf.one ((if t.kind = 5 then t.l.flatMap (wT d) else []) ++ r)
    by_cases hk : t.kind = 5
    · rw [if_pos hk, if_pos hk] at h
      rw [if_pos hk]
      rw [rdT_list h, List.drop_left' rfl, rdL_w t.l (fun x hx r => rdT_w d x (List.all_eq_true.1 ht.2 x hx) (hf.2 x hx) r)]
      simp only [Option.map_some, List.length_append]
      congr 2
      exact Rep.ext' hk.symm (hlf.text (.inr (.inr hk))).symm (hlf.num (by omega)).symm rfl
    · rw [if_neg hk, if_neg hk] at h
      rw [if_neg hk]
      rw [rdT_leaf h]
      simp
end Go.Proofs.YtipbakiecocioaaGreatDoor

/- Requests: lines, numbers, words; how a reader goes on step by step, and the document's answer over all bytes; in plain Lean. -/
namespace Go.Proofs.YtipbakiecocioaaGreatDoor
open Go.V
attribute [local irreducible] Blk Own hcell IntT SliceT PlainT AggT SizeT StrT FieldT ZeroT EqT ArrT
inductive LineR where
  | more
  | err (e : Int)
  | ok (s : List UInt8) (k : Nat)
/-- the place of the first 10; the length, where there is none -/
def nlAt : List UInt8 → Nat
  | [] => 0
  | b :: l => if b = 10 then 0 else nlAt l + 1
theorem nlAt_le : ∀ l : List UInt8, nlAt l ≤ l.length
  | [] => Nat.le_refl _
  | b :: l => by
    unfold nlAt
    have := nlAt_le l
    split
    · omega
    · simp only [List.length_cons]; omega
theorem nlAt_app : ∀ {l : List UInt8} (m : List UInt8), nlAt l < l.length → nlAt (l ++ m) = nlAt l
  | [], m, h => by simp at h
  | b :: l, m, h => by
    rw [List.cons_append]
    unfold nlAt at h ⊢
    split
    · rfl
    · rename_i hb
      rw [if_neg hb] at h
      simp only [List.length_cons] at h
      rw [nlAt_app m (by omega)]
theorem nlAt_ge : ∀ {l : List UInt8} (m : List UInt8), nlAt l = l.length → l.length ≤ nlAt (l ++ m)
  | [], m, _ => Nat.zero_le _
  | b :: l, m, h => by
    rw [List.cons_append]
    unfold nlAt at h ⊢
    split
    · rename_i hb; rw [if_pos hb] at h; simp at h
    · rename_i hb
      rw [if_neg hb] at h
      simp only [List.length_cons] at h ⊢
      have := nlAt_ge m (l := l) (by omega)
      omega
theorem nlAt_is : ∀ {l : List UInt8}, nlAt l < l.length → l[nlAt l]? = some 10
  | [], h => by simp at h
  | b :: l, h => by
    unfold nlAt at h ⊢
    split
    · rename_i hb; rw [hb]; rfl
    · rename_i hb
      rw [if_neg hb, List.length_cons] at h
      simpa using nlAt_is (l := l) (by omega)
theorem nlAt_no : ∀ {l : List UInt8} {k : Nat}, k < nlAt l → l[k]? ≠ some 10
  | [], k, h => by simp [nlAt] at h
  | b :: l, k, h => by
    unfold nlAt at h
    split at h
    · omega
    · rename_i hb
      cases k with
      | zero => intro e; simp at e; exact hb e
      | succ k => simpa using nlAt_no (l := l) (k := k) (by omega)
theorem nlAt_first {l : List UInt8} {k : Nat} (h : l[k]? = some 10) (hn : ∀ j, j < k → l[j]? ≠ some 10) : nlAt l = k := by
  rcases Nat.lt_trichotomy (nlAt l) k with h1 | h1 | h1
  · exact absurd (nlAt_is (by have := get_lt h; omega)) (hn _ h1)
  · exact h1
  · exact absurd h (nlAt_no h1)
/-- the line with which bytes begin -/
def lineP (cs : List UInt8) : LineR :=
  if nlAt cs < cs.length ∧ nlAt cs < 1026 then
    if nlAt cs = 0 ∨ cs.getD (nlAt cs - 1) 0 ≠ 13 then .err 10 else .ok (cs.take (nlAt cs - 1)) (nlAt cs + 1)
  else if cs.length < 1026 then .more else .err 12
noncomputable def numP (s : List UInt8) (sign : UInt8) (least most : Int) : Except Int Int :=
  match s with
  | [] => .error 10
  | c :: t => if c = sign then match numOf t with
      | none => .error 10
      | some n => if n < least then .error 10 else if most < n then .error 12 else .ok n
    else .error 10
/-- words between spaces; the first one has begun -/
def cutG : List UInt8 → List UInt8 → List (List UInt8)
  | w, [] => if w = [] then [] else [w]
  | w, c :: l => if c = 32 then (if w = [] then cutG [] l else w :: cutG [] l) else cutG (w ++ [c]) l
structure RS where
  left : Nat
  size : Int
  words : List ByteArray
  held : Nat
def rs0 : RS := ⟨0, -1, [], 0⟩
inductive Stp where
  | stop
  | fault (e : Int)
  | go (s : RS) (k : Nat) (out : List (List ByteArray))
noncomputable def stepP (r : RS) (cs : List UInt8) : Stp :=
  if r.left = 0 then
    match lineP cs with
    | .more => .stop
    | .err e => .fault e
    | .ok s k =>
      if s.head? = some 42 then
        match numP s 42 1 128 with
        | .error e => .fault e
        | .ok n => .go ⟨n.toNat, -1, [], k⟩ k []
      else if 128 < (cutG [] s).length then .fault 12
      else .go rs0 k (if cutG [] s = [] then [] else [(cutG [] s).map mkStr])
  else if r.size < 0 then
    match lineP cs with
    | .more => .stop
    | .err e => .fault e
    | .ok s k =>
      match numP s 36 0 4096 with
      | .error e => .fault e
      | .ok n => .go { r with size := n, held := r.held + k } k []
  else if cs.length < r.size.toNat + 2 then .stop
  else if (cs.drop r.size.toNat).take 2 = [13, 10] then
    if r.left = 1 then .go rs0 (r.size.toNat + 2) [r.words ++ [mkStr (cs.take r.size.toNat)]]
    else .go ⟨r.left - 1, -1, r.words ++ [mkStr (cs.take r.size.toNat)], r.held + (r.size.toNat + 2)⟩ (r.size.toNat + 2) []
  else .fault 10
theorem line_ok {cs s : List UInt8} {k : Nat} (h : lineP cs = .ok s k) : nlAt cs < cs.length ∧ nlAt cs < 1026 ∧ nlAt cs ≠ 0 ∧ cs.getD (nlAt cs - 1) 0 = 13 ∧ s = cs.take (nlAt cs - 1) ∧ k = nlAt cs + 1 := by
  unfold lineP at h
  split at h
  · rename_i h1
    split at h
    · cases h
    · rename_i h2
      have h3 : nlAt cs ≠ 0 := fun e => h2 (.inl e)
      have h4 : cs.getD (nlAt cs - 1) 0 = 13 := Classical.byContradiction fun e => h2 (.inr e)
      cases h
      exact ⟨h1.1, h1.2, h3, h4, rfl, rfl⟩
  · split at h <;> cases h
theorem line_len {cs s : List UInt8} {k : Nat} (h : lineP cs = .ok s k) : k = s.length + 2 ∧ k ≤ cs.length := by
  obtain ⟨h1, h2, h3, h4, rfl, rfl⟩ := line_ok h
  rw [List.length_take]
  omega
theorem line_err {cs : List UInt8} {e : Int} (h : lineP cs = .err e) : e = 10 ∨ e = 12 := by
  unfold lineP at h
  split at h
  · split at h
    · cases h; exact .inl rfl
    · cases h
  · split at h
    · cases h
    · cases h; exact .inr rfl
theorem num_err {s : List UInt8} {c : UInt8} {a b e : Int} (h : numP s c a b = .error e) : e = 10 ∨ e = 12 := by
  unfold numP at h
  split at h
  · cases h; exact .inl rfl
  · split at h
    · split at h
      · cases h; exact .inl rfl
      · split at h
        · cases h; exact .inl rfl
        · split at h
          · cases h; exact .inr rfl
          · cases h
    · cases h; exact .inl rfl
theorem num_ok {s : List UInt8} {c : UInt8} {a b n : Int} (h : numP s c a b = .ok n) : a ≤ n ∧ n ≤ b := by
  unfold numP at h
  split at h
  · cases h
  · split at h
    · split at h
      · cases h
      · split at h
        · cases h
        · split at h
          · cases h
          · cases h; omega
    · cases h
theorem step_go {r r' : RS} {cs : List UInt8} {k : Nat} {out : List (List ByteArray)} (h : stepP r cs = .go r' k out) : 2 ≤ k ∧ k ≤ cs.length := by
  unfold stepP at h
  split at h
  · split at h
    · cases h
    · cases h
    · rename_i s k' hl
      have h1 := line_len hl
      split at h
      · split at h
        · cases h
        · cases h; omega
      · split at h
        · cases h
        · cases h; omega
  split at h
  · split at h
    · cases h
    · cases h
    · rename_i s k' hl
      have h1 := line_len hl
      split at h
      · cases h
      · cases h; omega
  split at h
  · cases h
  split at h
  · split at h <;> (cases h; omega)
  · cases h
theorem step_fault {r : RS} {cs : List UInt8} {e : Int} (h : stepP r cs = .fault e) : e = 10 ∨ e = 12 := by
  unfold stepP at h
  split at h
  · split at h
    · cases h
    · rename_i e' hl; cases h; exact line_err hl
    · split at h
      · split at h
        · rename_i hn; cases h; exact num_err hn
        · cases h
      · split at h
        · cases h; exact .inr rfl
        · cases h
  split at h
  · split at h
    · cases h
    · rename_i e' hl; cases h; exact line_err hl
    · split at h
      · rename_i hn; cases h; exact num_err hn
      · cases h
  split at h
  · cases h
  split at h
  · split at h <;> cases h
  · cases h; exact .inl rfl
structure Res where
  out : List (List ByteArray)
  st : RS
  rest : List UInt8
  err : Int
noncomputable def runN : Nat → RS → List UInt8 → Res
  | 0, r, cs => ⟨[], r, cs, 0⟩
  | n + 1, r, cs => match stepP r cs with
    | .stop => ⟨[], r, cs, 0⟩
    | .fault e => ⟨[], r, cs, e⟩
    | .go r' k out => { runN n r' (cs.drop k) with out := out ++ (runN n r' (cs.drop k)).out }
/-- all that can be done with bytes -/
noncomputable def runP (r : RS) (cs : List UInt8) : Res := runN (cs.length + 1) r cs
theorem runN_fuel : ∀ (n m : Nat) (r : RS) (cs : List UInt8), cs.length < n → cs.length < m → runN n r cs = runN m r cs
  | 0, _, _, _, h, _ => by omega
  | _ + 1, 0, _, _, _, h => by omega
  | n + 1, m + 1, r, cs, h1, h2 => by
    unfold runN
    cases h : stepP r cs with
    | stop => rfl
    | fault e => rfl
    | go r' k out =>
      have hk := step_go h
      simp only
      rw [runN_fuel n m r' (cs.drop k) (by rw [List.length_drop]; omega) (by rw [List.length_drop]; omega)]
theorem run_stop {r : RS} {cs : List UInt8} (h : stepP r cs = .stop) : runP r cs = ⟨[], r, cs, 0⟩ := by
  unfold runP runN; rw [h]
theorem run_fault {r : RS} {cs : List UInt8} {e : Int} (h : stepP r cs = .fault e) : runP r cs = ⟨[], r, cs, e⟩ := by
  unfold runP runN; rw [h]
theorem run_go {r r' : RS} {cs : List UInt8} {k : Nat} {out : List (List ByteArray)} (h : stepP r cs = .go r' k out) : runP r cs = { runP r' (cs.drop k) with out := out ++ (runP r' (cs.drop k)).out } := by
  have hk := step_go h
  have e : runN cs.length r' (cs.drop k) = runP r' (cs.drop k) := runN_fuel _ _ _ _ (by rw [List.length_drop]; omega) (by omega)
  conv => lhs; unfold runP runN
  rw [h]
  simp only
  rw [e]
theorem run_app {r r' : RS} {cs : List UInt8} {k : Nat} {out o : List (List ByteArray)} (h : stepP r cs = .go r' k out) : o ++ (runP r cs).out = (o ++ out) ++ (runP r' (cs.drop k)).out ∧ (runP r cs).st = (runP r' (cs.drop k)).st ∧ (runP r cs).rest = (runP r' (cs.drop k)).rest ∧ (runP r cs).err = (runP r' (cs.drop k)).err := by
  rw [run_go h]
  exact ⟨by simp, rfl, rfl, rfl⟩
/- more bytes behind change nothing of what was done -/
theorem line_mono {cs : List UInt8} (m : List UInt8) : (∀ e, lineP cs = .err e → lineP (cs ++ m) = .err e) ∧ (∀ s k, lineP cs = .ok s k → lineP (cs ++ m) = .ok s k) := by
  by_cases hf : nlAt cs < cs.length
  · have e1 := nlAt_app m hf
    have e2 : (cs ++ m).getD (nlAt cs - 1) 0 = cs.getD (nlAt cs - 1) 0 := by
      rw [List.getD_eq_getElem?_getD, List.getD_eq_getElem?_getD, List.getElem?_append_left (by omega)]
    have e3 : (cs ++ m).take (nlAt cs - 1) = cs.take (nlAt cs - 1) := by rw [List.take_append_of_le_length (by omega)]
    have key : nlAt cs < 1026 → lineP (cs ++ m) = lineP cs := fun h => by
      have c1 : nlAt cs < (cs ++ m).length ∧ nlAt cs < 1026 := ⟨by rw [List.length_append]; omega, h⟩
      have c2 : nlAt cs < cs.length ∧ nlAt cs < 1026 := ⟨hf, h⟩
      unfold lineP
      rw [e1, e2, e3, if_pos c1, if_pos c2]
    by_cases h : nlAt cs < 1026
    · rw [key h]; exact ⟨fun _ h => h, fun _ _ h => h⟩
    · have e4 : lineP cs = .err 12 := by unfold lineP; rw [if_neg (fun hh => h hh.2), if_neg (by omega)]
      have e5 : lineP (cs ++ m) = .err 12 := by unfold lineP; rw [e1, if_neg (fun hh => h hh.2), if_neg (by rw [List.length_append]; omega)]
      rw [e4, e5]; exact ⟨fun _ h => h, fun _ _ h => h⟩
  · have hn : nlAt cs = cs.length := by have := nlAt_le cs; omega
    have hg := nlAt_ge m hn
    by_cases h : cs.length < 1026
    · have e4 : lineP cs = .more := by unfold lineP; rw [if_neg (fun hh => hf hh.1), if_pos h]
      rw [e4]; exact ⟨fun _ h => (by cases h), fun _ _ h => (by cases h)⟩
    · have e4 : lineP cs = .err 12 := by unfold lineP; rw [if_neg (fun hh => hf hh.1), if_neg h]
      have e5 : lineP (cs ++ m) = .err 12 := by unfold lineP; rw [if_neg (fun hh => by omega), if_neg (by rw [List.length_append]; omega)]
      rw [e4, e5]; exact ⟨fun _ h => h, fun _ _ h => h⟩
theorem step_mono {r : RS} {cs : List UInt8} (m : List UInt8) (h : stepP r cs ≠ .stop) : stepP r (cs ++ m) = stepP r cs := by
  have lm := line_mono (cs := cs) m
  unfold stepP at h ⊢
  split
  · rename_i h0
    rw [if_pos h0] at h
    cases hl : lineP cs with
    | more => rw [hl] at h; exact absurd rfl h
    | err e => rw [lm.1 e hl]
    | ok s k => rw [lm.2 s k hl]
  · rename_i h0
    rw [if_neg h0] at h
    split
    · rename_i h1
      rw [if_pos h1] at h
      cases hl : lineP cs with
      | more => rw [hl] at h; exact absurd rfl h
      | err e => rw [lm.1 e hl]
      | ok s k => rw [lm.2 s k hl]
    · rename_i h1
      rw [if_neg h1] at h
      split at h
      · exact absurd rfl h
      · rename_i h2
        rw [if_neg (by rw [List.length_append]; omega), if_neg h2]
        have e1 : ((cs ++ m).drop r.size.toNat).take 2 = (cs.drop r.size.toNat).take 2 := by
          rw [List.drop_append_of_le_length (by omega), List.take_append_of_le_length (by rw [List.length_drop]; omega)]
        have e2 : (cs ++ m).take r.size.toNat = cs.take r.size.toNat := List.take_append_of_le_length (by omega)
        rw [e1, e2]
theorem run_more : ∀ (n : Nat) {r : RS} {cs : List UInt8} (m : List UInt8), cs.length < n → 
    ((runP r cs).err = 0 → (runP r (cs ++ m)).out = (runP r cs).out ++ (runP (runP r cs).st ((runP r cs).rest ++ m)).out ∧ (runP r (cs ++ m)).st = (runP (runP r cs).st ((runP r cs).rest ++ m)).st ∧ (runP r (cs ++ m)).rest = (runP (runP r cs).st ((runP r cs).rest ++ m)).rest ∧ (runP r (cs ++ m)).err = (runP (runP r cs).st ((runP r cs).rest ++ m)).err) ∧
    ((runP r cs).err ≠ 0 → (runP r (cs ++ m)).out = (runP r cs).out ∧ (runP r (cs ++ m)).err = (runP r cs).err)
  | 0, _, _, _, h => by omega
  | n + 1, r, cs, m, hn => by
    cases h : stepP r cs with
    | stop =>
      rw [run_stop h]
      exact ⟨fun _ => ⟨rfl, rfl, rfl, rfl⟩, fun h => absurd rfl h⟩
    | fault e =>
      have h2 : stepP r (cs ++ m) = .fault e := by rw [step_mono m (by rw [h]; exact nofun), h]
      rw [run_fault h, run_fault h2]
      exact ⟨fun h0 => by have := step_fault h; simp only at h0; omega, fun _ => ⟨rfl, rfl⟩⟩
    | go r' k out =>
      have hk := step_go h
      have h2 : stepP r (cs ++ m) = .go r' k out := by rw [step_mono m (by rw [h]; exact nofun), h]
      have ih := run_more n (r := r') (cs := cs.drop k) m (by rw [List.length_drop]; omega)
      rw [run_go h, run_go h2, List.drop_append_of_le_length hk.2]
      simp only
      refine ⟨fun h0 => ?_, fun h0 => ?_⟩
      · obtain ⟨i1, i2, i3, i4⟩ := ih.1 h0
        exact ⟨by rw [i1, List.append_assoc], i2, i3, i4⟩
      · obtain ⟨i1, i2⟩ := ih.2 h0
        exact ⟨by rw [i1], i2⟩
end Go.Proofs.YtipbakiecocioaaGreatDoor

/- Requests: the document's answer over all bytes is what a reader comes to; in plain Lean. -/
namespace Go.Proofs.YtipbakiecocioaaGreatDoor
open Go.V
attribute [local irreducible] Blk Own hcell IntT SliceT PlainT AggT SizeT StrT FieldT ZeroT EqT ArrT
inductive ListR where
  | more
  | err (e : Int)
  | ok (ws : List ByteArray) (k : Nat)
noncomputable def listP : Nat → List UInt8 → ListR
  | 0, _ => .ok [] 0
  | n + 1, cs => match lineP cs with
    | .more => .more
    | .err e => .err e
    | .ok s k => match numP s 36 0 4096 with
      | .error e => .err e
      | .ok z =>
        if cs.length < k + z.toNat + 2 then .more
        else if (cs.drop (k + z.toNat)).take 2 = [13, 10] then
          match listP n (cs.drop (k + z.toNat + 2)) with
          | .more => .more
          | .err e => .err e
          | .ok ws j => .ok (mkStr ((cs.drop k).take z.toNat) :: ws) (k + z.toNat + 2 + j)
        else .err 10
structure TR where
  out : List (List ByteArray)
  wait : Nat
  err : Int
noncomputable def toldN : Nat → List UInt8 → TR
  | 0, _ => ⟨[], 0, 0⟩
  | n + 1, cs => match lineP cs with
    | .more => ⟨[], cs.length, 0⟩
    | .err e => ⟨[], 0, e⟩
    | .ok s k =>
      if s.head? = some 42 then
        match numP s 42 1 128 with
        | .error e => ⟨[], 0, e⟩
        | .ok z => match listP z.toNat (cs.drop k) with
          | .more => ⟨[], cs.length, 0⟩
          | .err e => ⟨[], 0, e⟩
          | .ok ws j => { toldN n (cs.drop (k + j)) with out := ws :: (toldN n (cs.drop (k + j))).out }
      else if 128 < (cutG [] s).length then ⟨[], 0, 12⟩
      else { toldN n (cs.drop k) with out := (if cutG [] s = [] then [] else [(cutG [] s).map mkStr]) ++ (toldN n (cs.drop k)).out }
theorem listP_len : ∀ (n : Nat) (cs : List UInt8) (ws : List ByteArray) (k : Nat), listP n cs = .ok ws k → k ≤ cs.length ∧ ws.length = n
  | 0, cs, ws, k, h => by unfold listP at h; cases h; simp
  | n + 1, cs, ws, k, h => by
    unfold listP at h
    split at h
    · cases h
    · cases h
    rename_i s k' hl
    have h1 := line_len hl
    split at h
    · cases h
    rename_i z hz
    split at h
    · cases h
    rename_i h2
    split at h
    · split at h
      · cases h
      · cases h
      · rename_i ws' j hj
        have h3 := listP_len n _ _ _ hj
        rw [List.length_drop] at h3
        cases h
        simp only [List.length_cons]
        omega
    · cases h
theorem run_list : ∀ (n : Nat) (ws : List ByteArray) (h : Nat) (cs : List UInt8),
    (∀ us j, listP (n + 1) cs = .ok us j → runP ⟨n + 1, -1, ws, h⟩ cs = { runP rs0 (cs.drop j) with out := (ws ++ us) :: (runP rs0 (cs.drop j)).out }) ∧
    (listP (n + 1) cs = .more → (runP ⟨n + 1, -1, ws, h⟩ cs).out = [] ∧ (runP ⟨n + 1, -1, ws, h⟩ cs).err = 0 ∧ (runP ⟨n + 1, -1, ws, h⟩ cs).st.held + (runP ⟨n + 1, -1, ws, h⟩ cs).rest.length = h + cs.length) ∧
    (∀ e, listP (n + 1) cs = .err e → (runP ⟨n + 1, -1, ws, h⟩ cs).out = [] ∧ (runP ⟨n + 1, -1, ws, h⟩ cs).err = e) := by
  intro n
  induction n with
  | zero =>
    intro ws h cs
    have hs : stepP ⟨1, -1, ws, h⟩ cs = match lineP cs with
      | .more => .stop
      | .err e => .fault e
      | .ok s k => match numP s 36 0 4096 with
        | .error e => .fault e
        | .ok n => .go ⟨1, n, ws, h + k⟩ k [] := by
      unfold stepP
      simp only
      rw [if_neg (by decide), if_pos (by decide)]
      all_goals rfl
    unfold listP
    cases hl : lineP cs with
    | more =>
      rw [hl] at hs
      rw [run_stop hs]
      exact ⟨fun _ _ h => (by cases h), fun _ => ⟨rfl, rfl, rfl⟩, fun _ h => (by cases h)⟩
    | err e =>
      rw [hl] at hs
      rw [run_fault hs]
      exact ⟨fun _ _ h => (by cases h), fun h => (by cases h), fun e' h => (by cases h; exact ⟨rfl, rfl⟩)⟩
    | ok s k =>
      rw [hl] at hs
      have hk := line_len hl
      simp only at hs ⊢
      cases hz : numP s 36 0 4096 with
      | error e =>
        rw [hz] at hs
        rw [run_fault hs]
        exact ⟨fun _ _ h => (by cases h), fun h => (by cases h), fun e' h => (by cases h; exact ⟨rfl, rfl⟩)⟩
      | ok z =>
        rw [hz] at hs
        have hz2 := num_ok hz
        simp only at hs ⊢
        have hs2 : stepP ⟨1, z, ws, h + k⟩ (cs.drop k) = if (cs.drop k).length < z.toNat + 2 then .stop else if ((cs.drop k).drop z.toNat).take 2 = [13, 10] then .go rs0 (z.toNat + 2) [ws ++ [mkStr ((cs.drop k).take z.toNat)]] else .fault 10 := by
          unfold stepP
          simp only
          rw [if_neg (by decide), if_neg (by omega), if_pos trivial]
        rw [List.length_drop, List.drop_drop] at hs2
        rw [run_go hs]
        simp only [List.nil_append]
        by_cases h1 : cs.length < k + z.toNat + 2
        · rw [if_pos (by omega)] at hs2
          rw [if_pos h1, run_stop hs2]
          exact ⟨fun _ _ h => (by cases h), fun _ => ⟨rfl, rfl, by simp only [List.length_drop]; omega⟩, fun _ h => (by cases h)⟩
        · rw [if_neg (by omega)] at hs2
          rw [if_neg h1]
          by_cases h2 : (cs.drop (k + z.toNat)).take 2 = [13, 10]
          · rw [if_pos h2] at hs2
            rw [if_pos h2, run_go hs2, List.drop_drop]
            refine ⟨fun us j h => ?_, fun h => (by cases h), fun e' h => (by cases h)⟩
            simp only [listP] at h
            cases h
            rw [show k + (z.toNat + 2) = k + z.toNat + 2 + 0 by omega]
            rfl
          · rw [if_neg h2] at hs2
            rw [if_neg h2, run_fault hs2]
            exact ⟨fun _ _ h => (by cases h), fun h => (by cases h), fun e' h => (by cases h; exact ⟨rfl, rfl⟩)⟩
  | succ n ih =>
    intro ws h cs
    have hs : stepP ⟨n + 2, -1, ws, h⟩ cs = match lineP cs with
      | .more => .stop
      | .err e => .fault e
      | .ok s k => match numP s 36 0 4096 with
        | .error e => .fault e
        | .ok z => .go ⟨n + 2, z, ws, h + k⟩ k [] := by
      unfold stepP
      simp only
      rw [if_neg (by omega), if_pos (by decide)]
      all_goals rfl
    rw [show n + 1 + 1 = n + 2 from rfl]
    unfold listP
    cases hl : lineP cs with
    | more =>
      rw [hl] at hs
      rw [run_stop hs]
      exact ⟨fun _ _ h => (by cases h), fun _ => ⟨rfl, rfl, rfl⟩, fun _ h => (by cases h)⟩
    | err e =>
      rw [hl] at hs
      rw [run_fault hs]
      exact ⟨fun _ _ h => (by cases h), fun h => (by cases h), fun e' h => (by cases h; exact ⟨rfl, rfl⟩)⟩
    | ok s k =>
      rw [hl] at hs
      have hk := line_len hl
      simp only at hs ⊢
      cases hz : numP s 36 0 4096 with
      | error e =>
        rw [hz] at hs
        rw [run_fault hs]
        exact ⟨fun _ _ h => (by cases h), fun h => (by cases h), fun e' h => (by cases h; exact ⟨rfl, rfl⟩)⟩
      | ok z =>
        rw [hz] at hs
        have hz2 := num_ok hz
        simp only at hs ⊢
        have hs2 : stepP ⟨n + 2, z, ws, h + k⟩ (cs.drop k) = if (cs.drop k).length < z.toNat + 2 then .stop else if ((cs.drop k).drop z.toNat).take 2 = [13, 10] then .go ⟨n + 1, -1, ws ++ [mkStr ((cs.drop k).take z.toNat)], h + k + (z.toNat + 2)⟩ (z.toNat + 2) [] else .fault 10 := by
          unfold stepP
          simp only
          rw [if_neg (by omega), if_neg (by omega), if_neg (show ¬ n + 2 = 1 by omega)]
          rfl
        rw [List.length_drop, List.drop_drop] at hs2
        rw [run_go hs]
        simp only [List.nil_append]
        by_cases h1 : cs.length < k + z.toNat + 2
        · rw [if_pos (by omega)] at hs2
          rw [if_pos h1, run_stop hs2]
          exact ⟨fun _ _ h => (by cases h), fun _ => ⟨rfl, rfl, by simp only [List.length_drop]; omega⟩, fun _ h => (by cases h)⟩
        · rw [if_neg (by omega)] at hs2
          rw [if_neg h1]
          by_cases h2 : (cs.drop (k + z.toNat)).take 2 = [13, 10]
          · rw [if_pos h2] at hs2
            rw [if_pos h2, run_go hs2, List.drop_drop, show k + (z.toNat + 2) = k + z.toNat + 2 by omega]
            simp only [List.nil_append]
            obtain ⟨i1, i2, i3⟩ := ih (ws ++ [mkStr ((cs.drop k).take z.toNat)]) (h + k + (z.toNat + 2)) (cs.drop (k + z.toNat + 2))
            cases hp : listP (n + 1) (cs.drop (k + z.toNat + 2)) with
            | more =>
              obtain ⟨q1, q2, q3⟩ := i2 hp
              exact ⟨fun _ _ h => (by cases h), fun _ => ⟨q1, q2, by rw [q3, List.length_drop]; omega⟩, fun _ h => (by cases h)⟩
            | err e =>
              obtain ⟨q1, q2⟩ := i3 e hp
              exact ⟨fun _ _ h => (by cases h), fun h => (by cases h), fun e' h => (by cases h; exact ⟨q1, q2⟩)⟩
            | ok us j =>
              have q1 := i1 us j hp
              refine ⟨fun us' j' h => ?_, fun h => (by cases h), fun e' h => (by cases h)⟩
              cases h
              rw [q1, List.drop_drop]
              simp
          · rw [if_neg h2] at hs2
            rw [if_neg h2, run_fault hs2]
            exact ⟨fun _ _ h => (by cases h), fun h => (by cases h), fun e' h => (by cases h; exact ⟨rfl, rfl⟩)⟩
theorem told_run : ∀ (n : Nat) (cs : List UInt8), cs.length < n → toldN n cs = ⟨(runP rs0 cs).out, if (runP rs0 cs).err = 0 then (runP rs0 cs).st.held + (runP rs0 cs).rest.length else 0, (runP rs0 cs).err⟩
  | 0, cs, h => by omega
  | n + 1, cs, hn => by
    have hs : stepP rs0 cs = match lineP cs with
      | .more => .stop
      | .err e => .fault e
      | .ok s k => if s.head? = some 42 then
          match numP s 42 1 128 with
          | .error e => .fault e
          | .ok n => .go ⟨n.toNat, -1, [], k⟩ k []
        else if 128 < (cutG [] s).length then .fault 12
        else .go rs0 k (if cutG [] s = [] then [] else [(cutG [] s).map mkStr]) := by
      unfold stepP
      rw [if_pos (show rs0.left = 0 from rfl)]
      all_goals rfl
    unfold toldN
    cases hl : lineP cs with
    | more =>
      rw [hl] at hs
      rw [run_stop hs]
      simp [rs0]
    | err e =>
      rw [hl] at hs
      have := line_err hl
      rw [run_fault hs]
      simp only
      rw [if_neg (by omega)]
    | ok s k =>
      rw [hl] at hs
      have hk := line_len hl
      simp only at hs ⊢
      by_cases h42 : s.head? = some 42
      · rw [if_pos h42] at hs ⊢
        cases hz : numP s 42 1 128 with
        | error e =>
          rw [hz] at hs
          have := num_err hz
          rw [run_fault hs]
          simp only
          rw [if_neg (by omega)]
        | ok z =>
          rw [hz] at hs
          have hz2 := num_ok hz
          simp only at hs ⊢
          obtain ⟨m, hm⟩ : ∃ m, z.toNat = m + 1 := ⟨z.toNat - 1, by omega⟩
          obtain ⟨i1, i2, i3⟩ := run_list m [] k (cs.drop k)
          rw [hm] at hs ⊢
          rw [run_go hs]
          simp only [List.nil_append]
          cases hp : listP (m + 1) (cs.drop k) with
          | more =>
            obtain ⟨q1, q2, q3⟩ := i2 hp
            simp only
            rw [q1, q2, if_pos rfl, q3, List.length_drop]
            congr 1
            omega
          | err e =>
            obtain ⟨q1, q2⟩ := i3 e hp
            have he : e = 10 ∨ e = 12 := by
              have h3 : (runP ⟨m + 1, -1, [], k⟩ (cs.drop k)).err ≠ 0 → (runP ⟨m + 1, -1, [], k⟩ (cs.drop k)).err = 10 ∨ (runP ⟨m + 1, -1, [], k⟩ (cs.drop k)).err = 12 := run_err _ _ _ (Nat.lt_succ_self _)
              rw [q2] at h3
              by_cases h0 : e = 0
              · exact absurd (listP_err _ _ _ hp) (by omega)
              · exact h3 h0
            simp only
            rw [q1, q2, if_neg (by omega)]
          | ok us j =>
            have q1 := i1 us j hp
            have hj := listP_len _ _ _ _ hp
            rw [List.length_drop] at hj
            simp only
            rw [q1, List.drop_drop, told_run n (cs.drop (k + j)) (by rw [List.length_drop]; omega)]
            simp
      · rw [if_neg h42] at hs ⊢
        by_cases h128 : 128 < (cutG [] s).length
        · rw [if_pos h128] at hs ⊢
          rw [run_fault hs]
          simp
        · rw [if_neg h128] at hs ⊢
          rw [run_go hs, told_run n (cs.drop k) (by rw [List.length_drop]; omega)]
where
  run_err : ∀ (n : Nat) (r : RS) (cs : List UInt8), cs.length < n → (runP r cs).err ≠ 0 → (runP r cs).err = 10 ∨ (runP r cs).err = 12
    | 0, _, _, h => by omega
    | n + 1, r, cs, hn => by
      cases h : stepP r cs with
      | stop => rw [run_stop h]; exact fun h => absurd rfl h
      | fault e => rw [run_fault h]; exact fun _ => step_fault h
      | go r' k out =>
        have hk := step_go h
        rw [run_go h]
        exact run_err n r' (cs.drop k) (by rw [List.length_drop]; omega)
  listP_err : ∀ (n : Nat) (cs : List UInt8) (e : Int), listP n cs = .err e → e = 10 ∨ e = 12
    | 0, cs, e, h => by unfold listP at h; cases h
    | n + 1, cs, e, h => by
      unfold listP at h
      split at h
      · cases h
      · rename_i hl; cases h; exact line_err hl
      split at h
      · rename_i hz; cases h; exact num_err hz
      split at h
      · cases h
      split at h
      · split at h
        · cases h
        · rename_i hj; cases h; exact listP_err n _ _ hj
        · cases h
      · cases h; exact .inl rfl
end Go.Proofs.YtipbakiecocioaaGreatDoor

/- The document's Print and Parse. -/
namespace Go.V
section
variable {P : Program} {n : Nat} {ops : Array Oper} {dr : Nat × List Nat} {l : List Oper} {E : Env} {w : World} {K : Env → World → Prop}
variable {d : Option Nat} {ty : TypeId} {pos : String} {af : Array Edge} {g : Option (Nat × Bool)} {x y : Operand} {k k' : IntKind} {t t' u : TypeId} {i j r : Int}
theorem G1_addE (hx : E.look x = some (.int k i)) (hy : E.look y = some (.int k j)) (hr : k.wrap (i + j) = r) (hd : dstOk n d = true)
    (h : G P n ops dr l (E.put d (.int k r)) w K) : G1 P n ops dr ⟨d, .binOp .add t x y t', ty, pos, af, g⟩ l E w K := by subst hr; exact G1_addw hx hy hd h
theorem G1_mulE (hx : E.look x = some (.int k i)) (hy : E.look y = some (.int k j)) (hr : k.wrap (i * j) = r) (hd : dstOk n d = true)
    (h : G P n ops dr l (E.put d (.int k r)) w K) : G1 P n ops dr ⟨d, .binOp .mul t x y t', ty, pos, af, g⟩ l E w K := by subst hr; exact G1_mulw hx hy hd h
theorem G1_quoE (hx : E.look x = some (.int k i)) (hy : E.look y = some (.int k j)) (h0 : j ≠ 0) (hr : k.wrap (i.tdiv j) = r) (hd : dstOk n d = true)
    (h : G P n ops dr l (E.put d (.int k r)) w K) : G1 P n ops dr ⟨d, .binOp .quo t x y t', ty, pos, af, g⟩ l E w K := by subst hr; exact G1_quo hx hy h0 hd h
theorem G1_negE (hx : E.look x = some (.int k i)) (hr : k.wrap (0 - i) = r) (hd : dstOk n d = true)
    (h : G P n ops dr l (E.put d (.int k r)) w K) : G1 P n ops dr ⟨d, .unOp .neg t x, ty, pos, af, g⟩ l E w K := by subst hr; exact G1_neg hx hd h
end
end Go.V
namespace Go.Proofs.YtipbakiecocioaaGreatDoor
open Go.V
attribute [local irreducible] Blk Own hcell IntT SliceT PlainT AggT SizeT StrT FieldT ZeroT EqT ArrT
theorem ba_list (a b : ByteArray) : (a ++ b).data.toList = a.data.toList ++ b.data.toList := by
  rw [ByteArray.data_append, Array.toList_append]
theorem ba_ext {a b : ByteArray} (h : a.data.toList = b.data.toList) : a = b := by
  cases a; cases b; simp at h; rw [h]
theorem mkStr_L (l : List UInt8) : (mkStr l).data.toList = l := by simp [mkStr]

theorem rprint_spec {n : Int} {w : World} (hn : fit64 n) : Ctr Tryz.prog 83 [.int .i64 n] w (fun r w' => r = .string (itoaB n) ∧ Ext w w') := by
  unfold fit64 at hn
  obtain ⟨u0, hu0⟩ : ∃ u : Nat, u = n.natAbs := ⟨_, rfl⟩
  refine Ctr_of Tryz.func83 Tryz.ntmps83 rfl rfl rfl ?_
  by_cases hneg : n < 0
  · have hw1 : IntKind.u64.wrap n = n + 18446744073709551616 := by simp only [IntKind.wrap_u64]; omega
    have hw2 : IntKind.u64.wrap (0 - (n + 18446744073709551616)) = (u0 : Int) := by simp only [IntKind.wrap_u64]; omega
    repeat' (first | (apply G_on; exact rfl; first | ((first | apply G1_assign | apply G1_move | apply G1_neg); exact rfl; exact rfl) | (apply G1_convE (j := n + 18446744073709551616); exact rfl; exact T.i3; exact T.i151; exact hw1; exact rfl) | (apply G1_lss; exact rfl; exact rfl; exact rfl)) | apply G_nil | apply Post_next | apply W_seq | apply W_region | (apply W_cond_dec; exact rfl; all_goals (intro h; try (exfalso; omega))) | apply W_block)
    refine W_loop (ι := Nat × ByteArray) (fun y => [(3, .int .u64 (y.1 : Int)), (4, .string ⟨#[45]⟩), (5, .string y.2)]) (fun y w' => Ext w w' ∧ y.1 ≤ u0 ∧ Lib.decDigits y.1 ++ y.2.data.toList = Lib.decDigits u0) (fun y => y.1) (u0, ⟨#[]⟩) ⟨(by first | exact congrArg (fun z => some (Value.int .u64 z)) hw2 | exact rfl), rfl, rfl, trivial⟩ ⟨(by repeat first | assumption | exact Ext.rfl' | apply Ext.drew | apply Ext.alloc | refine Ext.trans ?_ (by assumption)), Nat.le_refl _, List.append_nil _⟩ ?_
    rintro ⟨u, A⟩ w2 ⟨hx, hu, hdec⟩
    simp only at hu hdec
    have hA : A.size ≤ 19 := by
      have h1 := congrArg List.length hdec
      have h2 := nDigits_le 18 u0 (by omega)
      rw [List.length_append, Lib.decDigits_length, Lib.decDigits_length, Array.length_toList] at h1
      show A.data.size ≤ 19
      omega
    have hm1 : ∀ c, (mkStr [c]).size = 1 := fun _ => rfl
    have hm2 := hm1 (UInt8.ofNat (48 + u % 10))
    refine W_keep [(3, .int .u64 (u : Int)), (4, .string ⟨#[45]⟩), (5, .string A)] ⟨rfl, rfl, rfl, trivial⟩ ?_
    obtain ⟨c, hc⟩ : ∃ c : UInt8, c = UInt8.ofNat (48 + u % 10) := ⟨_, rfl⟩
    rw [← hc] at hm2
    have hct : c.toNat = 48 + u % 10 := by rw [hc, UInt8.toNat_ofNat']; omega
    have q1 : (u : Int).tmod 10 = ((u % 10 : Nat) : Int) := by rw [Int.tmod_eq_emod_of_nonneg (by omega)]; push_cast; rfl
    have q2 : IntKind.u64.wrap (48 + ((u % 10 : Nat) : Int)) = ((48 + u % 10 : Nat) : Int) := by simp only [IntKind.wrap_u64]; omega
    have q3 : IntKind.u8.wrap ((48 + u % 10 : Nat) : Int) = (c.toNat : Int) := by rw [hct]; exact wrap_u8 (by omega) (by omega)
    have q4 : IntKind.u64.wrap ((u : Int).tdiv 10) = ((u / 10 : Nat) : Int) := by rw [Int.tdiv_eq_ediv_of_nonneg (by omega)]; simp only [IntKind.wrap_u64]; omega
    have hms : (mkStr [c] ++ A).size = 1 + A.size := by rw [ByteArray.size_append, hm2]
    have hsg : ((⟨#[45]⟩ : ByteArray)).size ≤ 1 := by decide
    have hcl : (mkStr [c] ++ A).data.toList = c :: A.data.toList := by rw [ba_list, mkStr_L]; rfl
    repeat' (first | (apply G_on; exact rfl; first | ((first | apply G1_assign | apply G1_move); exact rfl; exact rfl) | (apply G1_remE (r := ((u % 10 : Nat) : Int)); exact rfl; exact rfl; decide; exact q1; exact rfl) | (apply G1_addE (r := ((48 + u % 10 : Nat) : Int)); exact rfl; exact rfl; exact q2; exact rfl) | (apply G1_convE (j := (c.toNat : Int)); exact rfl; exact T.i151; exact T.i5; exact q3; exact rfl) | (apply G1_build1 eByte c; exact T.s22; exact rfl; exact rfl; exact rfl; decide; exact rfl; exact rfl; intro p3 w3 hp3 hs3 _ hx3 hz3) | (apply G1_toString (bs := [c]); exact T.s22; exact T.i5; exact T.str9; exact rfl; exact hs3; exact rfl) | (apply G1_quoE (r := ((u / 10 : Nat) : Int)); exact rfl; exact rfl; decide; exact q4; exact rfl) | (apply G1_sadd; exact rfl; exact rfl; omega; exact rfl) | (apply G1_eql; exact rfl; exact rfl; exact rfl)) | apply G_nil | apply Post_next | apply W_seq | apply W_region | (apply W_cond_dec; exact rfl; all_goals (intro h; try (exfalso; omega))) | apply W_skip | apply W_ret | apply W_block | apply Post_then_ret | apply Post_block_ret | apply Post_block_normal)
    · have hu10 : u < 10 := by omega
      rw [Lib.decDigits_one hu10] at hdec
      have e0 : c :: A.data.toList = Lib.decDigits u0 := by rw [← hdec, hc, show u % 10 = u by omega]; rfl
      have e1 : (⟨#[45]⟩ : ByteArray) ++ (mkStr [c] ++ A) = itoaB n := by
        apply ba_ext
        rw [ba_list, hcl, itoaB_list, e0, hu0]
        unfold Lib.itoa
        rw [if_pos hneg]; rfl
      refine Post_ret Tryz.results83 ⟨_, _, rfl, rfl, rfl⟩ ?_
      exact ⟨congrArg Value.string e1, (by repeat first | assumption | exact Ext.rfl' | apply Ext.drew | apply Ext.alloc | refine Ext.trans ?_ (by assumption))⟩
    · have hu10 : ¬ u < 10 := by omega
      rw [Lib.decDigits, dif_neg hu10, List.append_assoc] at hdec
      exact Post_round (u / 10, mkStr [c] ++ A) ⟨rfl, rfl, rfl, trivial⟩ ⟨(by repeat first | assumption | exact Ext.rfl' | apply Ext.drew | apply Ext.alloc | refine Ext.trans ?_ (by assumption)), by simp only; omega, by simp only; rw [hcl, hc]; exact hdec⟩ (by simp only; omega)
  · have hw1 : IntKind.u64.wrap n = (u0 : Int) := by simp only [IntKind.wrap_u64]; omega
    have hw2 : (u0 : Int) = (u0 : Int) := rfl
    repeat' (first | (apply G_on; exact rfl; first | ((first | apply G1_assign | apply G1_move); exact rfl; exact rfl) | (apply G1_convE (j := (u0 : Int)); exact rfl; exact T.i3; exact T.i151; exact hw1; exact rfl) | (apply G1_lss; exact rfl; exact rfl; exact rfl)) | apply G_nil | apply Post_next | apply W_seq | apply W_region | (apply W_cond_dec; exact rfl; all_goals (intro h; try (exfalso; omega))) | apply W_skip | apply W_block)
    refine W_loop (ι := Nat × ByteArray) (fun y => [(3, .int .u64 (y.1 : Int)), (4, .string ⟨#[]⟩), (5, .string y.2)]) (fun y w' => Ext w w' ∧ y.1 ≤ u0 ∧ Lib.decDigits y.1 ++ y.2.data.toList = Lib.decDigits u0) (fun y => y.1) (u0, ⟨#[]⟩) ⟨(by first | exact congrArg (fun z => some (Value.int .u64 z)) hw2 | exact rfl), rfl, rfl, trivial⟩ ⟨(by repeat first | assumption | exact Ext.rfl' | apply Ext.drew | apply Ext.alloc | refine Ext.trans ?_ (by assumption)), Nat.le_refl _, List.append_nil _⟩ ?_
    rintro ⟨u, A⟩ w2 ⟨hx, hu, hdec⟩
    simp only at hu hdec
    have hA : A.size ≤ 19 := by
      have h1 := congrArg List.length hdec
      have h2 := nDigits_le 18 u0 (by omega)
      rw [List.length_append, Lib.decDigits_length, Lib.decDigits_length, Array.length_toList] at h1
      show A.data.size ≤ 19
      omega
    have hm1 : ∀ c, (mkStr [c]).size = 1 := fun _ => rfl
    have hm2 := hm1 (UInt8.ofNat (48 + u % 10))
    refine W_keep [(3, .int .u64 (u : Int)), (4, .string ⟨#[]⟩), (5, .string A)] ⟨rfl, rfl, rfl, trivial⟩ ?_
    obtain ⟨c, hc⟩ : ∃ c : UInt8, c = UInt8.ofNat (48 + u % 10) := ⟨_, rfl⟩
    rw [← hc] at hm2
    have hct : c.toNat = 48 + u % 10 := by rw [hc, UInt8.toNat_ofNat']; omega
    have q1 : (u : Int).tmod 10 = ((u % 10 : Nat) : Int) := by rw [Int.tmod_eq_emod_of_nonneg (by omega)]; push_cast; rfl
    have q2 : IntKind.u64.wrap (48 + ((u % 10 : Nat) : Int)) = ((48 + u % 10 : Nat) : Int) := by simp only [IntKind.wrap_u64]; omega
    have q3 : IntKind.u8.wrap ((48 + u % 10 : Nat) : Int) = (c.toNat : Int) := by rw [hct]; exact wrap_u8 (by omega) (by omega)
    have q4 : IntKind.u64.wrap ((u : Int).tdiv 10) = ((u / 10 : Nat) : Int) := by rw [Int.tdiv_eq_ediv_of_nonneg (by omega)]; simp only [IntKind.wrap_u64]; omega
    have hms : (mkStr [c] ++ A).size = 1 + A.size := by rw [ByteArray.size_append, hm2]
    have hsg : ((⟨#[]⟩ : ByteArray)).size ≤ 1 := by decide
    have hcl : (mkStr [c] ++ A).data.toList = c :: A.data.toList := by rw [ba_list, mkStr_L]; rfl
    repeat' (first | (apply G_on; exact rfl; first | ((first | apply G1_assign | apply G1_move); exact rfl; exact rfl) | (apply G1_remE (r := ((u % 10 : Nat) : Int)); exact rfl; exact rfl; decide; exact q1; exact rfl) | (apply G1_addE (r := ((48 + u % 10 : Nat) : Int)); exact rfl; exact rfl; exact q2; exact rfl) | (apply G1_convE (j := (c.toNat : Int)); exact rfl; exact T.i151; exact T.i5; exact q3; exact rfl) | (apply G1_build1 eByte c; exact T.s22; exact rfl; exact rfl; exact rfl; decide; exact rfl; exact rfl; intro p3 w3 hp3 hs3 _ hx3 hz3) | (apply G1_toString (bs := [c]); exact T.s22; exact T.i5; exact T.str9; exact rfl; exact hs3; exact rfl) | (apply G1_quoE (r := ((u / 10 : Nat) : Int)); exact rfl; exact rfl; decide; exact q4; exact rfl) | (apply G1_sadd; exact rfl; exact rfl; omega; exact rfl) | (apply G1_eql; exact rfl; exact rfl; exact rfl)) | apply G_nil | apply Post_next | apply W_seq | apply W_region | (apply W_cond_dec; exact rfl; all_goals (intro h; try (exfalso; omega))) | apply W_skip | apply W_ret | apply W_block | apply Post_then_ret | apply Post_block_ret | apply Post_block_normal)
    · have hu10 : u < 10 := by omega
      rw [Lib.decDigits_one hu10] at hdec
      have e0 : c :: A.data.toList = Lib.decDigits u0 := by rw [← hdec, hc, show u % 10 = u by omega]; rfl
      have e1 : (⟨#[]⟩ : ByteArray) ++ (mkStr [c] ++ A) = itoaB n := by
        apply ba_ext
        rw [ba_list, hcl, itoaB_list, e0, hu0]
        unfold Lib.itoa
        rw [if_neg hneg, show n.natAbs = n.toNat by omega]; rfl
      refine Post_ret Tryz.results83 ⟨_, _, rfl, rfl, rfl⟩ ?_
      exact ⟨congrArg Value.string e1, (by repeat first | assumption | exact Ext.rfl' | apply Ext.drew | apply Ext.alloc | refine Ext.trans ?_ (by assumption))⟩
    · have hu10 : ¬ u < 10 := by omega
      rw [Lib.decDigits, dif_neg hu10, List.append_assoc] at hdec
      exact Post_round (u / 10, mkStr [c] ++ A) ⟨rfl, rfl, rfl, trivial⟩ ⟨(by repeat first | assumption | exact Ext.rfl' | apply Ext.drew | apply Ext.alloc | refine Ext.trans ?_ (by assumption)), by simp only; omega, by simp only; rw [hcl, hc]; exact hdec⟩ (by simp only; omega)
end Go.Proofs.YtipbakiecocioaaGreatDoor

/- Pieces of strings, as lists. -/
namespace Go.V
def onesF (f : UInt8 → Nat) (l : List UInt8) : Nat := (l.map f).sum
theorem onesF_app (f : UInt8 → Nat) (a b : List UInt8) : onesF f (a ++ b) = onesF f a + onesF f b := by simp [onesF]
theorem onesF_le {f : UInt8 → Nat} (hf : ∀ c, f c ≤ 255) : ∀ l : List UInt8, onesF f l ≤ 255 * l.length
  | [] => by simp [onesF]
  | c :: l => by
    have := onesF_le hf l
    have h2 := hf c
    simp only [onesF, List.map_cons, List.sum_cons, List.length_cons] at this ⊢
    omega
theorem list_bget' {s : ByteArray} {k : Nat} (h : k < s.size) : s.data.toList[k]? = some (bget s k) := by
  have h' : k < s.data.toList.length := by rw [Array.length_toList]; exact h
  have h2 : k < s.data.size := h
  rw [List.getElem?_eq_getElem h', bget_list, List.getD_eq_getElem?_getD, List.getElem?_eq_getElem h']
  rfl
/-- what is between -/
def cutL (s : ByteArray) (x y : Nat) : List UInt8 := (s.data.toList.drop x).take (y - x)
theorem cutL_succ {s : ByteArray} {x y : Nat} (h1 : x ≤ y) (h2 : y < s.size) : cutL s x (y + 1) = cutL s x y ++ [bget s y] := by
  have hc := list_bget' h2
  unfold cutL
  rw [show y + 1 - x = (y - x) + 1 by omega, List.take_add_one, List.getElem?_drop, show x + (y - x) = y by omega, hc]
  rfl
theorem cutL_self (s : ByteArray) (x : Nat) : cutL s x x = [] := by unfold cutL; simp
theorem cutL_cat (s : ByteArray) {k : Nat} (hk : k ≤ s.size) : cutL s 0 k ++ cutL s k s.size = cutL s 0 s.size := by
  have hl : s.data.toList.length = s.size := by rw [Array.length_toList]; rfl
  unfold cutL
  rw [Nat.sub_zero, Nat.sub_zero, List.drop_zero, List.take_of_length_le (show (s.data.toList.drop k).length ≤ s.size - k by rw [List.length_drop, hl]; exact Nat.le_refl _), List.take_append_drop, List.take_of_length_le (by rw [hl]; exact Nat.le_refl _)]
end Go.V

/- The document's Parse. -/
namespace Go.Proofs.YtipbakiecocioaaGreatDoor
open Go.V
attribute [local irreducible] Blk Own hcell IntT SliceT PlainT AggT SizeT StrT FieldT ZeroT EqT ArrT
theorem valN_app (acc : Nat) (a b : List UInt8) : valN acc (a ++ b) = valN (valN acc a) b := by unfold valN; rw [List.foldl_append]

theorem rparse_no {s : ByteArray} {w : World} (hno : ∀ n, ¬ IsNum s n) : Ctr Tryz.prog 48 [.string s] w (fun r w' => r = .tuple #[.int .i64 0, .bool false] ∧ Ext w w') := by
  have hfit : ∀ i, fit64 (IntKind.i64.wrap i) := fun i => by unfold fit64; simp only [IntKind.wrap_i64]; omega
  have hne : ∀ i, ¬ itoaB (IntKind.i64.wrap i) = s := fun i he => hno _ ⟨hfit i, he⟩
  refine Ctr_of Tryz.func48 Tryz.ntmps48 rfl rfl rfl ?_
  by_cases hl : s.size = 0 ∨ 20 < s.size
  · repeat' (first | (apply G_on; exact rfl; first | ((first | apply G1_assign | apply G1_move); exact rfl; exact rfl) | (apply G1_slen; exact T.str9; exact rfl; exact rfl) | ((first | apply G1_eql | apply G1_gtr); exact rfl; exact rfl; exact rfl) | (apply G1_pick_t; exact rfl; exact rfl; exact rfl) | (apply G1_pick_f; exact rfl; exact rfl; exact rfl)) | apply G_nil | apply Post_next | apply W_seq | apply W_region | (apply W_cond_true; exact rfl) | (apply W_cond_dec; exact rfl; all_goals (intro h; try (exfalso; omega))) | (apply G_off; exact rfl; exact rfl) | ((fail_if_success (apply G_on; exact rfl)); apply G_split_dec; exact rfl; exact rfl; all_goals (intro h; try (exfalso; omega))) | apply W_ret | apply Post_then_ret)
    all_goals
      refine Post_ret Tryz.results48 ⟨_, _, rfl, rfl, _, _, rfl, rfl, rfl⟩ ?_
      exact ⟨rfl, (by repeat first | assumption | exact Ext.rfl' | apply Ext.drew | apply Ext.alloc | refine Ext.trans ?_ (by assumption))⟩
  · repeat' (first | (apply G_on; exact rfl; first | ((first | apply G1_assign | apply G1_move); exact rfl; exact rfl) | (apply G1_slen; exact T.str9; exact rfl; exact rfl) | ((first | apply G1_eql | apply G1_gtr); exact rfl; exact rfl; exact rfl) | (apply G1_pick_f; exact rfl; exact rfl; exact rfl) | (apply G1_sindex; exact T.str9; exact rfl; exact rfl; omega; omega; exact rfl)) | apply G_nil | apply Post_next | apply W_seq | apply W_region | (apply W_cond_dec; exact rfl; all_goals (intro h; try (exfalso; omega))) | ((fail_if_success (apply G_on; exact rfl)); apply G_split_dec; exact rfl; exact rfl; all_goals (intro h; try (exfalso; omega))) | apply W_skip | apply W_block)
    · refine W_loop (ι := Nat × Int) (fun y => [(0, .string s), (4, .int .i64 1), (5, .int .u64 y.2), (6, .int .i64 (y.1 : Int))]) (fun y w' => Ext w w' ∧ y.1 ≤ s.size) (fun y => s.size - y.1) (1, 0) ⟨rfl, rfl, rfl, rfl, trivial⟩ ⟨(by repeat first | assumption | exact Ext.rfl' | apply Ext.drew | apply Ext.alloc | refine Ext.trans ?_ (by assumption)), by simp only; omega⟩ ?_
      rintro ⟨i, U⟩ w2 ⟨hx, hi⟩
      simp only at hi
      refine W_keep [(0, .string s), (4, .int .i64 1), (5, .int .u64 U), (6, .int .i64 (i : Int))] ⟨rfl, rfl, rfl, rfl, trivial⟩ ?_
      by_cases hlt : i < s.size
      · repeat' (first | (apply G_on; exact rfl; first | ((first | apply G1_assign | apply G1_move); exact rfl; exact rfl) | (apply G1_sindexJ (q := i); exact T.str9; exact rfl; exact rfl; exact rfl; omega; exact rfl) | (apply G1_mulw (k := .u64); exact rfl; exact rfl; exact rfl) | (apply G1_addw (k := .u64); exact rfl; exact rfl; exact rfl) | (apply G1_subw (k := .u8); exact rfl; exact rfl; exact rfl) | (apply G1_convE; exact rfl; exact T.i5; exact T.i151; exact rfl; exact rfl) | (apply G1_slen; exact T.str9; exact rfl; exact rfl) | ((first | apply G1_gtr | apply G1_lss); exact rfl; exact rfl; exact rfl) | (apply G1_pick_t; exact rfl; exact rfl; exact rfl) | (apply G1_pick_f; exact rfl; exact rfl; exact rfl) | (apply G1_add; exact rfl; exact rfl; omega; omega; exact rfl)) | apply G_nil | apply Post_next | apply W_seq | apply W_region | (apply W_cond_true; exact rfl) | (apply W_cond_dec; exact rfl; all_goals (intro h; try (exfalso; omega))) | (apply G_off; exact rfl; exact rfl) | ((fail_if_success (apply G_on; exact rfl)); apply G_split_dec; exact rfl; exact rfl; all_goals (intro h; try (exfalso; omega))) | apply W_skip | apply W_ret | apply W_block | apply Post_then_ret | apply Post_block_ret | apply Post_block_normal)
        all_goals first
          | exact Post_round (i + 1, _) ⟨rfl, rfl, rfl, rfl, trivial⟩ ⟨(by repeat first | assumption | exact Ext.rfl' | apply Ext.drew | apply Ext.alloc | refine Ext.trans ?_ (by assumption)), by simp only; omega⟩ (by simp only; omega)
          | (refine Post_ret Tryz.results48 ⟨_, _, rfl, rfl, _, _, rfl, rfl, rfl⟩ ?_
             exact ⟨rfl, (by repeat first | assumption | exact Ext.rfl' | apply Ext.drew | apply Ext.alloc | refine Ext.trans ?_ (by assumption))⟩)
      · repeat' (first | (apply G_on; exact rfl; first | ((first | apply G1_assign | apply G1_move | apply G1_neg); exact rfl; exact rfl) | (apply G1_convE; exact rfl; exact T.i151; exact T.i3; exact rfl; exact rfl) | (apply G1_call (f := 83); exact rfl; exact rfl; exact rfl; exact rprint_spec (hfit _); rintro _ w3 ⟨rfl, hx3⟩; refine ⟨(by first | exact .inl rfl | exact .inr (by assumption)), ?_⟩) | (apply G1_slen; exact T.str9; exact rfl; exact rfl) | ((first | apply G1_eql | apply G1_lss | apply G1_sneq); exact rfl; exact rfl; exact rfl)) | apply G_nil | apply Post_next | apply W_seq | apply W_region | (apply W_cond_true; exact rfl) | (apply W_cond_dec; exact rfl; all_goals (intro h; try (exfalso; omega))) | apply W_skip | apply W_exit | apply W_ret | apply Post_then_ret | apply Post_then_exit | apply Post_block_exit)
        all_goals try exact absurd (by first | assumption | (simpa using h)) (hne _)
        all_goals
          refine Post_ret Tryz.results48 ⟨_, _, rfl, rfl, _, _, rfl, rfl, rfl⟩ ?_
          exact ⟨rfl, (by repeat first | assumption | exact Ext.rfl' | apply Ext.drew | apply Ext.alloc | refine Ext.trans ?_ (by assumption))⟩
    · refine W_loop (ι := Nat × Int) (fun y => [(0, .string s), (4, .int .i64 0), (5, .int .u64 y.2), (6, .int .i64 (y.1 : Int))]) (fun y w' => Ext w w' ∧ y.1 ≤ s.size) (fun y => s.size - y.1) (0, 0) ⟨rfl, rfl, rfl, rfl, trivial⟩ ⟨(by repeat first | assumption | exact Ext.rfl' | apply Ext.drew | apply Ext.alloc | refine Ext.trans ?_ (by assumption)), by simp only; omega⟩ ?_
      rintro ⟨i, U⟩ w2 ⟨hx, hi⟩
      simp only at hi
      refine W_keep [(0, .string s), (4, .int .i64 0), (5, .int .u64 U), (6, .int .i64 (i : Int))] ⟨rfl, rfl, rfl, rfl, trivial⟩ ?_
      by_cases hlt : i < s.size
      · repeat' (first | (apply G_on; exact rfl; first | ((first | apply G1_assign | apply G1_move); exact rfl; exact rfl) | (apply G1_sindexJ (q := i); exact T.str9; exact rfl; exact rfl; exact rfl; omega; exact rfl) | (apply G1_mulw (k := .u64); exact rfl; exact rfl; exact rfl) | (apply G1_addw (k := .u64); exact rfl; exact rfl; exact rfl) | (apply G1_subw (k := .u8); exact rfl; exact rfl; exact rfl) | (apply G1_convE; exact rfl; exact T.i5; exact T.i151; exact rfl; exact rfl) | (apply G1_slen; exact T.str9; exact rfl; exact rfl) | ((first | apply G1_gtr | apply G1_lss); exact rfl; exact rfl; exact rfl) | (apply G1_pick_t; exact rfl; exact rfl; exact rfl) | (apply G1_pick_f; exact rfl; exact rfl; exact rfl) | (apply G1_add; exact rfl; exact rfl; omega; omega; exact rfl)) | apply G_nil | apply Post_next | apply W_seq | apply W_region | (apply W_cond_true; exact rfl) | (apply W_cond_dec; exact rfl; all_goals (intro h; try (exfalso; omega))) | (apply G_off; exact rfl; exact rfl) | ((fail_if_success (apply G_on; exact rfl)); apply G_split_dec; exact rfl; exact rfl; all_goals (intro h; try (exfalso; omega))) | apply W_skip | apply W_ret | apply W_block | apply Post_then_ret | apply Post_block_ret | apply Post_block_normal)
        all_goals first
          | exact Post_round (i + 1, _) ⟨rfl, rfl, rfl, rfl, trivial⟩ ⟨(by repeat first | assumption | exact Ext.rfl' | apply Ext.drew | apply Ext.alloc | refine Ext.trans ?_ (by assumption)), by simp only; omega⟩ (by simp only; omega)
          | (refine Post_ret Tryz.results48 ⟨_, _, rfl, rfl, _, _, rfl, rfl, rfl⟩ ?_
             exact ⟨rfl, (by repeat first | assumption | exact Ext.rfl' | apply Ext.drew | apply Ext.alloc | refine Ext.trans ?_ (by assumption))⟩)
      · repeat' (first | (apply G_on; exact rfl; first | ((first | apply G1_assign | apply G1_move); exact rfl; exact rfl) | (apply G1_convE; exact rfl; exact T.i151; exact T.i3; exact rfl; exact rfl) | (apply G1_call (f := 83); exact rfl; exact rfl; exact rfl; exact rprint_spec (hfit _); rintro _ w3 ⟨rfl, hx3⟩; refine ⟨(by first | exact .inl rfl | exact .inr (by assumption)), ?_⟩) | (apply G1_slen; exact T.str9; exact rfl; exact rfl) | ((first | apply G1_eql | apply G1_lss | apply G1_sneq); exact rfl; exact rfl; exact rfl)) | apply G_nil | apply Post_next | apply W_seq | apply W_region | (apply W_cond_false; exact rfl) | (apply W_cond_dec; exact rfl; all_goals (intro h; try (exfalso; omega))) | apply W_skip | apply W_exit | apply W_ret | apply Post_then_ret | apply Post_then_exit | apply Post_block_exit)
        all_goals try exact absurd (by first | assumption | (simpa using h)) (hne _)
        all_goals
          refine Post_ret Tryz.results48 ⟨_, _, rfl, rfl, _, _, rfl, rfl, rfl⟩ ?_
          exact ⟨rfl, (by repeat first | assumption | exact Ext.rfl' | apply Ext.drew | apply Ext.alloc | refine Ext.trans ?_ (by assumption))⟩

theorem rparse_yes {s : ByteArray} {m : Int} {w : World} (h0 : IsNum s m) : Ctr Tryz.prog 48 [.string s] w (fun r w' => r = .tuple #[.int .i64 m, .bool true] ∧ Ext w w') := by
  obtain ⟨hf, hs⟩ := h0
  have hsl : s.data.toList = Lib.itoa m := by rw [← hs, itoaB_list]
  have hsz := itoa_size hf
  rw [hs] at hsz
  have hlen : s.data.toList.length = s.size := by rw [Array.length_toList]; rfl
  obtain ⟨D, hDe⟩ : ∃ D, D = Lib.decDigits m.natAbs := ⟨_, rfl⟩
  have hval : valN 0 D = m.natAbs := by rw [hDe, val_dec]
  have hdig : ∀ c ∈ D, 48 ≤ c.toNat ∧ c.toNat ≤ 57 := fun c hc => by rw [hDe] at hc; exact ⟨dec_ge _ c hc, dec_le _ c hc⟩
  have hpos : 0 < D.length := by rw [hDe, Lib.decDigits_length]; have := Lib.nDigits_pos m.natAbs; omega
  unfold fit64 at hf
  by_cases hneg : m < 0
  · have hsD : s.data.toList = 45 :: D := by rw [hsl, hDe]; unfold Lib.itoa; rw [if_pos hneg]
    have hD : s.data.toList.drop 1 = D := by rw [hsD]; rfl
    have hDl : s.size = 1 + D.length := by rw [← hlen, hsD, List.length_cons]; omega
    have hb0 : bget s 0 = 45 := by
      have h1 := list_bget' (s := s) (k := 0) (by omega)
      rw [hsD] at h1
      injection h1 with h1; exact h1.symm
    have hz1 : IntKind.i64.wrap (IntKind.u64.wrap (0 - (m.natAbs : Int))) = m := by simp only [IntKind.wrap_i64, IntKind.wrap_u64]; omega
    have hz2 := hz1
    refine Ctr_of Tryz.func48 Tryz.ntmps48 rfl rfl rfl ?_
    repeat' (first | (apply G_on; exact rfl; first | ((first | apply G1_assign | apply G1_move); exact rfl; exact rfl) | (apply G1_sindexJ (q := 0); exact T.str9; exact rfl; exact rfl; exact rfl; omega; exact rfl; rw [hb0]) | (apply G1_slen; exact T.str9; exact rfl; exact rfl) | ((first | apply G1_eql | apply G1_gtr); exact rfl; exact rfl; exact rfl) | (apply G1_pick_f; exact rfl; exact rfl; exact rfl)) | apply G_nil | apply Post_next | apply W_seq | apply W_region | (apply W_cond_true; exact rfl) | (apply W_cond_dec; exact rfl; all_goals (intro h; try (exfalso; omega))) | ((fail_if_success (apply G_on; exact rfl)); apply G_split_dec; exact rfl; exact rfl; all_goals (intro h; try (exfalso; omega))) | apply W_skip | apply W_block)
    refine W_loop (ι := Nat) (fun j => [(0, .string s), (4, .int .i64 1), (5, .int .u64 (valN 0 (D.take j) : Int)), (6, .int .i64 ((1 + j : Nat) : Int))]) (fun j w' => Ext w w' ∧ j ≤ D.length) (fun j => D.length - j) 0 ⟨rfl, rfl, rfl, rfl, trivial⟩ ⟨(by repeat first | assumption | exact Ext.rfl' | apply Ext.drew | apply Ext.alloc | refine Ext.trans ?_ (by assumption)), Nat.zero_le _⟩ ?_
    rintro j w2 ⟨hx, hj⟩
    by_cases hlt : j < D.length
    · obtain ⟨c, hc⟩ := get_some hlt
      have hbc : bget s (1 + j) = c := by
        have h1 := list_bget' (s := s) (k := 1 + j) (by omega)
        rw [← List.getElem?_drop, hD, hc] at h1
        injection h1 with h1; exact h1.symm
      have hd := hdig c (List.mem_of_getElem? hc)
      have hst : D.take (j + 1) = D.take j ++ [c] := by rw [List.take_add_one, hc]; rfl
      have hv1 : valN 0 (D.take (j + 1)) = valN 0 (D.take j) * 10 + (c.toNat - 48) := by rw [hst, valN_snoc]
      have hv2 : valN 0 (D.take (j + 1)) ≤ m.natAbs := by
        have h3 := valN_ge (D.drop (j + 1)) (valN 0 (D.take (j + 1)))
        rw [← valN_app, List.take_append_drop, hval] at h3; exact h3
      have q1 : IntKind.u64.wrap ((valN 0 (D.take j) : Int) * 10) = ((valN 0 (D.take j) * 10 : Nat) : Int) := by simp only [IntKind.wrap_u64]; omega
      have q2 : IntKind.u8.wrap ((c.toNat : Int) - 48) = ((c.toNat - 48 : Nat) : Int) := by rw [wrap_u8 (by omega) (by omega)]; omega
      have q3 : IntKind.u64.wrap ((c.toNat - 48 : Nat) : Int) = ((c.toNat - 48 : Nat) : Int) := wrap_u64 (by omega) (by omega)
      have q4 : IntKind.u64.wrap (((valN 0 (D.take j) * 10 : Nat) : Int) + ((c.toNat - 48 : Nat) : Int)) = (valN 0 (D.take (j + 1)) : Int) := by rw [hv1] at hv2 ⊢; simp only [IntKind.wrap_u64]; omega
      repeat' (first | (apply G_on; exact rfl; first | ((first | apply G1_assign | apply G1_move); exact rfl; exact rfl) | (apply G1_sindexJ (q := 1 + j); exact T.str9; exact rfl; exact rfl; exact rfl; omega; exact rfl; rw [hbc]) | (apply G1_mulE (k := .u64) (r := ((valN 0 (D.take j) * 10 : Nat) : Int)); exact rfl; exact rfl; exact q1; exact rfl) | (apply G1_addE (k := .u64) (r := (valN 0 (D.take (j + 1)) : Int)); exact rfl; exact rfl; exact q4; exact rfl) | (apply G1_convE (j := ((c.toNat - 48 : Nat) : Int)); exact rfl; exact T.i5; exact T.i151; exact q3; exact rfl) | (refine G1_subw (k := .u8) rfl rfl rfl ?_; rw [q2]) | (apply G1_slen; exact T.str9; exact rfl; exact rfl) | ((first | apply G1_gtr | apply G1_lss); exact rfl; exact rfl; exact rfl) | (apply G1_pick_f; exact rfl; exact rfl; exact rfl) | (apply G1_add; exact rfl; exact rfl; omega; omega; exact rfl)) | apply G_nil | apply Post_next | apply W_seq | apply W_region | (apply W_cond_dec; exact rfl; all_goals (intro h; try (exfalso; omega))) | ((fail_if_success (apply G_on; exact rfl)); apply G_split_dec; exact rfl; exact rfl; all_goals (intro h; try (exfalso; omega))) | apply W_skip | apply W_block | apply Post_block_normal)
      all_goals exact Post_round (j + 1) ⟨rfl, rfl, rfl, rfl, trivial⟩ ⟨(by repeat first | assumption | exact Ext.rfl' | apply Ext.drew | apply Ext.alloc | refine Ext.trans ?_ (by assumption)), by omega⟩ (by omega)
    · have hjD : D.take j = D := List.take_of_length_le (by omega)
      rw [hjD, hval]
      repeat' (first | (apply G_on; exact rfl; first | ((first | apply G1_assign | apply G1_move | apply G1_neg); exact rfl; exact rfl) | (apply G1_convE (j := m); exact rfl; exact T.i151; exact T.i3; (first | exact hz1 | exact hz2); exact rfl) | (apply G1_convE; exact rfl; exact T.i151; exact T.i3; exact rfl; exact rfl) | (apply G1_call (f := 83); exact rfl; exact rfl; exact rfl; exact rprint_spec hf; rintro _ w3 ⟨rfl, hx3⟩; refine ⟨(by first | exact .inl rfl | exact .inr (by assumption)), ?_⟩) | (apply G1_slen; exact T.str9; exact rfl; exact rfl) | ((first | apply G1_eql | apply G1_lss | apply G1_sneq); exact rfl; exact rfl; exact rfl)) | apply G_nil | apply Post_next | apply W_seq | apply W_region | (apply W_cond_true; exact rfl) | (apply W_cond_dec; exact rfl; all_goals (intro h; try (exfalso; omega))) | apply W_skip | apply W_exit | apply W_ret | apply Post_then_ret | apply Post_then_exit | apply Post_block_exit)
      all_goals try contradiction
      all_goals
        refine Post_ret Tryz.results48 ⟨_, _, rfl, rfl, _, _, rfl, rfl, rfl⟩ ?_
        exact ⟨rfl, (by repeat first | assumption | exact Ext.rfl' | apply Ext.drew | apply Ext.alloc | refine Ext.trans ?_ (by assumption))⟩
  · have hsD : s.data.toList = D := by rw [hsl, hDe]; unfold Lib.itoa; rw [if_neg hneg]; congr 1; omega
    have hD : s.data.toList.drop 0 = D := by rw [hsD]; rfl
    have hDl : s.size = 0 + D.length := by rw [← hlen, hsD]; omega
    obtain ⟨c0, hc0⟩ := get_some hpos
    have hb0 : bget s 0 = c0 := by
      have h1 := list_bget' (s := s) (k := 0) (by omega)
      rw [hsD, hc0] at h1
      injection h1 with h1; exact h1.symm
    have hd0 := hdig c0 (List.mem_of_getElem? hc0)
    have hz1 : IntKind.i64.wrap (m.natAbs : Int) = m := by simp only [IntKind.wrap_i64]; omega
    have hz2 := hz1
    refine Ctr_of Tryz.func48 Tryz.ntmps48 rfl rfl rfl ?_
    repeat' (first | (apply G_on; exact rfl; first | ((first | apply G1_assign | apply G1_move); exact rfl; exact rfl) | (apply G1_sindexJ (q := 0); exact T.str9; exact rfl; exact rfl; exact rfl; omega; exact rfl; rw [hb0]) | (apply G1_slen; exact T.str9; exact rfl; exact rfl) | ((first | apply G1_eql | apply G1_gtr); exact rfl; exact rfl; exact rfl) | (apply G1_pick_f; exact rfl; exact rfl; exact rfl)) | apply G_nil | apply Post_next | apply W_seq | apply W_region | (apply W_cond_dec; exact rfl; all_goals (intro h; try (exfalso; omega))) | ((fail_if_success (apply G_on; exact rfl)); apply G_split_dec; exact rfl; exact rfl; all_goals (intro h; try (exfalso; omega))) | apply W_skip | apply W_block)
    refine W_loop (ι := Nat) (fun j => [(0, .string s), (4, .int .i64 0), (5, .int .u64 (valN 0 (D.take j) : Int)), (6, .int .i64 ((0 + j : Nat) : Int))]) (fun j w' => Ext w w' ∧ j ≤ D.length) (fun j => D.length - j) 0 ⟨rfl, rfl, rfl, rfl, trivial⟩ ⟨(by repeat first | assumption | exact Ext.rfl' | apply Ext.drew | apply Ext.alloc | refine Ext.trans ?_ (by assumption)), Nat.zero_le _⟩ ?_
    rintro j w2 ⟨hx, hj⟩
    by_cases hlt : j < D.length
    · obtain ⟨c, hc⟩ := get_some hlt
      have hbc : bget s (0 + j) = c := by
        have h1 := list_bget' (s := s) (k := 0 + j) (by omega)
        rw [← List.getElem?_drop, hD, hc] at h1
        injection h1 with h1; exact h1.symm
      have hd := hdig c (List.mem_of_getElem? hc)
      have hst : D.take (j + 1) = D.take j ++ [c] := by rw [List.take_add_one, hc]; rfl
      have hv1 : valN 0 (D.take (j + 1)) = valN 0 (D.take j) * 10 + (c.toNat - 48) := by rw [hst, valN_snoc]
      have hv2 : valN 0 (D.take (j + 1)) ≤ m.natAbs := by
        have h3 := valN_ge (D.drop (j + 1)) (valN 0 (D.take (j + 1)))
        rw [← valN_app, List.take_append_drop, hval] at h3; exact h3
      have q1 : IntKind.u64.wrap ((valN 0 (D.take j) : Int) * 10) = ((valN 0 (D.take j) * 10 : Nat) : Int) := by simp only [IntKind.wrap_u64]; omega
      have q2 : IntKind.u8.wrap ((c.toNat : Int) - 48) = ((c.toNat - 48 : Nat) : Int) := by rw [wrap_u8 (by omega) (by omega)]; omega
      have q3 : IntKind.u64.wrap ((c.toNat - 48 : Nat) : Int) = ((c.toNat - 48 : Nat) : Int) := wrap_u64 (by omega) (by omega)
      have q4 : IntKind.u64.wrap (((valN 0 (D.take j) * 10 : Nat) : Int) + ((c.toNat - 48 : Nat) : Int)) = (valN 0 (D.take (j + 1)) : Int) := by rw [hv1] at hv2 ⊢; simp only [IntKind.wrap_u64]; omega
      repeat' (first | (apply G_on; exact rfl; first | ((first | apply G1_assign | apply G1_move); exact rfl; exact rfl) | (apply G1_sindexJ (q := 0 + j); exact T.str9; exact rfl; exact rfl; exact rfl; omega; exact rfl; rw [hbc]) | (apply G1_mulE (k := .u64) (r := ((valN 0 (D.take j) * 10 : Nat) : Int)); exact rfl; exact rfl; exact q1; exact rfl) | (apply G1_addE (k := .u64) (r := (valN 0 (D.take (j + 1)) : Int)); exact rfl; exact rfl; exact q4; exact rfl) | (apply G1_convE (j := ((c.toNat - 48 : Nat) : Int)); exact rfl; exact T.i5; exact T.i151; exact q3; exact rfl) | (refine G1_subw (k := .u8) rfl rfl rfl ?_; rw [q2]) | (apply G1_slen; exact T.str9; exact rfl; exact rfl) | ((first | apply G1_gtr | apply G1_lss); exact rfl; exact rfl; exact rfl) | (apply G1_pick_f; exact rfl; exact rfl; exact rfl) | (apply G1_add; exact rfl; exact rfl; omega; omega; exact rfl)) | apply G_nil | apply Post_next | apply W_seq | apply W_region | (apply W_cond_dec; exact rfl; all_goals (intro h; try (exfalso; omega))) | ((fail_if_success (apply G_on; exact rfl)); apply G_split_dec; exact rfl; exact rfl; all_goals (intro h; try (exfalso; omega))) | apply W_skip | apply W_block | apply Post_block_normal)
      all_goals exact Post_round (j + 1) ⟨rfl, rfl, rfl, rfl, trivial⟩ ⟨(by repeat first | assumption | exact Ext.rfl' | apply Ext.drew | apply Ext.alloc | refine Ext.trans ?_ (by assumption)), by omega⟩ (by omega)
    · have hjD : D.take j = D := List.take_of_length_le (by omega)
      rw [hjD, hval]
      repeat' (first | (apply G_on; exact rfl; first | ((first | apply G1_assign | apply G1_move); exact rfl; exact rfl) | (apply G1_convE (j := m); exact rfl; exact T.i151; exact T.i3; (first | exact hz1 | exact hz2); exact rfl) | (apply G1_call (f := 83); exact rfl; exact rfl; exact rfl; exact rprint_spec hf; rintro _ w3 ⟨rfl, hx3⟩; refine ⟨(by first | exact .inl rfl | exact .inr (by assumption)), ?_⟩) | (apply G1_slen; exact T.str9; exact rfl; exact rfl) | ((first | apply G1_eql | apply G1_lss | apply G1_sneq); exact rfl; exact rfl; exact rfl)) | apply G_nil | apply Post_next | apply W_seq | apply W_region | (apply W_cond_false; exact rfl) | (apply W_cond_dec; exact rfl; all_goals (intro h; try (exfalso; omega))) | apply W_skip | apply W_exit | apply W_ret | apply Post_then_ret | apply Post_then_exit | apply Post_block_exit)
      all_goals try contradiction
      all_goals
        refine Post_ret Tryz.results48 ⟨_, _, rfl, rfl, _, _, rfl, rfl, rfl⟩ ?_
        exact ⟨rfl, (by repeat first | assumption | exact Ext.rfl' | apply Ext.drew | apply Ext.alloc | refine Ext.trans ?_ (by assumption))⟩
end Go.Proofs.YtipbakiecocioaaGreatDoor

/- Replies in memory where some blocks are not looked at. -/
namespace Go.V
/-- an object of which no part is a string's -/
def plainO : Obj → Bool
  | .cells _ _ (0, 0) => true
  | _ => false
open Classical in
/-- the memory without the blocks of S, and without those that a string may share -/
noncomputable def veil (S : Nat → Prop) (H : Array Obj) : Array Obj := H.mapIdx (fun q o => if S q ∨ plainO o = false then .cells #[] 0 (0, 0) else o)
theorem hcell_veil {S : Nat → Prop} {H : Array Obj} {a : Addr} {v : Value} : hcell (veil S H) a = some v ↔ ¬ S a.block ∧ (∃ o, H[a.block]? = some o ∧ plainO o = true) ∧ hcell H a = some v := by
  unfold hcell veil
  rw [Array.getElem?_mapIdx]
  cases h : H[a.block]? with
  | none => simp
  | some o =>
    simp only [Option.map_some]
    by_cases hs : S a.block ∨ plainO o = false
    · rw [if_pos hs]
      rcases hs with hs | hs
      · simp [hs]
      · simp [hs]
    · rw [if_neg hs]
      have h1 : ¬ S a.block := fun h => hs (.inl h)
      have h2 : plainO o = true := by
        cases e : plainO o with
        | true => rfl
        | false => exact absurd (.inr e) hs
      simp [h1, h2]
theorem Sl.cells {α : Type} {e : Enc α} {H H' : Array Obj} {p : Option Addr} {c : Nat} {xs : List α} (h : ∀ a v, hcell H a = some v → hcell H' a = some v) (hs : Sl H e p c xs) : Sl H' e p c xs :=
  ⟨hs.ok, fun i x hi k v hv => h _ _ (hs.cell i x hi k v hv)⟩
theorem RepAt.cells {H H' : Array Obj} (h : ∀ a v, hcell H a = some v → hcell H' a = some v) : ∀ {d : Nat} {r : RawR} {t : Rep}, RepAt H d r t → RepAt H' d r t
  | 0, _, _, h0 => h0
  | d + 1, r, t, ⟨h1, h2, h3, h4, h5, h6, rs, hs, hl, hg⟩ => ⟨h1, h2, h3, h4, h5, h6, rs, hs.cells h, hl, fun i r' t' hr ht => RepAt.cells h (hg i r' t' hr ht)⟩
theorem RepAt.shown {S : Nat → Prop} {H : Array Obj} {d : Nat} {r : RawR} {t : Rep} (h : RepAt (veil S H) d r t) : RepAt H d r t :=
  h.cells fun _ _ hv => (hcell_veil.1 hv).2.2
theorem RepAt.hide {S S' : Nat → Prop} {H H' : Array Obj} {d : Nat} {r : RawR} {t : Rep} (h : RepAt (veil S H) d r t) (hh : ∀ q, ¬ S q → q < H.size → ¬ S' q ∧ H'[q]? = H[q]?) : RepAt (veil S' H') d r t :=
  h.cells fun a v hv => by
    obtain ⟨h1, hp, h2⟩ := hcell_veil.1 hv
    obtain ⟨h3, h4⟩ := hh a.block h1 (hcell_lt h2)
    exact hcell_veil.2 ⟨h3, by rw [h4]; exact hp, by rw [hcell_block h4]; exact h2⟩
theorem Own.hidden {α : Type} {e : Enc α} {w : World} {B T : Nat} {p : Option Addr} {c : Nat} {xs : List α} {S : Nat → Prop} (ho : Own w B T e p c xs) (hb : ∀ q, blk p = some q → ¬ S q) : Sl (veil S w.heap) e p c xs := by
  have h := ho.sl
  refine ⟨h.ok, fun i x hi k v hv => ?_⟩
  cases hp : p with
  | none =>
    have h1 := h.ok.nul hp
    have h2 := h.ok.le
    have h3 := get_lt hi
    omega
  | some a =>
    have hk : blk p = some a.block := by rw [hp]; rfl
    obtain ⟨cur, hc⟩ := ho.at hk
    rw [← hp]
    refine hcell_veil.2 ⟨?_, ⟨.cells cur T (0, 0), ?_, rfl⟩, h.cell i x hi k v hv⟩
    · rw [adr_block p a _ hp]; exact hb _ hk
    · rw [adr_block p a _ hp]; exact hc
theorem ExtS.own {S : List Nat} {w w1 w2 : World} {row : Option Nat} (h1 : ExtS S w w1) (h2 : w1.grownBy w2 row) (hr : ∀ k, row = some k → w.heap.size ≤ k) : ExtS S w w2 :=
  ⟨h2.os.trans h1.os, h2.tape.trans h1.tape, h2.output.trans h1.output, Nat.le_trans h1.size h2.size, fun k hk hs => (h2.block k (Nat.lt_of_lt_of_le hk h1.size) (fun e => by have := hr k e.symm; omega)).trans (h1.block k hk hs)⟩
theorem ExtS.grown1 {a : Nat} {w w' : World} (h : ExtS [a] w w') : w.grownBy w' (some a) :=
  ⟨h.os, h.tape, h.output, h.size, fun k hk hne => h.block k hk (by
    have : k ≠ a := fun e => hne (by rw [e])
    simp [exempt, this])⟩
end Go.V

/- The constructors of replies; List, of replies without lists. -/
namespace Go.V
def leafR (k : Int) (s : ByteArray) (n : Int) : RawR := ⟨k, s, n, none, 0, 0⟩
def clrR (r : RawR) : RawR := ⟨r.kind, r.s, r.n, none, 0, 0⟩
/-- a level of List's, its trail being empty -/
def eLev : Enc (Option Addr × Nat × Nat) := ⟨5, fun r => [.slice r.1 r.2.1 r.2.2, .int .i64 0, .int .i64 0, .slice none 0 0, .slice none 0 0], fun _ => rfl, fun _ v hv => by simp at hv; rcases hv with rfl | rfl | rfl | rfl | rfl <;> rfl, by decide⟩
end Go.V
namespace Go.Proofs.YtipbakiecocioaaGreatDoor
open Go.V
attribute [local irreducible] Blk Own hcell IntT SliceT PlainT AggT SizeT StrT FieldT ZeroT EqT ArrT
theorem bldKS (k : Int) (s : ByteArray) (w : World) : (Instr.build 31 [(0, Value.int .i64 k), (1, Value.string s)].toArray).run Tryz.prog w = .ok (.agg (eRep.enc (leafR k s 0)).toArray) w := by kernel_rfl
theorem bldKN (k : Int) (n : Int) (w : World) : (Instr.build 31 [(0, Value.int .i64 k), (2, Value.int .i64 n)].toArray).run Tryz.prog w = .ok (.agg (eRep.enc (leafR k ⟨#[]⟩ n)).toArray) w := by kernel_rfl
theorem bldK (k : Int) (w : World) : (Instr.build 31 [(0, Value.int .i64 k)].toArray).run Tryz.prog w = .ok (.agg (eRep.enc (leafR k ⟨#[]⟩ 0)).toArray) w := by kernel_rfl
theorem bldKL (k : Int) (p : Option Addr) (l c : Nat) (w : World) : (Instr.build 31 [(0, Value.int .i64 k), (3, Value.slice p l c)].toArray).run Tryz.prog w = .ok (.agg (eRep.enc ⟨k, ⟨#[]⟩, 0, p, l, c⟩).toArray) w := by kernel_rfl


theorem mk_text {s : ByteArray} {w : World} : Ctr Tryz.prog 42 [.string s] w (fun v w' => v = .agg (eRep.enc (leafR 0 s 0)).toArray ∧ Ext w w') := by
  refine Ctr_of Tryz.func42 Tryz.ntmps42 rfl rfl rfl ?_
  repeat' (first | apply W_seq | apply W_region)
  apply G_on; exact rfl; apply G1_alloc; exact T.zero31; exact rfl; exact rfl; intro a1 w1 ha1 hA1 hx1 hs1
  repeat' (first | (apply G_on; exact rfl; first | (apply G1_move; exact rfl; exact rfl) | (apply G1_build (.agg (eRep.enc (leafR 0 s 0)).toArray); exact rfl; exact bldKS _ _; exact rfl)) | apply G_nil | apply Post_next | apply W_seq | apply W_region)
  apply G_on; exact rfl; apply G1_storeB; exact T.z31; exact rfl; exact rfl; exact hA1; exact rfl; exact rfl; (first | exact Nat.le_of_ble_eq_true rfl | (focus (simp [Value.cells]; done))); (first | exact Enc.one _ _ | (focus (simp [Value.oneCell']; done)) | (focus (simp [Value.cells, Value.oneCell']; done)) | exact Enc.oneAgg _ _); exact rfl; (first | exact .inl rfl | exact .inr (by simp [exempt])); exact rfl; intro w2 hA2 hg2 hs2
  replace hA2 : Blk w2.heap a1 31 (eRep.enc (leafR 0 s 0)) := hA2
  have hx2 : Ext w w2 := hx1.own hg2 (fun k hk => by injection hk; omega)
  repeat' (first | apply G_nil | apply Post_next | apply W_ret)
  refine Post_ret Tryz.results42 ⟨_, _, _, rfl, rfl, run_loadVar_box T.a31 (by assumption) rfl, rfl⟩ ?_
  exact ⟨rfl, (by repeat first | assumption | exact Ext.rfl' | apply Ext.drew | apply Ext.alloc | refine Ext.trans ?_ (by assumption))⟩
theorem mk_wrong {s : ByteArray} {w : World} : Ctr Tryz.prog 43 [.string s] w (fun v w' => v = .agg (eRep.enc (leafR 1 s 0)).toArray ∧ Ext w w') := by
  refine Ctr_of Tryz.func43 Tryz.ntmps43 rfl rfl rfl ?_
  repeat' (first | apply W_seq | apply W_region)
  apply G_on; exact rfl; apply G1_alloc; exact T.zero31; exact rfl; exact rfl; intro a1 w1 ha1 hA1 hx1 hs1
  repeat' (first | (apply G_on; exact rfl; first | (apply G1_move; exact rfl; exact rfl) | (apply G1_build (.agg (eRep.enc (leafR 1 s 0)).toArray); exact rfl; exact bldKS _ _; exact rfl)) | apply G_nil | apply Post_next | apply W_seq | apply W_region)
  apply G_on; exact rfl; apply G1_storeB; exact T.z31; exact rfl; exact rfl; exact hA1; exact rfl; exact rfl; (first | exact Nat.le_of_ble_eq_true rfl | (focus (simp [Value.cells]; done))); (first | exact Enc.one _ _ | (focus (simp [Value.oneCell']; done)) | (focus (simp [Value.cells, Value.oneCell']; done)) | exact Enc.oneAgg _ _); exact rfl; (first | exact .inl rfl | exact .inr (by simp [exempt])); exact rfl; intro w2 hA2 hg2 hs2
  replace hA2 : Blk w2.heap a1 31 (eRep.enc (leafR 1 s 0)) := hA2
  have hx2 : Ext w w2 := hx1.own hg2 (fun k hk => by injection hk; omega)
  repeat' (first | apply G_nil | apply Post_next | apply W_ret)
  refine Post_ret Tryz.results43 ⟨_, _, _, rfl, rfl, run_loadVar_box T.a31 (by assumption) rfl, rfl⟩ ?_
  exact ⟨rfl, (by repeat first | assumption | exact Ext.rfl' | apply Ext.drew | apply Ext.alloc | refine Ext.trans ?_ (by assumption))⟩
theorem mk_int {n : Int} {w : World} : Ctr Tryz.prog 45 [.int .i64 n] w (fun v w' => v = .agg (eRep.enc (leafR 2 ⟨#[]⟩ n)).toArray ∧ Ext w w') := by
  refine Ctr_of Tryz.func45 Tryz.ntmps45 rfl rfl rfl ?_
  repeat' (first | apply W_seq | apply W_region)
  apply G_on; exact rfl; apply G1_alloc; exact T.zero31; exact rfl; exact rfl; intro a1 w1 ha1 hA1 hx1 hs1
  repeat' (first | (apply G_on; exact rfl; first | (apply G1_move; exact rfl; exact rfl) | (apply G1_build (.agg (eRep.enc (leafR 2 ⟨#[]⟩ n)).toArray); exact rfl; exact bldKN _ _; exact rfl)) | apply G_nil | apply Post_next | apply W_seq | apply W_region)
  apply G_on; exact rfl; apply G1_storeB; exact T.z31; exact rfl; exact rfl; exact hA1; exact rfl; exact rfl; (first | exact Nat.le_of_ble_eq_true rfl | (focus (simp [Value.cells]; done))); (first | exact Enc.one _ _ | (focus (simp [Value.oneCell']; done)) | (focus (simp [Value.cells, Value.oneCell']; done)) | exact Enc.oneAgg _ _); exact rfl; (first | exact .inl rfl | exact .inr (by simp [exempt])); exact rfl; intro w2 hA2 hg2 hs2
  replace hA2 : Blk w2.heap a1 31 (eRep.enc (leafR 2 ⟨#[]⟩ n)) := hA2
  have hx2 : Ext w w2 := hx1.own hg2 (fun k hk => by injection hk; omega)
  repeat' (first | apply G_nil | apply Post_next | apply W_ret)
  refine Post_ret Tryz.results45 ⟨_, _, _, rfl, rfl, run_loadVar_box T.a31 (by assumption) rfl, rfl⟩ ?_
  exact ⟨rfl, (by repeat first | assumption | exact Ext.rfl' | apply Ext.drew | apply Ext.alloc | refine Ext.trans ?_ (by assumption))⟩
theorem mk_str {s : ByteArray} {w : World} : Ctr Tryz.prog 47 [.string s] w (fun v w' => v = .agg (eRep.enc (leafR 3 s 0)).toArray ∧ Ext w w') := by
  refine Ctr_of Tryz.func47 Tryz.ntmps47 rfl rfl rfl ?_
  repeat' (first | apply W_seq | apply W_region)
  apply G_on; exact rfl; apply G1_alloc; exact T.zero31; exact rfl; exact rfl; intro a1 w1 ha1 hA1 hx1 hs1
  repeat' (first | (apply G_on; exact rfl; first | (apply G1_move; exact rfl; exact rfl) | (apply G1_build (.agg (eRep.enc (leafR 3 s 0)).toArray); exact rfl; exact bldKS _ _; exact rfl)) | apply G_nil | apply Post_next | apply W_seq | apply W_region)
  apply G_on; exact rfl; apply G1_storeB; exact T.z31; exact rfl; exact rfl; exact hA1; exact rfl; exact rfl; (first | exact Nat.le_of_ble_eq_true rfl | (focus (simp [Value.cells]; done))); (first | exact Enc.one _ _ | (focus (simp [Value.oneCell']; done)) | (focus (simp [Value.cells, Value.oneCell']; done)) | exact Enc.oneAgg _ _); exact rfl; (first | exact .inl rfl | exact .inr (by simp [exempt])); exact rfl; intro w2 hA2 hg2 hs2
  replace hA2 : Blk w2.heap a1 31 (eRep.enc (leafR 3 s 0)) := hA2
  have hx2 : Ext w w2 := hx1.own hg2 (fun k hk => by injection hk; omega)
  repeat' (first | apply G_nil | apply Post_next | apply W_ret)
  refine Post_ret Tryz.results47 ⟨_, _, _, rfl, rfl, run_loadVar_box T.a31 (by assumption) rfl, rfl⟩ ?_
  exact ⟨rfl, (by repeat first | assumption | exact Ext.rfl' | apply Ext.drew | apply Ext.alloc | refine Ext.trans ?_ (by assumption))⟩
theorem mk_none {w : World} : Ctr Tryz.prog 46 [] w (fun v w' => v = .agg (eRep.enc (leafR 4 ⟨#[]⟩ 0)).toArray ∧ Ext w w') := by
  refine Ctr_of Tryz.func46 Tryz.ntmps46 rfl rfl rfl ?_
  repeat' (first | apply W_seq | apply W_region)
  apply G_on; exact rfl; apply G1_alloc; exact T.zero31; exact rfl; exact rfl; intro a1 w1 ha1 hA1 hx1 hs1
  repeat' (first | (apply G_on; exact rfl; (apply G1_build (.agg (eRep.enc (leafR 4 ⟨#[]⟩ 0)).toArray); exact rfl; exact bldK _; exact rfl)) | apply G_nil | apply Post_next | apply W_seq | apply W_region)
  apply G_on; exact rfl; apply G1_storeB; exact T.z31; exact rfl; exact rfl; exact hA1; exact rfl; exact rfl; (first | exact Nat.le_of_ble_eq_true rfl | (focus (simp [Value.cells]; done))); (first | exact Enc.one _ _ | (focus (simp [Value.oneCell']; done)) | (focus (simp [Value.cells, Value.oneCell']; done)) | exact Enc.oneAgg _ _); exact rfl; (first | exact .inl rfl | exact .inr (by simp [exempt])); exact rfl; intro w2 hA2 hg2 hs2
  replace hA2 : Blk w2.heap a1 31 (eRep.enc (leafR 4 ⟨#[]⟩ 0)) := hA2
  have hx2 : Ext w w2 := hx1.own hg2 (fun k hk => by injection hk; omega)
  repeat' (first | apply G_nil | apply Post_next | apply W_ret)
  refine Post_ret Tryz.results46 ⟨_, _, _, rfl, rfl, run_loadVar_box T.a31 (by assumption) rfl, rfl⟩ ?_
  exact ⟨rfl, (by repeat first | assumption | exact Ext.rfl' | apply Ext.drew | apply Ext.alloc | refine Ext.trans ?_ (by assumption))⟩



end Go.Proofs.YtipbakiecocioaaGreatDoor

/- The document's Size, Right, Same of replies: the walks. -/
namespace Go.V
theorem sizeT_le : ∀ (d : Nat) (t : Rep), 0 ≤ sizeT d t ∧ sizeT d t ≤ 100000 * (d + 1)
  | 0, t => by simp [sizeT]
  | d + 1, t => by
    have key : ∀ (l : List Rep) (n : Int), 0 ≤ n → n ≤ 100000 * (d + 2) → 0 ≤ sizeL (sizeT d) l n ∧ sizeL (sizeT d) l n ≤ 100000 * (d + 2) := by
      intro l
      induction l with
      | nil => intro n h1 h2; exact ⟨h1, h2⟩
      | cons x l ih =>
        intro n h1 h2
        unfold sizeL
        split
        · have := sizeT_le d x
          exact ih _ (by omega) (by omega)
        · exact ⟨h1, h2⟩
    unfold sizeT
    split
    · constructor
      · omega
      · have : (0 : Int) ≤ (d : Int) := by omega
        push_cast; omega
    · have := key t.l 1 (by omega) (by omega)
      push_cast
      constructor
      · exact this.1
      · have := this.2; omega
theorem sizeL_stop (f : Rep → Int) (l : List Rep) (n : Int) (h : ¬ n < 100000) : sizeL f l n = n := by
  cases l with
  | nil => rfl
  | cons x l => unfold sizeL; rw [if_neg h]
theorem sizeL_cons (f : Rep → Int) (x : Rep) (l : List Rep) (n : Int) (h : n < 100000) : sizeL f (x :: l) n = sizeL f l (n + f x) := by
  conv => lhs; unfold sizeL
  rw [if_pos h]
theorem dropc {α : Type} {xs : List α} {k : Nat} {x : α} (h : xs[k]? = some x) : xs.drop k = x :: xs.drop (k + 1) := by
  rw [List.drop_eq_getElem_cons (get_lt h)]
  rw [List.getElem?_eq_getElem (get_lt h)] at h
  injection h with h
  rw [h]
end Go.V
namespace Go.Proofs.YtipbakiecocioaaGreatDoor
open Go.V
attribute [local irreducible] Blk Own hcell IntT SliceT PlainT AggT SizeT StrT FieldT ZeroT EqT ArrT

/-- what Right looks at first -/
structure Head (t : Rep) : Prop where
  lo : 0 ≤ t.kind
  hi : t.kind ≤ 5
  list : t.kind ≠ 5 → t.l.length = 0
  num : t.kind ≠ 2 → t.n = 0
  text : t.kind ≠ 0 → t.kind ≠ 1 → t.kind ≠ 3 → t.s = ⟨#[]⟩
theorem leaf_iff {t : Rep} : leafOk t = true ↔ Head t ∧ (t.kind < 2 → nobr t.s = true) := by
  unfold leafOk
  simp only [Bool.and_eq_true, Bool.or_eq_true, decide_eq_true_eq, List.isEmpty_iff]
  constructor
  · rintro ⟨⟨⟨⟨⟨h1, h2⟩, h3⟩, h4⟩, h5⟩, h6⟩
    refine ⟨⟨h1, h2, fun e => by rw [h3.resolve_left e]; rfl, fun e => h4.resolve_left e, fun e1 e2 e3 => ?_⟩, fun e => h6.resolve_left (by omega)⟩
    rcases h5 with ((h5 | h5) | h5) | h5
    · exact absurd h5 e1
    · exact absurd h5 e2
    · exact absurd h5 e3
    · exact h5
  · rintro ⟨⟨h1, h2, h3, h4, h5⟩, h6⟩
    refine ⟨⟨⟨⟨⟨h1, h2⟩, ?_⟩, ?_⟩, ?_⟩, ?_⟩
    · by_cases e : t.kind = 5
      · exact .inl e
      · exact .inr (List.eq_nil_of_length_eq_zero (h3 e))
    · by_cases e : t.kind = 2
      · exact .inl e
      · exact .inr (h4 e)
    · by_cases e : t.kind = 0 ∨ t.kind = 1 ∨ t.kind = 3
      · rcases e with e | e | e
        · exact .inl (.inl (.inl e))
        · exact .inl (.inl (.inr e))
        · exact .inl (.inr e)
      · exact .inr (h5 (by omega) (by omega) (by omega))
    · by_cases e : t.kind < 2
      · exact .inr (h6 e)
      · exact .inl (by omega)
theorem right_zero (t : Rep) : rightT 0 t = (leafOk t && decide (t.kind ≠ 5)) := rfl
theorem right_succ (d : Nat) (t : Rep) : rightT (d + 1) t = (leafOk t && t.l.all (rightT d)) := rfl
theorem right_no {d : Nat} {t : Rep} (h : leafOk t = false) : rightT d t = false := by
  cases d <;> simp [rightT, h]

theorem leaf_no {t : Rep} (h : ¬ Head t) : leafOk t = false := by
  cases e : leafOk t with
  | false => rfl
  | true => exact absurd (leaf_iff.1 e).1 h


theorem right_spec : ∀ (d e : Nat) {r : RawR} {t : Rep} {w : World}, d ≤ 20 → RepAt w.heap e r t →
    Ctr Tryz.prog 49 [.agg (eRep.enc r).toArray, .int .i64 (d : Int)] w (fun v w' => v = .bool (rightT d t) ∧ Ext w w') := by
  intro d
  induction d with
  | zero =>
    intro e r t w _ hr
    obtain ⟨e, rs, rfl, hk, hs, hn, hl, hsz, hfit, hL⟩ := hr.open
    have n1 := hL.sl.bound
    have hlen := hL.len
    simp only [maxLen] at hsz
    refine Ctr_of Tryz.func49 Tryz.ntmps49 rfl rfl rfl ?_
    repeat' (first | apply W_seq | apply W_region)
    apply G_on; exact rfl; apply G1_box; exact rfl; exact rfl; exact rfl; intro a1 w1 ha1 hA1 hx1 hs1
    replace hA1 : Blk w1.heap a1 31 [.int .i64 r.kind, .string r.s, .int .i64 r.n, .slice r.p r.len r.cap] := hA1
    rw [hk, hs, hn, hl] at hA1
    rcases Classical.em (Head t) with hh | hh
    rotate_left
    · repeat' (first | (refine W_cutR (id := 1) [(1, .int .i64 (0 : Int)), (2, .pointer (some (adr (bx a1) 0))), (55, .bool true)] (fun w' => w' = w1) ?_ ?_) | (refine Post_cut ⟨rfl, rfl, rfl, trivial⟩ rfl) | (apply G_on; exact rfl; first | ((first | apply G1_assign | apply G1_move); exact rfl; exact rfl) | (apply G1_fieldAddr; (first | exact T.f31_0 | exact T.f31_3 | exact T.f31_2 | exact T.f31_1); exact rfl; exact rfl) | (apply G1_loadB; (first | exact T.p3 | exact T.p26 | exact T.p9); exact rfl; assumption; exact rfl; exact rfl) | ((first | apply G1_lss | apply G1_gtr); exact rfl; exact rfl; exact rfl) | (apply G1_pick_t; exact rfl; exact rfl; exact rfl) | (apply G1_pick_f; exact rfl; exact rfl; exact rfl) | (apply G1_neq; exact rfl; exact rfl; exact rfl) | (apply G1_len; exact T.s26; exact rfl; exact rfl) | (apply G1_sneq; exact rfl; exact rfl; exact rfl)) | apply G_nil | apply Post_next | apply W_seq | apply W_region | (apply G_off; exact rfl; exact rfl) | ((fail_if_success (apply G_on; exact rfl)); apply G_split_dec; exact rfl; exact rfl; all_goals (intro h; try (exfalso; omega))))
      all_goals try first
        | exact absurd (⟨by omega, by omega, by intro _; omega, by intro _; omega, by intro _ _ _; omega⟩ : Head t) hh
        | (refine Post_cut ⟨rfl, rfl, ?_, trivial⟩ rfl
           show some (Value.bool (decide _)) = _
           have hns : ¬ t.s = ⟨#[]⟩ := fun he => hh ⟨by omega, by omega, by intro _; omega, by intro _; omega, fun _ _ _ => he⟩
           rw [decide_eq_true hns])
      intro w' e'; rw [e']; clear e' w'
      repeat' (first | (apply G_on; exact rfl; (apply G1_assign; exact rfl; exact rfl)) | apply G_nil | apply Post_next | apply W_seq | apply W_region | (apply W_cond_true; exact rfl) | apply W_ret | apply Post_then_ret)
      refine Post_ret Tryz.results49 ⟨_, _, rfl, rfl, rfl⟩ ?_
      exact ⟨by rw [right_no (leaf_no hh)]; rfl, (by repeat first | assumption | exact Ext.rfl' | apply Ext.drew | apply Ext.alloc | refine Ext.trans ?_ (by assumption))⟩
    have h1 := hh.lo
    have h2 := hh.hi
    have h3 := hh.list
    have h4 := hh.num
    repeat' (first | (refine W_cutR (id := 1) [(1, .int .i64 (0 : Int)), (2, .pointer (some (adr (bx a1) 0))), (55, .bool false)] (fun w' => w' = w1) ?_ ?_) | (refine Post_cut ⟨rfl, rfl, rfl, trivial⟩ rfl) | (apply G_on; exact rfl; first | ((first | apply G1_assign | apply G1_move); exact rfl; exact rfl) | (apply G1_fieldAddr; (first | exact T.f31_0 | exact T.f31_3 | exact T.f31_2 | exact T.f31_1); exact rfl; exact rfl) | (apply G1_loadB; (first | exact T.p3 | exact T.p26 | exact T.p9); exact rfl; assumption; exact rfl; exact rfl) | ((first | apply G1_lss | apply G1_gtr); exact rfl; exact rfl; exact rfl) | (apply G1_pick_t; exact rfl; exact rfl; exact rfl) | (apply G1_pick_f; exact rfl; exact rfl; exact rfl) | (apply G1_neq; exact rfl; exact rfl; exact rfl) | (apply G1_len; exact T.s26; exact rfl; exact rfl) | (apply G1_sneq; exact rfl; exact rfl; exact rfl)) | apply G_nil | apply Post_next | apply W_seq | apply W_region | (apply G_off; exact rfl; exact rfl) | ((fail_if_success (apply G_on; exact rfl)); apply G_split_dec; exact rfl; exact rfl; all_goals (intro h; try (exfalso; omega))))
    all_goals try
      refine Post_cut ⟨rfl, rfl, ?_, trivial⟩ rfl
      show some (Value.bool (decide _)) = _
      rw [decide_eq_false (fun h => h (hh.text (by omega) (by omega) (by omega)))]
    intro w' e'; rw [e']; clear e' w'
    repeat' (first | (apply G_on; exact rfl; (apply G1_assign; exact rfl; exact rfl)) | apply G_nil | apply Post_next | apply W_seq | apply W_region | (apply W_cond_false; exact rfl) | apply W_skip | apply W_block)
    refine W_loop (ι := Nat) (fun k => [(1, .int .i64 (0 : Int)), (2, .pointer (some (adr (bx a1) 0))), (5, .int .i64 (k : Int))])
      (fun k w' => Ext w w' ∧ Blk w'.heap a1 31 [.int .i64 t.kind, .string t.s, .int .i64 t.n, .slice r.p rs.length r.cap] ∧ k ≤ t.s.size ∧ (t.kind < 2 → ∀ j, j < k → bget t.s j ≠ 13 ∧ bget t.s j ≠ 10)) (fun k => t.s.size - k) 0 ⟨rfl, rfl, rfl, trivial⟩ ⟨hx1, hA1, Nat.zero_le _, fun _ j hj => by omega⟩ ?_
    rintro k w2 ⟨hx2, hA2, hk2, hb⟩
    rcases Classical.em (t.kind < 2 ∧ k < t.s.size) with hk3 | hk3
    · by_cases hbad : bget t.s k = 13 ∨ bget t.s k = 10
      · have hno : leafOk t = false := by
          cases e : leafOk t with
          | false => rfl
          | true =>
            have := (nobr_iff t.s).1 ((leaf_iff.1 e).2 hk3.1) k hk3.2
            rcases hbad with hb | hb
            · exact absurd hb this.1
            · exact absurd hb this.2
        have hbn : ((bget t.s ((k : Int).toNat)).toNat : Int) = 13 ∨ ((bget t.s ((k : Int).toNat)).toNat : Int) = 10 := by
          rw [Int.toNat_natCast]
          rcases hbad with hb | hb <;> rw [hb] <;> simp
        repeat' (first | (apply G_on; exact rfl; first | ((first | apply G1_assign | apply G1_move); exact rfl; exact rfl) | (apply G1_fieldAddr; (first | exact T.f31_0 | exact T.f31_1); exact rfl; exact rfl) | (apply G1_loadB; (first | exact T.p3 | exact T.p9); exact rfl; assumption; exact rfl; exact rfl) | ((first | apply G1_lss | apply G1_eql); exact rfl; exact rfl; exact rfl) | (apply G1_pick_t; exact rfl; exact rfl; exact rfl) | (apply G1_pick_f; exact rfl; exact rfl; exact rfl) | (apply G1_slen; exact T.str9; exact rfl; exact rfl) | (apply G1_sindex; exact T.str9; exact rfl; exact rfl; omega; omega; exact rfl)) | apply G_nil | apply Post_next | apply W_seq | apply W_region | (apply W_cond_true; exact rfl) | (apply W_cond_dec; exact rfl; all_goals (intro h; try (exfalso; omega))) | (apply G_off; exact rfl; exact rfl) | ((fail_if_success (apply G_on; exact rfl)); apply G_split_dec; exact rfl; exact rfl; all_goals (intro h; try (exfalso; omega))) | apply W_skip | apply W_ret | apply W_block | apply Post_then_ret | apply Post_block_ret)
        all_goals
          refine Post_ret Tryz.results49 ⟨_, _, rfl, rfl, rfl⟩ ?_
          exact ⟨by rw [right_no hno]; rfl, (by repeat first | assumption | exact Ext.rfl' | apply Ext.drew | apply Ext.alloc | refine Ext.trans ?_ (by assumption))⟩
      · have hbn : ¬ ((bget t.s ((k : Int).toNat)).toNat : Int) = 13 ∧ ¬ ((bget t.s ((k : Int).toNat)).toNat : Int) = 10 := by
          rw [Int.toNat_natCast]
          constructor
          · intro e; exact hbad (.inl (UInt8.toNat_inj.1 (by show (bget t.s k).toNat = 13; omega)))
          · intro e; exact hbad (.inr (UInt8.toNat_inj.1 (by show (bget t.s k).toNat = 10; omega)))
        repeat' (first | (apply G_on; exact rfl; first | ((first | apply G1_assign | apply G1_move); exact rfl; exact rfl) | (apply G1_fieldAddr; (first | exact T.f31_0 | exact T.f31_1); exact rfl; exact rfl) | (apply G1_loadB; (first | exact T.p3 | exact T.p9); exact rfl; assumption; exact rfl; exact rfl) | ((first | apply G1_lss | apply G1_eql); exact rfl; exact rfl; exact rfl) | (apply G1_pick_t; exact rfl; exact rfl; exact rfl) | (apply G1_pick_f; exact rfl; exact rfl; exact rfl) | (apply G1_slen; exact T.str9; exact rfl; exact rfl) | (apply G1_sindex; exact T.str9; exact rfl; exact rfl; omega; omega; exact rfl) | (apply G1_add; exact rfl; exact rfl; omega; omega; exact rfl)) | apply G_nil | apply Post_next | apply W_seq | apply W_region | (apply W_cond_dec; exact rfl; all_goals (intro h; try (exfalso; omega))) | ((fail_if_success (apply G_on; exact rfl)); apply G_split_dec; exact rfl; exact rfl; all_goals (intro h; try (exfalso; omega))) | apply W_skip | apply W_block | apply Post_block_normal)
        refine Post_round (k + 1) ⟨rfl, rfl, rfl, trivial⟩ ⟨(by repeat first | assumption | exact Ext.rfl' | apply Ext.drew | apply Ext.alloc | refine Ext.trans ?_ (by assumption)), hA2, by omega, fun hk j hj => ?_⟩ (by omega)
        by_cases e : j = k
        · subst e; exact ⟨fun e => hbad (.inl e), fun e => hbad (.inr e)⟩
        · exact hb hk j (by omega)
    have hleaf : leafOk t = true := leaf_iff.2 ⟨hh, fun hk => (nobr_iff t.s).2 (fun j hj => hb hk j (by omega))⟩
    have hL2 := hL.ext hx2
    have hsl := hL2.sl
    repeat' (first | (refine W_cutR (id := 4) [(1, .int .i64 (0 : Int)), (2, .pointer (some (adr (bx a1) 0))), (65, .bool false)] (fun w' => w' = w2) ?_ ?_) | (apply G_on; exact rfl; first | (apply G1_move; exact rfl; exact rfl) | (apply G1_fieldAddr; (first | exact T.f31_0 | exact T.f31_1); exact rfl; exact rfl) | (apply G1_loadB; (first | exact T.p3 | exact T.p9); exact rfl; assumption; exact rfl; exact rfl) | (apply G1_lss; exact rfl; exact rfl; exact rfl) | (apply G1_pick_t; exact rfl; exact rfl; exact rfl) | (apply G1_pick_f; exact rfl; exact rfl; exact rfl) | (apply G1_slen; exact T.str9; exact rfl; exact rfl)) | apply G_nil | apply W_seq | apply W_region | (refine Post_cut ⟨rfl, rfl, rfl, trivial⟩ rfl) | (apply G_off; exact rfl; exact rfl) | ((fail_if_success (apply G_on; exact rfl)); apply G_split_dec; exact rfl; exact rfl; all_goals (intro h; try (exfalso; omega))))
    all_goals try
      refine Post_cut ⟨rfl, rfl, ?_, trivial⟩ rfl
      show some (Value.bool (decide _)) = _
      rw [decide_eq_false (by omega)]
    intro w' e'; rw [e']; clear e' w'
    by_cases hk5 : t.kind = 5
    · repeat' (first | (apply G_on; exact rfl; first | ((first | apply G1_assign | apply G1_move); exact rfl; exact rfl) | (apply G1_fieldAddr; exact T.f31_0; exact rfl; exact rfl) | (apply G1_loadB; exact T.p3; exact rfl; assumption; exact rfl; exact rfl) | (apply G1_eql; exact rfl; exact rfl; exact rfl) | (apply G1_pick_t; exact rfl; exact rfl; exact rfl)) | apply G_nil | apply Post_next | apply W_seq | apply W_region | (apply W_cond_true; exact rfl) | (apply W_cond_false; exact rfl) | ((fail_if_success (apply G_on; exact rfl)); apply G_split_dec; exact rfl; exact rfl; all_goals (intro h; try (exfalso; omega))) | apply W_exit | apply W_ret | apply Post_then_ret | apply Post_then_exit | apply Post_block_exit)
      refine Post_ret Tryz.results49 ⟨_, _, rfl, rfl, rfl⟩ ?_
      exact ⟨by rw [right_zero, hk5]; simp; rfl, (by repeat first | assumption | exact Ext.rfl' | apply Ext.drew | apply Ext.alloc | refine Ext.trans ?_ (by assumption))⟩
    · have hl0 := h3 hk5
      repeat' (first | (apply G_on; exact rfl; first | ((first | apply G1_assign | apply G1_move); exact rfl; exact rfl) | (apply G1_fieldAddr; exact T.f31_0; exact rfl; exact rfl) | (apply G1_loadB; exact T.p3; exact rfl; assumption; exact rfl; exact rfl) | (apply G1_eql; exact rfl; exact rfl; exact rfl) | (apply G1_pick_f; exact rfl; exact rfl; exact rfl)) | apply G_nil | apply Post_next | apply W_seq | apply W_region | (apply W_cond_false; exact rfl) | (apply G_off; exact rfl; exact rfl) | ((fail_if_success (apply G_on; exact rfl)); apply G_split_dec; exact rfl; exact rfl; all_goals (intro h; try (exfalso; omega))) | apply W_skip | apply W_exit | apply W_block | apply Post_then_exit | apply Post_block_exit)
      refine W_loop (ι := Unit) (fun _ => [(2, .pointer (some (adr (bx a1) 0))), (6, .int .i64 0)]) (fun _ w' => w' = w2) (fun _ => 0) () ⟨rfl, rfl, trivial⟩ rfl ?_
      rintro _ _ rfl
      repeat' (first | (apply G_on; exact rfl; first | ((first | apply G1_assign | apply G1_move); exact rfl; exact rfl) | (apply G1_fieldAddr; exact T.f31_3; exact rfl; exact rfl) | (apply G1_loadB; exact T.p26; exact rfl; assumption; exact rfl; exact rfl) | (apply G1_lss; exact rfl; exact rfl; exact rfl) | (apply G1_len; exact T.s26; exact rfl; exact rfl)) | apply G_nil | apply Post_next | apply W_seq | apply W_region | (apply W_cond_dec; exact rfl; all_goals (intro h; try (exfalso; omega))) | apply W_exit | apply W_ret | apply Post_then_exit | apply Post_block_exit)
      refine Post_ret Tryz.results49 ⟨_, _, rfl, rfl, rfl⟩ ?_
      exact ⟨by rw [right_zero, hleaf, decide_eq_true hk5]; rfl, (by repeat first | assumption | exact Ext.rfl' | apply Ext.drew | apply Ext.alloc | refine Ext.trans ?_ (by assumption))⟩
  | succ d ih =>
    intro e r t w hd hr
    obtain ⟨e, rs, rfl, hk, hs, hn, hl, hsz, hfit, hL⟩ := hr.open
    have n1 := hL.sl.bound
    have hlen := hL.len
    simp only [maxLen] at hsz
    refine Ctr_of Tryz.func49 Tryz.ntmps49 rfl rfl rfl ?_
    repeat' (first | apply W_seq | apply W_region)
    apply G_on; exact rfl; apply G1_box; exact rfl; exact rfl; exact rfl; intro a1 w1 ha1 hA1 hx1 hs1
    replace hA1 : Blk w1.heap a1 31 [.int .i64 r.kind, .string r.s, .int .i64 r.n, .slice r.p r.len r.cap] := hA1
    rw [hk, hs, hn, hl] at hA1
    rcases Classical.em (Head t) with hh | hh
    rotate_left
    · repeat' (first | (refine W_cutR (id := 1) [(1, .int .i64 ((d : Int) + 1)), (2, .pointer (some (adr (bx a1) 0))), (55, .bool true)] (fun w' => w' = w1) ?_ ?_) | (refine Post_cut ⟨rfl, rfl, rfl, trivial⟩ rfl) | (apply G_on; exact rfl; first | ((first | apply G1_assign | apply G1_move); exact rfl; exact rfl) | (apply G1_fieldAddr; (first | exact T.f31_0 | exact T.f31_3 | exact T.f31_2 | exact T.f31_1); exact rfl; exact rfl) | (apply G1_loadB; (first | exact T.p3 | exact T.p26 | exact T.p9); exact rfl; assumption; exact rfl; exact rfl) | ((first | apply G1_lss | apply G1_gtr); exact rfl; exact rfl; exact rfl) | (apply G1_pick_t; exact rfl; exact rfl; exact rfl) | (apply G1_pick_f; exact rfl; exact rfl; exact rfl) | (apply G1_neq; exact rfl; exact rfl; exact rfl) | (apply G1_len; exact T.s26; exact rfl; exact rfl) | (apply G1_sneq; exact rfl; exact rfl; exact rfl)) | apply G_nil | apply Post_next | apply W_seq | apply W_region | (apply G_off; exact rfl; exact rfl) | ((fail_if_success (apply G_on; exact rfl)); apply G_split_dec; exact rfl; exact rfl; all_goals (intro h; try (exfalso; omega))))
      all_goals try first
        | exact absurd (⟨by omega, by omega, by intro _; omega, by intro _; omega, by intro _ _ _; omega⟩ : Head t) hh
        | (refine Post_cut ⟨rfl, rfl, ?_, trivial⟩ rfl
           show some (Value.bool (decide _)) = _
           have hns : ¬ t.s = ⟨#[]⟩ := fun he => hh ⟨by omega, by omega, by intro _; omega, by intro _; omega, fun _ _ _ => he⟩
           rw [decide_eq_true hns])
      intro w' e'; rw [e']; clear e' w'
      repeat' (first | (apply G_on; exact rfl; (apply G1_assign; exact rfl; exact rfl)) | apply G_nil | apply Post_next | apply W_seq | apply W_region | (apply W_cond_true; exact rfl) | apply W_ret | apply Post_then_ret)
      refine Post_ret Tryz.results49 ⟨_, _, rfl, rfl, rfl⟩ ?_
      exact ⟨by rw [right_no (leaf_no hh)]; rfl, (by repeat first | assumption | exact Ext.rfl' | apply Ext.drew | apply Ext.alloc | refine Ext.trans ?_ (by assumption))⟩
    have h1 := hh.lo
    have h2 := hh.hi
    have h3 := hh.list
    have h4 := hh.num
    repeat' (first | (refine W_cutR (id := 1) [(1, .int .i64 ((d : Int) + 1)), (2, .pointer (some (adr (bx a1) 0))), (55, .bool false)] (fun w' => w' = w1) ?_ ?_) | (refine Post_cut ⟨rfl, rfl, rfl, trivial⟩ rfl) | (apply G_on; exact rfl; first | ((first | apply G1_assign | apply G1_move); exact rfl; exact rfl) | (apply G1_fieldAddr; (first | exact T.f31_0 | exact T.f31_3 | exact T.f31_2 | exact T.f31_1); exact rfl; exact rfl) | (apply G1_loadB; (first | exact T.p3 | exact T.p26 | exact T.p9); exact rfl; assumption; exact rfl; exact rfl) | ((first | apply G1_lss | apply G1_gtr); exact rfl; exact rfl; exact rfl) | (apply G1_pick_t; exact rfl; exact rfl; exact rfl) | (apply G1_pick_f; exact rfl; exact rfl; exact rfl) | (apply G1_neq; exact rfl; exact rfl; exact rfl) | (apply G1_len; exact T.s26; exact rfl; exact rfl) | (apply G1_sneq; exact rfl; exact rfl; exact rfl)) | apply G_nil | apply Post_next | apply W_seq | apply W_region | (apply G_off; exact rfl; exact rfl) | ((fail_if_success (apply G_on; exact rfl)); apply G_split_dec; exact rfl; exact rfl; all_goals (intro h; try (exfalso; omega))))
    all_goals try
      refine Post_cut ⟨rfl, rfl, ?_, trivial⟩ rfl
      show some (Value.bool (decide _)) = _
      rw [decide_eq_false (fun h => h (hh.text (by omega) (by omega) (by omega)))]
    intro w' e'; rw [e']; clear e' w'
    repeat' (first | (apply G_on; exact rfl; (apply G1_assign; exact rfl; exact rfl)) | apply G_nil | apply Post_next | apply W_seq | apply W_region | (apply W_cond_false; exact rfl) | apply W_skip | apply W_block)
    refine W_loop (ι := Nat) (fun k => [(1, .int .i64 ((d : Int) + 1)), (2, .pointer (some (adr (bx a1) 0))), (5, .int .i64 (k : Int))])
      (fun k w' => Ext w w' ∧ Blk w'.heap a1 31 [.int .i64 t.kind, .string t.s, .int .i64 t.n, .slice r.p rs.length r.cap] ∧ k ≤ t.s.size ∧ (t.kind < 2 → ∀ j, j < k → bget t.s j ≠ 13 ∧ bget t.s j ≠ 10)) (fun k => t.s.size - k) 0 ⟨rfl, rfl, rfl, trivial⟩ ⟨hx1, hA1, Nat.zero_le _, fun _ j hj => by omega⟩ ?_
    rintro k w2 ⟨hx2, hA2, hk2, hb⟩
    rcases Classical.em (t.kind < 2 ∧ k < t.s.size) with hk3 | hk3
    · by_cases hbad : bget t.s k = 13 ∨ bget t.s k = 10
      · have hno : leafOk t = false := by
          cases e : leafOk t with
          | false => rfl
          | true =>
            have := (nobr_iff t.s).1 ((leaf_iff.1 e).2 hk3.1) k hk3.2
            rcases hbad with hb | hb
            · exact absurd hb this.1
            · exact absurd hb this.2
        have hbn : ((bget t.s ((k : Int).toNat)).toNat : Int) = 13 ∨ ((bget t.s ((k : Int).toNat)).toNat : Int) = 10 := by
          rw [Int.toNat_natCast]
          rcases hbad with hb | hb <;> rw [hb] <;> simp
        repeat' (first | (apply G_on; exact rfl; first | ((first | apply G1_assign | apply G1_move); exact rfl; exact rfl) | (apply G1_fieldAddr; (first | exact T.f31_0 | exact T.f31_1); exact rfl; exact rfl) | (apply G1_loadB; (first | exact T.p3 | exact T.p9); exact rfl; assumption; exact rfl; exact rfl) | ((first | apply G1_lss | apply G1_eql); exact rfl; exact rfl; exact rfl) | (apply G1_pick_t; exact rfl; exact rfl; exact rfl) | (apply G1_pick_f; exact rfl; exact rfl; exact rfl) | (apply G1_slen; exact T.str9; exact rfl; exact rfl) | (apply G1_sindex; exact T.str9; exact rfl; exact rfl; omega; omega; exact rfl)) | apply G_nil | apply Post_next | apply W_seq | apply W_region | (apply W_cond_true; exact rfl) | (apply W_cond_dec; exact rfl; all_goals (intro h; try (exfalso; omega))) | (apply G_off; exact rfl; exact rfl) | ((fail_if_success (apply G_on; exact rfl)); apply G_split_dec; exact rfl; exact rfl; all_goals (intro h; try (exfalso; omega))) | apply W_skip | apply W_ret | apply W_block | apply Post_then_ret | apply Post_block_ret)
        all_goals
          refine Post_ret Tryz.results49 ⟨_, _, rfl, rfl, rfl⟩ ?_
          exact ⟨by rw [right_no hno]; rfl, (by repeat first | assumption | exact Ext.rfl' | apply Ext.drew | apply Ext.alloc | refine Ext.trans ?_ (by assumption))⟩
      · have hbn : ¬ ((bget t.s ((k : Int).toNat)).toNat : Int) = 13 ∧ ¬ ((bget t.s ((k : Int).toNat)).toNat : Int) = 10 := by
          rw [Int.toNat_natCast]
          constructor
          · intro e; exact hbad (.inl (UInt8.toNat_inj.1 (by show (bget t.s k).toNat = 13; omega)))
          · intro e; exact hbad (.inr (UInt8.toNat_inj.1 (by show (bget t.s k).toNat = 10; omega)))
        repeat' (first | (apply G_on; exact rfl; first | ((first | apply G1_assign | apply G1_move); exact rfl; exact rfl) | (apply G1_fieldAddr; (first | exact T.f31_0 | exact T.f31_1); exact rfl; exact rfl) | (apply G1_loadB; (first | exact T.p3 | exact T.p9); exact rfl; assumption; exact rfl; exact rfl) | ((first | apply G1_lss | apply G1_eql); exact rfl; exact rfl; exact rfl) | (apply G1_pick_t; exact rfl; exact rfl; exact rfl) | (apply G1_pick_f; exact rfl; exact rfl; exact rfl) | (apply G1_slen; exact T.str9; exact rfl; exact rfl) | (apply G1_sindex; exact T.str9; exact rfl; exact rfl; omega; omega; exact rfl) | (apply G1_add; exact rfl; exact rfl; omega; omega; exact rfl)) | apply G_nil | apply Post_next | apply W_seq | apply W_region | (apply W_cond_dec; exact rfl; all_goals (intro h; try (exfalso; omega))) | ((fail_if_success (apply G_on; exact rfl)); apply G_split_dec; exact rfl; exact rfl; all_goals (intro h; try (exfalso; omega))) | apply W_skip | apply W_block | apply Post_block_normal)
        refine Post_round (k + 1) ⟨rfl, rfl, rfl, trivial⟩ ⟨(by repeat first | assumption | exact Ext.rfl' | apply Ext.drew | apply Ext.alloc | refine Ext.trans ?_ (by assumption)), hA2, by omega, fun hk j hj => ?_⟩ (by omega)
        by_cases e : j = k
        · subst e; exact ⟨fun e => hbad (.inl e), fun e => hbad (.inr e)⟩
        · exact hb hk j (by omega)
    have hleaf : leafOk t = true := leaf_iff.2 ⟨hh, fun hk => (nobr_iff t.s).2 (fun j hj => hb hk j (by omega))⟩
    have hL2 := hL.ext hx2
    have hsl := hL2.sl
    repeat' (first | (refine W_cutR (id := 4) [(1, .int .i64 ((d : Int) + 1)), (2, .pointer (some (adr (bx a1) 0))), (65, .bool false)] (fun w' => w' = w2) ?_ ?_) | (apply G_on; exact rfl; first | (apply G1_move; exact rfl; exact rfl) | (apply G1_fieldAddr; (first | exact T.f31_0 | exact T.f31_1); exact rfl; exact rfl) | (apply G1_loadB; (first | exact T.p3 | exact T.p9); exact rfl; assumption; exact rfl; exact rfl) | (apply G1_lss; exact rfl; exact rfl; exact rfl) | (apply G1_pick_t; exact rfl; exact rfl; exact rfl) | (apply G1_pick_f; exact rfl; exact rfl; exact rfl) | (apply G1_slen; exact T.str9; exact rfl; exact rfl)) | apply G_nil | apply W_seq | apply W_region | (refine Post_cut ⟨rfl, rfl, rfl, trivial⟩ rfl) | (apply G_off; exact rfl; exact rfl) | ((fail_if_success (apply G_on; exact rfl)); apply G_split_dec; exact rfl; exact rfl; all_goals (intro h; try (exfalso; omega))))
    all_goals try
      refine Post_cut ⟨rfl, rfl, ?_, trivial⟩ rfl
      show some (Value.bool (decide _)) = _
      rw [decide_eq_false (by omega)]
    intro w' e'; rw [e']; clear e' w'
    by_cases hk5 : t.kind = 5
    all_goals
      repeat' (first | (apply G_on; exact rfl; first | ((first | apply G1_assign | apply G1_move); exact rfl; exact rfl) | (apply G1_fieldAddr; exact T.f31_0; exact rfl; exact rfl) | (apply G1_loadB; exact T.p3; exact rfl; assumption; exact rfl; exact rfl) | (apply G1_eql; exact rfl; exact rfl; exact rfl) | (apply G1_pick_t; exact rfl; exact rfl; exact rfl) | (apply G1_pick_f; exact rfl; exact rfl; exact rfl)) | apply G_nil | apply Post_next | apply W_seq | apply W_region | (apply W_cond_false; exact rfl) | (apply G_off; exact rfl; exact rfl) | ((fail_if_success (apply G_on; exact rfl)); apply G_split_dec; exact rfl; exact rfl; all_goals (intro h; try (exfalso; omega))) | apply W_skip | apply W_exit | apply W_block | apply Post_then_exit | apply Post_block_exit)
      refine W_loop (ι := Nat) (fun k => [(1, .int .i64 ((d : Int) + 1)), (2, .pointer (some (adr (bx a1) 0))), (6, .int .i64 (k : Int))])
        (fun k w' => Ext w w' ∧ Ext w2 w' ∧ k ≤ rs.length ∧ (t.l.take k).all (rightT d) = true) (fun k => rs.length - k) 0 ⟨rfl, rfl, rfl, trivial⟩ ⟨(by repeat first | assumption | exact Ext.rfl' | apply Ext.drew | apply Ext.alloc | refine Ext.trans ?_ (by assumption)), (by repeat first | assumption | exact Ext.rfl' | apply Ext.drew | apply Ext.alloc | refine Ext.trans ?_ (by assumption)), Nat.zero_le _, rfl⟩ ?_
      rintro i w3 ⟨hx3, hx23, hi, hq⟩
      have hA3 := hA2.ext hx23
      have hL3 := hL2.ext hx23
      have hsl3 := hL3.sl
      by_cases hlt : i < rs.length
      · obtain ⟨r', hr'⟩ := get_some hlt
        obtain ⟨t', ht'⟩ := get_some (xs := t.l) (k := i) (by omega)
        have e1 : ((d : Int) + 1) - 1 = d := by omega
        have ih' : Ctr Tryz.prog 49 [.agg (eRep.enc r').toArray, .int .i64 ((d : Int) + 1 - 1)] w3 (fun v w' => v = .bool (rightT d t') ∧ Ext w3 w') := by
          rw [e1]; exact ih e (by omega) (hL3.get i r' t' hr' ht')
        have hts := take_snoc ht'
        cases hrt : rightT d t' with
        | true =>
          rw [hrt] at ih'
          repeat' (first | (apply G_on; exact rfl; first | ((first | apply G1_assign | apply G1_move); exact rfl; exact rfl) | (apply G1_call (f := 49); exact rfl; exact rfl; exact rfl; exact ih'; rintro _ w4 ⟨rfl, hx4⟩; refine ⟨(by first | exact .inl rfl | exact .inr (by assumption)), ?_⟩) | (apply G1_fieldAddr; exact T.f31_3; exact rfl; exact rfl) | (apply G1_loadB; exact T.p26; exact rfl; assumption; exact rfl; exact rfl) | (apply G1_lss; exact rfl; exact rfl; exact rfl) | (apply G1_len; exact T.s26; exact rfl; exact rfl) | (apply G1_add; exact rfl; exact rfl; omega; omega; exact rfl) | (apply G1_indexAddrN; exact T.s26; exact rfl; exact rfl; (first | assumption | exact Sl.ok (by assumption) | exact (Own.sl (by assumption)).ok); omega; exact rfl) | (apply G1_loadEl; exact T.a31; exact rfl; assumption; assumption; exact rfl; exact rfl) | (apply G1_sub; exact rfl; exact rfl; omega; omega; exact rfl) | (apply G1_not_t; exact rfl; exact rfl)) | apply G_nil | apply Post_next | apply W_seq | apply W_region | (apply W_cond_false; exact rfl) | (apply W_cond_dec; exact rfl; all_goals (intro h; try (exfalso; omega))) | apply W_skip | apply W_block | apply Post_block_normal)
          all_goals exact Post_round (i + 1) ⟨rfl, rfl, rfl, trivial⟩ ⟨(by repeat first | assumption | exact Ext.rfl' | apply Ext.drew | apply Ext.alloc | refine Ext.trans ?_ (by assumption)), (by repeat first | assumption | exact Ext.rfl' | apply Ext.drew | apply Ext.alloc | refine Ext.trans ?_ (by assumption)), by omega, by rw [hts, List.all_append, hq]; simp [hrt]⟩ (by omega)
        | false =>
          rw [hrt] at ih'
          repeat' (first | (apply G_on; exact rfl; first | ((first | apply G1_assign | apply G1_move); exact rfl; exact rfl) | (apply G1_call (f := 49); exact rfl; exact rfl; exact rfl; exact ih'; rintro _ w4 ⟨rfl, hx4⟩; refine ⟨(by first | exact .inl rfl | exact .inr (by assumption)), ?_⟩) | (apply G1_fieldAddr; exact T.f31_3; exact rfl; exact rfl) | (apply G1_loadB; exact T.p26; exact rfl; assumption; exact rfl; exact rfl) | (apply G1_lss; exact rfl; exact rfl; exact rfl) | (apply G1_len; exact T.s26; exact rfl; exact rfl) | (apply G1_indexAddrN; exact T.s26; exact rfl; exact rfl; (first | assumption | exact Sl.ok (by assumption) | exact (Own.sl (by assumption)).ok); omega; exact rfl) | (apply G1_loadEl; exact T.a31; exact rfl; assumption; assumption; exact rfl; exact rfl) | (apply G1_sub; exact rfl; exact rfl; omega; omega; exact rfl) | (apply G1_not_f; exact rfl; exact rfl)) | apply G_nil | apply Post_next | apply W_seq | apply W_region | (apply W_cond_true; exact rfl) | (apply W_cond_dec; exact rfl; all_goals (intro h; try (exfalso; omega))) | apply W_skip | apply W_ret | apply W_block | apply Post_then_ret | apply Post_block_ret)
          all_goals
            refine Post_ret Tryz.results49 ⟨_, _, rfl, rfl, rfl⟩ ?_
            refine ⟨?_, (by repeat first | assumption | exact Ext.rfl' | apply Ext.drew | apply Ext.alloc | refine Ext.trans ?_ (by assumption))⟩
            have : t.l.all (rightT d) = false := List.all_eq_false.2 ⟨t', List.mem_of_getElem? ht', by simp [hrt]⟩
            rw [right_succ, this]; simp; rfl
      · rw [List.take_of_length_le (by omega)] at hq
        repeat' (first | (apply G_on; exact rfl; first | ((first | apply G1_assign | apply G1_move); exact rfl; exact rfl) | (apply G1_fieldAddr; exact T.f31_3; exact rfl; exact rfl) | (apply G1_loadB; exact T.p26; exact rfl; assumption; exact rfl; exact rfl) | (apply G1_lss; exact rfl; exact rfl; exact rfl) | (apply G1_len; exact T.s26; exact rfl; exact rfl)) | apply G_nil | apply Post_next | apply W_seq | apply W_region | (apply W_cond_dec; exact rfl; all_goals (intro h; try (exfalso; omega))) | apply W_exit | apply W_ret | apply Post_then_exit | apply Post_block_exit)
        refine Post_ret Tryz.results49 ⟨_, _, rfl, rfl, rfl⟩ ?_
        exact ⟨by rw [right_succ, hleaf, hq]; rfl, (by repeat first | assumption | exact Ext.rfl' | apply Ext.drew | apply Ext.alloc | refine Ext.trans ?_ (by assumption))⟩

theorem refsame_spec : ∀ (d d' : Nat) {a b : RawR} {t u : Rep} {w : World}, RepAt w.heap d a t → RepAt w.heap d' b u →
    Ctr Tryz.prog 8 [.agg (eRep.enc a).toArray, .agg (eRep.enc b).toArray] w (fun v w' => ∃ r, v = .bool r ∧ (r = true ↔ t = u) ∧ Ext w w') := by
  intro d
  induction d with
  | zero => intro d' a b t u w h; exact h.elim
  | succ d ih =>
    intro d' a b t u w ha hb
    obtain ⟨d0, rs, e0, hk, hs, hn, hl, hsz, hfit, hL⟩ := ha.open
    obtain rfl : d = d0 := by omega
    obtain ⟨d1, qs, rfl, hk', hs', hn', hl', hsz', hfit', hM⟩ := hb.open
    have n1 := hL.sl.bound
    have n2 := hM.sl.bound
    have hlen := hL.len
    have hlen' := hM.len
    refine Ctr_of Tryz.func8 Tryz.ntmps8 rfl rfl rfl ?_
    repeat' (first | apply W_seq | apply W_region)
    apply G_on; exact rfl; apply G1_box; exact rfl; exact rfl; exact rfl; intro a1 w1 ha1 hA1 hx1 hs1
    replace hA1 : Blk w1.heap a1 31 [.int .i64 a.kind, .string a.s, .int .i64 a.n, .slice a.p a.len a.cap] := hA1
    rw [hk, hs, hn, hl] at hA1
    skip
    apply G_on; exact rfl; apply G1_box; exact rfl; exact rfl; exact rfl; intro a2 w2 ha2 hA2 hx2 hs2
    replace hA2 : Blk w2.heap a2 31 [.int .i64 b.kind, .string b.s, .int .i64 b.n, .slice b.p b.len b.cap] := hA2
    rw [hk', hs', hn', hl'] at hA2
    replace hA1 := hA1.ext hx2
    have hx02 := hx1.trans hx2
    by_cases hhead : t.kind = u.kind ∧ t.s = u.s ∧ t.n = u.n ∧ rs.length = qs.length
    · obtain ⟨h1, h2, h3, h4⟩ := hhead
      rw [← h1, ← h2, ← h3] at hA2
      repeat' (first | (apply G_on; exact rfl; first | ((first | apply G1_assign | apply G1_move); exact rfl; exact rfl) | (apply G1_fieldAddr; (first | exact T.f31_0 | exact T.f31_1 | exact T.f31_2 | exact T.f31_3); exact rfl; exact rfl) | (apply G1_loadB; (first | exact T.p3 | exact T.p9 | exact T.p26); exact rfl; assumption; exact rfl; exact rfl) | (apply G1_neq; exact rfl; exact rfl; exact rfl) | (apply G1_sneq; exact rfl; exact rfl; exact rfl) | (apply G1_pick_t; exact rfl; exact rfl; exact rfl) | (apply G1_pick_f; exact rfl; exact rfl; exact rfl) | (apply G1_len; exact T.s26; exact rfl; exact rfl)) | apply G_nil | apply Post_next | apply W_seq | apply W_region | (apply W_cond_true; exact rfl) | (apply W_cond_dec; exact rfl; all_goals (intro h; try (exfalso; omega))) | (apply G_off; exact rfl; exact rfl) | ((fail_if_success (apply G_on; exact rfl)); apply G_split_dec; exact rfl; exact rfl; all_goals (intro h; try (exfalso; omega))) | apply W_skip | apply W_ret | apply W_block | apply Post_then_ret)
      all_goals try contradiction
      refine W_loop (ι := Nat) (fun k => [(2, .pointer (some (adr (bx a1) 0))), (3, .pointer (some (adr (bx a2) 0))), (5, .int .i64 (k : Int))])
        (fun k w' => Ext w w' ∧ Ext w2 w' ∧ k ≤ rs.length ∧ t.l.take k = u.l.take k) (fun k => rs.length - k) 0 ⟨rfl, rfl, rfl, trivial⟩ ⟨(by repeat first | assumption | exact Ext.rfl' | apply Ext.drew | apply Ext.alloc | refine Ext.trans ?_ (by assumption)), (by repeat first | assumption | exact Ext.rfl' | apply Ext.drew | apply Ext.alloc | refine Ext.trans ?_ (by assumption)), Nat.zero_le _, rfl⟩ ?_
      rintro i w3 ⟨hx3, hx23, hi, hq⟩
      have hA13 := hA1.ext hx23
      have hA23 := hA2.ext hx23
      have hL3 := hL.ext hx3
      have hM3 := hM.ext hx3
      have hsl := hL3.sl
      have hsm := hM3.sl
      by_cases hlt : i < rs.length
      · obtain ⟨r', hr'⟩ := get_some hlt
        obtain ⟨t', ht'⟩ := get_some (xs := t.l) (k := i) (by omega)
        obtain ⟨q', hq'⟩ := get_some (xs := qs) (k := i) (by omega)
        obtain ⟨u', hu'⟩ := get_some (xs := u.l) (k := i) (by omega)
        have ih' := fun (v : World) (hv : v.heap = w3.heap) => ih d1 (w := v) (by rw [hv]; exact hL3.get i r' t' hr' ht') (by rw [hv]; exact hM3.get i q' u' hq' hu')
        repeat' (first | (apply G_on; exact rfl; first | ((first | apply G1_assign | apply G1_move); exact rfl; exact rfl) | (apply G1_call (f := 8); exact rfl; exact rfl; exact rfl; exact ih' _ rfl; rintro _ w4 ⟨rb, rfl, hrb, hx4⟩; refine ⟨(by first | exact .inl rfl | exact .inr (by assumption)), ?_⟩) | (apply G1_fieldAddr; exact T.f31_3; exact rfl; exact rfl) | (apply G1_loadB; exact T.p26; exact rfl; assumption; exact rfl; exact rfl) | (apply G1_len; exact T.s26; exact rfl; exact rfl) | (apply G1_lss; exact rfl; exact rfl; exact rfl) | (apply G1_indexAddrN; exact T.s26; exact rfl; exact rfl; (first | assumption | exact Sl.ok (by assumption) | exact (Own.sl (by assumption)).ok); omega; exact rfl) | (apply G1_loadEl; exact T.a31; exact rfl; assumption; assumption; exact rfl; exact rfl) | (apply G1_not; exact rfl; exact rfl) | (apply G1_add; exact rfl; exact rfl; omega; omega; exact rfl)) | apply G_nil | apply Post_next | apply W_seq | apply W_region | (apply W_cond_dec; exact rfl; all_goals (intro h; try (exfalso; omega))) | (apply W_cond; exact rfl; all_goals intro h) | refine W_drawn 1 [] [0,1,2,3,4,5,6,7,8,9,10,11] mixed (by decide +kernel) ?_ | apply W_skip | apply W_ret | apply W_block | apply Post_then_ret | apply Post_block_ret | apply Post_block_normal)
        · refine Post_ret Tryz.results8 ⟨_, _, rfl, rfl, rfl⟩ ?_
          refine ⟨false, rfl, ⟨fun e => by simp at e, fun e => ?_⟩, (by repeat first | assumption | exact Ext.rfl' | apply Ext.drew | apply Ext.alloc | refine Ext.trans ?_ (by assumption))⟩
          subst e
          rw [ht'] at hu'
          injection hu' with hu'
          rw [hrb.2 hu'] at h
          simp at h
        · refine Post_round (i + 1) ⟨rfl, rfl, rfl, trivial⟩ ⟨(by repeat first | assumption | exact Ext.rfl' | apply Ext.drew | apply Ext.alloc | refine Ext.trans ?_ (by assumption)), (by repeat first | assumption | exact Ext.rfl' | apply Ext.drew | apply Ext.alloc | refine Ext.trans ?_ (by assumption)), by omega, ?_⟩ (by omega)
          have : rb = true := by cases rb with | true => rfl | false => simp at h
          rw [take_snoc ht', take_snoc hu', hq, hrb.1 this]
      · repeat' (first | (apply G_on; exact rfl; first | ((first | apply G1_assign | apply G1_move); exact rfl; exact rfl) | (apply G1_fieldAddr; exact T.f31_3; exact rfl; exact rfl) | (apply G1_loadB; exact T.p26; exact rfl; assumption; exact rfl; exact rfl) | (apply G1_len; exact T.s26; exact rfl; exact rfl) | (apply G1_lss; exact rfl; exact rfl; exact rfl)) | apply G_nil | apply Post_next | apply W_seq | apply W_region | (apply W_cond_dec; exact rfl; all_goals (intro h; try (exfalso; omega))) | apply W_exit | apply W_ret | apply Post_then_exit | apply Post_block_exit)
        refine Post_ret Tryz.results8 ⟨_, _, rfl, rfl, rfl⟩ ?_
        rw [List.take_of_length_le (by omega), List.take_of_length_le (by omega)] at hq
        exact ⟨true, rfl, ⟨fun _ => Rep.ext' h1 h2 h3 hq, fun _ => rfl⟩, (by repeat first | assumption | exact Ext.rfl' | apply Ext.drew | apply Ext.alloc | refine Ext.trans ?_ (by assumption))⟩
    · repeat' (first | (apply G_on; exact rfl; first | ((first | apply G1_assign | apply G1_move); exact rfl; exact rfl) | (apply G1_fieldAddr; (first | exact T.f31_0 | exact T.f31_1 | exact T.f31_2 | exact T.f31_3); exact rfl; exact rfl) | (apply G1_loadB; (first | exact T.p3 | exact T.p9 | exact T.p26); exact rfl; assumption; exact rfl; exact rfl) | (apply G1_neq; exact rfl; exact rfl; exact rfl) | (apply G1_sneq; exact rfl; exact rfl; exact rfl) | (apply G1_pick_t; exact rfl; exact rfl; exact rfl) | (apply G1_pick_f; exact rfl; exact rfl; exact rfl) | (apply G1_len; exact T.s26; exact rfl; exact rfl)) | apply G_nil | apply Post_next | apply W_seq | apply W_region | (apply W_cond_true; exact rfl) | (apply W_cond_dec; exact rfl; all_goals (intro h; try (exfalso; omega))) | (apply G_off; exact rfl; exact rfl) | ((fail_if_success (apply G_on; exact rfl)); apply G_split_dec; exact rfl; exact rfl; all_goals (intro h; try (exfalso; omega))) | apply W_skip | apply W_ret | apply W_block | apply Post_then_ret)
      all_goals first
        | exact absurd ⟨by omega, Classical.not_not.1 (by assumption), by omega, by omega⟩ hhead
        | (refine Post_ret Tryz.results8 ⟨_, _, rfl, rfl, rfl⟩ ?_
           exact ⟨false, rfl, ⟨fun e => by simp at e, fun e => by subst e; exact absurd ⟨rfl, rfl, rfl, by omega⟩ hhead⟩, (by repeat first | assumption | exact Ext.rfl' | apply Ext.drew | apply Ext.alloc | refine Ext.trans ?_ (by assumption))⟩)
end Go.Proofs.YtipbakiecocioaaGreatDoor

/- resp.right and resp.Right: the walks. -/
namespace Go.Proofs.YtipbakiecocioaaGreatDoor
open Go.V
attribute [local irreducible] Blk Own hcell IntT SliceT PlainT AggT SizeT StrT FieldT ZeroT EqT ArrT
/-- no text is long, so deep -/
def smallT : Nat → Rep → Prop
  | 0, _ => True
  | d + 1, t => t.s.size ≤ 2000 ∧ ∀ x ∈ t.l, smallT d x
theorem small_of : ∀ (d : Nat) (t : Rep), sizeT d t < 100000 → smallT d t
  | 0, _, _ => trivial
  | d + 1, t, h => by
    unfold sizeT at h
    split at h
    · omega
    · rename_i h2
      refine ⟨by omega, fun x hx => small_of d x ?_⟩
      have key : ∀ (l : List Rep) (n : Int), 0 ≤ n → sizeL (sizeT d) l n < 100000 → n ≤ sizeL (sizeT d) l n ∧ ∀ x ∈ l, sizeT d x ≤ sizeL (sizeT d) l n := by
        intro l
        induction l with
        | nil => intro n _ _; exact ⟨Int.le_refl _, by simp⟩
        | cons y l ih =>
          intro n h0 hn
          unfold sizeL at hn ⊢
          split at hn
          · rename_i h3
            rw [if_pos h3]
            have hy := (sizeT_le d y).1
            obtain ⟨i1, i2⟩ := ih _ (by omega) hn
            refine ⟨by omega, fun x hx => ?_⟩
            rcases List.mem_cons.1 hx with rfl | hx
            · omega
            · exact i2 x hx
          · rename_i h3; exact absurd hn h3
      have := (key t.l 1 (by omega) h).2 x hx
      omega
theorem smallT.mono : ∀ {d e : Nat} {t : Rep}, smallT d t → e ≤ d → smallT e t
  | _, 0, _, _, _ => trivial
  | 0, e + 1, _, _, h => by omega
  | d + 1, e + 1, t, ⟨h1, h2⟩, h => ⟨h1, fun x hx => smallT.mono (h2 x hx) (by omega)⟩
theorem right_leafk {d : Nat} {t : Rep} (h : t.kind ≠ 5) : rightT d t = leafOk t := by
  cases hl : leafOk t with
  | false => exact right_no hl
  | true =>
    have h0 : t.l = [] := List.eq_nil_of_length_eq_zero ((leaf_iff.1 hl).1.list h)
    cases d with
    | zero => rw [right_zero, hl, decide_eq_true h]; rfl
    | succ d => rw [right_succ, hl, h0]; rfl
theorem leaf_val (t : Rep) (b : Bool) (h : b = true ↔ Head t ∧ (t.kind < 2 → nobr t.s = true)) : leafOk t = b := by
  rw [Bool.eq_iff_iff, leaf_iff, h]
theorem leaf_falsy (t : Rep) (h : (Head t ∧ (t.kind < 2 → nobr t.s = true)) → False) : leafOk t = false := by
  cases e : leafOk t with
  | false => rfl
  | true => exact (h (leaf_iff.1 e)).elim



end Go.Proofs.YtipbakiecocioaaGreatDoor

/- resp.Write: the walks of its closures and of itself. -/
namespace Go.V
section
variable {P : Program} {n : Nat} {ops : Array Oper} {dr : Nat × List Nat} {l : List Oper} {E : Env} {w : World} {K : Env → World → Prop}
theorem G1_callvS {f : FuncId} {first cap : Array Value} {x : Operand} {d : Option Nat} {args : Array Operand} {tys : Array TypeId} {ty : TypeId} {pos : String} {af : Array Edge} {g : Option (Nat × Bool)} {vs : List Value} {Φ : Value → World → Prop}
    (hf : E.look x = some (.func (.func f) first cap)) (hargs : E.looks args.toList = some vs) (he : effects P dr.1 ⟨d, .call ⟨.value x, args, tys⟩, ty, pos, af, g⟩ = true) (hd : dstOk n d = true)
    (hc : Ctr P f (first.toList ++ vs ++ cap.toList) w Φ) (h : ∀ v w', Φ v w' → (writes dr.1 ⟨d, .call ⟨.value x, args, tys⟩, ty, pos, af, g⟩ = true ∨ ExtS dr.2 w w') ∧ G P n ops dr l (E.put d v) w' K) :
    G1 P n ops dr ⟨d, .call ⟨.value x, args, tys⟩, ty, pos, af, g⟩ l E w K := by
  unfold Ctr at hc
  unfold G1 G at *
  intro a ha hw
  refine .inr ⟨he, hw, ?_⟩
  have hm : args.map a.eval = vs.toArray := by
    rw [← ha.evals hargs]; apply Array.ext'; simp
  unfold stepX Oper.wp
  have e1 : first ++ vs.toArray ++ cap = (first.toList ++ vs ++ cap.toList).toArray := by
    apply Array.ext'; simp
  have : (execOp a.eval ⟨d, .call ⟨.value x, args, tys⟩, ty, pos, af, g⟩).run P w = .ok (.enter f (first.toList ++ vs ++ cap.toList).toArray) w := by
    rw [← e1]
    simp [execOp, resolve, Deferred.ofValue, ha.eval hf, invoke, hm, run_callFunc hc.1]
  rw [this]
  refine Calls.mono hc.2 ?_
  rintro e w' ⟨v, rfl, hv⟩
  exact ⟨(h v w' hv).1, (h v w' hv).2 _ (ha.put _ _ (dstOk_spec hd))⟩
end
theorem ExtS.blk {S : List Nat} {w w' : World} {b : Nat} {t : TypeId} {cs : List Value} (h : ExtS S w w') (hb : Blk w.heap b t cs) (hs : exempt S b = false) : Blk w'.heap b t cs := by
  have := h.block b hb.lt hs
  unfold Blk at *
  rw [this]; exact hb
/-- the block of an address, or another -/
def pblk (p : Option Addr) (a : Nat) : Nat := (blk p).getD a
theorem exempt3 {a g k : Nat} (h1 : k ≠ a) (h2 : k ≠ g) : exempt [a, g, g] k = false := by
  simp [exempt, h1, h2]
theorem exempt3_a {a g : Nat} : exempt [a, g, g] a = true := by simp [exempt]
theorem exempt3_g {a g : Nat} : exempt [a, g, g] g = true := by simp [exempt]
/-- the block of the row goes on to one that is new, or stays -/
theorem ExtS.then3 {w w1 w2 : World} {a g g' : Nat} (h : ExtS [a, g, g] w w1) (k : ExtS [a, g', g'] w1 w2) (hn : g' = g ∨ w.heap.size ≤ g' ∨ g' = a) : ExtS [a, g, g] w w2 :=
  ⟨k.os.trans h.os, k.tape.trans h.tape, k.output.trans h.output, Nat.le_trans h.size k.size, fun i hi hs => by
    have h1 := h.block i hi hs
    have hne : i ≠ a ∧ i ≠ g := by
      constructor
      · intro e; subst e; rw [exempt3_a] at hs; cases hs
      · intro e; subst e; rw [exempt3_g] at hs; cases hs
    rw [k.block i (Nat.lt_of_lt_of_le hi h.size) (exempt3 hne.1 (by rcases hn with rfl | hn | rfl <;> omega)), h1]⟩
end Go.V
namespace Go.Proofs.YtipbakiecocioaaGreatDoor
open Go.V
attribute [local irreducible] Blk Own hcell IntT SliceT PlainT AggT SizeT StrT FieldT ZeroT EqT ArrT



section
variable {w0 w w' : World} {B a aL aP : Nat} {tL tP : TypeId} {p p' : Option Addr} {c c' : Nat} {bs : List UInt8}


end
theorem pblk_new {w : World} {p p' : Option Addr} {a : Nat} (h : NewP w p p') : pblk p' a = pblk p a ∨ w.heap.size ≤ pblk p' a ∨ pblk p' a = a := by
  unfold NewP at h
  rcases h with h | h
  · left; unfold pblk; rw [h]
  · right
    cases hb : blk p' with
    | none => right; unfold pblk; rw [hb]; rfl
    | some k => left; have := h k hb; unfold pblk; rw [hb]; exact this


theorem itoaL (n : Int) : (itoaB n).data.toList = Lib.itoa n := by show (Lib.itoa n).toArray.toList = _; simp
theorem itoaS (n : Int) : (itoaB n).size = (Lib.itoa n).length := by show (Lib.itoa n).toArray.size = _; simp

theorem flat_take_le {α : Type} (f : α → List UInt8) (l : List α) (k : Nat) : ((l.take k).flatMap f).length ≤ (l.flatMap f).length := by
  have h : l.flatMap f = (l.take k).flatMap f ++ (l.drop k).flatMap f := by rw [← List.flatMap_append, List.take_append_drop]
  rw [h, List.length_append]; omega


end Go.Proofs.YtipbakiecocioaaGreatDoor
