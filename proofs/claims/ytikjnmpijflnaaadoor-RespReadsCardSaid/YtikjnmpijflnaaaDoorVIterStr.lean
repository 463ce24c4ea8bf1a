/- Ranging over a string; scopes; a rune's string. -/
import Derived.Test.YtikjnmpijflnaaaDoorVBits
import Derived.Lib.OthersKept
import Derived.Scope
namespace Go.V
open Go.RowKit
/-- the iterator that stands in a block -/
def Itr (w : World) (k : Nat) (s : ByteArray) (pos : Nat) : Prop := w.heap[k]? = some (.stringIter s pos)
theorem Itr.ext {w w' : World} {k : Nat} {s : ByteArray} {pos : Nat} (h : Itr w k s pos) (hx : Ext w w') : Itr w' k s pos := hx.blk h
section
variable {P : Program} {n : Nat} {ops : Array Oper} {dr : Nat × List Nat} {l : List Oper} {E : Env} {w : World} {K : Env → World → Prop}
variable {d : Option Nat} {ty : TypeId} {pos : String} {af : Array Edge} {g : Option (Nat × Bool)} {x y : Operand} {k : Nat} {t t' u : TypeId} {i j r : Int} {s : ByteArray} {m : Nat}
theorem G1_rangeS (hu : StrT P t) (hx : E.look x = some (.string s)) (he : effects P dr.1 ⟨d, .range t x, ty, pos, af, g⟩ = true) (hd : dstOk n d = true)
    (h : ∀ w', Itr w' w.heap.size s 0 → Ext w w' → w'.heap.size = w.heap.size + 1 → G P n ops dr l (E.put d (.pointer (some ⟨w.heap.size, 0, none⟩))) w' K) : G1 P n ops dr ⟨d, .range t x, ty, pos, af, g⟩ l E w K :=
  G1_eff _ (w.alloc (.stringIter s 0)) he hd (fun a ha => by simp [execOp, ha.eval hx, Instr.range, run_underlying (P := P) hu, newObj]; rfl) (.inr (Ext.alloc Ext.rfl' _).toS)
    (h _ (by unfold Itr; exact heap_alloc_new w _) (Ext.alloc Ext.rfl' _) (by simp))
theorem G1_nextS {v : Nat × Nat} (hx : E.look x = some (.pointer (some ⟨k, 0, none⟩))) (hk : Itr w k s m) (hm : m < s.size) (hv : Utf8.decode s m = v) (he : effects P dr.1 ⟨d, .next x true, ty, pos, af, g⟩ = true) (hw : writes dr.1 ⟨d, .next x true, ty, pos, af, g⟩ = true) (hd : dstOk n d = true)
    (h : ∀ w', Itr w' k s (m + v.2) → w.grownBy w' (some k) → w'.heap.size = w.heap.size → G P n ops dr l (E.put d (.tuple #[.bool true, .int .i64 (m : Int), .int .i32 (v.1 : Int)])) w' K) : G1 P n ops dr ⟨d, .next x true, ty, pos, af, g⟩ l E w K := by
  subst hv
  have hlt : k < w.heap.size := (Array.getElem?_eq_some_iff.1 hk).1
  refine G1_eff _ (w.iterAt k s (m + (Utf8.decode s m).2)) he hd (fun a ha => by simp [execOp, ha.eval hx, Lib.run_next_any_at w k s m ty hk hm]) (.inl hw) (h _ ?_ ?_ (by simp [World.iterAt]))
  · exact Lib.iterAt_heap w k s m _ hk
  · refine ⟨rfl, rfl, rfl, by simp [World.iterAt], fun q hq hne => ?_⟩
    simp only [World.iterAt]
    rw [Array.getElem?_setIfInBounds_ne (by intro e; subst e; exact hne rfl)]
theorem G1_nextE (hx : E.look x = some (.pointer (some ⟨k, 0, none⟩))) (hk : Itr w k s m) (hm : ¬ m < s.size) (he : effects P dr.1 ⟨d, .next x true, ty, pos, af, g⟩ = true) (hw : writes dr.1 ⟨d, .next x true, ty, pos, af, g⟩ = true) (hd : dstOk n d = true)
    (h : G P n ops dr l (E.put d (.tuple #[.bool false])) w K) : G1 P n ops dr ⟨d, .next x true, ty, pos, af, g⟩ l E w K :=
  G1_eff _ w he hd (fun a ha => by simp [execOp, ha.eval hx, Lib.run_next_end_at w k s m ty hk hm]) (.inl hw) h
theorem G1_runeStr {kk kk' : IntKind} (hi : IntT P t kk) (hk : StrT P t') (hx : E.look x = some (.int kk' i)) (hd : dstOk n d = true)
    (h : G P n ops dr l (E.put d (.string (Utf8.encode i))) w K) : G1 P n ops dr ⟨d, .convert t t' x, ty, pos, af, g⟩ l E w K :=
  G1_quiet _ hd (fun a ha w' _ => by simp [execOp, convert, ha.eval hx, run_underlying (P := P) hi, run_underlying (P := P) hk, Conv.intToString]) h
variable {Q : Exit → Act → World → Prop}
theorem W_scope {c : Code} (h : W P n c (Exit.noGoto Q) E w) : W P n (.scope c) Q E w := by
  unfold W at *
  exact fun a ha => wp_scope_straight (h a ha)
theorem Post_scope_normal (h : Post n Q .normal E w) : Post n (Exit.noGoto Q) .normal E w := by unfold Post at *; exact h
theorem Post_scope_ret (h : Post n Q .ret E w) : Post n (Exit.noGoto Q) .ret E w := by unfold Post at *; exact h
theorem Post_scope_exit {id : Nat} (h : Post n Q (.exit id) E w) : Post n (Exit.noGoto Q) (.exit id) E w := by unfold Post at *; exact h
end
theorem bget_get' {s : ByteArray} {k : Nat} (h : k < s.size) : s.get! k = bget s k := by
  rw [bget_list]
  have h' : k < s.data.toList.length := by rw [Array.length_toList]; exact h
  have h2 : k < s.data.size := h
  rw [List.getD_eq_getElem?_getD, List.getElem?_eq_getElem h']
  simp only [ByteArray.get!]
  rw [getElem!_pos s.data k h2]
  simp
theorem bget_idx {s : ByteArray} {k : Nat} (h : k < s.size) : bget s k = s[k]'h := by rw [← bget_get' h]; exact get_at s k h
/-- what is decoded at a byte that is no ASCII: nothing of ASCII, and nothing of ASCII is left out -/
theorem decode_skip (s : ByteArray) (i : Nat) (h : i < s.size) (hb : 128 ≤ (bget s i).toNat) : 128 ≤ (Utf8.decode s i).1 ∧ (Utf8.decode s i).1 ≤ 2147483647 ∧ 1 ≤ (Utf8.decode s i).2 ∧ i + (Utf8.decode s i).2 ≤ s.size ∧ ∀ j, i ≤ j → j < i + (Utf8.decode s i).2 → 128 ≤ (bget s j).toNat := by
  have hg : ∀ k, i + k < s.size → (s.get! (i + k)).toNat = (bget s (i + k)).toNat := fun k hk => by
    rw [bget_get' hk]
  have h0 := hg 0 (by omega)
  rw [Nat.add_zero] at h0
  have hn : ¬ (s.get! i).toNat < 128 := by omega
  have step : ∀ (d : Nat × Nat), 128 ≤ d.1 → d.1 ≤ 2147483647 → 1 ≤ d.2 → d.2 ≤ 4 → (∀ k, 1 ≤ k → k < d.2 → i + k < s.size ∧ (s.get! (i + k)).toNat / 64 = 2) →
      128 ≤ d.1 ∧ d.1 ≤ 2147483647 ∧ 1 ≤ d.2 ∧ i + d.2 ≤ s.size ∧ ∀ j, i ≤ j → j < i + d.2 → 128 ≤ (bget s j).toNat := by
    intro d a1 a2 a3 a4 a5
    refine ⟨a1, a2, a3, ?_, ?_⟩
    · by_cases h1 : d.2 = 1
      · omega
      · have := (a5 (d.2 - 1) (by omega) (by omega)).1; omega
    · intro j hj1 hj2
      by_cases hji : j = i
      · rw [hji]; exact hb
      · obtain ⟨b1, b2⟩ := a5 (j - i) (by omega) (by omega)
        have b3 := hg (j - i) b1
        rw [show i + (j - i) = j by omega] at b2 b3
        omega
  have h1 := decode_high s i h (by rw [← bget_idx h]; exact hb)
  have h2 := decode_le s i
  have hw : (Utf8.decode s i).2 ≤ 4 ∧ ∀ k, 1 ≤ k → k < (Utf8.decode s i).2 → i + k < s.size ∧ (s.get! (i + k)).toNat / 64 = 2 := by
    simp only [Utf8.decode, Nat.add_zero, hn, if_false]
    repeat' split
    all_goals refine ⟨by simp, fun k hk1 hk2 => ?_⟩
    all_goals simp only [Bool.and_eq_true, decide_eq_true_eq, beq_iff_eq] at *
    all_goals try (exfalso; omega)
    all_goals rcases (show k = 1 ∨ k = 2 ∨ k = 3 by omega) with rfl | rfl | rfl
    all_goals first
      | (exfalso; omega)
      | exact ⟨by omega, by omega⟩
  exact step _ h1.1 h2 h1.2 hw.1 hw.2
theorem rune_facts (r : Nat) (h : 128 ≤ r) : 2 ≤ (Utf8.encode (r : Int)).size ∧ (Utf8.encode (r : Int)).size ≤ 4 ∧ 128 ≤ (bget (Utf8.encode (r : Int)) ((Utf8.encode (r : Int)).size - 1)).toNat := by
  unfold Utf8.encode
  simp only
  generalize hc : (if Utf8.valid (r : Int) = true then (r : Int).toNat else Utf8.runeError) = c
  have hc1 : 128 ≤ c := by
    rw [← hc]; split
    · omega
    · decide
  rw [if_neg (by omega)]
  split
  · refine ⟨Nat.le_of_ble_eq_true rfl, Nat.le_of_ble_eq_true rfl, ?_⟩
    show 128 ≤ (UInt8.ofNat (0x80 + c % 64)).toNat
    rw [UInt8.toNat_ofNat']; omega
  · split
    · refine ⟨Nat.le_of_ble_eq_true rfl, Nat.le_of_ble_eq_true rfl, ?_⟩
      show 128 ≤ (UInt8.ofNat (0x80 + c % 64)).toNat
      rw [UInt8.toNat_ofNat']; omega
    · refine ⟨Nat.le_of_ble_eq_true rfl, Nat.le_of_ble_eq_true rfl, ?_⟩
      show 128 ≤ (UInt8.ofNat (0x80 + c % 64)).toNat
      rw [UInt8.toNat_ofNat']; omega
end Go.V
