/- slices.Backward over strings: its contract for a range over it. -/
import Derived.RangeFuncBox
import Derived.RangeFuncLeaves
import Derived.Shelf.Abstract
import Derived.WalkKit
import Derived.OwnWalkIn
import Derived.TacticsInMore
import Derived.LoopNIn
import Derived.LoopIn
import Derived.Maps.AppendAt
import Derived.Test.YtkibkldikjkokaaProg
namespace Go.Proofs.Ytkibkldikjkokaa
open Go.RowKit Go.Shelf
attribute [local go_sem] Oper.semAt_some
def uptoB {α : Type} (f : Nat → α) (k : Nat) : List α := (List.range k).map f
theorem uptoB_succ {α : Type} (f : Nat → α) (k : Nat) : uptoB f (k + 1) = uptoB f k ++ [f k] := by simp [uptoB, List.range_succ]
theorem uptoB_length {α : Type} (f : Nat → α) (k : Nat) : (uptoB f k).length = k := by simp [uptoB]
def Hid (p : Prop) : Prop := p
/-- what lay below n₀, and the box Bs, lie as they lay -/
def KB (n₀ Bs : Nat) (W W' : World) : Prop := Below n₀ W W' ∧ W'.heap[Bs]? = W.heap[Bs]?
theorem KB.trans {n₀ Bs : Nat} {A B C : World} (h : KB n₀ Bs A B) (k : KB n₀ Bs B C) : KB n₀ Bs A C := ⟨h.1.trans k.1, k.2.trans h.2⟩
theorem KB.refl (n₀ Bs : Nat) (W : World) : KB n₀ Bs W W := ⟨Below.refl _ _, rfl⟩
theorem KB.cell {n₀ Bs : Nat} {A B : World} (h : KB n₀ Bs A B) : B.cell? ⟨Bs, 0, none⟩ = A.cell? ⟨Bs, 0, none⟩ := by
  simp only [World.cell?]; rw [h.2]
set_option maxRecDepth 100000 in
set_option maxHeartbeats 2000000 in
theorem back1_in (F : Fence) (n : Nat) (h7 : F.fn 91) (hro : F.round = none) (hn : 1 ≤ n) (l Bs n₀ b off len cap : Nat) (zs : Nat → ByteArray) (hreach : len ≤ 1000000) (hb : b < n₀) (J Jx : List (Nat × ByteArray) → World → Prop)
    (hY : ∀ pre x W, J pre W → pre.length < len → YieldAt F (n - 1) Try.prog l #[.int .i64 (x.1 : Int), .string x.2] W fun e W' =>
      (e = .returned (.bool true) ∧ J (pre ++ [x]) W' ∧ KB n₀ Bs W W') ∨ (e = .returned (.bool false) ∧ Jx (pre ++ [x]) W'))
    (W : World) (hBs : W.cell? ⟨Bs, 0, none⟩ = some (.slice (some ⟨b, off, none⟩) len cap)) (hc : ∀ j, j < len → W.cell? ⟨b, off + j, none⟩ = some (.string (zs j))) (h0 : J [] W) :
    CallsIn F n Try.prog 91 #[.func (.yield l) #[] #[], .pointer (some ⟨Bs, 0, none⟩)] W fun e W' => (∃ v, e = .returned v) ∧
      ((∃ ys, ys = uptoB (fun j => (len - 1 - j, zs (len - 1 - j))) len ∧ J ys W') ∨ (∃ pre, (∃ k, k ≤ len ∧ pre = uptoB (fun j => (len - 1 - j, zs (len - 1 - j))) k) ∧ Jx pre W')) := by
  refine callsIn_of_wp Try.func91 rfl h7 ?_ hro
  simp only [Try.ntmps91, List.size_toArray, List.length_cons, List.length_nil, Nat.reduceAdd, Nat.reduceSub, Array.replicate_succ, Array.replicate_zero, List.push_toArray, List.append_toArray, List.nil_append, List.cons_append]
  gi_wp2
  gi_loopw [3] (fun i wr => ∃ k : Nat, k ≤ len ∧ i = .int .i64 ((len : Int) - 1 - (k : Int)) ∧ J (uptoB (fun j => (len - 1 - j, zs (len - 1 - j))) k) wr ∧ KB n₀ Bs W wr)
    (fun i _ => (intOf i + 1).toNat)
  case atStart => exact ⟨0, Nat.zero_le _, by simp, h0, KB.refl _ _ _⟩
  case round =>
    obtain ⟨k, hk, rfl, hJs, hnx⟩ := hrel
    have hBx : wr.cell? ⟨Bs, 0, none⟩ = some (.slice (some ⟨b, off, none⟩) len cap) := hnx.cell.trans hBs
    by_cases hlt : k < len
    · obtain ⟨q, hq⟩ : ∃ q : Nat, q = len - 1 - k := ⟨_, rfl⟩
      have hqi : (len : Int) - 1 - (k : Int) = (q : Int) := by omega
      rw [hqi]
      have hcx : wr.cell? ⟨b, off + q, none⟩ = some (.string (zs q)) := (hnx.1.cell (p := ⟨b, off + q, none⟩) hb).trans (hc q (by omega))
      obtain ⟨fn, tmps, assign, body, hy, hR⟩ := hY _ (q, zs q) wr hJs (by rw [uptoB_length]; exact hlt)
      dsimp only at hy
      have HQ : Hid (q + 1 + k = len) := by unfold Hid; omega
      have hql : q < len := by omega
      clear hq hqi
      gi_wp2
      refine hR.mono ?_
      have eK : uptoB (fun j => (len - 1 - j, zs (len - 1 - j))) (k + 1) = uptoB (fun j => (len - 1 - j, zs (len - 1 - j))) k ++ [(q, zs q)] := by
        unfold Hid at HQ
        rw [uptoB_succ, show len - 1 - k = q by omega]
      rintro e W3 (⟨rfl, hJ3, hk3⟩ | ⟨rfl, hJx3⟩)
      · gi_wp2
        go_roundw
        case rel => exact ⟨k + 1, by omega, by unfold Hid at HQ; first | (simp; done) | (simp; omega), by rw [eK]; exact hJ3, hnx.trans hk3⟩
        case measure => unfold Hid at HQ; first | (simp [intOf]; done) | (simp [intOf]; omega)
      · gi_wp2
        refine bodyPost_ret (results_none rfl _ _ _) rfl ?_
        exact ⟨⟨_, rfl⟩, .inr ⟨_, ⟨k + 1, by omega, eK.symm⟩, hJx3⟩⟩
    · obtain rfl : k = len := by omega
      gi_wp2
      go_end0
      exact ⟨⟨_, rfl⟩, .inl ⟨_, rfl, hJs⟩⟩
set_option maxRecDepth 100000 in
set_option maxHeartbeats 1000000 in
theorem back1_nil_in (F : Fence) (n : Nat) (h7 : F.fn 91) (hro : F.round = none) (l Bs : Nat) (J : List (Nat × ByteArray) → World → Prop) (W : World) (a : Option Addr) (cap : Nat) (hBs : W.cell? ⟨Bs, 0, none⟩ = some (.slice a 0 cap)) (h0 : J [] W) :
    CallsIn F n Try.prog 91 #[.func (.yield l) #[] #[], .pointer (some ⟨Bs, 0, none⟩)] W fun e W' => (∃ v, e = .returned v) ∧ J [] W' := by
  refine callsIn_of_wp Try.func91 rfl h7 ?_ hro
  simp only [Try.ntmps91, List.size_toArray, List.length_cons, List.length_nil, Nat.reduceAdd, Nat.reduceSub, Array.replicate_succ, Array.replicate_zero, List.push_toArray, List.append_toArray, List.nil_append, List.cons_append]
  gi_wp2
  gi_loopw [3] (fun i wr => i = .int .i64 (-1) ∧ J [] wr) (fun _ _ => 0)
  case atStart => exact ⟨rfl, h0⟩
  case round =>
    obtain ⟨rfl, hJs⟩ := hrel
    gi_wp2
    go_end0
    exact ⟨⟨_, rfl⟩, hJs⟩
set_option maxHeartbeats 1000000 in
theorem back_in (F : Fence) (n : Nat) (h5 : F.fn 71) (hro : F.round = none) (a : Option Addr) (len cap : Nat) (w : World) :
    CallsIn F n Try.prog 71 #[.slice a len cap] w fun e w' => e = .returned (.func (.func 91) #[] #[.pointer (some ⟨w.heap.size, 0, none⟩)]) ∧ w' = w.alloc (.cells #[.slice a len cap] 37) := by
  refine callsIn_of_wp Try.func71 rfl h5 ?_ hro
  simp only [Try.ntmps71, List.size_toArray, List.length_cons, List.length_nil, Nat.reduceAdd, Nat.reduceSub, Array.replicate_succ, Array.replicate_zero, List.push_toArray, List.append_toArray, List.nil_append, List.cons_append]
  gi_wp2
  go_ret
  exact ⟨rfl, rfl⟩
/-- the slice's strings, in a block below n₀ -/
def StrsAt (n₀ : Nat) (W : World) (a : Option Addr) (len : Nat) (zs : Nat → ByteArray) : Prop := len = 0 ∨ ∃ b off, a = some ⟨b, off, none⟩ ∧ b < n₀ ∧ ∀ j, j < len → W.cell? ⟨b, off + j, none⟩ = some (.string (zs j))
theorem StrsAt.below {n₀ : Nat} {A B : World} (h : Below n₀ A B) {a : Option Addr} {len : Nat} {zs : Nat → ByteArray} : StrsAt n₀ A a len zs → StrsAt n₀ B a len zs
  | .inl e => .inl e
  | .inr ⟨b, off, e, hb, hc⟩ => .inr ⟨b, off, e, hb, fun j hj => (h.cell (p := ⟨b, off + j, none⟩) hb).trans (hc j hj)⟩
theorem back_stops (F : Fence) (n : Nat) (h7 : F.fn 91) (hro : F.round = none) (hn : 1 ≤ n) (Bs n₀ : Nat) (a : Option Addr) (len cap : Nat) (zs : Nat → ByteArray) (hreach : len ≤ 1000000) (w : World) (hBs : Bs < w.heap.size) (hn₀ : n₀ ≤ w.heap.size)
    (hc : w.cell? ⟨Bs, 0, none⟩ = some (.slice a len cap)) (hI : StrsAt n₀ w a len zs) :
    SeqStopsK F n Try.prog 91 #[.pointer (some ⟨Bs, 0, none⟩)] (fun x : Nat × ByteArray => #[Value.int .i64 (x.1 : Int), .string x.2]) (KB n₀ Bs) (fun ys => ys = uptoB (fun j => (len - 1 - j, zs (len - 1 - j))) len) (fun pre => True) len w := fun l J Jx W hW _ _ hY h0 => by
  have hc' := (hW.cell (p := ⟨Bs, 0, none⟩) hBs).trans hc
  rcases hI.below (hW.mono hn₀) with rfl | ⟨b, off, rfl, hb, hcs⟩
  · exact (back1_nil_in F n h7 hro l Bs J W a cap hc' h0).mono fun e W' ⟨he, hj⟩ => ⟨he, .inl ⟨_, rfl, hj⟩⟩
  · refine (back1_in F n h7 hro hn l Bs n₀ b off len cap zs hreach hb J Jx hY W hc' hcs h0).mono ?_
    rintro e W' ⟨he, ⟨ys, rfl, hj⟩ | ⟨pre, _, hj⟩⟩
    · exact ⟨he, .inl ⟨_, rfl, hj⟩⟩
    · exact ⟨he, .inr ⟨_, trivial, hj⟩⟩
end Go.Proofs.Ytkibkldikjkokaa
