/- The document's example for replies. -/
import Derived.Test.YtikjnmpijflnaaaDoorVRepWrite2
import Derived.Test.YtikjnmpijflnaaaDoorVRepList
namespace Go.V
def toRep (r : RawR) : Rep := .mk r.kind r.s r.n []
theorem repAt_leaf {H : Array Obj} {r : RawR} (h0 : r.len = 0) (hp : r.p = none) (hc : r.cap = 0) (hs : r.s.size ≤ maxLen) (hn : -9223372036854775808 ≤ r.n ∧ r.n ≤ 9223372036854775807) : RepAt H 1 r (toRep r) :=
  ⟨rfl, rfl, rfl, h0, hs, hn, [], by rw [hp, hc]; exact Sl.nil, rfl, fun i r' t' h => by simp at h⟩
theorem repsAt_leaves {H : Array Obj} {p : Option Addr} {c : Nat} {rs : List RawR} (hs : Sl H eRep p c (rs.map clrR)) (hf : ∀ r ∈ rs, r.s.size ≤ maxLen ∧ (-9223372036854775808 ≤ r.n ∧ r.n ≤ 9223372036854775807)) : RepsAt H 1 p c (rs.map clrR) (rs.map toRep) := by
  refine ⟨hs, by simp, fun i r t hr ht => ?_⟩
  rw [List.getElem?_map] at hr ht
  obtain ⟨q, hq, rfl⟩ := Option.map_eq_some_iff.1 hr
  rw [hq] at ht
  injection ht with ht
  rw [← ht]
  have := hf q (List.mem_of_getElem? hq)
  exact repAt_leaf (r := clrR q) rfl rfl rfl this.1 this.2
theorem repAt_list {H : Array Obj} {d : Nat} {p : Option Addr} {c : Nat} {rs : List RawR} {ts : List Rep} {k : Int} (h : RepsAt H d p c rs ts) : RepAt H (d + 1) ⟨k, ⟨#[]⟩, 0, p, rs.length, c⟩ (.mk k ⟨#[]⟩ 0 ts) :=
  ⟨rfl, rfl, rfl, h.len, Nat.zero_le _, (by show (-9223372036854775808 : Int) ≤ 0 ∧ (0 : Int) ≤ 9223372036854775807; decide), rs, h.sl, h.len, h.get⟩
theorem repsAt_one {H : Array Obj} {d : Nat} {p : Option Addr} {c : Nat} {r : RawR} {t : Rep} (hs : Sl H eRep p c [r]) (h : RepAt H d r t) : RepsAt H d p c [r] [t] :=
  ⟨hs, rfl, fun i r' t' hr ht => by
    match i with
    | 0 => simp at hr ht; rw [← hr, ← ht]; exact h
    | k + 1 => simp at hr⟩
end Go.V
namespace Go.Proofs.YtikjnmpijflnaaaDoor
open Go.V
attribute [local irreducible] Blk Own hcell IntT SliceT PlainT AggT SizeT StrT FieldT ZeroT EqT ArrT
def exL : List RawR := [leafR 3 ⟨#[97]⟩ 0, leafR 2 ⟨#[]⟩ (-1), leafR 4 ⟨#[]⟩ 0]
def exRep : Rep := .mk 5 ⟨#[]⟩ 0 (exL.map toRep)
def exOut : List UInt8 := [42, 51, 13, 10, 36, 49, 13, 10, 97, 13, 10, 58, 45, 49, 13, 10, 36, 45, 49, 13, 10]
theorem ex_out : wR [exRep] = exOut := by decide +kernel
theorem ex_small : smallT 5 exRep := by
  refine ⟨by decide, fun x hx => ?_⟩
  have hx' : x = toRep (leafR 3 ⟨#[97]⟩ 0) ∨ x = toRep (leafR 2 ⟨#[]⟩ (-1)) ∨ x = toRep (leafR 4 ⟨#[]⟩ 0) := by
    simpa [exRep, exL, Rep.l] using hx
  rcases hx' with rfl | rfl | rfl <;> exact ⟨by decide, fun y hy => by cases hy⟩
theorem awake04 {w : World} (hT : Pow w) : Ctr Tryd.prog 12 [] w (fun v w' => v = .bool true ∧ Ext w w') := by
  refine Ctr_of Tryd.func12 Tryd.ntmps12 rfl rfl rfl ?_
  repeat' (first | (apply G_on; exact rfl; first | (apply G1_assign; exact rfl; exact rfl) | (apply G1_call (f := 22); exact rfl; exact rfl; exact rfl; exact mk_str; rintro _ w1 ⟨rfl, hx1⟩; refine ⟨(by first | exact .inl rfl | exact .inr (by assumption)), ?_⟩) | (apply G1_call (f := 21); exact rfl; exact rfl; exact rfl; exact mk_int; rintro _ w2 ⟨rfl, hx2⟩; refine ⟨(by first | exact .inl rfl | exact .inr (by assumption)), ?_⟩) | (apply G1_call (f := 23); exact rfl; exact rfl; exact rfl; exact mk_none; rintro _ w3 ⟨rfl, hx3⟩; refine ⟨(by first | exact .inl rfl | exact .inr (by assumption)), ?_⟩)) | apply G_nil | apply Post_next | apply W_seq | apply W_region)
  have hx0 : Ext w w3 := (by repeat first | assumption | exact Ext.rfl' | apply Ext.drew | apply Ext.alloc | refine Ext.trans ?_ (by assumption))
  apply G_on; exact rfl
  apply G1_buildN eRep exL; exact T.s22; exact rfl; exact rfl; exact rfl; exact rfl; exact rfl; exact Nat.succ_pos _; exact Nat.le_of_ble_eq_true rfl; exact rfl; exact rfl
  intro p4 w4 ho4 hx4 hz4
  replace hx4 := hx0.trans hx4
  skip
  apply G_on; exact rfl; apply G1_call; exact rfl; exact rfl; exact rfl; exact list_leaf ho4.sl (by intro r hr; simp only [exL, List.mem_cons, List.not_mem_nil, or_false] at hr; rcases hr with rfl | rfl | rfl <;> rfl) (by decide); rintro _ w5 ⟨p5, c5, rfl, hs5, hx5⟩; refine ⟨(by first | exact .inl rfl | exact .inr (by assumption)), ?_⟩
  replace hx5 := hx4.trans hx5
  have hr5 := repsAt_leaves hs5 (by intro r hr; simp only [exL, List.mem_cons, List.not_mem_nil, or_false] at hr; rcases hr with rfl | rfl | rfl <;> exact ⟨by decide, by decide, by decide⟩)
  have hR5 : RepAt w5.heap 2 ⟨5, ⟨#[]⟩, 0, p5, exL.length, c5⟩ exRep := by
    have := repAt_list (k := 5) hr5
    rw [List.length_map] at this
    exact this
  skip
  apply G_on; exact rfl
  apply G1_build1 eRep (⟨5, ⟨#[]⟩, 0, p5, exL.length, c5⟩ : RawR); exact T.s22; exact rfl; exact rfl; exact rfl; decide; exact rfl; exact rfl
  intro p6 w6 hp6 hs6 _ hx6 hz6
  have hR6 := repsAt_one hs6 (hR5.ext hx6)
  replace hx6 := hx5.trans hx6
  skip
  apply G_on; exact rfl; apply G1_call; exact rfl; exact rfl; exact rfl; exact write_spec hR6 (by intro t ht; rw [List.mem_singleton.1 ht]; exact ex_small) (by rw [ex_out]; decide) (TabIs.ext hT hx6); rintro _ w7 ⟨p7, c7, rfl, hs7, hx7⟩; refine ⟨(by first | exact .inl rfl | exact .inr (by assumption)), ?_⟩
  rw [ex_out] at hs7 ⊢
  repeat' (first | (apply G_on; exact rfl; first | (apply G1_assign; exact rfl; exact rfl) | (apply G1_toString; exact T.s28; exact T.i5; exact T.str9; exact rfl; exact hs7; exact rfl) | (apply G1_seql; exact rfl; exact rfl; exact rfl)) | apply G_nil | apply Post_next | apply W_ret)
  refine Post_ret Tryd.results12 ⟨_, _, rfl, rfl, rfl⟩ ?_
  exact ⟨by show Value.bool (decide _) = _; congr 1, hx6.trans hx7⟩
end Go.Proofs.YtikjnmpijflnaaaDoor
