/- Replies: how many there are in one; memory tells one tree alone; in plain Lean. -/
import Derived.Test.YtikjnmpijflnaaaDoorVRepHid
import Derived.Test.YtikjnmpijflnaaaDoorVRows
namespace Go.V
/-- how many replies there are in one, so deep -/
def cntT : Nat → Rep → Nat
  | 0, _ => 1
  | d + 1, t => 1 + (t.l.map (cntT d)).sum
def cntL (d : Nat) (l : List Rep) : Nat := (l.map (cntT d)).sum
theorem cntL_cons (d : Nat) (x : Rep) (l : List Rep) : cntL d (x :: l) = cntT d x + cntL d l := by simp [cntL]
theorem cntT_pos (d : Nat) (t : Rep) : 1 ≤ cntT d t := by cases d <;> simp [cntT]
theorem cntL_len (d : Nat) : ∀ l : List Rep, l.length ≤ cntL d l
  | [] => Nat.zero_le _
  | x :: l => by
    have := cntT_pos d x
    have := cntL_len d l
    rw [cntL_cons, List.length_cons]
    omega
theorem cntT_succ (d : Nat) (t : Rep) : cntT (d + 1) t = 1 + cntL d t.l := rfl
theorem sl_det {α : Type} {e : Enc α} (hinj : ∀ x y, e.enc x = e.enc y → x = y) {H : Array Obj} {p q : Option Addr} {c c' : Nat} {xs ys : List α} (h : Sl H e p c xs) (k : Sl H e q c' ys) (hl : xs.length = ys.length) (ha : adr p 0 = adr q 0) : xs = ys := by
  have hadr : ∀ j, adr p j = adr q j := fun j => by
    have h1 := adr_add p 0 j
    have h2 := adr_add q 0 j
    rw [Nat.zero_add] at h1 h2
    rw [← h1, ← h2, ha]
  apply List.ext_getElem? 
  intro i
  by_cases hi : i < xs.length
  · obtain ⟨x, hx⟩ := get_some hi
    obtain ⟨y, hy⟩ := get_some (xs := ys) (k := i) (by omega)
    rw [hx, hy]
    congr 1
    apply hinj
    apply List.ext_getElem?
    intro m
    by_cases hm : m < e.sz
    · obtain ⟨v, hv⟩ := get_some (xs := e.enc x) (k := m) (by rw [e.len]; exact hm)
      obtain ⟨u, hu⟩ := get_some (xs := e.enc y) (k := m) (by rw [e.len]; exact hm)
      have h1 := h.cell i x hx m v hv
      have h2 := k.cell i y hy m u hu
      rw [hadr, h2] at h1
      rw [hv, hu]
      injection h1 with h1
      rw [h1]
    · rw [List.getElem?_eq_none (by rw [e.len]; omega), List.getElem?_eq_none (by rw [e.len]; omega)]
  · rw [List.getElem?_eq_none (by omega), List.getElem?_eq_none (by omega)]
theorem eRep_inj : ∀ x y : RawR, eRep.enc x = eRep.enc y → x = y := by
  intro x y h
  cases x; cases y
  simp only [eRep, List.cons.injEq, Value.int.injEq, Value.string.injEq, Value.slice.injEq, and_true, true_and] at h
  obtain ⟨rfl, rfl, rfl, rfl, rfl, rfl⟩ := h
  rfl
theorem RepAt.det {H : Array Obj} : ∀ {d e : Nat} {r : RawR} {t u : Rep}, RepAt H d r t → RepAt H e r u → t = u
  | 0, _, _, _, _, h, _ => h.elim
  | d + 1, 0, _, _, _, _, k => k.elim
  | d + 1, e + 1, r, t, u, ⟨h1, h2, h3, h4, _, _, rs, hs, hl, hg⟩, ⟨k1, k2, k3, k4, _, _, rs', hs', hl', hg'⟩ => by
    obtain rfl := sl_det eRep_inj hs hs' (by omega) rfl
    refine Rep.ext' (h1.symm.trans k1) (h2.symm.trans k2) (h3.symm.trans k3) ?_
    apply List.ext_getElem?
    intro i
    by_cases hi : i < rs.length
    · obtain ⟨x, hx⟩ := get_some hi
      obtain ⟨a, ha⟩ := get_some (xs := t.l) (k := i) (by omega)
      obtain ⟨b, hb⟩ := get_some (xs := u.l) (k := i) (by omega)
      rw [ha, hb, RepAt.det (hg i x a hx ha) (hg' i x b hx hb)]
    · rw [List.getElem?_eq_none (by omega), List.getElem?_eq_none (by omega)]
theorem RepsAt.det {H : Array Obj} {d e : Nat} {p q : Option Addr} {c c' : Nat} {rs rs' : List RawR} {ts us : List Rep} (h : RepsAt H d p c rs ts) (k : RepsAt H e q c' rs' us) (hl : rs.length = rs'.length) (ha : adr p 0 = adr q 0) : ts = us := by
  obtain rfl := sl_det eRep_inj h.sl k.sl hl ha
  have l1 := h.len
  have l2 := k.len
  apply List.ext_getElem?
  intro i
  by_cases hi : i < rs.length
  · obtain ⟨x, hx⟩ := get_some hi
    obtain ⟨a, ha⟩ := get_some (xs := ts) (k := i) (by omega)
    obtain ⟨b, hb⟩ := get_some (xs := us) (k := i) (by omega)
    rw [ha, hb, RepAt.det (h.get i x a hx ha) (k.get i x b hx hb)]
  · rw [List.getElem?_eq_none (by omega), List.getElem?_eq_none (by omega)]
theorem RepsAt.cells {H H' : Array Obj} (h : ∀ a v, hcell H a = some v → hcell H' a = some v) {d : Nat} {p : Option Addr} {c : Nat} {rs : List RawR} {ts : List Rep} (k : RepsAt H d p c rs ts) : RepsAt H' d p c rs ts :=
  ⟨k.sl.cells h, k.len, fun i r t hr ht => (k.get i r t hr ht).cells h⟩
/-- a row's first part -/
theorem Own.take {α : Type} {e : Enc α} {w : World} {B T : Nat} {p : Option Addr} {c : Nat} {xs : List α} (h : Own w B T e p c xs) (k : Nat) : Own w B T e p c (xs.take k) := by
  have hft : ∀ (l : List α) (k : Nat), (l.take k).flatMap e.enc = (l.flatMap e.enc).take (k * e.sz) := by
    intro l
    induction l with
    | nil => intro k; simp
    | cons x l ih =>
      intro k
      cases k with
      | zero => simp
      | succ k =>
        rw [List.take_succ_cons, List.flatMap_cons, List.flatMap_cons, ih, List.take_append, e.len, show (k + 1) * e.sz - e.sz = k * e.sz by rw [Nat.succ_mul]; omega, List.take_of_length_le (l := e.enc x) (by rw [e.len, Nat.succ_mul]; omega)]
  have hlen : ∀ l : List α, (l.flatMap e.enc).length = l.length * e.sz := by
    intro l
    induction l with
    | nil => simp
    | cons x l ih => rw [List.flatMap_cons, List.length_append, ih, e.len, List.length_cons, Nat.succ_mul]; omega
  unfold Own World.ownsRow at h ⊢
  obtain ⟨_, h⟩ := h
  refine ⟨hlen _, ?_⟩
  rcases h with ⟨hv, hn⟩ | ⟨g, cap, cur, hv, hb, hg, hnc, hcm, hcs, ht⟩
  · obtain rfl := List.eq_nil_of_length_eq_zero hn
    exact .inl ⟨by simpa using hv, by simp⟩
  · injection hv with hp _ hc
    subst hp hc
    refine .inr ⟨g, c, cur, rfl, hb, hg, Nat.le_trans (by simp; omega) hnc, hcm, hcs, ?_⟩
    rw [hft, ← ht, List.take_take]
    congr 1
    rw [List.length_take]
    by_cases hk : k ≤ xs.length
    · rw [Nat.min_eq_left hk]
      exact (Nat.min_eq_left (Nat.mul_le_mul_right _ hk)).symm
    · rw [Nat.min_eq_right (by omega)]
      exact (Nat.min_eq_right (Nat.mul_le_mul_right _ (by omega))).symm
end Go.V
