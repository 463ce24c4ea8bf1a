/- Adding members to a sorted set, by a map of what is given; in plain Lean. -/
import Derived.Test.YtdnhagiokdnopaaVZColl
import Derived.Test.YtdnhagiokdnopaaVZSum
namespace Go.V
theorem getZ_filter (z : List Mem) (g : ByteArray → Bool) (u : ByteArray) : getZ (z.filter (fun x => g x.2)) u = if g u = true then getZ z u else none := by
  unfold getZ
  rw [List.find?_filter]
  by_cases h : g u = true
  · rw [if_pos h]
    congr 2
    funext x
    by_cases e : x.2 = u
    · simp [e, h]
    · simp [e]
  · rw [if_neg h]
    have : List.find? (fun a => decide (g a.2 = true ∧ decide (a.2 = u) = true)) z = none := by
      rw [List.find?_eq_none]
      intro x _ e
      have e := of_decide_eq_true e
      have e2 := of_decide_eq_true e.2
      exact h (by rw [← e2]; exact e.1)
    rw [this]; rfl
theorem OkZ.filter {z : List Mem} (h : OkZ z) (p : Mem → Bool) : OkZ (z.filter p) :=
  ⟨h.sorted.filter p, fun x hx y hy e => h.nod x (List.mem_filter.1 hx).1 y (List.mem_filter.1 hy).1 e⟩
theorem OkZ.fold (ms : List Mem) : ∀ {z : List Mem}, OkZ z → OkZ (ms.foldl putL z) := by
  induction ms with
  | nil => intro z h; exact h
  | cons m ms ih => intro z h; exact ih (h.put m)
theorem del_len {z : List Mem} (h : z.Pairwise (fun x y => x.2 ≠ y.2)) {s : Int} {u : ByteArray} (hm : (s, u) ∈ z) : (z.filter (fun x => decide (x.2 ≠ u))).length + 1 = z.length := by
  induction z with
  | nil => cases hm
  | cons x z ih =>
    have h1 := (List.pairwise_cons.1 h).1
    have h2 := (List.pairwise_cons.1 h).2
    by_cases e : x.2 = u
    · rw [List.filter_cons_of_neg (by simp [e]), List.filter_eq_self.2 (fun y hy => by simp; intro e2; exact h1 y hy (e.trans e2.symm))]; rfl
    · rw [List.filter_cons_of_pos (by simp [e]), List.length_cons, List.length_cons]
      rw [ih h2 ((List.mem_cons.1 hm).resolve_left (fun e2 => e (by rw [← e2])))]
def remZ (gz zt : List Mem) : List Mem := gz.filter (fun x => (getZ zt x.2).isNone)
def updZ (gz : List Mem) (m : Mem) : Mem := match getZ gz m.2 with
  | some s => (s, m.2)
  | none => m
def chZ (gz : List Mem) (m : Mem) : Bool := match getZ gz m.2 with
  | some s => decide (s ≠ m.1)
  | none => false
theorem updZ_name (gz : List Mem) (m : Mem) : (updZ gz m).2 = m.2 := by
  unfold updZ; split <;> rfl
theorem getZ_rem (gz zt : List Mem) (u : ByteArray) : getZ (remZ gz zt) u = if (getZ zt u).isNone = true then getZ gz u else none := getZ_filter gz (fun u => (getZ zt u).isNone) u
/-- the next member of z: it is given or not -/
theorem getZ_rem_at {gz z : List Mem} (hz : OkZ z) {j : Nat} {x : Mem} (hx : z[j]? = some x) : getZ (remZ gz (z.take j)) x.2 = getZ gz x.2 := by
  rw [getZ_rem, getZ_take_none hz hx]; rfl
theorem rem_snoc_none {gz z : List Mem} {j : Nat} {x : Mem} (hx : z[j]? = some x) (h : getZ gz x.2 = none) : remZ gz (z.take (j + 1)) = remZ gz (z.take j) := by
  unfold remZ
  apply List.filter_congr
  intro y hy
  rw [take_snoc hx, getZ_append, getZ_one]
  have : x.2 ≠ y.2 := fun e => (getZ_none x.2).1 h y hy e.symm
  rw [if_neg this]; simp
theorem rem_snoc_del {gz z : List Mem} {j : Nat} {x : Mem} (hx : z[j]? = some x) : remZ gz (z.take (j + 1)) = (remZ gz (z.take j)).filter (fun y => decide (y.2 ≠ x.2)) := by
  unfold remZ
  rw [List.filter_filter]
  apply List.filter_congr
  intro y _
  rw [take_snoc hx, getZ_append, getZ_one]
  by_cases e : x.2 = y.2
  · rw [if_pos e]; simp [e]
  · rw [if_neg e]; simp; intro _; exact fun e2 => e e2.symm
theorem rem_del {gz z : List Mem} (hg : OkZ gz) (hz : OkZ z) {j : Nat} {x : Mem} (hx : z[j]? = some x) {s : Int} (h : getZ gz x.2 = some s) :
    delF (getZ (remZ gz (z.take j))) x.2 = getZ (remZ gz (z.take (j + 1))) ∧ (remZ gz (z.take j)).length - 1 = (remZ gz (z.take (j + 1))).length := by
  constructor
  · funext u
    rw [rem_snoc_del hx, getZ_filter (remZ gz (z.take j)) (fun v => decide (v ≠ x.2)) u]
    unfold delF
    by_cases e : u = x.2 <;> simp [e]
  · have hok := hg.filter (fun y => (getZ (z.take j) y.2).isNone)
    have hm : (s, x.2) ∈ remZ gz (z.take j) := (getZ_iff hok x.2 s).1 (by
      have := getZ_rem_at (gz := gz) hz hx
      unfold remZ at this
      rw [this, h])
    have := del_len hok.pair hm
    rw [rem_snoc_del hx]
    unfold remZ at *
    omega
theorem getZ_fold (z : List Mem) (u : ByteArray) : ∀ (ms a b : List Mem), OkZ a → OkZ b → (∀ v, getZ a v = (getZ b v).or (getZ z v)) → getZ (ms.foldl putL a) u = (getZ (ms.foldl putL b) u).or (getZ z u)
  | [], _, _, _, _, h => h u
  | m :: ms, a, b, ha, hb, h => by
    refine getZ_fold z u ms (putL a m) (putL b m) (ha.put m) (hb.put m) (fun v => ?_)
    rw [getZ_putL ha, getZ_putL hb]
    by_cases e : v = m.2
    · simp [e]
    · simp [e, h v]
theorem getZ_add {z ms : List Mem} (hz : OkZ z) (u : ByteArray) : getZ (ms.foldl putL z) u = (getZ (ms.foldl putL []) u).or (getZ z u) :=
  getZ_fold z u ms z [] hz OkZ.nil (fun v => by simp [getZ])
theorem add_mem {z ms rest : List Mem} (hz : OkZ z) (hr : ∀ x, x ∈ rest ↔ x ∈ remZ (ms.foldl putL []) z) (x : Mem) : x ∈ z.map (updZ (ms.foldl putL [])) ++ rest ↔ x ∈ ms.foldl putL z := by
  have hG := OkZ.fold ms OkZ.nil
  have hT := OkZ.fold ms hz
  obtain ⟨s, u⟩ := x
  rw [← getZ_iff hT, getZ_add hz, List.mem_append, hr, List.mem_map]
  have hrem : (s, u) ∈ remZ (ms.foldl putL []) z ↔ (getZ z u).isNone = true ∧ getZ (ms.foldl putL []) u = some s := by
    unfold remZ
    rw [List.mem_filter, ← getZ_iff hG]
    exact ⟨fun h => ⟨h.2, h.1⟩, fun h => ⟨h.2, h.1⟩⟩
  rw [hrem]
  constructor
  · rintro (⟨y, hy, e⟩ | ⟨h1, h2⟩)
    · have hn : u = y.2 := by rw [← updZ_name (ms.foldl putL []) y, e]
      have hgy := (getZ_iff hz y.2 y.1).2 hy
      subst hn
      unfold updZ at e
      cases hg : getZ (ms.foldl putL []) y.2 with
      | some s' => rw [hg] at e; injection e with e _; rw [e]; rfl
      | none => rw [hg] at e; simp only at e; rw [hgy, e]; rfl
    · rw [h2]; rfl
  · intro h
    cases hg : getZ (ms.foldl putL []) u with
    | some s' =>
      rw [hg] at h
      simp at h
      subst h
      cases hgz : getZ z u with
      | none => exact .inr ⟨rfl, rfl⟩
      | some s2 =>
        refine .inl ⟨(s2, u), (getZ_iff hz u s2).1 hgz, ?_⟩
        unfold updZ
        simp only [hg]
    | none =>
      rw [hg] at h
      simp at h
      refine .inl ⟨(s, u), (getZ_iff hz u s).1 h, ?_⟩
      unfold updZ
      simp only [hg]
theorem mem_fold {x : Mem} : ∀ (ms z : List Mem), x ∈ ms.foldl putL z → x ∈ z ∨ x ∈ ms
  | [], _, h => .inl h
  | m :: ms, z, h => by
    rcases mem_fold ms (putL z m) h with h | h
    · rcases (mem_putL m x z).1 h with rfl | h
      · exact .inr (by simp)
      · exact .inl h.1
    · exact .inr (List.mem_cons_of_mem _ h)
theorem add_nod {z rest : List Mem} {gz : List Mem} (hz : OkZ z) (hn : rest.Pairwise (fun a b => a.2 ≠ b.2)) (hr : ∀ x ∈ rest, x ∈ remZ gz z) : (z.map (updZ gz) ++ rest).Pairwise (fun a b => a.2 ≠ b.2) := by
  refine List.pairwise_append.2 ⟨?_, hn, fun a ha b hb => ?_⟩
  · rw [List.pairwise_map]
    refine hz.pair.imp ?_
    intro a b h
    rw [updZ_name, updZ_name]; exact h
  · obtain ⟨y, hy, rfl⟩ := List.mem_map.1 ha
    have := (List.mem_filter.1 (hr b hb)).2
    rw [updZ_name]
    intro e
    have h2 := (getZ_iff hz y.2 y.1).2 hy
    rw [← e, h2] at this
    cases this
end Go.V
