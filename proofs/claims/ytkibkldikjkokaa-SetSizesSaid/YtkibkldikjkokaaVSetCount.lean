/- Layer 12: sizes of unions and intersections, plainly. -/
import Derived.Test.YtkibkldikjkokaaVSetOps
namespace Go.V
theorem filter_two (s : List ByteArray) (p : ByteArray → Bool) : (s.filter p).length + (s.filter fun x => !p x).length = s.length := by
  induction s with
  | nil => rfl
  | cons x s ih =>
    cases h : p x
    · rw [List.filter_cons_of_neg (by simp [h]), List.filter_cons_of_pos (by simp [h])]; simp only [List.length_cons]; omega
    · rw [List.filter_cons_of_pos h, List.filter_cons_of_neg (by simp [h])]; simp only [List.length_cons]; omega
theorem insS_length : ∀ {l : List ByteArray} {x : ByteArray}, SortedS l → (insS l x).length = l.length + (if hasS l x = true then 0 else 1)
  | [], x, _ => by simp [insS, hasS]
  | y :: l, x, h => by
    have ⟨h1, h2⟩ := List.pairwise_cons.1 h
    have ih := insS_length (x := x) h2
    have hc : hasS (y :: l) x = (decide (y = x) || hasS l x) := rfl
    simp only [insS, hc]
    split
    · rename_i hb
      have hne : ¬ y = x := blt_ne hb
      simp only [hne, decide_false, Bool.false_or, List.length_cons, ih]; omega
    · rename_i hb
      split
      · rename_i e; simp [e]
      · rename_i e
        have hlt : blt x y = true := by
          rcases blt_total x y with h3 | h3 | h3
          · exact h3
          · exact absurd h3.symm e
          · exact absurd h3 hb
        have : hasS l x = false := hasS_false.2 (fun hx => by have := blt_trans hlt (h1 x hx); rw [blt_irrefl] at this; cases this)
        simp [e, this]
theorem addsS_self {s : List ByteArray} (h : SortedS s) : addsS [] s = s := (addsS_eq sortedS_nil h (fun z => by simp)).symm
theorem addsS_count : ∀ {t : List ByteArray} {s : List ByteArray}, SortedS s → SortedS t → (addsS s t).length = s.length + (t.filter fun x => !hasS s x).length
  | [], s, _, _ => by simp [addsS]
  | x :: t, s, hs, ht => by
    have ⟨h1, h2⟩ := List.pairwise_cons.1 ht
    have ih := addsS_count (s := insS s x) (insS_sorted hs) h2
    have e : addsS s (x :: t) = addsS (insS s x) t := rfl
    have e2 : t.filter (fun y => !hasS (insS s x) y) = t.filter (fun y => !hasS s y) := by
      apply List.filter_congr
      intro y hy
      rw [hasS_congr (l := insS s x) (m := s)]
      rw [insS_mem]
      constructor
      · rintro (h | h)
        · have := h1 y hy; rw [h, blt_irrefl] at this; cases this
        · exact h
      · exact .inr
    rw [e, ih, e2, insS_length hs]
    cases hh : hasS s x
    · rw [List.filter_cons_of_pos (by simp [hh])]; simp; omega
    · rw [List.filter_cons_of_neg (by simp [hh])]; simp
theorem interS_one (s t : List ByteArray) : interS s [t] = s.filter (fun x => hasS t x) := by
  unfold interS
  apply List.filter_congr
  intro x _
  simp
theorem diffS_one (s t : List ByteArray) : diffS s [t] = s.filter (fun x => !hasS t x) := by
  unfold diffS
  apply List.filter_congr
  intro x _
  simp
theorem inter_comm {s t : List ByteArray} (hs : SortedS s) (ht : SortedS t) : interS s [t] = interS t [s] := by
  rw [interS_one, interS_one]
  refine sorted_ext (hs.filter _) (ht.filter _) (fun z => ?_)
  simp only [List.mem_filter, hasS_iff]
  exact ⟨fun h => ⟨h.2, h.1⟩, fun h => ⟨h.2, h.1⟩⟩
theorem union_two {s t : List ByteArray} (hs : SortedS s) : addsS [] [s, t].flatten = addsS s t := by
  simp only [List.flatten_cons, List.flatten_nil, List.append_nil]
  rw [addsS_app, addsS_self hs]
theorem union_comm {s t : List ByteArray} (hs : SortedS s) (ht : SortedS t) : addsS s t = addsS t s :=
  sorted_ext (addsS_sorted hs) (addsS_sorted ht) (fun z => by rw [addsS_mem, addsS_mem]; exact or_comm)
theorem union_count {s t : List ByteArray} (hs : SortedS s) (ht : SortedS t) : (addsS s t).length + (interS s [t]).length = s.length + t.length := by
  rw [addsS_count hs ht, inter_comm hs ht, interS_one]
  have := filter_two t (fun x => hasS s x)
  omega
theorem parts_union {s t : List ByteArray} (hs : SortedS s) : addsS [] [interS s [t], diffS s [t]].flatten = s := by
  refine (addsS_eq sortedS_nil hs (fun z => ?_)).symm
  simp only [List.flatten_cons, List.flatten_nil, List.append_nil, List.mem_append, interS_one, diffS_one, List.mem_filter, List.not_mem_nil, false_or]
  constructor
  · intro h
    cases hh : hasS t z
    · exact .inr ⟨h, by simp⟩
    · exact .inl ⟨h, rfl⟩
  · rintro (h | h) <;> exact h.1
theorem parts_apart {s t : List ByteArray} : interS (interS s [t]) [diffS s [t]] = [] := by
  rw [interS_one, interS_one, diffS_one, List.filter_eq_nil_iff]
  intro z hz h
  rw [hasS_iff, List.mem_filter] at h
  have := (List.mem_filter.1 hz).2
  rw [this] at h
  simp at h
end Go.V
