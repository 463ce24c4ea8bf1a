/- slices.SortFunc of members, by the shelf's contract. -/
import Derived.Test.YtdnhagiokdnopaaVZPlain
import Derived.Test.YtdnhagiokdnopaaVRows
import Derived.Test.YtdnhagiokdnopaaVShelf
import Derived.Sort.OwnSorted
namespace Go.V
open Go.Sort
theorem flatK_eq {α : Type} [Inhabited α] (e : Enc α) (xs : List α) : (flatK e.enc e.sz xs.toArray).toList = xs.flatMap e.enc := by
  have hp := e.pos
  apply List.ext_getElem?
  intro t
  by_cases ht : t < xs.length * e.sz
  · have hd : t / e.sz < xs.length := (Nat.div_lt_iff_lt_mul hp).2 ht
    have hm : t % e.sz < e.sz := Nat.mod_lt _ hp
    obtain ⟨x, hx⟩ := get_some hd
    have hk : t % e.sz < (e.enc x).length := by rw [e.len]; exact hm
    obtain ⟨v, hv⟩ := get_some hk
    have h1 := flat_get e xs (t / e.sz) (t % e.sz) x v hx hv
    rw [show t / e.sz * e.sz + t % e.sz = t from by rw [Nat.mul_comm]; exact Nat.div_add_mod t e.sz] at h1
    rw [h1]
    have hx' : xs.toArray[t / e.sz]! = x := by
      rw [List.getElem!_toArray]; rw [List.getElem!_eq_getElem?_getD]; rw [hx]; rfl
    have hv' : (e.enc x)[t % e.sz]! = v := by
      rw [List.getElem!_eq_getElem?_getD]; rw [hv]; rfl
    simp only [flatK, Array.toList_map, List.getElem?_map, Array.toList_range, List.size_toArray]
    rw [List.getElem?_range ht]
    simp only [Option.map_some, hx', hv']
  · rw [List.getElem?_eq_none (by simp only [flatK]; simp; omega), List.getElem?_eq_none (by rw [flat_len]; omega)]
theorem holdsK_of_block {α : Type} [Inhabited α] {e : Enc α} {w : World} {g : Nat} {cur : List Value} {T : TypeId} {xs : List α} (hb : Blk w.heap g T cur) (ht : cur.take (xs.length * e.sz) = xs.flatMap e.enc) : HoldsK e.enc e.sz w g 0 xs.toArray := by
  intro j hj
  have hj' : j < xs.length * e.sz := by simpa using hj
  unfold Blk at hb
  refine ⟨?_, by simp [World.frozen?, hb]⟩
  have h1 : (cur.take (xs.length * e.sz))[j]? = (flatK e.enc e.sz xs.toArray).toList[j]? := by rw [ht, flatK_eq]
  rw [List.getElem?_take_of_lt hj'] at h1
  simp only [World.cell?, hb, Nat.zero_add]
  simp only [Option.isSome_none, Bool.false_eq_true, if_false, id]
  rw [List.getElem?_toArray, h1, Array.getElem?_toList]
  rw [Array.getElem?_eq_getElem hj, getElem!_pos _ j hj]
theorem heap_sortedK {w : World} {g n : Nat} {os : Array Obj} {cur : List Value} {T : TypeId} (F : Array Value) (hb : Blk w.heap g T cur) :
    Blk (grow (putRow id (Sort.ahead w n) g 0 F) os).heap g T (putCells id 0 F cur.toArray).toList := by
  have hg := hb.lt
  unfold Blk at *
  rw [heap_grow_old _ _ (by simpa using hg)]
  simp [putRow, mapBlock, Sort.ahead, Array.getElem?_modify, hb, onCells]
theorem grownBy_sortedK {w : World} {g n : Nat} {os : Array Obj} (F : Array Value) : w.grownBy (grow (putRow id (Sort.ahead w n) g 0 F) os) (some g) := by
  refine ⟨rfl, rfl, rfl, by simp, fun k hk hne => ?_⟩
  rw [heap_grow_old _ _ (by simpa using hk)]
  have : g ≠ k := fun e => hne (by rw [e])
  simp [putRow, mapBlock, Sort.ahead, Array.getElem?_modify, this]
theorem take_putCellsK (cur : List Value) (F : Array Value) (h : F.size ≤ cur.length) : (putCells id 0 F cur.toArray).toList.take F.size = F.toList := by
  apply List.ext_getElem?
  intro j
  by_cases hj : j < F.size
  · rw [List.getElem?_take_of_lt hj, Array.getElem?_toList, Array.getElem?_toList]
    simp [putCells, hj, show j < cur.length by omega]
  · rw [List.getElem?_take_eq_none (by omega), List.getElem?_eq_none (by simp; omega)]
theorem len_putCellsK (cur : List Value) (F : Array Value) : (putCells id 0 F cur.toArray).toList.length = cur.length := by
  simp [putCells]
end Go.V
namespace Go.Proofs.Ytdnhagiokdnopaa
open Go.V Go.Sort
theorem swoM : SWO (ltOf cmpM) where
  irrefl x := by
    unfold ltOf
    exact decide_eq_false (fun e => before_irrefl x ((cmpM_neg x x).1 e))
  trans x y z h1 h2 := by
    unfold ltOf at *
    exact decide_eq_true ((cmpM_neg x z).2 (before_trans ((cmpM_neg x y).1 (of_decide_eq_true h1)) ((cmpM_neg y z).1 (of_decide_eq_true h2))))
  ntrans x y z h1 h2 := by
    unfold ltOf at *
    refine decide_eq_false (fun e => ?_)
    have e := (cmpM_neg x z).1 e
    have n1 : ¬ before x y := fun h => of_decide_eq_false h1 ((cmpM_neg x y).2 h)
    have n2 : ¬ before y z := fun h => of_decide_eq_false h2 ((cmpM_neg y z).2 h)
    by_cases hxy : x = y
    · subst hxy; exact n2 e
    · have tot : ∀ a b : Mem, a ≠ b → ¬ before a b → before b a := by
        intro a b hab hn
        by_cases hs : a.2 = b.2
        · unfold before at *
          rcases Int.lt_trichotomy a.1 b.1 with h | h | h
          · exact absurd (.inl h) hn
          · exact absurd (Prod.ext h hs) hab
          · exact .inl h
        · exact before_total hs hn
      exact n2 (before_trans (tot x y hxy n1) e)
theorem lays_cmp (blk off size : Nat) (w : World) : CmpLays Try.prog 25 #[] eMem.enc 2 cmpM blk off size w := by
  intro m os dk _ x y
  refine (zset_compare (x := x) (y := y) (w := sortWorldK eMem.enc 2 w blk off m dk os)).calls.mono ?_
  rintro e w' ⟨v, rfl, rfl, _, q, os', h⟩
  exact ⟨rfl, q, os', h⟩
theorem sort_mems {p : Option Addr} {c B : Nat} {xs : List Mem} {w : World} (ho : Own w B 34 eMem p c xs) (hp : p ≠ none) (hl : xs.length ≤ 1000000) :
    Ctr Try.prog 24 [.slice p xs.length c, .func (.func 25) #[] #[]] w (fun v w' => v = .tuple #[] ∧ ∃ ys, Own w' B 34 eMem p c ys ∧ ys.length = xs.length ∧ (∀ z, z ∈ ys ↔ z ∈ xs) ∧ ys.Perm xs ∧ ys.Pairwise (fun a b => ¬ before b a) ∧ w.grownBy w' (blk p)) := by
  unfold Ctr
  refine ⟨⟨Try.f24, Try.func24, by decide, rfl⟩, ?_⟩
  obtain ⟨gb, cur, rfl, hb, hB, hlen, hcm, hnc, htk⟩ := ho.toBlk hp
  have hgl := hB.lt
  have hH := holdsK_of_block hB htk
  have hent : V.Enters Try.prog 25 := by
    have h := zset_compare (x := (0, ⟨#[]⟩)) (y := (0, ⟨#[]⟩)) (w := w)
    unfold Ctr at h
    exact h.1
  have hcon := AnyQ.slices_SortFunc Try.laySF 2 T.a34.1 (fun w => run_sizeOf_T T.s24 w) eMem.enc (fun _ => rfl) eMem.one cmpM swoM 25 #[] gb 0 c xs.toArray w (fun args w => run_callFunc hent args w) (lays_cmp gb 0 _ w) hH hgl (by simp; omega)
  rw [List.size_toArray] at hcon
  refine Calls.mono hcon fun e w' ⟨he, d', n, os, hpm, hst, hw⟩ => ?_
  subst hw
  obtain ⟨hps, _, hpp⟩ := hpm
  have hsz : d'.size = xs.length := by rw [hps]; simp
  have hperm : d'.toList.Perm xs := by
    have e1 : (d'.extract 0 xs.length) = d' := by rw [← hsz]; simp
    have e2 : (xs.toArray.extract 0 xs.length) = xs.toArray := by
      have : xs.length = xs.toArray.size := by simp
      rw [this]; simp
    rw [e1, e2] at hpp
    simpa using hpp
  refine ⟨_, he, rfl, d'.toList, ?_, by simp [hsz], fun z => hperm.mem_iff, hperm, ?_, grownBy_sortedK _⟩
  · have hF : (flatK eMem.enc 2 d').toList = d'.toList.flatMap eMem.enc := by
      have := flatK_eq eMem d'.toList
      exact this
    have hFs : (flatK eMem.enc 2 d').size = d'.toList.length * eMem.sz := by simp; rfl
    have hlc : d'.toList.length = xs.length := by simp [hsz]
    refine Own.ofBlk hb (heap_sortedK (flatK eMem.enc 2 d') hB) (by rw [len_putCellsK]; exact hlen) hcm (by rw [hlc]; exact hnc) ?_
    rw [← hFs, take_putCellsK _ _ ?_]
    · exact hF
    · rw [hFs, hlen, hlc]; exact Nat.mul_le_mul_right _ hnc
  · rw [List.pairwise_iff_getElem]
    intro i j hi hj hij hbf
    simp at hi hj
    have := hst i j (Nat.zero_le _) hij (by omega)
    rw [getElem!_pos d' i hi, getElem!_pos d' j hj] at this
    unfold ltOf at this
    exact of_decide_eq_false this ((cmpM_neg _ _).2 hbf)
end Go.Proofs.Ytdnhagiokdnopaa
