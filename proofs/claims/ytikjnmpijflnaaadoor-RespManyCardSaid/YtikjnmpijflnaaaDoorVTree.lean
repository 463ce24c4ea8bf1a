/- Regions in which several operations with an effect may come up at once: one walk for each order of these. -/
import Derived.Test.YtikjnmpijflnaaaDoorVMem4
namespace Go.V
open Go.RowKit

inductive Tr where
  | leaf (c : List Nat)
  | node (c : List Nat) (b : Tr)
  | alt (i : Nat) (t r : Tr)
  | stop

def okp (ops : Array Oper) (ef rd wr : Oper → Bool) : List Nat → Array Bool → Bool
  | [], _ => true
  | i :: c, listed =>
    (if ef (ops.getD i default) then Region.ready .any ops listed == [i] else (Region.ready .any ops listed).contains i && freeX ops rd wr listed i) && okp ops ef rd wr c (listed.setIfInBounds i true)

def afterL : List Nat → Array Bool → Array Bool
  | [], l => l
  | i :: c, l => afterL c (l.setIfInBounds i true)

def Tr.seq : Tr → Bool
  | .leaf _ => true
  | .node _ _ => true
  | _ => false

def okT (ops : Array Oper) (ef rd wr : Oper → Bool) : Tr → Nat → List Nat → Array Bool → Bool
  | .leaf c, f, _, listed => Nat.beq c.length f && okc ops ef rd wr c listed
  | .node c b, f, _, listed => Nat.blt c.length f && okp ops ef rd wr c listed && !b.seq && !(Region.ready .any ops (afterL c listed)).isEmpty && okT ops ef rd wr b (f - c.length) (Region.ready .any ops (afterL c listed)) (afterL c listed)
  | .alt _ _ _, _, [], _ => false
  | .alt i t r, f, i' :: rem, listed => Nat.blt 0 f && Nat.beq i i' && Nat.blt i ops.size && t.seq && !r.seq && okT ops ef rd wr t (f - 1) [] (listed.setIfInBounds i true) && okT ops ef rd wr r f rem listed
  | .stop, _, rem, _ => rem.isEmpty

section
variable {P : Program} {S : List Nat} {ops : Array Oper} {ef rd wr : Oper → Bool}

def GAT (P : Program) (S : List Nat) (ops : Array Oper) (ef rd wr : Oper → Bool) (K : Act → World → Prop) : Tr → Act → World → Prop
  | .leaf c, a, w => GA P S ops ef rd wr K (c.map fun i => ops.getD i default) a w
  | .node c b, a, w => GA P S ops ef rd wr (fun a w => GAT P S ops ef rd wr K b a w) (c.map fun i => ops.getD i default) a w
  | .alt i t r, a, w => GA P S ops ef rd wr (fun a w => GAT P S ops ef rd wr K t a w) [ops.getD i default] a w ∧ GAT P S ops ef rd wr K r a w
  | .stop, _, _ => True

theorem GA_mono {K K' : Act → World → Prop} (hK : ∀ a w, K a w → K' a w) : ∀ (l : List Oper) (a : Act) (w : World), GA P S ops ef rd wr K l a w → GA P S ops ef rd wr K' l a w
  | [], a, w, h => hK a w h
  | o :: l, a, w, h => by
    simp only [GA] at h ⊢
    rcases h with ⟨v, hy, h⟩ | ⟨he, hw, h⟩
    · exact .inl ⟨v, hy, GA_mono hK l _ _ h⟩
    · exact .inr ⟨he, hw, stepX_mono (fun a w h => GA_mono hK l a w h) h⟩

theorem GA_pre {K K1 : Act → World → Prop} (hs : Region.noSelect ops = true) (g : Nat) :
    ∀ (c : List Nat) (listed : Array Bool) (a : Act) (w : World), okp ops ef rd wr c listed = true → (∀ a w, K1 a w → wpX P S ops wr K g (afterL c listed) a w) →
      GA P S ops ef rd wr K1 (c.map fun i => ops.getD i default) a w → wpX P S ops wr K (c.length + g) listed a w
  | [], listed, a, w, _, hK, h => by simpa [afterL] using hK a w h
  | i :: c, listed, a, w, hc, hK, h => by
    have hf : (i :: c).length + g = (c.length + g) + 1 := by simp; omega
    rw [hf]
    simp only [okp, Bool.and_eq_true] at hc
    obtain ⟨h0, hc⟩ := hc
    have hmem : i ∈ Region.ready .any ops listed := by
      by_cases he : ef (ops.getD i default) = true
      · simp only [he, if_true, beq_iff_eq] at h0; rw [h0]; simp
      · simp only [he] at h0; simp at h0; exact h0.1
    obtain ⟨_, o, ho, _⟩ := mem_ready.1 hmem
    have hget : ops.getD i default = o := by
      have := Array.getElem?_eq_some_iff.1 ho
      simp [Array.getD, this.1, this.2]
    simp only [List.map_cons] at h
    rw [hget] at h h0
    simp only [GA] at h
    have ih := fun a w h => GA_pre hs g c (listed.setIfInBounds i true) a w hc hK h
    have alone : ef o = true → ∀ K', opX P S ops wr i K' a w → (∀ a w, K' a w → wpX P S ops wr K (c.length + g) (listed.setIfInBounds i true) a w) → wpX P S ops wr K ((c.length + g) + 1) listed a w := by
      intro he K' hop hK
      simp only [he, if_true, beq_iff_eq] at h0
      refine ⟨fun h => (by rw [h] at hmem; cases hmem), fun j hj => ?_⟩
      rw [h0] at hj
      obtain rfl : j = i := by simpa using hj
      exact opX_mono hK hop
    rcases h with ⟨v, hy, h⟩ | ⟨he, hw, h⟩
    · by_cases he : ef o = true
      · exact alone he (fun a w => GA P S ops ef rd wr K1 (c.map fun i => ops.getD i default) a w) (hy.opX ho h) ih
      · simp only [he] at h0
        simp only [Bool.false_eq_true, if_false, Bool.and_eq_true] at h0
        exact wpX_first ho (Region.noSelect_spec hs) _ listed a w (freeX_spec ho h0.2) hmem hy (ih _ _ h)
    · refine alone he _ ?_ ih
      unfold opX
      simp only [ho, hw, if_true]
      exact h

theorem GAT_sound {K : Act → World → Prop} (hs : Region.noSelect ops = true) : ∀ (T : Tr) (f : Nat) (rem : List Nat) (listed : Array Bool) (a : Act) (w : World), okT ops ef rd wr T f rem listed = true → GAT P S ops ef rd wr K T a w →
    (T.seq = true → wpX P S ops wr K f listed a w) ∧ (T.seq = false → ∀ i ∈ rem, opX P S ops wr i (wpX P S ops wr K (f - 1) (listed.setIfInBounds i true)) a w)
  | .leaf c, f, rem, listed, a, w, hc, h => by
    simp only [okT, Bool.and_eq_true] at hc
    have hl : c.length = f := by simpa using hc.1
    subst hl
    exact ⟨fun _ => GA_sound hs c listed a w hc.2 h, fun h => by simp [Tr.seq] at h⟩
  | .node c b, f, rem, listed, a, w, hc, h => by
    simp only [okT, Bool.and_eq_true] at hc
    obtain ⟨⟨⟨⟨h1, h2⟩, h3⟩, h4⟩, h5⟩ := hc
    refine ⟨fun _ => ?_, fun h => by simp [Tr.seq] at h⟩
    have hlt : c.length < f := by simpa using h1
    obtain ⟨g, rfl⟩ : ∃ g, f = c.length + (g + 1) := ⟨f - c.length - 1, by omega⟩
    have e : c.length + (g + 1) - c.length = g + 1 := by omega
    rw [e] at h5
    refine GA_pre hs (g + 1) c listed a w h2 (fun a w hb => ?_) h
    have hbs : b.seq = false := by simpa using h3
    have := (GAT_sound hs b (g + 1) _ _ a w h5 hb).2 hbs
    refine ⟨fun h0 => ?_, fun i hi => this i hi⟩
    rw [h0] at h4
    simp at h4
  | .alt i t r, f, [], listed, a, w, hc, h => by simp [okT] at hc
  | .alt i t r, f, i' :: rem, listed, a, w, hc, h => by
    simp only [okT, Bool.and_eq_true] at hc
    obtain ⟨⟨⟨⟨⟨⟨h1, h2⟩, h3⟩, h4⟩, h5⟩, h6⟩, h7⟩ := hc
    have hii : i = i' := by simpa using h2
    subst hii
    refine ⟨fun h => by simp [Tr.seq] at h, fun _ m hm => ?_⟩
    obtain ⟨ha, hb⟩ := h
    rcases List.mem_cons.1 hm with rfl | hm
    · have hlt : m < ops.size := by simpa using h3
      have ho : ops[m]? = some (ops.getD m default) := by simp [hlt]
      have ih := fun a w h => (GAT_sound (K := K) hs t (f - 1) [] (listed.setIfInBounds m true) a w h6 h).1 h4
      simp only [GA] at ha
      rcases ha with ⟨v, hy, h⟩ | ⟨he, hw, h⟩
      · exact hy.opX ho (ih _ _ h)
      · unfold opX
        simp only [ho, hw, if_true]
        exact stepX_mono (fun a w h => ih a w h) h
    · exact (GAT_sound hs r f rem listed a w h7 hb).2 (by simpa using h5) m hm
  | .stop, f, rem, listed, a, w, hc, h => by
    refine ⟨fun h => by simp [Tr.seq] at h, fun _ m hm => ?_⟩
    simp [okT] at hc
    subst hc
    cases hm
end

section
variable {P : Program} {n : Nat} {ops : Array Oper} {dr : Nat × List Nat} {E : Env} {w : World} {K : Env → World → Prop} {Q : Exit → Act → World → Prop}

def GT (P : Program) (n : Nat) (ops : Array Oper) (dr : Nat × List Nat) : Tr → Env → World → (Env → World → Prop) → Prop
  | .leaf c, E, w, K => G P n ops dr (c.map fun i => ops.getD i default) E w K
  | .node c b, E, w, K => G P n ops dr (c.map fun i => ops.getD i default) E w (fun E w => GT P n ops dr b E w K)
  | .alt i t r, E, w, K => G P n ops dr [ops.getD i default] E w (fun E w => GT P n ops dr t E w K) ∧ GT P n ops dr r E w K
  | .stop, _, _, _ => True

theorem GT_leaf {c : List Nat} (h : G P n ops dr (c.map fun i => ops.getD i default) E w K) : GT P n ops dr (.leaf c) E w K := h
theorem GT_node {c : List Nat} {b : Tr} (h : G P n ops dr (c.map fun i => ops.getD i default) E w (fun E w => GT P n ops dr b E w K)) : GT P n ops dr (.node c b) E w K := h
theorem GT_alt {i : Nat} {t r : Tr} (h1 : G P n ops dr [ops.getD i default] E w (fun E w => GT P n ops dr t E w K)) (h2 : GT P n ops dr r E w K) : GT P n ops dr (.alt i t r) E w K := ⟨h1, h2⟩
theorem GT_stop : GT P n ops dr .stop E w K := trivial

theorem GT_GAT : ∀ (T : Tr) (E : Env) (w : World), GT P n ops dr T E w K → ∀ a, Holds n E a → GAT P dr.2 ops (effects P dr.1) (readsM P) (writes dr.1) (fun a' w' => ∃ E', Holds n E' a' ∧ K E' w') T a w
  | .leaf c, E, w, h, a, ha => by
    simp only [GT] at h
    unfold G at h
    exact h a ha
  | .node c b, E, w, h, a, ha => by
    simp only [GT] at h
    unfold G at h
    exact GA_mono (fun a w ⟨E', h1, h2⟩ => GT_GAT b E' w h2 a h1) _ _ _ (h a ha)
  | .alt i t r, E, w, h, a, ha => by
    obtain ⟨h1, h2⟩ := h
    unfold G at h1
    exact ⟨GA_mono (fun a w ⟨E', h1, h2⟩ => GT_GAT t E' w h2 a h1) _ _ _ (h1 a ha), GT_GAT r E w h2 a ha⟩
  | .stop, E, w, h, a, ha => trivial

theorem W_drawnT {id : Nat} {l : List Oper} (k : Nat) (S : List Nat) (T : Tr) (hm : P.follows .mixedOrders = true)
    (hc : (Region.noSelect l.toArray && okT l.toArray (effects P k) (readsM P) (writes k) T l.length [] (Array.replicate l.length false) && T.seq) = true)
    (h : GT P n l.toArray (k, S) T E w.drew (Post n Q .normal)) : W P n (.region id l.toArray true) Q E w := by
  unfold W
  intro a ha
  simp only [Bool.and_eq_true] at hc
  refine wp_region_any hm (wpAny_of_wpX (S := S) (wr := writes k) (K := fun a' w' => ∃ E', Holds n E' a' ∧ Post n Q .normal E' w') (fun a _ ⟨_, hE, hp⟩ => by unfold Post at hp; exact hp a hE) _ _ _ _ ?_)
  have := (GAT_sound (P := P) (S := S) hc.1.1 T l.length [] (Array.replicate l.length false) a { w with drawn := w.drawn + 1 } hc.1.2 (GT_GAT T E w.drew h a ha)).1 hc.2
  simpa using this
end
attribute [irreducible] GT
end Go.V
