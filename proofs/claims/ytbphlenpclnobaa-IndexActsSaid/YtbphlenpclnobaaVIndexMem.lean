/- The index in memory: chains, entries, blocks; what a change leaves. -/
import Derived.Test.YtbphlenpclnobaaVTypes
import Derived.Test.YtbphlenpclnobaaVRows
import Derived.Test.YtbphlenpclnobaaVVers
namespace Go.V
structure Ent where
  key : ByteArray
  p : Option Addr
  c : Nat
  vs : List Ver
def eEnt : Enc Ent := ⟨2, fun e => [.string e.key, .slice e.p e.vs.length e.c], fun _ => rfl, fun _ v hv => by simp at hv; rcases hv with rfl | rfl <;> rfl, by decide⟩
structure Blok where
  p : Option Addr
  c : Nat
  es : List Ent
def eBlok : Enc Blok := ⟨1, fun b => [.slice b.p b.es.length b.c], fun _ => rfl, fun _ v hv => by simp at hv; rw [hv]; rfl, by decide⟩
end Go.V
namespace Go.Proofs.Ytbphlenpclnobaa
open Go.V
attribute [local irreducible] Blk Own hcell IntT SliceT PlainT AggT SizeT StrT FieldT ZeroT EqT ArrT
def ixT (T : Nat) : Prop := T = 67 ∨ T = 73 ∨ T = 72
/-- a block of the index's own types -/
def IxB (w : World) (k : Nat) : Prop := ∃ cs T fr, w.heap[k]? = some (.cells cs T fr) ∧ ixT T
/-- a block of cells that is none of these -/
def NoB (w : World) (k : Nat) : Prop := ∃ cs T fr, w.heap[k]? = some (.cells cs T fr) ∧ ¬ ixT T
theorem NoB.not {w : World} {k : Nat} (h : NoB w k) : ¬ IxB w k := by
  rintro ⟨cs, T, fr, h1, h2⟩
  obtain ⟨cs', T', fr', h3, h4⟩ := h
  rw [h1] at h3
  injection h3 with h3
  injection h3 with _ h3
  exact h4 (h3 ▸ h2)
theorem NoB.lt {w : World} {k : Nat} (h : NoB w k) : k < w.heap.size := by
  obtain ⟨cs', T', fr', h3, h4⟩ := h
  exact (Array.getElem?_eq_some_iff.1 h3).1
theorem NoB.same {w w' : World} {k : Nat} (h : NoB w k) (e : w'.heap[k]? = w.heap[k]?) : NoB w' k := by
  obtain ⟨cs', T', fr', h3, h4⟩ := h
  exact ⟨cs', T', fr', by rw [e]; exact h3, h4⟩
/-- blocks outside G stay -/
structure Chg (G : Nat → Prop) (w w' : World) : Prop where
  os : w'.os = w.os
  tape : w'.tape = w.tape
  output : w'.output = w.output
  size : w.heap.size ≤ w'.heap.size
  block : ∀ k, k < w.heap.size → ¬ G k → w'.heap[k]? = w.heap[k]?
theorem Chg.ext {G : Nat → Prop} {w w' : World} (h : Ext w w') : Chg G w w' := ⟨h.os, h.tape, h.output, h.size, fun k hk _ => h.block k hk⟩
theorem Chg.grown {G : Nat → Prop} {w w' : World} {row : Option Nat} (h : w.grownBy w' row) (hG : ∀ k, row = some k → G k) : Chg G w w' := ⟨h.os, h.tape, h.output, h.size, fun k hk hn => h.block k hk (fun e => hn (hG k e.symm))⟩
theorem Chg.mono {G G' : Nat → Prop} {w w' : World} (h : Chg G w w') (hG : ∀ k, k < w.heap.size → G k → G' k) : Chg G' w w' := ⟨h.os, h.tape, h.output, h.size, fun k hk hn => h.block k hk (fun e => hn (hG k hk e))⟩
theorem Chg.trans {G G' : Nat → Prop} {w w1 w2 : World} (h : Chg G w w1) (h' : Chg G' w1 w2) (hG : ∀ k, k < w.heap.size → ¬ G k → ¬ G' k) : Chg G w w2 :=
  ⟨h'.os.trans h.os, h'.tape.trans h.tape, h'.output.trans h.output, Nat.le_trans h.size h'.size, fun k hk hn => (h'.block k (Nat.lt_of_lt_of_le hk h.size) (hG k hk hn)).trans (h.block k hk hn)⟩
/-- what changes is new: what was there stays -/
theorem Chg.toExt {G : Nat → Prop} {w0 w w' : World} (h0 : Ext w0 w) (h : Chg G w w') (hG : ∀ k, G k → k < w0.heap.size → False) : Ext w0 w' :=
  ⟨h.os.trans h0.os, h.tape.trans h0.tape, h.output.trans h0.output, Nat.le_trans h0.size h.size, fun k hk => (h.block k (Nat.lt_of_lt_of_le hk h0.size) (fun e => hG k e hk)).trans (h0.block k hk)⟩
/-- only blocks of the index's types change -/
abbrev ChgT (ix : Nat) (w w' : World) : Prop := Chg (fun k => ix ≤ k ∧ IxB w k) w w'
theorem ChgT.trans {ix : Nat} {w w1 w2 : World} (h : ChgT ix w w1) (h' : ChgT ix w1 w2) : ChgT ix w w2 :=
  Chg.trans h h' fun k hk hn hb => by
    obtain ⟨hb0, cs, T, fr, h1, h2⟩ := hb
    rw [h.block k hk hn] at h1
    exact hn ⟨hb0, cs, T, fr, h1, h2⟩
theorem ChgT.low {ix : Nat} {w0 w w' : World} (h0 : Ext w0 w) (h : ChgT ix w w') (hi : w0.heap.size ≤ ix) : Ext w0 w' := Chg.toExt h0 h (fun k hk hlt => by have := hk.1; omega)
theorem ChgT.toS {ix : Nat} {w w' : World} (h : ChgT ix w w') : ExtS [ix, ix] w w' := ⟨h.os, h.tape, h.output, h.size, fun k hk hS => h.block k hk (fun hb => by have h1 : Nat.ble ix k = true := Nat.ble_eq_true_of_le hb.1; simp [exempt, h1] at hS)⟩
section
variable {α : Type} {e : Enc α} {w w' : World} {G : Nat → Prop} {B T : Nat} {p : Option Addr} {c : Nat} {xs : List α}
theorem Own.chg (h : Go.V.Own w B T e p c xs) (hc : Chg G w w') (hn : ∀ k, blk p = some k → ¬ G k) : Go.V.Own w' B T e p c xs := by
  unfold Go.V.Own at h ⊢
  obtain ⟨h1, h2⟩ := h
  refine ⟨h1, ?_⟩
  rcases h2 with h2 | ⟨g, cap, cur, h3, h4, h5, h6⟩
  · exact .inl h2
  · refine .inr ⟨g, cap, cur, h3, h4, ?_, h6⟩
    rw [hc.block g (Array.getElem?_eq_some_iff.1 h5).1 (hn g (by injection h3 with e1 _ _; rw [e1]; rfl))]
    exact h5
theorem Own.noB (h : Go.V.Own w B T e p c xs) (hT : ¬ ixT T) {k : Nat} (hk : blk p = some k) : NoB w k := by
  obtain ⟨cur, h1⟩ := Go.V.Own.at h hk
  exact ⟨cur, T, _, h1, hT⟩
theorem Own.ixB (h : Go.V.Own w B T e p c xs) (hT : ixT T) {k : Nat} (hk : blk p = some k) : IxB w k := by
  obtain ⟨cur, h1⟩ := Go.V.Own.at h hk
  exact ⟨cur, T, _, h1, hT⟩
theorem Own.chgT {ix : Nat} (h : Go.V.Own w B T e p c xs) (hc : ChgT ix w w') (hT : ¬ ixT T) : Go.V.Own w' B T e p c xs := Own.chg h hc fun _ hk hb => (Own.noB h hT hk).not hb.2
theorem Blk.chg {b t : Nat} {cs : List Value} (h : Blk w.heap b t cs) (hc : Chg G w w') (hn : ¬ G b) : Blk w'.heap b t cs := by
  have := hc.block b h.lt hn
  unfold Blk at *
  rw [this]; exact h
theorem Blk.noB {b t : Nat} {cs : List Value} (h : Blk w.heap b t cs) (hT : ¬ ixT t) : NoB w b := ⟨_, t, _, (by unfold Blk at h; exact h), hT⟩
theorem Blk.ixB {b t : Nat} {cs : List Value} (h : Blk w.heap b t cs) (hT : ixT t) : IxB w b := ⟨_, t, _, (by unfold Blk at h; exact h), hT⟩
theorem Sl.chg (h : Sl w.heap e p c xs) (hc : Chg G w w') (hn : ∀ a, p = some a → xs ≠ [] → ¬ G a.block) : Sl w'.heap e p c xs := by
  refine ⟨h.ok, fun i x hi k v hv => ?_⟩
  have h1 := h.cell i x hi k v hv
  have hx : xs ≠ [] := by rintro rfl; simp at hi
  have hlt := hcell_lt h1
  obtain ⟨a, ha⟩ : ∃ a, p = some a := by
    cases p with
    | none => exact absurd (h.ok.nul rfl) (by have := h.ok.le; have := get_lt hi; omega)
    | some a => exact ⟨a, rfl⟩
  rw [hcell_block (hc.block _ hlt (by rw [adr_block p a _ ha]; exact hn a ha hx))]
  exact h1
end
/-- a value that lies in blocks of F -/
structure RvF (w : World) (F : Nat → Prop) (r : RawV) (v : Val) : Prop where
  kind : r.kind = v.kind
  text : r.text = v.text
  n1 : r.n1 = v.ps.length
  n2 : r.n2 = v.ts.length
  n3 : r.n3 = v.zs.length
  o1 : Go.V.Own w 0 101 ePair r.p1 r.c1 v.ps
  o2 : Go.V.Own w 0 9 eStr r.p2 r.c2 v.ts
  o3 : Go.V.Own w 0 105 eMem r.p3 r.c3 v.zs
  f : ∀ k, blk r.p1 = some k ∨ blk r.p2 = some k ∨ blk r.p3 = some k → F k
theorem RvF.at {w : World} {F : Nat → Prop} {r : RawV} {v : Val} (h : RvF w F r v) : Rv w.heap r v := ⟨h.kind, h.text, h.n1, h.n2, h.n3, h.o1.sl, h.o2.sl, h.o3.sl⟩
theorem RvF.chg {w w' : World} {F G : Nat → Prop} {r : RawV} {v : Val} (h : RvF w F r v) (hc : Chg G w w') (hn : ∀ k, F k → ¬ G k) : RvF w' F r v :=
  ⟨h.kind, h.text, h.n1, h.n2, h.n3, Own.chg h.o1 hc (fun k hk => hn k (h.f k (.inl hk))), Own.chg h.o2 hc (fun k hk => hn k (h.f k (.inr (.inl hk)))), Own.chg h.o3 hc (fun k hk => hn k (h.f k (.inr (.inr hk)))), h.f⟩
theorem RvF.mono {w : World} {F F' : Nat → Prop} {r : RawV} {v : Val} (h : RvF w F r v) (hF : ∀ k, F k → F' k) : RvF w F' r v := ⟨h.kind, h.text, h.n1, h.n2, h.n3, h.o1, h.o2, h.o3, fun k hk => hF k (h.f k hk)⟩
/-- a chain that lies in blocks of F -/
structure ChainF (w : World) (F : Nat → Prop) (p : Option Addr) (c : Nat) (rs : List RawVer) (vs : List Ver) : Prop where
  own : Go.V.Own w 0 50 eVer p c rs
  f : ∀ k, blk p = some k → F k
  len : rs.length = vs.length
  get : ∀ (i : Nat) r v, rs[i]? = some r → vs[i]? = some v → r.stamp = v.stamp ∧ r.gone = v.gone ∧ r.exp = v.exp ∧ RvF w F r.raw v.val
theorem ChainF.at {w : World} {F : Nat → Prop} {p : Option Addr} {c : Nat} {rs : List RawVer} {vs : List Ver} (h : ChainF w F p c rs vs) : ChainAt w.heap p c rs vs :=
  ⟨h.own.sl, h.len, fun i r v h1 h2 => by obtain ⟨a, b, d, e⟩ := h.get i r v h1 h2; exact ⟨a, b, d, e.at⟩⟩
theorem ChainF.chg {w w' : World} {F G : Nat → Prop} {p : Option Addr} {c : Nat} {rs : List RawVer} {vs : List Ver} (h : ChainF w F p c rs vs) (hc : Chg G w w') (hn : ∀ k, F k → ¬ G k) : ChainF w' F p c rs vs :=
  ⟨Own.chg h.own hc (fun k hk => hn k (h.f k hk)), h.f, h.len, fun i r v h1 h2 => by obtain ⟨a, b, d, e⟩ := h.get i r v h1 h2; exact ⟨a, b, d, e.chg hc hn⟩⟩
theorem ChainF.mono {w : World} {F F' : Nat → Prop} {p : Option Addr} {c : Nat} {rs : List RawVer} {vs : List Ver} (h : ChainF w F p c rs vs) (hF : ∀ k, F k → F' k) : ChainF w F' p c rs vs :=
  ⟨h.own, fun k hk => hF k (h.f k hk), h.len, fun i r v h1 h2 => by obtain ⟨a, b, d, e⟩ := h.get i r v h1 h2; exact ⟨a, b, d, e.mono hF⟩⟩
theorem ChainF.ext {w w' : World} {F : Nat → Prop} {p : Option Addr} {c : Nat} {rs : List RawVer} {vs : List Ver} (h : ChainF w F p c rs vs) (hx : Ext w w') : ChainF w' F p c rs vs := h.chg (G := fun _ => False) (Chg.ext hx) (fun _ _ h => h)
/-- the index: its box, its blocks, their entries; the chains lie in blocks of F -/
structure IxAt (w : World) (ix : Nat) (F : Nat → Prop) (pb : Option Addr) (cb : Nat) (bl : List Blok) : Prop where
  box : Blk w.heap ix 67 [.slice pb bl.length cb, .int .i64 ((bl.flatMap Blok.es).length : Int)]
  rows : Go.V.Own w 0 73 eBlok pb cb bl
  blok : ∀ b ∈ bl, Go.V.Own w 0 72 eEnt b.p b.c b.es ∧ b.es ≠ []
  apart : bl.Pairwise (fun a b => blk a.p ≠ blk b.p)
  ent : ∀ b ∈ bl, ∀ e ∈ b.es, ∃ rs, ChainF w F e.p e.c rs e.vs
  typ : ∀ k, F k → NoB w k
  low : ∀ k, blk pb = some k ∨ (∃ b ∈ bl, blk b.p = some k) → ix ≤ k
theorem IxAt.chg {w w' : World} {ix : Nat} {F G : Nat → Prop} {pb : Option Addr} {cb : Nat} {bl : List Blok} (h : IxAt w ix F pb cb bl) (hc : Chg G w w') (hn : ∀ k, F k → ¬ G k) (hi : ∀ k, IxB w k → ¬ G k) : IxAt w' ix F pb cb bl :=
  ⟨Blk.chg h.box hc (hi _ (Blk.ixB h.box (.inl rfl))), Own.chg h.rows hc (fun k hk => hi k (Own.ixB h.rows (.inr (.inl rfl)) hk)),
    fun b hb => ⟨Own.chg (h.blok b hb).1 hc (fun k hk => hi k (Own.ixB (h.blok b hb).1 (.inr (.inr rfl)) hk)), (h.blok b hb).2⟩, h.apart,
    fun b hb e he => by obtain ⟨rs, hr⟩ := h.ent b hb e he; exact ⟨rs, hr.chg hc hn⟩,
    fun k hk => (h.typ k hk).same (hc.block k (h.typ k hk).lt (hn k hk)), h.low⟩
theorem IxAt.ext {w w' : World} {ix : Nat} {F : Nat → Prop} {pb : Option Addr} {cb : Nat} {bl : List Blok} (h : IxAt w ix F pb cb bl) (hx : Ext w w') : IxAt w' ix F pb cb bl := h.chg (G := fun _ => False) (Chg.ext hx) (fun _ _ h => h) (fun _ _ h => h)
theorem IxAt.bk {w : World} {ix : Nat} {F : Nat → Prop} {pb : Option Addr} {cb : Nat} {bl : List Blok} (h : IxAt w ix F pb cb bl) {b : Blok} (hb : b ∈ bl) : ∃ k, b.p = bx k := by
  obtain ⟨h1, h2⟩ := h.blok b hb
  obtain ⟨gb, cur, e, _⟩ := Go.V.Own.toBlk h1 (Go.V.Own.some_of_pos h1 (List.length_pos_iff.2 h2))
  exact ⟨gb, e⟩
def small_vs (vs : List Ver) : Prop := vs.length ≤ 1000 ∧ ∀ v ∈ vs, v.val.ps.length ≤ 1000000 ∧ v.val.ts.length ≤ 1000000 ∧ v.val.zs.length ≤ 1000000
end Go.Proofs.Ytbphlenpclnobaa
